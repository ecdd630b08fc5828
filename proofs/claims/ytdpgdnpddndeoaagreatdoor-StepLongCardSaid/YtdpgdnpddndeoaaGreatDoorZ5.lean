/-
  The parser, walked by hand: step.
-/
import Derived.Deep.RegionLaw
import Derived.Test.YtdpgdnpddndeoaaGreatDoorZ4
namespace Go.Proofs.YtdpgdnpddndeoaaGreatDoor.X
open Go.RowKit Go.Maps Go.Proofs.YtdpgdnpddndeoaaGreatDoorW.PrintWords Go.Proofs.YtdpgdnpddndeoaaGreatDoorW.PrintMore Go.Proofs.YtdpgdnpddndeoaaGreatDoorW.PrintLast
structure Fly (w : World) (g : Nat) (W : World) (s : PS) : Prop where
 par : PAR W g s
 grown : w.grownBy W (some g)
 lt : g < w.heap.size
theorem Fly.start {w : World} {g : Nat} {s : PS} (h : PAR w g s) : Fly w g w s := ⟨h, World.grownBy.refl _ _, h.has.lt⟩
theorem Fly.call {w W W1 : World} {g : Nat} {s s1 : PS} (h : Fly w g W s) (hp : PAR W1 g s1) (hg : W.grownBy W1 (some g)) : Fly w g W1 s1 := ⟨hp, zcu h.grown hg, h.lt⟩
theorem Fly.below {w W W1 : World} {g : Nat} {s : PS} (h : Fly w g W s) (hb : Below W.heap.size W W1) : Fly w g W1 s := ⟨h.par.below hb, zcu h.grown (zbT hb _), h.lt⟩
theorem Fly.alloc {w W : World} {g : Nat} {s : PS} (h : Fly w g W s) (ob : Obj) : Fly w g (W.alloc ob) s := h.below ((Below.refl _ _).alloc (Nat.le_refl _) ob)
theorem Fly.set {w W : World} {g : Nat} {s : PS} (h : Fly w g W s) {S : Nat} (hS : w.heap.size <= S) {cs : Array Value} {t : Nat} (hb : W.heap[S]? = some (.cells cs t (0, 0))) (h1 : 169 ≠ t) (h2 : 139 ≠ t) (j : Nat) (u : Value) : Fly w g (W.setCell ⟨S, j, none⟩ u) s := by
 have hbel : Below w.heap.size W (W.setCell ⟨S, j, none⟩ u) := (Below.refl _ _).setCell hS u
 refine ⟨⟨h.par.has.set hb h1 h2 j u, ?_, h.par.good, h.par.len⟩, zen h.grown hbel, h.lt⟩
 obtain ⟨w0, h0, h3, hb0⟩ := h.par.gok
 exact ⟨w0, h0, h3, hb0.trans (hbel.mono (by have := h.lt; omega))⟩
theorem Fly.row {w W W1 : World} {g : Nat} {s : PS} (h : Fly w g W s) {e size n base : Nat} {v : Value} {xs : List Value} (ho : W.ownsRow base e size v n xs) (h1 : e ≠ 169) (h2 : e ≠ 139) (hbase : w.heap.size <= base) (hb : Below base W W1) (hg : W.grownBy W1 v.ownBlock) : Fly w g W1 s := by
 have hbel := hb.mono hbase
 refine ⟨⟨h.par.has.row ho h1 h2 hg, ?_, h.par.good, h.par.len⟩, zen h.grown hbel, h.lt⟩
 obtain ⟨w0, h0, h3, hb0⟩ := h.par.gok
 exact ⟨w0, h0, h3, hb0.trans (hbel.mono (by have := h.lt; omega))⟩
theorem Fly.keeps {w W W1 : World} {g : Nat} {s : PS} (h : Fly w g W s) {S : Nat} (hS : w.heap.size <= S) {o : Obj} (hb : W.heap[S]? = some o) (hg : W.grownBy W1 (some g)) : W1.heap[S]? = some o :=
 zaK hb hg (fun e => by injection e with e; have := h.lt; omega)
theorem ziJ (t : ByteArray) (w : World) : Calls Tryz.prog 115 #[.string t] w fun e w' => e = .returned (.int .i64 (opF t)) /\ Below w.heap.size w w' :=
 (ze7 t w).mono fun _ _ ⟨he, hw⟩ => ⟨he, by rw [hw]; exact (Below.refl _ _).alloc (Nat.le_refl _) _⟩
theorem zcG (W : World) (base : Nat) (l : List ByteArray) (hb : base <= W.heap.size) (hl : l.length <= 9223372036854775807) : RS (W.alloc (.cells (encs Value.string l).toArray 9)) base (.slice (some ⟨W.heap.size, 0, none⟩) l.length l.length) l :=
 Kd.R_of_own (h1 := fun _ => rfl) (zfr (enc := Value.string) W base 9 l hb hl) (fun _ _ => trivial)
abbrev set5 (w : World) (R : Nat) (v0 v1 v2 v3 v4 : Value) : World := ((((w.setCell ⟨R, 0, none⟩ v0).setCell ⟨R, 1, none⟩ v1).setCell ⟨R, 2, none⟩ v2).setCell ⟨R, 3, none⟩ v3).setCell ⟨R, 4, none⟩ v4
theorem zbA {w : World} {R t : Nat} {x0 x1 x2 x3 x4 : Value} (v0 v1 v2 v3 v4 : Value) (h : w.heap[R]? = some (.cells #[x0, x1, x2, x3, x4] t (0, 0))) : (set5 w R v0 v1 v2 v3 v4).heap[R]? = some (.cells #[v0, v1, v2, v3, v4] t (0, 0)) :=
 zap (zap (zap (zap (zap h 0 v0 rfl) 1 v1 rfl) 2 v2 rfl) 3 v3 rfl) 4 v4 rfl
theorem Fly.set5 {w W : World} {g : Nat} {s : PS} (h : Fly w g W s) {S : Nat} (hS : w.heap.size <= S) {t : Nat} {x0 x1 x2 x3 x4 : Value} (v0 v1 v2 v3 v4 : Value) (hb : W.heap[S]? = some (.cells #[x0, x1, x2, x3, x4] t (0, 0))) (h1 : 169 ≠ t) (h2 : 139 ≠ t) : Fly w g (set5 W S v0 v1 v2 v3 v4) s :=
 ((((h.set hS hb h1 h2 0 v0).set hS (zap hb 0 v0 rfl) h1 h2 1 v1).set hS (zap (zap hb 0 v0 rfl) 1 v1 rfl) h1 h2 2 v2).set hS (zap (zap (zap hb 0 v0 rfl) 1 v1 rfl) 2 v2 rfl) h1 h2 3 v3).set hS (zap (zap (zap (zap hb 0 v0 rfl) 1 v1 rfl) 2 v2 rfl) 3 v3 rfl) h1 h2 4 v4
theorem zco {α : Type} {d : Kd α} {e base : Nat} {v : Value} {xs : List α} {W : World} (h : d.R e W base (fun _ => True) v xs) {S t : Nat} {x0 x1 x2 x3 x4 : Value} (v0 v1 v2 v3 v4 : Value) (hb : W.heap[S]? = some (.cells #[x0, x1, x2, x3, x4] t (0, 0))) (ht : ∀ q, q ∈ e :: d.E -> q ≠ t) : d.R e (set5 W S v0 v1 v2 v3 v4) base (fun _ => True) v xs :=
 Kd.R_set (Kd.R_set (Kd.R_set (Kd.R_set (Kd.R_set h hb ht 0 v0) (zap hb 0 v0 rfl) ht 1 v1) (zap (zap hb 0 v0 rfl) 1 v1 rfl) ht 2 v2) (zap (zap (zap hb 0 v0 rfl) 1 v1 rfl) 2 v2 rfl) ht 3 v3) (zap (zap (zap (zap hb 0 v0 rfl) 1 v1 rfl) 2 v2 rfl) 3 v3 rfl) ht 4 v4
theorem RS.set5 {base : Nat} {v : Value} {xs : List ByteArray} {W : World} (h : RS W base v xs) {S t : Nat} {x0 x1 x2 x3 x4 : Value} (v0 v1 v2 v3 v4 : Value) (hb : W.heap[S]? = some (.cells #[x0, x1, x2, x3, x4] t (0, 0))) (ht : ∀ q, q ∈ [9] -> q ≠ t) : RS (set5 W S v0 v1 v2 v3 v4) base v xs := zco h v0 v1 v2 v3 v4 hb ht
theorem zgK {s : PS} (h : GoodW s.1) : (zaB s.1).f2.size <= 100000 := by
 obtain ⟨l, d⟩ := s
 match l, h.ne, h with
 | x :: r, _, h => exact (h.2 x (by simp)).2.2
theorem zlL {k : Int} {p : ByteArray -> Bool} {s : PS} (h : GoodW s.1) : (zaE k p s).1.size <= 100000 := by
 unfold zaE
 split
 . exact zgK h
 . show (0 : Nat) <= 100000
   omega
theorem num_f {t : ByteArray} (h : t.size <= 100000) : mint_GetNumber.f t 2000 = some (numV t, numB t) := by
 unfold mint_GetNumber.f
 rw [if_pos (by omega)]
 rfl
def mS (s : PS) : Nat := s.1.length + (if s.2 < 0 then 1 else 0)
theorem zbM (s : PS) : mS s <= s.1.length + 1 := by unfold mS; split <;> omega
theorem zfA {s : PS} (hg : GoodW s.1) (hs : s.2 < 0) : mS (zaj s).2 < mS s := by
 have hm : mS s = s.1.length + 1 := by unfold mS; rw [if_pos hs]
 have hpos : 0 < s.1.length := List.length_pos_iff.2 hg.ne
 unfold zaj zaE
 by_cases h : mayP 1 zdh s = true
 . rw [if_pos h, hm]
   have : mS (s.1.tail, s.2) <= s.1.tail.length + 1 := zbM (s.1.tail, s.2)
   rw [List.length_tail] at this
   exact Nat.lt_of_le_of_lt this (by omega)
 . rw [if_neg h, hm]
   unfold mS zbu
   rw [if_pos hs]
   have : ¬ (zaB s.1).f1 < 0 := by
    obtain ⟨l, d⟩ := s
    match l, hg.ne, hg with
    | x :: r, _, hg => have := (hg.2 x (by simp)).1; show ¬ x.f1 < 0; omega
   dsimp only
   rw [if_neg this]
   omega
theorem zfV : ∀ (n m : Nat) (s : PS), GoodW s.1 -> mS s <= n -> mS s <= m -> za0 n s = za0 m s
 | 0, 0, _, _, _, _ => rfl
 | 0, m + 1, s, hg, h, _ => by
  unfold za0
  rw [if_neg (fun hc => by have := List.length_pos_iff.2 hg.ne; unfold mS at h; omega)]
 | n + 1, 0, s, hg, _, h => by
  unfold za0
  rw [if_neg (fun hc => by have := List.length_pos_iff.2 hg.ne; unfold mS at h; omega)]
 | n + 1, m + 1, s, hg, h1, h2 => by
  unfold za0
  by_cases hc : s.2 < 0 /\ (zaB s.1).f0 = 1
  . rw [if_pos hc, if_pos hc]
    have := zfA hg hc.1
    rw [zfV n m _ (inv_good.name hg) (by omega) (by omega)]
  . rw [if_neg hc, if_neg hc]
abbrev STz : Array Value := #[.string ⟨#[]⟩, .int .i64 0, .slice none 0 0, .slice none 0 0, .int .i64 0]

set_option maxHeartbeats 4000000 in
set_option maxRecDepth 100000 in
theorem zey (g : Nat) (s : PS) (w : World) (h : PAR w g s) :
 Calls Tryz.prog 183 #[.pointer (some ⟨g, 0, none⟩)] w fun e w' => ∃ v2 v3, e = .returned (.agg #[.string (zay s).1.f0, .int .i64 (zay s).1.f1, v2, v3, .int .i64 (zay s).1.f4]) /\
  RS w' w.heap.size v2 (zay s).1.f2 /\ RS w' w.heap.size v3 (zay s).1.f3 /\ PAR w' g (zay s).2 /\ w.grownBy w' (some g) := by
 have hF0 := (Fly.start h).alloc (.cells STz 24)
 have hlt := h.has.lt
 have HL := znM hlt
 have HT : Hid (zay s = zem (zaj s).1 (zaE 1 opB (zaC 3 zdp (zaj s).2)).1 (zaE 1 opB (zaC 3 zdp (zaj s).2)).2) := rfl
 have HF0 := znM hF0
 clear hF0 hlt h
 go_enter Tryz.func183, Tryz.ntmps183
 go_wp2_with fail
 refine (zcx g s _ HF0.out.par).mono ?_
 rintro e w1 ⟨rfl, hp1, hg1⟩
 generalize ha : (zaj s).1 = a at HT |-
 generalize hs1 : (zaj s).2 = s1 at HT hp1
 have HR1 : Hid (w1.heap[w.heap.size]? = some (.cells STz 24 (0, 0))) := HF0.out.keeps (Nat.le_refl _) (zan w _) hg1
 have HF1 := znM (HF0.out.call hp1 hg1)
 have hS : w.heap.size < w1.heap.size := za2 HR1.out
 clear hp1 hg1 ha hs1 HF0
 have HF2 := znM (HF1.out.alloc (.cells #[.string a, .int .i64 0, .slice none 0 0, .slice none 0 0, .int .i64 0] 24))
 have HR2 := znM (zat HR1.out (.cells #[.string a, .int .i64 0, .slice none 0 0, .slice none 0 0, .int .i64 0] 24))
 have HS2 := znM (zan w1 (.cells #[.string a, .int .i64 0, .slice none 0 0, .slice none 0 0, .int .i64 0] 24))
 go_wp2_with fail
 generalize w1.alloc (.cells #[.string a, .int .i64 0, .slice none 0 0, .slice none 0 0, .int .i64 0] 24) = w2 at HF2 HR2 HS2 |-
 generalize w1.heap.size = S at HS2 hS |-
 clear HF1 HR1
 refine (zbf g 3 (by decide) zdp s1 w2 HF2.out.par).mono ?_
 rintro e w3 ⟨rfl, hp3, hg3⟩
 generalize zaC 3 zdp s1 = s3 at HT hp3
 have HF3 := znM (HF2.out.call hp3 hg3)
 have HR3 := znM (HF2.out.keeps (Nat.le_refl _) HR2.out hg3)
 have HS3 := znM (HF2.out.keeps (Nat.le_of_lt hS) HS2.out hg3)
 clear hp3 hg3 HF2 HR2 HS2
 go_wp2_with fail
 refine (zhy g _ eg_op opB 1 (by decide) s3 w3 HF3.out.par (zl9 _ _)).mono ?_
 rintro e w4 ⟨rfl, hp4, hg4⟩
 generalize (zaE 1 opB s3).1 = t at HT |-
 generalize (zaE 1 opB s3).2 = s4 at HT hp4
 have HF4 := znM (HF3.out.call hp4 hg4)
 have HR4 := znM (HF3.out.keeps (Nat.le_refl _) HR3.out hg4)
 have HS4 := znM (HF3.out.keeps (Nat.le_of_lt hS) HS3.out hg4)
 clear hp4 hg4 HF3 HR3 HS3
 go_wp2_with fail
 refine (ziJ t w4).mono ?_
 rintro e w5 ⟨rfl, hb5⟩
 have HF5 := znM (HF4.out.below hb5)
 have HR5 := znM (zah HR4.out hb5)
 have HS5 := znM (zah HS4.out hb5)
 clear hb5 HF4 HR4 HS4
 unfold zem at HT
 generalize opF t = op at HT |-
 have hS5 := HS5.out
 have c1 : w5.cell? ⟨S, 1, none⟩ = some (.int .i64 0) := (zab hS5 1).trans rfl
 have f1 : w5.frozen? ⟨S, 1, none⟩ = false := zag hS5 1
 have l1 : ∀ v, (w5.setCell ⟨S, 1, none⟩ v).cell? ⟨S, 1, none⟩ = some v := fun v => (zab (zbC hS5 1 v) 1).trans rfl
 clear hS5
 by_cases o5 : op = 5
 . have hT2 : zay s = (⟨a, op, (za0 (s4.1.length + 1) s4).1, [], 0⟩, zaC 3 semi (za0 (s4.1.length + 1) s4).2) := by
    rw [HT.out]
    unfold argP zb4
    simp [o5]
   have HT2 := znM hT2
   have e5 : (op == 5) = true := by simp only [o5]; decide
   have e6 : (op == 6) = false := by simp only [o5]; decide
   have e7 : (op == 7) = false := by simp only [o5]; decide
   have e8 : (op == 8) = false := by simp only [o5]; decide
   have e9 : (op == 9) = false := by simp only [o5]; decide
   have n5 : (op != 5) = false := by simp only [o5]; decide
   have n6 : (op != 6) = true := by simp only [o5]; decide
   clear hT2 HT o5
   go_wp2_with fail
   have HF6 := znM (HF5.out.set (Nat.le_of_lt hS) HS5.out (by decide) (by decide) 1 (.int .i64 op))
   have HR6 := znM (zaJ HR5.out (p := ⟨S, 1, none⟩) (Nat.ne_of_lt hS) (.int .i64 op))
   have HS6 : Hid ((w5.setCell ⟨S, 1, none⟩ (.int .i64 op)).heap[S]? = some (.cells #[.string a, .int .i64 op, .slice none 0 0, .slice none 0 0, .int .i64 0] 24 (0, 0))) := zap HS5.out 1 _ rfl
   generalize w5.setCell ⟨S, 1, none⟩ (.int .i64 op) = w6 at HF6 HR6 HS6 |-
   clear HF5 HR5 HS5 c1 f1 l1
   have HTA : Hid ((za0 (s4.1.length + 1) s4).1 = (za0 (mS s4) s4).1 /\ (za0 (s4.1.length + 1) s4).2 = (za0 (mS s4) s4).2) := by
    rw [zfV (s4.1.length + 1) (mS s4) s4 HF6.out.par.good (zbM s4) (Nat.le_refl _)]
    exact ⟨rfl, rfl⟩
   generalize (za0 (s4.1.length + 1) s4).1 = T1 at HT2 HTA
   generalize (za0 (s4.1.length + 1) s4).2 = T2 at HT2 HTA
   have hm4 : mS s4 <= 100001 := Nat.le_trans (zbM s4) (Nat.add_le_add_right HF6.out.par.len 1)
   go_loopg [] (mS s4) (fun gg wr => ∃ (acc : List ByteArray) (s2 : PS) (A : Option Addr) (c : Nat), mS s2 <= gg /\ acc.length + mS s2 <= mS s4 /\ Aside0 (acc ++ (za0 (mS s2) s2).1 = T1 /\ (za0 (mS s2) s2).2 = T2) /\
    Aside0 (RS wr w.heap.size (.slice A acc.length c) acc) /\ Aside0 (Fly w g wr s2) /\ Aside0 (wr.heap[w.heap.size]? = some (.cells STz 24 (0, 0))) /\ Aside0 (wr.heap[S]? = some (.cells #[.string a, .int .i64 op, .slice A acc.length c, .slice none 0 0, .int .i64 0] 24 (0, 0))))
   case atStart => exact ⟨[], s4, none, 0, Nat.le_refl _, by simp, ⟨by rw [List.nil_append]; exact ⟨HTA.out.1.symm, HTA.out.2.symm⟩⟩, ⟨Kd.R_nil _ _ _ _ _⟩, ⟨HF6.out⟩, ⟨HR6.out⟩, ⟨HS6.out⟩⟩
   case round =>
    obtain ⟨acc, s2, A, c, hgk, hal, HK, HA7, HF7, HR7, HS7⟩ := hrel
    have hO := zcF g s2 wr HF7.out.par.has
    by_cases hb : s2.2 < 0
    . have hbd : decide (s2.2 < 0) = true := by simpa using hb
      rw [hbd] at hO
      obtain ⟨b, o, cp, cur, hq⟩ := HF7.out.par.has
      have h0 : wr.cell? ⟨g, 0, none⟩ = some (.slice (some ⟨b, o, none⟩) s2.1.length cp) := (zab hq.own 0).trans rfl
      obtain ⟨kk0, _, _⟩ := hq.first HF7.out.par.good.ne
      have hpos : 0 < s2.1.length := List.length_pos_iff.2 HF7.out.par.good.ne
      by_cases hk : (zaB s2.1).f0 = 1
      . have hkd : ((zaB s2.1).f0 == 1) = true := by simpa using hk
        have hN := fun W hW => zcx g s2 W hW
        have hmn := zfA HF7.out.par.good hb
        have HKn : Hid (((acc ++ [(zaj s2).1]) ++ (za0 (mS (zaj s2).2) (zaj s2).2).1 = T1 /\ (za0 (mS (zaj s2).2) (zaj s2).2).2 = T2)) := by
         have hK := HK.out
         obtain ⟨n, hn⟩ : ∃ n, mS s2 = n + 1 := ⟨mS s2 - 1, by omega⟩
         rw [hn, za0, if_pos ⟨hb, hk⟩, zfV n (mS (zaj s2).2) (zaj s2).2 (inv_good.name HF7.out.par.good) (by omega) (Nat.le_refl _)] at hK
         exact ⟨by rw [<- hK.1]; simp, hK.2⟩
        generalize (zaj s2).1 = x at HKn hN
        generalize (zaj s2).2 = s3 at HKn hN hmn
        have hld : wr.cell? ⟨S, 2, none⟩ = some (.slice A acc.length c) := (zab HS7.out 2).trans rfl
        have hal2 : acc.length <= 200000 := by omega
        clear hbd hq hb hk
        go_wp2_with (go_at_call 140; refine hO.mono ?_; rintro e w' ⟨rfl, rfl⟩)
        have HFd := znM (HF7.out.below (W1 := wr.drew) ⟨rfl, rfl, rfl, Nat.le_refl _, fun _ _ => rfl⟩)
        have HAd : Hid (RS wr.drew w.heap.size (.slice A acc.length c) acc) := Kd.R_below HA7.out ⟨rfl, rfl, rfl, Nat.le_refl _, fun _ _ => rfl⟩
        have HRd := znM (zaP HR7.out)
        have HSd := znM (zaP HS7.out)
        clear hO h0 kk0
        go_region_law (first
         | (refine Kd.R_append_step Kd.string (w0 := w8) w.heap.size (by rfl) (.tmp 30) (.tmp 33) 22 9 (.string ⟨#[]⟩) 16 rfl Tryz.underlying22 zcg rfl (by decide) (by decide) (.slice A acc.length c) acc x [.string x] (fun _ => True) (fun k_ => True /\ some k_ ≠ (Value.slice A acc.length c).ownBlock) (by rfl) (by rfl) rfl (fun _ hk => hk) (fun _ _ => trivial) HA8.out (Below.refl _ _) HF8.out.grown.size ?aL ?_; (case aL => omega); intro v1 w9 ho hb hg hat; obtain ⟨A1, c1, rfl, hc1, _⟩ := Kd.R_reads ho; have HA9 := znM ho; have HF9 := znM (HF8.out.row (Kd.R_own HA8.out).choose_spec (by decide) (by decide) (Nat.le_refl _) hb hg); have HR9 := znM (zaK HR8.out hg (Kd.R_ne HA8.out HR8.out (by decide))); have HS9 := znM (zaK HS8.out hg (Kd.R_ne HA8.out HS8.out (by decide))); have hst : w9.cell? ⟨S, 2, none⟩ = some (.slice A acc.length c) := (zab HS9.out 2).trans rfl; have hfr : w9.frozen? ⟨S, 2, none⟩ = false := zag HS9.out 2; clear ho hb hg hat)
         | (go_simp; go_at_call 179; refine (hN _ HFd.out.par).mono ?_; rintro e w8 ⟨rfl, hp8, hg8⟩; have HF8 := znM (HFd.out.call hp8 hg8); have HR8 := znM (HFd.out.keeps (Nat.le_refl _) HRd.out hg8); have HS8 := znM (HFd.out.keeps (Nat.le_of_lt hS) HSd.out hg8); have HA8 := znM (zau HAd.out hg8 HL.out); have hl8 : w8.cell? ⟨S, 2, none⟩ = some (.slice A acc.length c) := (zab HS8.out 2).trans rfl; have hl8a : ∀ ob : Obj, (w8.alloc ob).cell? ⟨S, 2, none⟩ = some (.slice A acc.length c) := fun ob => (zab (zat HS8.out ob) 2).trans rfl; clear hp8 hg8))
        all_goals
         go_wp2
         go_roundg (mS s3)
         case measure => omega
         case rel =>
          have hlen : acc.length + 1 = (acc ++ [x]).length := by simp
          simp only [hlen]
          refine ⟨acc ++ [x], s3, A1, c1, Nat.le_refl _, ?_, ⟨HKn.out⟩, ⟨Kd.R_set HA9.out HS9.out (by decide) 2 _⟩, ⟨HF9.out.set (Nat.le_of_lt hS) HS9.out (by decide) (by decide) 2 _⟩, ⟨zaJ HR9.out (p := ⟨S, 2, none⟩) (Nat.ne_of_lt hS) _⟩, ⟨?_⟩⟩
          . rw [List.length_append, List.length_singleton]; omega
          . exact zap HS9.out 2 _ rfl
      . have hkd : ((zaB s2.1).f0 == 1) = false := by simpa using hk
        have HKn : Hid (acc = T1 /\ s2 = T2) := by
         have hK := HK.out
         have h0 : za0 (mS s2) s2 = ([], s2) := by
          generalize mS s2 = n
          cases n with
          | zero => rfl
          | succ n => unfold za0; rw [if_neg (fun h => hk h.2)]
         rw [h0, List.append_nil] at hK
         exact hK
        clear hbd hq hb hk
        have hT1 := HKn.out.1
        have hT2 := HKn.out.2
        clear HKn HK
        subst hT1
        subst hT2
        have l7 : wr.cell? ⟨S, 1, none⟩ = some (.int .i64 op) := (zab HS7.out 1).trans rfl
        go_wp2_with (go_at_call 140; refine hO.mono ?_; rintro e w' ⟨rfl, rfl⟩)
        clear l7 hO
        refine (zbf g 3 (by decide) semi s2 wr HF7.out.par).mono ?_
        rintro e w8 ⟨rfl, hp8, hg8⟩
        have HF8 := znM (HF7.out.call hp8 hg8)
        have HR8 := znM (HF7.out.keeps (Nat.le_refl _) HR7.out hg8)
        have HS8 := znM (HF7.out.keeps (Nat.le_of_lt hS) HS7.out hg8)
        have HA8 := znM (zau HA7.out hg8 HL.out)
        clear hp8 hg8 HF7 HR7 HS7 HA7
        have hSe := HS8.out
        have k0 : w8.cell? ⟨S, 0, none⟩ = some (.string a) := (zab hSe 0).trans rfl
        have k1 : w8.cell? ⟨S, 1, none⟩ = some (.int .i64 op) := (zab hSe 1).trans rfl
        have k2 : w8.cell? ⟨S, 2, none⟩ = some (.slice A acc.length c) := (zab hSe 2).trans rfl
        have k3 : w8.cell? ⟨S, 3, none⟩ = some (.slice none 0 0) := (zab hSe 3).trans rfl
        have k4 : w8.cell? ⟨S, 4, none⟩ = some (.int .i64 0) := (zab hSe 4).trans rfl
        have hRe := HR8.out
        have r0 : w8.cell? ⟨w.heap.size, 0, none⟩ = some (.string ⟨#[]⟩) := (zab hRe 0).trans rfl
        have q0 := zag hRe 0
        have r1 : w8.cell? ⟨w.heap.size, 1, none⟩ = some (.int .i64 0) := (zab hRe 1).trans rfl
        have q1 := zag hRe 1
        have r2 : w8.cell? ⟨w.heap.size, 2, none⟩ = some (.slice none 0 0) := (zab hRe 2).trans rfl
        have q2 := zag hRe 2
        have r3 : w8.cell? ⟨w.heap.size, 3, none⟩ = some (.slice none 0 0) := (zab hRe 3).trans rfl
        have q3 := zag hRe 3
        have r4 : w8.cell? ⟨w.heap.size, 4, none⟩ = some (.int .i64 0) := (zab hRe 4).trans rfl
        have q4 := zag hRe 4
        clear hSe hRe
        go_wp2
        have hs := zbA (.string a) (.int .i64 op) (.slice A acc.length c) (.slice none 0 0) (.int .i64 0) HR8.out
        have hF := HF8.out.set5 (Nat.le_refl _) (.string a) (.int .i64 op) (.slice A acc.length c) (.slice none 0 0) (.int .i64 0) HR8.out (by decide) (by decide)
        have hA := RS.set5 HA8.out (.string a) (.int .i64 op) (.slice A acc.length c) (.slice none 0 0) (.int .i64 0) HR8.out (by decide)
        have hB := RS.set5 (Kd.R_nil _ _ _ _ _ : RS w8 w.heap.size (.slice none 0 0) []) (.string a) (.int .i64 op) (.slice A acc.length c) (.slice none 0 0) (.int .i64 0) HR8.out (by decide)
        clear k0 k1 k2 k3 k4 r0 r1 r2 r3 r4 q0 q1 q2 q3 q4
        unfold set5 at hs hF hA hB
        generalize ((((w8.setCell ⟨w.heap.size, 0, none⟩ (.string a)).setCell ⟨w.heap.size, 1, none⟩ (.int .i64 op)).setCell ⟨w.heap.size, 2, none⟩ (.slice A acc.length c)).setCell ⟨w.heap.size, 3, none⟩ (.slice none 0 0)).setCell ⟨w.heap.size, 4, none⟩ (.int .i64 0) = wE at hs hF hA hB |-
        have g0 := (zab hs 0).trans rfl
        have g1 := (zab hs 1).trans rfl
        have g2 := (zab hs 2).trans rfl
        have g3 := (zab hs 3).trans rfl
        have g4 := (zab hs 4).trans rfl
        exact bodyPost_ret (v := .agg #[.string a, .int .i64 op, .slice A acc.length c, .slice none 0 0, .int .i64 0]) (by simp [results, Tryz.results183, go_sem, g0, g1, g2, g3, g4]) rfl (by
         rw [HT2.out]
         exact ⟨_, _, rfl, hA, hB, hF.par, hF.grown⟩)
    . have hbd : decide (s2.2 < 0) = false := by simpa using hb
      rw [hbd] at hO
      have HKn : Hid (acc = T1 /\ s2 = T2) := by
       have hK := HK.out
       have h0 : za0 (mS s2) s2 = ([], s2) := by
        generalize mS s2 = n
        cases n with
        | zero => rfl
        | succ n => unfold za0; rw [if_neg (fun h => hb h.1)]
       rw [h0, List.append_nil] at hK
       exact hK
      clear hbd hb
      have hT1 := HKn.out.1
      have hT2 := HKn.out.2
      clear HKn HK
      subst hT1
      subst hT2
      have l7 : wr.cell? ⟨S, 1, none⟩ = some (.int .i64 op) := (zab HS7.out 1).trans rfl
      go_wp2_with (go_at_call 140; refine hO.mono ?_; rintro e w' ⟨rfl, rfl⟩)
      clear l7 hO
      refine (zbf g 3 (by decide) semi s2 wr HF7.out.par).mono ?_
      rintro e w8 ⟨rfl, hp8, hg8⟩
      have HF8 := znM (HF7.out.call hp8 hg8)
      have HR8 := znM (HF7.out.keeps (Nat.le_refl _) HR7.out hg8)
      have HS8 := znM (HF7.out.keeps (Nat.le_of_lt hS) HS7.out hg8)
      have HA8 := znM (zau HA7.out hg8 HL.out)
      clear hp8 hg8 HF7 HR7 HS7 HA7
      have hSe := HS8.out
      have k0 : w8.cell? ⟨S, 0, none⟩ = some (.string a) := (zab hSe 0).trans rfl
      have k1 : w8.cell? ⟨S, 1, none⟩ = some (.int .i64 op) := (zab hSe 1).trans rfl
      have k2 : w8.cell? ⟨S, 2, none⟩ = some (.slice A acc.length c) := (zab hSe 2).trans rfl
      have k3 : w8.cell? ⟨S, 3, none⟩ = some (.slice none 0 0) := (zab hSe 3).trans rfl
      have k4 : w8.cell? ⟨S, 4, none⟩ = some (.int .i64 0) := (zab hSe 4).trans rfl
      have hRe := HR8.out
      have r0 : w8.cell? ⟨w.heap.size, 0, none⟩ = some (.string ⟨#[]⟩) := (zab hRe 0).trans rfl
      have q0 := zag hRe 0
      have r1 : w8.cell? ⟨w.heap.size, 1, none⟩ = some (.int .i64 0) := (zab hRe 1).trans rfl
      have q1 := zag hRe 1
      have r2 : w8.cell? ⟨w.heap.size, 2, none⟩ = some (.slice none 0 0) := (zab hRe 2).trans rfl
      have q2 := zag hRe 2
      have r3 : w8.cell? ⟨w.heap.size, 3, none⟩ = some (.slice none 0 0) := (zab hRe 3).trans rfl
      have q3 := zag hRe 3
      have r4 : w8.cell? ⟨w.heap.size, 4, none⟩ = some (.int .i64 0) := (zab hRe 4).trans rfl
      have q4 := zag hRe 4
      clear hSe hRe
      go_wp2
      have hs := zbA (.string a) (.int .i64 op) (.slice A acc.length c) (.slice none 0 0) (.int .i64 0) HR8.out
      have hF := HF8.out.set5 (Nat.le_refl _) (.string a) (.int .i64 op) (.slice A acc.length c) (.slice none 0 0) (.int .i64 0) HR8.out (by decide) (by decide)
      have hA := RS.set5 HA8.out (.string a) (.int .i64 op) (.slice A acc.length c) (.slice none 0 0) (.int .i64 0) HR8.out (by decide)
      have hB := RS.set5 (Kd.R_nil _ _ _ _ _ : RS w8 w.heap.size (.slice none 0 0) []) (.string a) (.int .i64 op) (.slice A acc.length c) (.slice none 0 0) (.int .i64 0) HR8.out (by decide)
      clear k0 k1 k2 k3 k4 r0 r1 r2 r3 r4 q0 q1 q2 q3 q4
      unfold set5 at hs hF hA hB
      generalize ((((w8.setCell ⟨w.heap.size, 0, none⟩ (.string a)).setCell ⟨w.heap.size, 1, none⟩ (.int .i64 op)).setCell ⟨w.heap.size, 2, none⟩ (.slice A acc.length c)).setCell ⟨w.heap.size, 3, none⟩ (.slice none 0 0)).setCell ⟨w.heap.size, 4, none⟩ (.int .i64 0) = wE at hs hF hA hB |-
      have g0 := (zab hs 0).trans rfl
      have g1 := (zab hs 1).trans rfl
      have g2 := (zab hs 2).trans rfl
      have g3 := (zab hs 3).trans rfl
      have g4 := (zab hs 4).trans rfl
      exact bodyPost_ret (v := .agg #[.string a, .int .i64 op, .slice A acc.length c, .slice none 0 0, .int .i64 0]) (by simp [results, Tryz.results183, go_sem, g0, g1, g2, g3, g4]) rfl (by
       rw [HT2.out]
       exact ⟨_, _, rfl, hA, hB, hF.par, hF.grown⟩)
 by_cases o6 : op = 6
 . have hT2 : zay s = (⟨a, op, [], [(zak s4).1], 0⟩, zaC 3 semi (zak s4).2) := by
    rw [HT.out]
    unfold argP zb4
    simp [o6]
   have HT2 := znM hT2
   have e5 : (op == 5) = false := by simp only [o6]; decide
   have e6 : (op == 6) = true := by simp only [o6]; decide
   have e7 : (op == 7) = false := by simp only [o6]; decide
   have e8 : (op == 8) = false := by simp only [o6]; decide
   have e9 : (op == 9) = false := by simp only [o6]; decide
   have n5 : (op != 5) = true := by simp only [o6]; decide
   have n6 : (op != 6) = false := by simp only [o6]; decide
   clear hT2 HT o5 o6
   go_wp2_with fail
   have HF6 := znM (HF5.out.set (Nat.le_of_lt hS) HS5.out (by decide) (by decide) 1 (.int .i64 op))
   have HR6 := znM (zaJ HR5.out (p := ⟨S, 1, none⟩) (Nat.ne_of_lt hS) (.int .i64 op))
   have HS6 : Hid ((w5.setCell ⟨S, 1, none⟩ (.int .i64 op)).heap[S]? = some (.cells #[.string a, .int .i64 op, .slice none 0 0, .slice none 0 0, .int .i64 0] 24 (0, 0))) := zap HS5.out 1 _ rfl
   generalize w5.setCell ⟨S, 1, none⟩ (.int .i64 op) = w6 at HF6 HR6 HS6 |-
   clear HF5 HR5 HS5 c1 f1 l1
   refine (zex g s4 w6 HF6.out.par).mono ?_
   rintro e w7 ⟨rfl, hp7, hg7⟩
   have HF7 := znM (HF6.out.call hp7 hg7)
   have HR7 := znM (HF6.out.keeps (Nat.le_refl _) HR6.out hg7)
   have HS7 := znM (HF6.out.keeps (Nat.le_of_lt hS) HS6.out hg7)
   clear hp7 hg7 HF6 HR6 HS6
   have hS7 := HS7.out
   have c2 : ∀ ob : Obj, (w7.alloc ob).cell? ⟨S, 3, none⟩ = some (.slice none 0 0) := fun ob => (zab (zat hS7 ob) 3).trans rfl
   have f2 : ∀ ob : Obj, (w7.alloc ob).frozen? ⟨S, 3, none⟩ = false := fun ob => zag (zat hS7 ob) 3
   have l2 : ∀ (ob : Obj) (v : Value), ((w7.alloc ob).setCell ⟨S, 3, none⟩ v).cell? ⟨S, 1, none⟩ = some (.int .i64 op) := fun ob v => (zab (zbC (zat hS7 ob) 3 v) 1).trans rfl
   clear hS7
   go_wp2_with fail
   clear c2 f2 l2
   have HFa := znM (HF7.out.alloc (.cells #[.string (zak s4).1] 9))
   have HRa := znM (zat HR7.out (.cells #[.string (zak s4).1] 9))
   have HSa := znM (zat HS7.out (.cells #[.string (zak s4).1] 9))
   have HVa : Hid (RS (w7.alloc (.cells #[.string (zak s4).1] 9)) w.heap.size (.slice (some ⟨w7.heap.size, 0, none⟩) 1 1) [(zak s4).1]) := zcG w7 w.heap.size [(zak s4).1] HF7.out.grown.size (by simp)
   have HF8 := znM (HFa.out.set (Nat.le_of_lt hS) HSa.out (by decide) (by decide) 3 (.slice (some ⟨w7.heap.size, 0, none⟩) 1 1))
   have HR8 := znM (zaJ HRa.out (p := ⟨S, 3, none⟩) (Nat.ne_of_lt hS) (.slice (some ⟨w7.heap.size, 0, none⟩) 1 1))
   have HS8 : Hid (((w7.alloc (.cells #[.string (zak s4).1] 9)).setCell ⟨S, 3, none⟩ (.slice (some ⟨w7.heap.size, 0, none⟩) 1 1)).heap[S]? = some (.cells #[.string a, .int .i64 op, .slice none 0 0, .slice (some ⟨w7.heap.size, 0, none⟩) 1 1, .int .i64 0] 24 (0, 0))) := zap HSa.out 3 _ rfl
   have HB8 := znM (Kd.R_set HVa.out HSa.out (by decide) 3 (.slice (some ⟨w7.heap.size, 0, none⟩) 1 1))
   clear HFa HRa HSa HVa HF7 HR7 HS7
   generalize (w7.alloc (.cells #[.string (zak s4).1] 9)).setCell ⟨S, 3, none⟩ (.slice (some ⟨w7.heap.size, 0, none⟩) 1 1) = w8 at HF8 HR8 HS8 HB8 |-
   generalize (some (⟨w7.heap.size, 0, none⟩ : Addr)) = A3 at HS8 HB8 |-
   refine (zbf g 3 (by decide) semi (zak s4).2 w8 HF8.out.par).mono ?_
   rintro e w9 ⟨rfl, hp9, hg9⟩
   have HF9 := znM (HF8.out.call hp9 hg9)
   have HR9 := znM (HF8.out.keeps (Nat.le_refl _) HR8.out hg9)
   have HS9 := znM (HF8.out.keeps (Nat.le_of_lt hS) HS8.out hg9)
   have HB9 := znM (zau HB8.out hg9 HL.out)
   clear hp9 hg9 HF8 HR8 HS8 HB8
   have hSe := HS9.out
   have k0 : w9.cell? ⟨S, 0, none⟩ = some (.string a) := (zab hSe 0).trans rfl
   have k1 : w9.cell? ⟨S, 1, none⟩ = some (.int .i64 op) := (zab hSe 1).trans rfl
   have k2 : w9.cell? ⟨S, 2, none⟩ = some (.slice none 0 0) := (zab hSe 2).trans rfl
   have k3 : w9.cell? ⟨S, 3, none⟩ = some (.slice A3 1 1) := (zab hSe 3).trans rfl
   have k4 : w9.cell? ⟨S, 4, none⟩ = some (.int .i64 0) := (zab hSe 4).trans rfl
   have hRe := HR9.out
   have r0 : w9.cell? ⟨w.heap.size, 0, none⟩ = some (.string ⟨#[]⟩) := (zab hRe 0).trans rfl
   have q0 := zag hRe 0
   have r1 : w9.cell? ⟨w.heap.size, 1, none⟩ = some (.int .i64 0) := (zab hRe 1).trans rfl
   have q1 := zag hRe 1
   have r2 : w9.cell? ⟨w.heap.size, 2, none⟩ = some (.slice none 0 0) := (zab hRe 2).trans rfl
   have q2 := zag hRe 2
   have r3 : w9.cell? ⟨w.heap.size, 3, none⟩ = some (.slice none 0 0) := (zab hRe 3).trans rfl
   have q3 := zag hRe 3
   have r4 : w9.cell? ⟨w.heap.size, 4, none⟩ = some (.int .i64 0) := (zab hRe 4).trans rfl
   have q4 := zag hRe 4
   clear hSe hRe
   go_wp2
   have hs := zbA (.string a) (.int .i64 op) (.slice none 0 0) (.slice A3 1 1) (.int .i64 0) HR9.out
   have hF := HF9.out.set5 (Nat.le_refl _) (.string a) (.int .i64 op) (.slice none 0 0) (.slice A3 1 1) (.int .i64 0) HR9.out (by decide) (by decide)
   have hA := RS.set5 (Kd.R_nil _ _ _ _ _ : RS w9 w.heap.size (.slice none 0 0) []) (.string a) (.int .i64 op) (.slice none 0 0) (.slice A3 1 1) (.int .i64 0) HR9.out (by decide)
   have hB := RS.set5 HB9.out (.string a) (.int .i64 op) (.slice none 0 0) (.slice A3 1 1) (.int .i64 0) HR9.out (by decide)
   clear k0 k1 k2 k3 k4 r0 r1 r2 r3 r4 q0 q1 q2 q3 q4
   unfold set5 at hs hF hA hB
   generalize ((((w9.setCell ⟨w.heap.size, 0, none⟩ (.string a)).setCell ⟨w.heap.size, 1, none⟩ (.int .i64 op)).setCell ⟨w.heap.size, 2, none⟩ (.slice none 0 0)).setCell ⟨w.heap.size, 3, none⟩ (.slice A3 1 1)).setCell ⟨w.heap.size, 4, none⟩ (.int .i64 0) = wE at hs hF hA hB |-
   have g0 := (zab hs 0).trans rfl
   have g1 := (zab hs 1).trans rfl
   have g2 := (zab hs 2).trans rfl
   have g3 := (zab hs 3).trans rfl
   have g4 := (zab hs 4).trans rfl
   exact bodyPost_ret (v := .agg #[.string a, .int .i64 op, .slice none 0 0, .slice A3 1 1, .int .i64 0]) (by simp [results, Tryz.results183, go_sem, g0, g1, g2, g3, g4]) rfl (by
    rw [HT2.out]
    exact ⟨_, _, rfl, hA, hB, hF.par, hF.grown⟩)
 by_cases o7 : op = 7
 . have hT2 : zay s = (⟨a, op, [(zaj (zak s4).2).1], [(zak s4).1], 0⟩, zaC 3 semi (zaj (zak s4).2).2) := by
    rw [HT.out]
    unfold argP zb4
    simp [o7]
   have HT2 := znM hT2
   have e5 : (op == 5) = false := by simp only [o7]; decide
   have e6 : (op == 6) = false := by simp only [o7]; decide
   have e7 : (op == 7) = true := by simp only [o7]; decide
   have e8 : (op == 8) = false := by simp only [o7]; decide
   have e9 : (op == 9) = false := by simp only [o7]; decide
   have n5 : (op != 5) = true := by simp only [o7]; decide
   have n6 : (op != 6) = true := by simp only [o7]; decide
   clear hT2 HT o5 o6 o7
   go_wp2_with fail
   have HF6 := znM (HF5.out.set (Nat.le_of_lt hS) HS5.out (by decide) (by decide) 1 (.int .i64 op))
   have HR6 := znM (zaJ HR5.out (p := ⟨S, 1, none⟩) (Nat.ne_of_lt hS) (.int .i64 op))
   have HS6 : Hid ((w5.setCell ⟨S, 1, none⟩ (.int .i64 op)).heap[S]? = some (.cells #[.string a, .int .i64 op, .slice none 0 0, .slice none 0 0, .int .i64 0] 24 (0, 0))) := zap HS5.out 1 _ rfl
   generalize w5.setCell ⟨S, 1, none⟩ (.int .i64 op) = w6 at HF6 HR6 HS6 |-
   clear HF5 HR5 HS5 c1 f1 l1
   refine (zex g s4 w6 HF6.out.par).mono ?_
   rintro e w7 ⟨rfl, hp7, hg7⟩
   have HF7 := znM (HF6.out.call hp7 hg7)
   have HR7 := znM (HF6.out.keeps (Nat.le_refl _) HR6.out hg7)
   have HS7 := znM (HF6.out.keeps (Nat.le_of_lt hS) HS6.out hg7)
   clear hp7 hg7 HF6 HR6 HS6
   have hS7 := HS7.out
   have c2 : ∀ ob : Obj, (w7.alloc ob).cell? ⟨S, 3, none⟩ = some (.slice none 0 0) := fun ob => (zab (zat hS7 ob) 3).trans rfl
   have f2 : ∀ ob : Obj, (w7.alloc ob).frozen? ⟨S, 3, none⟩ = false := fun ob => zag (zat hS7 ob) 3
   have l2 : ∀ (ob : Obj) (v : Value), ((w7.alloc ob).setCell ⟨S, 3, none⟩ v).cell? ⟨S, 1, none⟩ = some (.int .i64 op) := fun ob v => (zab (zbC (zat hS7 ob) 3 v) 1).trans rfl
   clear hS7
   go_wp2_with fail
   clear c2 f2 l2
   have HFa := znM (HF7.out.alloc (.cells #[.string (zak s4).1] 9))
   have HRa := znM (zat HR7.out (.cells #[.string (zak s4).1] 9))
   have HSa := znM (zat HS7.out (.cells #[.string (zak s4).1] 9))
   have HVa : Hid (RS (w7.alloc (.cells #[.string (zak s4).1] 9)) w.heap.size (.slice (some ⟨w7.heap.size, 0, none⟩) 1 1) [(zak s4).1]) := zcG w7 w.heap.size [(zak s4).1] HF7.out.grown.size (by simp)
   have HF8 := znM (HFa.out.set (Nat.le_of_lt hS) HSa.out (by decide) (by decide) 3 (.slice (some ⟨w7.heap.size, 0, none⟩) 1 1))
   have HR8 := znM (zaJ HRa.out (p := ⟨S, 3, none⟩) (Nat.ne_of_lt hS) (.slice (some ⟨w7.heap.size, 0, none⟩) 1 1))
   have HS8 : Hid (((w7.alloc (.cells #[.string (zak s4).1] 9)).setCell ⟨S, 3, none⟩ (.slice (some ⟨w7.heap.size, 0, none⟩) 1 1)).heap[S]? = some (.cells #[.string a, .int .i64 op, .slice none 0 0, .slice (some ⟨w7.heap.size, 0, none⟩) 1 1, .int .i64 0] 24 (0, 0))) := zap HSa.out 3 _ rfl
   have HB8 := znM (Kd.R_set HVa.out HSa.out (by decide) 3 (.slice (some ⟨w7.heap.size, 0, none⟩) 1 1))
   clear HFa HRa HSa HVa HF7 HR7 HS7
   generalize (w7.alloc (.cells #[.string (zak s4).1] 9)).setCell ⟨S, 3, none⟩ (.slice (some ⟨w7.heap.size, 0, none⟩) 1 1) = w8 at HF8 HR8 HS8 HB8 |-
   generalize (some (⟨w7.heap.size, 0, none⟩ : Addr)) = A3 at HS8 HB8 |-
   refine (zcx g (zak s4).2 w8 HF8.out.par).mono ?_
   rintro e w9 ⟨rfl, hp9, hg9⟩
   have HF9 := znM (HF8.out.call hp9 hg9)
   have HR9 := znM (HF8.out.keeps (Nat.le_refl _) HR8.out hg9)
   have HS9 := znM (HF8.out.keeps (Nat.le_of_lt hS) HS8.out hg9)
   have HB9 := znM (zau HB8.out hg9 HL.out)
   clear hp9 hg9 HF8 HR8 HS8 HB8
   have hS9 := HS9.out
   have c2 : ∀ ob : Obj, (w9.alloc ob).cell? ⟨S, 2, none⟩ = some (.slice none 0 0) := fun ob => (zab (zat hS9 ob) 2).trans rfl
   have f2 : ∀ ob : Obj, (w9.alloc ob).frozen? ⟨S, 2, none⟩ = false := fun ob => zag (zat hS9 ob) 2
   have l2 : ∀ (ob : Obj) (v : Value), ((w9.alloc ob).setCell ⟨S, 2, none⟩ v).cell? ⟨S, 1, none⟩ = some (.int .i64 op) := fun ob v => (zab (zbC (zat hS9 ob) 2 v) 1).trans rfl
   clear hS9
   go_wp2_with fail
   clear c2 f2 l2
   have HFa := znM (HF9.out.alloc (.cells #[.string (zaj (zak s4).2).1] 9))
   have HRa := znM (zat HR9.out (.cells #[.string (zaj (zak s4).2).1] 9))
   have HSa := znM (zat HS9.out (.cells #[.string (zaj (zak s4).2).1] 9))
   have HVa : Hid (RS (w9.alloc (.cells #[.string (zaj (zak s4).2).1] 9)) w.heap.size (.slice (some ⟨w9.heap.size, 0, none⟩) 1 1) [(zaj (zak s4).2).1]) := zcG w9 w.heap.size [(zaj (zak s4).2).1] HF9.out.grown.size (by simp)
   have HF10 := znM (HFa.out.set (Nat.le_of_lt hS) HSa.out (by decide) (by decide) 2 (.slice (some ⟨w9.heap.size, 0, none⟩) 1 1))
   have HR10 := znM (zaJ HRa.out (p := ⟨S, 2, none⟩) (Nat.ne_of_lt hS) (.slice (some ⟨w9.heap.size, 0, none⟩) 1 1))
   have HS10 : Hid (((w9.alloc (.cells #[.string (zaj (zak s4).2).1] 9)).setCell ⟨S, 2, none⟩ (.slice (some ⟨w9.heap.size, 0, none⟩) 1 1)).heap[S]? = some (.cells #[.string a, .int .i64 op, .slice (some ⟨w9.heap.size, 0, none⟩) 1 1, .slice A3 1 1, .int .i64 0] 24 (0, 0))) := zap HSa.out 2 _ rfl
   have HA10 := znM (Kd.R_set HVa.out HSa.out (by decide) 2 (.slice (some ⟨w9.heap.size, 0, none⟩) 1 1))
   have HB10 := znM (Kd.R_set (Kd.R_alloc HB9.out (.cells #[.string (zaj (zak s4).2).1] 9)) HSa.out (by decide) 2 (.slice (some ⟨w9.heap.size, 0, none⟩) 1 1))
   clear HFa HRa HSa HVa HF9 HR9 HS9 HB9
   generalize (w9.alloc (.cells #[.string (zaj (zak s4).2).1] 9)).setCell ⟨S, 2, none⟩ (.slice (some ⟨w9.heap.size, 0, none⟩) 1 1) = w10 at HF10 HR10 HS10 HB10 HA10 |-
   generalize (some (⟨w9.heap.size, 0, none⟩ : Addr)) = A2 at HS10 HA10 |-
   refine (zbf g 3 (by decide) semi (zaj (zak s4).2).2 w10 HF10.out.par).mono ?_
   rintro e w11 ⟨rfl, hp11, hg11⟩
   have HF11 := znM (HF10.out.call hp11 hg11)
   have HR11 := znM (HF10.out.keeps (Nat.le_refl _) HR10.out hg11)
   have HS11 := znM (HF10.out.keeps (Nat.le_of_lt hS) HS10.out hg11)
   have HB11 := znM (zau HB10.out hg11 HL.out)
   have HA11 := znM (zau HA10.out hg11 HL.out)
   clear hp11 hg11 HF10 HR10 HS10 HB10 HA10
   have hSe := HS11.out
   have k0 : w11.cell? ⟨S, 0, none⟩ = some (.string a) := (zab hSe 0).trans rfl
   have k1 : w11.cell? ⟨S, 1, none⟩ = some (.int .i64 op) := (zab hSe 1).trans rfl
   have k2 : w11.cell? ⟨S, 2, none⟩ = some (.slice A2 1 1) := (zab hSe 2).trans rfl
   have k3 : w11.cell? ⟨S, 3, none⟩ = some (.slice A3 1 1) := (zab hSe 3).trans rfl
   have k4 : w11.cell? ⟨S, 4, none⟩ = some (.int .i64 0) := (zab hSe 4).trans rfl
   have hRe := HR11.out
   have r0 : w11.cell? ⟨w.heap.size, 0, none⟩ = some (.string ⟨#[]⟩) := (zab hRe 0).trans rfl
   have q0 := zag hRe 0
   have r1 : w11.cell? ⟨w.heap.size, 1, none⟩ = some (.int .i64 0) := (zab hRe 1).trans rfl
   have q1 := zag hRe 1
   have r2 : w11.cell? ⟨w.heap.size, 2, none⟩ = some (.slice none 0 0) := (zab hRe 2).trans rfl
   have q2 := zag hRe 2
   have r3 : w11.cell? ⟨w.heap.size, 3, none⟩ = some (.slice none 0 0) := (zab hRe 3).trans rfl
   have q3 := zag hRe 3
   have r4 : w11.cell? ⟨w.heap.size, 4, none⟩ = some (.int .i64 0) := (zab hRe 4).trans rfl
   have q4 := zag hRe 4
   clear hSe hRe
   go_wp2
   have hs := zbA (.string a) (.int .i64 op) (.slice A2 1 1) (.slice A3 1 1) (.int .i64 0) HR11.out
   have hF := HF11.out.set5 (Nat.le_refl _) (.string a) (.int .i64 op) (.slice A2 1 1) (.slice A3 1 1) (.int .i64 0) HR11.out (by decide) (by decide)
   have hA := RS.set5 HA11.out (.string a) (.int .i64 op) (.slice A2 1 1) (.slice A3 1 1) (.int .i64 0) HR11.out (by decide)
   have hB := RS.set5 HB11.out (.string a) (.int .i64 op) (.slice A2 1 1) (.slice A3 1 1) (.int .i64 0) HR11.out (by decide)
   clear k0 k1 k2 k3 k4 r0 r1 r2 r3 r4 q0 q1 q2 q3 q4
   unfold set5 at hs hF hA hB
   generalize ((((w11.setCell ⟨w.heap.size, 0, none⟩ (.string a)).setCell ⟨w.heap.size, 1, none⟩ (.int .i64 op)).setCell ⟨w.heap.size, 2, none⟩ (.slice A2 1 1)).setCell ⟨w.heap.size, 3, none⟩ (.slice A3 1 1)).setCell ⟨w.heap.size, 4, none⟩ (.int .i64 0) = wE at hs hF hA hB |-
   have g0 := (zab hs 0).trans rfl
   have g1 := (zab hs 1).trans rfl
   have g2 := (zab hs 2).trans rfl
   have g3 := (zab hs 3).trans rfl
   have g4 := (zab hs 4).trans rfl
   exact bodyPost_ret (v := .agg #[.string a, .int .i64 op, .slice A2 1 1, .slice A3 1 1, .int .i64 0]) (by simp [results, Tryz.results183, go_sem, g0, g1, g2, g3, g4]) rfl (by
    rw [HT2.out]
    exact ⟨_, _, rfl, hA, hB, hF.par, hF.grown⟩)
 by_cases o8 : op = 8
 . have hT2 : zay s = (⟨a, op, [(zaj (zak (zak s4).2).2).1], [(zak s4).1, (zak (zak s4).2).1], 0⟩, zaC 3 semi (zaj (zak (zak s4).2).2).2) := by
    rw [HT.out]
    unfold argP zb4
    simp [o8]
   have HT2 := znM hT2
   have e5 : (op == 5) = false := by simp only [o8]; decide
   have e6 : (op == 6) = false := by simp only [o8]; decide
   have e7 : (op == 7) = false := by simp only [o8]; decide
   have e8 : (op == 8) = true := by simp only [o8]; decide
   have e9 : (op == 9) = false := by simp only [o8]; decide
   have n5 : (op != 5) = true := by simp only [o8]; decide
   have n6 : (op != 6) = true := by simp only [o8]; decide
   clear hT2 HT o5 o6 o7 o8
   go_wp2_with fail
   have HF6 := znM (HF5.out.set (Nat.le_of_lt hS) HS5.out (by decide) (by decide) 1 (.int .i64 op))
   have HR6 := znM (zaJ HR5.out (p := ⟨S, 1, none⟩) (Nat.ne_of_lt hS) (.int .i64 op))
   have HS6 : Hid ((w5.setCell ⟨S, 1, none⟩ (.int .i64 op)).heap[S]? = some (.cells #[.string a, .int .i64 op, .slice none 0 0, .slice none 0 0, .int .i64 0] 24 (0, 0))) := zap HS5.out 1 _ rfl
   generalize w5.setCell ⟨S, 1, none⟩ (.int .i64 op) = w6 at HF6 HR6 HS6 |-
   clear HF5 HR5 HS5 c1 f1 l1
   refine (zex g s4 w6 HF6.out.par).mono ?_
   rintro e w7 ⟨rfl, hp7, hg7⟩
   have HF7 := znM (HF6.out.call hp7 hg7)
   have HR7 := znM (HF6.out.keeps (Nat.le_refl _) HR6.out hg7)
   have HS7 := znM (HF6.out.keeps (Nat.le_of_lt hS) HS6.out hg7)
   clear hp7 hg7 HF6 HR6 HS6
   go_wp2_with fail
   refine (zex g (zak s4).2 w7 HF7.out.par).mono ?_
   rintro e w8 ⟨rfl, hp8, hg8⟩
   have HF8 := znM (HF7.out.call hp8 hg8)
   have HR8 := znM (HF7.out.keeps (Nat.le_refl _) HR7.out hg8)
   have HS8 := znM (HF7.out.keeps (Nat.le_of_lt hS) HS7.out hg8)
   clear hp8 hg8 HF7 HR7 HS7
   have hS8 := HS8.out
   have c2 : ∀ ob : Obj, (w8.alloc ob).cell? ⟨S, 3, none⟩ = some (.slice none 0 0) := fun ob => (zab (zat hS8 ob) 3).trans rfl
   have f2 : ∀ ob : Obj, (w8.alloc ob).frozen? ⟨S, 3, none⟩ = false := fun ob => zag (zat hS8 ob) 3
   have l2 : ∀ (ob : Obj) (v : Value), ((w8.alloc ob).setCell ⟨S, 3, none⟩ v).cell? ⟨S, 1, none⟩ = some (.int .i64 op) := fun ob v => (zab (zbC (zat hS8 ob) 3 v) 1).trans rfl
   clear hS8
   go_wp2_with fail
   clear c2 f2 l2
   have HFa := znM (HF8.out.alloc (.cells #[.string (zak s4).1, .string (zak (zak s4).2).1] 9))
   have HRa := znM (zat HR8.out (.cells #[.string (zak s4).1, .string (zak (zak s4).2).1] 9))
   have HSa := znM (zat HS8.out (.cells #[.string (zak s4).1, .string (zak (zak s4).2).1] 9))
   have HVa : Hid (RS (w8.alloc (.cells #[.string (zak s4).1, .string (zak (zak s4).2).1] 9)) w.heap.size (.slice (some ⟨w8.heap.size, 0, none⟩) 2 2) [(zak s4).1, (zak (zak s4).2).1]) := zcG w8 w.heap.size [(zak s4).1, (zak (zak s4).2).1] HF8.out.grown.size (by simp)
   have HF9 := znM (HFa.out.set (Nat.le_of_lt hS) HSa.out (by decide) (by decide) 3 (.slice (some ⟨w8.heap.size, 0, none⟩) 2 2))
   have HR9 := znM (zaJ HRa.out (p := ⟨S, 3, none⟩) (Nat.ne_of_lt hS) (.slice (some ⟨w8.heap.size, 0, none⟩) 2 2))
   have HS9 : Hid (((w8.alloc (.cells #[.string (zak s4).1, .string (zak (zak s4).2).1] 9)).setCell ⟨S, 3, none⟩ (.slice (some ⟨w8.heap.size, 0, none⟩) 2 2)).heap[S]? = some (.cells #[.string a, .int .i64 op, .slice none 0 0, .slice (some ⟨w8.heap.size, 0, none⟩) 2 2, .int .i64 0] 24 (0, 0))) := zap HSa.out 3 _ rfl
   have HB9 := znM (Kd.R_set HVa.out HSa.out (by decide) 3 (.slice (some ⟨w8.heap.size, 0, none⟩) 2 2))
   clear HFa HRa HSa HVa HF8 HR8 HS8
   generalize (w8.alloc (.cells #[.string (zak s4).1, .string (zak (zak s4).2).1] 9)).setCell ⟨S, 3, none⟩ (.slice (some ⟨w8.heap.size, 0, none⟩) 2 2) = w9 at HF9 HR9 HS9 HB9 |-
   generalize (some (⟨w8.heap.size, 0, none⟩ : Addr)) = A3 at HS9 HB9 |-
   refine (zcx g (zak (zak s4).2).2 w9 HF9.out.par).mono ?_
   rintro e w10 ⟨rfl, hp10, hg10⟩
   have HF10 := znM (HF9.out.call hp10 hg10)
   have HR10 := znM (HF9.out.keeps (Nat.le_refl _) HR9.out hg10)
   have HS10 := znM (HF9.out.keeps (Nat.le_of_lt hS) HS9.out hg10)
   have HB10 := znM (zau HB9.out hg10 HL.out)
   clear hp10 hg10 HF9 HR9 HS9 HB9
   have hS10 := HS10.out
   have c2 : ∀ ob : Obj, (w10.alloc ob).cell? ⟨S, 2, none⟩ = some (.slice none 0 0) := fun ob => (zab (zat hS10 ob) 2).trans rfl
   have f2 : ∀ ob : Obj, (w10.alloc ob).frozen? ⟨S, 2, none⟩ = false := fun ob => zag (zat hS10 ob) 2
   have l2 : ∀ (ob : Obj) (v : Value), ((w10.alloc ob).setCell ⟨S, 2, none⟩ v).cell? ⟨S, 1, none⟩ = some (.int .i64 op) := fun ob v => (zab (zbC (zat hS10 ob) 2 v) 1).trans rfl
   clear hS10
   go_wp2_with fail
   clear c2 f2 l2
   have HFa := znM (HF10.out.alloc (.cells #[.string (zaj (zak (zak s4).2).2).1] 9))
   have HRa := znM (zat HR10.out (.cells #[.string (zaj (zak (zak s4).2).2).1] 9))
   have HSa := znM (zat HS10.out (.cells #[.string (zaj (zak (zak s4).2).2).1] 9))
   have HVa : Hid (RS (w10.alloc (.cells #[.string (zaj (zak (zak s4).2).2).1] 9)) w.heap.size (.slice (some ⟨w10.heap.size, 0, none⟩) 1 1) [(zaj (zak (zak s4).2).2).1]) := zcG w10 w.heap.size [(zaj (zak (zak s4).2).2).1] HF10.out.grown.size (by simp)
   have HF11 := znM (HFa.out.set (Nat.le_of_lt hS) HSa.out (by decide) (by decide) 2 (.slice (some ⟨w10.heap.size, 0, none⟩) 1 1))
   have HR11 := znM (zaJ HRa.out (p := ⟨S, 2, none⟩) (Nat.ne_of_lt hS) (.slice (some ⟨w10.heap.size, 0, none⟩) 1 1))
   have HS11 : Hid (((w10.alloc (.cells #[.string (zaj (zak (zak s4).2).2).1] 9)).setCell ⟨S, 2, none⟩ (.slice (some ⟨w10.heap.size, 0, none⟩) 1 1)).heap[S]? = some (.cells #[.string a, .int .i64 op, .slice (some ⟨w10.heap.size, 0, none⟩) 1 1, .slice A3 2 2, .int .i64 0] 24 (0, 0))) := zap HSa.out 2 _ rfl
   have HA11 := znM (Kd.R_set HVa.out HSa.out (by decide) 2 (.slice (some ⟨w10.heap.size, 0, none⟩) 1 1))
   have HB11 := znM (Kd.R_set (Kd.R_alloc HB10.out (.cells #[.string (zaj (zak (zak s4).2).2).1] 9)) HSa.out (by decide) 2 (.slice (some ⟨w10.heap.size, 0, none⟩) 1 1))
   clear HFa HRa HSa HVa HF10 HR10 HS10 HB10
   generalize (w10.alloc (.cells #[.string (zaj (zak (zak s4).2).2).1] 9)).setCell ⟨S, 2, none⟩ (.slice (some ⟨w10.heap.size, 0, none⟩) 1 1) = w11 at HF11 HR11 HS11 HB11 HA11 |-
   generalize (some (⟨w10.heap.size, 0, none⟩ : Addr)) = A2 at HS11 HA11 |-
   refine (zbf g 3 (by decide) semi (zaj (zak (zak s4).2).2).2 w11 HF11.out.par).mono ?_
   rintro e w12 ⟨rfl, hp12, hg12⟩
   have HF12 := znM (HF11.out.call hp12 hg12)
   have HR12 := znM (HF11.out.keeps (Nat.le_refl _) HR11.out hg12)
   have HS12 := znM (HF11.out.keeps (Nat.le_of_lt hS) HS11.out hg12)
   have HB12 := znM (zau HB11.out hg12 HL.out)
   have HA12 := znM (zau HA11.out hg12 HL.out)
   clear hp12 hg12 HF11 HR11 HS11 HB11 HA11
   have hSe := HS12.out
   have k0 : w12.cell? ⟨S, 0, none⟩ = some (.string a) := (zab hSe 0).trans rfl
   have k1 : w12.cell? ⟨S, 1, none⟩ = some (.int .i64 op) := (zab hSe 1).trans rfl
   have k2 : w12.cell? ⟨S, 2, none⟩ = some (.slice A2 1 1) := (zab hSe 2).trans rfl
   have k3 : w12.cell? ⟨S, 3, none⟩ = some (.slice A3 2 2) := (zab hSe 3).trans rfl
   have k4 : w12.cell? ⟨S, 4, none⟩ = some (.int .i64 0) := (zab hSe 4).trans rfl
   have hRe := HR12.out
   have r0 : w12.cell? ⟨w.heap.size, 0, none⟩ = some (.string ⟨#[]⟩) := (zab hRe 0).trans rfl
   have q0 := zag hRe 0
   have r1 : w12.cell? ⟨w.heap.size, 1, none⟩ = some (.int .i64 0) := (zab hRe 1).trans rfl
   have q1 := zag hRe 1
   have r2 : w12.cell? ⟨w.heap.size, 2, none⟩ = some (.slice none 0 0) := (zab hRe 2).trans rfl
   have q2 := zag hRe 2
   have r3 : w12.cell? ⟨w.heap.size, 3, none⟩ = some (.slice none 0 0) := (zab hRe 3).trans rfl
   have q3 := zag hRe 3
   have r4 : w12.cell? ⟨w.heap.size, 4, none⟩ = some (.int .i64 0) := (zab hRe 4).trans rfl
   have q4 := zag hRe 4
   clear hSe hRe
   go_wp2
   have hs := zbA (.string a) (.int .i64 op) (.slice A2 1 1) (.slice A3 2 2) (.int .i64 0) HR12.out
   have hF := HF12.out.set5 (Nat.le_refl _) (.string a) (.int .i64 op) (.slice A2 1 1) (.slice A3 2 2) (.int .i64 0) HR12.out (by decide) (by decide)
   have hA := RS.set5 HA12.out (.string a) (.int .i64 op) (.slice A2 1 1) (.slice A3 2 2) (.int .i64 0) HR12.out (by decide)
   have hB := RS.set5 HB12.out (.string a) (.int .i64 op) (.slice A2 1 1) (.slice A3 2 2) (.int .i64 0) HR12.out (by decide)
   clear k0 k1 k2 k3 k4 r0 r1 r2 r3 r4 q0 q1 q2 q3 q4
   unfold set5 at hs hF hA hB
   generalize ((((w12.setCell ⟨w.heap.size, 0, none⟩ (.string a)).setCell ⟨w.heap.size, 1, none⟩ (.int .i64 op)).setCell ⟨w.heap.size, 2, none⟩ (.slice A2 1 1)).setCell ⟨w.heap.size, 3, none⟩ (.slice A3 2 2)).setCell ⟨w.heap.size, 4, none⟩ (.int .i64 0) = wE at hs hF hA hB |-
   have g0 := (zab hs 0).trans rfl
   have g1 := (zab hs 1).trans rfl
   have g2 := (zab hs 2).trans rfl
   have g3 := (zab hs 3).trans rfl
   have g4 := (zab hs 4).trans rfl
   exact bodyPost_ret (v := .agg #[.string a, .int .i64 op, .slice A2 1 1, .slice A3 2 2, .int .i64 0]) (by simp [results, Tryz.results183, go_sem, g0, g1, g2, g3, g4]) rfl (by
    rw [HT2.out]
    exact ⟨_, _, rfl, hA, hB, hF.par, hF.grown⟩)
 by_cases o9 : op = 9
 . have hT2 : zay s = (⟨a, op, [(zaj (zaE 1 numB s4).2).1], [], numV (zaE 1 numB s4).1⟩, zaC 3 semi (zaj (zaE 1 numB s4).2).2) := by
    rw [HT.out]
    unfold argP zb4
    simp [o9]
   have HT2 := znM hT2
   have e5 : (op == 5) = false := by simp only [o9]; decide
   have e6 : (op == 6) = false := by simp only [o9]; decide
   have e7 : (op == 7) = false := by simp only [o9]; decide
   have e8 : (op == 8) = false := by simp only [o9]; decide
   have e9 : (op == 9) = true := by simp only [o9]; decide
   have n5 : (op != 5) = true := by simp only [o9]; decide
   have n6 : (op != 6) = true := by simp only [o9]; decide
   clear hT2 HT o5 o6 o7 o8 o9
   go_wp2_with fail
   have HF6 := znM (HF5.out.set (Nat.le_of_lt hS) HS5.out (by decide) (by decide) 1 (.int .i64 op))
   have HR6 := znM (zaJ HR5.out (p := ⟨S, 1, none⟩) (Nat.ne_of_lt hS) (.int .i64 op))
   have HS6 : Hid ((w5.setCell ⟨S, 1, none⟩ (.int .i64 op)).heap[S]? = some (.cells #[.string a, .int .i64 op, .slice none 0 0, .slice none 0 0, .int .i64 0] 24 (0, 0))) := zap HS5.out 1 _ rfl
   generalize w5.setCell ⟨S, 1, none⟩ (.int .i64 op) = w6 at HF6 HR6 HS6 |-
   clear HF5 HR5 HS5 c1 f1 l1
   have HF6g := znM HF6.out.par.good
   refine (zhy g _ zi0 numB 1 (by decide) s4 w6 HF6.out.par (zjH _ (zgK HF6.out.par.good) _ HF6.out.par.gk)).mono ?_
   rintro e w7 ⟨rfl, hp7, hg7⟩
   have HF7 := znM (HF6.out.call hp7 hg7)
   have HR7 := znM (HF6.out.keeps (Nat.le_refl _) HR6.out hg7)
   have HS7 := znM (HF6.out.keeps (Nat.le_of_lt hS) HS6.out hg7)
   clear hp7 hg7 HF6 HR6 HS6
   go_wp2_with fail
   refine (mint_GetNumber.calls (zaE 1 numB s4).1 2000 (numV (zaE 1 numB s4).1) (numB (zaE 1 numB s4).1) w7 HF7.out.par.gk (num_f (zlL HF6g.out))).mono ?_
   rintro e w8 ⟨rfl, hb8⟩
   have HF8 := znM (HF7.out.below hb8)
   have HR8 := znM (zah HR7.out hb8)
   have HS8 := znM (zah HS7.out hb8)
   clear hb8 HF7 HR7 HS7
   generalize numV (zaE 1 numB s4).1 = nn at HT2 |-
   have hS8 := HS8.out
   have c2 : w8.cell? ⟨S, 4, none⟩ = some (.int .i64 0) := (zab hS8 4).trans rfl
   have f2 : w8.frozen? ⟨S, 4, none⟩ = false := zag hS8 4
   have l2 : ∀ v : Value, (w8.setCell ⟨S, 4, none⟩ v).cell? ⟨S, 1, none⟩ = some (.int .i64 op) := fun v => (zab (zbC hS8 4 v) 1).trans rfl
   clear hS8
   go_wp2_with fail
   clear c2 f2 l2
   have HF9 := znM (HF8.out.set (Nat.le_of_lt hS) HS8.out (by decide) (by decide) 4 (.int .i64 nn))
   have HR9 := znM (zaJ HR8.out (p := ⟨S, 4, none⟩) (Nat.ne_of_lt hS) (.int .i64 nn))
   have HS9 : Hid ((w8.setCell ⟨S, 4, none⟩ (.int .i64 nn)).heap[S]? = some (.cells #[.string a, .int .i64 op, .slice none 0 0, .slice none 0 0, .int .i64 nn] 24 (0, 0))) := zap HS8.out 4 _ rfl
   generalize w8.setCell ⟨S, 4, none⟩ (.int .i64 nn) = w9 at HF9 HR9 HS9 |-
   clear HF8 HR8 HS8
   refine (zcx g (zaE 1 numB s4).2 w9 HF9.out.par).mono ?_
   rintro e w10 ⟨rfl, hp10, hg10⟩
   have HF10 := znM (HF9.out.call hp10 hg10)
   have HR10 := znM (HF9.out.keeps (Nat.le_refl _) HR9.out hg10)
   have HS10 := znM (HF9.out.keeps (Nat.le_of_lt hS) HS9.out hg10)
   clear hp10 hg10 HF9 HR9 HS9
   have hS10 := HS10.out
   have c2 : ∀ ob : Obj, (w10.alloc ob).cell? ⟨S, 2, none⟩ = some (.slice none 0 0) := fun ob => (zab (zat hS10 ob) 2).trans rfl
   have f2 : ∀ ob : Obj, (w10.alloc ob).frozen? ⟨S, 2, none⟩ = false := fun ob => zag (zat hS10 ob) 2
   have l2 : ∀ (ob : Obj) (v : Value), ((w10.alloc ob).setCell ⟨S, 2, none⟩ v).cell? ⟨S, 1, none⟩ = some (.int .i64 op) := fun ob v => (zab (zbC (zat hS10 ob) 2 v) 1).trans rfl
   clear hS10
   go_wp2_with fail
   clear c2 f2 l2
   have HFa := znM (HF10.out.alloc (.cells #[.string (zaj (zaE 1 numB s4).2).1] 9))
   have HRa := znM (zat HR10.out (.cells #[.string (zaj (zaE 1 numB s4).2).1] 9))
   have HSa := znM (zat HS10.out (.cells #[.string (zaj (zaE 1 numB s4).2).1] 9))
   have HVa : Hid (RS (w10.alloc (.cells #[.string (zaj (zaE 1 numB s4).2).1] 9)) w.heap.size (.slice (some ⟨w10.heap.size, 0, none⟩) 1 1) [(zaj (zaE 1 numB s4).2).1]) := zcG w10 w.heap.size [(zaj (zaE 1 numB s4).2).1] HF10.out.grown.size (by simp)
   have HF11 := znM (HFa.out.set (Nat.le_of_lt hS) HSa.out (by decide) (by decide) 2 (.slice (some ⟨w10.heap.size, 0, none⟩) 1 1))
   have HR11 := znM (zaJ HRa.out (p := ⟨S, 2, none⟩) (Nat.ne_of_lt hS) (.slice (some ⟨w10.heap.size, 0, none⟩) 1 1))
   have HS11 : Hid (((w10.alloc (.cells #[.string (zaj (zaE 1 numB s4).2).1] 9)).setCell ⟨S, 2, none⟩ (.slice (some ⟨w10.heap.size, 0, none⟩) 1 1)).heap[S]? = some (.cells #[.string a, .int .i64 op, .slice (some ⟨w10.heap.size, 0, none⟩) 1 1, .slice none 0 0, .int .i64 nn] 24 (0, 0))) := zap HSa.out 2 _ rfl
   have HA11 := znM (Kd.R_set HVa.out HSa.out (by decide) 2 (.slice (some ⟨w10.heap.size, 0, none⟩) 1 1))
   clear HFa HRa HSa HVa HF10 HR10 HS10
   generalize (w10.alloc (.cells #[.string (zaj (zaE 1 numB s4).2).1] 9)).setCell ⟨S, 2, none⟩ (.slice (some ⟨w10.heap.size, 0, none⟩) 1 1) = w11 at HF11 HR11 HS11 HA11 |-
   generalize (some (⟨w10.heap.size, 0, none⟩ : Addr)) = A2 at HS11 HA11 |-
   refine (zbf g 3 (by decide) semi (zaj (zaE 1 numB s4).2).2 w11 HF11.out.par).mono ?_
   rintro e w12 ⟨rfl, hp12, hg12⟩
   have HF12 := znM (HF11.out.call hp12 hg12)
   have HR12 := znM (HF11.out.keeps (Nat.le_refl _) HR11.out hg12)
   have HS12 := znM (HF11.out.keeps (Nat.le_of_lt hS) HS11.out hg12)
   have HA12 := znM (zau HA11.out hg12 HL.out)
   clear hp12 hg12 HF11 HR11 HS11 HA11
   have hSe := HS12.out
   have k0 : w12.cell? ⟨S, 0, none⟩ = some (.string a) := (zab hSe 0).trans rfl
   have k1 : w12.cell? ⟨S, 1, none⟩ = some (.int .i64 op) := (zab hSe 1).trans rfl
   have k2 : w12.cell? ⟨S, 2, none⟩ = some (.slice A2 1 1) := (zab hSe 2).trans rfl
   have k3 : w12.cell? ⟨S, 3, none⟩ = some (.slice none 0 0) := (zab hSe 3).trans rfl
   have k4 : w12.cell? ⟨S, 4, none⟩ = some (.int .i64 nn) := (zab hSe 4).trans rfl
   have hRe := HR12.out
   have r0 : w12.cell? ⟨w.heap.size, 0, none⟩ = some (.string ⟨#[]⟩) := (zab hRe 0).trans rfl
   have q0 := zag hRe 0
   have r1 : w12.cell? ⟨w.heap.size, 1, none⟩ = some (.int .i64 0) := (zab hRe 1).trans rfl
   have q1 := zag hRe 1
   have r2 : w12.cell? ⟨w.heap.size, 2, none⟩ = some (.slice none 0 0) := (zab hRe 2).trans rfl
   have q2 := zag hRe 2
   have r3 : w12.cell? ⟨w.heap.size, 3, none⟩ = some (.slice none 0 0) := (zab hRe 3).trans rfl
   have q3 := zag hRe 3
   have r4 : w12.cell? ⟨w.heap.size, 4, none⟩ = some (.int .i64 0) := (zab hRe 4).trans rfl
   have q4 := zag hRe 4
   clear hSe hRe
   go_wp2
   have hs := zbA (.string a) (.int .i64 op) (.slice A2 1 1) (.slice none 0 0) (.int .i64 nn) HR12.out
   have hF := HF12.out.set5 (Nat.le_refl _) (.string a) (.int .i64 op) (.slice A2 1 1) (.slice none 0 0) (.int .i64 nn) HR12.out (by decide) (by decide)
   have hA := RS.set5 HA12.out (.string a) (.int .i64 op) (.slice A2 1 1) (.slice none 0 0) (.int .i64 nn) HR12.out (by decide)
   have hB := RS.set5 (Kd.R_nil _ _ _ _ _ : RS w12 w.heap.size (.slice none 0 0) []) (.string a) (.int .i64 op) (.slice A2 1 1) (.slice none 0 0) (.int .i64 nn) HR12.out (by decide)
   clear k0 k1 k2 k3 k4 r0 r1 r2 r3 r4 q0 q1 q2 q3 q4
   unfold set5 at hs hF hA hB
   generalize ((((w12.setCell ⟨w.heap.size, 0, none⟩ (.string a)).setCell ⟨w.heap.size, 1, none⟩ (.int .i64 op)).setCell ⟨w.heap.size, 2, none⟩ (.slice A2 1 1)).setCell ⟨w.heap.size, 3, none⟩ (.slice none 0 0)).setCell ⟨w.heap.size, 4, none⟩ (.int .i64 nn) = wE at hs hF hA hB |-
   have g0 := (zab hs 0).trans rfl
   have g1 := (zab hs 1).trans rfl
   have g2 := (zab hs 2).trans rfl
   have g3 := (zab hs 3).trans rfl
   have g4 := (zab hs 4).trans rfl
   exact bodyPost_ret (v := .agg #[.string a, .int .i64 op, .slice A2 1 1, .slice none 0 0, .int .i64 nn]) (by simp [results, Tryz.results183, go_sem, g0, g1, g2, g3, g4]) rfl (by
    rw [HT2.out]
    exact ⟨_, _, rfl, hA, hB, hF.par, hF.grown⟩)
 have hT2 : zay s = (⟨a, op, [(zaj s4).1], [], 0⟩, zaC 3 semi (zaj s4).2) := by
  rw [HT.out]
  unfold argP zb4
  simp [o5, o6, o7, o8, o9]
 have HT2 := znM hT2
 have e5 : (op == 5) = false := by simpa using o5
 have e6 : (op == 6) = false := by simpa using o6
 have e7 : (op == 7) = false := by simpa using o7
 have e8 : (op == 8) = false := by simpa using o8
 have e9 : (op == 9) = false := by simpa using o9
 have n5 : (op != 5) = true := by simpa using o5
 have n6 : (op != 6) = true := by simpa using o6
 clear hT2 HT o5 o6 o7 o8 o9
 go_wp2_with fail
 have HF6 := znM (HF5.out.set (Nat.le_of_lt hS) HS5.out (by decide) (by decide) 1 (.int .i64 op))
 have HR6 := znM (zaJ HR5.out (p := ⟨S, 1, none⟩) (Nat.ne_of_lt hS) (.int .i64 op))
 have HS6 : Hid ((w5.setCell ⟨S, 1, none⟩ (.int .i64 op)).heap[S]? = some (.cells #[.string a, .int .i64 op, .slice none 0 0, .slice none 0 0, .int .i64 0] 24 (0, 0))) := zap HS5.out 1 _ rfl
 generalize w5.setCell ⟨S, 1, none⟩ (.int .i64 op) = w6 at HF6 HR6 HS6 |-
 clear HF5 HR5 HS5 c1 f1 l1
 refine (zcx g s4 w6 HF6.out.par).mono ?_
 rintro e w7 ⟨rfl, hp7, hg7⟩
 have HF7 := znM (HF6.out.call hp7 hg7)
 have HR7 := znM (HF6.out.keeps (Nat.le_refl _) HR6.out hg7)
 have HS7 := znM (HF6.out.keeps (Nat.le_of_lt hS) HS6.out hg7)
 clear hp7 hg7 HF6 HR6 HS6
 have hS7 := HS7.out
 have c2 : ∀ ob : Obj, (w7.alloc ob).cell? ⟨S, 2, none⟩ = some (.slice none 0 0) := fun ob => (zab (zat hS7 ob) 2).trans rfl
 have f2 : ∀ ob : Obj, (w7.alloc ob).frozen? ⟨S, 2, none⟩ = false := fun ob => zag (zat hS7 ob) 2
 have l2 : ∀ (ob : Obj) (v : Value), ((w7.alloc ob).setCell ⟨S, 2, none⟩ v).cell? ⟨S, 1, none⟩ = some (.int .i64 op) := fun ob v => (zab (zbC (zat hS7 ob) 2 v) 1).trans rfl
 clear hS7
 go_wp2_with fail
 clear c2 f2 l2
 have HFa := znM (HF7.out.alloc (.cells #[.string (zaj s4).1] 9))
 have HRa := znM (zat HR7.out (.cells #[.string (zaj s4).1] 9))
 have HSa := znM (zat HS7.out (.cells #[.string (zaj s4).1] 9))
 have HVa : Hid (RS (w7.alloc (.cells #[.string (zaj s4).1] 9)) w.heap.size (.slice (some ⟨w7.heap.size, 0, none⟩) 1 1) [(zaj s4).1]) := zcG w7 w.heap.size [(zaj s4).1] HF7.out.grown.size (by simp)
 have HF8 := znM (HFa.out.set (Nat.le_of_lt hS) HSa.out (by decide) (by decide) 2 (.slice (some ⟨w7.heap.size, 0, none⟩) 1 1))
 have HR8 := znM (zaJ HRa.out (p := ⟨S, 2, none⟩) (Nat.ne_of_lt hS) (.slice (some ⟨w7.heap.size, 0, none⟩) 1 1))
 have HS8 : Hid (((w7.alloc (.cells #[.string (zaj s4).1] 9)).setCell ⟨S, 2, none⟩ (.slice (some ⟨w7.heap.size, 0, none⟩) 1 1)).heap[S]? = some (.cells #[.string a, .int .i64 op, .slice (some ⟨w7.heap.size, 0, none⟩) 1 1, .slice none 0 0, .int .i64 0] 24 (0, 0))) := zap HSa.out 2 _ rfl
 have HA8 := znM (Kd.R_set HVa.out HSa.out (by decide) 2 (.slice (some ⟨w7.heap.size, 0, none⟩) 1 1))
 clear HFa HRa HSa HVa HF7 HR7 HS7
 generalize (w7.alloc (.cells #[.string (zaj s4).1] 9)).setCell ⟨S, 2, none⟩ (.slice (some ⟨w7.heap.size, 0, none⟩) 1 1) = w8 at HF8 HR8 HS8 HA8 |-
 generalize (some (⟨w7.heap.size, 0, none⟩ : Addr)) = A2 at HS8 HA8 |-
 refine (zbf g 3 (by decide) semi (zaj s4).2 w8 HF8.out.par).mono ?_
 rintro e w9 ⟨rfl, hp9, hg9⟩
 have HF9 := znM (HF8.out.call hp9 hg9)
 have HR9 := znM (HF8.out.keeps (Nat.le_refl _) HR8.out hg9)
 have HS9 := znM (HF8.out.keeps (Nat.le_of_lt hS) HS8.out hg9)
 have HA9 := znM (zau HA8.out hg9 HL.out)
 clear hp9 hg9 HF8 HR8 HS8 HA8
 have hSe := HS9.out
 have k0 : w9.cell? ⟨S, 0, none⟩ = some (.string a) := (zab hSe 0).trans rfl
 have k1 : w9.cell? ⟨S, 1, none⟩ = some (.int .i64 op) := (zab hSe 1).trans rfl
 have k2 : w9.cell? ⟨S, 2, none⟩ = some (.slice A2 1 1) := (zab hSe 2).trans rfl
 have k3 : w9.cell? ⟨S, 3, none⟩ = some (.slice none 0 0) := (zab hSe 3).trans rfl
 have k4 : w9.cell? ⟨S, 4, none⟩ = some (.int .i64 0) := (zab hSe 4).trans rfl
 have hRe := HR9.out
 have r0 : w9.cell? ⟨w.heap.size, 0, none⟩ = some (.string ⟨#[]⟩) := (zab hRe 0).trans rfl
 have q0 := zag hRe 0
 have r1 : w9.cell? ⟨w.heap.size, 1, none⟩ = some (.int .i64 0) := (zab hRe 1).trans rfl
 have q1 := zag hRe 1
 have r2 : w9.cell? ⟨w.heap.size, 2, none⟩ = some (.slice none 0 0) := (zab hRe 2).trans rfl
 have q2 := zag hRe 2
 have r3 : w9.cell? ⟨w.heap.size, 3, none⟩ = some (.slice none 0 0) := (zab hRe 3).trans rfl
 have q3 := zag hRe 3
 have r4 : w9.cell? ⟨w.heap.size, 4, none⟩ = some (.int .i64 0) := (zab hRe 4).trans rfl
 have q4 := zag hRe 4
 clear hSe hRe
 go_wp2
 have hs := zbA (.string a) (.int .i64 op) (.slice A2 1 1) (.slice none 0 0) (.int .i64 0) HR9.out
 have hF := HF9.out.set5 (Nat.le_refl _) (.string a) (.int .i64 op) (.slice A2 1 1) (.slice none 0 0) (.int .i64 0) HR9.out (by decide) (by decide)
 have hA := RS.set5 HA9.out (.string a) (.int .i64 op) (.slice A2 1 1) (.slice none 0 0) (.int .i64 0) HR9.out (by decide)
 have hB := RS.set5 (Kd.R_nil _ _ _ _ _ : RS w9 w.heap.size (.slice none 0 0) []) (.string a) (.int .i64 op) (.slice A2 1 1) (.slice none 0 0) (.int .i64 0) HR9.out (by decide)
 clear k0 k1 k2 k3 k4 r0 r1 r2 r3 r4 q0 q1 q2 q3 q4
 unfold set5 at hs hF hA hB
 generalize ((((w9.setCell ⟨w.heap.size, 0, none⟩ (.string a)).setCell ⟨w.heap.size, 1, none⟩ (.int .i64 op)).setCell ⟨w.heap.size, 2, none⟩ (.slice A2 1 1)).setCell ⟨w.heap.size, 3, none⟩ (.slice none 0 0)).setCell ⟨w.heap.size, 4, none⟩ (.int .i64 0) = wE at hs hF hA hB |-
 have g0 := (zab hs 0).trans rfl
 have g1 := (zab hs 1).trans rfl
 have g2 := (zab hs 2).trans rfl
 have g3 := (zab hs 3).trans rfl
 have g4 := (zab hs 4).trans rfl
 exact bodyPost_ret (v := .agg #[.string a, .int .i64 op, .slice A2 1 1, .slice none 0 0, .int .i64 0]) (by simp [results, Tryz.results183, go_sem, g0, g1, g2, g3, g4]) rfl (by
  rw [HT2.out]
  exact ⟨_, _, rfl, hA, hB, hF.par, hF.grown⟩)

end Go.Proofs.YtdpgdnpddndeoaaGreatDoor.X
