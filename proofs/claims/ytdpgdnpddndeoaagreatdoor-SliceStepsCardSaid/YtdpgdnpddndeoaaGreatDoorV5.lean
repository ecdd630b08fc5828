/-
  What the cards lean on (part V5): contracts of functions, by hand, and plain laws; what is printed by the kit's print for this seat is among them. What is not reached is left out.
-/
import Derived.Deep.RegionLaw
import Derived.RangeFuncBox
import Derived.RangeFuncLeaves
import Derived.RangeFuncNested
import Derived.RangeFuncBound
import Derived.RangeFuncCalls
import Derived.Shelf.Abstract
import Derived.OwnWalkIn
import Derived.TacticsInMore
import Derived.LoopNIn
import Derived.LoopIn
import Derived.Maps.AppendAt
import Derived.Sort.OwnSorted
import Derived.Lib.Replace
import Derived.Test.YtdpgdnpddndeoaaGreatDoorV4
import Derived.Test.YtdpgdnpddndeoaaGreatDoorV0
set_option maxHeartbeats 8000000
set_option maxRecDepth 100000
set_option linter.unusedSimpArgs false
set_option linter.unusedVariables false
open Go.RowKit.Below renaming refl -> zpw
open Nat renaming le_refl -> zpx, le_trans -> zpD, le_of_lt -> zqB, ne_of_lt -> zqG, add_le_add_right -> zqH
open Go.Lib renaming size_eq -> zqc
open Option renaming map_eq_some_iff -> zpC
open List renaming length_map -> zqe, length_append -> zpK, length_singleton -> zpL, length_drop -> zpR, drop_zero -> zqA, length_cons -> zqh, nil_append -> zqC, append_nil -> zqD, mem_cons -> zqE, length_nil -> zqF, length_pos_iff -> zqz, drop_succ_cons -> zqI
open Go.Proofs.Tryz renaming prog -> zp5
open ByteArray renaming empty -> zqa
open Go.Proofs.YtdpgdnpddndeoaaGreatDoorW.PrintWords.Kd renaming R_reads -> zqq, R_below -> zqu, R_lower -> zqJ, R_set -> zqK
namespace Go.Proofs.YtdpgdnpddndeoaaGreatDoor
namespace X
open Go.RowKit Go.Maps YtdpgdnpddndeoaaGreatDoorW.PrintWords YtdpgdnpddndeoaaGreatDoorW.PrintMore YtdpgdnpddndeoaaGreatDoorW.PrintLast
structure Fly (w : World) (g : Nat) (W : World) (s : PS) : Prop where
 par : PAR W g s
 grown : w.grownBy W (some g)
 lt : g < w.heap.size
theorem Fly.start {w : World} {g : Nat} {s : PS} (h : PAR w g s) : Fly w g w s := ⟨h, World.grownBy.refl _ _, h.has.lt⟩
theorem Fly.call {w W W1 : World} {g : Nat} {s s1 : PS} (h : Fly w g W s) (hp : PAR W1 g s1) (hg : W.grownBy W1 (some g)) : Fly w g W1 s1 := ⟨hp, zcJ h.grown hg, h.lt⟩
theorem Fly.below {w W W1 : World} {g : Nat} {s : PS} (h : Fly w g W s) (hb : Below W.heap.size W W1) : Fly w g W1 s := ⟨h.par.below hb, zcJ h.grown (zb0 hb _), h.lt⟩
theorem Fly.alloc {w W : World} {g : Nat} {s : PS} (h : Fly w g W s) (ob : Obj) : Fly w g (W.alloc ob) s := h.below ((zpw _ _).alloc (zpx _) ob)
theorem Fly.set {w W : World} {g : Nat} {s : PS} (h : Fly w g W s) {S : Nat} (hS : w.heap.size <= S) {cs : Array Value} {t : Nat} (hb : W.heap[S]? = some (.cells cs t (0, 0))) (h1 : 169 ≠ t) (h2 : 139 ≠ t) (j : Nat) (u : Value) : Fly w g (W.setCell ⟨S, j, none⟩ u) s := by
 have hbel : Below w.heap.size W (W.setCell ⟨S, j, none⟩ u) := (zpw _ _).setCell hS u; refine ⟨⟨h.par.has.set hb h1 h2 j u, ?_, h.par.good, h.par.len⟩, zey h.grown hbel, h.lt⟩; obtain ⟨w0, h0, h3, hb0⟩ := h.par.gok; exact ⟨w0, h0, h3, hb0.trans (hbel.mono (by have := h.lt; omega))⟩
theorem Fly.row {w W W1 : World} {g : Nat} {s : PS} (h : Fly w g W s) {e size n base : Nat} {v : Value} {xs : List Value} (ho : W.ownsRow base e size v n xs) (h1 : e ≠ 169) (h2 : e ≠ 139) (hbase : w.heap.size <= base) (hb : Below base W W1) (hg : W.grownBy W1 v.ownBlock) : Fly w g W1 s := by
 have hbel := hb.mono hbase; refine ⟨⟨h.par.has.row ho h1 h2 hg, ?_, h.par.good, h.par.len⟩, zey h.grown hbel, h.lt⟩; obtain ⟨w0, h0, h3, hb0⟩ := h.par.gok; exact ⟨w0, h0, h3, hb0.trans (hbel.mono (by have := h.lt; omega))⟩
theorem Fly.keeps {w W W1 : World} {g : Nat} {s : PS} (h : Fly w g W s) {S : Nat} (hS : w.heap.size <= S) {o : Obj} (hb : W.heap[S]? = some o) (hg : W.grownBy W1 (some g)) : W1.heap[S]? = some o :=
 zaY hb hg (fun e => by injection e with e; have := h.lt; omega)
theorem znP (t : ByteArray) (w : World) : Calls zp5 115 #[.string t] w fun e w' => e = .returned (.int .i64 (opF t)) /\ Below w.heap.size w w' :=
 (zfO t w).mono fun _ _ ⟨he, hw⟩ => ⟨he, by rw [hw]; exact (zpw _ _).alloc (zpx _) _⟩
theorem zel (W : World) (base : Nat) (l : List ByteArray) (hb : base <= W.heap.size) (hl : l.length <= 9223372036854775807) : RS (W.alloc (.cells (encs Value.string l).toArray 9)) base (.slice (some ⟨W.heap.size, 0, none⟩) l.length l.length) l :=
 Kd.R_of_own (h1 := fun _ => rfl) (zfp (enc := Value.string) W base 9 l hb hl) (fun _ _ => trivial)
abbrev set5 (w : World) (R : Nat) (v0 v1 v2 v3 v4 : Value) : World := ((((w.setCell ⟨R, 0, none⟩ v0).setCell ⟨R, 1, none⟩ v1).setCell ⟨R, 2, none⟩ v2).setCell ⟨R, 3, none⟩ v3).setCell ⟨R, 4, none⟩ v4
theorem zcl {w : World} {R t : Nat} {x0 x1 x2 x3 x4 : Value} (v0 v1 v2 v3 v4 : Value) (h : w.heap[R]? = some (.cells #[x0, x1, x2, x3, x4] t (0, 0))) : (set5 w R v0 v1 v2 v3 v4).heap[R]? = some (.cells #[v0, v1, v2, v3, v4] t (0, 0)) :=
 zav (zav (zav (zav (zav h 0 v0 rfl) 1 v1 rfl) 2 v2 rfl) 3 v3 rfl) 4 v4 rfl
theorem Fly.set5 {w W : World} {g : Nat} {s : PS} (h : Fly w g W s) {S : Nat} (hS : w.heap.size <= S) {t : Nat} {x0 x1 x2 x3 x4 : Value} (v0 v1 v2 v3 v4 : Value) (hb : W.heap[S]? = some (.cells #[x0, x1, x2, x3, x4] t (0, 0))) (h1 : 169 ≠ t) (h2 : 139 ≠ t) : Fly w g (set5 W S v0 v1 v2 v3 v4) s :=
 ((((h.set hS hb h1 h2 0 v0).set hS (zav hb 0 v0 rfl) h1 h2 1 v1).set hS (zav (zav hb 0 v0 rfl) 1 v1 rfl) h1 h2 2 v2).set hS (zav (zav (zav hb 0 v0 rfl) 1 v1 rfl) 2 v2 rfl) h1 h2 3 v3).set hS (zav (zav (zav (zav hb 0 v0 rfl) 1 v1 rfl) 2 v2 rfl) 3 v3 rfl) h1 h2 4 v4
theorem zdz {α : Type} {d : Kd α} {e base : Nat} {v : Value} {xs : List α} {W : World} (h : d.R e W base (fun _ => True) v xs) {S t : Nat} {x0 x1 x2 x3 x4 : Value} (v0 v1 v2 v3 v4 : Value) (hb : W.heap[S]? = some (.cells #[x0, x1, x2, x3, x4] t (0, 0))) (ht : ∀ q, q ∈ e :: d.E -> q ≠ t) : d.R e (set5 W S v0 v1 v2 v3 v4) base (fun _ => True) v xs :=
 zqK (zqK (zqK (zqK (zqK h hb ht 0 v0) (zav hb 0 v0 rfl) ht 1 v1) (zav (zav hb 0 v0 rfl) 1 v1 rfl) ht 2 v2) (zav (zav (zav hb 0 v0 rfl) 1 v1 rfl) 2 v2 rfl) ht 3 v3) (zav (zav (zav (zav hb 0 v0 rfl) 1 v1 rfl) 2 v2 rfl) 3 v3 rfl) ht 4 v4
theorem RS.set5 {base : Nat} {v : Value} {xs : List ByteArray} {W : World} (h : RS W base v xs) {S t : Nat} {x0 x1 x2 x3 x4 : Value} (v0 v1 v2 v3 v4 : Value) (hb : W.heap[S]? = some (.cells #[x0, x1, x2, x3, x4] t (0, 0))) (ht : ∀ q, q ∈ [9] -> q ≠ t) : RS (set5 W S v0 v1 v2 v3 v4) base v xs := zdz h v0 v1 v2 v3 v4 hb ht
theorem zhi {s : PS} (h : GoodW s.1) : (zay s.1).f2.size <= 100000 := by
 obtain ⟨l, d⟩ := s; match l, h.ne, h with
 | x :: r, _, h => exact (h.2 x (by simp)).2.2
theorem zkq {k : Int} {p : ByteArray -> Bool} {s : PS} (h : GoodW s.1) : (zaI k p s).1.size <= 100000 := by
 unfold zaI; split
 . exact zhi h
 . show (0 : Nat) <= 100000
   omega
theorem num_f {t : ByteArray} (h : t.size <= 100000) : mint_GetNumber.f t 2000 = some (numV t, numB t) := by
 unfold mint_GetNumber.f; rw [if_pos (by omega)]
 rfl
def mS (s : PS) : Nat := s.1.length + (if s.2 < 0 then 1 else 0)
theorem zcI (s : PS) : mS s <= s.1.length + 1 := by unfold mS; split <;> omega
theorem zfU {s : PS} (hg : GoodW s.1) (hs : s.2 < 0) : mS (zar s).2 < mS s := by
 have hm : mS s = s.1.length + 1 := by unfold mS; rw [if_pos hs]
 have hpos : 0 < s.1.length := zqz.2 hg.ne; unfold zar zaI; by_cases h : mayP 1 zdL s = true
 . rw [if_pos h, hm]
   have : mS (s.1.tail, s.2) <= s.1.tail.length + 1 := zcI (s.1.tail, s.2); rw [List.length_tail] at this; exact Nat.lt_of_le_of_lt this (by omega)
 . rw [if_neg h, hm]
   unfold mS zbD; rw [if_pos hs]; have : ¬ (zay s.1).f1 < 0 := by
    obtain ⟨l, d⟩ := s; match l, hg.ne, hg with
    | x :: r, _, hg => have := (hg.2 x (by simp)).1; show ¬ x.f1 < 0; omega
   dsimp only; rw [if_neg this]; omega
theorem zf1 : ∀ (n m : Nat) (s : PS), GoodW s.1 -> mS s <= n -> mS s <= m -> za7 n s = za7 m s
 | 0, 0, _, _, _, _ => rfl
 | 0, m + 1, s, hg, h, _ => by
  unfold za7; rw [if_neg (fun hc => by have := zqz.2 hg.ne; unfold mS at h; omega)]
 | n + 1, 0, s, hg, _, h => by
  unfold za7; rw [if_neg (fun hc => by have := zqz.2 hg.ne; unfold mS at h; omega)]
 | n + 1, m + 1, s, hg, h1, h2 => by
  unfold za7; by_cases hc : s.2 < 0 /\ (zay s.1).f0 = 1
  . rw [if_pos hc, if_pos hc]
    have := zfU hg hc.1; rw [zf1 n m _ (inv_good.name hg) (by omega) (by omega)]
  . rw [if_neg hc, if_neg hc]
abbrev STz : Array Value := #[.string ⟨#[]⟩, .int .i64 0, .slice none 0 0, .slice none 0 0, .int .i64 0]
structure StSt (w : World) (g S : Nat) (a : ByteArray) (op : Int) (W : World) (q : PS) (l2 l3 : List ByteArray) (nn : Int) (A2 : Option Addr) (c2 : Nat) (A3 : Option Addr) (c3 : Nat) : Prop where
 F : Fly w g W q
 R : W.heap[w.heap.size]? = some (.cells STz 24 (0, 0))
 hS : w.heap.size < S
 K : W.heap[S]? = some (.cells #[.string a, .int .i64 op, .slice A2 l2.length c2, .slice A3 l3.length c3, .int .i64 nn] 24 (0, 0))
 r2 : RS W w.heap.size (.slice A2 l2.length c2) l2
 r3 : RS W w.heap.size (.slice A3 l3.length c3) l3
section
variable {w W W1 : World} {g S : Nat} {a : ByteArray} {op nn : Int} {q q1 : PS} {l2 l3 : List ByteArray} {A2 A3 : Option Addr} {c2 c3 : Nat}
theorem StSt.call (h : StSt w g S a op W q l2 l3 nn A2 c2 A3 c3) (hp : PAR W1 g q1) (hg : W.grownBy W1 (some g)) : StSt w g S a op W1 q1 l2 l3 nn A2 c2 A3 c3 :=
 ⟨h.F.call hp hg, h.F.keeps (zpx _) h.R hg, h.hS, h.F.keeps (zqB h.hS) h.K hg, zbc h.r2 hg h.F.lt, zbc h.r3 hg h.F.lt⟩
theorem StSt.below (h : StSt w g S a op W q l2 l3 nn A2 c2 A3 c3) (hb : Below W.heap.size W W1) : StSt w g S a op W1 q l2 l3 nn A2 c2 A3 c3 :=
 ⟨h.F.below hb, zai h.R hb, h.hS, zai h.K hb, zqu h.r2 hb, zqu h.r3 hb⟩
theorem StSt.num (h : StSt w g S a op W q l2 l3 nn A2 c2 A3 c3) (k : Int) : StSt w g S a op (W.setCell ⟨S, 4, none⟩ (.int .i64 k)) q l2 l3 k A2 c2 A3 c3 :=
 ⟨h.F.set (zqB h.hS) h.K (by decide) (by decide) 4 _, zaP h.R (p := ⟨S, 4, none⟩) (zqG h.hS) _, h.hS, zav h.K 4 _ rfl, zqK h.r2 h.K (by decide) 4 _, zqK h.r3 h.K (by decide) 4 _⟩
theorem StSt.put3 (h : StSt w g S a op W q l2 l3 nn A2 c2 A3 c3) {A : Option Addr} {c : Nat} {l : List ByteArray} (hr : RS W w.heap.size (.slice A l.length c) l) : StSt w g S a op (W.setCell ⟨S, 3, none⟩ (.slice A l.length c)) q l2 l nn A2 c2 A c :=
 ⟨h.F.set (zqB h.hS) h.K (by decide) (by decide) 3 _, zaP h.R (p := ⟨S, 3, none⟩) (zqG h.hS) _, h.hS, zav h.K 3 _ rfl, zqK h.r2 h.K (by decide) 3 _, zqK hr h.K (by decide) 3 _⟩
theorem StSt.put2 (h : StSt w g S a op W q l2 l3 nn A2 c2 A3 c3) {A : Option Addr} {c : Nat} {l : List ByteArray} (hr : RS W w.heap.size (.slice A l.length c) l) : StSt w g S a op (W.setCell ⟨S, 2, none⟩ (.slice A l.length c)) q l l3 nn A c A3 c3 :=
 ⟨h.F.set (zqB h.hS) h.K (by decide) (by decide) 2 _, zaP h.R (p := ⟨S, 2, none⟩) (zqG h.hS) _, h.hS, zav h.K 2 _ rfl, zqK hr h.K (by decide) 2 _, zqK h.r3 h.K (by decide) 2 _⟩
theorem StSt.cells (h : StSt w g S a op W q l2 l3 nn A2 c2 A3 c3) : (∀ ob : Obj, (W.alloc ob).cell? ⟨S, 2, none⟩ = some (.slice A2 l2.length c2) /\ (W.alloc ob).frozen? ⟨S, 2, none⟩ = false /\ (W.alloc ob).cell? ⟨S, 3, none⟩ = some (.slice A3 l3.length c3) /\ (W.alloc ob).frozen? ⟨S, 3, none⟩ = false) /\
 W.cell? ⟨S, 0, none⟩ = some (.string a) /\ W.cell? ⟨S, 1, none⟩ = some (.int .i64 op) /\ W.cell? ⟨S, 2, none⟩ = some (.slice A2 l2.length c2) /\ W.cell? ⟨S, 3, none⟩ = some (.slice A3 l3.length c3) /\ W.cell? ⟨S, 4, none⟩ = some (.int .i64 nn) /\ W.frozen? ⟨S, 4, none⟩ = false :=
 ⟨fun ob => ⟨(zah (zaQ h.K ob) 2).trans rfl, zak (zaQ h.K ob) 2, (zah (zaQ h.K ob) 3).trans rfl, zak (zaQ h.K ob) 3⟩, (zah h.K 0).trans rfl, (zah h.K 1).trans rfl, (zah h.K 2).trans rfl, (zah h.K 3).trans rfl, (zah h.K 4).trans rfl, zak h.K 4⟩
end
theorem zlY (g : Nat) (s : PS) (w : World) (h : PAR w g s) :
 Calls zp5 183 #[.pointer (some ⟨g, 0, none⟩)] w fun e w' => ∃ v2 v3, e = .returned (.agg #[.string (za0 s).1.f0, .int .i64 (za0 s).1.f1, v2, v3, .int .i64 (za0 s).1.f4]) /\
  RS w' w.heap.size v2 (za0 s).1.f2 /\ RS w' w.heap.size v3 (za0 s).1.f3 /\ PAR w' g (za0 s).2 /\ w.grownBy w' (some g) := by
 have hF0 := (Fly.start h).alloc (.cells STz 24); have hlt := h.has.lt; have HL := zpt hlt; have HT : Hid (za0 s = zeY (zar s).1 (zaI 1 opB (zaA 3 zdJ (zar s).2)).1 (zaI 1 opB (zaA 3 zdJ (zar s).2)).2) := rfl; have HF0 := zpt hF0; clear hF0 hlt h; go_enter Tryz.func183, Tryz.ntmps183
 go_wp2_with fail; refine (zdt g s _ HF0.out.par).mono ?_; rintro e w1 ⟨rfl, hp1, hg1⟩; generalize ha : (zar s).1 = a at HT |-; generalize hs1 : (zar s).2 = s1 at HT hp1; have HR1 : Hid (w1.heap[w.heap.size]? = some (.cells STz 24 (0, 0))) := HF0.out.keeps (zpx _) (zap w _) hg1; have HF1 := zpt (HF0.out.call hp1 hg1); have hS : w.heap.size < w1.heap.size := za1 HR1.out; clear hp1 hg1 ha hs1 HF0; have HF2 := zpt (HF1.out.alloc (.cells #[.string a, .int .i64 0, .slice none 0 0, .slice none 0 0, .int .i64 0] 24)); have HR2 := zpt (zaQ HR1.out (.cells #[.string a, .int .i64 0, .slice none 0 0, .slice none 0 0, .int .i64 0] 24)); have HS2 := zpt (zap w1 (.cells #[.string a, .int .i64 0, .slice none 0 0, .slice none 0 0, .int .i64 0] 24)); go_wp2_with fail; generalize w1.alloc (.cells #[.string a, .int .i64 0, .slice none 0 0, .slice none 0 0, .int .i64 0] 24) = w2 at HF2 HR2 HS2 |-; generalize w1.heap.size = S at HS2 hS |-; clear HF1 HR1; refine (zcS g 3 (by decide) zdJ s1 w2 HF2.out.par).mono ?_
 rintro e w3 ⟨rfl, hp3, hg3⟩; generalize zaA 3 zdJ s1 = s3 at HT hp3; have HF3 := zpt (HF2.out.call hp3 hg3); have HR3 := zpt (HF2.out.keeps (zpx _) HR2.out hg3); have HS3 := zpt (HF2.out.keeps (zqB hS) HS2.out hg3); clear hp3 hg3 HF2 HR2 HS2; go_wp2_with fail; refine (zgC g _ eg_op opB 1 (by decide) s3 w3 HF3.out.par (zog _ _)).mono ?_
 rintro e w4 ⟨rfl, hp4, hg4⟩; generalize (zaI 1 opB s3).1 = t at HT |-; generalize (zaI 1 opB s3).2 = s4 at HT hp4; have HF4 := zpt (HF3.out.call hp4 hg4); have HR4 := zpt (HF3.out.keeps (zpx _) HR3.out hg4); have HS4 := zpt (HF3.out.keeps (zqB hS) HS3.out hg4); clear hp4 hg4 HF3 HR3 HS3; go_wp2_with fail; refine (znP t w4).mono ?_; rintro e w5 ⟨rfl, hb5⟩; have HF5 := zpt (HF4.out.below hb5); have HR5 := zpt (zai HR4.out hb5); have HS5 := zpt (zai HS4.out hb5); clear hb5 HF4 HR4 HS4; unfold zeY at HT; generalize opF t = op at HT |-; have hS5 := HS5.out; have c1 := bc1 hS5; have f1 : w5.frozen? ⟨S, 1, none⟩ = false := zak hS5 1; have l1 : ∀ v, (w5.setCell ⟨S, 1, none⟩ v).cell? ⟨S, 1, none⟩ = some v := fun v => (zah (zbT hS5 1 v) 1).trans rfl
 clear hS5; go_upto_block 0 with fail; have H6 : Hid (StSt w g S a op (w5.setCell ⟨S, 1, none⟩ (.int .i64 op)) s4 [] [] 0 none 0 none 0) := ⟨HF5.out.set (zqB hS) HS5.out (by decide) (by decide) 1 _, zaP HR5.out (p := ⟨S, 1, none⟩) (zqG hS) _, hS, zav HS5.out 1 _ rfl, Kd.R_nil _ _ _ _ _, Kd.R_nil _ _ _ _ _⟩
 generalize w5.setCell ⟨S, 1, none⟩ (.int .i64 op) = w6 at H6 |-; clear HF5 HR5 HS5 c1 f1 l1; go_cut [] (fun wx => ∃ (l2 l3 : List ByteArray) (nn : Int) (q : PS) (A2 : Option Addr) (c2 : Nat) (A3 : Option Addr) (c3 : Nat), Aside0 (za0 s = (⟨a, op, if op = 5 \/ op = 6 then l2 else [(zar q).1], l3, nn⟩, zaA 3 semi (if op = 5 \/ op = 6 then q else (zar q).2))) /\ Aside0 (StSt w g S a op wx q l2 l3 nn A2 c2 A3 c3))
 case first =>
  by_cases o5 : op = 5
  . have hT2 : za0 s = (⟨a, op, (za7 (s4.1.length + 1) s4).1, [], 0⟩, zaA 3 semi (za7 (s4.1.length + 1) s4).2) := by
     rw [HT.out]; unfold argP zcu; simp [o5]
    have HT2 := zpt hT2; have e5 : (op == 5) = true := by simp only [o5]; decide
    have HO5 := zpt o5; clear hT2 HT o5; have HTA : Hid ((za7 (s4.1.length + 1) s4).1 = (za7 (mS s4) s4).1 /\ (za7 (s4.1.length + 1) s4).2 = (za7 (mS s4) s4).2) := by
     rw [zf1 (s4.1.length + 1) (mS s4) s4 H6.out.F.par.good (zcI s4) (zpx _)]; exact ⟨rfl, rfl⟩
    generalize (za7 (s4.1.length + 1) s4).1 = T1 at HT2 HTA; generalize (za7 (s4.1.length + 1) s4).2 = T2 at HT2 HTA; have hm4 : mS s4 <= 100001 := zpD (zcI s4) (zqH H6.out.F.par.len 1); go_wp2_with fail; go_loopg [] (mS s4) (fun gg wr => ∃ (acc : List ByteArray) (s2 : PS) (A : Option Addr) (c : Nat), mS s2 <= gg /\ acc.length + mS s2 <= mS s4 /\ Aside0 (acc ++ (za7 (mS s2) s2).1 = T1 /\ (za7 (mS s2) s2).2 = T2) /\ Aside0 (StSt w g S a op wr s2 acc [] 0 A c none 0))
    case atStart => exact ⟨[], s4, none, 0, zpx _, by simp, ⟨by rw [zqC]; exact ⟨HTA.out.1.symm, HTA.out.2.symm⟩⟩, ⟨H6.out⟩⟩
    case round =>
     obtain ⟨acc, s2, A, c, hgk, hal, HK, H7⟩ := hrel; have hO := zdW g s2 wr H7.out.F.par.has; by_cases hb : s2.2 < 0
     . have hbd : decide (s2.2 < 0) = true := by simpa using hb
       rw [hbd] at hO; obtain ⟨b, o, cp, cur, hq⟩ := H7.out.F.par.has; have h0 : wr.cell? ⟨g, 0, none⟩ = some (.slice (some ⟨b, o, none⟩) s2.1.length cp) := (zah hq.own 0).trans rfl; obtain ⟨kk0, _, _⟩ := hq.first H7.out.F.par.good.ne
       have hpos : 0 < s2.1.length := zqz.2 H7.out.F.par.good.ne; by_cases hk : (zay s2.1).f0 = 1
       . have hkd : ((zay s2.1).f0 == 1) = true := by simpa using hk
         have hN := fun W hW => zdt g s2 W hW
         have hmn := zfU H7.out.F.par.good hb; have HKn : Hid (((acc ++ [(zar s2).1]) ++ (za7 (mS (zar s2).2) (zar s2).2).1 = T1 /\ (za7 (mS (zar s2).2) (zar s2).2).2 = T2)) := by
          have hK := HK.out; obtain ⟨n, hn⟩ : ∃ n, mS s2 = n + 1 := ⟨mS s2 - 1, by omega⟩
          rw [hn, za7, if_pos ⟨hb, hk⟩, zf1 n (mS (zar s2).2) (zar s2).2 (inv_good.name H7.out.F.par.good) (by omega) (zpx _)] at hK
          exact ⟨by rw [<- hK.1]; simp, hK.2⟩
         generalize (zar s2).1 = x at HKn hN; generalize (zar s2).2 = s3 at HKn hN hmn; have hld := H7.out.cells.2.2.2.1; have hal2 : acc.length <= 200000 := by omega
         clear hbd hq hb hk; go_wp2_with (go_at_call 140; refine hO.mono ?_; rintro e w' ⟨rfl, rfl⟩)
         have H7d := zpt (H7.out.below (W1 := wr.drew) ⟨rfl, rfl, rfl, zpx _, fun _ _ => rfl⟩)
         clear hO h0 kk0; go_region_law (first
          | (refine Kd.R_append_step Kd.string (w0 := w8) w.heap.size (by rfl) (.tmp 30) (.tmp 33) 22 9 (.string ⟨#[]⟩) 16 rfl Tryz.underlying22 zbi rfl (by decide) (by decide) (.slice A acc.length c) acc x [.string x] (fun _ => True) (fun k_ => True /\ some k_ ≠ (Value.slice A acc.length c).ownBlock) (by rfl) (by rfl) rfl (fun _ hk => hk) (fun _ _ => trivial) H8.out.r2 (zpw _ _) H8.out.F.grown.size ?aL ?_; (case aL => omega); intro v1 w9 ho hb hg hat; obtain ⟨A1, c1, rfl, hc1, _⟩ := zqq ho; have HA9 := zpt ho; have HF9 := zpt (H8.out.F.row (Kd.R_own H8.out.r2).choose_spec (by decide) (by decide) (zpx _) hb hg); have HR9 := zpt (zaY H8.out.R hg (Kd.R_ne H8.out.r2 H8.out.R (by decide))); have HS9 := zpt (zaY H8.out.K hg (Kd.R_ne H8.out.r2 H8.out.K (by decide))); have hst := bc2 HS9.out; have hfr : w9.frozen? ⟨S, 2, none⟩ = false := zak HS9.out 2; clear ho hb hg hat)
          | (go_simp; go_at_call 179; refine (hN _ H7d.out.F.par).mono ?_; rintro e w8 ⟨rfl, hp8, hg8⟩; have H8 := zpt (H7d.out.call hp8 hg8); have hl8 := H8.out.cells.2.2.2.1; have hl8a : ∀ ob : Obj, (w8.alloc ob).cell? ⟨S, 2, none⟩ = some (.slice A acc.length c) := fun ob => (H8.out.cells.1 ob).1; clear hp8 hg8))
         all_goals
          go_wp2; go_roundg (mS s3)
          case measure => omega
          case rel =>
           have hlen : acc.length + 1 = (acc ++ [x]).length := by simp
           simp only [hlen]; refine ⟨acc ++ [x], s3, A1, c1, zpx _, ?_, ⟨HKn.out⟩, ⟨HF9.out.set (zqB hS) HS9.out (by decide) (by decide) 2 _, zaP HR9.out (p := ⟨S, 2, none⟩) (zqG hS) _, hS, zav HS9.out 2 _ rfl, zqK HA9.out HS9.out (by decide) 2 _, Kd.R_nil _ _ _ _ _⟩⟩
           rw [zpK, zpL]; omega
       . have hkd : ((zay s2.1).f0 == 1) = false := by simpa using hk
         have HKn : Hid (acc = T1 /\ s2 = T2) := by
          have hK := HK.out; have h0 : za7 (mS s2) s2 = ([], s2) := by
           generalize mS s2 = n; cases n with
           | zero => rfl
           | succ n => unfold za7; rw [if_neg (fun h => hk h.2)]
          rw [h0, zqD] at hK; exact hK
         clear hbd hq hb hk; go_wp2_with (go_at_call 140; refine hO.mono ?_; rintro e w' ⟨rfl, rfl⟩)
         go_meet
         exact ⟨acc, [], 0, s2, A, c, none, 0, ⟨by rw [HT2.out, HKn.out.1, HKn.out.2, if_pos (.inl HO5.out), if_pos (.inl HO5.out)]⟩, ⟨H7.out⟩⟩
     . have hbd : decide (s2.2 < 0) = false := by simpa using hb
       rw [hbd] at hO; have HKn : Hid (acc = T1 /\ s2 = T2) := by
        have hK := HK.out; have h0 : za7 (mS s2) s2 = ([], s2) := by
         generalize mS s2 = n; cases n with
         | zero => rfl
         | succ n => unfold za7; rw [if_neg (fun h => hb h.1)]
        rw [h0, zqD] at hK; exact hK
       clear hbd hb; go_wp2_with (go_at_call 140; refine hO.mono ?_; rintro e w' ⟨rfl, rfl⟩)
       go_meet
       exact ⟨acc, [], 0, s2, A, c, none, 0, ⟨by rw [HT2.out, HKn.out.1, HKn.out.2, if_pos (.inl HO5.out), if_pos (.inl HO5.out)]⟩, ⟨H7.out⟩⟩
  have e5 : (op == 5) = false := by simpa using o5
  by_cases o67 : op = 6 \/ op = 7
  . have hT2 : za0 s = (⟨a, op, if op = 5 \/ op = 6 then [] else [(zar (zaD s4).2).1], [(zaD s4).1], 0⟩, zaA 3 semi (if op = 5 \/ op = 6 then (zaD s4).2 else (zar (zaD s4).2).2)) := by
     rw [HT.out]; unfold argP zcu; rcases o67 with o | o <;> simp [o]
    have HT2 := zpt hT2; clear hT2 HT; rcases o67 with o | o
    . have e6 : (op == 6) = true := by simp only [o]; decide
      clear o; go_wp2_with fail; refine (zeQ g s4 w6 H6.out.F.par).mono ?_; rintro e w7 ⟨rfl, hp7, hg7⟩; have H7 := zpt (H6.out.call hp7 hg7); have hc3 := fun ob : Obj => (H7.out.cells.1 ob).2.2.1
      have hf3 := fun ob : Obj => (H7.out.cells.1 ob).2.2.2
      clear hp7 hg7; go_wp2_with fail; go_meet
      exact ⟨[], [(zaD s4).1], 0, (zaD s4).2, none, 0, _, 1, ⟨HT2.out⟩, ⟨(H7.out.below ((zpw _ _).alloc (zpx _) _)).put3 (zel w7 w.heap.size [(zaD s4).1] H7.out.F.grown.size (by simp))⟩⟩
    . have e6 : (op == 6) = false := by simp only [o]; decide
      have e7 : (op == 7) = true := by simp only [o]; decide
      clear o; go_wp2_with fail; refine (zeQ g s4 w6 H6.out.F.par).mono ?_; rintro e w7 ⟨rfl, hp7, hg7⟩; have H7 := zpt (H6.out.call hp7 hg7); have hc3 := fun ob : Obj => (H7.out.cells.1 ob).2.2.1
      have hf3 := fun ob : Obj => (H7.out.cells.1 ob).2.2.2
      clear hp7 hg7; go_wp2_with fail; go_meet
      exact ⟨[], [(zaD s4).1], 0, (zaD s4).2, none, 0, _, 1, ⟨HT2.out⟩, ⟨(H7.out.below ((zpw _ _).alloc (zpx _) _)).put3 (zel w7 w.heap.size [(zaD s4).1] H7.out.F.grown.size (by simp))⟩⟩
  have e6 : (op == 6) = false := by simp; omega
  have e7 : (op == 7) = false := by simp; omega
  by_cases o8 : op = 8
  . have hT2 : za0 s = (⟨a, op, if op = 5 \/ op = 6 then [] else [(zar (zaD (zaD s4).2).2).1], [(zaD s4).1, (zaD (zaD s4).2).1], 0⟩, zaA 3 semi (if op = 5 \/ op = 6 then (zaD (zaD s4).2).2 else (zar (zaD (zaD s4).2).2).2)) := by
     rw [HT.out]; unfold argP zcu; simp [o8]
    have HT2 := zpt hT2; have e8 : (op == 8) = true := by simp only [o8]; decide
    clear hT2 HT o8 o5 o67; go_wp2_with fail; refine (zeQ g s4 w6 H6.out.F.par).mono ?_; rintro e w7 ⟨rfl, hp7, hg7⟩; have H7 := zpt (H6.out.call hp7 hg7); clear hp7 hg7; go_wp2_with fail; refine (zeQ g (zaD s4).2 w7 H7.out.F.par).mono ?_; rintro e w8 ⟨rfl, hp8, hg8⟩; have H8 := zpt (H7.out.call hp8 hg8); have hc3 := fun ob : Obj => (H8.out.cells.1 ob).2.2.1
    have hf3 := fun ob : Obj => (H8.out.cells.1 ob).2.2.2
    clear hp8 hg8; go_wp2_with fail; go_meet
    exact ⟨[], [(zaD s4).1, (zaD (zaD s4).2).1], 0, (zaD (zaD s4).2).2, none, 0, _, 2, ⟨HT2.out⟩, ⟨(H8.out.below ((zpw _ _).alloc (zpx _) _)).put3 (zel w8 w.heap.size [(zaD s4).1, (zaD (zaD s4).2).1] H8.out.F.grown.size (by simp))⟩⟩
  have e8 : (op == 8) = false := by simpa using o8
  by_cases o9 : op = 9
  . have hT2 : za0 s = (⟨a, op, if op = 5 \/ op = 6 then [] else [(zar (zaI 1 numB s4).2).1], [], numV (zaI 1 numB s4).1⟩, zaA 3 semi (if op = 5 \/ op = 6 then (zaI 1 numB s4).2 else (zar (zaI 1 numB s4).2).2)) := by
     rw [HT.out]; unfold argP zcu; simp [o9]
    have HT2 := zpt hT2; have e9 : (op == 9) = true := by simp only [o9]; decide
    clear hT2 HT o9 o8 o5 o67; have HG6 := zpt H6.out.F.par.good; go_wp2_with fail; refine (zgC g _ zl3 numB 1 (by decide) s4 w6 H6.out.F.par (zlk _ (zhi H6.out.F.par.good) _ H6.out.F.par.gk)).mono ?_
    rintro e w7 ⟨rfl, hp7, hg7⟩; have H7 := zpt (H6.out.call hp7 hg7); clear hp7 hg7; go_wp2_with fail; refine (mint_GetNumber.calls (zaI 1 numB s4).1 2000 (numV (zaI 1 numB s4).1) (numB (zaI 1 numB s4).1) w7 H7.out.F.par.gk (num_f (zkq HG6.out))).mono ?_; rintro e w8 ⟨rfl, hb8⟩; have H8 := zpt (H7.out.below hb8); have hc4 := H8.out.cells.2.2.2.2.2.1; have hf4 := H8.out.cells.2.2.2.2.2.2; clear hb8; go_wp2_with fail; go_meet
    exact ⟨[], [], numV (zaI 1 numB s4).1, (zaI 1 numB s4).2, none, 0, none, 0, ⟨HT2.out⟩, ⟨H8.out.num _⟩⟩
  . have hT2 : za0 s = (⟨a, op, if op = 5 \/ op = 6 then [] else [(zar s4).1], [], 0⟩, zaA 3 semi (if op = 5 \/ op = 6 then s4 else (zar s4).2)) := by
     rw [HT.out]; unfold argP zcu; simp only [not_or] at o67; simp [o5, o67.1, o67.2, o8, o9]
    have HT2 := zpt hT2; have e9 : (op == 9) = false := by simpa using o9
    clear hT2 HT o9 o8 o5 o67; go_wp2_with fail; go_meet
    exact ⟨[], [], 0, s4, none, 0, none, 0, ⟨HT2.out⟩, ⟨H6.out⟩⟩
 case rest =>
  obtain ⟨l2, l3, nn, q, A2, c2, A3, c3, HT, H7⟩ := hcut; have k1 := H7.out.cells.2.2.1; obtain ⟨bb, hbb⟩ : ∃ bb, bb = (op != 5 && op != 6) := ⟨_, rfl⟩; have HBb := zpt hbb; clear hbb; go_upto_region 15 with fail; go_cut [67] (fun s67 wx => s67 = .bool bb /\ Aside0 (StSt w g S a op wx q l2 l3 nn A2 c2 A3 c3))
  case first =>
   cases n5 : (op != 5) with
   | false =>
    go_wp2_with fail; go_meet
    exact ⟨by rw [HBb.out, n5]; rfl, ⟨H7.out⟩⟩
   | true =>
    cases n6 : (op != 6) <;>
     (go_wp2_with fail
      go_meet
      exact ⟨by rw [HBb.out, n5, n6]; rfl, ⟨H7.out⟩⟩)
  case rest =>
  obtain ⟨rfl, H7⟩ := hcut; go_upto_if 67 with fail; go_cut [] (fun wx => ∃ (l2 : List ByteArray) (q : PS) (A2 : Option Addr) (c2 : Nat), Aside0 (za0 s = (⟨a, op, l2, l3, nn⟩, zaA 3 semi q)) /\ Aside0 (StSt w g S a op wx q l2 l3 nn A2 c2 A3 c3))
  case first =>
   by_cases o : op = 5 \/ op = 6
   . have hT := HT.out
     rw [if_pos o, if_pos o] at hT; have HT2 := zpt hT; have n5 : bb = false := by rw [HBb.out]; rcases o with o | o <;> simp [o]
     subst n5; clear hT o; go_wp2_with fail; go_meet
     exact ⟨l2, q, A2, c2, ⟨HT2.out⟩, ⟨H7.out⟩⟩
   . have hT := HT.out
     rw [if_neg o, if_neg o] at hT; have HT2 := zpt hT; have n5 : bb = true := by rw [HBb.out]; simp only [not_or] at o; simp [o.1, o.2]
     subst n5; clear hT o; go_wp2_with fail; refine (zdt g q _ H7.out.F.par).mono ?_; rintro e w8 ⟨rfl, hp8, hg8⟩; have H8 := zpt (H7.out.call hp8 hg8); have hc3 := fun ob : Obj => (H8.out.cells.1 ob).1
     have hf3 := fun ob : Obj => (H8.out.cells.1 ob).2.1
     clear hp8 hg8; go_wp2_with fail; go_meet
     exact ⟨[(zar q).1], (zar q).2, _, 1, ⟨HT2.out⟩, ⟨(H8.out.below ((zpw _ _).alloc (zpx _) _)).put2 (zel w8 w.heap.size [(zar q).1] H8.out.F.grown.size (by simp))⟩⟩
  case rest =>
   clear HT H7; obtain ⟨l2, q, A2, c2, HT, H7⟩ := hcut; go_wp2_with fail; refine (zcS g 3 (by decide) semi q _ H7.out.F.par).mono ?_
   rintro e w8 ⟨rfl, hp8, hg8⟩; have H8 := zpt (H7.out.call hp8 hg8); clear hp8 hg8 H7; obtain ⟨k0, k1, k2, k3, k4, _⟩ := H8.out.cells.2; have hRe := H8.out.R; have r0 := bc0 hRe; have q0 := zak hRe 0; have r1 := bc1 hRe; have q1 := zak hRe 1; have r2 := bc2 hRe; have q2 := zak hRe 2; have r3 := bc3 hRe; have q3 := zak hRe 3; have r4 := bc4 hRe; have q4 := zak hRe 4; clear hRe; go_wp2; have hs := zcl (.string a) (.int .i64 op) (.slice A2 l2.length c2) (.slice A3 l3.length c3) (.int .i64 nn) H8.out.R; have hF := H8.out.F.set5 (zpx _) (.string a) (.int .i64 op) (.slice A2 l2.length c2) (.slice A3 l3.length c3) (.int .i64 nn) H8.out.R (by decide) (by decide)
   have hA := RS.set5 H8.out.r2 (.string a) (.int .i64 op) (.slice A2 l2.length c2) (.slice A3 l3.length c3) (.int .i64 nn) H8.out.R (by decide)
   have hB := RS.set5 H8.out.r3 (.string a) (.int .i64 op) (.slice A2 l2.length c2) (.slice A3 l3.length c3) (.int .i64 nn) H8.out.R (by decide)
   clear k0 k1 k2 k3 k4 r0 r1 r2 r3 r4 q0 q1 q2 q3 q4; unfold set5 at hs hF hA hB; generalize ((((w8.setCell ⟨w.heap.size, 0, none⟩ (.string a)).setCell ⟨w.heap.size, 1, none⟩ (.int .i64 op)).setCell ⟨w.heap.size, 2, none⟩ (.slice A2 l2.length c2)).setCell ⟨w.heap.size, 3, none⟩ (.slice A3 l3.length c3)).setCell ⟨w.heap.size, 4, none⟩ (.int .i64 nn) = wE at hs hF hA hB |-; have g0 := (zah hs 0).trans rfl; have g1 := (zah hs 1).trans rfl; have g2 := (zah hs 2).trans rfl; have g3 := (zah hs 3).trans rfl; have g4 := (zah hs 4).trans rfl; exact bodyPost_ret (v := .agg #[.string a, .int .i64 op, .slice A2 l2.length c2, .slice A3 l3.length c3, .int .i64 nn]) (by simp [results, Tryz.results183, go_sem, g0, g1, g2, g3, g4]) rfl (by
    rw [HT.out]; exact ⟨_, _, rfl, hA, hB, hF.par, hF.grown⟩)
abbrev zdf : ByteArray := ⟨#[114, 117, 108, 101]⟩
abbrev wIn : ByteArray := ⟨#[105, 110]⟩
abbrev wOut : ByteArray := ⟨#[111, 117, 116]⟩
abbrev zbZ : ByteArray := ⟨#[97, 102, 116, 101, 114]⟩
abbrev zgg : ByteArray := ⟨#[123]⟩
def zgh (a : ByteArray) (i o f : List ByteArray) (s : PS) : zaj × PS := (⟨a, i, o, f, (za8 (s.1.length + 1) s).1⟩, zaA 3 zcE (za8 (s.1.length + 1) s).2)
def zfB (a : ByteArray) (i o : List ByteArray) (s : PS) : zaj × PS := zgh a i o (ifP zbZ s).1 (ifP zbZ s).2
def ruleO (a : ByteArray) (i : List ByteArray) (s : PS) : zaj × PS := zfB a i (zbe (zaA 1 wOut s)).1 (zbe (zaA 1 wOut s)).2
def ziP (a : ByteArray) (s : PS) : zaj × PS := ruleO a (ifP wIn s).1 (ifP wIn s).2
abbrev RUz : Array Value := #[.string ⟨#[]⟩, .slice none 0 0, .slice none 0 0, .slice none 0 0, .slice none 0 0]
theorem zeI (n : Nat) : InvP (fun s => mS s <= n) := by
 refine ⟨fun s h => ?_, fun s h hs _ => ?_⟩
 . unfold zbD
   split
   . next hs =>
     have h1 : mS s = s.1.length + 1 := by unfold mS; rw [if_pos hs]
     have h2 := zcI (s.1, (zay s.1).f1); have h3 : (s.1, (zay s.1).f1).1.length = s.1.length := rfl; omega
   . exact h
 . have h1 : mS s = s.1.length + 1 := by unfold mS; rw [if_pos hs]
   have h2 := zcI (s.1.tail, s.2); have h3 : (s.1.tail, s.2).1.length <= s.1.length := zgu _; omega
theorem zhX {s : PS} (hg : GoodW s.1) (hs : s.2 < 0) : mS (za0 s).2 < mS s := by
 have h1 := zfU hg hs; have h2 : mS (za0 s).2 <= mS (zar s).2 := (zeI _).tail _ _ ((zeI _).next ((zeI _).must (zpx _) (by decide) _) (by decide) _)
 omega
theorem zgi : ∀ (n m : Nat) (s : PS), GoodW s.1 -> mS s <= n -> mS s <= m -> za8 n s = za8 m s
 | 0, 0, _, _, _, _ => rfl
 | 0, m + 1, s, hg, h, _ => by
  unfold za8; rw [if_neg (fun hc => by have := zqz.2 hg.ne; unfold mS at h; omega)]
 | n + 1, 0, s, hg, _, h => by
  unfold za8; rw [if_neg (fun hc => by have := zqz.2 hg.ne; unfold mS at h; omega)]
 | n + 1, m + 1, s, hg, h1, h2 => by
  unfold za8; by_cases hc : s.2 < 0 /\ atP 3 zcE s = false
  . rw [if_pos hc, if_pos hc]
    have := zhX hg hc.1; rw [zgi n m _ (inv_good.step hg) (by omega) (by omega)]
  . rw [if_neg hc, if_neg hc]
theorem zdB {α β : Type} {d : Kd α} {d' : Kd β} {e e' base base' : Nat} {v v' : Value} {xs : List α} {ys : List β} {W W1 : World} (h : d.R e W base (fun _ => True) v xs) (h' : d'.R e' W base' (fun _ => True) v' ys) (hE : ∀ q, q ∈ e :: d.E -> q ≠ e') (hg : W.grownBy W1 v'.ownBlock) : d.R e W1 base (fun _ => True) v xs := by
 refine Kd.R_mono (Kd.R_grown (Kd.R_bound h) hg (fun k hk he => ?_)) (fun _ _ => trivial)
 obtain ⟨_, _, _, q, hq, cells, hc⟩ := hk; obtain ⟨inner, ho⟩ := Kd.R_own h'; obtain ⟨cells', hc'⟩ := zen ho k he.symm; rw [hc] at hc'; injection hc' with h1; injection h1 with _ h1; exact hE q hq h1
theorem zoC (g : Nat) (s : PS) (w : World) (h : PAR w g s) :
 Calls zp5 141 #[.pointer (some ⟨g, 0, none⟩)] w fun e w' => ∃ v1 v2 v3 v4, e = .returned (.agg #[.string (zbf s).1.f0, v1, v2, v3, v4]) /\
  RS w' w.heap.size v1 (zbf s).1.f1 /\ RS w' w.heap.size v2 (zbf s).1.f2 /\ RS w' w.heap.size v3 (zbf s).1.f3 /\ Kd.R k24 24 w' w.heap.size (fun _ => True) v4 (zbf s).1.f4 /\ PAR w' g (zbf s).2 /\ w.grownBy w' (some g) := by
 have hF0 := (Fly.start h).alloc (.cells RUz 45); have hlt := h.has.lt; have HL := zpt hlt; have HT : Hid (zbf s = ziP (zar (zaA 1 zdf s)).1 (zaA 3 zgg (zar (zaA 1 zdf s)).2)) := rfl; have HF0 := zpt hF0; have HR0 : Hid ((w.alloc (.cells RUz 45)).heap[w.heap.size]? = some (.cells RUz 45 (0, 0))) := zap w _; clear hF0 hlt h; go_enter Tryz.func141, Tryz.ntmps141
 go_wp2_with fail; refine (zcS g 1 (by decide) zdf s _ HF0.out.par).mono ?_
 rintro e w1 ⟨rfl, hp1, hg1⟩; generalize zaA 1 zdf s = s1 at HT hp1; have HR1 := zpt (HF0.out.keeps (zpx _) HR0.out hg1); have HF1 := zpt (HF0.out.call hp1 hg1); clear hp1 hg1 HF0 HR0; go_wp2_with fail; refine (zdt g s1 w1 HF1.out.par).mono ?_; rintro e w2 ⟨rfl, hp2, hg2⟩; generalize (zar s1).1 = a at HT |-; generalize (zar s1).2 = s2 at HT hp2; have HR2 := zpt (HF1.out.keeps (zpx _) HR1.out hg2); have HF2 := zpt (HF1.out.call hp2 hg2); have hS : w.heap.size < w2.heap.size := za1 HR2.out; clear hp2 hg2 HF1 HR1; have HF3 := zpt (HF2.out.alloc (.cells #[.string a, .slice none 0 0, .slice none 0 0, .slice none 0 0, .slice none 0 0] 45)); have HR3 := zpt (zaQ HR2.out (.cells #[.string a, .slice none 0 0, .slice none 0 0, .slice none 0 0, .slice none 0 0] 45)); have HS3 := zpt (zap w2 (.cells #[.string a, .slice none 0 0, .slice none 0 0, .slice none 0 0, .slice none 0 0] 45)); go_wp2_with fail; generalize w2.alloc (.cells #[.string a, .slice none 0 0, .slice none 0 0, .slice none 0 0, .slice none 0 0] 45) = w3 at HF3 HR3 HS3 |-; generalize w2.heap.size = S at HS3 hS |-; clear HF2 HR2; refine (zcS g 3 (by decide) zgg s2 w3 HF3.out.par).mono ?_
 rintro e w6 ⟨rfl, hp6, hg6⟩; generalize zaA 3 zgg s2 = s4 at HT hp6; have HF6 := zpt (HF3.out.call hp6 hg6); have HR6 := zpt (HF3.out.keeps (zpx _) HR3.out hg6); have HS6 := zpt (HF3.out.keeps (zqB hS) HS3.out hg6); clear hp6 hg6 HF3 HR3 HS3; go_wp2_with fail; unfold ziP at HT; have HF := zpt HF6.out; have HR := zpt HR6.out; have HS := zpt HS6.out; clear HF6 HR6 HS6; refine (zf7 g 1 (by decide) wIn s4 w6 HF.out.par).mono ?_
 rintro e w7 ⟨rfl, hp, hg⟩; have hI : ifP wIn s4 = if isP 1 wIn s4 = true then ((zbe (za5 1 wIn s4).2).1, (zbe (za5 1 wIn s4).2).2) else ([], (za5 1 wIn s4).2) := by unfold ifP za5; by_cases hi : isP 1 wIn s4 = true <;> simp [hi]
 generalize (za5 1 wIn s4).2 = sT at hI hp; generalize isP 1 wIn s4 = b at hI |-; have HI := zpt hI; clear hI; have HR := zpt (HF.out.keeps (zpx _) HR.out hg); have HS := zpt (HF.out.keeps (zqB hS) HS.out hg); have HF := zpt (HF.out.call hp hg); clear hp hg; go_upto_if 12 with fail; go_cut [] (fun wx => ∃ (n1 : List ByteArray) (q1 : PS) (A1 : Option Addr) (c1 : Nat), Aside0 (ifP wIn s4 = (n1, q1)) /\ Aside0 (Fly w g wx q1) /\ Aside0 (wx.heap[w.heap.size]? = some (.cells RUz 45 (0, 0))) /\ Aside0 (wx.heap[S]? = some (.cells #[.string a, .slice A1 n1.length c1, .slice none 0 0, .slice none 0 0, .slice none 0 0] 45 (0, 0))) /\ Aside0 (RS wx w.heap.size (.slice A1 n1.length c1) n1))
 case first =>
  cases b with
  | true =>
   have HI : Hid (ifP wIn s4 = ((zbe sT).1, (zbe sT).2)) := HI.out; go_wp2_with fail; refine (ze7 g sT _ HF.out.par).mono ?_; rintro e w9 ⟨v, rfl, hr, hp, hg⟩; generalize (zbe sT).1 = n1 at HI hr; generalize (zbe sT).2 = q1 at HI hp; have hr := zqJ hr HF.out.grown.size; obtain ⟨A1, c1, rfl, _, _⟩ := zqq hr; have HN1 := zpt hr; clear hr; have HR := zpt (HF.out.keeps (zpx _) HR.out hg); have HS := zpt (HF.out.keeps (zqB hS) HS.out hg); have HF := zpt (HF.out.call hp hg); clear hp hg; have cx := bc1 HS.out; have fx := zak HS.out 1; go_wp2_with fail; clear cx fx; have HF := zpt (HF.out.set (zqB hS) HS.out (by decide) (by decide) 1 (.slice A1 n1.length c1))
   have HR := zpt (zaP HR.out (p := ⟨S, 1, none⟩) (zqG hS) (.slice A1 n1.length c1)); have HN1 := zpt (zqK HN1.out HS.out (by decide) 1 (.slice A1 n1.length c1))
   have HS : Hid ((w9.setCell ⟨S, 1, none⟩ (.slice A1 n1.length c1)).heap[S]? = some (.cells #[.string a, .slice A1 n1.length c1, .slice none 0 0, .slice none 0 0, .slice none 0 0] 45 (0, 0))) := zav HS.out 1 _ rfl; go_wp2_with fail; go_meet
   exact ⟨n1, q1, A1, c1, ⟨HI.out⟩, ⟨HF.out⟩, ⟨HR.out⟩, ⟨HS.out⟩, ⟨HN1.out⟩⟩
  | false =>
   have HI : Hid (ifP wIn s4 = ([], sT)) := HI.out; go_wp2_with fail; go_meet
   exact ⟨[], sT, none, 0, ⟨HI.out⟩, ⟨HF.out⟩, ⟨HR.out⟩, ⟨HS.out⟩, ⟨Kd.R_nil _ _ _ _ _⟩⟩
 case rest =>
  obtain ⟨n1, q1, A1, c1, HI, HF, HR, HS, HN1⟩ := hcut; have HT : Hid (zbf s = zfB a n1 (zbe (zaA 1 wOut q1)).1 (zbe (zaA 1 wOut q1)).2) := by
   show _ = _
   rw [HT.out, HI.out]; rfl
  clear HI; go_wp2_with fail; refine (zcS g 1 (by decide) wOut q1 _ HF.out.par).mono ?_
  rintro e w6 ⟨rfl, hp, hg⟩; generalize zaA 1 wOut q1 = s5 at HT hp; have HR := zpt (HF.out.keeps (zpx _) HR.out hg); have HS := zpt (HF.out.keeps (zqB hS) HS.out hg); have HN1 := zpt (zbc HN1.out hg HL.out); have HF := zpt (HF.out.call hp hg); clear hp hg; go_wp2_with fail; refine (ze7 g s5 _ HF.out.par).mono ?_; rintro e w9 ⟨v, rfl, hr, hp, hg⟩; generalize (zbe s5).1 = n2 at HT hr; generalize (zbe s5).2 = q2 at HT hp; have hr := zqJ hr HF.out.grown.size; obtain ⟨A2, c2, rfl, _, _⟩ := zqq hr; have HN2 := zpt hr; clear hr; have HR := zpt (HF.out.keeps (zpx _) HR.out hg); have HS := zpt (HF.out.keeps (zqB hS) HS.out hg); have HN1 := zpt (zbc HN1.out hg HL.out); have HF := zpt (HF.out.call hp hg); clear hp hg; have cx := bc2 HS.out; have fx := zak HS.out 2; go_wp2_with fail; clear cx fx; have HF := zpt (HF.out.set (zqB hS) HS.out (by decide) (by decide) 2 (.slice A2 n2.length c2))
  have HR := zpt (zaP HR.out (p := ⟨S, 2, none⟩) (zqG hS) (.slice A2 n2.length c2)); have HN1 := zpt (zqK HN1.out HS.out (by decide) 2 (.slice A2 n2.length c2))
  have HN2 := zpt (zqK HN2.out HS.out (by decide) 2 (.slice A2 n2.length c2))
  have HS : Hid ((w9.setCell ⟨S, 2, none⟩ (.slice A2 n2.length c2)).heap[S]? = some (.cells #[.string a, .slice A1 n1.length c1, .slice A2 n2.length c2, .slice none 0 0, .slice none 0 0] 45 (0, 0))) := zav HS.out 2 _ rfl; generalize w9.setCell ⟨S, 2, none⟩ (.slice A2 n2.length c2) = w8 at HF HR HS HN1 HN2 |-; refine (zf7 g 1 (by decide) zbZ q2 w8 HF.out.par).mono ?_
  rintro e w7 ⟨rfl, hp, hg⟩; have hI : ifP zbZ q2 = if isP 1 zbZ q2 = true then ((zbe (za5 1 zbZ q2).2).1, (zbe (za5 1 zbZ q2).2).2) else ([], (za5 1 zbZ q2).2) := by unfold ifP za5; by_cases hi : isP 1 zbZ q2 = true <;> simp [hi]
  generalize (za5 1 zbZ q2).2 = sT at hI hp; generalize isP 1 zbZ q2 = b at hI |-; have HI := zpt hI; clear hI; have HR := zpt (HF.out.keeps (zpx _) HR.out hg); have HS := zpt (HF.out.keeps (zqB hS) HS.out hg); have HN1 := zpt (zbc HN1.out hg HL.out); have HN2 := zpt (zbc HN2.out hg HL.out); have HF := zpt (HF.out.call hp hg); clear hp hg; go_upto_if 22 with fail; go_cut [] (fun wx => ∃ (n3 : List ByteArray) (q3 : PS) (A3 : Option Addr) (c3 : Nat), Aside0 (ifP zbZ q2 = (n3, q3)) /\ Aside0 (Fly w g wx q3) /\ Aside0 (wx.heap[w.heap.size]? = some (.cells RUz 45 (0, 0))) /\ Aside0 (wx.heap[S]? = some (.cells #[.string a, .slice A1 n1.length c1, .slice A2 n2.length c2, .slice A3 n3.length c3, .slice none 0 0] 45 (0, 0))) /\ Aside0 (RS wx w.heap.size (.slice A1 n1.length c1) n1) /\ Aside0 (RS wx w.heap.size (.slice A2 n2.length c2) n2) /\ Aside0 (RS wx w.heap.size (.slice A3 n3.length c3) n3))
  case first =>
   cases b with
   | true =>
    have HI : Hid (ifP zbZ q2 = ((zbe sT).1, (zbe sT).2)) := HI.out; go_wp2_with fail; refine (ze7 g sT _ HF.out.par).mono ?_; rintro e w9 ⟨v, rfl, hr, hp, hg⟩; generalize (zbe sT).1 = n3 at HI hr; generalize (zbe sT).2 = q3 at HI hp; have hr := zqJ hr HF.out.grown.size; obtain ⟨A3, c3, rfl, _, _⟩ := zqq hr; have HN3 := zpt hr; clear hr; have HR := zpt (HF.out.keeps (zpx _) HR.out hg); have HS := zpt (HF.out.keeps (zqB hS) HS.out hg); have HN1 := zpt (zbc HN1.out hg HL.out); have HN2 := zpt (zbc HN2.out hg HL.out); have HF := zpt (HF.out.call hp hg); clear hp hg; have cx := bc3 HS.out; have fx := zak HS.out 3; go_wp2_with fail; clear cx fx; have HF := zpt (HF.out.set (zqB hS) HS.out (by decide) (by decide) 3 (.slice A3 n3.length c3))
    have HR := zpt (zaP HR.out (p := ⟨S, 3, none⟩) (zqG hS) (.slice A3 n3.length c3)); have HN1 := zpt (zqK HN1.out HS.out (by decide) 3 (.slice A3 n3.length c3))
    have HN2 := zpt (zqK HN2.out HS.out (by decide) 3 (.slice A3 n3.length c3))
    have HN3 := zpt (zqK HN3.out HS.out (by decide) 3 (.slice A3 n3.length c3))
    have HS : Hid ((w9.setCell ⟨S, 3, none⟩ (.slice A3 n3.length c3)).heap[S]? = some (.cells #[.string a, .slice A1 n1.length c1, .slice A2 n2.length c2, .slice A3 n3.length c3, .slice none 0 0] 45 (0, 0))) := zav HS.out 3 _ rfl; go_wp2_with fail; go_meet
    exact ⟨n3, q3, A3, c3, ⟨HI.out⟩, ⟨HF.out⟩, ⟨HR.out⟩, ⟨HS.out⟩, ⟨HN1.out⟩, ⟨HN2.out⟩, ⟨HN3.out⟩⟩
   | false =>
    have HI : Hid (ifP zbZ q2 = ([], sT)) := HI.out; go_wp2_with fail; go_meet
    exact ⟨[], sT, none, 0, ⟨HI.out⟩, ⟨HF.out⟩, ⟨HR.out⟩, ⟨HS.out⟩, ⟨HN1.out⟩, ⟨HN2.out⟩, ⟨Kd.R_nil _ _ _ _ _⟩⟩
  case rest =>
   obtain ⟨n3, q3, A3, c3, HI, HF, HR, HS, HN1, HN2, HN3⟩ := hcut; have HT : Hid (zbf s = zgh a n1 n2 n3 q3) := by
    show _ = _
    rw [HT.out]; unfold zfB; rw [HI.out]
   clear HI; have HF0 := zpt HF.out; have HR0 := zpt HR.out; have HS0 := zpt HS.out; have HN1_0 := zpt HN1.out; have HN2_0 := zpt HN2.out; have HN3_0 := zpt HN3.out; clear HF HR HS HN1 HN2 HN3; go_wp2_with fail; unfold zgh at HT; try dsimp only at HT
   have HTA : Hid ((za8 ((q3).1.length + 1) (q3)).1 = (za8 (mS (q3)) (q3)).1 /\ (za8 ((q3).1.length + 1) (q3)).2 = (za8 (mS (q3)) (q3)).2) := by
    rw [zgi ((q3).1.length + 1) (mS (q3)) (q3) HF0.out.par.good (zcI _) (zpx _)]; exact ⟨rfl, rfl⟩
   generalize (za8 ((q3).1.length + 1) (q3)).1 = T1 at HT HTA; generalize (za8 ((q3).1.length + 1) (q3)).2 = T2 at HT HTA; have hm4 : mS (q3) <= 100001 := zpD (zcI _) (zqH HF0.out.par.len 1); generalize q3 = sL at HTA hm4 HF0; go_loopg [] (mS sL) (fun gg wr => ∃ (acc : List zaw) (s2 : PS) (A : Option Addr) (c : Nat), mS s2 <= gg /\ acc.length + mS s2 <= mS sL /\ Aside0 (acc ++ (za8 (mS s2) s2).1 = T1 /\ (za8 (mS s2) s2).2 = T2) /\
    Aside0 (Kd.R k24 24 wr w.heap.size (fun _ => True) (.slice A acc.length c) acc) /\ Aside0 (Fly w g wr s2) /\ Aside0 (wr.heap[w.heap.size]? = some (.cells RUz 45 (0, 0))) /\ Aside0 (wr.heap[S]? = some (.cells #[.string a, .slice A1 n1.length c1, .slice A2 n2.length c2, .slice A3 n3.length c3, .slice A acc.length c] 45 (0, 0))) /\ Aside0 (RS wr w.heap.size (.slice A1 n1.length c1) n1) /\ Aside0 (RS wr w.heap.size (.slice A2 n2.length c2) n2) /\ Aside0 (RS wr w.heap.size (.slice A3 n3.length c3) n3))
   case atStart => exact ⟨[], sL, none, 0, zpx _, by simp, ⟨by rw [zqC]; exact ⟨HTA.out.1.symm, HTA.out.2.symm⟩⟩, ⟨Kd.R_nil _ _ _ _ _⟩, ⟨HF0.out⟩, ⟨HR0.out⟩, ⟨HS0.out⟩, ⟨HN1_0.out⟩, ⟨HN2_0.out⟩, ⟨HN3_0.out⟩⟩
   case round =>
    obtain ⟨acc, s2, A, c, hgk, hal, HK, HA7, HF7, HR7, HS7, HN1_7, HN2_7, HN3_7⟩ := hrel; have hO := zdW g s2 wr HF7.out.par.has; have hIs := zhk g 3 zcE s2 wr HF7.out.par.has HF7.out.par.good.ne; by_cases hb : s2.2 < 0
    . have hbd : decide (s2.2 < 0) = true := by simpa using hb
      rw [hbd] at hO; by_cases hk : atP 3 zcE s2 = false
      . have hib : isP 3 zcE s2 = false := by unfold isP; rw [hk]; simp
        rw [hib] at hIs; have hN := fun W hW => zlY g s2 W hW
        have hmn := zhX HF7.out.par.good hb; have HKn : Hid (((acc ++ [(za0 s2).1]) ++ (za8 (mS (za0 s2).2) (za0 s2).2).1 = T1 /\ (za8 (mS (za0 s2).2) (za0 s2).2).2 = T2)) := by
         have hK := HK.out; obtain ⟨n, hn⟩ : ∃ n, mS s2 = n + 1 := ⟨mS s2 - 1, by omega⟩
         rw [hn, za8, if_pos ⟨hb, hk⟩, zgi n (mS (za0 s2).2) (za0 s2).2 (inv_good.step HF7.out.par.good) (by omega) (zpx _)] at hK
         exact ⟨by rw [<- hK.1]; simp, hK.2⟩
        generalize (za0 s2).1 = x at HKn hN; generalize (za0 s2).2 = s3 at HKn hN hmn; have hld := bc4 HS7.out; have hal2 : acc.length <= 200000 := by omega
        clear hbd hb hk hib; go_wp2_with (first | (go_at_call 140; refine hO.mono ?_; rintro e w' ⟨rfl, rfl⟩) | (go_at_call 182; refine hIs.mono ?_; rintro e w' ⟨rfl, rfl⟩))
        have HFd := zpt (HF7.out.below (W1 := wr.drew) ⟨rfl, rfl, rfl, zpx _, fun _ _ => rfl⟩)
        have HAd : Hid (Kd.R k24 24 wr.drew w.heap.size (fun _ => True) (.slice A acc.length c) acc) := zqu HA7.out ⟨rfl, rfl, rfl, zpx _, fun _ _ => rfl⟩
        have HN1_d : Hid (RS wr.drew w.heap.size (.slice A1 n1.length c1) n1) := zqu HN1_7.out ⟨rfl, rfl, rfl, zpx _, fun _ _ => rfl⟩
        have HN2_d : Hid (RS wr.drew w.heap.size (.slice A2 n2.length c2) n2) := zqu HN2_7.out ⟨rfl, rfl, rfl, zpx _, fun _ _ => rfl⟩
        have HN3_d : Hid (RS wr.drew w.heap.size (.slice A3 n3.length c3) n3) := zqu HN3_7.out ⟨rfl, rfl, rfl, zpx _, fun _ _ => rfl⟩
        have HRd := zpt (zaH HR7.out); have HSd := zpt (zaH HS7.out); clear hO hIs; go_region_law (first
         | (refine Kd.R_append_step k24 (w0 := w8) w.heap.size (by rfl) (.tmp 34) (.tmp 37) 43 24 (.agg #[.string ⟨#[]⟩, .int .i64 0, .slice none 0 0, .slice none 0 0, .int .i64 0]) 80 rfl Tryz.underlying43 zgm rfl (by decide) (by decide) (.slice A acc.length c) acc x [.string x.f0, .int .i64 x.f1, .slice AX x.f2.length cX, .slice AY x.f3.length cY, .int .i64 x.f4] (fun _ => True) (fun k_ => True /\ some k_ ≠ (Value.slice A acc.length c).ownBlock) (by rfl) (by rfl) (zfz _ _ _ x HX8.out HY8.out) (fun _ hk => hk) (fun _ _ => trivial) HA8.out (zpw _ _) HF8.out.grown.size ?aL ?_; (case aL => omega); intro v1 w9 ho hb hg hat; obtain ⟨AN, cN, rfl, _, _⟩ := zqq ho; have HA9 := zpt ho; have HF9 := zpt (HF8.out.row (Kd.R_own HA8.out).choose_spec (by decide) (by decide) (zpx _) hb hg); have HR9 := zpt (zaY HR8.out hg (Kd.R_ne HA8.out HR8.out (by decide))); have HS9 := zpt (zaY HS8.out hg (Kd.R_ne HA8.out HS8.out (by decide))); have HN1_9 := zpt (zdB HN1_8.out HA8.out (by decide) hg); have HN2_9 := zpt (zdB HN2_8.out HA8.out (by decide) hg); have HN3_9 := zpt (zdB HN3_8.out HA8.out (by decide) hg); have hst := bc4 HS9.out; have hfr : w9.frozen? ⟨S, 4, none⟩ = false := zak HS9.out 4; clear ho hb hg hat)
         | (go_simp; go_at_call 183; refine (hN _ HFd.out.par).mono ?_; rintro e w8 ⟨vx, vy, rfl, hx, hy, hp8, hg8⟩; obtain ⟨AX, cX, rfl, _, _⟩ := zqq hx; obtain ⟨AY, cY, rfl, _, _⟩ := zqq hy; have HX8 := zpt (zqJ (Kd.R_new hx (Kd.R_own HAd.out).choose_spec) HFd.out.grown.size); have HY8 := zpt (zqJ (Kd.R_new hy (Kd.R_own HAd.out).choose_spec) HFd.out.grown.size); have HF8 := zpt (HFd.out.call hp8 hg8); have HR8 := zpt (HFd.out.keeps (zpx _) HRd.out hg8); have HS8 := zpt (HFd.out.keeps (zqB hS) HSd.out hg8); have HA8 := zpt (zbc HAd.out hg8 HL.out); have HN1_8 := zpt (zbc HN1_d.out hg8 HL.out); have HN2_8 := zpt (zbc HN2_d.out hg8 HL.out); have HN3_8 := zpt (zbc HN3_d.out hg8 HL.out); have hl8 := bc4 HS8.out; have hl8a : ∀ ob : Obj, (w8.alloc ob).cell? ⟨S, 4, none⟩ = some (.slice A acc.length c) := fun ob => (zah (zaQ HS8.out ob) 4).trans rfl; clear hx hy hp8 hg8))
        all_goals
         go_wp2; go_roundg (mS s3)
         case measure => omega
         case rel =>
          have hlen : acc.length + 1 = (acc ++ [x]).length := by simp
          simp only [hlen]; refine ⟨acc ++ [x], s3, AN, cN, zpx _, ?_, ⟨HKn.out⟩, ⟨zqK HA9.out HS9.out (by decide) 4 _⟩, ⟨HF9.out.set (zqB hS) HS9.out (by decide) (by decide) 4 _⟩, ⟨zaP HR9.out (p := ⟨S, 4, none⟩) (zqG hS) _⟩, ⟨?_⟩, ⟨zqK HN1_9.out HS9.out (by decide) 4 _⟩, ⟨zqK HN2_9.out HS9.out (by decide) 4 _⟩, ⟨zqK HN3_9.out HS9.out (by decide) 4 _⟩⟩
          . rw [zpK, zpL]; omega
          . exact zav HS9.out 4 _ rfl
      . have hib : isP 3 zcE s2 = true := by
         unfold isP; rw [hbd]; simp at hk
         rw [hk]; rfl
        rw [hib] at hIs; have HKn : acc = T1 /\ s2 = T2 := by
         have hK := HK.out; have h0 : za8 (mS s2) s2 = ([], s2) := by
          generalize mS s2 = n; cases n with
          | zero => rfl
          | succ n => unfold za8; rw [if_neg (fun h => hk h.2)]
         rw [h0, zqD] at hK; exact hK
        obtain ⟨rfl, rfl⟩ := HKn; clear hbd hb hk hib HK; go_wp2_with (first | (go_at_call 140; refine hO.mono ?_; rintro e w' ⟨rfl, rfl⟩) | (go_at_call 182; refine hIs.mono ?_; rintro e w' ⟨rfl, rfl⟩))
        clear hO hIs; have HN4_7 := HA7; refine (zcS g 3 (by decide) zcE s2 wr HF7.out.par).mono ?_
        rintro e w8 ⟨rfl, hp8, hg8⟩; have HF8 := zpt (HF7.out.call hp8 hg8); have HR8 := zpt (HF7.out.keeps (zpx _) HR7.out hg8); have HS8 := zpt (HF7.out.keeps (zqB hS) HS7.out hg8); have HN1_8 := zpt (zbc HN1_7.out hg8 HL.out); have HN2_8 := zpt (zbc HN2_7.out hg8 HL.out); have HN3_8 := zpt (zbc HN3_7.out hg8 HL.out); have HN4_8 := zpt (zbc HN4_7.out hg8 HL.out); clear hp8 hg8 HF7 HR7 HS7 HN1_7 HN2_7 HN3_7 HN4_7; have hSe := HS8.out; have k0 := bc0 hSe; have k1 := bc1 hSe; have k2 := bc2 hSe; have k3 := bc3 hSe; have k4 := bc4 hSe; have hRe := HR8.out; have r0 := bc0 hRe; have z0 := zak hRe 0; have r1 := bc1 hRe; have z1 := zak hRe 1; have r2 := bc2 hRe; have z2 := zak hRe 2; have r3 := bc3 hRe; have z3 := zak hRe 3; have r4 := bc4 hRe; have z4 := zak hRe 4; clear hSe hRe; go_wp2; have hs := zcl (.string a) (.slice A1 n1.length c1) (.slice A2 n2.length c2) (.slice A3 n3.length c3) (.slice A acc.length c) HR8.out; have hF := HF8.out.set5 (zpx _) (.string a) (.slice A1 n1.length c1) (.slice A2 n2.length c2) (.slice A3 n3.length c3) (.slice A acc.length c) HR8.out (by decide) (by decide)
        have hA := RS.set5 HN1_8.out (.string a) (.slice A1 n1.length c1) (.slice A2 n2.length c2) (.slice A3 n3.length c3) (.slice A acc.length c) HR8.out (by decide)
        have hB := RS.set5 HN2_8.out (.string a) (.slice A1 n1.length c1) (.slice A2 n2.length c2) (.slice A3 n3.length c3) (.slice A acc.length c) HR8.out (by decide)
        have hC := RS.set5 HN3_8.out (.string a) (.slice A1 n1.length c1) (.slice A2 n2.length c2) (.slice A3 n3.length c3) (.slice A acc.length c) HR8.out (by decide)
        have hD := zdz HN4_8.out (.string a) (.slice A1 n1.length c1) (.slice A2 n2.length c2) (.slice A3 n3.length c3) (.slice A acc.length c) HR8.out (by decide)
        clear k0 k1 k2 k3 k4 r0 r1 r2 r3 r4 z0 z1 z2 z3 z4; unfold set5 at hs hF hA hB hC hD; generalize (((((w8.setCell ⟨w.heap.size, 0, none⟩ (.string a)).setCell ⟨w.heap.size, 1, none⟩ (.slice A1 n1.length c1)).setCell ⟨w.heap.size, 2, none⟩ (.slice A2 n2.length c2)).setCell ⟨w.heap.size, 3, none⟩ (.slice A3 n3.length c3)).setCell ⟨w.heap.size, 4, none⟩ (.slice A acc.length c)) = wE at hs hF hA hB hC hD |-; have g0 := (zah hs 0).trans rfl; have g1 := (zah hs 1).trans rfl; have g2 := (zah hs 2).trans rfl; have g3 := (zah hs 3).trans rfl; have g4 := (zah hs 4).trans rfl; exact bodyPost_ret (v := .agg #[.string a, .slice A1 n1.length c1, .slice A2 n2.length c2, .slice A3 n3.length c3, .slice A acc.length c]) (by simp [results, Tryz.results141, go_sem, g0, g1, g2, g3, g4]) rfl (by
         rw [HT.out]; exact ⟨_, _, _, _, rfl, hA, hB, hC, hD, hF.par, hF.grown⟩)
    . have hbd : decide (s2.2 < 0) = false := by simpa using hb
      rw [hbd] at hO; have HKn : acc = T1 /\ s2 = T2 := by
       have hK := HK.out; have h0 : za8 (mS s2) s2 = ([], s2) := by
        generalize mS s2 = n; cases n with
        | zero => rfl
        | succ n => unfold za8; rw [if_neg (fun h => hb h.1)]
       rw [h0, zqD] at hK; exact hK
      obtain ⟨rfl, rfl⟩ := HKn; clear hbd hb HK hIs; go_wp2_with (go_at_call 140; refine hO.mono ?_; rintro e w' ⟨rfl, rfl⟩)
      clear hO; have HN4_7 := HA7; refine (zcS g 3 (by decide) zcE s2 wr HF7.out.par).mono ?_
      rintro e w8 ⟨rfl, hp8, hg8⟩; have HF8 := zpt (HF7.out.call hp8 hg8); have HR8 := zpt (HF7.out.keeps (zpx _) HR7.out hg8); have HS8 := zpt (HF7.out.keeps (zqB hS) HS7.out hg8); have HN1_8 := zpt (zbc HN1_7.out hg8 HL.out); have HN2_8 := zpt (zbc HN2_7.out hg8 HL.out); have HN3_8 := zpt (zbc HN3_7.out hg8 HL.out); have HN4_8 := zpt (zbc HN4_7.out hg8 HL.out); clear hp8 hg8 HF7 HR7 HS7 HN1_7 HN2_7 HN3_7 HN4_7; have hSe := HS8.out; have k0 := bc0 hSe; have k1 := bc1 hSe; have k2 := bc2 hSe; have k3 := bc3 hSe; have k4 := bc4 hSe; have hRe := HR8.out; have r0 := bc0 hRe; have z0 := zak hRe 0; have r1 := bc1 hRe; have z1 := zak hRe 1; have r2 := bc2 hRe; have z2 := zak hRe 2; have r3 := bc3 hRe; have z3 := zak hRe 3; have r4 := bc4 hRe; have z4 := zak hRe 4; clear hSe hRe; go_wp2; have hs := zcl (.string a) (.slice A1 n1.length c1) (.slice A2 n2.length c2) (.slice A3 n3.length c3) (.slice A acc.length c) HR8.out; have hF := HF8.out.set5 (zpx _) (.string a) (.slice A1 n1.length c1) (.slice A2 n2.length c2) (.slice A3 n3.length c3) (.slice A acc.length c) HR8.out (by decide) (by decide)
      have hA := RS.set5 HN1_8.out (.string a) (.slice A1 n1.length c1) (.slice A2 n2.length c2) (.slice A3 n3.length c3) (.slice A acc.length c) HR8.out (by decide)
      have hB := RS.set5 HN2_8.out (.string a) (.slice A1 n1.length c1) (.slice A2 n2.length c2) (.slice A3 n3.length c3) (.slice A acc.length c) HR8.out (by decide)
      have hC := RS.set5 HN3_8.out (.string a) (.slice A1 n1.length c1) (.slice A2 n2.length c2) (.slice A3 n3.length c3) (.slice A acc.length c) HR8.out (by decide)
      have hD := zdz HN4_8.out (.string a) (.slice A1 n1.length c1) (.slice A2 n2.length c2) (.slice A3 n3.length c3) (.slice A acc.length c) HR8.out (by decide)
      clear k0 k1 k2 k3 k4 r0 r1 r2 r3 r4 z0 z1 z2 z3 z4; unfold set5 at hs hF hA hB hC hD; generalize (((((w8.setCell ⟨w.heap.size, 0, none⟩ (.string a)).setCell ⟨w.heap.size, 1, none⟩ (.slice A1 n1.length c1)).setCell ⟨w.heap.size, 2, none⟩ (.slice A2 n2.length c2)).setCell ⟨w.heap.size, 3, none⟩ (.slice A3 n3.length c3)).setCell ⟨w.heap.size, 4, none⟩ (.slice A acc.length c)) = wE at hs hF hA hB hC hD |-; have g0 := (zah hs 0).trans rfl; have g1 := (zah hs 1).trans rfl; have g2 := (zah hs 2).trans rfl; have g3 := (zah hs 3).trans rfl; have g4 := (zah hs 4).trans rfl; exact bodyPost_ret (v := .agg #[.string a, .slice A1 n1.length c1, .slice A2 n2.length c2, .slice A3 n3.length c3, .slice A acc.length c]) (by simp [results, Tryz.results141, go_sem, g0, g1, g2, g3, g4]) rfl (by
       rw [HT.out]; exact ⟨_, _, _, _, rfl, hA, hB, hC, hD, hF.par, hF.grown⟩)
end X
namespace X
open Go.RowKit Go.Maps YtdpgdnpddndeoaaGreatDoorW.PrintWords YtdpgdnpddndeoaaGreatDoorW.PrintMore
--BEGIN
def hexD (n : Nat) : UInt8 := UInt8.ofNat (if n < 10 then 48 + n else 87 + n)
def zdh (c : UInt8) : zaa :=
 if c = 34 \/ c = 92 then [92, c] else if c = 10 then [92, 110] else if c = 9 then [92, 116]
 else if c.toNat < 32 \/ 126 < c.toNat then [92, 120, hexD (c.toNat / 16), hexD (c.toNat % 16)] else [c]
def zdT : zaa -> zaa
 | [] => []
 | c :: r => zdh c ++ zdT r
def zea (s : zaa) : zaa := 34 :: (zdT s ++ [34])
--END
--BEGIN
def lexM (b : Bool) (s : zaa) (p : Nat) : Except Nat (List zaO) := lexL (s.length + 1) (p + zaB b s) (s.drop (zaB b s))
theorem zpq (s : zaa) : allF s = (lexM false s 0).map (· ++ [⟨4, (s.length : Nat), ⟨#[]⟩⟩]) := by
 unfold allF lexM; rw [Nat.zero_add]
theorem zg2 (b : Bool) (p : Nat) : lexM b [] p = .ok [] := by cases b <;> rfl
theorem zeJ (b b' : Bool) (c : UInt8) (r : zaa) (p : Nat) (h : zaB b (c :: r) = 1 + zaB b' r) : lexM b (c :: r) p = lexM b' r (p + 1) := by
 unfold lexM; rw [h, Nat.add_comm 1, zqI, show p + (zaB b' r + 1) = p + 1 + zaB b' r by omega]
 exact zd7 _ _ _ _ (by rw [zpR, zqh]; omega) (by rw [zpR]; omega)
theorem zhw {c : UInt8} (h : zci c = true) (r : zaa) (p : Nat) : lexM false (c :: r) p = lexM false r (p + 1) := zeJ _ _ _ _ _ (by rw [zaB, if_pos h])
theorem zjp (r : zaa) (p : Nat) : lexM false (35 :: r) p = lexM true r (p + 1) := zeJ _ _ _ _ _ (by rw [zaB, if_neg (by decide), if_pos rfl])
theorem zgZ (r : zaa) (p : Nat) : lexM true (10 :: r) p = lexM false r (p + 1) := zeJ _ _ _ _ _ (by rw [zaB, if_pos rfl])
theorem zif {c : UInt8} (h : c ≠ 10) (r : zaa) (p : Nat) : lexM true (c :: r) p = lexM true r (p + 1) := zeJ _ _ _ _ _ (by rw [zaB, if_neg h])
theorem zkv : ∀ c : Nat, c < 256 -> zci (UInt8.ofNat c) = true \/ UInt8.ofNat c = 35 -> letU (UInt8.ofNat c) = false /\ UInt8.ofNat c ≠ 34 /\ zeD (UInt8.ofNat c) = false := by decide +kernel
theorem zoT {c : UInt8} {r : zaa} {q : Nat × zaa × Nat} (h : zaK (c :: r) = some q) : zci c = false /\ c ≠ 35 := by
 have key : ¬ (zci c = true \/ c = 35) := by
  intro hc; have := zkv c.toNat (UInt8.toNat_lt c); rw [show UInt8.ofNat c.toNat = c by simp] at this
  obtain ⟨h1, h2, h3⟩ := this hc; unfold zaK at h; rw [if_neg (by rw [zdU, h1]; simp)] at h
  simp [h2, h3] at h
 exact ⟨by cases hb : zci c with
  | false => rfl
  | true => exact absurd (.inl hb) key, fun e => key (.inr e)⟩
theorem zo0 : zaK [] = none := by simp [zaK, runL]
theorem zlw {s : zaa} {q : Nat × zaa × Nat} (h : zaK s = some q) : zaB false s = 0 := by
 match s, h with
 | [], h => rw [zo0] at h; cases h
 | c :: r, h =>
  obtain ⟨h1, h2⟩ := zoT h; rw [zaB, if_neg (by rw [h1]; simp), if_neg h2]
theorem zic {s : zaa} {q : Nat × zaa × Nat} (h : zaK s = some q) (p : Nat) : lexM false s p = (lexM false (s.drop q.2.2) (p + q.2.2)).map (⟨(q.1 : Nat), (p : Nat), mk q.2.1⟩ :: ·) := by
 have hp := zdi h; have hsk := zlw h; unfold lexM; rw [hsk, zqA, lexL, if_neg (fun e => by rw [e] at hp; simp at hp; omega), h]
 simp only [Nat.add_zero]; rw [zd7 s.length ((s.drop q.2.2).length + 1) _ _ (by have := zcW false (s.drop q.2.2); rw [zpR, zpR] at *; omega) (by have := zcW false (s.drop q.2.2); rw [zpR, zpR] at *; omega)]
theorem zgz {c : UInt8} {r : zaa} (h : zaK (c :: r) = none) (h1 : zci c = false) (h2 : c ≠ 35) (p : Nat) : lexM false (c :: r) p = .error p := by
 have hsk : zaB false (c :: r) = 0 := by rw [zaB, if_neg (by rw [h1]; simp), if_neg h2]
 unfold lexM; rw [hsk, zqA, lexL, if_neg (by simp), h]
 simp only [Nat.add_zero]
theorem zhS {P : Bool -> zaa -> Nat -> Prop} (nil : ∀ b p, P b [] p)
 (blank : ∀ c r p, zci c = true -> P false r (p + 1) -> P false (c :: r) p) (hash : ∀ r p, P true r (p + 1) -> P false (35 :: r) p) (nl : ∀ r p, P false r (p + 1) -> P true (10 :: r) p) (com : ∀ c r p, c ≠ 10 -> P true r (p + 1) -> P true (c :: r) p)
 (word : ∀ s p q, zaK s = some q -> P false (s.drop q.2.2) (p + q.2.2) -> P false s p) (bad : ∀ c r p, zaK (c :: r) = none -> zci c = false -> c ≠ 35 -> P false (c :: r) p) : ∀ b s p, P b s p := by
 have key : ∀ n b s p, s.length < n -> P b s p := by
  intro n; induction n with
  | zero => exact fun b s p h => absurd h (Nat.not_lt_zero _)
  | succ n ih =>
   intro b s p h; match b, s, h with
   | b, [], _ => exact nil b p
   | true, c :: r, h =>
    by_cases hc : c = 10
    . subst hc; exact nl r p (ih _ _ _ (by simp at h; omega))
    . exact com c r p hc (ih _ _ _ (by simp at h; omega))
   | false, c :: r, h =>
    by_cases hb : zci c = true
    . exact blank c r p hb (ih _ _ _ (by simp at h; omega))
    . by_cases h35 : c = 35
      . subst h35; exact hash r p (ih _ _ _ (by simp at h; omega))
      . cases hw : zaK (c :: r) with
        | none => exact bad c r p hw (by simpa using hb) h35
        | some q =>
         have hp := zdi hw; exact word _ p q hw (ih _ _ _ (by rw [zpR]; omega))
 exact fun b s p => key (s.length + 1) b s p (by omega)
theorem znB (l : zaa) : ∀ c ∈ (l.drop (runL l)).head?, letU c = false := by
 induction l with
 | nil => simp [runL]
 | cons c r ih =>
  rw [zdU]; by_cases hc : letU c = true
  . rw [if_pos hc, Nat.add_comm, zqI]; exact ih
  . rw [if_neg hc]; simpa using hc
theorem zps {s : zaa} {q : Nat × zaa × Nat} (h : zaK s = some q) (h1 : q.1 = 1) : ∀ c ∈ (s.drop q.2.2).head?, letU c = false := by
 unfold zaK at h; by_cases h0 : 0 < runL s
 . rw [if_pos h0] at h
   cases h
   exact znB s
 . rw [if_neg h0] at h
   match s, h with
   | c :: r, h =>
    dsimp only at h; split at h
    . obtain ⟨p, hp, rfl⟩ := zpC.1 h
      simp at h1
    . split at h
      . cases h; simp at h1
      . cases h
   | [], h => cases h
--END
--BEGIN
theorem zd4 {α β : Type} {f : α -> β} {r : Except Nat α} {b : β} (h : r.map f = .ok b) : ∃ a, r = .ok a /\ f a = b := by
 cases r with
 | error e => cases h
 | ok a => exact ⟨a, rfl, by injection h⟩
def Ends (b : Bool) (s : zaa) : Prop := (s = [] /\ b = false) \/ ∃ a, s = a ++ [10]
theorem Ends.cons {b b' : Bool} {c : UInt8} {r : zaa} (h : Ends b (c :: r)) (hb : c = 10 -> b' = false) : Ends b' r := by
 rcases h with ⟨h, _⟩ | ⟨a, h⟩
 . cases h
 . match a, h with
   | [], h =>
    simp at h
    exact .inl ⟨h.2, hb h.1⟩
   | d :: a, h =>
    simp at h
    exact .inr ⟨a, h.2⟩
def Chain (t : zaa) : Nat -> List zaO -> Prop
 | _, [] => True
 | lo, x :: r => ∃ a n : Nat, x.f1 = a /\ lo <= a /\ 0 < n /\ a + n <= t.length /\ (x.f0 = 2 \/ (x.f0 = 1 \/ x.f0 = 3) /\ x.f2 = mk ((t.drop a).take n)) /\ Chain t (a + n) r
theorem Chain.low {t : zaa} {lo lo' : Nat} {l : List zaO} (h : Chain t lo l) (hl : lo' <= lo) : Chain t lo' l := by
 match l, h with
 | [], _ => exact trivial
 | x :: r, ⟨a, n, h1, h2, h3⟩ => exact ⟨a, n, h1, by omega, h3⟩
theorem zku {s : zaa} {q : Nat × zaa × Nat} (h : zaK s = some q) : q.1 = 2 \/ (q.1 = 1 \/ q.1 = 3) /\ q.2.1 = s.take q.2.2 := by
 unfold zaK at h; by_cases h0 : 0 < runL s
 . rw [if_pos h0] at h
   cases h
   exact .inr ⟨.inl rfl, rfl⟩
 . rw [if_neg h0] at h
   match s, h with
   | d :: r, h =>
    dsimp only at h; split at h
    . obtain ⟨x, _, rfl⟩ := zpC.1 h
      exact .inl rfl
    . split at h
      . cases h; exact .inr ⟨.inr rfl, rfl⟩
      . cases h
   | [], h => cases h
theorem zlF (t : zaa) : ∀ b s p, p <= t.length -> t.drop p = s -> ∀ ws, lexM b s p = .ok ws -> Chain t p ws := by
 have tl : ∀ {c : UInt8} {r : zaa} {p : Nat}, p <= t.length -> t.drop p = c :: r -> p + 1 <= t.length /\ t.drop (p + 1) = r := by
  intro c r p hp h; have := congrArg List.length h; rw [zpR, zqh] at this; refine ⟨by omega, ?_⟩
  rw [<- List.drop_drop, h, zqI, zqA]
 apply zhS
 . intro b p _ _ ws h; rw [zg2] at h; cases h; trivial
 . intro c r p hc ih hp hd ws h; rw [zhw hc] at h; exact (ih (tl hp hd).1 (tl hp hd).2 ws h).low (by omega)
 . intro r p ih hp hd ws h; rw [zjp] at h; exact (ih (tl hp hd).1 (tl hp hd).2 ws h).low (by omega)
 . intro r p ih hp hd ws h; rw [zgZ] at h; exact (ih (tl hp hd).1 (tl hp hd).2 ws h).low (by omega)
 . intro c r p hc ih hp hd ws h; rw [zif hc] at h; exact (ih (tl hp hd).1 (tl hp hd).2 ws h).low (by omega)
 . intro s p q hq ih hp hd ws h
   have hpos := zdi hq; rw [zic hq] at h; obtain ⟨a, ha, rfl⟩ := zd4 h; have hlen : s.length = t.length - p := by rw [<- hd, zpR]
   refine ⟨p, q.2.2, rfl, zpx _, hpos.1, by omega, ?_, ih (by omega) (by rw [<- hd, List.drop_drop]) a ha⟩
   rcases zku hq with h2 | ⟨h13, hs⟩
   . exact .inl (by show ((q.1 : Nat) : Int) = 2; omega)
   . refine .inr ⟨?_, ?_⟩
     . show ((q.1 : Nat) : Int) = 1 \/ ((q.1 : Nat) : Int) = 3
       omega
     . show mk q.2.1 = _
       rw [hs, hd]
 . intro c r p hq h1 h2 _ _ ws h; rw [zgz hq h1 h2] at h; cases h
--END
--BEGIN
theorem zjV {s : PS} (hg : GoodW s.1) (hs : s.2 < 0) : ¬ (zbD s).2 < 0 := by
 unfold zbD; rw [if_pos hs]; obtain ⟨l, d⟩ := s; match l, hg.ne, hg with
 | x :: r, _, hg => have := (hg.2 x (by simp)).1; show ¬ x.f1 < 0; omega
--END
--BEGIN
section
variable {e : zaO} {t : List zaO}
end
theorem zfI : ∀ (k : Nat) (l : zaa) (p : zaa × Nat), zbx k l = some p -> p.1.length <= p.2
 | 0, _, _, h => by cases h
 | k + 1, [], _, h => by cases h
 | k + 1, c :: r, p, h => by
  unfold zbx at h; split at h
  . cases h; simp
  . split at h
    . split at h
      . cases h
      . obtain ⟨q, hq, rfl⟩ := zpC.1 h
        have := zfI k _ q hq; simp only [zqh]; omega
    . split at h
      . cases h
      . obtain ⟨q, hq, rfl⟩ := zpC.1 h
        have := zfI k _ q hq; simp only [zqh]; omega
theorem zoz {s : zaa} {q : Nat × zaa × Nat} (h : zaK s = some q) : q.2.1.length <= q.2.2 := by
 unfold zaK at h; by_cases h0 : 0 < runL s
 . rw [if_pos h0] at h
   cases h
   show (s.take (runL s)).length <= runL s
   rw [List.length_take]; omega
 . rw [if_neg h0] at h
   match s, h with
   | d :: r, h =>
    dsimp only at h; split at h
    . obtain ⟨x, hx, rfl⟩ := zpC.1 h
      have := zfI _ _ x hx; dsimp only; omega
    . split at h
      . cases h; simp
      . cases h
   | [], h => cases h
theorem zmq : ∀ b s p, ∀ ws, lexM b s p = .ok ws -> ∀ x ∈ ws, x.f2.size <= s.length := by
 apply zhS
 . intro b p ws h x hx; rw [zg2] at h; cases h; cases hx
 . intro c r p hc ih ws h x hx; rw [zhw hc] at h; have := ih ws h x hx; simp; omega
 . intro r p ih ws h x hx; rw [zjp] at h; have := ih ws h x hx; simp; omega
 . intro r p ih ws h x hx; rw [zgZ] at h; have := ih ws h x hx; simp; omega
 . intro c r p hc ih ws h x hx; rw [zif hc] at h; have := ih ws h x hx; simp; omega
 . intro s p q hq ih ws h x hx
   have hp := zdi hq; rw [zic hq] at h; obtain ⟨a, ha, rfl⟩ := zd4 h; rcases zqE.1 hx with rfl | hx
   . have := zoz hq
     show (mk q.2.1).size <= _
     rw [zqc, zbd]; omega
   . have := ih a ha x hx; rw [zpR] at this; omega
 . intro c r p hq h1 h2 ws h; rw [zgz hq h1 h2] at h; cases h
theorem zlI {s : zaa} {ws : List zaO} (hs : s.length <= 100000) (h : lexM false s 0 = .ok ws) : (∀ x ∈ ws, x.f0 ≠ 4) /\ GoodW (ws ++ [⟨4, (s.length : Nat), ⟨#[]⟩⟩]) := by
 have hch := zlF s false s 0 (Nat.zero_le _) zqA ws h; have key : ∀ (ws : List zaO) lo, Chain s lo ws -> ∀ x ∈ ws, x.f0 ≠ 4 /\ 0 <= x.f1 /\ x.f1 <= 100000 := by
  intro ws; induction ws with
  | nil => exact fun _ _ x hx => by cases hx
  | cons y r ih =>
   rintro lo ⟨a, n, h1, h2, h3, h4, h5, h6⟩ x hx; rcases zqE.1 hx with rfl | hx
   . refine ⟨?_, by omega, by omega⟩
     rcases h5 with h5 | ⟨h5 | h5, _⟩ <;> rw [h5] <;> decide
   . exact ih _ h6 x hx
 refine ⟨fun x hx => (key ws 0 hch x hx).1, ⟨⟨4, (s.length : Nat), ⟨#[]⟩⟩, by simp, rfl⟩, fun x hx => ?_⟩
 rcases List.mem_append.1 hx with hx | hx
 . exact ⟨(key ws 0 hch x hx).2.1, (key ws 0 hch x hx).2.2, zpD (zmq false s 0 ws h x hx) hs⟩
 . rw [List.mem_singleton.1 hx]
   exact ⟨by simp, by simp; omega, show (0 : Nat) <= 100000 by omega⟩
theorem zkw {s : zaa} {l : List zaO} (hs : s.length <= 100000) (h : allF s = .ok l) : GoodW l := by
 rw [zpq] at h; obtain ⟨ws, h1, rfl⟩ := zd4 h; exact (zlI hs h1).2
theorem zgV (l : List zaO) : zes l = if (zaV (l.length + 1) (l, -1)).2.2 < 0 then ((zaV (l.length + 1) (l, -1)).1, 0, 0) else ([], 1, (zaV (l.length + 1) (l, -1)).2.2) := rfl
--END
end X
namespace X
open Go.RowKit Go.Maps YtdpgdnpddndeoaaGreatDoorW.PrintWords YtdpgdnpddndeoaaGreatDoorW.PrintMore YtdpgdnpddndeoaaGreatDoorW.PrintLast
theorem zmM {W : World} {base : Nat} {v : Value} {l : List zaO} (h : Kd.R k139 139 W base (fun _ => True) v l) (hne : l ≠ []) :
 ∃ b c cur, v = .slice (some ⟨b, 0, none⟩) l.length c /\ l.length <= c /\ W.heap[b]? = some (.cells cur 139 (0, 0)) /\ WordsAt cur 0 l := by
 obtain ⟨A, c, he, hc, hC⟩ := zqq h; obtain ⟨inner, ho⟩ := Kd.R_own h; have hpos : 0 < l.length := zqz.2 hne; rcases ho.2 with ⟨hv, hn⟩ | ⟨g, cap, cur, hv, hg, hh, r⟩
 . omega
 . rw [he] at hv
   injection hv with h1 h2 h3; subst h1; refine ⟨g, c, cur, he, hc, hh, fun j x hj => ?_⟩
   obtain ⟨ad, ha, hcell⟩ := hC.2.2 hpos; injection ha with ha; subst ha; obtain ⟨cs, hl, hK, hcc⟩ := hcell j x hj; have hcs := zhO hK; subst hcs; have k0 := hcc 0 _ rfl; have k1 := hcc 1 _ rfl; have k2 := hcc 2 _ rfl; rw [zfl, zah hh] at k0 k1 k2; have hsz : (k139).sz = 3 := rfl; rw [hsz] at k0 k1 k2; refine ⟨?_, ?_, ?_⟩
   . rw [show 0 + 3 * j = j * 3 + 0 by omega]; exact k0
   . rw [show 0 + 3 * j + 1 = j * 3 + 1 by omega]; exact k1
   . rw [show 0 + 3 * j + 2 = j * 3 + 2 by omega]; exact k2
theorem zgF {s : PS} (hg : GoodW s.1) (hs : s.2 < 0) : mS (zbf s).2 < mS s := by
 have hm : mS s = s.1.length + 1 := by unfold mS; rw [if_pos hs]
 have h1 : mS (zaA 1 zdf s) < mS s := by
  rw [hm]; unfold zaA; split
  . have h2 := zcI (s.1.tail, s.2)
    have h3 : 0 < s.1.length := zqz.2 hg.ne; have h4 : (s.1.tail, s.2).1.length = s.1.length - 1 := List.length_tail; omega
  . have := zjV hg hs
    unfold mS; rw [if_neg this, zfy]; omega
 have h2 : mS (zbf s).2 <= mS (zaA 1 zdf s) := by
  have h := zeI (mS (zaA 1 zdf s)); exact h.must (h.steps _ (h.if_ _ (h.list (h.must (h.if_ _ (h.must (h.name (zpx _)) (by decide) _)) (by decide) _)))) (by decide) _
 omega
theorem zg8 : ∀ (n m : Nat) (s : PS), GoodW s.1 -> mS s <= n -> mS s <= m -> zaV n s = zaV m s
 | 0, 0, _, _, _, _ => rfl
 | 0, m + 1, s, hg, h, _ => by
  unfold zaV; rw [if_neg (fun hc => by have := zqz.2 hg.ne; unfold mS at h; omega)]
 | n + 1, 0, s, hg, _, h => by
  unfold zaV; rw [if_neg (fun hc => by have := zqz.2 hg.ne; unfold mS at h; omega)]
 | n + 1, m + 1, s, hg, h1, h2 => by
  unfold zaV; by_cases hc : s.2 < 0 /\ (zay s.1).f0 ≠ 4
  . rw [if_pos hc, if_pos hc]
    have := zgF hg hc.1; rw [zg8 n m _ (inv_good.rule hg) (by omega) (by omega)]
  . rw [if_neg hc, if_neg hc]
theorem zhD : ∀ (k p : Nat) (s : zaa) (l : List zaO), lexL k p s = .ok l -> l.length <= s.length
 | 0, _, _, _, h => by cases h
 | k + 1, p, s, l, h => by
  unfold lexL at h; by_cases h0 : s = []
  . rw [if_pos h0] at h; cases h; simp
  . rw [if_neg h0] at h
    cases hw : zaK s with
    | none => rw [hw] at h; cases h
    | some q =>
     rw [hw] at h; obtain ⟨a, ha, rfl⟩ := zd4 h; have h1 := zhD k _ _ a ha; have h2 := zdi hw; simp only [zpR] at h1; simp only [zqh]; omega
theorem zlV {s : zaa} {l : List zaO} (h : allF s = .ok l) : l.length <= s.length + 1 := by
 unfold allF at h; obtain ⟨a, ha, rfl⟩ := zd4 h; have := zhD _ _ _ a ha; rw [zpR] at this; simp
 omega
def zn8 (r : List zaj × Int × Int) (w : World) (e : Ending) (w' : World) : Prop :=
 ∃ v : Value, e = .returned (.tuple #[v, .agg #[.int .i64 r.2.1, .int .i64 r.2.2]]) /\ Kd.R k45 45 w' w.heap.size (fun _ => True) v r.1 /\ Below w.heap.size w w'
theorem zjr (s : ByteArray) (w : World) (hG : GOK w) :
 Calls zp5 111 #[.string s] w (zn8 (zb7 s.data.toList) w) := by
 have HG := zpt hG; clear hG; by_cases hbig : 20000 < s.size
 . have hd : decide ((20000 : Int) < (s.size : Int)) = true := by simp; omega
   have HV : Hid (zb7 s.data.toList = ([], 4, -1)) := by
    show _ = _
    unfold zb7; rw [if_pos (by rw [<- zqc]; exact hbig)]
   clear hbig; go_enter Tryz.func111, Tryz.ntmps111
   go_wp2; have hs := zap w (.cells #[.int .i64 4, .int .i64 (-1)] 133); have hB := (zpw w.heap.size w).alloc (zpx _) (.cells #[.int .i64 4, .int .i64 (-1)] 133); generalize w.alloc (.cells #[.int .i64 4, .int .i64 (-1)] 133) = wE at hs hB |-; have g0 := (zah hs 0).trans rfl; have g1 := (zah hs 1).trans rfl; exact bodyPost_ret (v := .tuple #[.slice none 0 0, .agg #[.int .i64 4, .int .i64 (-1)]]) (by simp [results, Tryz.results111, go_sem, g0, g1]) rfl (by
    rw [HV.out]; exact ⟨_, rfl, Kd.R_nil _ _ _ _ _, hB⟩)
 . have hd : decide ((20000 : Int) < (s.size : Int)) = false := by simp; omega
   have hlen : s.data.toList.length <= 20000 := by rw [<- zqc]; omega
   have hA := fun W => ziX s (by omega) W
   have hV : zb7 s.data.toList = match allF s.data.toList with | .error p => ([], 1, (p : Nat)) | .ok l => zes l := by
    unfold zb7; rw [if_neg (by omega)]
    rfl
   clear hbig; cases hall : allF s.data.toList with
   | error p =>
    have HV : Hid (zb7 s.data.toList = ([], 1, ((p : Nat) : Int))) := by show _ = _; rw [hV, hall]
    rw [hall] at hA; replace hA : ∀ W, Calls zp5 110 #[.string s] W (zge ([], 1, (p : Nat)) W) := hA
    clear hV hall hlen; go_enter Tryz.func111, Tryz.ntmps111
    go_wp2_with fail; refine (hA _).mono ?_; rintro e w1 ⟨v0, rfl, hr1, hb1⟩; have hR1 := zai (zap w (.cells #[.int .i64 0, .int .i64 0] 133)) hb1; have HB1 := zpt (zac ((zpw w.heap.size w).alloc (zpx _) (.cells #[.int .i64 0, .int .i64 0] 133)) (by simp) hb1)
    obtain ⟨A0, c0, rfl, _, _⟩ := zqq hr1; have hR2 := zaQ hR1 (.cells #[.int .i64 1, .int .i64 (p : Nat)] 133); have hE2 := zap w1 (.cells #[.int .i64 1, .int .i64 (p : Nat)] 133); have HB2 := zpt (HB1.out.alloc HB1.out.size (.cells #[.int .i64 1, .int .i64 (p : Nat)] 133)); clear hA hb1 hr1 hR1 HB1; go_wp2; generalize w1.alloc (.cells #[.int .i64 1, .int .i64 (p : Nat)] 133) = w2 at hR2 hE2 HB2 |-; generalize w1.heap.size = E at hE2 |-; have HR2 := zpt hR2; have k0 := bc0 hE2; have k1 := bc1 hE2; have r0 := bc0 hR2; have r1 := bc1 hR2; have f0 : w2.frozen? ⟨w.heap.size, 0, none⟩ = false := zak hR2 0; have f1 : w2.frozen? ⟨w.heap.size, 1, none⟩ = false := zak hR2 1; clear hR2 hE2; go_region
    all_goals
     have hs := zdA (.int .i64 1) (.int .i64 (p : Nat)) HR2.out; have hB := (HB2.out.setCell (p := ⟨w.heap.size, 0, none⟩) (zpx _) (.int .i64 1)).setCell (p := ⟨w.heap.size, 1, none⟩) (zpx _) (.int .i64 (p : Nat)); go_wp2; have hs2 := zaH hs; have hB2 := zaM hB; generalize ((w2.setCell ⟨w.heap.size, 0, none⟩ (.int .i64 1)).setCell ⟨w.heap.size, 1, none⟩ (.int .i64 (p : Nat))).drew = wE at hs2 hB2 |-; have g0 := (zah hs2 0).trans rfl; have g1 := (zah hs2 1).trans rfl; exact bodyPost_ret (v := .tuple #[.slice none 0 0, .agg #[.int .i64 1, .int .i64 (p : Nat)]]) (by simp [results, Tryz.results111, go_sem, g0, g1]) rfl (by
      rw [HV.out]; exact ⟨_, rfl, Kd.R_nil _ _ _ _ _, hB2⟩)
   | ok l =>
    have HV : Hid (zb7 s.data.toList = zes l) := by show _ = _; rw [hV, hall]
    have hgood : GoodW l := zkw (by omega) hall
    have hll : l.length <= 20001 := zpD (zlV hall) (zqH hlen 1); rw [hall] at hA; replace hA : ∀ W, Calls zp5 110 #[.string s] W (zge (l, 0, 0) W) := hA
    have HGood := zpt hgood; clear hV hall hlen hgood; go_enter Tryz.func111, Tryz.ntmps111
    go_wp2_with fail; refine (hA _).mono ?_; rintro e w1 ⟨v0, rfl, hr1, hb1⟩; replace hr1 : Kd.R k139 139 w1 (w.alloc (.cells #[.int .i64 0, .int .i64 0] 133)).heap.size (fun _ => True) v0 l := hr1
    have hR1 := zai (zap w (.cells #[.int .i64 0, .int .i64 0] 133)) hb1; have hB1 := zac ((zpw w.heap.size w).alloc (zpx _) (.cells #[.int .i64 0, .int .i64 0] 133)) (by simp) hb1
    obtain ⟨b, c, cur, rfl, hc, hbl, hwd⟩ := zmM hr1 HGood.out.ne; have hs2 := zaQ hbl (.cells #[.int .i64 0, .int .i64 0] 133); have hs3 := zaQ hs2 (.cells #[.slice (some ⟨b, 0, none⟩) l.length c, .int .i64 (-1)] 169); have hp3 := zap (w1.alloc (.cells #[.int .i64 0, .int .i64 0] 133)) (.cells #[.slice (some ⟨b, 0, none⟩) l.length c, .int .i64 (-1)] 169); have hR3 := zaQ (zaQ hR1 (.cells #[.int .i64 0, .int .i64 0] 133)) (.cells #[.slice (some ⟨b, 0, none⟩) l.length c, .int .i64 (-1)] 169); have hB2 := hB1.alloc hB1.size (.cells #[.int .i64 0, .int .i64 0] 133); have hB3 := hB2.alloc hB2.size (.cells #[.slice (some ⟨b, 0, none⟩) l.length c, .int .i64 (-1)] 169); have hgs : (w1.alloc (.cells #[.int .i64 0, .int .i64 0] 133)).heap.size = w1.heap.size + 1 := by simp
    have hwl : w.heap.size < w1.heap.size := za1 hR1; rw [hgs] at hp3; have hF : Fly ((w1.alloc (.cells #[.int .i64 0, .int .i64 0] 133)).alloc (.cells #[.slice (some ⟨b, 0, none⟩) l.length c, .int .i64 (-1)] 169)) (w1.heap.size + 1) ((w1.alloc (.cells #[.int .i64 0, .int .i64 0] 133)).alloc (.cells #[.slice (some ⟨b, 0, none⟩) l.length c, .int .i64 (-1)] 169)) (l, -1) := by
     refine Fly.start ⟨⟨b, 0, c, cur, hp3, hc, hs3, hwd⟩, ⟨w, HG.out, by omega, hB3⟩, HGood.out, by show l.length <= 100000; omega⟩
    have HF := zpt hF; have HR := zpt hR3; have HB := zpt hB3; have hRg : w.heap.size < w1.heap.size + 1 := by omega
    clear hA hb1 hr1 hR1 hB1 hbl hwd hs2 hs3 hp3 hR3 hB2 hB3 hgs hF hwl hc; go_wp2_with fail; generalize (w1.alloc (.cells #[.int .i64 0, .int .i64 0] 133)).alloc (.cells #[.slice (some ⟨b, 0, none⟩) l.length c, .int .i64 (-1)] 169) = wg at HF HR HB |-; generalize w1.heap.size + 1 = g at HF hRg |-; go_loopg [7] (mS (l, -1)) (fun gg s7 wr => ∃ (acc : List zaj) (s2 : PS) (A : Option Addr) (c : Nat), s7 = .slice A acc.length c /\ mS s2 <= gg /\ acc.length + mS s2 <= mS (l, -1) /\ Aside0 (acc ++ (zaV (mS s2) s2).1 = (zaV (mS (l, -1)) (l, -1)).1 /\ (zaV (mS s2) s2).2 = (zaV (mS (l, -1)) (l, -1)).2) /\
     Aside0 (Kd.R k45 45 wr wg.heap.size (fun _ => True) (.slice A acc.length c) acc) /\ Aside0 (Fly wg g wr s2) /\ Aside0 (wr.heap[w.heap.size]? = some (.cells #[.int .i64 0, .int .i64 0] 133 (0, 0))))
    case atStart => exact ⟨[], (l, -1), none, 0, rfl, zpx _, by simp, ⟨by simp⟩, ⟨Kd.R_nil _ _ _ _ _⟩, ⟨HF.out⟩, ⟨HR.out⟩⟩
    case round =>
     obtain ⟨acc, s2, A, c, rfl, hgk, hal, HK, HA7, HF7, HR7⟩ := hrel; have hO := zdW g s2 wr HF7.out.par.has; have hO2 := hO; by_cases hb : s2.2 < 0
     . have hbd : decide (s2.2 < 0) = true := by simpa using hb
       rw [hbd] at hO; obtain ⟨b2, o2, cp, cur2, hq⟩ := HF7.out.par.has; have h0 : wr.cell? ⟨g, 0, none⟩ = some (.slice (some ⟨b2, o2, none⟩) s2.1.length cp) := (zah hq.own 0).trans rfl; obtain ⟨kk0, _, _⟩ := hq.first HF7.out.par.good.ne
       have hpos : 0 < s2.1.length := zqz.2 HF7.out.par.good.ne; by_cases hk : (zay s2.1).f0 = 4
       . have hkd : ((zay s2.1).f0 != 4) = false := by simpa using hk
         have HKn : acc = (zaV (mS (l, -1)) (l, -1)).1 /\ s2 = (zaV (mS (l, -1)) (l, -1)).2 := by
          have hK := HK.out; have h0 : zaV (mS s2) s2 = ([], s2) := by
           generalize mS s2 = n; cases n with
           | zero => rfl
           | succ n => unfold zaV; rw [if_neg (fun h => h.2 hk)]
          rw [h0, zqD] at hK; exact hK
         have HV2 : Hid (zb7 s.data.toList = (acc, 0, 0)) := by
          show _ = _
          rw [HV.out, zgV, show l.length + 1 = mS (l, -1) from rfl, if_pos (by rw [<- HKn.2]; exact hb), <- HKn.1]
         have HB7 := zpt (HB.out.grown HF7.out.grown HB.out.size (fun k hk => by injection hk with hk; omega))
         have r0 := bc0 HR7.out; have r1 := bc1 HR7.out; have f0 := zak HR7.out 0; have f1 := zak HR7.out 1; clear hbd hb hk hq HKn HK HV hO2; go_wp2_with (go_at_call 140; refine hO.mono ?_; rintro e w' ⟨rfl, rfl⟩)
         have hs := zdA (.int .i64 0) (.int .i64 0) HR7.out; have hB := (HB7.out.setCell (p := ⟨w.heap.size, 0, none⟩) (zpx _) (.int .i64 0)).setCell (p := ⟨w.heap.size, 1, none⟩) (zpx _) (.int .i64 0); have hA9 := zqK (zqK (zqJ HA7.out HB.out.size) HR7.out (by decide) 0 (.int .i64 0)) (zav HR7.out 0 (.int .i64 0) rfl) (by decide) 1 (.int .i64 0)
         generalize (wr.setCell ⟨w.heap.size, 0, none⟩ (.int .i64 0)).setCell ⟨w.heap.size, 1, none⟩ (.int .i64 0) = wE at hs hB hA9 |-; have g0 := (zah hs 0).trans rfl; have g1 := (zah hs 1).trans rfl; exact bodyPost_ret (v := .tuple #[.slice A acc.length c, .agg #[.int .i64 0, .int .i64 0]]) (by simp [results, Tryz.results111, go_sem, g0, g1]) rfl (by
          rw [HV2.out]; exact ⟨_, rfl, hA9, hB⟩)
       . have hkd : ((zay s2.1).f0 != 4) = true := by simpa using hk
         have hN := fun W hW => zoC g s2 W hW
         have hmn := zgF HF7.out.par.good hb; have HKn : Hid (((acc ++ [(zbf s2).1]) ++ (zaV (mS (zbf s2).2) (zbf s2).2).1 = (zaV (mS (l, -1)) (l, -1)).1 /\ (zaV (mS (zbf s2).2) (zbf s2).2).2 = (zaV (mS (l, -1)) (l, -1)).2)) := by
          have hK := HK.out; obtain ⟨n, hn⟩ : ∃ n, mS s2 = n + 1 := ⟨mS s2 - 1, by omega⟩
          rw [hn, zaV, if_pos ⟨hb, hk⟩, zg8 n (mS (zbf s2).2) (zbf s2).2 (inv_good.rule HF7.out.par.good) (by omega) (zpx _)] at hK
          exact ⟨by rw [<- hK.1]; simp, hK.2⟩
         generalize (zbf s2).1 = x at HKn hN; generalize (zbf s2).2 = s3 at HKn hN hmn; have hal2 : acc.length <= 200000 := by
          have : mS (l, -1) <= 20002 := zpD (zcI _) (by show l.length + 1 <= 20002; omega)
          omega
         clear hbd hb hk hq; go_wp2_with (first | (go_at_call 140; refine hO.mono ?_; rintro e w' ⟨rfl, rfl⟩) | (go_at_call 141; refine (hN _ HF7.out.par).mono ?_; rintro e w8 ⟨v1, v2, v3, v4, rfl, hx1, hx2, hx3, hx4, hp8, hg8⟩; obtain ⟨X1, d1, rfl, _, _⟩ := zqq hx1; obtain ⟨X2, d2, rfl, _, _⟩ := zqq hx2; obtain ⟨X3, d3, rfl, _, _⟩ := zqq hx3; obtain ⟨X4, d4, rfl, _, _⟩ := zqq hx4; have HX1 := zpt (zqJ (Kd.R_new hx1 (Kd.R_own HA7.out).choose_spec) HF7.out.grown.size); have HX2 := zpt (zqJ (Kd.R_new hx2 (Kd.R_own HA7.out).choose_spec) HF7.out.grown.size); have HX3 := zpt (zqJ (Kd.R_new hx3 (Kd.R_own HA7.out).choose_spec) HF7.out.grown.size); have HX4 := zpt (zqJ (Kd.R_new hx4 (Kd.R_own HA7.out).choose_spec) HF7.out.grown.size); have HF8 := zpt (HF7.out.call hp8 hg8); have HR8 := zpt (zaY HR7.out hg8 (fun e => by injection e with e; omega)); have HA8 := zpt (zbc HA7.out hg8 HF7.out.lt); clear hx1 hx2 hx3 hx4 hp8 hg8) | ((with_reducible refine zaG (b := .append) (xs := #[.tmp 36, .tmp 39]) rfl ?_); at_builtin; refine Kd.R_append k45 (w0 := w8) wg.heap.size rfl (.tmp 36) (.tmp 39) 80 45 (.agg #[.string ⟨#[]⟩, .slice none 0 0, .slice none 0 0, .slice none 0 0, .slice none 0 0]) 112 rfl Tryz.underlying80 zhH rfl (by decide) (by decide) (.slice A acc.length c) acc x [.string x.f0, .slice X1 x.f1.length d1, .slice X2 x.f2.length d2, .slice X3 x.f3.length d3, .slice X4 x.f4.length d4] (fun _ => True) (fun k_ => True /\ some k_ ≠ (Value.slice A acc.length c).ownBlock) rfl rfl (zh5 _ _ _ x HX1.out HX2.out HX3.out HX4.out) (fun _ hk => hk) (fun _ _ => trivial) HA8.out (zpw _ _) HF8.out.grown.size ?aL ?_; (case aL => omega); intro v1 w9 ho hb hg hat; obtain ⟨AN, cN, rfl, _, _⟩ := zqq ho; have HA9 := zpt ho; have HF9 := zpt (HF8.out.row (Kd.R_own HA8.out).choose_spec (by decide) (by decide) (zpx _) hb hg); have HR9 := zpt (zaY HR8.out hg (Kd.R_ne HA8.out HR8.out (by decide))); clear ho hb hg hat))
         have hlen : acc.length + 1 = (acc ++ [x]).length := by simp
         go_roundg (mS s3)
         case measure => omega
         case rel => exact ⟨acc ++ [x], s3, AN, cN, by first | rfl | (simp only [zpK, zpL]), zpx _, by rw [zpK, zpL]; omega, ⟨HKn.out⟩, ⟨HA9.out⟩, ⟨HF9.out⟩, ⟨HR9.out⟩⟩
     . have hbd : decide (s2.2 < 0) = false := by simpa using hb
       rw [hbd] at hO; have HKn : s2 = (zaV (mS (l, -1)) (l, -1)).2 := by
        have hK := HK.out; have h0 : zaV (mS s2) s2 = ([], s2) := by
         generalize mS s2 = n; cases n with
         | zero => rfl
         | succ n => unfold zaV; rw [if_neg (fun h => hb h.1)]
        rw [h0] at hK; exact hK.2
       have HV2 : Hid (zb7 s.data.toList = ([], 1, s2.2)) := by
        show _ = _
        rw [HV.out, zgV, show l.length + 1 = mS (l, -1) from rfl, if_neg (by rw [<- HKn]; exact hb), <- HKn]
       have HB7 := zpt (HB.out.grown HF7.out.grown HB.out.size (fun k hk => by injection hk with hk; omega))
       obtain ⟨b2, o2, cp, cur2, hq⟩ := HF7.out.par.has; have h1 : wr.cell? ⟨g, 1, none⟩ = some (.int .i64 s2.2) := (zah hq.own 1).trans rfl; have r0 := bc0 HR7.out; have r1 := bc1 HR7.out; have f0 := zak HR7.out 0; have f1 := zak HR7.out 1; clear hbd hb hq HKn HK HV hO2; go_wp2_with (go_at_call 140; refine hO.mono ?_; rintro e w' ⟨rfl, rfl⟩)
       go_region
       all_goals
        have hs := zdA (.int .i64 1) (.int .i64 s2.2) HR7.out; have hB := (HB7.out.setCell (p := ⟨w.heap.size, 0, none⟩) (zpx _) (.int .i64 1)).setCell (p := ⟨w.heap.size, 1, none⟩) (zpx _) (.int .i64 s2.2); go_wp2; have hs2 := zaH hs; have hB2 := zaM hB; generalize ((wr.setCell ⟨w.heap.size, 0, none⟩ (.int .i64 1)).setCell ⟨w.heap.size, 1, none⟩ (.int .i64 s2.2)).drew = wE at hs2 hB2 |-; have g0 := (zah hs2 0).trans rfl; have g1 := (zah hs2 1).trans rfl; exact bodyPost_ret (v := .tuple #[.slice none 0 0, .agg #[.int .i64 1, .int .i64 s2.2]]) (by simp [results, Tryz.results111, go_sem, g0, g1]) rfl (by
         rw [HV2.out]; exact ⟨_, rfl, Kd.R_nil _ _ _ _ _, hB2⟩)
end X
namespace X
open Go.RowKit Go.Maps Go.Sort YtdpgdnpddndeoaaGreatDoorW.PrintWords YtdpgdnpddndeoaaGreatDoorW.PrintMore YtdpgdnpddndeoaaGreatDoorW.PrintLast
attribute [local go_sem] Oper.semAt_some
def zb9 (zs : List ByteArray) (k : Nat) : List ByteArray := (List.range k).map fun j => zs[j]?.getD zqa
theorem zgS (zs : List ByteArray) (k : Nat) : zb9 zs (k + 1) = zb9 zs k ++ [zs[k]?.getD zqa] := by simp [zb9, List.range_succ]
theorem zld (zs : List ByteArray) (k : Nat) : (zb9 zs k).length = k := by simp [zb9]
theorem zh4 (zs : List ByteArray) {k : Nat} (hk : k <= zs.length) : zb9 zs k = zs.take k := by
 apply List.ext_getElem
 . simp [zb9, hk]
 . intro i h1 h2
   have : i < zs.length := by simp [zb9] at h1; omega
   simp [zb9, this]
theorem zpc (zs : List ByteArray) : zb9 zs zs.length = zs := by rw [zh4 zs (zpx _), List.take_length]
theorem zoV (n : Nat) (hn : 1 <= n) (l Bs n₀ b off len cap : Nat) (zs : List ByteArray) (hreach : len * 16 <= 140737488355328) (hb : b < n₀) (J Jx : List ByteArray -> World -> Prop)
 (hY : ∀ pre x W, J pre W -> pre.length < len -> YieldAt Fence.wide (n - 1) zp5 l #[.string x] W fun e W' =>
  (e = .returned (.bool true) /\ J (pre ++ [x]) W' /\ Below n₀ W W') \/ (e = .returned (.bool false) /\ Jx (pre ++ [x]) W'))
 (W : World) (hBs : W.cell? ⟨Bs, 0, none⟩ = some (.slice (some ⟨b, off, none⟩) len cap)) (hc : ∀ j, j < len -> W.cell? ⟨b, off + j, none⟩ = some (.string (zs[j]?.getD zqa))) (h0 : J [] W) :
 CallsIn Fence.wide n zp5 127 #[.func (.yield l) #[] #[], .pointer (some ⟨Bs, 0, none⟩)] W fun e W' => (∃ v, e = .returned v) /\
  ((∃ ys, ys = zb9 zs len /\ J ys W') \/ (∃ pre, (∃ k, k <= len /\ pre = zb9 zs k) /\ Jx pre W')) := by
 refine callsIn_of_wp Tryz.func127 rfl trivial ?_ rfl; simp only [Tryz.ntmps127, List.size_toArray, zqh, zqF, Nat.reduceAdd, Nat.reduceSub, Array.replicate_succ, Array.replicate_zero, List.push_toArray, List.append_toArray, zqC, List.cons_append]; gi_wp2
 gi_loopw [7] (fun i wr => ∃ k : Nat, k <= len /\ i = .int .i64 k /\ J (zb9 zs k) wr /\ Below n₀ W wr)
  (fun i _ => len - (intOf i).toNat)
 case atStart => exact ⟨0, Nat.zero_le _, rfl, h0, zpw _ _⟩
 case round =>
  obtain ⟨k, hk, rfl, hJs, hnx⟩ := hrel; have hcx : k < len -> wr.cell? ⟨b, off + k, none⟩ = some (.string (zs[k]?.getD zqa)) := fun h => (hnx.cell (p := ⟨b, off + k, none⟩) hb).trans (hc k h)
  by_cases hlt : k < len
  . obtain ⟨fn, tmps, assign, body, hy, hR⟩ := hY _ (zs[k]?.getD zqa) wr hJs (by rw [zld]; exact hlt)
    have hcx' := hcx hlt; gi_wp2
    refine hR.mono ?_; rintro e W3 (⟨rfl, hJ3, hk3⟩ | ⟨rfl, hJx3⟩)
    . gi_wp2
      go_roundw
      case rel => exact ⟨k + 1, by omega, by simp, by rw [zgS]; exact hJ3, hnx.trans hk3⟩
      case measure => simp [intOf]; omega
    . gi_wp2
      refine bodyPost_ret (results_none rfl _ _ _) rfl ?_; exact ⟨⟨_, rfl⟩, .inr ⟨_, ⟨k + 1, by omega, (zgS _ _).symm⟩, hJx3⟩⟩
  . obtain rfl : k = len := by omega
    gi_wp2
    go_end0
    exact ⟨⟨_, rfl⟩, .inl ⟨_, rfl, hJs⟩⟩
def StrsAt (n₀ : Nat) (W : World) (sv : Value) (zs : List ByteArray) : Prop :=
 ((∃ A c, sv = .slice A 0 c) /\ zs = []) \/ ∃ b off cap, sv = .slice (some ⟨b, off, none⟩) zs.length cap /\ b < n₀ /\ ∀ j, j < zs.length -> W.cell? ⟨b, off + j, none⟩ = some (.string (zs[j]?.getD zqa))
theorem StrsAt.below {n₀ : Nat} {A B : World} (h : Below n₀ A B) {sv : Value} {zs : List ByteArray} : StrsAt n₀ A sv zs -> StrsAt n₀ B sv zs
 | .inl e => .inl e
 | .inr ⟨b, off, cap, e, hb, hc⟩ => .inr ⟨b, off, cap, e, hb, fun j hj => (h.cell (p := ⟨b, off + j, none⟩) hb).trans (hc j hj)⟩
theorem zmt (n l Bs : Nat) (A : Option Addr) (c : Nat) (J : List ByteArray -> World -> Prop) (W : World) (hBs : W.cell? ⟨Bs, 0, none⟩ = some (.slice A 0 c)) (h0 : J [] W) :
 CallsIn Fence.wide n zp5 127 #[.func (.yield l) #[] #[], .pointer (some ⟨Bs, 0, none⟩)] W fun e W' => (∃ v, e = .returned v) /\ J [] W' := by
 refine callsIn_of_wp Tryz.func127 rfl trivial ?_ rfl; simp only [Tryz.ntmps127, List.size_toArray, zqh, zqF, Nat.reduceAdd, Nat.reduceSub, Array.replicate_succ, Array.replicate_zero, List.push_toArray, List.append_toArray, zqC, List.cons_append]; gi_wp2
 gi_loopw [7] (fun i wr => i = .int .i64 0 /\ J [] wr) (fun _ _ => 0)
 case atStart => exact ⟨rfl, h0⟩
 case round =>
  obtain ⟨rfl, hJs⟩ := hrel; gi_wp2
  go_end0
  exact ⟨⟨_, rfl⟩, hJs⟩
theorem zm8 (n : Nat) (hn : 1 <= n) (Bs n₀ : Nat) (sv : Value) (zs : List ByteArray) (hreach : zs.length * 16 <= 140737488355328) (w : World) (hBs : Bs < w.heap.size) (hn₀ : n₀ <= w.heap.size)
 (hc : w.cell? ⟨Bs, 0, none⟩ = some sv) (hI : StrsAt n₀ w sv zs) :
 SeqStopsK Fence.wide n zp5 127 #[.pointer (some ⟨Bs, 0, none⟩)] (fun x : ByteArray => #[Value.string x]) (Below n₀) (fun ys => ys = zs) (fun pre => pre <+: zs) zs.length w := fun l J Jx W hW _ _ hY h0 => by
 have hc' := (hW.cell (p := ⟨Bs, 0, none⟩) hBs).trans hc; rcases hI.below (hW.mono hn₀) with ⟨⟨A, c, rfl⟩, rfl⟩ | ⟨b, off, cap, rfl, hb, hcs⟩
 . exact (zmt n l Bs A c J W hc' h0).mono fun e W' ⟨he, hj⟩ => ⟨he, .inl ⟨_, rfl, hj⟩⟩
 . refine (zoV n hn l Bs n₀ b off zs.length cap zs hreach hb J Jx hY W hc' hcs h0).mono ?_
   rintro e W' ⟨he, ⟨ys, rfl, hj⟩ | ⟨pre, ⟨k, hk, rfl⟩, hj⟩⟩
   . exact ⟨he, .inl ⟨_, zpc zs, hj⟩⟩
   . exact ⟨he, .inr ⟨_, by rw [zh4 zs hk]; exact List.take_prefix _ _, hj⟩⟩
theorem zpe : ∀ args w, (callFunc 127 args).run zp5 w = .ok (.enter 127 args) w := Go.Proofs.enters_of Tryz.func127 (by kernel_rfl) rfl
theorem zkt (n : Nat) (hn : 3 <= n) (Bs : Nat) (sv : Value) (zs : List ByteArray) (hlen : zs.length <= 4611686018427387904) (hbytes : zs.length * 16 <= 140737488355328) (w : World) (hBs : Bs < w.heap.size)
 (hc : w.cell? ⟨Bs, 0, none⟩ = some sv) (hI : StrsAt w.heap.size w sv zs) :
 CallsIn Fence.wide n zp5 156 #[.slice none 0 0, .func (.func 127) #[] #[.pointer (some ⟨Bs, 0, none⟩)]] w fun e W' => ∃ v, e = .returned v /\
  W'.ownsRow w.heap.size 9 1 v zs.length (zs.map Value.string) /\ Below w.heap.size w W' := by
 have h1 : 1 <= n := by omega
 obtain ⟨i0, hi, hz0, hz1, hz2⟩ := info_parts zbi; refine callsIn_of_wp_marks Tryz.func156 rfl trivial ?_ rfl; simp only [Tryz.ntmps156, List.size_toArray, zqh, zqF, Nat.reduceAdd, Nat.reduceSub, Array.replicate_succ, Array.replicate_zero, List.push_toArray, List.append_toArray, zqC, List.cons_append]; gi_wp2
 have bO := Boxed.new w 22 (.slice none 0 0); have hB0 : Below w.heap.size w (w.alloc (.cells #[.slice none 0 0] 22)) := (zpw _ w).alloc (zpx _) _; refine wpIn_rangeFunc_ownG rfl h1 (gf := 127) (lb := #[.pointer (some ⟨Bs, 0, none⟩)]) rfl trivial zpe
  (zm8 (n - 1) (by omega) Bs w.heap.size sv zs hbytes _ (by simp; omega) (by simp) ((hB0.cell (p := ⟨Bs, 0, none⟩) hBs).trans hc) (hI.below hB0)) belowK_t (belowK_b (by simp)) (zpw _ _) (fun _ => rfl)
  (fun pre W => (∃ v, Boxed W w.heap.size 22 v /\ W.ownsRow w.heap.size 9 1 v pre.length (pre.map Value.string) /\ True) /\ Below w.heap.size w W)
  (fun _ _ _ => False)
  (OwnFrom.and (Own.from (holdsRow_own w.heap.size w.heap.size 22 9 1 (fun pre : List ByteArray => pre.length) (fun pre : List ByteArray => pre.map Value.string) (fun _ _ => True)) _) (ownFrom_below (zpx _) (by simp)))
  (fun _ _ _ _ _ hs _ _ => hs)
  ⟨⟨_, bO, World.ownsRow_nil _ _ _ _, trivial⟩, hB0⟩
  (fun x => { tmps := #[.slice none 0 0, .func (.func 127) #[] #[.pointer (some ⟨Bs, 0, none⟩)], .pointer (some ⟨w.heap.size, 0, none⟩), undef, .slice none 0 0, .string x, .func (.func 127) #[] #[.pointer (some ⟨Bs, 0, none⟩)], .string x, undef, undef, undef, undef, undef], defers := [] }) ?assign ?body ?done ?stop
 case assign =>
  intro l x W K hK; gi_wp2
  exact hK
 case body =>
  rintro l pre x W ⟨⟨v, hv, hrow, _⟩, hB⟩ hlt; have hc := hv.cell; gi_wp2_with (gi_at_builtin; refine wpListIn_append_own _ rfl _ _ 22 rfl w.heap.size 9 i0 (.string ⟨#[]⟩) 1 16 Tryz.underlying22 hi hz0 hz1 hz2 rfl (by decide) _ _ _ rfl (hrow.alloc _) ⟨W.heap.size, 0, none⟩ 1 1 [.string x] rfl rfl (cell_one_new _ _ _) (by simp [Value.oneCell']) (by unfold maxLen; omega) (by omega) (by have := hB.size; simp; omega) ?_; intro v' w1 hown' hgrow _; obtain ⟨g', cap', rfl⟩ := ownsRow_succ hown'; obtain ⟨hv1, hv2, hr2, hk2, hb2⟩ := hv.appended (by decide) hrow hB.size (zpx _) hown' hgrow; have hc1 := hv1.cell; have hf1 := hv1.frozen)
  exact ⟨hk2.from _, hb2, ⟨_, hv2, by simpa using hr2, trivial⟩, hB.trans hb2⟩
 case done =>
  rintro D ys W hD rfl ⟨⟨v, hv, hrow, _⟩, hB⟩ hK; have hc := hv.cell; gi_wp2
  refine ⟨by simp, .inl ⟨_, _, rfl, run_takeDeferred hK, ?_⟩⟩
  exact ⟨_, results_tmp rfl _ _ _, v, rfl, ownsRow_putObj hrow _ hK rfl, hB.trans (belowK_b (w := w) (zpx _) W D _ _ (by simp at hD; omega) hK rfl rfl)⟩
 case stop =>
  rintro D c pre W _ _ h _; exact h.elim
def zae (zs : List ByteArray) : List ByteArray := ((zs.map fun x => x.data.toList).mergeSort fun x y => decide (x <= y)).map mk
theorem zfk (zs : List ByteArray) : zs.map Value.string = (zs.map fun x => x.data.toList).map encStr := by
 rw [List.map_map]; apply List.map_congr_left
 intro x _; show Value.string x = Value.string (mk x.data.toList)
 rfl
theorem zl7 (Bs : Nat) (sv : Value) (zs : List ByteArray) (hbytes : zs.length * 16 <= 140737488355328) (w : World) (hBs : Bs < w.heap.size)
 (hc : w.cell? ⟨Bs, 0, none⟩ = some sv) (hI : StrsAt w.heap.size w sv zs) :
 Calls zp5 156 #[.slice none 0 0, .func (.func 127) #[] #[.pointer (some ⟨Bs, 0, none⟩)]] w fun e W' => ∃ v, e = .returned v /\
  W'.ownsRow w.heap.size 9 1 v zs.length (zs.map Value.string) /\ Below w.heap.size w W' :=
 callsIn_wide.1 (zkt 3 (zpx _) Bs sv zs (by omega) hbytes w hBs hc hI)
theorem zof (Bs : Nat) (sv : Value) (zs : List ByteArray) (hbytes : zs.length * 16 <= 140737488355328) (w : World) (hBs : Bs < w.heap.size)
 (hc : w.cell? ⟨Bs, 0, none⟩ = some sv) (hI : StrsAt w.heap.size w sv zs) :
 Calls zp5 126 #[.func (.func 127) #[] #[.pointer (some ⟨Bs, 0, none⟩)]] w fun e W' => ∃ v, e = .returned v /\
  W'.ownsRow w.heap.size 9 1 v zs.length (zs.map Value.string) /\ Below w.heap.size w W' := by
 have h := zl7 Bs sv zs hbytes w hBs hc hI; go_enter Tryz.func126, Tryz.ntmps126
 go_wp2_with (go_at_call 156; refine h.mono ?_; rintro e w2 ⟨v, rfl, ho, hb⟩)
 go_ret
 exact ⟨v, rfl, ho, hb⟩
theorem zi2 (Bs : Nat) (sv : Value) (zs : List ByteArray) (hbytes : zs.length * 16 <= 140737488355328) (w : World) (hBs : Bs < w.heap.size)
 (hc : w.cell? ⟨Bs, 0, none⟩ = some sv) (hI : StrsAt w.heap.size w sv zs) :
 Calls zp5 80 #[.func (.func 127) #[] #[.pointer (some ⟨Bs, 0, none⟩)]] w fun e W' => ∃ v, e = .returned v /\
  RS W' w.heap.size v (zae zs) /\ Below w.heap.size w W' := by
 have h := zof Bs sv zs hbytes w hBs hc hI; have hlen : (zae zs).length = zs.length := by unfold zae; rw [zqe, List.length_mergeSort, zqe]
 have hrs : encs Value.string (zae zs) = ((zs.map fun x => x.data.toList).mergeSort fun x y => decide (x <= y)).map encStr := by
  unfold zae encs; rw [List.map_map]; rfl
 have HLen := zpt hlen; have HRs := zpt hrs; clear hlen hrs; go_enter Tryz.func80, Tryz.ntmps80
 go_wp2_with fail; refine h.mono ?_; rintro e W ⟨v, rfl, hrow, hb⟩; have HB := zpt hb; clear h hb; rcases hrow.2 with ⟨rfl, hz⟩ | ⟨gb, cap, cur, rfl, hbase, hgb, r1, r2, r3, r4⟩
 . have hss : zs = [] := List.eq_nil_of_length_eq_zero hz
   subst hss; have cS := Go.Proofs.AnyM.slices_Sort_string_none Go.Proofs.Tryz.laysSort none 0 W; change Calls zp5 93 _ _ _ at cS
   go_wp2_with (go_at_call 93; refine cS.mono ?_; rintro e w' ⟨rfl, rfl⟩)
   go_ret
   exact ⟨.slice none 0 0, rfl, by rw [show zae [] = [] by simp [zae]]; exact Kd.R_nil _ _ _ _ _, HB.out⟩
 . rw [zfk] at r4
   have hH : Holds encStr W gb 0 (zs.map fun x => x.data.toList).toArray := Go.holds_of_block hgb (by simpa using r4)
   have hgl : gb < W.heap.size := (Array.getElem?_eq_some_iff.1 hgb).1; have hsz : (zs.map fun x => x.data.toList).length < 4611686018427387904 := by rw [zqe]; omega
   have cS := Go.Proofs.AnyM.slices_Sort_string Go.Proofs.Tryz.laysSort gb 0 cap (zs.map fun x => x.data.toList) W hH hgl hsz
   change Calls zp5 93 _ _ _ at cS
   rw [zqe] at cS; go_wp2_with (go_at_call 93; refine cS.mono ?_; rintro e w' ⟨rfl, nn, os, rfl⟩)
   go_ret
   refine ⟨_, rfl, Kd.R_of_own (h1 := fun _ => rfl) ?_ (fun _ _ => trivial), HB.out.grown (grownBy_sorted _) HB.out.size (fun j hj => by cases hj; exact hbase)⟩
   rw [HRs.out, HLen.out]; have hos := ownsRow_sorted (n := nn) (os := os) (ss := zs.map fun x => x.data.toList) (ts := (zs.map fun x => x.data.toList).mergeSort fun x y => decide (x <= y)) (by simp) hbase hgb (by rw [zqe]; exact r1) r2 r3
   rw [zqe] at hos; exact hos
theorem zfP (A : Option Addr) (c : Nat) (l : List ByteArray) (w : World) (hr : Kd.C Kd.string w A l.length l) (hbytes : l.length * 16 <= 140737488355328) :
 Calls zp5 198 #[.slice A l.length c] w fun e W' => ∃ v, e = .returned v /\ RS W' w.heap.size v (zae l) /\ Below w.heap.size w W' := by
 have hV : ∀ W, Calls zp5 81 #[.slice A l.length c] W fun e W' => e = .returned (.func (.func 127) #[] #[.pointer (some ⟨W.heap.size, 0, none⟩)]) /\ W' = W.alloc (.cells #[.slice A l.length c] 22) := by
  intro W; go_enter Tryz.func81, Tryz.ntmps81
  go_wp2; go_ret
  exact ⟨rfl, rfl⟩
 have hS0 : StrsAt w.heap.size w (.slice A l.length c) l := by
  rcases zaX hr with h0 | ⟨b, o, rfl, hb, hcell⟩
  . subst h0
    exact .inl ⟨⟨A, c, rfl⟩, rfl⟩
  . refine .inr ⟨b, o, c, rfl, hb, fun j hj => ?_⟩
    have := hcell j hj; rwa [List.getD_eq_getElem?_getD] at this
 have hS := hS0.below ((zpw w.heap.size w).alloc (zpx _) (.cells #[.slice A l.length c] 22)); have hS1 : StrsAt (w.alloc (.cells #[.slice A l.length c] 22)).heap.size (w.alloc (.cells #[.slice A l.length c] 22)) (.slice A l.length c) l := by
  rcases hS with h | ⟨b, o, cc, h1, hb, h2⟩
  . exact .inl h
  . exact .inr ⟨b, o, cc, h1, by simp; omega, h2⟩
 have h := zi2 w.heap.size _ l hbytes (w.alloc (.cells #[.slice A l.length c] 22)) (by simp) ((zah (zap w _) 0).trans rfl) hS1
 clear hS hS0 hS1 hr; go_enter Tryz.func198, Tryz.ntmps198
 go_wp2_with (first | (go_at_call 81; refine (hV _).mono ?_; rintro e w' ⟨rfl, rfl⟩) | (go_at_call 80; refine h.mono ?_; rintro e w2 ⟨v, rfl, ho, hb⟩))
 go_ret
 exact ⟨v, rfl, zqJ ho (by simp), zac ((zpw w.heap.size w).alloc (zpx _) _) (by simp) hb⟩
end X
namespace X
def glu (cur : zaa) : List zaa -> List zaa
 | [] => [cur]
 | p :: q => (cur ++ p) :: q
theorem zhF (l : List zaa) (h : l ≠ []) : glu [] l = l := by
 cases l with
 | nil => exact absurd rfl h
 | cons p q => rfl
theorem zi5 (a b : zaa) (l : List zaa) : glu a (glu b l) = glu (a ++ b) l := by
 cases l with
 | nil => rfl
 | cons p q => simp [glu]
theorem zo7 (c : UInt8) (r : zaa) : zaz c (c :: r) = [] :: zaz c r := by simp [zaz]
theorem zhm {x c : UInt8} (h : x ≠ c) (r : zaa) : zaz c (x :: r) = glu [x] (zaz c r) := by
 conv => lhs; unfold zaz
 rw [if_neg h]; cases zaz c r with
 | nil => rfl
 | cons p q => rfl
def zbC (b : zaa) : zaa := if b.getLast? = some 10 then b.dropLast else b
def zbA (b : zaa) : List zaa := if b = [] then [] else zaz 10 (zbC b)
def zct : zaa -> zaa -> Bool -> List zaa
 | [], t, i => if i then [t] else []
 | c :: r, t, _ => if c = 10 then t :: zct r [] false else zct r (t ++ [c]) true
theorem zin : zbC [] = [] := rfl
theorem ziO (c : UInt8) (r : zaa) (h : r ≠ []) : zbC (c :: r) = c :: zbC r := by
 unfold zbC; cases r with
 | nil => exact absurd rfl h
 | cons d r =>
  rw [List.getLast?_cons_cons]; split
  . rw [List.dropLast_cons_cons]
  . rfl
theorem zf3 : ∀ (b t : zaa) (i : Bool), (i = true ↔ t ≠ []) -> b ≠ [] \/ t ≠ [] -> zct b t i = glu t (zaz 10 (zbC b))
 | [], t, i, hi, h => by
  have ht : t ≠ [] := h.resolve_left (fun e => e rfl)
  unfold zct; rw [if_pos (hi.2 ht)]; simp [zin, zaz, glu]
 | c :: r, t, i, hi, _ => by
  unfold zct; by_cases hc : c = 10
  . subst hc
    rw [if_pos rfl]; by_cases hr : r = []
    . subst hr
      simp [zct, zbC, zaz, glu]
    . rw [ziO 10 r hr, zo7, zf3 r [] false (by simp) (.inl hr), zhF _ (zd3 _ _)]
      simp [glu]
  . rw [if_neg hc, zf3 r (t ++ [c]) true (by simp) (.inr (by simp))]
    by_cases hr : r = []
    . subst hr
      have : zbC [c] = [c] := by
       unfold zbC; rw [if_neg (by simpa using hc)]
      rw [this, zin, zhm hc, zi5]
    . rw [ziO c r hr, zhm hc, zi5]
theorem zmc (b : zaa) : zct b [] false = zbA b := by
 unfold zbA; by_cases h : b = []
 . subst h; rfl
 . rw [if_neg h, zf3 b [] false (by simp) (.inl h), zhF _ (zd3 _ _)]
theorem zfm (b : zaa) : (zbA b).length <= b.length /\ ∀ x ∈ zbA b, x.length <= b.length := by
 rw [<- zmc]; have key : ∀ (b t : zaa) (i : Bool), (i = true -> t ≠ []) -> (zct b t i).length <= b.length + (if i then 1 else 0) /\ ∀ x ∈ zct b t i, x.length <= t.length + b.length := by
  intro b; induction b with
  | nil =>
   intro t i _; unfold zct; cases i <;> simp
  | cons c r ih =>
   intro t i _; unfold zct; split
   . have := ih [] false (by simp)
     refine ⟨by simp at this |-; have := this.1; split <;> omega, fun x hx => ?_⟩
     rcases zqE.1 hx with rfl | hx
     . omega
     . have := this.2 x hx
       simp at this |-
       omega
   . have := ih (t ++ [c]) true (by simp)
     refine ⟨by have := this.1; simp at this |-; omega, fun x hx => ?_⟩
     have := this.2 x hx; simp at this |-
     omega
 have := key b [] false (by simp)
 exact ⟨by simpa using this.1, fun x hx => by have := this.2 x hx; simpa using this⟩
def zba (l : List zaa) : zaa := (l.map (· ++ [10])).flatten
def ze2 (l : List zaa) (x : zaa) : Nat := (l.takeWhile fun y => decide (y <= x)).length
def putS (l : List zaa) (x : zaa) : List zaa := l.take (ze2 l x) ++ [x] ++ l.drop (ze2 l x)
theorem ze6 {α : Type} (p : α -> Bool) : ∀ l : List α, l.take (l.takeWhile p).length = l.takeWhile p /\ l.drop (l.takeWhile p).length = l.dropWhile p
 | [] => ⟨rfl, rfl⟩
 | y :: r => by
  rw [List.takeWhile_cons, List.dropWhile_cons]; by_cases h : p y = true
  . have := ze6 p r
    rw [if_pos h, if_pos h]; exact ⟨by rw [zqh, List.take_succ_cons, this.1], by rw [zqh, zqI, this.2]⟩
  . rw [if_neg h, if_neg h]
    exact ⟨rfl, rfl⟩
theorem zhd (l : List zaa) (x : zaa) : putS l x = l.takeWhile (fun y => decide (y <= x)) ++ [x] ++ l.dropWhile (fun y => decide (y <= x)) := by
 unfold putS ze2; rw [(ze6 _ l).1, (ze6 _ l).2]
theorem zoE (l : List zaa) (x : zaa) : (putS l x).Perm (x :: l) := by
 rw [zhd]; have h : l.takeWhile (fun y => decide (y <= x)) ++ l.dropWhile (fun y => decide (y <= x)) = l := List.takeWhile_append_dropWhile
 have := List.perm_middle (a := x) (l₁ := l.takeWhile (fun y => decide (y <= x))) (l₂ := l.dropWhile (fun y => decide (y <= x)))
 rw [h] at this; simpa using this
theorem zhB {α : Type} {f : α -> Bool} {p : α} : ∀ l : List α, p ∈ l.takeWhile f -> f p = true
 | [], h => by cases h
 | y :: r, h => by
  rw [List.takeWhile_cons] at h; split at h
  . rename_i hy
    rcases zqE.1 h with rfl | h
    . exact hy
    . exact zhB r h
  . cases h
theorem zn2 (l : List zaa) (x : zaa) (h : l.Pairwise (· <= ·)) : (putS l x).Pairwise (· <= ·) := by
 rw [zhd]; have hs : l.takeWhile (fun y => decide (y <= x)) ++ l.dropWhile (fun y => decide (y <= x)) = l := List.takeWhile_append_dropWhile
 have hp := h; rw [<- hs] at hp; obtain ⟨h1, h2, h3⟩ := List.pairwise_append.1 hp; have hd : ∀ y ∈ l.dropWhile (fun y => decide (y <= x)), x <= y := by
  have hh := List.head?_dropWhile_not (p := fun y : zaa => decide (y <= x)) l
  generalize l.dropWhile (fun y => decide (y <= x)) = b at h2 hh
  cases b with
  | nil => intro y hy; cases hy
  | cons z r =>
   have hz : ¬ z <= x := by simpa using hh
   have hz2 : x <= z := List.le_of_lt (List.not_le.1 hz); intro y hy; rcases zqE.1 hy with rfl | hy
   . exact hz2
   . exact List.le_trans hz2 ((List.pairwise_cons.1 h2).1 y hy)
 rw [List.append_assoc]; refine List.pairwise_append.2 ⟨h1, List.pairwise_cons.2 ⟨hd, h2⟩, fun a ha b hb => ?_⟩
 have hax : a <= x := by simpa using zhB _ ha
 rcases zqE.1 hb with rfl | hb
 . exact hax
 . exact h3 a ha b hb
theorem zeR (l : List zaa) : l.foldl putS [] = l.mergeSort fun x y => decide (x <= y) := by
 have key : ∀ (l a : List zaa), a.Pairwise (· <= ·) -> (l.foldl putS a).Pairwise (· <= ·) /\ (l.foldl putS a).Perm (a ++ l) := by
  intro l; induction l with
  | nil => exact fun a h => ⟨h, by simp⟩
  | cons x r ih =>
   intro a h; have := ih (putS a x) (zn2 a x h); refine ⟨this.1, this.2.trans ?_⟩; have hp := (zoE a x).append_right r; refine hp.trans ?_; simpa using (List.perm_middle (a := x) (l₁ := a) (l₂ := r)).symm
 have hk := key l [] List.Pairwise.nil; have hm := List.pairwise_mergeSort (le := fun x y : zaa => decide (x <= y)) (fun a b c hab hbc => by simp only [decide_eq_true_eq] at *; exact List.le_trans hab hbc)
  (fun a b => by simp only [Bool.or_eq_true, decide_eq_true_eq]; exact List.le_total a b) l
 refine List.Perm.eq_of_pairwise (le := fun x y : zaa => x <= y) (fun a b _ _ h1 h2 => List.le_antisymm h1 h2) hk.1 (hm.imp (fun h => by simpa using h)) (hk.2.trans ?_)
 simpa using (List.mergeSort_perm l fun x y => decide (x <= y)).symm
theorem zjw (b : zaa) : Lib.trimSuffix b [10] = zbC b := by
 unfold Lib.trimSuffix zbC Lib.hasSuffix; have h : ([10] : zaa).isSuffixOf b = decide (b.getLast? = some 10) := by
  rw [Bool.eq_iff_iff, List.isSuffixOf_iff_suffix, decide_eq_true_eq]; constructor
  . rintro ⟨t, rfl⟩
    simp
  . intro h
    obtain ⟨ys, rfl⟩ := List.getLast?_eq_some_iff.1 h; exact ⟨ys, rfl⟩
 rw [h]; by_cases hb : b.getLast? = some 10
 . rw [if_pos (by simpa using hb), if_pos hb, List.dropLast_eq_take]
   rfl
 . rw [if_neg (by simpa using hb), if_neg hb]
structure Cmd where
 op : Int
 n : Int
 args : Nat
 lits : List zaa
def zbs (op : Int) : Nat × Nat × Nat := if op = 5 then (0, 6, 0) else if op = 6 then (0, 0, 1) else if op = 7 then (1, 1, 1) else if op = 8 then (1, 1, 2) else (1, 1, 0)
def mayC (s : Cmd) : Bool :=
 !(decide (s.op < 1) || decide (9 < s.op) || decide (s.args < (zbs s.op).1) || decide ((zbs s.op).2.1 < s.args) || decide (s.lits.length ≠ (zbs s.op).2.2) || s.lits.any (fun l => decide (100 < l.length))) &&
 !((s.op == 8 && s.lits.getD 0 [] == []) || decide (s.n < 0) || decide (2000 < s.n) || (s.op != 9 && s.n != 0))
def zde (s : Cmd) : Option (Nat × Nat) :=
 if s.op = 1 \/ s.op = 2 \/ s.op = 3 \/ s.op = 4 \/ s.op = 9 then some (1, 0) else if s.op = 5 then some (min s.args 6, 0) else if s.op = 6 then some (0, 1) else if s.op = 7 then some (1, 1) else if s.op = 8 then some (1, 2) else none
def zbj (s : Cmd) : Bool := match zde s with
 | none => false
 | some (a, k) => !s.lits.any (fun l => decide (100 < l.length)) && (s.args == a && s.lits.length == k && (s.op != 8 || s.lits.getD 0 [] != []) && decide (0 <= s.n) && decide (s.n <= 2000) && (s.op == 9 || s.n == 0))
theorem zkJ (s : Cmd) : mayC s = zbj s := by
 obtain ⟨op, n, args, lits⟩ := s; unfold mayC zbj zde zbs; simp only [bne]; generalize lits.any (fun l => decide (100 < l.length)) = long
 generalize (lits.getD 0 [] == []) = nul; generalize lits.length = k; by_cases hlo : op < 1
 . have e1 : op ≠ 1 := by omega
   have e2 : op ≠ 2 := by omega
   have e3 : op ≠ 3 := by omega
   have e4 : op ≠ 4 := by omega
   have e5 : op ≠ 5 := by omega
   have e6 : op ≠ 6 := by omega
   have e7 : op ≠ 7 := by omega
   have e8 : op ≠ 8 := by omega
   have e9 : op ≠ 9 := by omega
   simp [hlo, e1, e2, e3, e4, e5, e6, e7, e8, e9]
 by_cases hhi : 9 < op
 . have e1 : op ≠ 1 := by omega
   have e2 : op ≠ 2 := by omega
   have e3 : op ≠ 3 := by omega
   have e4 : op ≠ 4 := by omega
   have e5 : op ≠ 5 := by omega
   have e6 : op ≠ 6 := by omega
   have e7 : op ≠ 7 := by omega
   have e8 : op ≠ 8 := by omega
   have e9 : op ≠ 9 := by omega
   simp [hhi, e1, e2, e3, e4, e5, e6, e7, e8, e9]
 have hop : op = 1 \/ op = 2 \/ op = 3 \/ op = 4 \/ op = 5 \/ op = 6 \/ op = 7 \/ op = 8 \/ op = 9 := by omega
 rcases hop with rfl | rfl | rfl | rfl | rfl | rfl | rfl | rfl | rfl <;> (rw [Bool.eq_iff_iff]; cases long <;> cases nul <;> simp <;> omega)
def zaS (s : Cmd) (bs : List zaa) : zaa × Bool :=
 if s.op = 1 then (bs.getD 0 [], true)
 else if s.op = 2 then (bs.getD 0 [], !(bs.getD 0 [] == []))
 else if s.op = 3 then (zba ((zbA (bs.getD 0 [])).mergeSort fun x y => decide (x <= y)), true)
 else if s.op = 4 then (zaZ ((zbA (bs.getD 0 [])).length : Int) ++ [10], true)
 else if s.op = 5 then (bs.flatten, true)
 else if s.op = 6 then (s.lits.getD 0 [], true)
 else if s.op = 7 then (zba ((zbA (bs.getD 0 [])).filter fun x => Lib.contains x (s.lits.getD 0 [])), true)
 else if s.op = 8 then (Lib.replaceAll (bs.getD 0 []) (s.lits.getD 0 []) (s.lits.getD 1 []), true)
 else ((bs.getD 0 []).take s.n.toNat, true)
theorem zop {s : Cmd} (h : mayC s = true) : 1 <= s.op /\ s.op <= 9 /\ (s.op = 8 -> s.lits.getD 0 [] ≠ []) := by
 unfold mayC at h; rw [Bool.and_eq_true] at h; obtain ⟨h1, h2⟩ := h; simp only [Bool.not_eq_true', Bool.or_eq_false_iff, decide_eq_false_iff_not] at h1 h2; refine ⟨by omega, by omega, fun e hn => ?_⟩
 have := h2.1.1.1; rw [e, hn] at this; exact absurd this (by decide)
def zfq (text : Cmd -> List zaa -> zaa × Bool) (may : Cmd -> Bool) (s : Cmd) (vs : List (Option zaa)) : Option zaa :=
 if may s = false \/ vs.length ≠ s.args \/ vs.any (·.isNone) then none
 else if (text s (vs.map (·.getD []))).2 = false \/ 2000 < (text s (vs.map (·.getD []))).1.length then none else some (text s (vs.map (·.getD []))).1
def doP := zfq zaS mayC
structure zbg where
 out : zaa
 cmd : Cmd
 args : List zaa
structure zb5 where
 ins : List zaa
 outs : List zaa
 steps : List zbg
abbrev VB := Option zaa
def zc5 (l : List zaa) (s : zaa) : Option Nat := l.findIdx? (· == s)
theorem zmQ {l : List zaa} {s : zaa} {k : Nat} (h : zc5 l s = some k) : ∃ hk : k < l.length, l[k] = s /\ ∀ j (hj : j < k), l[j] ≠ s := by
 unfold zc5 at h; obtain ⟨hk, h1, h2⟩ := List.findIdx?_eq_some_iff_getElem.1 h; exact ⟨hk, by simpa using h1, fun j hj => by simpa using h2 j hj⟩
theorem findB_none {l : List zaa} {s : zaa} : zc5 l s = none ↔ s ∉ l := by
 unfold zc5; rw [List.findIdx?_eq_none_iff]; constructor
 . intro h hm
   have := h s hm; simp at this
 . intro h x hx
   have : x ≠ s := fun e => h (e ▸ hx)
   simpa using this
structure zdO (r : zb5) : Prop where
 ins : r.ins.Nodup
 outs : (r.steps.map (·.out)).Nodup
 fresh : ∀ s ∈ r.steps, s.out ∉ r.ins
 made : ∀ o ∈ r.outs, o ∉ r.ins
end X
end Go.Proofs.YtdpgdnpddndeoaaGreatDoor
