/-
  The reference's reader, walked by hand: step. (Printed by gen_rstep.py, out of the parser's walk.)
-/
import Derived.Deep.RegionLaw
import Derived.Test.YthagibkmfgodgaaGreatDoorY7
namespace Go.Proofs.YthagibkmfgodgaaGreatDoor.X
open Go.RowKit Go.Maps Go.Proofs.YthagibkmfgodgaaGreatDoorW.PrintWords Go.Proofs.YthagibkmfgodgaaGreatDoorW.PrintMore Go.Proofs.YthagibkmfgodgaaGreatDoorW.PrintLast

structure FlyQ (w : World) (g : Nat) (W : World) (s : PS) : Prop where
 par : PAQ W g s
 grown : w.grownBy W (some g)
 lt : g < w.heap.size
theorem FlyQ.start {w : World} {g : Nat} {s : PS} (h : PAQ w g s) : FlyQ w g w s := ⟨h, World.grownBy.refl _ _, h.has.lt⟩
theorem FlyQ.call {w W W1 : World} {g : Nat} {s s1 : PS} (h : FlyQ w g W s) (hp : PAQ W1 g s1) (hg : W.grownBy W1 (some g)) : FlyQ w g W1 s1 := ⟨hp, grown_trans h.grown hg, h.lt⟩
theorem FlyQ.below {w W W1 : World} {g : Nat} {s : PS} (h : FlyQ w g W s) (hb : Below W.heap.size W W1) : FlyQ w g W1 s := ⟨h.par.below hb, grown_trans h.grown (grown_of_below hb _), h.lt⟩
theorem FlyQ.alloc {w W : World} {g : Nat} {s : PS} (h : FlyQ w g W s) (ob : Obj) : FlyQ w g (W.alloc ob) s := h.below ((Below.refl _ _).alloc (Nat.le_refl _) ob)
theorem FlyQ.set {w W : World} {g : Nat} {s : PS} (h : FlyQ w g W s) {S : Nat} (hS : w.heap.size ≤ S) {cs : Array Value} {t : Nat} (hb : W.heap[S]? = some (.cells cs t (0, 0))) (h1 : 94 ≠ t) (h2 : 34 ≠ t) (j : Nat) (u : Value) : FlyQ w g (W.setCell ⟨S, j, none⟩ u) s := by
 have hbel : Below w.heap.size W (W.setCell ⟨S, j, none⟩ u) := (Below.refl _ _).setCell hS u
 refine ⟨⟨h.par.has.set hb h1 h2 j u, ?_, h.par.good, h.par.len⟩, grown_below h.grown hbel, h.lt⟩
 obtain ⟨w0, h0, h3, hb0⟩ := h.par.gok
 exact ⟨w0, h0, h3, hb0.trans (hbel.mono (by have := h.lt; omega))⟩
theorem FlyQ.row {w W W1 : World} {g : Nat} {s : PS} (h : FlyQ w g W s) {e size n base : Nat} {v : Value} {xs : List Value} (ho : W.ownsRow base e size v n xs) (h1 : e ≠ 94) (h2 : e ≠ 34) (hbase : w.heap.size ≤ base) (hb : Below base W W1) (hg : W.grownBy W1 v.ownBlock) : FlyQ w g W1 s := by
 have hbel := hb.mono hbase
 refine ⟨⟨h.par.has.row ho h1 h2 hg, ?_, h.par.good, h.par.len⟩, grown_below h.grown hbel, h.lt⟩
 obtain ⟨w0, h0, h3, hb0⟩ := h.par.gok
 exact ⟨w0, h0, h3, hb0.trans (hbel.mono (by have := h.lt; omega))⟩
theorem FlyQ.keeps {w W W1 : World} {g : Nat} {s : PS} (h : FlyQ w g W s) {S : Nat} (hS : w.heap.size ≤ S) {o : Obj} (hb : W.heap[S]? = some o) (hg : W.grownBy W1 (some g)) : W1.heap[S]? = some o :=
 blk_grown hb hg (fun e => by injection e with e; have := h.lt; omega)
theorem FlyQ.set5 {w W : World} {g : Nat} {s : PS} (h : FlyQ w g W s) {S : Nat} (hS : w.heap.size ≤ S) {t : Nat} {x0 x1 x2 x3 x4 : Value} (v0 v1 v2 v3 v4 : Value) (hb : W.heap[S]? = some (.cells #[x0, x1, x2, x3, x4] t (0, 0))) (h1 : 94 ≠ t) (h2 : 34 ≠ t) : FlyQ w g (set5 W S v0 v1 v2 v3 v4) s :=
 ((((h.set hS hb h1 h2 0 v0).set hS (blk_put hb 0 v0 rfl) h1 h2 1 v1).set hS (blk_put (blk_put hb 0 v0 rfl) 1 v1 rfl) h1 h2 2 v2).set hS (blk_put (blk_put (blk_put hb 0 v0 rfl) 1 v1 rfl) 2 v2 rfl) h1 h2 3 v3).set hS (blk_put (blk_put (blk_put (blk_put hb 0 v0 rfl) 1 v1 rfl) 2 v2 rfl) 3 v3 rfl) h1 h2 4 v4

def restR (a : ByteArray) (s1 : PS) : SStep × PS :=
 if s1.2 < 0 then
  if (headW s1.1).f0 = 1 ∧ opB (headW s1.1).f2 = true then
   if opF (headW s1.1).f2 = 9 ∧ ¬ ((headW s1.1.tail).f0 = 1 ∧ numB (headW s1.1.tail).f2 = true) then (⟨a, 9, [], [], 0⟩, failsP (s1.1.tail, s1.2))
   else tailP a (headW s1.1).f2 (s1.1.tail, s1.2)
  else (⟨a, 0, [], [], 0⟩, failsP s1)
 else (⟨a, 0, [], [], 0⟩, s1)
theorem qnum_quiet (t : ByteArray) (ht : t.size ≤ 100000) (w : World) (hG : GOK w) : Calls Tryz.prog 150 #[.string t, .int .i64 2000] w fun e w' => e = .returned (.tuple #[.int .i64 (numV t), .bool (numB t)]) ∧ ∃ m, w' = w.drewN m := by
 have h := refGetNumber t 2000 (by omega) (by rw [← Lib.size_eq]; omega) (t.size + 1) (by rw [← Lib.size_eq]; omega)
 rw [← getNumber_num _ _ (by omega)] at h
 exact (Pg.shipwrightref1_GetNumber.calls _ t 2000 (numV t) (numB t) w hG h).mono fun _ _ ⟨he, hd⟩ => ⟨he, hd.out⟩

set_option maxHeartbeats 8000000 in
set_option maxRecDepth 100000 in
theorem qstep_calls (g : Nat) (s : PS) (w : World) (h : PAQ w g s) :
 Calls Tryz.prog 121 #[.pointer (some ⟨g, 0, none⟩)] w fun e w' => ∃ v2 v3, e = .returned (.agg #[.string (stepR s).1.f0, .int .i64 (stepR s).1.f1, v2, v3, .int .i64 (stepR s).1.f4]) ∧
  RS w' w.heap.size v2 (stepR s).1.f2 ∧ RS w' w.heap.size v3 (stepR s).1.f3 ∧ PAQ w' g (stepR s).2 ∧ w.grownBy w' (some g) := by
 have hF0 := (FlyQ.start h).alloc (.cells STz 62)
 have hlt := h.has.lt
 have HL := Lib.hid hlt
 have HT : Hid (stepR s = restR (nameP s).1 (mustP 3 equals (nameP s).2)) := rfl
 have HF0 := Lib.hid hF0
 clear hF0 hlt h
 go_enter Tryz.func121, Tryz.ntmps121
 go_wp2_with fail
 refine (qname_calls g s _ HF0.out.par).mono ?_
 rintro e w1 ⟨rfl, hp1, hg1⟩
 generalize ha : (nameP s).1 = a at HT ⊢
 generalize hs1 : (nameP s).2 = s1 at HT hp1
 have HR1 : Hid (w1.heap[w.heap.size]? = some (.cells STz 62 (0, 0))) := HF0.out.keeps (Nat.le_refl _) (blk_new w _) hg1
 have HF1 := Lib.hid (HF0.out.call hp1 hg1)
 have hS : w.heap.size < w1.heap.size := blk_lt HR1.out
 clear hp1 hg1 ha hs1 HF0
 have HF2 := Lib.hid (HF1.out.alloc (.cells #[.string a, .int .i64 0, .slice none 0 0, .slice none 0 0, .int .i64 0] 62))
 have HR2 := Lib.hid (blk_alloc HR1.out (.cells #[.string a, .int .i64 0, .slice none 0 0, .slice none 0 0, .int .i64 0] 62))
 have HS2 := Lib.hid (blk_new w1 (.cells #[.string a, .int .i64 0, .slice none 0 0, .slice none 0 0, .int .i64 0] 62))
 have HGS : Hid (g < w1.heap.size) := Nat.lt_of_lt_of_le HL.out (Nat.le_of_lt hS)
 go_wp2_with fail
 generalize w1.alloc (.cells #[.string a, .int .i64 0, .slice none 0 0, .slice none 0 0, .int .i64 0] 62) = w2 at HF2 HR2 HS2 ⊢
 generalize w1.heap.size = S at HS2 hS HGS ⊢
 clear HF1 HR1
 refine (qwant_par g 3 (by decide) equals s1 w2 HF2.out.par).mono ?_
 rintro e w3 ⟨rfl, hp3, hg3⟩
 generalize mustP 3 equals s1 = s3 at HT hp3
 have HF3 := Lib.hid (HF2.out.call hp3 hg3)
 have HR3 := Lib.hid (HF2.out.keeps (Nat.le_refl _) HR2.out hg3)
 have HS3 := Lib.hid (HF2.out.keeps (Nat.le_of_lt hS) HS2.out hg3)
 clear hp3 hg3 HF2 HR2 HS2
 have hO := qok_calls g s3 w3 HF3.out.par.has
 by_cases hb : s3.2 < 0
 rotate_left
 · have hd : decide (s3.2 < 0) = false := by simpa using hb
   rw [hd] at hO
   have HT2 : Hid (stepR s = (⟨a, 0, [], [], 0⟩, s3)) := by show _ = _; rw [HT.out]; unfold restR; rw [if_neg hb]
   clear hd hb HT
   go_wp2_with fail
   refine hO.mono ?_
   rintro e w' ⟨rfl, rfl⟩
   clear hO
   have hSe := HS3.out
   have k0 : w3.cell? ⟨S, 0, none⟩ = some (.string a) := (blk_cell hSe 0).trans rfl
   have k1 : w3.cell? ⟨S, 1, none⟩ = some (.int .i64 0) := (blk_cell hSe 1).trans rfl
   have k2 : w3.cell? ⟨S, 2, none⟩ = some (.slice none 0 0) := (blk_cell hSe 2).trans rfl
   have k3 : w3.cell? ⟨S, 3, none⟩ = some (.slice none 0 0) := (blk_cell hSe 3).trans rfl
   have k4 : w3.cell? ⟨S, 4, none⟩ = some (.int .i64 0) := (blk_cell hSe 4).trans rfl
   have hRe := HR3.out
   have r0 : w3.cell? ⟨w.heap.size, 0, none⟩ = some (.string ⟨#[]⟩) := (blk_cell hRe 0).trans rfl
   have q0 := blk_frozen hRe 0
   have r1 : w3.cell? ⟨w.heap.size, 1, none⟩ = some (.int .i64 0) := (blk_cell hRe 1).trans rfl
   have q1 := blk_frozen hRe 1
   have r2 : w3.cell? ⟨w.heap.size, 2, none⟩ = some (.slice none 0 0) := (blk_cell hRe 2).trans rfl
   have q2 := blk_frozen hRe 2
   have r3 : w3.cell? ⟨w.heap.size, 3, none⟩ = some (.slice none 0 0) := (blk_cell hRe 3).trans rfl
   have q3 := blk_frozen hRe 3
   have r4 : w3.cell? ⟨w.heap.size, 4, none⟩ = some (.int .i64 0) := (blk_cell hRe 4).trans rfl
   have q4 := blk_frozen hRe 4
   clear hSe hRe
   go_wp2
   have hs := set5_blk (.string a) (.int .i64 0) (.slice none 0 0) (.slice none 0 0) (.int .i64 0) HR3.out
   have hF := HF3.out.set5 (Nat.le_refl _) (.string a) (.int .i64 0) (.slice none 0 0) (.slice none 0 0) (.int .i64 0) HR3.out (by decide) (by decide)
   have hA := RS.set5 (Kd.R_nil _ _ _ _ _ : RS w3 w.heap.size (.slice none 0 0) []) (.string a) (.int .i64 0) (.slice none 0 0) (.slice none 0 0) (.int .i64 0) HR3.out (by decide)
   have hB := RS.set5 (Kd.R_nil _ _ _ _ _ : RS w3 w.heap.size (.slice none 0 0) []) (.string a) (.int .i64 0) (.slice none 0 0) (.slice none 0 0) (.int .i64 0) HR3.out (by decide)
   clear k0 k1 k2 k3 k4 r0 r1 r2 r3 r4 q0 q1 q2 q3 q4
   unfold set5 at hs hF hA hB
   generalize ((((w3.setCell ⟨w.heap.size, 0, none⟩ (.string a)).setCell ⟨w.heap.size, 1, none⟩ (.int .i64 0)).setCell ⟨w.heap.size, 2, none⟩ (.slice none 0 0)).setCell ⟨w.heap.size, 3, none⟩ (.slice none 0 0)).setCell ⟨w.heap.size, 4, none⟩ (.int .i64 0) = wE at hs hF hA hB ⊢
   have g0 := (blk_cell hs 0).trans rfl
   have g1 := (blk_cell hs 1).trans rfl
   have g2 := (blk_cell hs 2).trans rfl
   have g3 := (blk_cell hs 3).trans rfl
   have g4 := (blk_cell hs 4).trans rfl
   exact bodyPost_ret (v := .agg #[.string a, .int .i64 0, .slice none 0 0, .slice none 0 0, .int .i64 0]) (by simp [results, Tryz.results121, go_sem, g0, g1, g2, g3, g4]) rfl (by
    rw [HT2.out]
    exact ⟨_, _, rfl, hA, hB, hF.par, hF.grown⟩)
 have hd : decide (s3.2 < 0) = true := by simpa using hb
 rw [hd] at hO
 have HBn := Lib.hid hb
 clear hd hb
 go_wp2_with fail
 refine hO.mono ?_
 rintro e w' ⟨rfl, rfl⟩
 clear hO
 obtain ⟨b, n_, c_, kk, cur, hq⟩ := HF3.out.par.has
 have h0 : w3.cell? ⟨g, 0, none⟩ = some (.slice (some ⟨b, 0, none⟩) n_ c_) := (blk_cell hq.own 0).trans rfl
 have h1 : w3.cell? ⟨g, 1, none⟩ = some (.int .i64 (kk : Nat)) := (blk_cell hq.own 1).trans rfl
 obtain ⟨k0, k1, k2⟩ := hq.first HF3.out.par.good.ne
 have hkn := word_take hq HF3.out.par.good.ne
 have hkz : (kk : Int) < (n_ : Int) := by omega
 have hkb : (kk : Int) ≤ 200000 := by have := hq.big; omega
 have a0 := qalloc h0
 have a1 := qalloc h1
 have a2 := qalloc k0
 have a3 := qalloc k1
 have a4 := qalloc k2
 clear hq
 go_wp2_with fail
 go_region
 have hb4 := below_drew ((Below.refl w3.heap.size w3).alloc (Nat.le_refl _) (.cells #[.int .i64 (headW s3.1).f0, .int .i64 (headW s3.1).f1, .string (headW s3.1).f2] 34))
 have hN : BoxQ _ _ (headW s3.1) := ⟨blk_drew (blk_new w3 (.cells #[.int .i64 (headW s3.1).f0, .int .i64 (headW s3.1).f1, .string (headW s3.1).f2] 34))⟩
 have HGN : Hid (g < w3.heap.size) := HF3.out.par.has.lt
 generalize (w3.alloc (.cells #[.int .i64 (headW s3.1).f0, .int .i64 (headW s3.1).f1, .string (headW s3.1).f2] 34)).drew = w4 at hb4 hN ⊢
 have HF4 := Lib.hid (HF3.out.below hb4)
 have HR4 := Lib.hid (blk_below HR3.out hb4)
 have HS4 := Lib.hid (blk_below HS3.out hb4)
 generalize w3.heap.size = N at HGN hN ⊢
 have HN := Lib.hid hN
 have n0 := hN.c0
 have n2 := hN.c2
 clear hb4 hN h0 h1 k0 k1 k2 a0 a1 a2 a3 a4 hkz hkb hkn HF3 HR3 HS3
 by_cases hk : (headW s3.1).f0 = 1
 rotate_left
 · have hkd : ((headW s3.1).f0 != 1) = true := by simpa using hk
   have HT2 : Hid (stepR s = (⟨a, 0, [], [], 0⟩, failsP s3)) := by show _ = _; rw [HT.out]; unfold restR; rw [if_pos HBn.out, if_neg (fun h => hk h.1)]
   clear hk HT n2
   go_wp2_with fail
   refine (qfail_par g s3 w4 HF4.out.par).mono ?_
   rintro e w5 ⟨rfl, hp5, hg5⟩
   have HF5 := Lib.hid (HF4.out.call hp5 hg5)
   have HR5 := Lib.hid (HF4.out.keeps (Nat.le_refl _) HR4.out hg5)
   have HS5 := Lib.hid (HF4.out.keeps (Nat.le_of_lt hS) HS4.out hg5)
   clear hp5 hg5 HF4 HR4 HS4
   have hSe := HS5.out
   have k0 : w5.cell? ⟨S, 0, none⟩ = some (.string a) := (blk_cell hSe 0).trans rfl
   have k1 : w5.cell? ⟨S, 1, none⟩ = some (.int .i64 0) := (blk_cell hSe 1).trans rfl
   have k2 : w5.cell? ⟨S, 2, none⟩ = some (.slice none 0 0) := (blk_cell hSe 2).trans rfl
   have k3 : w5.cell? ⟨S, 3, none⟩ = some (.slice none 0 0) := (blk_cell hSe 3).trans rfl
   have k4 : w5.cell? ⟨S, 4, none⟩ = some (.int .i64 0) := (blk_cell hSe 4).trans rfl
   have hRe := HR5.out
   have r0 : w5.cell? ⟨w.heap.size, 0, none⟩ = some (.string ⟨#[]⟩) := (blk_cell hRe 0).trans rfl
   have q0 := blk_frozen hRe 0
   have r1 : w5.cell? ⟨w.heap.size, 1, none⟩ = some (.int .i64 0) := (blk_cell hRe 1).trans rfl
   have q1 := blk_frozen hRe 1
   have r2 : w5.cell? ⟨w.heap.size, 2, none⟩ = some (.slice none 0 0) := (blk_cell hRe 2).trans rfl
   have q2 := blk_frozen hRe 2
   have r3 : w5.cell? ⟨w.heap.size, 3, none⟩ = some (.slice none 0 0) := (blk_cell hRe 3).trans rfl
   have q3 := blk_frozen hRe 3
   have r4 : w5.cell? ⟨w.heap.size, 4, none⟩ = some (.int .i64 0) := (blk_cell hRe 4).trans rfl
   have q4 := blk_frozen hRe 4
   clear hSe hRe
   go_wp2
   have hs := set5_blk (.string a) (.int .i64 0) (.slice none 0 0) (.slice none 0 0) (.int .i64 0) HR5.out
   have hF := HF5.out.set5 (Nat.le_refl _) (.string a) (.int .i64 0) (.slice none 0 0) (.slice none 0 0) (.int .i64 0) HR5.out (by decide) (by decide)
   have hA := RS.set5 (Kd.R_nil _ _ _ _ _ : RS w5 w.heap.size (.slice none 0 0) []) (.string a) (.int .i64 0) (.slice none 0 0) (.slice none 0 0) (.int .i64 0) HR5.out (by decide)
   have hB := RS.set5 (Kd.R_nil _ _ _ _ _ : RS w5 w.heap.size (.slice none 0 0) []) (.string a) (.int .i64 0) (.slice none 0 0) (.slice none 0 0) (.int .i64 0) HR5.out (by decide)
   clear k0 k1 k2 k3 k4 r0 r1 r2 r3 r4 q0 q1 q2 q3 q4
   unfold set5 at hs hF hA hB
   generalize ((((w5.setCell ⟨w.heap.size, 0, none⟩ (.string a)).setCell ⟨w.heap.size, 1, none⟩ (.int .i64 0)).setCell ⟨w.heap.size, 2, none⟩ (.slice none 0 0)).setCell ⟨w.heap.size, 3, none⟩ (.slice none 0 0)).setCell ⟨w.heap.size, 4, none⟩ (.int .i64 0) = wE at hs hF hA hB ⊢
   have g0 := (blk_cell hs 0).trans rfl
   have g1 := (blk_cell hs 1).trans rfl
   have g2 := (blk_cell hs 2).trans rfl
   have g3 := (blk_cell hs 3).trans rfl
   have g4 := (blk_cell hs 4).trans rfl
   exact bodyPost_ret (v := .agg #[.string a, .int .i64 0, .slice none 0 0, .slice none 0 0, .int .i64 0]) (by simp [results, Tryz.results121, go_sem, g0, g1, g2, g3, g4]) rfl (by
    rw [HT2.out]
    exact ⟨_, _, rfl, hA, hB, hF.par, hF.grown⟩)
 have hkd : ((headW s3.1).f0 != 1) = false := by simpa using hk
 have HK1 := Lib.hid hk
 clear hk
 go_wp2_with fail
 refine (rop_calls (headW s3.1).f2 w4).mono ?_
 rintro e w5 ⟨rfl, hb5⟩
 have HF5 := Lib.hid (HF4.out.below hb5)
 have HR5 := Lib.hid (blk_below HR4.out hb5)
 have HS5 := Lib.hid (blk_below HS4.out hb5)
 have HN5 := Lib.hid (HN.out.below hb5)
 have HOp := Lib.hid (fun W => rop_calls (headW s3.1).f2 W)
 have hge := opF_lt (headW s3.1).f2
 have HT := Lib.hid (show stepR s = if 0 < opF (headW s3.1).f2 then (if opF (headW s3.1).f2 = 9 ∧ ¬ ((headW s3.1.tail).f0 = 1 ∧ numB (headW s3.1.tail).f2 = true) then (⟨a, 9, [], [], 0⟩, failsP (s3.1.tail, s3.2)) else tailP a (headW s3.1).f2 (s3.1.tail, s3.2)) else (⟨a, 0, [], [], 0⟩, failsP s3) by
  rw [HT.out]
  unfold restR
  rw [if_pos HBn.out]
  by_cases h : 0 < opF (headW s3.1).f2
  · rw [if_pos ⟨HK1.out, by unfold opB; exact decide_eq_true h⟩, if_pos h]
  · rw [if_neg (fun hc => h (by have := hc.2; unfold opB at this; simpa using this)), if_neg h])
 unfold tailP at HT
 generalize opF (headW s3.1).f2 = op at HT HOp hge ⊢
 clear hb5 HF4 HR4 HS4 HN n0 n2 hkd
 by_cases hz : op = 0
 · have hzd : (op == 0) = true := by simpa using hz
   have HT2 : Hid (stepR s = (⟨a, 0, [], [], 0⟩, failsP s3)) := by show _ = _; rw [HT.out, if_neg (by omega)]
   clear hz HT HOp hge
   go_wp2_with fail
   refine (qfail_par g s3 w5 HF5.out.par).mono ?_
   rintro e w6 ⟨rfl, hp6, hg6⟩
   have HF6 := Lib.hid (HF5.out.call hp6 hg6)
   have HR6 := Lib.hid (HF5.out.keeps (Nat.le_refl _) HR5.out hg6)
   have HS6 := Lib.hid (HF5.out.keeps (Nat.le_of_lt hS) HS5.out hg6)
   clear hp6 hg6 HF5 HR5 HS5
   have hSe := HS6.out
   have k0 : w6.cell? ⟨S, 0, none⟩ = some (.string a) := (blk_cell hSe 0).trans rfl
   have k1 : w6.cell? ⟨S, 1, none⟩ = some (.int .i64 0) := (blk_cell hSe 1).trans rfl
   have k2 : w6.cell? ⟨S, 2, none⟩ = some (.slice none 0 0) := (blk_cell hSe 2).trans rfl
   have k3 : w6.cell? ⟨S, 3, none⟩ = some (.slice none 0 0) := (blk_cell hSe 3).trans rfl
   have k4 : w6.cell? ⟨S, 4, none⟩ = some (.int .i64 0) := (blk_cell hSe 4).trans rfl
   have hRe := HR6.out
   have r0 : w6.cell? ⟨w.heap.size, 0, none⟩ = some (.string ⟨#[]⟩) := (blk_cell hRe 0).trans rfl
   have q0 := blk_frozen hRe 0
   have r1 : w6.cell? ⟨w.heap.size, 1, none⟩ = some (.int .i64 0) := (blk_cell hRe 1).trans rfl
   have q1 := blk_frozen hRe 1
   have r2 : w6.cell? ⟨w.heap.size, 2, none⟩ = some (.slice none 0 0) := (blk_cell hRe 2).trans rfl
   have q2 := blk_frozen hRe 2
   have r3 : w6.cell? ⟨w.heap.size, 3, none⟩ = some (.slice none 0 0) := (blk_cell hRe 3).trans rfl
   have q3 := blk_frozen hRe 3
   have r4 : w6.cell? ⟨w.heap.size, 4, none⟩ = some (.int .i64 0) := (blk_cell hRe 4).trans rfl
   have q4 := blk_frozen hRe 4
   clear hSe hRe
   go_wp2
   have hs := set5_blk (.string a) (.int .i64 0) (.slice none 0 0) (.slice none 0 0) (.int .i64 0) HR6.out
   have hF := HF6.out.set5 (Nat.le_refl _) (.string a) (.int .i64 0) (.slice none 0 0) (.slice none 0 0) (.int .i64 0) HR6.out (by decide) (by decide)
   have hA := RS.set5 (Kd.R_nil _ _ _ _ _ : RS w6 w.heap.size (.slice none 0 0) []) (.string a) (.int .i64 0) (.slice none 0 0) (.slice none 0 0) (.int .i64 0) HR6.out (by decide)
   have hB := RS.set5 (Kd.R_nil _ _ _ _ _ : RS w6 w.heap.size (.slice none 0 0) []) (.string a) (.int .i64 0) (.slice none 0 0) (.slice none 0 0) (.int .i64 0) HR6.out (by decide)
   clear k0 k1 k2 k3 k4 r0 r1 r2 r3 r4 q0 q1 q2 q3 q4
   unfold set5 at hs hF hA hB
   generalize ((((w6.setCell ⟨w.heap.size, 0, none⟩ (.string a)).setCell ⟨w.heap.size, 1, none⟩ (.int .i64 0)).setCell ⟨w.heap.size, 2, none⟩ (.slice none 0 0)).setCell ⟨w.heap.size, 3, none⟩ (.slice none 0 0)).setCell ⟨w.heap.size, 4, none⟩ (.int .i64 0) = wE at hs hF hA hB ⊢
   have g0 := (blk_cell hs 0).trans rfl
   have g1 := (blk_cell hs 1).trans rfl
   have g2 := (blk_cell hs 2).trans rfl
   have g3 := (blk_cell hs 3).trans rfl
   have g4 := (blk_cell hs 4).trans rfl
   exact bodyPost_ret (v := .agg #[.string a, .int .i64 0, .slice none 0 0, .slice none 0 0, .int .i64 0]) (by simp [results, Tryz.results121, go_sem, g0, g1, g2, g3, g4]) rfl (by
    rw [HT2.out]
    exact ⟨_, _, rfl, hA, hB, hF.par, hF.grown⟩)
 have hzd : (op == 0) = false := by simpa using hz
 have HT := Lib.hid (show stepR s = _ from HT.out.trans (if_pos (by omega)))
 obtain ⟨b, n_, c_, kk, cur, hq⟩ := HF5.out.par.has
 have h1 : w5.cell? ⟨g, 1, none⟩ = some (.int .i64 (kk : Nat)) := (blk_cell hq.own 1).trans rfl
 have hf1 := blk_frozen hq.own 1
 have hkb : (kk : Int) ≤ 200000 := by have := hq.at_; have := hq.big; omega
 have s2 := HN5.out.s2 HGN.out 1 (.int .i64 ((kk : Int) + 1))
 have HA := Lib.hid (HF5.out.par.adv HBn.out (by rw [HK1.out]; decide) hq)
 clear hq hz
 go_wp2_with fail
 clear h1 hf1 s2 hzd
 have HF6 := Lib.hid (HF5.out.call HA.out.1 HA.out.2)
 have HR6 := Lib.hid (HF5.out.keeps (Nat.le_refl _) HR5.out HA.out.2)
 have HS6 := Lib.hid (HF5.out.keeps (Nat.le_of_lt hS) HS5.out HA.out.2)
 have HBs : Hid ((s3.1.tail, s3.2).2 < 0) := HBn.out
 clear HA HF5 HR5 HS5 HN5 HBn HK1
 generalize w5.setCell ⟨g, 1, none⟩ (.int .i64 ((kk : Int) + 1)) = w6 at HF6 HR6 HS6 ⊢
 have HT := Lib.hid (show stepR s = if op = 9 ∧ ¬ ((headW (s3.1.tail, s3.2).1).f0 = 1 ∧ numB (headW (s3.1.tail, s3.2).1).f2 = true) then (⟨a, 9, [], [], 0⟩, failsP (s3.1.tail, s3.2)) else _ from HT.out)
 generalize ((s3.1.tail, s3.2) : PS) = s4 at HT HF6 HBs
 refine (HOp.out w6).mono ?_
 rintro e w5 ⟨rfl, hb5⟩
 have HF5 := Lib.hid (HF6.out.below hb5)
 have HR5 := Lib.hid (blk_below HR6.out hb5)
 have HS5 := Lib.hid (blk_below HS6.out hb5)
 clear hb5 HF6 HR6 HS6 HOp HGN
 have hS5 := HS5.out
 have c1 : w5.cell? ⟨S, 1, none⟩ = some (.int .i64 0) := (blk_cell hS5 1).trans rfl
 have f1 : w5.frozen? ⟨S, 1, none⟩ = false := blk_frozen hS5 1
 have l1 : ∀ v, (w5.setCell ⟨S, 1, none⟩ v).cell? ⟨S, 1, none⟩ = some v := fun v => (blk_cell (blk_set hS5 1 v) 1).trans rfl
 clear hS5
 by_cases o5 : op = 5
 · have hT2 : stepR s = (⟨a, op, (argsP (s4.1.length + 1) s4).1, [], 0⟩, mustP 3 semi (argsP (s4.1.length + 1) s4).2) := by
    rw [HT.out, if_neg (fun h => by have := h.1; omega)]
    unfold argP litsP
    simp [o5]
   have HT2 := Lib.hid hT2
   have e5 : (op == 5) = true := by simp only [o5]; decide
   have e6 : (op == 6) = false := by simp only [o5]; decide
   have e7 : (op == 7) = false := by simp only [o5]; decide
   have e8 : (op == 8) = false := by simp only [o5]; decide
   have e9 : (op == 9) = false := by simp only [o5]; decide
   have n5 : (op != 5) = false := by simp only [o5]; decide
   have n6 : (op != 6) = true := by simp only [o5]; decide
   clear hT2 HT o5
   go_wp2_with fail
   have HF6 := Lib.hid (HF5.out.set (Nat.le_of_lt hS) HS5.out (by decide) (by decide) 1 (.int .i64 op))
   have HR6 := Lib.hid (blk_far HR5.out (p := ⟨S, 1, none⟩) (Nat.ne_of_lt hS) (.int .i64 op))
   have HS6 : Hid ((w5.setCell ⟨S, 1, none⟩ (.int .i64 op)).heap[S]? = some (.cells #[.string a, .int .i64 op, .slice none 0 0, .slice none 0 0, .int .i64 0] 62 (0, 0))) := blk_put HS5.out 1 _ rfl
   generalize w5.setCell ⟨S, 1, none⟩ (.int .i64 op) = w6 at HF6 HR6 HS6 ⊢
   clear HF5 HR5 HS5 c1 f1 l1
   have HTA : Hid ((argsP (s4.1.length + 1) s4).1 = (argsP (mS s4) s4).1 ∧ (argsP (s4.1.length + 1) s4).2 = (argsP (mS s4) s4).2) := by
    rw [args_fuel (s4.1.length + 1) (mS s4) s4 HF6.out.par.good (mS_le s4) (Nat.le_refl _)]
    exact ⟨rfl, rfl⟩
   generalize (argsP (s4.1.length + 1) s4).1 = T1 at HT2 HTA
   generalize (argsP (s4.1.length + 1) s4).2 = T2 at HT2 HTA
   have hm4 : mS s4 ≤ 100001 := Nat.le_trans (mS_le s4) (Nat.add_le_add_right HF6.out.par.len 1)
   go_loopg [] (mS s4) (fun gg wr => ∃ (acc : List ByteArray) (s2 : PS) (A : Option Addr) (c : Nat), mS s2 ≤ gg ∧ acc.length + mS s2 ≤ mS s4 ∧ Aside0 (acc ++ (argsP (mS s2) s2).1 = T1 ∧ (argsP (mS s2) s2).2 = T2) ∧
    Aside0 (RS wr w.heap.size (.slice A acc.length c) acc) ∧ Aside0 (FlyQ w g wr s2) ∧ Aside0 (wr.heap[w.heap.size]? = some (.cells STz 62 (0, 0))) ∧ Aside0 (wr.heap[S]? = some (.cells #[.string a, .int .i64 op, .slice A acc.length c, .slice none 0 0, .int .i64 0] 62 (0, 0))))
   case atStart => exact ⟨[], s4, none, 0, Nat.le_refl _, by simp, ⟨by rw [List.nil_append]; exact ⟨HTA.out.1.symm, HTA.out.2.symm⟩⟩, ⟨Kd.R_nil _ _ _ _ _⟩, ⟨HF6.out⟩, ⟨HR6.out⟩, ⟨HS6.out⟩⟩
   case round =>
    obtain ⟨acc, s2, A, c, hgk, hal, HK, HA7, HF7, HR7, HS7⟩ := hrel
    obtain ⟨b, n_, c_, kk, cur, hq⟩ := HF7.out.par.has
    have h0 : wr.cell? ⟨g, 0, none⟩ = some (.slice (some ⟨b, 0, none⟩) n_ c_) := (blk_cell hq.own 0).trans rfl
    have h1 : wr.cell? ⟨g, 1, none⟩ = some (.int .i64 (kk : Nat)) := (blk_cell hq.own 1).trans rfl
    have k0 := (hq.first HF7.out.par.good.ne).1
    have hkn := word_take hq HF7.out.par.good.ne
    have hkz : (kk : Int) < (n_ : Int) := by omega
    have hOq : ∀ n : Nat, Calls Tryz.prog 73 #[.pointer (some ⟨g, 0, none⟩)] (wr.drewN n) fun e w' => e = .returned (.bool (decide (s2.2 < 0))) ∧ w' = wr.drewN n := fun n => (qok_calls g s2 _ (HF7.out.par.has.below (bdq (Below.refl _ _) n))).mono fun _ _ ⟨he, hw⟩ => ⟨he, hw.symm⟩
    clear hkn hq
    by_cases hb : s2.2 < 0
    · have hbd : decide (s2.2 < 0) = true := by simpa using hb
      rw [hbd] at hOq
      have HOq := Lib.hid hOq
      clear hOq
      by_cases hk : (headW s2.1).f0 = 1
      · have hkd : ((headW s2.1).f0 == 1) = true := by simpa using hk
        have hN := fun W hW => qname_calls g s2 W hW
        have hmn := mS_name HF7.out.par.good hb
        have HKn : Hid (((acc ++ [(nameP s2).1]) ++ (argsP (mS (nameP s2).2) (nameP s2).2).1 = T1 ∧ (argsP (mS (nameP s2).2) (nameP s2).2).2 = T2)) := by
         have hK := HK.out
         obtain ⟨n, hn⟩ : ∃ n, mS s2 = n + 1 := ⟨mS s2 - 1, by omega⟩
         rw [hn, argsP, if_pos ⟨hb, hk⟩, args_fuel n (mS (nameP s2).2) (nameP s2).2 (inv_good.name HF7.out.par.good) (by omega) (Nat.le_refl _)] at hK
         exact ⟨by rw [← hK.1]; simp, hK.2⟩
        generalize (nameP s2).1 = x at HKn hN
        generalize (nameP s2).2 = s3 at HKn hN hmn
        have hal2 : acc.length ≤ 200000 := by omega
        clear hbd hb hk
        go_wp2_with fail
        go_quiet ((go_at_call 73; exact Calls.quiet_of_same (HOq.out _)))
        have HF7 := Lib.hid (HF7.out.below (bdq (Below.refl wr.heap.size wr) nq))
        have HR7 := Lib.hid (blk_drewN HR7.out nq)
        have HS7 := Lib.hid (blk_drewN HS7.out nq)
        have HA7 : Hid (RS (wr.drewN nq) w.heap.size (.slice A acc.length c) acc) := Kd.R_below HA7.out (bdq (Below.refl wr.heap.size wr) nq)
        clear h0 h1 k0 hkz HOq
        generalize wr.drewN nq = wr at HF7 HR7 HS7 HA7 ⊢
        clear hkd
        have hld : wr.cell? ⟨S, 2, none⟩ = some (.slice A acc.length c) := (blk_cell HS7.out 2).trans rfl
        go_wp2_with fail
        have HFd := Lib.hid (HF7.out.below (W1 := wr.drew) ⟨rfl, rfl, rfl, Nat.le_refl _, fun _ _ => rfl⟩)
        have HAd : Hid (RS wr.drew w.heap.size (.slice A acc.length c) acc) := Kd.R_below HA7.out ⟨rfl, rfl, rfl, Nat.le_refl _, fun _ _ => rfl⟩
        have HRd := Lib.hid (blk_drew HR7.out)
        have HSd := Lib.hid (blk_drew HS7.out)
        go_region_law (first
         | (refine Kd.R_append_step Kd.string (w0 := w8) w.heap.size (by rfl) (.tmp 138) (.tmp 141) 46 9 (.string ⟨#[]⟩) 16 rfl Tryz.underlying46 infoStr rfl (by decide) (by decide) (.slice A acc.length c) acc x [.string x] (fun _ => True) (fun k_ => True ∧ some k_ ≠ (Value.slice A acc.length c).ownBlock) (by rfl) (by rfl) rfl (fun _ hk => hk) (fun _ _ => trivial) HA8.out (Below.refl _ _) HF8.out.grown.size ?aL ?_; (case aL => omega); intro v1 w9 ho hb hg hat; obtain ⟨A1, c1, rfl, hc1, _⟩ := Kd.R_reads ho; have HA9 := Lib.hid ho; have HF9 := Lib.hid (HF8.out.row (Kd.R_own HA8.out).choose_spec (by decide) (by decide) (Nat.le_refl _) hb hg); have HR9 := Lib.hid (blk_grown HR8.out hg (Kd.R_ne HA8.out HR8.out (by decide))); have HS9 := Lib.hid (blk_grown HS8.out hg (Kd.R_ne HA8.out HS8.out (by decide))); have hst : w9.cell? ⟨S, 2, none⟩ = some (.slice A acc.length c) := (blk_cell HS9.out 2).trans rfl; have hfr : w9.frozen? ⟨S, 2, none⟩ = false := blk_frozen HS9.out 2; clear ho hb hg hat)
         | (go_simp; go_at_call 118; refine (hN _ HFd.out.par).mono ?_; rintro e w8 ⟨rfl, hp8, hg8⟩; have HF8 := Lib.hid (HFd.out.call hp8 hg8); have HR8 := Lib.hid (HFd.out.keeps (Nat.le_refl _) HRd.out hg8); have HS8 := Lib.hid (HFd.out.keeps (Nat.le_of_lt hS) HSd.out hg8); have HA8 := Lib.hid (row_keep HAd.out hg8 HL.out); have hl8 : w8.cell? ⟨S, 2, none⟩ = some (.slice A acc.length c) := (blk_cell HS8.out 2).trans rfl; have hl8a : ∀ ob : Obj, (w8.alloc ob).cell? ⟨S, 2, none⟩ = some (.slice A acc.length c) := fun ob => (blk_cell (blk_alloc HS8.out ob) 2).trans rfl; clear hp8 hg8))
        all_goals
         go_wp2
         go_roundg (mS s3)
         case measure => omega
         case rel =>
          have hlen : acc.length + 1 = (acc ++ [x]).length := by simp
          simp only [hlen]
          refine ⟨acc ++ [x], s3, A1, c1, Nat.le_refl _, ?_, ⟨HKn.out⟩, ⟨Kd.R_set HA9.out HS9.out (by decide) 2 _⟩, ⟨HF9.out.set (Nat.le_of_lt hS) HS9.out (by decide) (by decide) 2 _⟩, ⟨blk_far HR9.out (p := ⟨S, 2, none⟩) (Nat.ne_of_lt hS) _⟩, ⟨?_⟩⟩
          · rw [List.length_append, List.length_singleton]; omega
          · exact blk_put HS9.out 2 _ rfl
      · have hkd : ((headW s2.1).f0 == 1) = false := by simpa using hk
        have HKn : Hid (acc = T1 ∧ s2 = T2) := by
         have hK := HK.out
         have h0 : argsP (mS s2) s2 = ([], s2) := by
          generalize mS s2 = n
          cases n with
          | zero => rfl
          | succ n => unfold argsP; rw [if_neg (fun h => hk h.2)]
         rw [h0, List.append_nil] at hK
         exact hK
        clear hbd hb hk
        have hT1 := HKn.out.1
        have hT2 := HKn.out.2
        clear HKn HK
        subst hT1
        subst hT2
        go_wp2_with fail
        go_quiet ((go_at_call 73; exact Calls.quiet_of_same (HOq.out _)))
        have HF7 := Lib.hid (HF7.out.below (bdq (Below.refl wr.heap.size wr) nq))
        have HR7 := Lib.hid (blk_drewN HR7.out nq)
        have HS7 := Lib.hid (blk_drewN HS7.out nq)
        have HA7 : Hid (RS (wr.drewN nq) w.heap.size (.slice A acc.length c) acc) := Kd.R_below HA7.out (bdq (Below.refl wr.heap.size wr) nq)
        clear h0 h1 k0 hkz HOq
        generalize wr.drewN nq = wr at HF7 HR7 HS7 HA7 ⊢
        go_wp2_with fail
        refine (qwant_par g 3 (by decide) semi s2 wr HF7.out.par).mono ?_
        rintro e w8 ⟨rfl, hp8, hg8⟩
        have HF8 := Lib.hid (HF7.out.call hp8 hg8)
        have HR8 := Lib.hid (HF7.out.keeps (Nat.le_refl _) HR7.out hg8)
        have HS8 := Lib.hid (HF7.out.keeps (Nat.le_of_lt hS) HS7.out hg8)
        have HA8 := Lib.hid (row_keep HA7.out hg8 HL.out)
        clear hp8 hg8 HF7 HR7 HS7 HA7
        have hSe := HS8.out
        have k0 : w8.cell? ⟨S, 0, none⟩ = some (.string a) := (blk_cell hSe 0).trans rfl
        have k1 : w8.cell? ⟨S, 1, none⟩ = some (.int .i64 op) := (blk_cell hSe 1).trans rfl
        have k2 : w8.cell? ⟨S, 2, none⟩ = some (.slice A acc.length c) := (blk_cell hSe 2).trans rfl
        have k3 : w8.cell? ⟨S, 3, none⟩ = some (.slice none 0 0) := (blk_cell hSe 3).trans rfl
        have k4 : w8.cell? ⟨S, 4, none⟩ = some (.int .i64 0) := (blk_cell hSe 4).trans rfl
        have hRe := HR8.out
        have r0 : w8.cell? ⟨w.heap.size, 0, none⟩ = some (.string ⟨#[]⟩) := (blk_cell hRe 0).trans rfl
        have q0 := blk_frozen hRe 0
        have r1 : w8.cell? ⟨w.heap.size, 1, none⟩ = some (.int .i64 0) := (blk_cell hRe 1).trans rfl
        have q1 := blk_frozen hRe 1
        have r2 : w8.cell? ⟨w.heap.size, 2, none⟩ = some (.slice none 0 0) := (blk_cell hRe 2).trans rfl
        have q2 := blk_frozen hRe 2
        have r3 : w8.cell? ⟨w.heap.size, 3, none⟩ = some (.slice none 0 0) := (blk_cell hRe 3).trans rfl
        have q3 := blk_frozen hRe 3
        have r4 : w8.cell? ⟨w.heap.size, 4, none⟩ = some (.int .i64 0) := (blk_cell hRe 4).trans rfl
        have q4 := blk_frozen hRe 4
        clear hSe hRe
        go_wp2
        have hs := set5_blk (.string a) (.int .i64 op) (.slice A acc.length c) (.slice none 0 0) (.int .i64 0) HR8.out
        have hF := HF8.out.set5 (Nat.le_refl _) (.string a) (.int .i64 op) (.slice A acc.length c) (.slice none 0 0) (.int .i64 0) HR8.out (by decide) (by decide)
        have hA := RS.set5 HA8.out (.string a) (.int .i64 op) (.slice A acc.length c) (.slice none 0 0) (.int .i64 0) HR8.out (by decide)
        have hB := RS.set5 (Kd.R_nil _ _ _ _ _ : RS w8 w.heap.size (.slice none 0 0) []) (.string a) (.int .i64 op) (.slice A acc.length c) (.slice none 0 0) (.int .i64 0) HR8.out (by decide)
        clear k0 k1 k2 k3 k4 r0 r1 r2 r3 r4 q0 q1 q2 q3 q4
        unfold set5 at hs hF hA hB
        generalize ((((w8.setCell ⟨w.heap.size, 0, none⟩ (.string a)).setCell ⟨w.heap.size, 1, none⟩ (.int .i64 op)).setCell ⟨w.heap.size, 2, none⟩ (.slice A acc.length c)).setCell ⟨w.heap.size, 3, none⟩ (.slice none 0 0)).setCell ⟨w.heap.size, 4, none⟩ (.int .i64 0) = wE at hs hF hA hB ⊢
        have g0 := (blk_cell hs 0).trans rfl
        have g1 := (blk_cell hs 1).trans rfl
        have g2 := (blk_cell hs 2).trans rfl
        have g3 := (blk_cell hs 3).trans rfl
        have g4 := (blk_cell hs 4).trans rfl
        exact bodyPost_ret (v := .agg #[.string a, .int .i64 op, .slice A acc.length c, .slice none 0 0, .int .i64 0]) (by simp [results, Tryz.results121, go_sem, g0, g1, g2, g3, g4]) rfl (by
         rw [HT2.out]
         exact ⟨_, _, rfl, hA, hB, hF.par, hF.grown⟩)
    · have hbd : decide (s2.2 < 0) = false := by simpa using hb
      rw [hbd] at hOq
      have HOq := Lib.hid hOq
      clear hOq
      have HKn : Hid (acc = T1 ∧ s2 = T2) := by
       have hK := HK.out
       have h0 : argsP (mS s2) s2 = ([], s2) := by
        generalize mS s2 = n
        cases n with
        | zero => rfl
        | succ n => unfold argsP; rw [if_neg (fun h => hb h.1)]
       rw [h0, List.append_nil] at hK
       exact hK
      clear hbd hb
      have hT1 := HKn.out.1
      have hT2 := HKn.out.2
      clear HKn HK
      subst hT1
      subst hT2
      go_wp2_with fail
      go_quiet ((go_at_call 73; exact Calls.quiet_of_same (HOq.out _)))
      have HF7 := Lib.hid (HF7.out.below (bdq (Below.refl wr.heap.size wr) nq))
      have HR7 := Lib.hid (blk_drewN HR7.out nq)
      have HS7 := Lib.hid (blk_drewN HS7.out nq)
      have HA7 : Hid (RS (wr.drewN nq) w.heap.size (.slice A acc.length c) acc) := Kd.R_below HA7.out (bdq (Below.refl wr.heap.size wr) nq)
      clear h0 h1 k0 hkz HOq
      generalize wr.drewN nq = wr at HF7 HR7 HS7 HA7 ⊢
      go_wp2_with fail
      refine (qwant_par g 3 (by decide) semi s2 wr HF7.out.par).mono ?_
      rintro e w8 ⟨rfl, hp8, hg8⟩
      have HF8 := Lib.hid (HF7.out.call hp8 hg8)
      have HR8 := Lib.hid (HF7.out.keeps (Nat.le_refl _) HR7.out hg8)
      have HS8 := Lib.hid (HF7.out.keeps (Nat.le_of_lt hS) HS7.out hg8)
      have HA8 := Lib.hid (row_keep HA7.out hg8 HL.out)
      clear hp8 hg8 HF7 HR7 HS7 HA7
      have hSe := HS8.out
      have k0 : w8.cell? ⟨S, 0, none⟩ = some (.string a) := (blk_cell hSe 0).trans rfl
      have k1 : w8.cell? ⟨S, 1, none⟩ = some (.int .i64 op) := (blk_cell hSe 1).trans rfl
      have k2 : w8.cell? ⟨S, 2, none⟩ = some (.slice A acc.length c) := (blk_cell hSe 2).trans rfl
      have k3 : w8.cell? ⟨S, 3, none⟩ = some (.slice none 0 0) := (blk_cell hSe 3).trans rfl
      have k4 : w8.cell? ⟨S, 4, none⟩ = some (.int .i64 0) := (blk_cell hSe 4).trans rfl
      have hRe := HR8.out
      have r0 : w8.cell? ⟨w.heap.size, 0, none⟩ = some (.string ⟨#[]⟩) := (blk_cell hRe 0).trans rfl
      have q0 := blk_frozen hRe 0
      have r1 : w8.cell? ⟨w.heap.size, 1, none⟩ = some (.int .i64 0) := (blk_cell hRe 1).trans rfl
      have q1 := blk_frozen hRe 1
      have r2 : w8.cell? ⟨w.heap.size, 2, none⟩ = some (.slice none 0 0) := (blk_cell hRe 2).trans rfl
      have q2 := blk_frozen hRe 2
      have r3 : w8.cell? ⟨w.heap.size, 3, none⟩ = some (.slice none 0 0) := (blk_cell hRe 3).trans rfl
      have q3 := blk_frozen hRe 3
      have r4 : w8.cell? ⟨w.heap.size, 4, none⟩ = some (.int .i64 0) := (blk_cell hRe 4).trans rfl
      have q4 := blk_frozen hRe 4
      clear hSe hRe
      go_wp2
      have hs := set5_blk (.string a) (.int .i64 op) (.slice A acc.length c) (.slice none 0 0) (.int .i64 0) HR8.out
      have hF := HF8.out.set5 (Nat.le_refl _) (.string a) (.int .i64 op) (.slice A acc.length c) (.slice none 0 0) (.int .i64 0) HR8.out (by decide) (by decide)
      have hA := RS.set5 HA8.out (.string a) (.int .i64 op) (.slice A acc.length c) (.slice none 0 0) (.int .i64 0) HR8.out (by decide)
      have hB := RS.set5 (Kd.R_nil _ _ _ _ _ : RS w8 w.heap.size (.slice none 0 0) []) (.string a) (.int .i64 op) (.slice A acc.length c) (.slice none 0 0) (.int .i64 0) HR8.out (by decide)
      clear k0 k1 k2 k3 k4 r0 r1 r2 r3 r4 q0 q1 q2 q3 q4
      unfold set5 at hs hF hA hB
      generalize ((((w8.setCell ⟨w.heap.size, 0, none⟩ (.string a)).setCell ⟨w.heap.size, 1, none⟩ (.int .i64 op)).setCell ⟨w.heap.size, 2, none⟩ (.slice A acc.length c)).setCell ⟨w.heap.size, 3, none⟩ (.slice none 0 0)).setCell ⟨w.heap.size, 4, none⟩ (.int .i64 0) = wE at hs hF hA hB ⊢
      have g0 := (blk_cell hs 0).trans rfl
      have g1 := (blk_cell hs 1).trans rfl
      have g2 := (blk_cell hs 2).trans rfl
      have g3 := (blk_cell hs 3).trans rfl
      have g4 := (blk_cell hs 4).trans rfl
      exact bodyPost_ret (v := .agg #[.string a, .int .i64 op, .slice A acc.length c, .slice none 0 0, .int .i64 0]) (by simp [results, Tryz.results121, go_sem, g0, g1, g2, g3, g4]) rfl (by
       rw [HT2.out]
       exact ⟨_, _, rfl, hA, hB, hF.par, hF.grown⟩)
 by_cases o6 : op = 6
 · have hT2 : stepR s = (⟨a, op, [], [(textP s4).1], 0⟩, mustP 3 semi (textP s4).2) := by
    rw [HT.out, if_neg (fun h => by have := h.1; omega)]
    unfold argP litsP
    simp [o6]
   have HT2 := Lib.hid hT2
   have e5 : (op == 5) = false := by simp only [o6]; decide
   have e6 : (op == 6) = true := by simp only [o6]; decide
   have e7 : (op == 7) = false := by simp only [o6]; decide
   have e8 : (op == 8) = false := by simp only [o6]; decide
   have e9 : (op == 9) = false := by simp only [o6]; decide
   have n5 : (op != 5) = true := by simp only [o6]; decide
   have n6 : (op != 6) = false := by simp only [o6]; decide
   clear hT2 HT o5 o6
   go_wp2_with fail
   have HF6 := Lib.hid (HF5.out.set (Nat.le_of_lt hS) HS5.out (by decide) (by decide) 1 (.int .i64 op))
   have HR6 := Lib.hid (blk_far HR5.out (p := ⟨S, 1, none⟩) (Nat.ne_of_lt hS) (.int .i64 op))
   have HS6 : Hid ((w5.setCell ⟨S, 1, none⟩ (.int .i64 op)).heap[S]? = some (.cells #[.string a, .int .i64 op, .slice none 0 0, .slice none 0 0, .int .i64 0] 62 (0, 0))) := blk_put HS5.out 1 _ rfl
   generalize w5.setCell ⟨S, 1, none⟩ (.int .i64 op) = w6 at HF6 HR6 HS6 ⊢
   clear HF5 HR5 HS5 c1 f1 l1
   refine (qstr_calls g s4 w6 HF6.out.par).mono ?_
   rintro e w7 ⟨rfl, hp7, hg7⟩
   have HF7 := Lib.hid (HF6.out.call hp7 hg7)
   have HR7 := Lib.hid (HF6.out.keeps (Nat.le_refl _) HR6.out hg7)
   have HS7 := Lib.hid (HF6.out.keeps (Nat.le_of_lt hS) HS6.out hg7)
   clear hp7 hg7 HF6 HR6 HS6
   have hS7 := HS7.out
   have c2 : ∀ ob : Obj, (w7.alloc ob).cell? ⟨S, 3, none⟩ = some (.slice none 0 0) := fun ob => (blk_cell (blk_alloc hS7 ob) 3).trans rfl
   have f2 : ∀ ob : Obj, (w7.alloc ob).frozen? ⟨S, 3, none⟩ = false := fun ob => blk_frozen (blk_alloc hS7 ob) 3
   have l2 : ∀ (ob : Obj) (v : Value), ((w7.alloc ob).setCell ⟨S, 3, none⟩ v).cell? ⟨S, 1, none⟩ = some (.int .i64 op) := fun ob v => (blk_cell (blk_set (blk_alloc hS7 ob) 3 v) 1).trans rfl
   clear hS7
   go_wp2_with fail
   clear c2 f2 l2
   have HFa := Lib.hid (HF7.out.alloc (.cells #[.string (textP s4).1] 9))
   have HRa := Lib.hid (blk_alloc HR7.out (.cells #[.string (textP s4).1] 9))
   have HSa := Lib.hid (blk_alloc HS7.out (.cells #[.string (textP s4).1] 9))
   have HVa : Hid (RS (w7.alloc (.cells #[.string (textP s4).1] 9)) w.heap.size (.slice (some ⟨w7.heap.size, 0, none⟩) 1 1) [(textP s4).1]) := rs_lit w7 w.heap.size [(textP s4).1] HF7.out.grown.size (by simp)
   have HF8 := Lib.hid (HFa.out.set (Nat.le_of_lt hS) HSa.out (by decide) (by decide) 3 (.slice (some ⟨w7.heap.size, 0, none⟩) 1 1))
   have HR8 := Lib.hid (blk_far HRa.out (p := ⟨S, 3, none⟩) (Nat.ne_of_lt hS) (.slice (some ⟨w7.heap.size, 0, none⟩) 1 1))
   have HS8 : Hid (((w7.alloc (.cells #[.string (textP s4).1] 9)).setCell ⟨S, 3, none⟩ (.slice (some ⟨w7.heap.size, 0, none⟩) 1 1)).heap[S]? = some (.cells #[.string a, .int .i64 op, .slice none 0 0, .slice (some ⟨w7.heap.size, 0, none⟩) 1 1, .int .i64 0] 62 (0, 0))) := blk_put HSa.out 3 _ rfl
   have HB8 := Lib.hid (Kd.R_set HVa.out HSa.out (by decide) 3 (.slice (some ⟨w7.heap.size, 0, none⟩) 1 1))
   clear HFa HRa HSa HVa HF7 HR7 HS7
   generalize (w7.alloc (.cells #[.string (textP s4).1] 9)).setCell ⟨S, 3, none⟩ (.slice (some ⟨w7.heap.size, 0, none⟩) 1 1) = w8 at HF8 HR8 HS8 HB8 ⊢
   generalize (some (⟨w7.heap.size, 0, none⟩ : Addr)) = A3 at HS8 HB8 ⊢
   refine (qwant_par g 3 (by decide) semi (textP s4).2 w8 HF8.out.par).mono ?_
   rintro e w9 ⟨rfl, hp9, hg9⟩
   have HF9 := Lib.hid (HF8.out.call hp9 hg9)
   have HR9 := Lib.hid (HF8.out.keeps (Nat.le_refl _) HR8.out hg9)
   have HS9 := Lib.hid (HF8.out.keeps (Nat.le_of_lt hS) HS8.out hg9)
   have HB9 := Lib.hid (row_keep HB8.out hg9 HL.out)
   clear hp9 hg9 HF8 HR8 HS8 HB8
   have hSe := HS9.out
   have k0 : w9.cell? ⟨S, 0, none⟩ = some (.string a) := (blk_cell hSe 0).trans rfl
   have k1 : w9.cell? ⟨S, 1, none⟩ = some (.int .i64 op) := (blk_cell hSe 1).trans rfl
   have k2 : w9.cell? ⟨S, 2, none⟩ = some (.slice none 0 0) := (blk_cell hSe 2).trans rfl
   have k3 : w9.cell? ⟨S, 3, none⟩ = some (.slice A3 1 1) := (blk_cell hSe 3).trans rfl
   have k4 : w9.cell? ⟨S, 4, none⟩ = some (.int .i64 0) := (blk_cell hSe 4).trans rfl
   have hRe := HR9.out
   have r0 : w9.cell? ⟨w.heap.size, 0, none⟩ = some (.string ⟨#[]⟩) := (blk_cell hRe 0).trans rfl
   have q0 := blk_frozen hRe 0
   have r1 : w9.cell? ⟨w.heap.size, 1, none⟩ = some (.int .i64 0) := (blk_cell hRe 1).trans rfl
   have q1 := blk_frozen hRe 1
   have r2 : w9.cell? ⟨w.heap.size, 2, none⟩ = some (.slice none 0 0) := (blk_cell hRe 2).trans rfl
   have q2 := blk_frozen hRe 2
   have r3 : w9.cell? ⟨w.heap.size, 3, none⟩ = some (.slice none 0 0) := (blk_cell hRe 3).trans rfl
   have q3 := blk_frozen hRe 3
   have r4 : w9.cell? ⟨w.heap.size, 4, none⟩ = some (.int .i64 0) := (blk_cell hRe 4).trans rfl
   have q4 := blk_frozen hRe 4
   clear hSe hRe
   go_wp2
   have hs := set5_blk (.string a) (.int .i64 op) (.slice none 0 0) (.slice A3 1 1) (.int .i64 0) HR9.out
   have hF := HF9.out.set5 (Nat.le_refl _) (.string a) (.int .i64 op) (.slice none 0 0) (.slice A3 1 1) (.int .i64 0) HR9.out (by decide) (by decide)
   have hA := RS.set5 (Kd.R_nil _ _ _ _ _ : RS w9 w.heap.size (.slice none 0 0) []) (.string a) (.int .i64 op) (.slice none 0 0) (.slice A3 1 1) (.int .i64 0) HR9.out (by decide)
   have hB := RS.set5 HB9.out (.string a) (.int .i64 op) (.slice none 0 0) (.slice A3 1 1) (.int .i64 0) HR9.out (by decide)
   clear k0 k1 k2 k3 k4 r0 r1 r2 r3 r4 q0 q1 q2 q3 q4
   unfold set5 at hs hF hA hB
   generalize ((((w9.setCell ⟨w.heap.size, 0, none⟩ (.string a)).setCell ⟨w.heap.size, 1, none⟩ (.int .i64 op)).setCell ⟨w.heap.size, 2, none⟩ (.slice none 0 0)).setCell ⟨w.heap.size, 3, none⟩ (.slice A3 1 1)).setCell ⟨w.heap.size, 4, none⟩ (.int .i64 0) = wE at hs hF hA hB ⊢
   have g0 := (blk_cell hs 0).trans rfl
   have g1 := (blk_cell hs 1).trans rfl
   have g2 := (blk_cell hs 2).trans rfl
   have g3 := (blk_cell hs 3).trans rfl
   have g4 := (blk_cell hs 4).trans rfl
   exact bodyPost_ret (v := .agg #[.string a, .int .i64 op, .slice none 0 0, .slice A3 1 1, .int .i64 0]) (by simp [results, Tryz.results121, go_sem, g0, g1, g2, g3, g4]) rfl (by
    rw [HT2.out]
    exact ⟨_, _, rfl, hA, hB, hF.par, hF.grown⟩)
 by_cases o7 : op = 7
 · have hT2 : stepR s = (⟨a, op, [(nameP (textP s4).2).1], [(textP s4).1], 0⟩, mustP 3 semi (nameP (textP s4).2).2) := by
    rw [HT.out, if_neg (fun h => by have := h.1; omega)]
    unfold argP litsP
    simp [o7]
   have HT2 := Lib.hid hT2
   have e5 : (op == 5) = false := by simp only [o7]; decide
   have e6 : (op == 6) = false := by simp only [o7]; decide
   have e7 : (op == 7) = true := by simp only [o7]; decide
   have e8 : (op == 8) = false := by simp only [o7]; decide
   have e9 : (op == 9) = false := by simp only [o7]; decide
   have n5 : (op != 5) = true := by simp only [o7]; decide
   have n6 : (op != 6) = true := by simp only [o7]; decide
   clear hT2 HT o5 o6 o7
   go_wp2_with fail
   have HF6 := Lib.hid (HF5.out.set (Nat.le_of_lt hS) HS5.out (by decide) (by decide) 1 (.int .i64 op))
   have HR6 := Lib.hid (blk_far HR5.out (p := ⟨S, 1, none⟩) (Nat.ne_of_lt hS) (.int .i64 op))
   have HS6 : Hid ((w5.setCell ⟨S, 1, none⟩ (.int .i64 op)).heap[S]? = some (.cells #[.string a, .int .i64 op, .slice none 0 0, .slice none 0 0, .int .i64 0] 62 (0, 0))) := blk_put HS5.out 1 _ rfl
   generalize w5.setCell ⟨S, 1, none⟩ (.int .i64 op) = w6 at HF6 HR6 HS6 ⊢
   clear HF5 HR5 HS5 c1 f1 l1
   refine (qstr_calls g s4 w6 HF6.out.par).mono ?_
   rintro e w7 ⟨rfl, hp7, hg7⟩
   have HF7 := Lib.hid (HF6.out.call hp7 hg7)
   have HR7 := Lib.hid (HF6.out.keeps (Nat.le_refl _) HR6.out hg7)
   have HS7 := Lib.hid (HF6.out.keeps (Nat.le_of_lt hS) HS6.out hg7)
   clear hp7 hg7 HF6 HR6 HS6
   have hS7 := HS7.out
   have c2 : ∀ ob : Obj, (w7.alloc ob).cell? ⟨S, 3, none⟩ = some (.slice none 0 0) := fun ob => (blk_cell (blk_alloc hS7 ob) 3).trans rfl
   have f2 : ∀ ob : Obj, (w7.alloc ob).frozen? ⟨S, 3, none⟩ = false := fun ob => blk_frozen (blk_alloc hS7 ob) 3
   have l2 : ∀ (ob : Obj) (v : Value), ((w7.alloc ob).setCell ⟨S, 3, none⟩ v).cell? ⟨S, 1, none⟩ = some (.int .i64 op) := fun ob v => (blk_cell (blk_set (blk_alloc hS7 ob) 3 v) 1).trans rfl
   clear hS7
   go_wp2_with fail
   clear c2 f2 l2
   have HFa := Lib.hid (HF7.out.alloc (.cells #[.string (textP s4).1] 9))
   have HRa := Lib.hid (blk_alloc HR7.out (.cells #[.string (textP s4).1] 9))
   have HSa := Lib.hid (blk_alloc HS7.out (.cells #[.string (textP s4).1] 9))
   have HVa : Hid (RS (w7.alloc (.cells #[.string (textP s4).1] 9)) w.heap.size (.slice (some ⟨w7.heap.size, 0, none⟩) 1 1) [(textP s4).1]) := rs_lit w7 w.heap.size [(textP s4).1] HF7.out.grown.size (by simp)
   have HF8 := Lib.hid (HFa.out.set (Nat.le_of_lt hS) HSa.out (by decide) (by decide) 3 (.slice (some ⟨w7.heap.size, 0, none⟩) 1 1))
   have HR8 := Lib.hid (blk_far HRa.out (p := ⟨S, 3, none⟩) (Nat.ne_of_lt hS) (.slice (some ⟨w7.heap.size, 0, none⟩) 1 1))
   have HS8 : Hid (((w7.alloc (.cells #[.string (textP s4).1] 9)).setCell ⟨S, 3, none⟩ (.slice (some ⟨w7.heap.size, 0, none⟩) 1 1)).heap[S]? = some (.cells #[.string a, .int .i64 op, .slice none 0 0, .slice (some ⟨w7.heap.size, 0, none⟩) 1 1, .int .i64 0] 62 (0, 0))) := blk_put HSa.out 3 _ rfl
   have HB8 := Lib.hid (Kd.R_set HVa.out HSa.out (by decide) 3 (.slice (some ⟨w7.heap.size, 0, none⟩) 1 1))
   clear HFa HRa HSa HVa HF7 HR7 HS7
   generalize (w7.alloc (.cells #[.string (textP s4).1] 9)).setCell ⟨S, 3, none⟩ (.slice (some ⟨w7.heap.size, 0, none⟩) 1 1) = w8 at HF8 HR8 HS8 HB8 ⊢
   generalize (some (⟨w7.heap.size, 0, none⟩ : Addr)) = A3 at HS8 HB8 ⊢
   refine (qname_calls g (textP s4).2 w8 HF8.out.par).mono ?_
   rintro e w9 ⟨rfl, hp9, hg9⟩
   have HF9 := Lib.hid (HF8.out.call hp9 hg9)
   have HR9 := Lib.hid (HF8.out.keeps (Nat.le_refl _) HR8.out hg9)
   have HS9 := Lib.hid (HF8.out.keeps (Nat.le_of_lt hS) HS8.out hg9)
   have HB9 := Lib.hid (row_keep HB8.out hg9 HL.out)
   clear hp9 hg9 HF8 HR8 HS8 HB8
   have hS9 := HS9.out
   have c2 : ∀ ob : Obj, (w9.alloc ob).cell? ⟨S, 2, none⟩ = some (.slice none 0 0) := fun ob => (blk_cell (blk_alloc hS9 ob) 2).trans rfl
   have f2 : ∀ ob : Obj, (w9.alloc ob).frozen? ⟨S, 2, none⟩ = false := fun ob => blk_frozen (blk_alloc hS9 ob) 2
   have l2 : ∀ (ob : Obj) (v : Value), ((w9.alloc ob).setCell ⟨S, 2, none⟩ v).cell? ⟨S, 1, none⟩ = some (.int .i64 op) := fun ob v => (blk_cell (blk_set (blk_alloc hS9 ob) 2 v) 1).trans rfl
   clear hS9
   go_wp2_with fail
   clear c2 f2 l2
   have HFa := Lib.hid (HF9.out.alloc (.cells #[.string (nameP (textP s4).2).1] 9))
   have HRa := Lib.hid (blk_alloc HR9.out (.cells #[.string (nameP (textP s4).2).1] 9))
   have HSa := Lib.hid (blk_alloc HS9.out (.cells #[.string (nameP (textP s4).2).1] 9))
   have HVa : Hid (RS (w9.alloc (.cells #[.string (nameP (textP s4).2).1] 9)) w.heap.size (.slice (some ⟨w9.heap.size, 0, none⟩) 1 1) [(nameP (textP s4).2).1]) := rs_lit w9 w.heap.size [(nameP (textP s4).2).1] HF9.out.grown.size (by simp)
   have HF10 := Lib.hid (HFa.out.set (Nat.le_of_lt hS) HSa.out (by decide) (by decide) 2 (.slice (some ⟨w9.heap.size, 0, none⟩) 1 1))
   have HR10 := Lib.hid (blk_far HRa.out (p := ⟨S, 2, none⟩) (Nat.ne_of_lt hS) (.slice (some ⟨w9.heap.size, 0, none⟩) 1 1))
   have HS10 : Hid (((w9.alloc (.cells #[.string (nameP (textP s4).2).1] 9)).setCell ⟨S, 2, none⟩ (.slice (some ⟨w9.heap.size, 0, none⟩) 1 1)).heap[S]? = some (.cells #[.string a, .int .i64 op, .slice (some ⟨w9.heap.size, 0, none⟩) 1 1, .slice A3 1 1, .int .i64 0] 62 (0, 0))) := blk_put HSa.out 2 _ rfl
   have HA10 := Lib.hid (Kd.R_set HVa.out HSa.out (by decide) 2 (.slice (some ⟨w9.heap.size, 0, none⟩) 1 1))
   have HB10 := Lib.hid (Kd.R_set (Kd.R_alloc HB9.out (.cells #[.string (nameP (textP s4).2).1] 9)) HSa.out (by decide) 2 (.slice (some ⟨w9.heap.size, 0, none⟩) 1 1))
   clear HFa HRa HSa HVa HF9 HR9 HS9 HB9
   generalize (w9.alloc (.cells #[.string (nameP (textP s4).2).1] 9)).setCell ⟨S, 2, none⟩ (.slice (some ⟨w9.heap.size, 0, none⟩) 1 1) = w10 at HF10 HR10 HS10 HB10 HA10 ⊢
   generalize (some (⟨w9.heap.size, 0, none⟩ : Addr)) = A2 at HS10 HA10 ⊢
   refine (qwant_par g 3 (by decide) semi (nameP (textP s4).2).2 w10 HF10.out.par).mono ?_
   rintro e w11 ⟨rfl, hp11, hg11⟩
   have HF11 := Lib.hid (HF10.out.call hp11 hg11)
   have HR11 := Lib.hid (HF10.out.keeps (Nat.le_refl _) HR10.out hg11)
   have HS11 := Lib.hid (HF10.out.keeps (Nat.le_of_lt hS) HS10.out hg11)
   have HB11 := Lib.hid (row_keep HB10.out hg11 HL.out)
   have HA11 := Lib.hid (row_keep HA10.out hg11 HL.out)
   clear hp11 hg11 HF10 HR10 HS10 HB10 HA10
   have hSe := HS11.out
   have k0 : w11.cell? ⟨S, 0, none⟩ = some (.string a) := (blk_cell hSe 0).trans rfl
   have k1 : w11.cell? ⟨S, 1, none⟩ = some (.int .i64 op) := (blk_cell hSe 1).trans rfl
   have k2 : w11.cell? ⟨S, 2, none⟩ = some (.slice A2 1 1) := (blk_cell hSe 2).trans rfl
   have k3 : w11.cell? ⟨S, 3, none⟩ = some (.slice A3 1 1) := (blk_cell hSe 3).trans rfl
   have k4 : w11.cell? ⟨S, 4, none⟩ = some (.int .i64 0) := (blk_cell hSe 4).trans rfl
   have hRe := HR11.out
   have r0 : w11.cell? ⟨w.heap.size, 0, none⟩ = some (.string ⟨#[]⟩) := (blk_cell hRe 0).trans rfl
   have q0 := blk_frozen hRe 0
   have r1 : w11.cell? ⟨w.heap.size, 1, none⟩ = some (.int .i64 0) := (blk_cell hRe 1).trans rfl
   have q1 := blk_frozen hRe 1
   have r2 : w11.cell? ⟨w.heap.size, 2, none⟩ = some (.slice none 0 0) := (blk_cell hRe 2).trans rfl
   have q2 := blk_frozen hRe 2
   have r3 : w11.cell? ⟨w.heap.size, 3, none⟩ = some (.slice none 0 0) := (blk_cell hRe 3).trans rfl
   have q3 := blk_frozen hRe 3
   have r4 : w11.cell? ⟨w.heap.size, 4, none⟩ = some (.int .i64 0) := (blk_cell hRe 4).trans rfl
   have q4 := blk_frozen hRe 4
   clear hSe hRe
   go_wp2
   have hs := set5_blk (.string a) (.int .i64 op) (.slice A2 1 1) (.slice A3 1 1) (.int .i64 0) HR11.out
   have hF := HF11.out.set5 (Nat.le_refl _) (.string a) (.int .i64 op) (.slice A2 1 1) (.slice A3 1 1) (.int .i64 0) HR11.out (by decide) (by decide)
   have hA := RS.set5 HA11.out (.string a) (.int .i64 op) (.slice A2 1 1) (.slice A3 1 1) (.int .i64 0) HR11.out (by decide)
   have hB := RS.set5 HB11.out (.string a) (.int .i64 op) (.slice A2 1 1) (.slice A3 1 1) (.int .i64 0) HR11.out (by decide)
   clear k0 k1 k2 k3 k4 r0 r1 r2 r3 r4 q0 q1 q2 q3 q4
   unfold set5 at hs hF hA hB
   generalize ((((w11.setCell ⟨w.heap.size, 0, none⟩ (.string a)).setCell ⟨w.heap.size, 1, none⟩ (.int .i64 op)).setCell ⟨w.heap.size, 2, none⟩ (.slice A2 1 1)).setCell ⟨w.heap.size, 3, none⟩ (.slice A3 1 1)).setCell ⟨w.heap.size, 4, none⟩ (.int .i64 0) = wE at hs hF hA hB ⊢
   have g0 := (blk_cell hs 0).trans rfl
   have g1 := (blk_cell hs 1).trans rfl
   have g2 := (blk_cell hs 2).trans rfl
   have g3 := (blk_cell hs 3).trans rfl
   have g4 := (blk_cell hs 4).trans rfl
   exact bodyPost_ret (v := .agg #[.string a, .int .i64 op, .slice A2 1 1, .slice A3 1 1, .int .i64 0]) (by simp [results, Tryz.results121, go_sem, g0, g1, g2, g3, g4]) rfl (by
    rw [HT2.out]
    exact ⟨_, _, rfl, hA, hB, hF.par, hF.grown⟩)
 by_cases o8 : op = 8
 · have hT2 : stepR s = (⟨a, op, [(nameP (textP (textP s4).2).2).1], [(textP s4).1, (textP (textP s4).2).1], 0⟩, mustP 3 semi (nameP (textP (textP s4).2).2).2) := by
    rw [HT.out, if_neg (fun h => by have := h.1; omega)]
    unfold argP litsP
    simp [o8]
   have HT2 := Lib.hid hT2
   have e5 : (op == 5) = false := by simp only [o8]; decide
   have e6 : (op == 6) = false := by simp only [o8]; decide
   have e7 : (op == 7) = false := by simp only [o8]; decide
   have e8 : (op == 8) = true := by simp only [o8]; decide
   have e9 : (op == 9) = false := by simp only [o8]; decide
   have n5 : (op != 5) = true := by simp only [o8]; decide
   have n6 : (op != 6) = true := by simp only [o8]; decide
   clear hT2 HT o5 o6 o7 o8
   go_wp2_with fail
   have HF6 := Lib.hid (HF5.out.set (Nat.le_of_lt hS) HS5.out (by decide) (by decide) 1 (.int .i64 op))
   have HR6 := Lib.hid (blk_far HR5.out (p := ⟨S, 1, none⟩) (Nat.ne_of_lt hS) (.int .i64 op))
   have HS6 : Hid ((w5.setCell ⟨S, 1, none⟩ (.int .i64 op)).heap[S]? = some (.cells #[.string a, .int .i64 op, .slice none 0 0, .slice none 0 0, .int .i64 0] 62 (0, 0))) := blk_put HS5.out 1 _ rfl
   generalize w5.setCell ⟨S, 1, none⟩ (.int .i64 op) = w6 at HF6 HR6 HS6 ⊢
   clear HF5 HR5 HS5 c1 f1 l1
   refine (qstr_calls g s4 w6 HF6.out.par).mono ?_
   rintro e w7 ⟨rfl, hp7, hg7⟩
   have HF7 := Lib.hid (HF6.out.call hp7 hg7)
   have HR7 := Lib.hid (HF6.out.keeps (Nat.le_refl _) HR6.out hg7)
   have HS7 := Lib.hid (HF6.out.keeps (Nat.le_of_lt hS) HS6.out hg7)
   clear hp7 hg7 HF6 HR6 HS6
   go_wp2_with fail
   refine (qstr_calls g (textP s4).2 w7 HF7.out.par).mono ?_
   rintro e w8 ⟨rfl, hp8, hg8⟩
   have HF8 := Lib.hid (HF7.out.call hp8 hg8)
   have HR8 := Lib.hid (HF7.out.keeps (Nat.le_refl _) HR7.out hg8)
   have HS8 := Lib.hid (HF7.out.keeps (Nat.le_of_lt hS) HS7.out hg8)
   clear hp8 hg8 HF7 HR7 HS7
   have hS8 := HS8.out
   have c2 : ∀ ob : Obj, (w8.alloc ob).cell? ⟨S, 3, none⟩ = some (.slice none 0 0) := fun ob => (blk_cell (blk_alloc hS8 ob) 3).trans rfl
   have f2 : ∀ ob : Obj, (w8.alloc ob).frozen? ⟨S, 3, none⟩ = false := fun ob => blk_frozen (blk_alloc hS8 ob) 3
   have l2 : ∀ (ob : Obj) (v : Value), ((w8.alloc ob).setCell ⟨S, 3, none⟩ v).cell? ⟨S, 1, none⟩ = some (.int .i64 op) := fun ob v => (blk_cell (blk_set (blk_alloc hS8 ob) 3 v) 1).trans rfl
   clear hS8
   go_wp2_with fail
   clear c2 f2 l2
   have HFa := Lib.hid (HF8.out.alloc (.cells #[.string (textP s4).1, .string (textP (textP s4).2).1] 9))
   have HRa := Lib.hid (blk_alloc HR8.out (.cells #[.string (textP s4).1, .string (textP (textP s4).2).1] 9))
   have HSa := Lib.hid (blk_alloc HS8.out (.cells #[.string (textP s4).1, .string (textP (textP s4).2).1] 9))
   have HVa : Hid (RS (w8.alloc (.cells #[.string (textP s4).1, .string (textP (textP s4).2).1] 9)) w.heap.size (.slice (some ⟨w8.heap.size, 0, none⟩) 2 2) [(textP s4).1, (textP (textP s4).2).1]) := rs_lit w8 w.heap.size [(textP s4).1, (textP (textP s4).2).1] HF8.out.grown.size (by simp)
   have HF9 := Lib.hid (HFa.out.set (Nat.le_of_lt hS) HSa.out (by decide) (by decide) 3 (.slice (some ⟨w8.heap.size, 0, none⟩) 2 2))
   have HR9 := Lib.hid (blk_far HRa.out (p := ⟨S, 3, none⟩) (Nat.ne_of_lt hS) (.slice (some ⟨w8.heap.size, 0, none⟩) 2 2))
   have HS9 : Hid (((w8.alloc (.cells #[.string (textP s4).1, .string (textP (textP s4).2).1] 9)).setCell ⟨S, 3, none⟩ (.slice (some ⟨w8.heap.size, 0, none⟩) 2 2)).heap[S]? = some (.cells #[.string a, .int .i64 op, .slice none 0 0, .slice (some ⟨w8.heap.size, 0, none⟩) 2 2, .int .i64 0] 62 (0, 0))) := blk_put HSa.out 3 _ rfl
   have HB9 := Lib.hid (Kd.R_set HVa.out HSa.out (by decide) 3 (.slice (some ⟨w8.heap.size, 0, none⟩) 2 2))
   clear HFa HRa HSa HVa HF8 HR8 HS8
   generalize (w8.alloc (.cells #[.string (textP s4).1, .string (textP (textP s4).2).1] 9)).setCell ⟨S, 3, none⟩ (.slice (some ⟨w8.heap.size, 0, none⟩) 2 2) = w9 at HF9 HR9 HS9 HB9 ⊢
   generalize (some (⟨w8.heap.size, 0, none⟩ : Addr)) = A3 at HS9 HB9 ⊢
   refine (qname_calls g (textP (textP s4).2).2 w9 HF9.out.par).mono ?_
   rintro e w10 ⟨rfl, hp10, hg10⟩
   have HF10 := Lib.hid (HF9.out.call hp10 hg10)
   have HR10 := Lib.hid (HF9.out.keeps (Nat.le_refl _) HR9.out hg10)
   have HS10 := Lib.hid (HF9.out.keeps (Nat.le_of_lt hS) HS9.out hg10)
   have HB10 := Lib.hid (row_keep HB9.out hg10 HL.out)
   clear hp10 hg10 HF9 HR9 HS9 HB9
   have hS10 := HS10.out
   have c2 : ∀ ob : Obj, (w10.alloc ob).cell? ⟨S, 2, none⟩ = some (.slice none 0 0) := fun ob => (blk_cell (blk_alloc hS10 ob) 2).trans rfl
   have f2 : ∀ ob : Obj, (w10.alloc ob).frozen? ⟨S, 2, none⟩ = false := fun ob => blk_frozen (blk_alloc hS10 ob) 2
   have l2 : ∀ (ob : Obj) (v : Value), ((w10.alloc ob).setCell ⟨S, 2, none⟩ v).cell? ⟨S, 1, none⟩ = some (.int .i64 op) := fun ob v => (blk_cell (blk_set (blk_alloc hS10 ob) 2 v) 1).trans rfl
   clear hS10
   go_wp2_with fail
   clear c2 f2 l2
   have HFa := Lib.hid (HF10.out.alloc (.cells #[.string (nameP (textP (textP s4).2).2).1] 9))
   have HRa := Lib.hid (blk_alloc HR10.out (.cells #[.string (nameP (textP (textP s4).2).2).1] 9))
   have HSa := Lib.hid (blk_alloc HS10.out (.cells #[.string (nameP (textP (textP s4).2).2).1] 9))
   have HVa : Hid (RS (w10.alloc (.cells #[.string (nameP (textP (textP s4).2).2).1] 9)) w.heap.size (.slice (some ⟨w10.heap.size, 0, none⟩) 1 1) [(nameP (textP (textP s4).2).2).1]) := rs_lit w10 w.heap.size [(nameP (textP (textP s4).2).2).1] HF10.out.grown.size (by simp)
   have HF11 := Lib.hid (HFa.out.set (Nat.le_of_lt hS) HSa.out (by decide) (by decide) 2 (.slice (some ⟨w10.heap.size, 0, none⟩) 1 1))
   have HR11 := Lib.hid (blk_far HRa.out (p := ⟨S, 2, none⟩) (Nat.ne_of_lt hS) (.slice (some ⟨w10.heap.size, 0, none⟩) 1 1))
   have HS11 : Hid (((w10.alloc (.cells #[.string (nameP (textP (textP s4).2).2).1] 9)).setCell ⟨S, 2, none⟩ (.slice (some ⟨w10.heap.size, 0, none⟩) 1 1)).heap[S]? = some (.cells #[.string a, .int .i64 op, .slice (some ⟨w10.heap.size, 0, none⟩) 1 1, .slice A3 2 2, .int .i64 0] 62 (0, 0))) := blk_put HSa.out 2 _ rfl
   have HA11 := Lib.hid (Kd.R_set HVa.out HSa.out (by decide) 2 (.slice (some ⟨w10.heap.size, 0, none⟩) 1 1))
   have HB11 := Lib.hid (Kd.R_set (Kd.R_alloc HB10.out (.cells #[.string (nameP (textP (textP s4).2).2).1] 9)) HSa.out (by decide) 2 (.slice (some ⟨w10.heap.size, 0, none⟩) 1 1))
   clear HFa HRa HSa HVa HF10 HR10 HS10 HB10
   generalize (w10.alloc (.cells #[.string (nameP (textP (textP s4).2).2).1] 9)).setCell ⟨S, 2, none⟩ (.slice (some ⟨w10.heap.size, 0, none⟩) 1 1) = w11 at HF11 HR11 HS11 HB11 HA11 ⊢
   generalize (some (⟨w10.heap.size, 0, none⟩ : Addr)) = A2 at HS11 HA11 ⊢
   refine (qwant_par g 3 (by decide) semi (nameP (textP (textP s4).2).2).2 w11 HF11.out.par).mono ?_
   rintro e w12 ⟨rfl, hp12, hg12⟩
   have HF12 := Lib.hid (HF11.out.call hp12 hg12)
   have HR12 := Lib.hid (HF11.out.keeps (Nat.le_refl _) HR11.out hg12)
   have HS12 := Lib.hid (HF11.out.keeps (Nat.le_of_lt hS) HS11.out hg12)
   have HB12 := Lib.hid (row_keep HB11.out hg12 HL.out)
   have HA12 := Lib.hid (row_keep HA11.out hg12 HL.out)
   clear hp12 hg12 HF11 HR11 HS11 HB11 HA11
   have hSe := HS12.out
   have k0 : w12.cell? ⟨S, 0, none⟩ = some (.string a) := (blk_cell hSe 0).trans rfl
   have k1 : w12.cell? ⟨S, 1, none⟩ = some (.int .i64 op) := (blk_cell hSe 1).trans rfl
   have k2 : w12.cell? ⟨S, 2, none⟩ = some (.slice A2 1 1) := (blk_cell hSe 2).trans rfl
   have k3 : w12.cell? ⟨S, 3, none⟩ = some (.slice A3 2 2) := (blk_cell hSe 3).trans rfl
   have k4 : w12.cell? ⟨S, 4, none⟩ = some (.int .i64 0) := (blk_cell hSe 4).trans rfl
   have hRe := HR12.out
   have r0 : w12.cell? ⟨w.heap.size, 0, none⟩ = some (.string ⟨#[]⟩) := (blk_cell hRe 0).trans rfl
   have q0 := blk_frozen hRe 0
   have r1 : w12.cell? ⟨w.heap.size, 1, none⟩ = some (.int .i64 0) := (blk_cell hRe 1).trans rfl
   have q1 := blk_frozen hRe 1
   have r2 : w12.cell? ⟨w.heap.size, 2, none⟩ = some (.slice none 0 0) := (blk_cell hRe 2).trans rfl
   have q2 := blk_frozen hRe 2
   have r3 : w12.cell? ⟨w.heap.size, 3, none⟩ = some (.slice none 0 0) := (blk_cell hRe 3).trans rfl
   have q3 := blk_frozen hRe 3
   have r4 : w12.cell? ⟨w.heap.size, 4, none⟩ = some (.int .i64 0) := (blk_cell hRe 4).trans rfl
   have q4 := blk_frozen hRe 4
   clear hSe hRe
   go_wp2
   have hs := set5_blk (.string a) (.int .i64 op) (.slice A2 1 1) (.slice A3 2 2) (.int .i64 0) HR12.out
   have hF := HF12.out.set5 (Nat.le_refl _) (.string a) (.int .i64 op) (.slice A2 1 1) (.slice A3 2 2) (.int .i64 0) HR12.out (by decide) (by decide)
   have hA := RS.set5 HA12.out (.string a) (.int .i64 op) (.slice A2 1 1) (.slice A3 2 2) (.int .i64 0) HR12.out (by decide)
   have hB := RS.set5 HB12.out (.string a) (.int .i64 op) (.slice A2 1 1) (.slice A3 2 2) (.int .i64 0) HR12.out (by decide)
   clear k0 k1 k2 k3 k4 r0 r1 r2 r3 r4 q0 q1 q2 q3 q4
   unfold set5 at hs hF hA hB
   generalize ((((w12.setCell ⟨w.heap.size, 0, none⟩ (.string a)).setCell ⟨w.heap.size, 1, none⟩ (.int .i64 op)).setCell ⟨w.heap.size, 2, none⟩ (.slice A2 1 1)).setCell ⟨w.heap.size, 3, none⟩ (.slice A3 2 2)).setCell ⟨w.heap.size, 4, none⟩ (.int .i64 0) = wE at hs hF hA hB ⊢
   have g0 := (blk_cell hs 0).trans rfl
   have g1 := (blk_cell hs 1).trans rfl
   have g2 := (blk_cell hs 2).trans rfl
   have g3 := (blk_cell hs 3).trans rfl
   have g4 := (blk_cell hs 4).trans rfl
   exact bodyPost_ret (v := .agg #[.string a, .int .i64 op, .slice A2 1 1, .slice A3 2 2, .int .i64 0]) (by simp [results, Tryz.results121, go_sem, g0, g1, g2, g3, g4]) rfl (by
    rw [HT2.out]
    exact ⟨_, _, rfl, hA, hB, hF.par, hF.grown⟩)
 by_cases o9 : op = 9
 · have HO9 := Lib.hid o9
   by_cases hgd : (headW s4.1).f0 = 1 ∧ numB (headW s4.1).f2 = true
   · have hT2 : stepR s = (⟨a, op, [(nameP (s4.1.tail, s4.2)).1], [], numV (headW s4.1).f2⟩, mustP 3 semi (nameP (s4.1.tail, s4.2)).2) := by
      rw [HT.out, if_neg (fun h => h.2 hgd)]
      unfold argP litsP
      have hm : nextP 1 numB s4 = ((headW s4.1).f2, (s4.1.tail, s4.2)) := nextP_yes (mayP_iff.2 ⟨HBs.out, hgd.1, hgd.2⟩)
      simp [o9, hm]
     have HT2 := Lib.hid hT2
     have e5 : (op == 5) = false := by simp only [o9]; decide
     have e6 : (op == 6) = false := by simp only [o9]; decide
     have e7 : (op == 7) = false := by simp only [o9]; decide
     have e8 : (op == 8) = false := by simp only [o9]; decide
     have e9 : (op == 9) = true := by simp only [o9]; decide
     have n5 : (op != 5) = true := by simp only [o9]; decide
     have n6 : (op != 6) = true := by simp only [o9]; decide
     clear hT2 HT o5 o6 o7 o8 o9
     have hkd : ((headW s4.1).f0 != 1) = false := by simpa using hgd.1
     have hnb := hgd.2
     have HK4 : Hid ((headW s4.1).f0 ≠ 4) := by show _ ≠ _; rw [hgd.1]; decide
     clear hgd HO9
     have HF6 := Lib.hid (HF5.out.set (Nat.le_of_lt hS) HS5.out (by decide) (by decide) 1 (.int .i64 op))
     have HR6 := Lib.hid (blk_far HR5.out (p := ⟨S, 1, none⟩) (Nat.ne_of_lt hS) (.int .i64 op))
     have HS6 : Hid ((w5.setCell ⟨S, 1, none⟩ (.int .i64 op)).heap[S]? = some (.cells #[.string a, .int .i64 op, .slice none 0 0, .slice none 0 0, .int .i64 0] 62 (0, 0))) := blk_put HS5.out 1 _ rfl
     obtain ⟨b, n_, c_, kk, cur, hq⟩ := HF6.out.par.has
     have h0 : (w5.setCell ⟨S, 1, none⟩ (.int .i64 op)).cell? ⟨g, 0, none⟩ = some (.slice (some ⟨b, 0, none⟩) n_ c_) := (blk_cell hq.own 0).trans rfl
     have h1 : (w5.setCell ⟨S, 1, none⟩ (.int .i64 op)).cell? ⟨g, 1, none⟩ = some (.int .i64 (kk : Nat)) := (blk_cell hq.own 1).trans rfl
     obtain ⟨k0, k1, k2⟩ := hq.first HF6.out.par.good.ne
     have hkn := word_take hq HF6.out.par.good.ne
     have hkz : (kk : Int) < (n_ : Int) := by omega
     have hkb : (kk : Int) ≤ 200000 := by have := hq.big; omega
     clear hq hkn
     go_wp2_with fail
     generalize w5.setCell ⟨S, 1, none⟩ (.int .i64 op) = w6 at HF6 HR6 HS6 h0 h1 k0 k1 k2 ⊢
     clear HF5 HR5 HS5 c1 f1 l1
     have hGN : ∀ n : Nat, Calls Tryz.prog 150 #[.string (headW s4.1).f2, .int .i64 2000] (w6.drewN n) fun e w' => e = .returned (.tuple #[.int .i64 (numV (headW s4.1).f2), .bool (numB (headW s4.1).f2)]) ∧ ∃ m, w' = (w6.drewN n).drewN m := fun n => qnum_quiet _ (good_size HF6.out.par.good) _ (HF6.out.par.gk.below (bdq (Below.refl _ _) n))
     rw [hnb] at hGN
     have HGN2 := Lib.hid hGN
     clear hnb hGN
     go_quiet ((go_at_call 150; exact Calls.quiet_of (HGN2.out _)))
     have HF7 := Lib.hid (HF6.out.below (bdq (Below.refl w6.heap.size w6) nq))
     have HR7 := Lib.hid (blk_drewN HR6.out nq)
     have HS7 := Lib.hid (blk_drewN HS6.out nq)
     replace h0 : (w6.drewN nq).cell? ⟨g, 0, none⟩ = some (.slice (some ⟨b, 0, none⟩) n_ c_) := h0
     replace h1 : (w6.drewN nq).cell? ⟨g, 1, none⟩ = some (.int .i64 (kk : Nat)) := h1
     replace k0 : (w6.drewN nq).cell? ⟨b, kk * 3, none⟩ = some (.int .i64 (headW s4.1).f0) := k0
     clear k1 k2 HF6 HR6 HS6 HGN2
     generalize w6.drewN nq = w7 at HF7 HR7 HS7 h0 h1 k0 ⊢
     go_wp2_with fail
     go_quiet (fail)
     have HF8 := Lib.hid (HF7.out.below (bdq (Below.refl w7.heap.size w7) nq))
     have HR8 := Lib.hid (blk_drewN HR7.out nq)
     have HS8 := Lib.hid (blk_drewN HS7.out nq)
     clear h0 h1 k0 HF7 HR7 HS7 hkz hkb hkd
     generalize w7.drewN nq = w8 at HF8 HR8 HS8 ⊢
     generalize numV (headW s4.1).f2 = nn at HT2 ⊢
     have c2 : w8.cell? ⟨S, 4, none⟩ = some (.int .i64 0) := (blk_cell HS8.out 4).trans rfl
     have f2 : w8.frozen? ⟨S, 4, none⟩ = false := blk_frozen HS8.out 4
     have HF9 := Lib.hid (HF8.out.set (Nat.le_of_lt hS) HS8.out (by decide) (by decide) 4 (.int .i64 nn))
     have HR9 := Lib.hid (blk_far HR8.out (p := ⟨S, 4, none⟩) (Nat.ne_of_lt hS) (.int .i64 nn))
     have HS9 : Hid ((w8.setCell ⟨S, 4, none⟩ (.int .i64 nn)).heap[S]? = some (.cells #[.string a, .int .i64 op, .slice none 0 0, .slice none 0 0, .int .i64 nn] 62 (0, 0))) := blk_put HS8.out 4 _ rfl
     obtain ⟨b2, n2_, c2_, kk2, cur2, hq⟩ := HF9.out.par.has
     have h1 : (w8.setCell ⟨S, 4, none⟩ (.int .i64 nn)).cell? ⟨g, 1, none⟩ = some (.int .i64 (kk2 : Nat)) := (blk_cell hq.own 1).trans rfl
     have hf1 : (w8.setCell ⟨S, 4, none⟩ (.int .i64 nn)).frozen? ⟨g, 1, none⟩ = false := blk_frozen hq.own 1
     have hkb : (kk2 : Int) ≤ 200000 := by have := hq.at_; have := hq.big; omega
     have l3 : ((w8.setCell ⟨S, 4, none⟩ (.int .i64 nn)).setCell ⟨g, 1, none⟩ (.int .i64 ((kk2 : Int) + 1))).cell? ⟨S, 1, none⟩ = some (.int .i64 op) := (blk_cell (blk_far HS9.out (p := ⟨g, 1, none⟩) (Nat.ne_of_gt HGS.out) (.int .i64 ((kk2 : Int) + 1))) 1).trans rfl
     have HA := Lib.hid (HF9.out.par.adv HBs.out HK4.out hq)
     clear hq HF8 HR8 HS8
     go_wp2_with fail
     clear c2 f2 h1 hf1 l3
     generalize w8.setCell ⟨S, 4, none⟩ (.int .i64 nn) = w9 at HF9 HR9 HS9 HA ⊢
     have HF10 := Lib.hid (HF9.out.call HA.out.1 HA.out.2)
     have HR10 := Lib.hid (HF9.out.keeps (Nat.le_refl _) HR9.out HA.out.2)
     have HS10 := Lib.hid (HF9.out.keeps (Nat.le_of_lt hS) HS9.out HA.out.2)
     clear HA HF9 HR9 HS9
     generalize w9.setCell ⟨g, 1, none⟩ (.int .i64 ((kk2 : Int) + 1)) = w10 at HF10 HR10 HS10 ⊢
     refine (qname_calls g (s4.1.tail, s4.2) w10 HF10.out.par).mono ?_
     rintro e w11 ⟨rfl, hp11, hg11⟩
     have HF11 := Lib.hid (HF10.out.call hp11 hg11)
     have HR11 := Lib.hid (HF10.out.keeps (Nat.le_refl _) HR10.out hg11)
     have HS11 := Lib.hid (HF10.out.keeps (Nat.le_of_lt hS) HS10.out hg11)
     clear hp11 hg11 HF10 HR10 HS10
     have hS11 := HS11.out
     have c2 : ∀ ob : Obj, (w11.alloc ob).cell? ⟨S, 2, none⟩ = some (.slice none 0 0) := fun ob => (blk_cell (blk_alloc hS11 ob) 2).trans rfl
     have f2 : ∀ ob : Obj, (w11.alloc ob).frozen? ⟨S, 2, none⟩ = false := fun ob => blk_frozen (blk_alloc hS11 ob) 2
     have l2 : ∀ (ob : Obj) (v : Value), ((w11.alloc ob).setCell ⟨S, 2, none⟩ v).cell? ⟨S, 1, none⟩ = some (.int .i64 op) := fun ob v => (blk_cell (blk_set (blk_alloc hS11 ob) 2 v) 1).trans rfl
     clear hS11
     go_wp2_with fail
     clear c2 f2 l2
     have HFa := Lib.hid (HF11.out.alloc (.cells #[.string (nameP (s4.1.tail, s4.2)).1] 9))
     have HRa := Lib.hid (blk_alloc HR11.out (.cells #[.string (nameP (s4.1.tail, s4.2)).1] 9))
     have HSa := Lib.hid (blk_alloc HS11.out (.cells #[.string (nameP (s4.1.tail, s4.2)).1] 9))
     have HVa : Hid (RS (w11.alloc (.cells #[.string (nameP (s4.1.tail, s4.2)).1] 9)) w.heap.size (.slice (some ⟨w11.heap.size, 0, none⟩) 1 1) [(nameP (s4.1.tail, s4.2)).1]) := rs_lit w11 w.heap.size [(nameP (s4.1.tail, s4.2)).1] HF11.out.grown.size (by simp)
     have HF12 := Lib.hid (HFa.out.set (Nat.le_of_lt hS) HSa.out (by decide) (by decide) 2 (.slice (some ⟨w11.heap.size, 0, none⟩) 1 1))
     have HR12 := Lib.hid (blk_far HRa.out (p := ⟨S, 2, none⟩) (Nat.ne_of_lt hS) (.slice (some ⟨w11.heap.size, 0, none⟩) 1 1))
     have HS12 : Hid (((w11.alloc (.cells #[.string (nameP (s4.1.tail, s4.2)).1] 9)).setCell ⟨S, 2, none⟩ (.slice (some ⟨w11.heap.size, 0, none⟩) 1 1)).heap[S]? = some (.cells #[.string a, .int .i64 op, .slice (some ⟨w11.heap.size, 0, none⟩) 1 1, .slice none 0 0, .int .i64 nn] 62 (0, 0))) := blk_put HSa.out 2 _ rfl
     have HA12 := Lib.hid (Kd.R_set HVa.out HSa.out (by decide) 2 (.slice (some ⟨w11.heap.size, 0, none⟩) 1 1))
     clear HFa HRa HSa HVa HF11 HR11 HS11
     generalize (w11.alloc (.cells #[.string (nameP (s4.1.tail, s4.2)).1] 9)).setCell ⟨S, 2, none⟩ (.slice (some ⟨w11.heap.size, 0, none⟩) 1 1) = w12 at HF12 HR12 HS12 HA12 ⊢
     generalize (some (⟨w11.heap.size, 0, none⟩ : Addr)) = A2 at HS12 HA12 ⊢
     refine (qwant_par g 3 (by decide) semi (nameP (s4.1.tail, s4.2)).2 w12 HF12.out.par).mono ?_
     rintro e w13 ⟨rfl, hp13, hg13⟩
     have HF13 := Lib.hid (HF12.out.call hp13 hg13)
     have HR13 := Lib.hid (HF12.out.keeps (Nat.le_refl _) HR12.out hg13)
     have HS13 := Lib.hid (HF12.out.keeps (Nat.le_of_lt hS) HS12.out hg13)
     have HA13 := Lib.hid (row_keep HA12.out hg13 HL.out)
     clear hp13 hg13 HF12 HR12 HS12 HA12
     have hSe := HS13.out
     have k0 : w13.cell? ⟨S, 0, none⟩ = some (.string a) := (blk_cell hSe 0).trans rfl
     have k1 : w13.cell? ⟨S, 1, none⟩ = some (.int .i64 op) := (blk_cell hSe 1).trans rfl
     have k2 : w13.cell? ⟨S, 2, none⟩ = some (.slice A2 1 1) := (blk_cell hSe 2).trans rfl
     have k3 : w13.cell? ⟨S, 3, none⟩ = some (.slice none 0 0) := (blk_cell hSe 3).trans rfl
     have k4 : w13.cell? ⟨S, 4, none⟩ = some (.int .i64 nn) := (blk_cell hSe 4).trans rfl
     have hRe := HR13.out
     have r0 : w13.cell? ⟨w.heap.size, 0, none⟩ = some (.string ⟨#[]⟩) := (blk_cell hRe 0).trans rfl
     have q0 := blk_frozen hRe 0
     have r1 : w13.cell? ⟨w.heap.size, 1, none⟩ = some (.int .i64 0) := (blk_cell hRe 1).trans rfl
     have q1 := blk_frozen hRe 1
     have r2 : w13.cell? ⟨w.heap.size, 2, none⟩ = some (.slice none 0 0) := (blk_cell hRe 2).trans rfl
     have q2 := blk_frozen hRe 2
     have r3 : w13.cell? ⟨w.heap.size, 3, none⟩ = some (.slice none 0 0) := (blk_cell hRe 3).trans rfl
     have q3 := blk_frozen hRe 3
     have r4 : w13.cell? ⟨w.heap.size, 4, none⟩ = some (.int .i64 0) := (blk_cell hRe 4).trans rfl
     have q4 := blk_frozen hRe 4
     clear hSe hRe
     go_wp2
     have hs := set5_blk (.string a) (.int .i64 op) (.slice A2 1 1) (.slice none 0 0) (.int .i64 nn) HR13.out
     have hF := HF13.out.set5 (Nat.le_refl _) (.string a) (.int .i64 op) (.slice A2 1 1) (.slice none 0 0) (.int .i64 nn) HR13.out (by decide) (by decide)
     have hA := RS.set5 HA13.out (.string a) (.int .i64 op) (.slice A2 1 1) (.slice none 0 0) (.int .i64 nn) HR13.out (by decide)
     have hB := RS.set5 (Kd.R_nil _ _ _ _ _ : RS w13 w.heap.size (.slice none 0 0) []) (.string a) (.int .i64 op) (.slice A2 1 1) (.slice none 0 0) (.int .i64 nn) HR13.out (by decide)
     clear k0 k1 k2 k3 k4 r0 r1 r2 r3 r4 q0 q1 q2 q3 q4
     unfold set5 at hs hF hA hB
     generalize ((((w13.setCell ⟨w.heap.size, 0, none⟩ (.string a)).setCell ⟨w.heap.size, 1, none⟩ (.int .i64 op)).setCell ⟨w.heap.size, 2, none⟩ (.slice A2 1 1)).setCell ⟨w.heap.size, 3, none⟩ (.slice none 0 0)).setCell ⟨w.heap.size, 4, none⟩ (.int .i64 nn) = wE at hs hF hA hB ⊢
     have g0 := (blk_cell hs 0).trans rfl
     have g1 := (blk_cell hs 1).trans rfl
     have g2 := (blk_cell hs 2).trans rfl
     have g3 := (blk_cell hs 3).trans rfl
     have g4 := (blk_cell hs 4).trans rfl
     exact bodyPost_ret (v := .agg #[.string a, .int .i64 op, .slice A2 1 1, .slice none 0 0, .int .i64 nn]) (by simp [results, Tryz.results121, go_sem, g0, g1, g2, g3, g4]) rfl (by
      rw [HT2.out]
      exact ⟨_, _, rfl, hA, hB, hF.par, hF.grown⟩)
   have HT2 : Hid (stepR s = (⟨a, op, [], [], 0⟩, failsP s4)) := by show _ = _; rw [HT.out, if_pos ⟨o9, hgd⟩, o9]
   have e5 : (op == 5) = false := by simp only [o9]; decide
   have e6 : (op == 6) = false := by simp only [o9]; decide
   have e7 : (op == 7) = false := by simp only [o9]; decide
   have e8 : (op == 8) = false := by simp only [o9]; decide
   have e9 : (op == 9) = true := by simp only [o9]; decide
   clear HT o5 o6 o7 o8 o9 HO9
   by_cases hk : (headW s4.1).f0 = 1
   · have hkd : ((headW s4.1).f0 != 1) = false := by simpa using hk
     have hnb : numB (headW s4.1).f2 = false := by cases h : numB (headW s4.1).f2 with | false => rfl | true => exact absurd ⟨hk, h⟩ hgd
     clear hk hgd
     have HF6 := Lib.hid (HF5.out.set (Nat.le_of_lt hS) HS5.out (by decide) (by decide) 1 (.int .i64 op))
     have HR6 := Lib.hid (blk_far HR5.out (p := ⟨S, 1, none⟩) (Nat.ne_of_lt hS) (.int .i64 op))
     have HS6 : Hid ((w5.setCell ⟨S, 1, none⟩ (.int .i64 op)).heap[S]? = some (.cells #[.string a, .int .i64 op, .slice none 0 0, .slice none 0 0, .int .i64 0] 62 (0, 0))) := blk_put HS5.out 1 _ rfl
     obtain ⟨b, n_, c_, kk, cur, hq⟩ := HF6.out.par.has
     have h0 : (w5.setCell ⟨S, 1, none⟩ (.int .i64 op)).cell? ⟨g, 0, none⟩ = some (.slice (some ⟨b, 0, none⟩) n_ c_) := (blk_cell hq.own 0).trans rfl
     have h1 : (w5.setCell ⟨S, 1, none⟩ (.int .i64 op)).cell? ⟨g, 1, none⟩ = some (.int .i64 (kk : Nat)) := (blk_cell hq.own 1).trans rfl
     obtain ⟨k0, k1, k2⟩ := hq.first HF6.out.par.good.ne
     have hkn := word_take hq HF6.out.par.good.ne
     have hkz : (kk : Int) < (n_ : Int) := by omega
     have hkb : (kk : Int) ≤ 200000 := by have := hq.big; omega
     clear hq hkn
     go_wp2_with fail
     generalize w5.setCell ⟨S, 1, none⟩ (.int .i64 op) = w6 at HF6 HR6 HS6 h0 h1 k0 k1 k2 ⊢
     clear HF5 HR5 HS5 c1 f1 l1
     have hGN : ∀ n : Nat, Calls Tryz.prog 150 #[.string (headW s4.1).f2, .int .i64 2000] (w6.drewN n) fun e w' => e = .returned (.tuple #[.int .i64 (numV (headW s4.1).f2), .bool (numB (headW s4.1).f2)]) ∧ ∃ m, w' = (w6.drewN n).drewN m := fun n => qnum_quiet _ (good_size HF6.out.par.good) _ (HF6.out.par.gk.below (bdq (Below.refl _ _) n))
     rw [hnb] at hGN
     have HGN2 := Lib.hid hGN
     clear hGN hnb
     go_quiet ((go_at_call 150; exact Calls.quiet_of (HGN2.out _)))
     have HF7 := Lib.hid (HF6.out.below (bdq (Below.refl w6.heap.size w6) nq))
     have HR7 := Lib.hid (blk_drewN HR6.out nq)
     have HS7 := Lib.hid (blk_drewN HS6.out nq)
     replace h0 : (w6.drewN nq).cell? ⟨g, 0, none⟩ = some (.slice (some ⟨b, 0, none⟩) n_ c_) := h0
     replace h1 : (w6.drewN nq).cell? ⟨g, 1, none⟩ = some (.int .i64 (kk : Nat)) := h1
     replace k0 : (w6.drewN nq).cell? ⟨b, kk * 3, none⟩ = some (.int .i64 (headW s4.1).f0) := k0
     clear k1 k2 HF6 HR6 HS6 HGN2
     generalize w6.drewN nq = w7 at HF7 HR7 HS7 h0 h1 k0 ⊢
     go_wp2_with fail
     go_quiet (fail)
     have HF8 := Lib.hid (HF7.out.below (bdq (Below.refl w7.heap.size w7) nq))
     have HR8 := Lib.hid (blk_drewN HR7.out nq)
     have HS8 := Lib.hid (blk_drewN HS7.out nq)
     clear h0 h1 k0 HF7 HR7 HS7 hkz hkb hkd
     generalize w7.drewN nq = w8 at HF8 HR8 HS8 ⊢
     go_wp2_with fail
     refine (qfail_par g s4 w8 HF8.out.par).mono ?_
     rintro e w9 ⟨rfl, hp9, hg9⟩
     have HF9 := Lib.hid (HF8.out.call hp9 hg9)
     have HR9 := Lib.hid (HF8.out.keeps (Nat.le_refl _) HR8.out hg9)
     have HS9 := Lib.hid (HF8.out.keeps (Nat.le_of_lt hS) HS8.out hg9)
     clear hp9 hg9 HF8 HR8 HS8
     have hSe := HS9.out
     have k0 : w9.cell? ⟨S, 0, none⟩ = some (.string a) := (blk_cell hSe 0).trans rfl
     have k1 : w9.cell? ⟨S, 1, none⟩ = some (.int .i64 op) := (blk_cell hSe 1).trans rfl
     have k2 : w9.cell? ⟨S, 2, none⟩ = some (.slice none 0 0) := (blk_cell hSe 2).trans rfl
     have k3 : w9.cell? ⟨S, 3, none⟩ = some (.slice none 0 0) := (blk_cell hSe 3).trans rfl
     have k4 : w9.cell? ⟨S, 4, none⟩ = some (.int .i64 0) := (blk_cell hSe 4).trans rfl
     have hRe := HR9.out
     have r0 : w9.cell? ⟨w.heap.size, 0, none⟩ = some (.string ⟨#[]⟩) := (blk_cell hRe 0).trans rfl
     have q0 := blk_frozen hRe 0
     have r1 : w9.cell? ⟨w.heap.size, 1, none⟩ = some (.int .i64 0) := (blk_cell hRe 1).trans rfl
     have q1 := blk_frozen hRe 1
     have r2 : w9.cell? ⟨w.heap.size, 2, none⟩ = some (.slice none 0 0) := (blk_cell hRe 2).trans rfl
     have q2 := blk_frozen hRe 2
     have r3 : w9.cell? ⟨w.heap.size, 3, none⟩ = some (.slice none 0 0) := (blk_cell hRe 3).trans rfl
     have q3 := blk_frozen hRe 3
     have r4 : w9.cell? ⟨w.heap.size, 4, none⟩ = some (.int .i64 0) := (blk_cell hRe 4).trans rfl
     have q4 := blk_frozen hRe 4
     clear hSe hRe
     go_wp2
     have hs := set5_blk (.string a) (.int .i64 op) (.slice none 0 0) (.slice none 0 0) (.int .i64 0) HR9.out
     have hF := HF9.out.set5 (Nat.le_refl _) (.string a) (.int .i64 op) (.slice none 0 0) (.slice none 0 0) (.int .i64 0) HR9.out (by decide) (by decide)
     have hA := RS.set5 (Kd.R_nil _ _ _ _ _ : RS w9 w.heap.size (.slice none 0 0) []) (.string a) (.int .i64 op) (.slice none 0 0) (.slice none 0 0) (.int .i64 0) HR9.out (by decide)
     have hB := RS.set5 (Kd.R_nil _ _ _ _ _ : RS w9 w.heap.size (.slice none 0 0) []) (.string a) (.int .i64 op) (.slice none 0 0) (.slice none 0 0) (.int .i64 0) HR9.out (by decide)
     clear k0 k1 k2 k3 k4 r0 r1 r2 r3 r4 q0 q1 q2 q3 q4
     unfold set5 at hs hF hA hB
     generalize ((((w9.setCell ⟨w.heap.size, 0, none⟩ (.string a)).setCell ⟨w.heap.size, 1, none⟩ (.int .i64 op)).setCell ⟨w.heap.size, 2, none⟩ (.slice none 0 0)).setCell ⟨w.heap.size, 3, none⟩ (.slice none 0 0)).setCell ⟨w.heap.size, 4, none⟩ (.int .i64 0) = wE at hs hF hA hB ⊢
     have g0 := (blk_cell hs 0).trans rfl
     have g1 := (blk_cell hs 1).trans rfl
     have g2 := (blk_cell hs 2).trans rfl
     have g3 := (blk_cell hs 3).trans rfl
     have g4 := (blk_cell hs 4).trans rfl
     exact bodyPost_ret (v := .agg #[.string a, .int .i64 op, .slice none 0 0, .slice none 0 0, .int .i64 0]) (by simp [results, Tryz.results121, go_sem, g0, g1, g2, g3, g4]) rfl (by
      rw [HT2.out]
      exact ⟨_, _, rfl, hA, hB, hF.par, hF.grown⟩)
   · have hkd : ((headW s4.1).f0 != 1) = true := by simpa using hk
     clear hk hgd
     have HF6 := Lib.hid (HF5.out.set (Nat.le_of_lt hS) HS5.out (by decide) (by decide) 1 (.int .i64 op))
     have HR6 := Lib.hid (blk_far HR5.out (p := ⟨S, 1, none⟩) (Nat.ne_of_lt hS) (.int .i64 op))
     have HS6 : Hid ((w5.setCell ⟨S, 1, none⟩ (.int .i64 op)).heap[S]? = some (.cells #[.string a, .int .i64 op, .slice none 0 0, .slice none 0 0, .int .i64 0] 62 (0, 0))) := blk_put HS5.out 1 _ rfl
     obtain ⟨b, n_, c_, kk, cur, hq⟩ := HF6.out.par.has
     have h0 : (w5.setCell ⟨S, 1, none⟩ (.int .i64 op)).cell? ⟨g, 0, none⟩ = some (.slice (some ⟨b, 0, none⟩) n_ c_) := (blk_cell hq.own 0).trans rfl
     have h1 : (w5.setCell ⟨S, 1, none⟩ (.int .i64 op)).cell? ⟨g, 1, none⟩ = some (.int .i64 (kk : Nat)) := (blk_cell hq.own 1).trans rfl
     obtain ⟨k0, k1, k2⟩ := hq.first HF6.out.par.good.ne
     have hkn := word_take hq HF6.out.par.good.ne
     have hkz : (kk : Int) < (n_ : Int) := by omega
     have hkb : (kk : Int) ≤ 200000 := by have := hq.big; omega
     clear hq hkn
     go_wp2_with fail
     generalize w5.setCell ⟨S, 1, none⟩ (.int .i64 op) = w6 at HF6 HR6 HS6 h0 h1 k0 k1 k2 ⊢
     clear HF5 HR5 HS5 c1 f1 l1
     have hGN : ∀ n : Nat, Calls Tryz.prog 150 #[.string (headW s4.1).f2, .int .i64 2000] (w6.drewN n) fun e w' => e = .returned (.tuple #[.int .i64 (numV (headW s4.1).f2), .bool (numB (headW s4.1).f2)]) ∧ ∃ m, w' = (w6.drewN n).drewN m := fun n => qnum_quiet _ (good_size HF6.out.par.good) _ (HF6.out.par.gk.below (bdq (Below.refl _ _) n))
     have HGN2 := Lib.hid hGN
     clear hGN
     go_quiet ((go_at_call 150; exact Calls.quiet_of (HGN2.out _)))
     have HF7 := Lib.hid (HF6.out.below (bdq (Below.refl w6.heap.size w6) nq))
     have HR7 := Lib.hid (blk_drewN HR6.out nq)
     have HS7 := Lib.hid (blk_drewN HS6.out nq)
     replace h0 : (w6.drewN nq).cell? ⟨g, 0, none⟩ = some (.slice (some ⟨b, 0, none⟩) n_ c_) := h0
     replace h1 : (w6.drewN nq).cell? ⟨g, 1, none⟩ = some (.int .i64 (kk : Nat)) := h1
     replace k0 : (w6.drewN nq).cell? ⟨b, kk * 3, none⟩ = some (.int .i64 (headW s4.1).f0) := k0
     clear k1 k2 HF6 HR6 HS6 HGN2
     generalize w6.drewN nq = w7 at HF7 HR7 HS7 h0 h1 k0 ⊢
     go_wp2_with fail
     go_quiet (fail)
     have HF8 := Lib.hid (HF7.out.below (bdq (Below.refl w7.heap.size w7) nq))
     have HR8 := Lib.hid (blk_drewN HR7.out nq)
     have HS8 := Lib.hid (blk_drewN HS7.out nq)
     clear h0 h1 k0 HF7 HR7 HS7 hkz hkb hkd
     generalize w7.drewN nq = w8 at HF8 HR8 HS8 ⊢
     go_wp2_with fail
     refine (qfail_par g s4 w8 HF8.out.par).mono ?_
     rintro e w9 ⟨rfl, hp9, hg9⟩
     have HF9 := Lib.hid (HF8.out.call hp9 hg9)
     have HR9 := Lib.hid (HF8.out.keeps (Nat.le_refl _) HR8.out hg9)
     have HS9 := Lib.hid (HF8.out.keeps (Nat.le_of_lt hS) HS8.out hg9)
     clear hp9 hg9 HF8 HR8 HS8
     have hSe := HS9.out
     have k0 : w9.cell? ⟨S, 0, none⟩ = some (.string a) := (blk_cell hSe 0).trans rfl
     have k1 : w9.cell? ⟨S, 1, none⟩ = some (.int .i64 op) := (blk_cell hSe 1).trans rfl
     have k2 : w9.cell? ⟨S, 2, none⟩ = some (.slice none 0 0) := (blk_cell hSe 2).trans rfl
     have k3 : w9.cell? ⟨S, 3, none⟩ = some (.slice none 0 0) := (blk_cell hSe 3).trans rfl
     have k4 : w9.cell? ⟨S, 4, none⟩ = some (.int .i64 0) := (blk_cell hSe 4).trans rfl
     have hRe := HR9.out
     have r0 : w9.cell? ⟨w.heap.size, 0, none⟩ = some (.string ⟨#[]⟩) := (blk_cell hRe 0).trans rfl
     have q0 := blk_frozen hRe 0
     have r1 : w9.cell? ⟨w.heap.size, 1, none⟩ = some (.int .i64 0) := (blk_cell hRe 1).trans rfl
     have q1 := blk_frozen hRe 1
     have r2 : w9.cell? ⟨w.heap.size, 2, none⟩ = some (.slice none 0 0) := (blk_cell hRe 2).trans rfl
     have q2 := blk_frozen hRe 2
     have r3 : w9.cell? ⟨w.heap.size, 3, none⟩ = some (.slice none 0 0) := (blk_cell hRe 3).trans rfl
     have q3 := blk_frozen hRe 3
     have r4 : w9.cell? ⟨w.heap.size, 4, none⟩ = some (.int .i64 0) := (blk_cell hRe 4).trans rfl
     have q4 := blk_frozen hRe 4
     clear hSe hRe
     go_wp2
     have hs := set5_blk (.string a) (.int .i64 op) (.slice none 0 0) (.slice none 0 0) (.int .i64 0) HR9.out
     have hF := HF9.out.set5 (Nat.le_refl _) (.string a) (.int .i64 op) (.slice none 0 0) (.slice none 0 0) (.int .i64 0) HR9.out (by decide) (by decide)
     have hA := RS.set5 (Kd.R_nil _ _ _ _ _ : RS w9 w.heap.size (.slice none 0 0) []) (.string a) (.int .i64 op) (.slice none 0 0) (.slice none 0 0) (.int .i64 0) HR9.out (by decide)
     have hB := RS.set5 (Kd.R_nil _ _ _ _ _ : RS w9 w.heap.size (.slice none 0 0) []) (.string a) (.int .i64 op) (.slice none 0 0) (.slice none 0 0) (.int .i64 0) HR9.out (by decide)
     clear k0 k1 k2 k3 k4 r0 r1 r2 r3 r4 q0 q1 q2 q3 q4
     unfold set5 at hs hF hA hB
     generalize ((((w9.setCell ⟨w.heap.size, 0, none⟩ (.string a)).setCell ⟨w.heap.size, 1, none⟩ (.int .i64 op)).setCell ⟨w.heap.size, 2, none⟩ (.slice none 0 0)).setCell ⟨w.heap.size, 3, none⟩ (.slice none 0 0)).setCell ⟨w.heap.size, 4, none⟩ (.int .i64 0) = wE at hs hF hA hB ⊢
     have g0 := (blk_cell hs 0).trans rfl
     have g1 := (blk_cell hs 1).trans rfl
     have g2 := (blk_cell hs 2).trans rfl
     have g3 := (blk_cell hs 3).trans rfl
     have g4 := (blk_cell hs 4).trans rfl
     exact bodyPost_ret (v := .agg #[.string a, .int .i64 op, .slice none 0 0, .slice none 0 0, .int .i64 0]) (by simp [results, Tryz.results121, go_sem, g0, g1, g2, g3, g4]) rfl (by
      rw [HT2.out]
      exact ⟨_, _, rfl, hA, hB, hF.par, hF.grown⟩)
 have hT2 : stepR s = (⟨a, op, [(nameP s4).1], [], 0⟩, mustP 3 semi (nameP s4).2) := by
  rw [HT.out, if_neg (fun h => by have := h.1; omega)]
  unfold argP litsP
  simp [o5, o6, o7, o8, o9]
 have HT2 := Lib.hid hT2
 have e5 : (op == 5) = false := by simpa using o5
 have e6 : (op == 6) = false := by simpa using o6
 have e7 : (op == 7) = false := by simpa using o7
 have e8 : (op == 8) = false := by simpa using o8
 have e9 : (op == 9) = false := by simpa using o9
 have n5 : (op != 5) = true := by simpa using o5
 have n6 : (op != 6) = true := by simpa using o6
 clear hT2 HT o5 o6 o7 o8 o9
 go_wp2_with fail
 have HF6 := Lib.hid (HF5.out.set (Nat.le_of_lt hS) HS5.out (by decide) (by decide) 1 (.int .i64 op))
 have HR6 := Lib.hid (blk_far HR5.out (p := ⟨S, 1, none⟩) (Nat.ne_of_lt hS) (.int .i64 op))
 have HS6 : Hid ((w5.setCell ⟨S, 1, none⟩ (.int .i64 op)).heap[S]? = some (.cells #[.string a, .int .i64 op, .slice none 0 0, .slice none 0 0, .int .i64 0] 62 (0, 0))) := blk_put HS5.out 1 _ rfl
 generalize w5.setCell ⟨S, 1, none⟩ (.int .i64 op) = w6 at HF6 HR6 HS6 ⊢
 clear HF5 HR5 HS5 c1 f1 l1
 refine (qname_calls g s4 w6 HF6.out.par).mono ?_
 rintro e w7 ⟨rfl, hp7, hg7⟩
 have HF7 := Lib.hid (HF6.out.call hp7 hg7)
 have HR7 := Lib.hid (HF6.out.keeps (Nat.le_refl _) HR6.out hg7)
 have HS7 := Lib.hid (HF6.out.keeps (Nat.le_of_lt hS) HS6.out hg7)
 clear hp7 hg7 HF6 HR6 HS6
 have hS7 := HS7.out
 have c2 : ∀ ob : Obj, (w7.alloc ob).cell? ⟨S, 2, none⟩ = some (.slice none 0 0) := fun ob => (blk_cell (blk_alloc hS7 ob) 2).trans rfl
 have f2 : ∀ ob : Obj, (w7.alloc ob).frozen? ⟨S, 2, none⟩ = false := fun ob => blk_frozen (blk_alloc hS7 ob) 2
 have l2 : ∀ (ob : Obj) (v : Value), ((w7.alloc ob).setCell ⟨S, 2, none⟩ v).cell? ⟨S, 1, none⟩ = some (.int .i64 op) := fun ob v => (blk_cell (blk_set (blk_alloc hS7 ob) 2 v) 1).trans rfl
 clear hS7
 go_wp2_with fail
 clear c2 f2 l2
 have HFa := Lib.hid (HF7.out.alloc (.cells #[.string (nameP s4).1] 9))
 have HRa := Lib.hid (blk_alloc HR7.out (.cells #[.string (nameP s4).1] 9))
 have HSa := Lib.hid (blk_alloc HS7.out (.cells #[.string (nameP s4).1] 9))
 have HVa : Hid (RS (w7.alloc (.cells #[.string (nameP s4).1] 9)) w.heap.size (.slice (some ⟨w7.heap.size, 0, none⟩) 1 1) [(nameP s4).1]) := rs_lit w7 w.heap.size [(nameP s4).1] HF7.out.grown.size (by simp)
 have HF8 := Lib.hid (HFa.out.set (Nat.le_of_lt hS) HSa.out (by decide) (by decide) 2 (.slice (some ⟨w7.heap.size, 0, none⟩) 1 1))
 have HR8 := Lib.hid (blk_far HRa.out (p := ⟨S, 2, none⟩) (Nat.ne_of_lt hS) (.slice (some ⟨w7.heap.size, 0, none⟩) 1 1))
 have HS8 : Hid (((w7.alloc (.cells #[.string (nameP s4).1] 9)).setCell ⟨S, 2, none⟩ (.slice (some ⟨w7.heap.size, 0, none⟩) 1 1)).heap[S]? = some (.cells #[.string a, .int .i64 op, .slice (some ⟨w7.heap.size, 0, none⟩) 1 1, .slice none 0 0, .int .i64 0] 62 (0, 0))) := blk_put HSa.out 2 _ rfl
 have HA8 := Lib.hid (Kd.R_set HVa.out HSa.out (by decide) 2 (.slice (some ⟨w7.heap.size, 0, none⟩) 1 1))
 clear HFa HRa HSa HVa HF7 HR7 HS7
 generalize (w7.alloc (.cells #[.string (nameP s4).1] 9)).setCell ⟨S, 2, none⟩ (.slice (some ⟨w7.heap.size, 0, none⟩) 1 1) = w8 at HF8 HR8 HS8 HA8 ⊢
 generalize (some (⟨w7.heap.size, 0, none⟩ : Addr)) = A2 at HS8 HA8 ⊢
 refine (qwant_par g 3 (by decide) semi (nameP s4).2 w8 HF8.out.par).mono ?_
 rintro e w9 ⟨rfl, hp9, hg9⟩
 have HF9 := Lib.hid (HF8.out.call hp9 hg9)
 have HR9 := Lib.hid (HF8.out.keeps (Nat.le_refl _) HR8.out hg9)
 have HS9 := Lib.hid (HF8.out.keeps (Nat.le_of_lt hS) HS8.out hg9)
 have HA9 := Lib.hid (row_keep HA8.out hg9 HL.out)
 clear hp9 hg9 HF8 HR8 HS8 HA8
 have hSe := HS9.out
 have k0 : w9.cell? ⟨S, 0, none⟩ = some (.string a) := (blk_cell hSe 0).trans rfl
 have k1 : w9.cell? ⟨S, 1, none⟩ = some (.int .i64 op) := (blk_cell hSe 1).trans rfl
 have k2 : w9.cell? ⟨S, 2, none⟩ = some (.slice A2 1 1) := (blk_cell hSe 2).trans rfl
 have k3 : w9.cell? ⟨S, 3, none⟩ = some (.slice none 0 0) := (blk_cell hSe 3).trans rfl
 have k4 : w9.cell? ⟨S, 4, none⟩ = some (.int .i64 0) := (blk_cell hSe 4).trans rfl
 have hRe := HR9.out
 have r0 : w9.cell? ⟨w.heap.size, 0, none⟩ = some (.string ⟨#[]⟩) := (blk_cell hRe 0).trans rfl
 have q0 := blk_frozen hRe 0
 have r1 : w9.cell? ⟨w.heap.size, 1, none⟩ = some (.int .i64 0) := (blk_cell hRe 1).trans rfl
 have q1 := blk_frozen hRe 1
 have r2 : w9.cell? ⟨w.heap.size, 2, none⟩ = some (.slice none 0 0) := (blk_cell hRe 2).trans rfl
 have q2 := blk_frozen hRe 2
 have r3 : w9.cell? ⟨w.heap.size, 3, none⟩ = some (.slice none 0 0) := (blk_cell hRe 3).trans rfl
 have q3 := blk_frozen hRe 3
 have r4 : w9.cell? ⟨w.heap.size, 4, none⟩ = some (.int .i64 0) := (blk_cell hRe 4).trans rfl
 have q4 := blk_frozen hRe 4
 clear hSe hRe
 go_wp2
 have hs := set5_blk (.string a) (.int .i64 op) (.slice A2 1 1) (.slice none 0 0) (.int .i64 0) HR9.out
 have hF := HF9.out.set5 (Nat.le_refl _) (.string a) (.int .i64 op) (.slice A2 1 1) (.slice none 0 0) (.int .i64 0) HR9.out (by decide) (by decide)
 have hA := RS.set5 HA9.out (.string a) (.int .i64 op) (.slice A2 1 1) (.slice none 0 0) (.int .i64 0) HR9.out (by decide)
 have hB := RS.set5 (Kd.R_nil _ _ _ _ _ : RS w9 w.heap.size (.slice none 0 0) []) (.string a) (.int .i64 op) (.slice A2 1 1) (.slice none 0 0) (.int .i64 0) HR9.out (by decide)
 clear k0 k1 k2 k3 k4 r0 r1 r2 r3 r4 q0 q1 q2 q3 q4
 unfold set5 at hs hF hA hB
 generalize ((((w9.setCell ⟨w.heap.size, 0, none⟩ (.string a)).setCell ⟨w.heap.size, 1, none⟩ (.int .i64 op)).setCell ⟨w.heap.size, 2, none⟩ (.slice A2 1 1)).setCell ⟨w.heap.size, 3, none⟩ (.slice none 0 0)).setCell ⟨w.heap.size, 4, none⟩ (.int .i64 0) = wE at hs hF hA hB ⊢
 have g0 := (blk_cell hs 0).trans rfl
 have g1 := (blk_cell hs 1).trans rfl
 have g2 := (blk_cell hs 2).trans rfl
 have g3 := (blk_cell hs 3).trans rfl
 have g4 := (blk_cell hs 4).trans rfl
 exact bodyPost_ret (v := .agg #[.string a, .int .i64 op, .slice A2 1 1, .slice none 0 0, .int .i64 0]) (by simp [results, Tryz.results121, go_sem, g0, g1, g2, g3, g4]) rfl (by
  rw [HT2.out]
  exact ⟨_, _, rfl, hA, hB, hF.par, hF.grown⟩)

end Go.Proofs.YthagibkmfgodgaaGreatDoor.X
