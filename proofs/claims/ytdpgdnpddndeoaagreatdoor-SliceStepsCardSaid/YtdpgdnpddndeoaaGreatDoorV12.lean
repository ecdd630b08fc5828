/-
  What the cards lean on (part V12): contracts of functions, by hand, and plain laws; what is printed by the kit's print for this seat is among them. What is not reached is left out.
-/
import Derived.Test.YtdpgdnpddndeoaaGreatDoorV7
import Derived.Test.YtdpgdnpddndeoaaGreatDoorV11
set_option maxHeartbeats 8000000
set_option maxRecDepth 100000
set_option linter.unusedSimpArgs false
set_option linter.unusedVariables false
open Go.RowKit.Below renaming refl -> zpw, heap_setCell -> zpV
open Nat renaming le_refl -> zpx, le_trans -> zpD
open List renaming length_append -> zpK, map_toArray -> zpW, map_cons -> zpX, map_nil -> zpY, getElem?_eq_none -> zp3, length_cons -> zqh, getElem?_take_of_lt -> zql, length_nil -> zqF, setIfInBounds_toArray -> zqZ, set_cons_zero -> zq0, set_cons_succ -> zq1
open Option.some renaming inj -> zp6
open Array renaming getElem?_toList -> zqi
open Go.World renaming size_alloc -> zre
open Or renaming inl -> zqY
open Go.Proofs.Tryz renaming prog -> zp5
open ByteArray renaming empty -> zqa
open Go.Proofs.YtdpgdnpddndeoaaGreatDoorW.PrintWords.Kd renaming C_below -> zqS, string -> zqb, R_reads -> zqq, R_below -> zqu, R_lower -> zqJ, R_set -> zqK
namespace Go
def bml : Nat -> Nat -> List Bool
 | 0, _ => []
 | n + 1, k => (k % 2 == 1) :: bml n (k / 2)
def bm (n k : Nat) : Array Bool := ⟨bml n k⟩
end Go
namespace Go.Proofs.YtdpgdnpddndeoaaGreatDoor
open Go.RowKit Go.Maps
namespace X
open YtdpgdnpddndeoaaGreatDoorW.PrintWords YtdpgdnpddndeoaaGreatDoorW.PrintMore YtdpgdnpddndeoaaGreatDoorW.PrintLast
theorem ze0 {α : Type} {d : Kd α} {e base : Nat} {v : Value} {xs : List α} {W W0 : World} {G : Nat} (h : d.R e W W0.heap.size (fun _ => True) v xs) (hG : G < W0.heap.size) (hb : base <= W0.heap.size) : d.R e W base (fun k => k ≠ G) v xs :=
 zqJ (Kd.R_mono (Kd.R_bound h) (fun k hk e => by have := hk.2.1; omega)) hb
theorem zj2 {cur : Array Value} {i j : Nat} {u v : Value} (h : cur[j]? = some v) (_ : u = u) (hij : i ≠ j) : (cur.setIfInBounds i u)[j]? = some v := by
 rw [Array.getElem?_setIfInBounds, if_neg hij]; exact h
theorem zgl (l : List ByteArray) : (zae l).length = l.length := by unfold zae; rw [List.length_map, List.length_mergeSort, List.length_map]
def IsOne (f0 : ByteArray) (l1 l2 l3 : List ByteArray) (x : zaw) (w : World) (e : Ending) (w' : World) : Prop :=
 ∃ X1 d1 X2 d2 X3 d3 X4 d4, e = .returned (.agg #[.string f0, .slice X1 l1.length d1, .slice X2 l2.length d2, .slice X3 l3.length d3, .slice X4 1 d4]) /\
  RS w' w.heap.size (.slice X1 l1.length d1) l1 /\ RS w' w.heap.size (.slice X2 l2.length d2) l2 /\ RS w' w.heap.size (.slice X3 l3.length d3) l3 /\ Kd.R k24 24 w' w.heap.size (fun _ => True) (.slice X4 1 d4) [x] /\ Below w.heap.size w w'
theorem zht (f0 : ByteArray) (l1 l2 l3 : List ByteArray) (x : zaw) (A1 : Option Addr) (c1 : Nat) (A2 : Option Addr) (c2 : Nat) (A3 : Option Addr) (c3 : Nat) (A4 : Option Addr) (c4 : Nat) (w : World)
 (h1 : Kd.C zqb w A1 l1.length l1) (h2 : Kd.C zqb w A2 l2.length l2) (h3 : Kd.C zqb w A3 l3.length l3) (h4 : Kd.C k24 w A4 1 [x])
 (hl1 : l1.length * 16 <= 140737488355328) (hl2 : l2.length * 16 <= 140737488355328) (hl3 : l3.length * 16 <= 140737488355328) (hl5 : x.f2.length * 16 <= 140737488355328) (hl6 : x.f3.length * 16 <= 140737488355328) :
 Calls zp5 147 #[.agg #[.string f0, .slice A1 l1.length c1, .slice A2 l2.length c2, .slice A3 l3.length c3, .slice A4 1 c4]] w (IsOne f0 (zae l1) (zae l2) (zae l3) x w) := by
 obtain ⟨ad, cs, rfl, hcl, hK, hcell⟩ := Kd.C_get h4 x 0 (by decide) (by decide)
 obtain ⟨A5, c5, A6, c6, hcs, hc5, h5, hc6, h6⟩ := zdd hK; subst hcs; have hsh : Kd.C kSh w (some ad) [((x.f0, x.f1, ⟨A5, x.f2.length, c5⟩, ⟨A6, x.f3.length, c6⟩, x.f4) : Sh)].length [((x.f0, x.f1, ⟨A5, x.f2.length, c5⟩, ⟨A6, x.f3.length, c6⟩, x.f4) : Sh)] := by
  refine ⟨rfl, by simp, fun _ => ⟨ad, rfl, fun j p hj => ?_⟩⟩
  match j, hj with
  | 0, hj =>
   simp at hj
   subst hj; exact ⟨_, rfl, (sh_K _).2 rfl, hcell⟩
  | j + 1, hj => simp at hj
 have hb1 := (zpw w.heap.size w).alloc (zpx _) (.cells #[.string f0, .slice A1 l1.length c1, .slice A2 l2.length c2, .slice A3 l3.length c3, .slice (some ad) 1 c4] 45); have hb2 := hb1.alloc hb1.size (.cells RUz 45); have hk := zaQ (zap w (.cells #[.string f0, .slice A1 l1.length c1, .slice A2 l2.length c2, .slice A3 l3.length c3, .slice (some ad) 1 c4] 45)) (.cells RUz 45); have hz := zap (w.alloc (.cells #[.string f0, .slice A1 l1.length c1, .slice A2 l2.length c2, .slice A3 l3.length c3, .slice (some ad) 1 c4] 45)) (.cells RUz 45); rw [zre] at hz; have HB2 := zpt hb2; have HK2 := zpt hk; have HZ2 := zpt hz; have H1 := zpt h1; have H2 := zpt h2; have H3 := zpt h3; have H4 := zpt hsh; have H5 := zpt h5; have H6 := zpt h6; have HL1 := zpt hl1; have HL2 := zpt hl2; have HL3 := zpt hl3; have HL5 := zpt hl5; have HL6 := zpt hl6; clear hb1 hb2 hk hz h1 h2 h3 h4 hl1 hl2 hl3 hl5 hl6 hcl hK hcell hc5 h5 hc6 h6 hsh; go_enter Tryz.func147, Tryz.ntmps147
 go_wp2; generalize (w.alloc (.cells #[.string f0, .slice A1 l1.length c1, .slice A2 l2.length c2, .slice A3 l3.length c3, .slice (some ad) 1 c4] 45)).alloc (.cells RUz 45) = w2 at HB2 HK2 HZ2 |-; have HBwd := zpt (zaM HB2.out); have HKwd := zpt (zaH HK2.out); have HZwd := zpt (zaH HZ2.out); have HC1wd := zpt (zqS H1.out HBwd.out); have HC2wd := zpt (zqS H2.out HBwd.out); have HC3wd := zpt (zqS H3.out HBwd.out); have k1wd := bc1 HKwd.out; have k2wd := bc2 HKwd.out; have k3wd := bc3 HKwd.out; clear HB2 HK2 HZ2 H1 H2 H3
--REG1
 refine zdy (n := 15) (S := fun w' => w'.cell? ⟨w.heap.size, 1, none⟩ = some (.slice A1 l1.length c1) /\ w'.cell? ⟨w.heap.size, 2, none⟩ = some (.slice A2 l2.length c2) /\ w'.cell? ⟨w.heap.size, 3, none⟩ = some (.slice A3 l3.length c3)) (ds := [10, 12, 14]) (bm 15 0) (by kernel_rfl) rfl (by kernel_rfl) ⟨k1wd, k2wd, k3wd⟩ (fun hHeld => ?_)
 refine zaF (i := 0) (N := some 4) (v := ?_) (a' := ?_) (bm 15 1) rfl rfl (by kernel_rfl) (fun _ _ _ h => h) (zqY ⟨by rfl, ?_⟩) ?_ ?_
 rotate_left
 . intro w'
   go_simp
   with_reducible rfl
 rotate_left
 . simp only [Act.put, zqZ, zq0, zq1, zaf, zag]
   rfl
 refine zaF (i := 3) (N := some 7) (v := ?_) (a' := ?_) (bm 15 9) rfl rfl (by kernel_rfl) (fun _ _ _ h => h) (zqY ⟨by rfl, ?_⟩) ?_ ?_
 rotate_left
 . intro w'
   go_simp
   with_reducible rfl
 rotate_left
 . simp only [Act.put, zqZ, zq0, zq1, zaf, zag]
   rfl
 refine zaF (i := 6) (N := some 10) (v := ?_) (a' := ?_) (bm 15 73) rfl rfl (by kernel_rfl) (fun _ _ _ h => h) (zqY ⟨by rfl, ?_⟩) ?_ ?_
 rotate_left
 . intro w'
   go_simp
   with_reducible rfl
 rotate_left
 . simp only [Act.put, zqZ, zq0, zq1, zaf, zag]
   rfl
 refine take_ (i := 1) (N := some 5) (v := ?_) (a' := ?_) (bm 15 75) rfl rfl (by kernel_rfl) (fun _ _ _ h => h) (zqY ⟨by rfl, ?_⟩) hHeld ?_ ?_
 rotate_left
 . rintro w' ⟨s0, s1, s2⟩
   go_simp
   with_reducible rfl
 rotate_left
 . simp only [Act.put, zqZ, zq0, zq1, zaf, zag]
   rfl
 refine take_ (i := 4) (N := some 8) (v := ?_) (a' := ?_) (bm 15 91) rfl rfl (by kernel_rfl) (fun _ _ _ h => h) (zqY ⟨by rfl, ?_⟩) hHeld ?_ ?_
 rotate_left
 . rintro w' ⟨s0, s1, s2⟩
   go_simp
   with_reducible rfl
 rotate_left
 . simp only [Act.put, zqZ, zq0, zq1, zaf, zag]
   rfl
 refine take_ (i := 7) (N := some 11) (v := ?_) (a' := ?_) (bm 15 219) rfl rfl (by kernel_rfl) (fun _ _ _ h => h) (zqY ⟨by rfl, ?_⟩) hHeld ?_ ?_
 rotate_left
 . rintro w' ⟨s0, s1, s2⟩
   go_simp
   with_reducible rfl
 rotate_left
 . simp only [Act.put, zqZ, zq0, zq1, zaf, zag]
   rfl
 refine one_ (i := 2) (N := some 6) (bm 15 223) rfl rfl (by kernel_rfl) (by decide) (fun K hK => ?_)
 refine zb2 Tryz.func198 (by kernel_rfl) rfl #[.slice A1 l1.length c1] (by rfl) rfl rfl (by simp only [zpW, zpX, zpY]; rfl) ?_
 with_reducible refine (zfP A1 c1 l1 _ HC1wd.out HL1.out).mono ?_
 rintro e wa ⟨v1, rfl, ho1, hb1⟩; obtain ⟨X1, d1, rfl, _, _⟩ := zqq ho1; refine ⟨_, rfl, ?_⟩; have HBwa := zpt (zac HBwd.out HBwd.out.size hb1); have HKwa := zpt (zai HKwd.out hb1); have HZwa := zpt (zai HZwd.out hb1); have HC2wa := zpt (zqS HC2wd.out hb1); have HC3wa := zpt (zqS HC3wd.out hb1); have HO1wa := zpt (zqJ ho1 HBwd.out.size); have k1wa := bc1 HKwa.out; have k2wa := bc2 HKwa.out; have k3wa := bc3 HKwa.out; clear ho1 hb1; refine hK.out _ _ ⟨k1wa, k2wa, k3wa⟩ (fun hHeld => ?_)
 clear hK K; refine za6 (a' := ?_) ?_ ?_; rotate_left
 . show Act.put _ (some 6) _ = _
   simp only [Act.put, zqZ, zq0, zq1, zaf, zag]; rfl
 refine zaF (i := 9) (N := some 13) (v := ?_) (a' := ?_) (bm 15 735) rfl rfl (by kernel_rfl) (fun _ _ _ h => h) (zqY ⟨by rfl, ?_⟩) ?_ ?_
 rotate_left
 . intro w'
   go_simp
   with_reducible rfl
 rotate_left
 . simp only [Act.put, zqZ, zq0, zq1, zaf, zag]
   rfl
 refine one_ (i := 5) (N := some 9) (bm 15 767) rfl rfl (by kernel_rfl) (by decide) (fun K hK => ?_)
 refine zb2 Tryz.func198 (by kernel_rfl) rfl #[.slice A2 l2.length c2] (by rfl) rfl rfl (by simp only [zpW, zpX, zpY]; rfl) ?_
 with_reducible refine (zfP A2 c2 l2 _ HC2wa.out HL2.out).mono ?_
 rintro e wb ⟨v2, rfl, ho2, hb2⟩; obtain ⟨X2, d2, rfl, _, _⟩ := zqq ho2; refine ⟨_, rfl, ?_⟩; have HBwb := zpt (zac HBwa.out HBwa.out.size hb2); have HKwb := zpt (zai HKwa.out hb2); have HZwb := zpt (zai HZwa.out hb2); have HC3wb := zpt (zqS HC3wa.out hb2); have HO1wb := zpt (zqu HO1wa.out hb2); have HO2wb := zpt (zqJ ho2 HBwa.out.size); have k1wb := bc1 HKwb.out; have k2wb := bc2 HKwb.out; have k3wb := bc3 HKwb.out; clear ho2 hb2; refine hK.out _ _ ⟨k1wb, k2wb, k3wb⟩ (fun hHeld => ?_)
 clear hK K; refine za6 (a' := ?_) ?_ ?_; rotate_left
 . show Act.put _ (some 9) _ = _
   simp only [Act.put, zqZ, zq0, zq1, zaf, zag]; rfl
 refine one_ (i := 8) (N := some 12) (bm 15 1023) rfl rfl (by kernel_rfl) (by decide) (fun K hK => ?_)
 refine zb2 Tryz.func198 (by kernel_rfl) rfl #[.slice A3 l3.length c3] (by rfl) rfl rfl (by simp only [zpW, zpX, zpY]; rfl) ?_
 with_reducible refine (zfP A3 c3 l3 _ HC3wb.out HL3.out).mono ?_
 rintro e wc ⟨v3, rfl, ho3, hb3⟩; obtain ⟨X3, d3, rfl, _, _⟩ := zqq ho3; refine ⟨_, rfl, ?_⟩; have HBwc := zpt (zac HBwb.out HBwb.out.size hb3); have HKwc := zpt (zai HKwb.out hb3); have HZwc := zpt (zai HZwb.out hb3); have HO1wc := zpt (zqu HO1wb.out hb3); have HO2wc := zpt (zqu HO2wb.out hb3); have HO3wc := zpt (zqJ ho3 HBwb.out.size); have k1wc := bc1 HKwc.out; have k2wc := bc2 HKwc.out; have k3wc := bc3 HKwc.out; clear ho3 hb3; refine hK.out _ _ ⟨k1wc, k2wc, k3wc⟩ (fun hHeld => ?_)
 clear hK K; refine za6 (a' := ?_) ?_ ?_; rotate_left
 . show Act.put _ (some 12) _ = _
   simp only [Act.put, zqZ, zq0, zq1, zaf, zag]; rfl
 refine zej (i := 10) (N := none) (bm 15 2047) rfl rfl (by kernel_rfl) (by decide) (fun K hK => ?_)
 have hs1 := HKwc.out; have hs2 := zbT hs1 1 (.slice X1 (zae l1).length d1); have hs3 := zbT hs2 2 (.slice X2 (zae l2).length d2); have cs1 := bc1 hs1; have fs1 := zak hs1 1; refine zcQ (w1 := ?_) (by rfl) rfl ?_ ?_
 rotate_left
 . go_simp
   rfl
 refine hK.out _ _ ?_; clear hK K; refine zaF (i := 11) (N := some 14) (v := ?_) (a' := ?_) (bm 15 4095) rfl rfl (by kernel_rfl) (fun _ _ _ h => h) (zqY ⟨by rfl, ?_⟩) ?_ ?_
 rotate_left
 . intro w'
   go_simp
   with_reducible rfl
 rotate_left
 . simp only [Act.put, zqZ, zq0, zq1, zaf, zag]
   rfl
 refine zej (i := 12) (N := none) (bm 15 8191) rfl rfl (by kernel_rfl) (by decide) (fun K hK => ?_)
 have cs2 := bc2 hs2; have fs2 := zak hs2 2; refine zcQ (w1 := ?_) (by rfl) rfl ?_ ?_
 rotate_left
 . go_simp
   rfl
 refine hK.out _ _ ?_; clear hK K; refine zaF (i := 13) (N := some 15) (v := ?_) (a' := ?_) (bm 15 16383) rfl rfl (by kernel_rfl) (fun _ _ _ h => h) (zqY ⟨by rfl, ?_⟩) ?_ ?_
 rotate_left
 . intro w'
   go_simp
   with_reducible rfl
 rotate_left
 . simp only [Act.put, zqZ, zq0, zq1, zaf, zag]
   rfl
 refine zej (i := 14) (N := none) (bm 15 32767) rfl rfl (by kernel_rfl) (by decide) (fun K hK => ?_)
 have cs3 := bc3 hs3; have fs3 := zak hs3 3; refine zcQ (w1 := ?_) (by rfl) rfl ?_ ?_
 rotate_left
 . go_simp
   rfl
 refine hK.out _ _ ?_; clear hK K; refine zcF (by kernel_rfl) ?_
--REG1E
 have hs4 := zbT hs3 3 (.slice X3 (zae l3).length d3); have hs4' : (((wc.setCell ⟨w.heap.size, 1, none⟩ (.slice X1 (zae l1).length d1)).setCell ⟨w.heap.size, 2, none⟩ (.slice X2 (zae l2).length d2)).setCell ⟨w.heap.size, 3, none⟩ (.slice X3 (zae l3).length d3)).heap[w.heap.size]? = some (.cells #[.string f0, .slice X1 (zae l1).length d1, .slice X2 (zae l2).length d2, .slice X3 (zae l3).length d3, .slice (some ad) 1 c4] 45 (0, 0)) := hs4; have HK5 := zpt hs4'; have HB5 := zpt (((HBwc.out.setCell (p := ⟨w.heap.size, 1, none⟩) (zpx _) (.slice X1 (zae l1).length d1)).setCell (p := ⟨w.heap.size, 2, none⟩) (zpx _) (.slice X2 (zae l2).length d2)).setCell (p := ⟨w.heap.size, 3, none⟩) (zpx _) (.slice X3 (zae l3).length d3)); have hzn : w.heap.size + 1 ≠ w.heap.size := by omega
 have HZ5 := zpt (zaP (zaP (zaP HZwc.out (p := ⟨w.heap.size, 1, none⟩) hzn (.slice X1 (zae l1).length d1)) (p := ⟨w.heap.size, 2, none⟩) hzn (.slice X2 (zae l2).length d2)) (p := ⟨w.heap.size, 3, none⟩) hzn (.slice X3 (zae l3).length d3)); have HO15 := zpt (zqK (zqK (zqK HO1wc.out hs1 (by decide) 1 (.slice X1 (zae l1).length d1)) hs2 (by decide) 2 (.slice X2 (zae l2).length d2)) hs3 (by decide) 3 (.slice X3 (zae l3).length d3))
 have HO25 := zpt (zqK (zqK (zqK HO2wc.out hs1 (by decide) 1 (.slice X1 (zae l1).length d1)) hs2 (by decide) 2 (.slice X2 (zae l2).length d2)) hs3 (by decide) 3 (.slice X3 (zae l3).length d3))
 have HO35 := zpt (zqK (zqK (zqK HO3wc.out hs1 (by decide) 1 (.slice X1 (zae l1).length d1)) hs2 (by decide) 2 (.slice X2 (zae l2).length d2)) hs3 (by decide) 3 (.slice X3 (zae l3).length d3))
 have k45 : (((wc.setCell ⟨w.heap.size, 1, none⟩ (.slice X1 (zae l1).length d1)).setCell ⟨w.heap.size, 2, none⟩ (.slice X2 (zae l2).length d2)).setCell ⟨w.heap.size, 3, none⟩ (.slice X3 (zae l3).length d3)).cell? ⟨w.heap.size, 4, none⟩ = some (.slice (some ad) 1 c4) := (zah hs4' 4).trans rfl; go_wp2_with fail; generalize ((wc.setCell ⟨w.heap.size, 1, none⟩ (.slice X1 (zae l1).length d1)).setCell ⟨w.heap.size, 2, none⟩ (.slice X2 (zae l2).length d2)).setCell ⟨w.heap.size, 3, none⟩ (.slice X3 (zae l3).length d3) = w5 at HK5 HB5 HZ5 HO15 HO25 HO35 |-; clear hs1 hs2 hs3 hs4 hs4' cs1 cs2 cs3 fs1 fs2 fs3 k45; have hcl : Calls zp5 199 #[.slice (some ad) 1 c4] w5 _ := zo3 ad c4 [((x.f0, x.f1, ⟨A5, x.f2.length, c5⟩, ⟨A6, x.f3.length, c6⟩, x.f4) : Sh)] w5 (zqS H4.out HB5.out) (by simp)
 refine hcl.mono ?_; rintro e w6 ⟨v6, rfl, hr6, hb6⟩; obtain ⟨_, inner, ho6, hrep⟩ := hr6; rcases ho6.2 with ⟨_, hn⟩ | ⟨G, cG, cur, rfl, hbase, hG, q1, q2, q3, q4⟩
 . simp at hn
 have hin : inner = [.string x.f0, .int .i64 x.f1, .slice A5 x.f2.length c5, .slice A6 x.f3.length c6, .int .i64 x.f4] := by
  have h0 := (sh_M _).1 (hrep.2 0 ((x.f0, x.f1, ⟨A5, x.f2.length, c5⟩, ⟨A6, x.f3.length, c6⟩, x.f4) : Sh) rfl); have hlen : inner.length = 5 := hrep.1; rw [Nat.zero_mul, List.drop_zero, show kSh.sz = 5 from rfl, List.take_of_length_le (by omega)] at h0
  exact h0
 have q4' : cur.toList.take 5 = [.string x.f0, .int .i64 x.f1, .slice A5 x.f2.length c5, .slice A6 x.f3.length c6, .int .i64 x.f4] := by rw [<- hin]; exact q4
 have hat : ∀ i, i < 5 -> cur[i]? = ([.string x.f0, .int .i64 x.f1, .slice A5 x.f2.length c5, .slice A6 x.f3.length c6, .int .i64 x.f4] : List Value)[i]? := fun i hi => by
  rw [<- q4', zql hi, zqi]
 have HG2 : Hid (cur[2]? = some (.slice A5 x.f2.length c5)) := (hat 2 (by omega)).trans rfl
 have HG3 : Hid (cur[3]? = some (.slice A6 x.f3.length c6)) := (hat 3 (by omega)).trans rfl
 have HAt := zpt hat; have HCap : Hid (cur.size = cG * 5 /\ 1 <= cG /\ cG <= maxLen) := ⟨q3, q1, q2⟩; have hGB : w.heap.size ≠ G := by have := za1 HK5.out; omega
 have hGZ : w.heap.size + 1 ≠ G := by have := za1 HZ5.out; omega
 have HGb : Hid (w.heap.size <= G) := by show _ <= _; have := za1 HK5.out; omega
 have hK6 := zai HK5.out hb6; have HB7 := zpt ((zac HB5.out HB5.out.size hb6).setCell (p := ⟨w.heap.size, 4, none⟩) (zpx _) (.slice (some ⟨G, 0, none⟩) 1 cG)); have HK7 : Hid ((w6.setCell ⟨w.heap.size, 4, none⟩ (.slice (some ⟨G, 0, none⟩) 1 cG)).heap[w.heap.size]? = some (.cells #[.string f0, .slice X1 (zae l1).length d1, .slice X2 (zae l2).length d2, .slice X3 (zae l3).length d3, .slice (some ⟨G, 0, none⟩) 1 cG] 45 (0, 0))) := zav hK6 4 _ rfl; have HZ7 := zpt (zaP (zai HZ5.out hb6) (p := ⟨w.heap.size, 4, none⟩) (by show w.heap.size + 1 ≠ w.heap.size; omega) (.slice (some ⟨G, 0, none⟩) 1 cG))
 have HG7 := zpt (zaP hG (p := ⟨w.heap.size, 4, none⟩) hGB.symm (.slice (some ⟨G, 0, none⟩) 1 cG)); have HO17 := zpt (zqK (zqu HO15.out hb6) hK6 (by decide) 4 (.slice (some ⟨G, 0, none⟩) 1 cG))
 have HO27 := zpt (zqK (zqu HO25.out hb6) hK6 (by decide) 4 (.slice (some ⟨G, 0, none⟩) 1 cG))
 have HO37 := zpt (zqK (zqu HO35.out hb6) hK6 (by decide) 4 (.slice (some ⟨G, 0, none⟩) 1 cG))
 have c46 := bc4 hK6; have f46 : w6.frozen? ⟨w.heap.size, 4, none⟩ = false := zak hK6 4; have k47 : ∀ v, (w6.setCell ⟨w.heap.size, 4, none⟩ v).cell? ⟨w.heap.size, 4, none⟩ = some v := fun v => (zah (zbT hK6 4 v) 4).trans rfl
 clear hcl hb6 hrep ho6 hbase hG q1 q2 q3 q4 hin q4' hat hK6 HO15 HO25 HO35 HZ5 HK5 HB5; go_wp2_with fail; generalize w6.setCell ⟨w.heap.size, 4, none⟩ (.slice (some ⟨G, 0, none⟩) 1 cG) = w7 at HB7 HK7 HZ7 HG7 HO17 HO27 HO37 |-; clear c46 f46 k47; go_loopg [3, 23] 1 (fun gg _ s23 wr => ∃ kk : Nat, kk <= 1 /\ 1 - kk <= gg /\ s23 = .int .i64 kk /\ Aside0 (Below w.heap.size w wr) /\ Aside0 (wr.heap[w.heap.size]? = some (.cells #[.string f0, .slice X1 (zae l1).length d1, .slice X2 (zae l2).length d2, .slice X3 (zae l3).length d3, .slice (some ⟨G, 0, none⟩) 1 cG] 45 (0, 0))) /\ Aside0 (wr.heap[w.heap.size + 1]? = some (.cells RUz 45 (0, 0))) /\ Aside0 (RS wr w.heap.size (.slice X1 (zae l1).length d1) (zae l1)) /\ Aside0 (RS wr w.heap.size (.slice X2 (zae l2).length d2) (zae l2)) /\ Aside0 (RS wr w.heap.size (.slice X3 (zae l3).length d3) (zae l3)) /\
  Aside0 (kk = 0 -> wr.heap[G]? = some (.cells cur 24 (0, 0))) /\
  Aside0 (kk = 1 -> ∃ X5 d5 X6 d6, wr.heap[G]? = some (.cells ((cur.setIfInBounds 2 (.slice X5 x.f2.length d5)).setIfInBounds 3 (.slice X6 x.f3.length d6)) 24 (0, 0)) /\ Kd.R zqb 9 wr w.heap.size (fun k => k ≠ G) (.slice X5 x.f2.length d5) x.f2 /\ Kd.R zqb 9 wr w.heap.size (fun k => k ≠ G) (.slice X6 x.f3.length d6) x.f3))
 case atStart => exact ⟨0, by omega, by omega, rfl, ⟨HB7.out⟩, ⟨HK7.out⟩, ⟨HZ7.out⟩, ⟨HO17.out⟩, ⟨HO27.out⟩, ⟨HO37.out⟩, ⟨fun _ => HG7.out⟩, ⟨fun h => by omega⟩⟩
 case round =>
  obtain ⟨kk, hkk, hgk, rfl, HB8, HK8, HZ8, HO18, HO28, HO38, HP0, HP1⟩ := hrel; by_cases h0 : kk = 0
  . subst h0
    have HG8 := zpt (HP0.out rfl); go_wp2_with fail; have HBwe := zpt (zaM HB8.out); have HKwe := zpt (zaH HK8.out); have HZwe := zpt (zaH HZ8.out); have HGwe := zpt (zaH HG8.out); have dr : Below wr.heap.size wr wr.drew := ⟨rfl, rfl, rfl, zpx _, fun _ _ => rfl⟩
    have HO1we := zpt (zqu HO18.out dr); have HO2we := zpt (zqu HO28.out dr); have HO3we := zpt (zqu HO38.out dr); have HC5we := zpt (zqS H5.out HBwe.out); have HC6we := zpt (zqS H6.out HBwe.out); have k4we := bc4 HKwe.out; have k5we : wr.drew.cell? ⟨G, 2, none⟩ = some (.slice A5 x.f2.length c5) := (zah HGwe.out 2).trans HG2.out; have k6we : wr.drew.cell? ⟨G, 3, none⟩ = some (.slice A6 x.f3.length c6) := (zah HGwe.out 3).trans HG3.out; clear dr HB8 HK8 HZ8 HG8 HO18 HO28 HO38 HP0 HP1
--REG6
    refine zdy (n := 26) (S := fun w' => w'.cell? ⟨w.heap.size, 4, none⟩ = some (.slice (some ⟨G, 0, none⟩) 1 cG)) (ds := []) (bm 26 0) (by kernel_rfl) rfl (by kernel_rfl) (k4we) (fun hHeld => ?_)
    refine zaF (i := 0) (N := some 26) (v := ?_) (a' := ?_) (bm 26 1) rfl rfl (by kernel_rfl) (fun _ _ _ h => h) (zqY ⟨by rfl, ?_⟩) ?_ ?_
    rotate_left
    . intro w'
      go_simp
      with_reducible rfl
    rotate_left
    . simp only [Act.put, zqZ, zq0, zq1, zaf, zag]
      rfl
    refine zaF (i := 2) (N := some 28) (v := ?_) (a' := ?_) (bm 26 5) rfl rfl (by kernel_rfl) (fun _ _ _ h => h) (zqY ⟨by rfl, ?_⟩) ?_ ?_
    rotate_left
    . intro w'
      go_simp
      with_reducible rfl
    rotate_left
    . simp only [Act.put, zqZ, zq0, zq1, zaf, zag]
      rfl
    refine zaF (i := 3) (N := some 29) (v := ?_) (a' := ?_) (bm 26 13) rfl rfl (by kernel_rfl) (fun _ _ _ h => h) (zqY ⟨by rfl, ?_⟩) ?_ ?_
    rotate_left
    . intro w'
      go_simp
      with_reducible rfl
    rotate_left
    . simp only [Act.put, zqZ, zq0, zq1, zaf, zag]
      rfl
    refine zaF (i := 5) (N := some 31) (v := ?_) (a' := ?_) (bm 26 45) rfl rfl (by kernel_rfl) (fun _ _ _ h => h) (zqY ⟨by rfl, ?_⟩) ?_ ?_
    rotate_left
    . intro w'
      go_simp
      with_reducible rfl
    rotate_left
    . simp only [Act.put, zqZ, zq0, zq1, zaf, zag]
      rfl
    refine zaF (i := 6) (N := some 32) (v := ?_) (a' := ?_) (bm 26 109) rfl rfl (by kernel_rfl) (fun _ _ _ h => h) (zqY ⟨by rfl, ?_⟩) ?_ ?_
    rotate_left
    . intro w'
      go_simp
      with_reducible rfl
    rotate_left
    . simp only [Act.put, zqZ, zq0, zq1, zaf, zag]
      rfl
    refine zaF (i := 8) (N := some 34) (v := ?_) (a' := ?_) (bm 26 365) rfl rfl (by kernel_rfl) (fun _ _ _ h => h) (zqY ⟨by rfl, ?_⟩) ?_ ?_
    rotate_left
    . intro w'
      go_simp
      with_reducible rfl
    rotate_left
    . simp only [Act.put, zqZ, zq0, zq1, zaf, zag]
      rfl
    refine zaF (i := 13) (N := some 39) (v := ?_) (a' := ?_) (bm 26 8557) rfl rfl (by kernel_rfl) (fun _ _ _ h => h) (zqY ⟨by rfl, ?_⟩) ?_ ?_
    rotate_left
    . intro w'
      go_simp
      with_reducible rfl
    rotate_left
    . simp only [Act.put, zqZ, zq0, zq1, zaf, zag]
      rfl
    refine zaF (i := 15) (N := some 41) (v := ?_) (a' := ?_) (bm 26 41325) rfl rfl (by kernel_rfl) (fun _ _ _ h => h) (zqY ⟨by rfl, ?_⟩) ?_ ?_
    rotate_left
    . intro w'
      go_simp
      with_reducible rfl
    rotate_left
    . simp only [Act.put, zqZ, zq0, zq1, zaf, zag]
      rfl
    refine take_ (i := 1) (N := some 27) (v := ?_) (a' := ?_) (bm 26 41327) rfl rfl (by kernel_rfl) (fun _ _ _ h => h) (zqY ⟨by rfl, ?_⟩) hHeld ?_ ?_
    rotate_left
    . intro w' s0
      go_simp
      with_reducible rfl
    rotate_left
    . simp only [Act.put, zqZ, zq0, zq1, zaf, zag]
      rfl
    refine take_ (i := 4) (N := some 30) (v := ?_) (a' := ?_) (bm 26 41343) rfl rfl (by kernel_rfl) (fun _ _ _ h => h) (zqY ⟨by rfl, ?_⟩) hHeld ?_ ?_
    rotate_left
    . intro w' s0
      go_simp
      with_reducible rfl
    rotate_left
    . simp only [Act.put, zqZ, zq0, zq1, zaf, zag]
      rfl
    refine take_ (i := 7) (N := some 33) (v := ?_) (a' := ?_) (bm 26 41471) rfl rfl (by kernel_rfl) (fun _ _ _ h => h) (zqY ⟨by rfl, ?_⟩) hHeld ?_ ?_
    rotate_left
    . intro w' s0
      go_simp
      with_reducible rfl
    rotate_left
    . simp only [Act.put, zqZ, zq0, zq1, zaf, zag]
      rfl
    refine zaF (i := 9) (N := some 35) (v := ?_) (a' := ?_) (bm 26 41983) rfl rfl (by kernel_rfl) (fun _ _ _ h => h) (zqY ⟨by rfl, ?_⟩) ?_ ?_
    rotate_left
    . intro w'
      go_simp
      with_reducible rfl
    rotate_left
    . simp only [Act.put, zqZ, zq0, zq1, zaf, zag]
      rfl
    refine zaF (i := 10) (N := some 36) (v := ?_) (a' := ?_) (bm 26 43007) rfl rfl (by kernel_rfl) (fun _ _ _ h => h) (zqY ⟨by rfl, ?_⟩) ?_ ?_
    rotate_left
    . intro w'
      go_simp
      with_reducible rfl
    rotate_left
    . simp only [Act.put, zqZ, zq0, zq1, zaf, zag]
      rfl
    refine take_ (i := 14) (N := some 40) (v := ?_) (a' := ?_) (bm 26 59391) rfl rfl (by kernel_rfl) (fun _ _ _ h => h) (zqY ⟨by rfl, ?_⟩) hHeld ?_ ?_
    rotate_left
    . intro w' s0
      go_simp
      with_reducible rfl
    rotate_left
    . simp only [Act.put, zqZ, zq0, zq1, zaf, zag]
      rfl
    refine zaF (i := 16) (N := some 42) (v := ?_) (a' := ?_) (bm 26 124927) rfl rfl (by kernel_rfl) (fun _ _ _ h => h) (zqY ⟨by rfl, ?_⟩) ?_ ?_
    rotate_left
    . intro w'
      go_simp
      with_reducible rfl
    rotate_left
    . simp only [Act.put, zqZ, zq0, zq1, zaf, zag]
      rfl
    refine zaF (i := 17) (N := some 43) (v := ?_) (a' := ?_) (bm 26 255999) rfl rfl (by kernel_rfl) (fun _ _ _ h => h) (zqY ⟨by rfl, ?_⟩) ?_ ?_
    rotate_left
    . intro w'
      go_simp
      with_reducible rfl
    rotate_left
    . simp only [Act.put, zqZ, zq0, zq1, zaf, zag]
      rfl
    refine join_ (σ := Option Addr × Nat) 7 (bm 26 524287) (fun s => [(37, .slice A5 x.f2.length c5), (38, .slice s.1 x.f2.length s.2), (44, .slice A6 x.f3.length c6)]) (fun s w' => Below w.heap.size w w' /\ w'.heap[w.heap.size]? = some (.cells #[.string f0, .slice X1 (zae l1).length d1, .slice X2 (zae l2).length d2, .slice X3 (zae l3).length d3, .slice (some ⟨G, 0, none⟩) 1 cG] 45 (0, 0)) /\ w'.heap[w.heap.size + 1]? = some (.cells RUz 45 (0, 0)) /\ w'.heap[G]? = some (.cells cur 24 (0, 0)) /\ RS w' w.heap.size (.slice X1 (zae l1).length d1) (zae l1) /\ RS w' w.heap.size (.slice X2 (zae l2).length d2) (zae l2) /\ RS w' w.heap.size (.slice X3 (zae l3).length d3) (zae l3) /\ Kd.C zqb w' A6 x.f3.length x.f3 /\ Kd.R zqb 9 w' w.heap.size (fun k => k ≠ G) (.slice s.1 x.f2.length s.2) x.f2) ?_ ?_
    rotate_left
    . intro hCont
      refine two_ (i := 11) (j := 18) (Ni := some 37) (Nj := some 44) (bm 26 258047) (bm 26 518143) rfl rfl rfl rfl (by kernel_rfl) (by decide) (by decide) (fun K hK => ?_) (fun K hK => ?_)
      . skip
        refine zcC (w1 := ?_) (v := ?_) (by rfl) rfl ?_ ?_
        rotate_left 2
        . go_simp
          constructor
          . rfl
          . rfl
        refine hK.out _ _ (k4we) (fun hHeld => ?_)
        clear hK K; refine za6 (a' := ?_) ?_ ?_; rotate_left
        . show Act.put _ (some 37) _ = _
          simp only [Act.put, zqZ, zq0, zq1, zaf, zag]; rfl
        refine two_ (i := 12) (j := 18) (Ni := some 38) (Nj := some 44) (bm 26 262143) (bm 26 520191) rfl rfl rfl rfl (by kernel_rfl) (by decide) (by decide) (fun K hK => ?_) (fun K hK => ?_)
        . skip
          refine zb2 Tryz.func99 (by kernel_rfl) rfl #[.slice A5 x.f2.length c5] (by rfl) rfl rfl (by simp only [zpW, zpX, zpY]; rfl) ?_
          with_reducible refine (zc6 A5 c5 x.f2 _ HC5we.out HL5.out).mono ?_
          rintro e wf ⟨v5, rfl, ho5, hb5⟩; have hp5 : RS wf wr.drew.heap.size v5 x.f2 := Kd.R_of_own (h1 := fun _ => rfl) ho5 (fun _ _ => trivial)
          obtain ⟨X5, d5, rfl, _, _⟩ := zqq hp5; refine ⟨_, rfl, ?_⟩; have HBwf := zpt (zac HBwe.out HBwe.out.size hb5); have HKwf := zpt (zai HKwe.out hb5); have HZwf := zpt (zai HZwe.out hb5); have HGwf := zpt (zai HGwe.out hb5); have HO1wf := zpt (zqu HO1we.out hb5); have HO2wf := zpt (zqu HO2we.out hb5); have HO3wf := zpt (zqu HO3we.out hb5); have HC6wf := zpt (zqS HC6we.out hb5); have HO5wf := zpt (ze0 (base := w.heap.size) hp5 (za1 HGwe.out) HBwe.out.size); have k4wf := bc4 HKwf.out; have k6wf : wf.cell? ⟨G, 3, none⟩ = some (.slice A6 x.f3.length c6) := (zah HGwf.out 3).trans HG3.out; clear ho5 hp5 hb5; refine hK.out _ _ (k4wf) (fun hHeld => ?_)
          clear hK K; refine za6 (a' := ?_) ?_ ?_; rotate_left
          . show Act.put _ (some 38) _ = _
            simp only [Act.put, zqZ, zq0, zq1, zaf, zag]; rfl
          refine one_ (i := 18) (N := some 44) (bm 26 524287) rfl rfl (by kernel_rfl) (by decide) (fun K hK => ?_)
          refine zcC (w1 := ?_) (v := ?_) (by rfl) rfl ?_ ?_
          rotate_left 2
          . go_simp
            constructor
            . rfl
            . rfl
          refine hK.out _ _ (k4wf) (fun hHeld => ?_)
          clear hK K; refine za6 (a' := ?_) ?_ ?_; rotate_left
          . show Act.put _ (some 44) _ = _
            simp only [Act.put, zqZ, zq0, zq1, zaf, zag]; rfl
          exact za6 (by simp only [zdb, Act.put, zqZ, zq0, zq1]) (hCont (X5, d5) _ ⟨HBwf.out, HKwf.out, HZwf.out, HGwf.out, HO1wf.out, HO2wf.out, HO3wf.out, HC6wf.out, HO5wf.out⟩)
        . skip
          refine zcC (w1 := ?_) (v := ?_) (by rfl) rfl ?_ ?_
          rotate_left 2
          . go_simp
            constructor
            . rfl
            . rfl
          refine hK.out _ _ (k4we) (fun hHeld => ?_)
          clear hK K; refine za6 (a' := ?_) ?_ ?_; rotate_left
          . show Act.put _ (some 44) _ = _
            simp only [Act.put, zqZ, zq0, zq1, zaf, zag]; rfl
          refine one_ (i := 12) (N := some 38) (bm 26 524287) rfl rfl (by kernel_rfl) (by decide) (fun K hK => ?_)
          refine zb2 Tryz.func99 (by kernel_rfl) rfl #[.slice A5 x.f2.length c5] (by rfl) rfl rfl (by simp only [zpW, zpX, zpY]; rfl) ?_
          with_reducible refine (zc6 A5 c5 x.f2 _ HC5we.out HL5.out).mono ?_
          rintro e wf ⟨v5, rfl, ho5, hb5⟩; have hp5 : RS wf wr.drew.heap.size v5 x.f2 := Kd.R_of_own (h1 := fun _ => rfl) ho5 (fun _ _ => trivial)
          obtain ⟨X5, d5, rfl, _, _⟩ := zqq hp5; refine ⟨_, rfl, ?_⟩; have HBwf := zpt (zac HBwe.out HBwe.out.size hb5); have HKwf := zpt (zai HKwe.out hb5); have HZwf := zpt (zai HZwe.out hb5); have HGwf := zpt (zai HGwe.out hb5); have HO1wf := zpt (zqu HO1we.out hb5); have HO2wf := zpt (zqu HO2we.out hb5); have HO3wf := zpt (zqu HO3we.out hb5); have HC6wf := zpt (zqS HC6we.out hb5); have HO5wf := zpt (ze0 (base := w.heap.size) hp5 (za1 HGwe.out) HBwe.out.size); have k4wf := bc4 HKwf.out; have k6wf : wf.cell? ⟨G, 3, none⟩ = some (.slice A6 x.f3.length c6) := (zah HGwf.out 3).trans HG3.out; clear ho5 hp5 hb5; refine hK.out _ _ (k4wf) (fun hHeld => ?_)
          clear hK K; refine za6 (a' := ?_) ?_ ?_; rotate_left
          . show Act.put _ (some 38) _ = _
            simp only [Act.put, zqZ, zq0, zq1, zaf, zag]; rfl
          exact za6 (by simp only [zdb, Act.put, zqZ, zq0, zq1]) (hCont (X5, d5) _ ⟨HBwf.out, HKwf.out, HZwf.out, HGwf.out, HO1wf.out, HO2wf.out, HO3wf.out, HC6wf.out, HO5wf.out⟩)
      . skip
        refine zcC (w1 := ?_) (v := ?_) (by rfl) rfl ?_ ?_
        rotate_left 2
        . go_simp
          constructor
          . rfl
          . rfl
        refine hK.out _ _ (k4we) (fun hHeld => ?_)
        clear hK K; refine za6 (a' := ?_) ?_ ?_; rotate_left
        . show Act.put _ (some 44) _ = _
          simp only [Act.put, zqZ, zq0, zq1, zaf, zag]; rfl
        refine one_ (i := 11) (N := some 37) (bm 26 520191) rfl rfl (by kernel_rfl) (by decide) (fun K hK => ?_)
        refine zcC (w1 := ?_) (v := ?_) (by rfl) rfl ?_ ?_
        rotate_left 2
        . go_simp
          constructor
          . rfl
          . rfl
        refine hK.out _ _ (k4we) (fun hHeld => ?_)
        clear hK K; refine za6 (a' := ?_) ?_ ?_; rotate_left
        . show Act.put _ (some 37) _ = _
          simp only [Act.put, zqZ, zq0, zq1, zaf, zag]; rfl
        refine one_ (i := 12) (N := some 38) (bm 26 524287) rfl rfl (by kernel_rfl) (by decide) (fun K hK => ?_)
        refine zb2 Tryz.func99 (by kernel_rfl) rfl #[.slice A5 x.f2.length c5] (by rfl) rfl rfl (by simp only [zpW, zpX, zpY]; rfl) ?_
        with_reducible refine (zc6 A5 c5 x.f2 _ HC5we.out HL5.out).mono ?_
        rintro e wf ⟨v5, rfl, ho5, hb5⟩; have hp5 : RS wf wr.drew.heap.size v5 x.f2 := Kd.R_of_own (h1 := fun _ => rfl) ho5 (fun _ _ => trivial)
        obtain ⟨X5, d5, rfl, _, _⟩ := zqq hp5; refine ⟨_, rfl, ?_⟩; have HBwf := zpt (zac HBwe.out HBwe.out.size hb5); have HKwf := zpt (zai HKwe.out hb5); have HZwf := zpt (zai HZwe.out hb5); have HGwf := zpt (zai HGwe.out hb5); have HO1wf := zpt (zqu HO1we.out hb5); have HO2wf := zpt (zqu HO2we.out hb5); have HO3wf := zpt (zqu HO3we.out hb5); have HC6wf := zpt (zqS HC6we.out hb5); have HO5wf := zpt (ze0 (base := w.heap.size) hp5 (za1 HGwe.out) HBwe.out.size); have k4wf := bc4 HKwf.out; have k6wf : wf.cell? ⟨G, 3, none⟩ = some (.slice A6 x.f3.length c6) := (zah HGwf.out 3).trans HG3.out; clear ho5 hp5 hb5; refine hK.out _ _ (k4wf) (fun hHeld => ?_)
        clear hK K; refine za6 (a' := ?_) ?_ ?_; rotate_left
        . show Act.put _ (some 38) _ = _
          simp only [Act.put, zqZ, zq0, zq1, zaf, zag]; rfl
        exact za6 (by simp only [zdb, Act.put, zqZ, zq0, zq1]) (hCont (X5, d5) _ ⟨HBwf.out, HKwf.out, HZwf.out, HGwf.out, HO1wf.out, HO2wf.out, HO3wf.out, HC6wf.out, HO5wf.out⟩)
    rintro ⟨X5, d5⟩ wf ⟨fb, fk, fz, fg, f1, f2, f3, f6, f5⟩; have HBwf := zpt fb; have HKwf := zpt fk; have HZwf := zpt fz; have HGwf := zpt fg; have HO1wf := zpt f1; have HO2wf := zpt f2; have HO3wf := zpt f3; have HC6wf := zpt f6; have HO5wf := zpt f5; clear fb fk fz fg f1 f2 f3 f6 f5; have k4wf := bc4 HKwf.out; have hHeld : wf.cell? ⟨w.heap.size, 4, none⟩ = some (.slice (some ⟨G, 0, none⟩) 1 cG) := k4wf; refine za6 (a' := ?_) ?_ ?_; rotate_left
    . simp only [zdb, Act.put, zqZ, zq0, zq1]
      rfl
    refine one_ (i := 19) (N := some 45) (bm 26 1048575) rfl rfl (by kernel_rfl) (by decide) (fun K hK => ?_)
    refine zb2 Tryz.func99 (by kernel_rfl) rfl #[.slice A6 x.f3.length c6] (by rfl) rfl rfl (by simp only [zpW, zpX, zpY]; rfl) ?_
    with_reducible refine (zc6 A6 c6 x.f3 _ HC6wf.out HL6.out).mono ?_
    rintro e wg ⟨v6, rfl, ho6, hb6⟩; have hp6 : RS wg wf.heap.size v6 x.f3 := Kd.R_of_own (h1 := fun _ => rfl) ho6 (fun _ _ => trivial)
    obtain ⟨X6, d6, rfl, _, _⟩ := zqq hp6; refine ⟨_, rfl, ?_⟩; have HBwg := zpt (zac HBwf.out HBwf.out.size hb6); have HKwg := zpt (zai HKwf.out hb6); have HZwg := zpt (zai HZwf.out hb6); have HGwg := zpt (zai HGwf.out hb6); have HO1wg := zpt (zqu HO1wf.out hb6); have HO2wg := zpt (zqu HO2wf.out hb6); have HO3wg := zpt (zqu HO3wf.out hb6); have HO5wg := zpt (zqu HO5wf.out hb6); have HO6wg := zpt (ze0 (base := w.heap.size) hp6 (za1 HGwf.out) HBwf.out.size); have k4wg := bc4 HKwg.out; clear ho6 hp6 hb6; refine hK.out _ _ (k4wg) (fun hHeld => ?_)
    clear hK K; refine za6 (a' := ?_) ?_ ?_; rotate_left
    . show Act.put _ (some 45) _ = _
      simp only [Act.put, zqZ, zq0, zq1, zaf, zag]; rfl
    refine zaF (i := 20) (N := some 46) (v := ?_) (a' := ?_) (bm 26 2097151) rfl rfl (by kernel_rfl) (fun _ _ _ h => h) (zqY ⟨by rfl, ?_⟩) ?_ ?_
    rotate_left
    . intro w'
      go_simp
      with_reducible rfl
    rotate_left
    . simp only [Act.put, zqZ, zq0, zq1, zaf, zag]
      rfl
    refine zaF (i := 21) (N := some 47) (v := ?_) (a' := ?_) (bm 26 4194303) rfl rfl (by kernel_rfl) (fun _ _ _ h => h) (zqY ⟨by rfl, ?_⟩) ?_ ?_
    rotate_left
    . intro w'
      go_simp
      with_reducible rfl
    rotate_left
    . simp only [Act.put, zqZ, zq0, zq1, zaf, zag]
      rfl
    refine one_ (i := 22) (N := none) (bm 26 8388607) rfl rfl (by kernel_rfl) (by decide) (fun K hK => ?_)
    have hs5 := HGwg.out; have hs6 := zbT hs5 2 (.slice X5 x.f2.length d5); have cs5 : wg.cell? ⟨G, 2, none⟩ = some (.slice A5 x.f2.length c5) := (zah hs5 2).trans HG2.out; have fs5 := zak hs5 2; have hkb := zaP HKwg.out (p := ⟨G, 2, none⟩) hGB (.slice X5 x.f2.length d5); have k4wh := bc4 hkb; refine zcQ (w1 := ?_) (by rfl) rfl ?_ ?_
    rotate_left
    . go_simp
      rfl
    refine hK.out _ _ (k4wh) (fun hHeld => ?_)
    clear hK K; refine zaF (i := 23) (N := some 48) (v := ?_) (a' := ?_) (bm 26 16777215) rfl rfl (by kernel_rfl) (fun _ _ _ h => h) (zqY ⟨by rfl, ?_⟩) ?_ ?_
    rotate_left
    . intro w'
      go_simp
      with_reducible rfl
    rotate_left
    . simp only [Act.put, zqZ, zq0, zq1, zaf, zag]
      rfl
    refine zaF (i := 24) (N := some 49) (v := ?_) (a' := ?_) (bm 26 33554431) rfl rfl (by kernel_rfl) (fun _ _ _ h => h) (zqY ⟨by rfl, ?_⟩) ?_ ?_
    rotate_left
    . intro w'
      go_simp
      with_reducible rfl
    rotate_left
    . simp only [Act.put, zqZ, zq0, zq1, zaf, zag]
      rfl
    refine one_ (i := 25) (N := none) (bm 26 67108863) rfl rfl (by kernel_rfl) (by decide) (fun K hK => ?_)
    have cs6 : (wg.setCell ⟨G, 2, none⟩ (.slice X5 x.f2.length d5)).cell? ⟨G, 3, none⟩ = some (.slice A6 x.f3.length c6) := (zah hs6 3).trans (zj2 HG3.out rfl (by decide))
    have fs6 := zak hs6 3; have hkc := zaP hkb (p := ⟨G, 3, none⟩) hGB (.slice X6 x.f3.length d6); have k4wi := bc4 hkc; refine zcQ (w1 := ?_) (by rfl) rfl ?_ ?_
    rotate_left
    . go_simp
      rfl
    refine hK.out _ _ (k4wi) (fun hHeld => ?_)
    clear hK K; refine zcF (by kernel_rfl) ?_
--REG6E
    go_wp2; have hB9 := (HBwg.out.setCell (p := ⟨G, 2, none⟩) HGb.out (.slice X5 x.f2.length d5)).setCell (p := ⟨G, 3, none⟩) HGb.out (.slice X6 x.f3.length d6); have hZ9 := zaP (zaP HZwg.out (p := ⟨G, 2, none⟩) hGZ (.slice X5 x.f2.length d5)) (p := ⟨G, 3, none⟩) hGZ (.slice X6 x.f3.length d6); have hG9 := zbT hs6 3 (.slice X6 x.f3.length d6); have hO19 := zqK (zqK HO1wg.out hs5 (by decide) 2 (.slice X5 x.f2.length d5)) hs6 (by decide) 3 (.slice X6 x.f3.length d6)
    have hO29 := zqK (zqK HO2wg.out hs5 (by decide) 2 (.slice X5 x.f2.length d5)) hs6 (by decide) 3 (.slice X6 x.f3.length d6)
    have hO39 := zqK (zqK HO3wg.out hs5 (by decide) 2 (.slice X5 x.f2.length d5)) hs6 (by decide) 3 (.slice X6 x.f3.length d6)
    have hO59 := Kd.R_far (p := ⟨G, 3, none⟩) (Kd.R_far (p := ⟨G, 2, none⟩) HO5wg.out (fun _ h => h) (.slice X5 x.f2.length d5)) (fun _ h => h) (.slice X6 x.f3.length d6)
    have hO69 := Kd.R_far (p := ⟨G, 3, none⟩) (Kd.R_far (p := ⟨G, 2, none⟩) HO6wg.out (fun _ h => h) (.slice X5 x.f2.length d5)) (fun _ h => h) (.slice X6 x.f3.length d6)
    go_roundg 0
    case measure => omega
    case rel => exact ⟨1, by omega, by omega, by first | rfl | go_num, ⟨hB9⟩, ⟨hkc⟩, ⟨hZ9⟩, ⟨hO19⟩, ⟨hO29⟩, ⟨hO39⟩, ⟨fun h => by omega⟩, ⟨fun _ => ⟨X5, d5, X6, d6, hG9, hO59, hO69⟩⟩⟩
  . obtain rfl : kk = 1 := by omega
    obtain ⟨X5, d5, X6, d6, hG1, hr5, hr6⟩ := HP1.out rfl; have HG1 := zpt hG1; have HR5 := zpt hr5; have HR6 := zpt hr6; have k0 := bc0 HK8.out; have k1 := bc1 HK8.out; have k2 := bc2 HK8.out; have k3 := bc3 HK8.out; have k4 := bc4 HK8.out; have r0 := bc0 HZ8.out; have r1 := bc1 HZ8.out; have r2 := bc2 HZ8.out; have r3 := bc3 HZ8.out; have r4 := bc4 HZ8.out; have z0 := zak HZ8.out 0; have z1 := zak HZ8.out 1; have z2 := zak HZ8.out 2; have z3 := zak HZ8.out 3; have z4 := zak HZ8.out 4; clear hG1 hr5 hr6 HP0 HP1; go_wp2; have hs := zcl (.string f0) (.slice X1 (zae l1).length d1) (.slice X2 (zae l2).length d2) (.slice X3 (zae l3).length d3) (.slice (some ⟨G, 0, none⟩) 1 cG) HZ8.out; have hA := RS.set5 HO18.out (.string f0) (.slice X1 (zae l1).length d1) (.slice X2 (zae l2).length d2) (.slice X3 (zae l3).length d3) (.slice (some ⟨G, 0, none⟩) 1 cG) HZ8.out (by decide)
    have hB := RS.set5 HO28.out (.string f0) (.slice X1 (zae l1).length d1) (.slice X2 (zae l2).length d2) (.slice X3 (zae l3).length d3) (.slice (some ⟨G, 0, none⟩) 1 cG) HZ8.out (by decide)
    have hC := RS.set5 HO38.out (.string f0) (.slice X1 (zae l1).length d1) (.slice X2 (zae l2).length d2) (.slice X3 (zae l3).length d3) (.slice (some ⟨G, 0, none⟩) 1 cG) HZ8.out (by decide)
    have hle : w.heap.size <= w.heap.size + 1 := Nat.le_succ _; have hD := ((((HB8.out.setCell (p := ⟨w.heap.size + 1, 0, none⟩) hle (.string f0)).setCell (p := ⟨w.heap.size + 1, 1, none⟩) hle (.slice X1 (zae l1).length d1)).setCell (p := ⟨w.heap.size + 1, 2, none⟩) hle (.slice X2 (zae l2).length d2)).setCell (p := ⟨w.heap.size + 1, 3, none⟩) hle (.slice X3 (zae l3).length d3)).setCell (p := ⟨w.heap.size + 1, 4, none⟩) hle (.slice (some ⟨G, 0, none⟩) 1 cG); have mv : ∀ k : Nat, k ≠ w.heap.size + 1 -> (set5 wr (w.heap.size + 1) (.string f0) (.slice X1 (zae l1).length d1) (.slice X2 (zae l2).length d2) (.slice X3 (zae l3).length d3) (.slice (some ⟨G, 0, none⟩) 1 cG)).heap[k]? = wr.heap[k]? := fun k hk => by
     unfold set5; rw [zpV _ _ _ _ hk, zpV _ _ _ _ hk, zpV _ _ _ _ hk, zpV _ _ _ _ hk, zpV _ _ _ _ hk]
    have hE := (mv G hGZ.symm).trans HG1.out; have nz : ∀ {X : Option Addr} {n d : Nat} {l : List ByteArray}, Kd.R zqb 9 wr w.heap.size (fun k => k ≠ G) (.slice X n d) l -> Kd.R zqb 9 (set5 wr (w.heap.size + 1) (.string f0) (.slice X1 (zae l1).length d1) (.slice X2 (zae l2).length d2) (.slice X3 (zae l3).length d3) (.slice (some ⟨G, 0, none⟩) 1 cG)) w.heap.size (fun k => True /\ some k ≠ (Value.slice (some (⟨G, 0, none⟩ : Addr)) 1 cG).ownBlock) (.slice X n d) l := fun h => by
     refine Kd.R_mono (Kd.R_move (Kd.R_types h HZ8.out (by decide)) (fun k hk => mv k hk.2)) (fun k hk => ⟨trivial, fun e => hk.1 ?_⟩)
     simpa [Value.ownBlock] using e
    have hF := nz HR5.out; have hH := nz HR6.out; clear k0 k1 k2 k3 k4 r0 r1 r2 r3 r4 z0 z1 z2 z3 z4 mv nz; unfold set5 at hs hA hB hC hE hF hH; generalize ((((wr.setCell ⟨w.heap.size + 1, 0, none⟩ (.string f0)).setCell ⟨w.heap.size + 1, 1, none⟩ (.slice X1 (zae l1).length d1)).setCell ⟨w.heap.size + 1, 2, none⟩ (.slice X2 (zae l2).length d2)).setCell ⟨w.heap.size + 1, 3, none⟩ (.slice X3 (zae l3).length d3)).setCell ⟨w.heap.size + 1, 4, none⟩ (.slice (some ⟨G, 0, none⟩) 1 cG) = wE at hs hA hB hC hD hE hF hH |-; have g0 := (zah hs 0).trans rfl; have g1 := (zah hs 1).trans rfl; have g2 := (zah hs 2).trans rfl; have g3 := (zah hs 3).trans rfl; have g4 := (zah hs 4).trans rfl; have hrow : Kd.R k24 24 wE w.heap.size (fun _ => True) (.slice (some ⟨G, 0, none⟩) 1 cG) [x] := by
     have hcells : [Value.string x.f0, .int .i64 x.f1, .slice X5 x.f2.length d5, .slice X6 x.f3.length d6, .int .i64 x.f4] = ((cur.setIfInBounds 2 (.slice X5 x.f2.length d5)).setIfInBounds 3 (.slice X6 x.f3.length d6)).toList.take 5 := by
      have hsz := HCap.out; apply List.ext_getElem?
      intro i; rcases Nat.lt_or_ge i 5 with hi | hi
      . rw [zql hi]
        conv => rhs; rw [zqi, Array.getElem?_setIfInBounds, Array.getElem?_setIfInBounds]
        have h := HAt.out i hi; have h2 : 2 < cur.size := by omega
        have h3 : 3 < cur.size := by omega
        match i, hi with
        | 0, _ => simp at h |-; exact h.symm
        | 1, _ => simp at h |-; exact h.symm
        | 2, _ => simp [h2]
        | 3, _ => simp [h3]
        | 4, _ => simp at h |-; exact h.symm
      . rw [zp3 (by simpa using hi), zp3 (by rw [List.length_take]; omega)]
     refine ⟨fun _ _ => trivial, [Value.string x.f0, .int .i64 x.f1, .slice X5 x.f2.length d5, .slice X6 x.f3.length d6, .int .i64 x.f4], ⟨rfl, .inr ⟨G, cG, _, rfl, HGb.out, hE, HCap.out.2.1, HCap.out.2.2, ?_, ?_⟩⟩, rfl, fun j p hj => ?_⟩
     . rw [Array.size_setIfInBounds, Array.size_setIfInBounds]; exact HCap.out.1
     . exact hcells.symm
     . match j, hj with
       | 0, hj =>
        simp at hj
        subst hj; exact zfz _ _ _ _ hF hH
       | j + 1, hj => simp at hj
    exact bodyPost_ret (v := .agg #[.string f0, .slice X1 (zae l1).length d1, .slice X2 (zae l2).length d2, .slice X3 (zae l3).length d3, .slice (some ⟨G, 0, none⟩) 1 cG]) (by simp [results, Tryz.results147, go_sem, g0, g1, g2, g3, g4]) rfl ⟨_, _, _, _, _, _, _, _, rfl, hA, hB, hC, hrow, hD⟩
theorem zmB (A : Option Addr) (n c : Nat) (hn : n <= 1) (cmp : Value) (w : World) :
 Calls zp5 226 #[.slice A n c, .int .i64 0, .int .i64 n, cmp] w fun e w' => e = .returned (.tuple #[]) /\ w = w' := by
 have h1 : ¬ (1 : Int) < (n : Int) := by omega
 go_enter Tryz.func226, Tryz.ntmps226
 go_wp2_with fail; go_loopg [8, 9] 0 (fun _ s8 _ wr => s8 = .int .i64 1 /\ wr = w)
 case atStart => exact ⟨rfl, rfl⟩
 case round =>
  obtain ⟨rfl, rfl⟩ := hrel; go_wp2; go_end0
  exact ⟨rfl, rfl⟩
theorem zl2 (A : Option Addr) (n c : Nat) (hn : n <= 1) (cmp : Value) (w : World) :
 Calls zp5 200 #[.slice A n c, .int .i64 n, cmp] w fun e w' => e = .returned (.tuple #[]) /\ w = w' := by
 have h1 : ¬ (20 : Int) <= (n : Int) := by omega
 have h2 : ¬ (20 : Int) < (n : Int) := by omega
 have hI := fun W => zmB A n c hn cmp W
 go_enter Tryz.func200, Tryz.ntmps200
 go_wp2_with fail; go_loopg [7, 8] 0 (fun _ s7 s8 wr => s7 = .int .i64 0 /\ s8 = .int .i64 20 /\ wr = w)
 case atStart => exact ⟨rfl, rfl, rfl⟩
 case round =>
  obtain ⟨rfl, rfl, rfl⟩ := hrel; go_wp2_with (go_at_call 226; refine (hI _).mono ?_; rintro e w' ⟨rfl, rfl⟩)
  go_loopg [6, 7, 8, 9] 0 (fun _ s6 _ _ _ wr' => s6 = .int .i64 20 /\ wr' = wr)
  case atStart => exact ⟨rfl, rfl⟩
  case round =>
   obtain ⟨rfl, rfl⟩ := hrel; go_wp2; go_end0
   exact ⟨rfl, rfl⟩
theorem znG (A : Option Addr) (n c : Nat) (hn : n <= 1) (cmp : Value) (w : World) :
 Calls zp5 148 #[.slice A n c, cmp] w fun e w' => e = .returned (.tuple #[]) /\ w = w' := by
 have hI := fun W => zl2 A n c hn cmp W
 go_enter Tryz.func148, Tryz.ntmps148
 go_wp2_with (go_at_call 200; refine (hI _).mono ?_; rintro e w' ⟨rfl, rfl⟩)
 go_end0
 exact ⟨rfl, rfl⟩
theorem zdF {ad : Addr} {m : Nat} : ad.add ((0 : Int).toNat * m + 0) = ad := by simp [Addr.add]
theorem at_next (ad : Addr) (j : Nat) (hj : 0 < j) {m : Nat} : ad.add ((0 : Int).toNat * m + j) = ⟨ad.block, ad.off + j, none⟩ := by
 rw [zca ad _ j hj]; simp [Addr.add]
theorem zhb (f0 : ByteArray) (l1 l2 l3 : List ByteArray) (x : zaw) (A : Option Addr) (c : Nat) (w : World) (h : Kd.C k45 w A 1 [⟨f0, l1, l2, l3, [x]⟩])
 (hl1 : l1.length * 16 <= 140737488355328) (hl2 : l2.length * 16 <= 140737488355328) (hl3 : l3.length * 16 <= 140737488355328) (hl5 : x.f2.length * 16 <= 140737488355328) (hl6 : x.f3.length * 16 <= 140737488355328) :
 Calls zp5 118 #[.slice A 1 c] w fun e w' => ∃ X d, e = .returned (.slice X 1 d) /\ Kd.R k45 45 w' w.heap.size (fun _ => True) (.slice X 1 d) [⟨f0, zae l1, zae l2, zae l3, [x]⟩] /\ Below w.heap.size w w' := by
 obtain ⟨ad, cs, rfl, hcl, hK, hcell⟩ := Kd.C_get h ⟨f0, l1, l2, l3, [x]⟩ 0 (by decide) (by decide)
 obtain ⟨A1, c1, A2, c2, A3, c3, A4, c4, hcs, _, h1, _, h2, _, h3, _, h4⟩ := zcB hK; subst hcs; have m0 : w.cell? ad = some (.string f0) := by have := hcell 0 _ rfl; rwa [zdF] at this
 have m1 : w.cell? ⟨ad.block, ad.off + 1, none⟩ = some (.slice A1 l1.length c1) := by have := hcell 1 _ rfl; rwa [at_next ad 1 (by decide)] at this
 have m2 : w.cell? ⟨ad.block, ad.off + 2, none⟩ = some (.slice A2 l2.length c2) := by have := hcell 2 _ rfl; rwa [at_next ad 2 (by decide)] at this
 have m3 : w.cell? ⟨ad.block, ad.off + 3, none⟩ = some (.slice A3 l3.length c3) := by have := hcell 3 _ rfl; rwa [at_next ad 3 (by decide)] at this
 have m4 : w.cell? ⟨ad.block, ad.off + 4, none⟩ = some (.slice A4 1 c4) := by have := hcell 4 _ rfl; rwa [at_next ad 4 (by decide)] at this
 have hO := fun W (hW : Below w.heap.size w W) => zht f0 l1 l2 l3 x A1 c1 A2 c2 A3 c3 A4 c4 W (zqS h1 hW) (zqS h2 hW) (zqS h3 hW) (zqS h4 hW) hl1 hl2 hl3 hl5 hl6
 have HO := zpt hO; clear hO h hcl hK hcell h1 h2 h3 h4 hl1 hl2 hl3 hl5 hl6; go_enter Tryz.func118, Tryz.ntmps118
 go_wp2_with fail; go_loopg [3, 8] 1 (fun gg s3 s8 wr => ∃ kk : Nat, kk <= 1 /\ 1 - kk <= gg /\ s8 = .int .i64 kk /\ Aside0 (kk = 0 -> s3 = .slice none 0 0 /\ wr = w) /\ Aside0 (kk = 1 -> ∃ X d, s3 = .slice X 1 d /\ Kd.R k45 45 wr w.heap.size (fun _ => True) (.slice X 1 d) [⟨f0, zae l1, zae l2, zae l3, [x]⟩] /\ Below w.heap.size w wr))
 case atStart => exact ⟨0, by omega, by omega, rfl, ⟨fun _ => ⟨rfl, rfl⟩⟩, ⟨fun h => by omega⟩⟩
 case round =>
  obtain ⟨kk, hkk, hgk, rfl, HP0, HP1⟩ := hrel; by_cases h0 : kk = 0
  . subst h0
    obtain ⟨rfl, rfl⟩ := HP0.out rfl; clear HP0 HP1; have hb1 := (zpw wr.heap.size wr).alloc (zpx _) (.cells #[.string f0, .slice A1 l1.length c1, .slice A2 l2.length c2, .slice A3 l3.length c3, .slice A4 1 c4] 45); have hcall := HO.out _ hb1; have HB1 := zpt hb1; clear hb1; go_wp2_with fail; refine hcall.mono ?_; rintro e w2 ⟨Y1, e1, Y2, e2, Y3, e3, Y4, e4, rfl, hr1, hr2, hr3, hr4, hb2⟩; have HB2 := zpt (zac HB1.out HB1.out.size hb2); have nn : ∀ k : Nat, (fun _ : Nat => True) k -> True /\ some k ≠ (Value.slice (none : Option Addr) 0 0).ownBlock := fun k _ => ⟨trivial, by simp [Value.ownBlock]⟩
    have HY1 := zpt (Kd.R_mono (zqJ hr1 HB1.out.size) nn); have HY2 := zpt (Kd.R_mono (zqJ hr2 HB1.out.size) nn); have HY3 := zpt (Kd.R_mono (zqJ hr3 HB1.out.size) nn); have HY4 := zpt (Kd.R_mono (zqJ hr4 HB1.out.size) nn); have HS2 : Hid (wr.heap.size <= w2.heap.size) := HB2.out.size; clear hr1 hr2 hr3 hr4 hb2 nn; go_wp2_with (first | ((with_reducible refine zaG (b := .append) (xs := #[.tmp 12, .tmp 15]) rfl ?_); at_builtin; refine Kd.R_append k45 (w0 := wr) wr.heap.size rfl (.tmp 12) (.tmp 15) 80 45 (.agg #[.string ⟨#[]⟩, .slice none 0 0, .slice none 0 0, .slice none 0 0, .slice none 0 0]) 112 rfl Tryz.underlying80 zhH rfl (by decide) (by decide) (.slice none 0 0) [] ⟨f0, zae l1, zae l2, zae l3, [x]⟩ [.string f0, .slice Y1 (zae l1).length e1, .slice Y2 (zae l2).length e2, .slice Y3 (zae l3).length e3, .slice Y4 1 e4] (fun _ => True) (fun k_ => True /\ some k_ ≠ (Value.slice none 0 0).ownBlock) rfl rfl (zh5 w2 wr.heap.size _ (⟨f0, zae l1, zae l2, zae l3, [x]⟩ : zaj) HY1.out HY2.out HY3.out HY4.out) (fun _ hk => hk) (fun _ _ => trivial) (Kd.R_nil _ _ _ _ _) HB2.out HS2.out ?aL ?_; (case aL => simp); intro v1 w4 ho hb hg hat; obtain ⟨X, d, rfl, _, _⟩ := zqq ho; have HR4 := zpt ho; have HB4 := zpt hb; clear ho hb hg hat))
    go_roundg 0
    case measure => omega
    case rel => exact ⟨1, by omega, by omega, by first | rfl | go_num, ⟨fun h => by omega⟩, ⟨fun _ => ⟨X, d, rfl, HR4.out, HB4.out⟩⟩⟩
  . obtain rfl : kk = 1 := by omega
    obtain ⟨X, d, rfl, hR, hB⟩ := HP1.out rfl; have hI := fun W => znG X 1 d (by decide) (.func (.func 149) #[] #[]) W
    have HR := zpt hR; have HB := zpt hB; clear HP0 HP1 hR hB; go_wp2_with (go_at_call 148; refine (hI _).mono ?_; rintro e w' ⟨rfl, rfl⟩)
    go_ret
    exact ⟨X, d, rfl, HR.out, HB.out⟩
def zcT (f0 : ByteArray) (l1 l2 l3 : List ByteArray) : zaa := [114, 117, 108, 101, 32] ++ f0.data.toList ++ [32, 123, 10] ++ zb8 [105, 110] (zae l1) ++ zb8 [111, 117, 116] (zae l2) ++ zb8 [97, 102, 116, 101, 114] (zae l3)
def zdj (f0 : ByteArray) (l1 l2 l3 : List ByteArray) (x : zaw) : zaa := zcT f0 l1 l2 l3 ++ ([32, 32] ++ zcR x ++ [10]) ++ [125, 10]
structure zfH (f0 : ByteArray) (l1 l2 l3 : List ByteArray) (x : zaw) : Prop where
 n0 : f0.size <= 1000000
 n1 : l1.length <= 1000
 n2 : l2.length <= 1000
 n3 : l3.length <= 1000
 j1 : (Lib.join (zbH (zae l1)) [44, 32]).length <= 1000000
 j2 : (Lib.join (zbH (zae l2)) [44, 32]).length <= 1000000
 j3 : (Lib.join (zbH (zae l3)) [44, 32]).length <= 1000000
 s1 : x.f1 ≠ 9
 s2 : x.f2.length <= 1000
 s3 : x.f3.length <= 1000
 sp : ∀ y ∈ x.f3, zi0 y
 sj : (Lib.join (zbH (zcK x)) [32]).length <= 1000000
theorem zdu {word : zaa} {l : List ByteArray} (hw : word.length <= 100) (hj : (Lib.join (zbH l) [44, 32]).length <= 1000000) : (zb8 word l).length <= 1000200 := by
 unfold zb8; split
 . simp
 . simp; omega
theorem znS (f0 : ByteArray) (l1 l2 l3 : List ByteArray) (x : zaw) (A1 : Option Addr) (c1 : Nat) (A2 : Option Addr) (c2 : Nat) (A3 : Option Addr) (c3 : Nat) (A4 : Option Addr) (c4 : Nat) (w : World) (hG : GOK w)
 (h1 : Kd.C zqb w A1 l1.length l1) (h2 : Kd.C zqb w A2 l2.length l2) (h3 : Kd.C zqb w A3 l3.length l3) (h4 : Kd.C k24 w A4 1 [x]) (hs : zfH f0 l1 l2 l3 x) :
 Calls zp5 143 #[.agg #[.string f0, .slice A1 l1.length c1, .slice A2 l2.length c2, .slice A3 l3.length c3, .slice A4 1 c4]] w fun e w' => e = .returned (.string (mk (zdj f0 l1 l2 l3 x))) /\ Below w.heap.size w w' := by
 have hb1 := (zpw w.heap.size w).alloc (zpx _) (.cells #[.string f0, .slice A1 l1.length c1, .slice A2 l2.length c2, .slice A3 l3.length c3, .slice A4 1 c4] 45); have hone := zht f0 l1 l2 l3 x A1 c1 A2 c2 A3 c3 A4 c4 _ (zqS h1 hb1) (zqS h2 hb1) (zqS h3 hb1) (zqS h4 hb1) (by have := hs.n1; omega) (by have := hs.n2; omega) (by have := hs.n3; omega) (by have := hs.s2; omega) (by have := hs.s3; omega)
 have HK1 := zpt (zap w (.cells #[.string f0, .slice A1 l1.length c1, .slice A2 l2.length c2, .slice A3 l3.length c3, .slice A4 1 c4] 45)); have HB1 := zpt hb1; have HG1 := zpt (hG.below hb1); have HS := zpt hs; have HG0 := zpt hG; clear hb1 h1 h2 h3 h4 hG hs; go_enter Tryz.func143, Tryz.ntmps143
 go_wp2_with fail; refine hone.mono ?_; rintro e w2 ⟨X1, d1, X2, d2, X3, d3, X4, d4, rfl, hr1, hr2, hr3, hr4, hb2⟩; have hK2 := zai HK1.out hb2; have k0 := bc0 hK2; have k1 := bc1 hK2; have k2 := bc2 hK2; have k3 := bc3 hK2; have k4 := bc4 hK2; have z0 := zak hK2 0; have z1 := zak hK2 1; have z2 := zak hK2 2; have z3 := zak hK2 3; have z4 := zak hK2 4; have hB2 := zac HB1.out HB1.out.size hb2; have hG2 := HG1.out.below hb2; have HK2 := zpt hK2; have HB2 := zpt hB2; have HG2 := zpt hG2; have HR1 := zpt (zqJ hr1 HB1.out.size); have HR2 := zpt (zqJ hr2 HB1.out.size); have HR3 := zpt (zqJ hr3 HB1.out.size); have HR4 := zpt (zqJ hr4 HB1.out.size); clear hone hb2 hK2 hB2 hG2 hr1 hr2 hr3 hr4 HK1 HB1 HG1; have hs5 := zcl (.string f0) (.slice X1 (zae l1).length d1) (.slice X2 (zae l2).length d2) (.slice X3 (zae l3).length d3) (.slice X4 1 d4) HK2.out; have hA := RS.set5 HR1.out (.string f0) (.slice X1 (zae l1).length d1) (.slice X2 (zae l2).length d2) (.slice X3 (zae l3).length d3) (.slice X4 1 d4) HK2.out (by decide)
 have hB := RS.set5 HR2.out (.string f0) (.slice X1 (zae l1).length d1) (.slice X2 (zae l2).length d2) (.slice X3 (zae l3).length d3) (.slice X4 1 d4) HK2.out (by decide)
 have hC := RS.set5 HR3.out (.string f0) (.slice X1 (zae l1).length d1) (.slice X2 (zae l2).length d2) (.slice X3 (zae l3).length d3) (.slice X4 1 d4) HK2.out (by decide)
 have hD := zdz HR4.out (.string f0) (.slice X1 (zae l1).length d1) (.slice X2 (zae l2).length d2) (.slice X3 (zae l3).length d3) (.slice X4 1 d4) HK2.out (by decide)
 have hE := ((((HB2.out.setCell (p := ⟨w.heap.size, 0, none⟩) (zpx _) (.string f0)).setCell (p := ⟨w.heap.size, 1, none⟩) (zpx _) (.slice X1 (zae l1).length d1)).setCell (p := ⟨w.heap.size, 2, none⟩) (zpx _) (.slice X2 (zae l2).length d2)).setCell (p := ⟨w.heap.size, 3, none⟩) (zpx _) (.slice X3 (zae l3).length d3)).setCell (p := ⟨w.heap.size, 4, none⟩) (zpx _) (.slice X4 1 d4); unfold set5 at hs5 hA hB hC hD; have HK5 := zpt hs5; have HA5 := zpt hA; have HB5' := zpt hB; have HC5 := zpt hC; have HD5 := zpt hD; have HB5 := zpt hE; clear hs5 hA hB hC hD hE HR1 HR2 HR3 HR4; go_wp2_with fail; generalize ((((w2.setCell ⟨w.heap.size, 0, none⟩ (.string f0)).setCell ⟨w.heap.size, 1, none⟩ (.slice X1 (zae l1).length d1)).setCell ⟨w.heap.size, 2, none⟩ (.slice X2 (zae l2).length d2)).setCell ⟨w.heap.size, 3, none⟩ (.slice X3 (zae l3).length d3)).setCell ⟨w.heap.size, 4, none⟩ (.slice X4 1 d4) = w5 at HK5 HA5 HB5' HC5 HD5 HB5 |-; clear k0 k1 k2 k3 k4 z0 z1 z2 z3 z4 HK2 HB2 HG2; obtain ⟨J1, hJ1⟩ : ∃ J, J = zb8 [105, 110] (zae l1) := ⟨_, rfl⟩; obtain ⟨J2, hJ2⟩ : ∃ J, J = zb8 [111, 117, 116] (zae l2) := ⟨_, rfl⟩; obtain ⟨J3, hJ3⟩ : ∃ J, J = zb8 [97, 102, 116, 101, 114] (zae l3) := ⟨_, rfl⟩; have hj1 : J1.length <= 1000200 := by rw [hJ1]; exact zdu (by decide) HS.out.j1
 have hj2 : J2.length <= 1000200 := by rw [hJ2]; exact zdu (by decide) HS.out.j2
 have hj3 : J3.length <= 1000200 := by rw [hJ3]; exact zdu (by decide) HS.out.j3
 have hn0 := HS.out.n0; have hm1 := zbb J1; have hm2 := zbb J2; have hm3 := zbb J3; have n1 : ¬ 9223372036854775807 < 5 + f0.size := by omega
 have n2 : ¬ 9223372036854775807 < 5 + f0.size + 3 := by omega
 have n3 : ¬ 9223372036854775807 < 5 + f0.size + 3 + (mk J1).size := by omega
 have n4 : ¬ 9223372036854775807 < 5 + f0.size + 3 + (mk J1).size + (mk J2).size := by omega
 have n5 : ¬ 9223372036854775807 < 5 + f0.size + 3 + (mk J1).size + (mk J2).size + (mk J3).size := by omega
 obtain ⟨_, _, e1, hd1, hc1⟩ := zqq HA5.out; obtain ⟨_, _, e2, hd2, hc2⟩ := zqq HB5'.out; obtain ⟨_, _, e3, hd3, hc3⟩ := zqq HC5.out; injection e1 with e11 g1 e12; clear g1; injection e2 with e21 g2 e22; clear g2; injection e3 with e31 g3 e32; clear g3; subst e11 e12 e21 e22 e31 e32; have HCl1 : Hid (∀ W, Below w.heap.size w W -> Kd.C zqb W X1 (zae l1).length (zae l1) -> GOK W -> Calls zp5 194 #[.string (mk [105, 110]), .slice X1 (zae l1).length d1] W fun e w' => e = .returned (.string (mk J1)) /\ Below W.heap.size W w') := fun W _ hr hg => by
  rw [hJ1]; exact zfK [105, 110] X1 d1 (zae l1) W hg hr hd1 (by decide) (by rw [zgl]; have := HS.out.n1; omega) (zpD HS.out.j1 (by omega))
 have HCl2 : Hid (∀ W, Below w.heap.size w W -> Kd.C zqb W X2 (zae l2).length (zae l2) -> GOK W -> Calls zp5 194 #[.string (mk [111, 117, 116]), .slice X2 (zae l2).length d2] W fun e w' => e = .returned (.string (mk J2)) /\ Below W.heap.size W w') := fun W _ hr hg => by
  rw [hJ2]; exact zfK [111, 117, 116] X2 d2 (zae l2) W hg hr hd2 (by decide) (by rw [zgl]; have := HS.out.n2; omega) (zpD HS.out.j2 (by omega))
 have HCl3 : Hid (∀ W, Below w.heap.size w W -> Kd.C zqb W X3 (zae l3).length (zae l3) -> GOK W -> Calls zp5 194 #[.string (mk [97, 102, 116, 101, 114]), .slice X3 (zae l3).length d3] W fun e w' => e = .returned (.string (mk J3)) /\ Below W.heap.size W w') := fun W _ hr hg => by
  rw [hJ3]; exact zfK [97, 102, 116, 101, 114] X3 d3 (zae l3) W hg hr hd3 (by decide) (by rw [zgl]; have := HS.out.n3; omega) (zpD HS.out.j3 (by omega))
 have HH : Hid ((⟨#[114, 117, 108, 101, 32]⟩ : ByteArray) ++ f0 ++ (⟨#[32, 123, 10]⟩ : ByteArray) ++ mk J1 ++ mk J2 ++ mk J3 = mk (zcT f0 l1 l2 l3)) := by
  show _ = _
  unfold zcT; rw [<- hJ1, <- hJ2, <- hJ3, <- zbQ, <- zbQ, <- zbQ, <- zbQ, <- zbQ]; rfl
 have HHl : Hid ((zcT f0 l1 l2 l3).length <= 5000000) := by
  show _ <= _
  unfold zcT; rw [<- hJ1, <- hJ2, <- hJ3]; have := Lib.size_eq f0; simp only [zpK, zqh, zqF]; omega
 have dr : Below w5.heap.size w5 w5.drew := ⟨rfl, rfl, rfl, zpx _, fun _ _ => rfl⟩
 have HBwd := zpt (zaM HB5.out); have HGwd := zpt (HG0.out.below HBwd.out); have HKwd := zpt (zaH HK5.out); have HRwd := zpt (zqu HD5.out dr); have HC1wd := zpt (zqS hc1 dr); have HC2wd := zpt (zqS hc2 dr); have HC3wd := zpt (zqS hc3 dr); have k0wd := bc0 HKwd.out; have k1wd := bc1 HKwd.out; have k2wd := bc2 HKwd.out; have k3wd := bc3 HKwd.out; clear hJ1 hJ2 hJ3 hj1 hj2 hj3 hn0 hm1 hm2 hm3 hd1 hc1 hd2 hc2 hd3 hc3 dr HA5 HB5' HC5 HD5 HB5 HK5
--REG2
 refine zdy (n := 17) (S := fun w' => w'.cell? ⟨w.heap.size, 0, none⟩ = some (.string f0) /\ w'.cell? ⟨w.heap.size, 1, none⟩ = some (.slice X1 (zae l1).length d1) /\ w'.cell? ⟨w.heap.size, 2, none⟩ = some (.slice X2 (zae l2).length d2) /\ w'.cell? ⟨w.heap.size, 3, none⟩ = some (.slice X3 (zae l3).length d3)) (ds := []) (bm 17 0) (by kernel_rfl) rfl (by kernel_rfl) ⟨k0wd, k1wd, k2wd, k3wd⟩ (fun hHeld => ?_)
 refine zaF (i := 0) (N := some 8) (v := ?_) (a' := ?_) (bm 17 1) rfl rfl (by kernel_rfl) (fun _ _ _ h => h) (zqY ⟨by rfl, ?_⟩) ?_ ?_
 rotate_left
 . intro w'
   go_simp
   with_reducible rfl
 rotate_left
 . simp only [Act.put, zqZ, zq0, zq1, zaf, zag]
   rfl
 refine zaF (i := 4) (N := some 12) (v := ?_) (a' := ?_) (bm 17 17) rfl rfl (by kernel_rfl) (fun _ _ _ h => h) (zqY ⟨by rfl, ?_⟩) ?_ ?_
 rotate_left
 . intro w'
   go_simp
   with_reducible rfl
 rotate_left
 . simp only [Act.put, zqZ, zq0, zq1, zaf, zag]
   rfl
 refine zaF (i := 8) (N := some 16) (v := ?_) (a' := ?_) (bm 17 273) rfl rfl (by kernel_rfl) (fun _ _ _ h => h) (zqY ⟨by rfl, ?_⟩) ?_ ?_
 rotate_left
 . intro w'
   go_simp
   with_reducible rfl
 rotate_left
 . simp only [Act.put, zqZ, zq0, zq1, zaf, zag]
   rfl
 refine zaF (i := 12) (N := some 20) (v := ?_) (a' := ?_) (bm 17 4369) rfl rfl (by kernel_rfl) (fun _ _ _ h => h) (zqY ⟨by rfl, ?_⟩) ?_ ?_
 rotate_left
 . intro w'
   go_simp
   with_reducible rfl
 rotate_left
 . simp only [Act.put, zqZ, zq0, zq1, zaf, zag]
   rfl
 refine take_ (i := 1) (N := some 9) (v := ?_) (a' := ?_) (bm 17 4371) rfl rfl (by kernel_rfl) (fun _ _ _ h => h) (zqY ⟨by rfl, ?_⟩) hHeld ?_ ?_
 rotate_left
 . rintro w' ⟨s0, s1, s2, s3⟩
   go_simp
   with_reducible rfl
 rotate_left
 . simp only [Act.put, zqZ, zq0, zq1, zaf, zag]
   rfl
 refine zaF (i := 2) (N := some 10) (v := ?_) (a' := ?_) (bm 17 4375) rfl rfl (by kernel_rfl) (fun _ _ _ h => h) (zqY ⟨by rfl, ?_⟩) ?_ ?_
 rotate_left
 . intro w'
   go_simp
   with_reducible rfl
 rotate_left
 . simp only [Act.put, zqZ, zq0, zq1, zaf, zag]
   rfl
 refine zaF (i := 3) (N := some 11) (v := ?_) (a' := ?_) (bm 17 4383) rfl rfl (by kernel_rfl) (fun _ _ _ h => h) (zqY ⟨by rfl, ?_⟩) ?_ ?_
 rotate_left
 . intro w'
   go_simp
   with_reducible rfl
 rotate_left
 . simp only [Act.put, zqZ, zq0, zq1, zaf, zag]
   rfl
 refine take_ (i := 5) (N := some 13) (v := ?_) (a' := ?_) (bm 17 4415) rfl rfl (by kernel_rfl) (fun _ _ _ h => h) (zqY ⟨by rfl, ?_⟩) hHeld ?_ ?_
 rotate_left
 . rintro w' ⟨s0, s1, s2, s3⟩
   go_simp
   with_reducible rfl
 rotate_left
 . simp only [Act.put, zqZ, zq0, zq1, zaf, zag]
   rfl
 refine take_ (i := 9) (N := some 17) (v := ?_) (a' := ?_) (bm 17 4927) rfl rfl (by kernel_rfl) (fun _ _ _ h => h) (zqY ⟨by rfl, ?_⟩) hHeld ?_ ?_
 rotate_left
 . rintro w' ⟨s0, s1, s2, s3⟩
   go_simp
   with_reducible rfl
 rotate_left
 . simp only [Act.put, zqZ, zq0, zq1, zaf, zag]
   rfl
 refine take_ (i := 13) (N := some 21) (v := ?_) (a' := ?_) (bm 17 13119) rfl rfl (by kernel_rfl) (fun _ _ _ h => h) (zqY ⟨by rfl, ?_⟩) hHeld ?_ ?_
 rotate_left
 . rintro w' ⟨s0, s1, s2, s3⟩
   go_simp
   with_reducible rfl
 rotate_left
 . simp only [Act.put, zqZ, zq0, zq1, zaf, zag]
   rfl
 refine one_ (i := 6) (N := some 14) (bm 17 13183) rfl rfl (by kernel_rfl) (by decide) (fun K hK => ?_)
 refine zb2 Tryz.func194 (by kernel_rfl) rfl #[.string (mk [105, 110]), .slice X1 (zae l1).length d1] (by rfl) rfl rfl (by simp only [zpW, zpX, zpY]; rfl) ?_
 with_reducible refine (HCl1.out _ HBwd.out HC1wd.out HGwd.out).mono ?_
 rintro e wa ⟨rfl, hb1⟩; refine ⟨_, rfl, ?_⟩; have HBwa := zpt (zac HBwd.out HBwd.out.size hb1); have HGwa := zpt (HGwd.out.below hb1); have HKwa := zpt (zai HKwd.out hb1); have HRwa := zpt (zqu HRwd.out hb1); have HC2wa := zpt (zqS HC2wd.out hb1); have HC3wa := zpt (zqS HC3wd.out hb1); have k0wa := bc0 HKwa.out; have k1wa := bc1 HKwa.out; have k2wa := bc2 HKwa.out; have k3wa := bc3 HKwa.out; clear hb1; refine hK.out _ _ ⟨k0wa, k1wa, k2wa, k3wa⟩ (fun hHeld => ?_)
 clear hK K; refine za6 (a' := ?_) ?_ ?_; rotate_left
 . show Act.put _ (some 14) _ = _
   simp only [Act.put, zqZ, zq0, zq1, zaf, zag]; rfl
 refine zaF (i := 7) (N := some 15) (v := ?_) (a' := ?_) (bm 17 13311) rfl rfl (by kernel_rfl) (fun _ _ _ h => h) (zqY ⟨by rfl, ?_⟩) ?_ ?_
 rotate_left
 . intro w'
   go_simp
   with_reducible rfl
 rotate_left
 . simp only [Act.put, zqZ, zq0, zq1, zaf, zag]
   rfl
 refine one_ (i := 10) (N := some 18) (bm 17 14335) rfl rfl (by kernel_rfl) (by decide) (fun K hK => ?_)
 refine zb2 Tryz.func194 (by kernel_rfl) rfl #[.string (mk [111, 117, 116]), .slice X2 (zae l2).length d2] (by rfl) rfl rfl (by simp only [zpW, zpX, zpY]; rfl) ?_
 with_reducible refine (HCl2.out _ HBwa.out HC2wa.out HGwa.out).mono ?_
 rintro e wb ⟨rfl, hb2⟩; refine ⟨_, rfl, ?_⟩; have HBwb := zpt (zac HBwa.out HBwa.out.size hb2); have HGwb := zpt (HGwa.out.below hb2); have HKwb := zpt (zai HKwa.out hb2); have HRwb := zpt (zqu HRwa.out hb2); have HC3wb := zpt (zqS HC3wa.out hb2); have k0wb := bc0 HKwb.out; have k1wb := bc1 HKwb.out; have k2wb := bc2 HKwb.out; have k3wb := bc3 HKwb.out; clear hb2; refine hK.out _ _ ⟨k0wb, k1wb, k2wb, k3wb⟩ (fun hHeld => ?_)
 clear hK K; refine za6 (a' := ?_) ?_ ?_; rotate_left
 . show Act.put _ (some 18) _ = _
   simp only [Act.put, zqZ, zq0, zq1, zaf, zag]; rfl
 refine zaF (i := 11) (N := some 19) (v := ?_) (a' := ?_) (bm 17 16383) rfl rfl (by kernel_rfl) (fun _ _ _ h => h) (zqY ⟨by rfl, ?_⟩) ?_ ?_
 rotate_left
 . intro w'
   go_simp
   with_reducible rfl
 rotate_left
 . simp only [Act.put, zqZ, zq0, zq1, zaf, zag]
   rfl
 refine one_ (i := 14) (N := some 22) (bm 17 32767) rfl rfl (by kernel_rfl) (by decide) (fun K hK => ?_)
 refine zb2 Tryz.func194 (by kernel_rfl) rfl #[.string (mk [97, 102, 116, 101, 114]), .slice X3 (zae l3).length d3] (by rfl) rfl rfl (by simp only [zpW, zpX, zpY]; rfl) ?_
 with_reducible refine (HCl3.out _ HBwb.out HC3wb.out HGwb.out).mono ?_
 rintro e wc ⟨rfl, hb3⟩; refine ⟨_, rfl, ?_⟩; have HBwc := zpt (zac HBwb.out HBwb.out.size hb3); have HGwc := zpt (HGwb.out.below hb3); have HKwc := zpt (zai HKwb.out hb3); have HRwc := zpt (zqu HRwb.out hb3); have k0wc := bc0 HKwc.out; have k1wc := bc1 HKwc.out; have k2wc := bc2 HKwc.out; have k3wc := bc3 HKwc.out; clear hb3; refine hK.out _ _ ⟨k0wc, k1wc, k2wc, k3wc⟩ (fun hHeld => ?_)
 clear hK K; refine za6 (a' := ?_) ?_ ?_; rotate_left
 . show Act.put _ (some 22) _ = _
   simp only [Act.put, zqZ, zq0, zq1, zaf, zag]; rfl
 refine zaF (i := 15) (N := some 23) (v := ?_) (a' := ?_) (bm 17 65535) rfl rfl (by kernel_rfl) (fun _ _ _ h => h) (zqY ⟨by rfl, ?_⟩) ?_ ?_
 rotate_left
 . intro w'
   go_simp
   with_reducible rfl
 rotate_left
 . simp only [Act.put, zqZ, zq0, zq1, zaf, zag]
   rfl
 refine zaF (i := 16) (N := some 3) (v := ?_) (a' := ?_) (bm 17 131071) rfl rfl (by kernel_rfl) (fun _ _ _ h => h) (zqY ⟨by rfl, ?_⟩) ?_ ?_
 rotate_left
 . intro w'
   go_simp
   with_reducible rfl
 rotate_left
 . simp only [Act.put, zqZ, zq0, zq1, zaf, zag]
   rfl
 refine zcF (by kernel_rfl) ?_
--REG2E
 clear n1 n2 n3 n4 n5 HCl1 HCl2 HCl3 HC1wd HC2wd HC3wd HC2wa HC3wa HC3wb HBwd HGwd HKwd HRwd HBwa HGwa HKwa HRwa HBwb HGwb HKwb HRwb k0wd k1wd k2wd k3wd k0wa k1wa k2wa k3wa k0wb k1wb k2wb k3wb k0wc k1wc k2wc k3wc; have k4wc := bc4 HKwc.out; obtain ⟨_, _, e4, hd4, hc4⟩ := zqq HRwc.out; injection e4 with e41 g4 e42; clear g4; subst e41 e42; obtain ⟨ad, cs, rfl, hcl, hK, hcell⟩ := Kd.C_get hc4 x 0 (by simp) (by simp)
 obtain ⟨A5, c5, A6, c6, hcs, hc5, h5, hc6, h6⟩ := zdd hK; subst hcs; have m0 : wc.cell? ad = some (.string x.f0) := by have := hcell 0 _ rfl; rwa [zdF] at this
 have m1 : wc.cell? ⟨ad.block, ad.off + 1, none⟩ = some (.int .i64 x.f1) := by have := hcell 1 _ rfl; rwa [at_next ad 1 (by decide)] at this
 have m2 : wc.cell? ⟨ad.block, ad.off + 2, none⟩ = some (.slice A5 x.f2.length c5) := by have := hcell 2 _ rfl; rwa [at_next ad 2 (by decide)] at this
 have m3 : wc.cell? ⟨ad.block, ad.off + 3, none⟩ = some (.slice A6 x.f3.length c6) := by have := hcell 3 _ rfl; rwa [at_next ad 3 (by decide)] at this
 have m4 : wc.cell? ⟨ad.block, ad.off + 4, none⟩ = some (.int .i64 x.f4) := by have := hcell 4 _ rfl; rwa [at_next ad 4 (by decide)] at this
 have hst : (zcR x).length <= 1000001 := by
  have := HS.out.sj; unfold zcR; simp only [zpK, zqh, zqF]; omega
 obtain ⟨HD, hHD⟩ : ∃ HD, HD = zcT f0 l1 l2 l3 := ⟨_, rfl⟩; obtain ⟨T, hT⟩ : ∃ T, T = zcR x := ⟨_, rfl⟩; have hP : Hid (∀ W, Below wc.heap.size wc W -> Calls zp5 119 #[.agg #[.string x.f0, .int .i64 x.f1, .slice A5 x.f2.length c5, .slice A6 x.f3.length c6, .int .i64 x.f4]] W fun e w' => e = .returned (.string (mk T)) /\ Below W.heap.size W w') := fun W hW => by
  rw [hT]; exact zjj x A5 c5 A6 c6 W (HGwc.out.below hW) (zqS h5 hW) (zqS h6 hW) HS.out.s1 HS.out.sp HS.out.s2 HS.out.s3 (zpD HS.out.sj (by omega))
 have HR : Hid (zdj f0 l1 l2 l3 x = HD ++ ([32, 32] ++ T ++ [10]) ++ [125, 10]) := by rw [hHD, hT]; rfl
 have hHDl := HHl.out; rw [<- hT] at hst; have hHH := HH.out; rw [<- hHD] at hHDl hHH; have q1 := zbb T; have q2 := zbb HD; have q3 := zbb (HD ++ ([32, 32] ++ T ++ [10])); have q4 : (HD ++ ([32, 32] ++ T ++ [10])).length = HD.length + (T.length + 3) := by simp only [zpK, zqh, zqF]; omega
 have n1 : ¬ 9223372036854775807 < 2 + (mk T).size := by omega
 have n2 : ¬ 9223372036854775807 < 2 + (mk T).size + 1 := by omega
 have n3 : ¬ 9223372036854775807 < (mk HD).size + (2 + (mk T).size + 1) := by omega
 have n4 : ¬ 9223372036854775807 < (mk (HD ++ ([32, 32] ++ T ++ [10]))).size + 2 := by omega
 rw [hHH]; clear hHH HH HHl hHDl hHD hT hst q1 q2 q3 q4 hc4 hd4 hcl hK hcell hc5 h5 hc6 h6 HRwc HGwc HS HG0; go_wp2_with fail; go_loopg [3, 27] 1 (fun gg s3 s27 wr => ∃ kk : Nat, kk <= 1 /\ 1 - kk <= gg /\ s27 = .int .i64 kk /\ Aside0 (kk = 0 -> s3 = .string (mk HD) /\ wr = wc) /\ Aside0 (kk = 1 -> s3 = .string (mk (HD ++ ([32, 32] ++ T ++ [10]))) /\ Below w.heap.size w wr))
 case atStart => exact ⟨0, by omega, by omega, rfl, ⟨fun _ => ⟨rfl, rfl⟩⟩, ⟨fun h => by omega⟩⟩
 case round =>
  obtain ⟨kk, hkk, hgk, rfl, HP0, HP1⟩ := hrel; by_cases h0 : kk = 0
  . subst h0
    obtain ⟨rfl, rfl⟩ := HP0.out rfl; clear HP0 HP1; have hb1 := (zpw wr.heap.size wr).alloc (zpx _) (.cells #[.string x.f0, .int .i64 x.f1, .slice A5 x.f2.length c5, .slice A6 x.f3.length c6, .int .i64 x.f4] 24); have hcall := hP.out _ hb1; have HB1 := zpt (zac HBwc.out HBwc.out.size hb1); have HX : Hid (mk HD ++ ((⟨#[32, 32]⟩ : ByteArray) ++ mk T ++ (⟨#[10]⟩ : ByteArray)) = mk (HD ++ ([32, 32] ++ T ++ [10]))) := by
     show _ = _
     rw [<- zbQ, <- zbQ, <- zbQ]; rfl
    clear hb1; go_wp2_with (go_at_call 119; refine hcall.mono ?_; rintro e w2 ⟨rfl, hb2⟩; have HB2 := zpt (zac HB1.out HB1.out.size hb2); clear hb2)
    go_roundg 0
    case measure => omega
    case rel => exact ⟨1, by omega, by omega, by first | rfl | go_num, ⟨fun h => by omega⟩, ⟨fun _ => ⟨by rw [<- HX.out], HB2.out⟩⟩⟩
  . obtain rfl : kk = 1 := by omega
    obtain ⟨rfl, hB⟩ := HP1.out rfl; have HB := zpt hB; clear HP0 HP1 hB; go_wp2_with fail; go_ret
    refine ⟨?_, HB.out⟩; rw [HR.out, <- zbQ]; rfl
theorem zo1 (f0 : ByteArray) (l1 l2 l3 : List ByteArray) (x : zaw) (A : Option Addr) (c : Nat) (w : World) (hG : GOK w) (h : Kd.C k45 w A 1 [⟨f0, l1, l2, l3, [x]⟩])
 (hl1 : l1.length * 16 <= 140737488355328) (hl2 : l2.length * 16 <= 140737488355328) (hl3 : l3.length * 16 <= 140737488355328) (hs : zfH f0 (zae l1) (zae l2) (zae l3) x) :
 Calls zp5 114 #[.slice A 1 c] w fun e w' => e = .returned (.string (mk (zdj f0 (zae l1) (zae l2) (zae l3) x))) /\ Below w.heap.size w w' := by
 have hsort := zhb f0 l1 l2 l3 x A c w h hl1 hl2 hl3 (by have := hs.s2; omega) (by have := hs.s3; omega)
 obtain ⟨T, hT⟩ : ∃ T, T = zdj f0 (zae l1) (zae l2) (zae l3) x := ⟨_, rfl⟩; have hTl : T.length <= 7000000 := by
  rw [hT]; have a0 := hs.n0; have a1 := zdu (word := [105, 110]) (by decide) hs.j1
  have a2 := zdu (word := [111, 117, 116]) (by decide) hs.j2
  have a3 := zdu (word := [97, 102, 116, 101, 114]) (by decide) hs.j3
  have a4 := hs.sj; have a5 := Lib.size_eq f0; unfold zdj zcT zcR; simp only [zpK, zqh, zqF]; omega
 have HS := zpt hs; have HG := zpt hG; have HT := zpt hT; rw [<- hT]; have n1 : ¬ 9223372036854775807 < (mk T).size := by rw [zbb]; omega
 clear hs hG h hl1 hl2 hl3 hT hTl; go_enter Tryz.func114, Tryz.ntmps114
 go_wp2_with (go_at_call 118; refine hsort.mono ?_; rintro e w1 ⟨X, d, rfl, hR, hb1⟩; obtain ⟨_, _, e4, hd4, hc4⟩ := zqq hR; injection e4 with e41 g4 e42; clear g4; subst e41 e42; obtain ⟨ad, cs, rfl, hcl, hK, hcell⟩ := Kd.C_get hc4 (⟨f0, zae l1, zae l2, zae l3, [x]⟩ : zaj) 0 (by simp) (by simp); obtain ⟨A1, c1, A2, c2, A3, c3, A4, c4, hcs, u1, h1, u2, h2, u3, h3, u4, h4⟩ := zcB hK; subst hcs)
 have m0 : w1.cell? ad = some (.string f0) := by have := hcell 0 _ rfl; rwa [zdF] at this
 have m1 : w1.cell? ⟨ad.block, ad.off + 1, none⟩ = some (.slice A1 (zae l1).length c1) := by have := hcell 1 _ rfl; rwa [at_next ad 1 (by decide)] at this
 have m2 : w1.cell? ⟨ad.block, ad.off + 2, none⟩ = some (.slice A2 (zae l2).length c2) := by have := hcell 2 _ rfl; rwa [at_next ad 2 (by decide)] at this
 have m3 : w1.cell? ⟨ad.block, ad.off + 3, none⟩ = some (.slice A3 (zae l3).length c3) := by have := hcell 3 _ rfl; rwa [at_next ad 3 (by decide)] at this
 have m4 : w1.cell? ⟨ad.block, ad.off + 4, none⟩ = some (.slice A4 1 c4) := by have := hcell 4 _ rfl; rwa [at_next ad 4 (by decide)] at this
 have hP : Hid (∀ W, Below w1.heap.size w1 W -> Calls zp5 143 #[.agg #[.string f0, .slice A1 (zae l1).length c1, .slice A2 (zae l2).length c2, .slice A3 (zae l3).length c3, .slice A4 1 c4]] W fun e w' => e = .returned (.string (mk T)) /\ Below W.heap.size W w') := fun W hW => by
  rw [HT.out]; exact znS f0 _ _ _ x A1 c1 A2 c2 A3 c3 A4 c4 W ((HG.out.below hb1).below hW) (zqS h1 hW) (zqS h2 hW) (zqS h3 hW) (zqS h4 hW) HS.out
 have HB1 := zpt hb1; clear u1 u2 u3 u4; clear hsort hR hd4 hc4 hcl hK hcell h1 h2 h3 h4 hb1; go_loopg [3, 9] 1 (fun gg s3 s9 wr => ∃ kk : Nat, kk <= 1 /\ 1 - kk <= gg /\ s9 = .int .i64 kk /\ Aside0 (kk = 0 -> s3 = .string ⟨#[]⟩ /\ wr = w1) /\ Aside0 (kk = 1 -> s3 = .string (mk T) /\ Below w.heap.size w wr))
 case atStart => exact ⟨0, by omega, by omega, rfl, ⟨fun _ => ⟨rfl, rfl⟩⟩, ⟨fun h => by omega⟩⟩
 case round =>
  obtain ⟨kk, hkk, hgk, rfl, HP0, HP1⟩ := hrel; by_cases h0 : kk = 0
  . subst h0
    obtain ⟨rfl, rfl⟩ := HP0.out rfl; clear HP0 HP1; have hb1 := (zpw wr.heap.size wr).alloc (zpx _) (.cells #[.string f0, .slice A1 (zae l1).length c1, .slice A2 (zae l2).length c2, .slice A3 (zae l3).length c3, .slice A4 1 c4] 45); have hcall := hP.out _ hb1; have HBx := zpt (zac HB1.out HB1.out.size hb1); have HX : Hid ((⟨#[]⟩ : ByteArray) ++ mk T = mk T) := by
     show _ = _
     rw [show (⟨#[]⟩ : ByteArray) = mk [] from rfl, zbQ]
     rfl
    clear hb1; go_wp2_with (go_at_call 143; refine hcall.mono ?_; rintro e w2 ⟨rfl, hb2⟩; have HB2 := zpt (zac HBx.out HBx.out.size hb2); clear hb2)
    go_roundg 0
    case measure => omega
    case rel => exact ⟨1, by omega, by omega, by first | rfl | go_num, ⟨fun h => by omega⟩, ⟨fun _ => ⟨by first | rfl | rw [<- HX.out] | simp, HB2.out⟩⟩⟩
  . obtain rfl : kk = 1 := by omega
    obtain ⟨rfl, hB⟩ := HP1.out rfl; have HB := zpt hB; clear HP0 HP1 hB; go_wp2_with fail; go_ret
    exact ⟨rfl, HB.out⟩
theorem zek (A : Option Addr) (c : Nat) (B : Option Addr) (d : Nat) (l : List ByteArray) (w : World) (h1 : Kd.C zqb w A l.length l) (h2 : Kd.C zqb w B l.length l) :
 Calls zp5 195 #[.slice A l.length c, .slice B l.length d] w fun e w' => e = .returned (.bool true) /\ Below w.heap.size w w' := by
 have hm := h1.2.1; have H1 := zpt h1; have H2 := zpt h2; clear h1 h2; go_enter Tryz.func195, Tryz.ntmps195
 go_wp2_with fail; go_loopg [5, 13] l.length (fun gg _ s13 wr => ∃ kk : Nat, kk <= l.length /\ l.length - kk <= gg /\ s13 = .int .i64 kk /\ Aside0 (Below w.heap.size w wr))
 case atStart => exact ⟨0, by omega, by omega, rfl, ⟨zpw _ _⟩⟩
 case round =>
  obtain ⟨kk, hkk, hgk, rfl, HB⟩ := hrel; by_cases hlt : kk < l.length
  . have hltz : (kk : Int) < (l.length : Int) := by omega
    rcases zaX (zqS H1.out HB.out) with h0 | ⟨b, o, rfl, _, hcell⟩
    . rw [h0] at hlt; simp at hlt
    rcases zaX (zqS H2.out HB.out) with h0 | ⟨b', o', rfl, _, hcell'⟩
    . rw [h0] at hlt; simp at hlt
    have hx : wr.cell? ⟨b, o + kk, none⟩ = some (.string (l.getD kk zqa)) := hcell kk hlt; have hx' : wr.cell? ⟨b', o' + kk, none⟩ = some (.string (l.getD kk zqa)) := hcell' kk hlt; generalize l.getD kk zqa = y at hx hx'; have HBd := zpt (zaM HB.out); clear hcell hcell'; go_wp2_with fail; go_region
    all_goals
     go_wp2; go_roundg (l.length - (kk + 1))
     case measure => omega
     case rel => exact ⟨kk + 1, by omega, by omega, by go_num, ⟨HBd.out⟩⟩
  . have hltz : ¬ (kk : Int) < (l.length : Int) := by omega
    go_wp2; go_ret
    exact ⟨rfl, HB.out⟩
theorem zmN (x : zaw) (A2 : Option Addr) (c2 : Nat) (A3 : Option Addr) (c3 : Nat) (B2 : Option Addr) (d2 : Nat) (B3 : Option Addr) (d3 : Nat) (w : World)
 (h2 : Kd.C zqb w A2 x.f2.length x.f2) (h3 : Kd.C zqb w A3 x.f3.length x.f3) (g2 : Kd.C zqb w B2 x.f2.length x.f2) (g3 : Kd.C zqb w B3 x.f3.length x.f3) :
 Calls zp5 197 #[.agg #[.string x.f0, .int .i64 x.f1, .slice A2 x.f2.length c2, .slice A3 x.f3.length c3, .int .i64 x.f4], .agg #[.string x.f0, .int .i64 x.f1, .slice B2 x.f2.length d2, .slice B3 x.f3.length d3, .int .i64 x.f4]] w
  fun e w' => e = .returned (.bool true) /\ Below w.heap.size w w' := by
 have hb1 := (zpw w.heap.size w).alloc (zpx _) (.cells #[.string x.f0, .int .i64 x.f1, .slice A2 x.f2.length c2, .slice A3 x.f3.length c3, .int .i64 x.f4] 24); have hb2 := hb1.alloc hb1.size (.cells #[.string x.f0, .int .i64 x.f1, .slice B2 x.f2.length d2, .slice B3 x.f3.length d3, .int .i64 x.f4] 24); have hk := zaQ (zap w (.cells #[.string x.f0, .int .i64 x.f1, .slice A2 x.f2.length c2, .slice A3 x.f3.length c3, .int .i64 x.f4] 24)) (.cells #[.string x.f0, .int .i64 x.f1, .slice B2 x.f2.length d2, .slice B3 x.f3.length d3, .int .i64 x.f4] 24); have hz := zap (w.alloc (.cells #[.string x.f0, .int .i64 x.f1, .slice A2 x.f2.length c2, .slice A3 x.f3.length c3, .int .i64 x.f4] 24)) (.cells #[.string x.f0, .int .i64 x.f1, .slice B2 x.f2.length d2, .slice B3 x.f3.length d3, .int .i64 x.f4] 24); rw [zre] at hz; have HB2 := zpt hb2; have HK2 := zpt hk; have HZ2 := zpt hz; have hE2 : Hid (∀ W, Below w.heap.size w W -> Calls zp5 195 #[.slice A2 x.f2.length c2, .slice B2 x.f2.length d2] W fun e w' => e = .returned (.bool true) /\ Below W.heap.size W w') := fun W hW => zek A2 c2 B2 d2 x.f2 W (zqS h2 hW) (zqS g2 hW)
 have hE3 : Hid (∀ W, Below w.heap.size w W -> Calls zp5 195 #[.slice A3 x.f3.length c3, .slice B3 x.f3.length d3] W fun e w' => e = .returned (.bool true) /\ Below W.heap.size W w') := fun W hW => zek A3 c3 B3 d3 x.f3 W (zqS h3 hW) (zqS g3 hW)
 clear hb1 hb2 hk hz h2 h3 g2 g3; go_enter Tryz.func197, Tryz.ntmps197
 go_wp2_with fail; generalize (w.alloc (.cells #[.string x.f0, .int .i64 x.f1, .slice A2 x.f2.length c2, .slice A3 x.f3.length c3, .int .i64 x.f4] 24)).alloc (.cells #[.string x.f0, .int .i64 x.f1, .slice B2 x.f2.length d2, .slice B3 x.f3.length d3, .int .i64 x.f4] 24) = w2 at HB2 HK2 HZ2 |-; refine (hE2.out _ HB2.out).mono ?_; rintro e w3 ⟨rfl, hb3⟩; have HB3 := zpt (zac HB2.out HB2.out.size hb3); have k3 := bc3 (zai HK2.out hb3); have j3 := bc3 (zai HZ2.out hb3); clear hb3; go_wp2_with fail; refine (hE3.out _ HB3.out).mono ?_; rintro e w4 ⟨rfl, hb4⟩; have HB4 := zpt (zac HB3.out HB3.out.size hb4); clear hb4; go_wp2_with fail; go_ret
 exact ⟨rfl, HB4.out⟩
theorem zcG {w : World} {a : Addr} {v : Value} (h : w.cell? a = some v) (ob : Obj) : (w.alloc ob).cell? a = some v := (World.cell?_alloc_some w a ob (by rw [h]; rfl)).trans h
abbrev zcw (w : World) (e : Ending) (w' : World) : Prop := e = .returned (.bool true) /\ Below w.heap.size w w'
theorem zei {w : World} {x : zaw} {A : Option Addr} (h : Kd.C k24 w A 1 [x]) :
 ∃ ad A2 c2 A3 c3, A = some ad /\ Kd.C zqb w A2 x.f2.length x.f2 /\ Kd.C zqb w A3 x.f3.length x.f3 /\ w.cell? ad = some (.string x.f0) /\ w.cell? ⟨ad.block, ad.off + 1, none⟩ = some (.int .i64 x.f1) /\
  w.cell? ⟨ad.block, ad.off + 2, none⟩ = some (.slice A2 x.f2.length c2) /\ w.cell? ⟨ad.block, ad.off + 3, none⟩ = some (.slice A3 x.f3.length c3) /\ w.cell? ⟨ad.block, ad.off + 4, none⟩ = some (.int .i64 x.f4) := by
 obtain ⟨ad, cs, rfl, hcl, hK, hcell⟩ := Kd.C_get h x 0 (by simp) (by simp)
 obtain ⟨A5, c5, A6, c6, hcs, hc5, h5, hc6, h6⟩ := zdd hK; subst hcs; refine ⟨ad, A5, c5, A6, c6, rfl, h5, h6, ?_, ?_, ?_, ?_, ?_⟩
 . have := hcell 0 _ rfl; rwa [zdF] at this
 . have := hcell 1 _ rfl; rwa [at_next ad 1 (by decide)] at this
 . have := hcell 2 _ rfl; rwa [at_next ad 2 (by decide)] at this
 . have := hcell 3 _ rfl; rwa [at_next ad 3 (by decide)] at this
 . have := hcell 4 _ rfl; rwa [at_next ad 4 (by decide)] at this
theorem zdQ {w : World} {r : zaj} {A : Option Addr} (h : Kd.C k45 w A 1 [r]) :
 ∃ ad A1 c1 A2 c2 A3 c3 A4 c4, A = some ad /\ Kd.C zqb w A1 r.f1.length r.f1 /\ Kd.C zqb w A2 r.f2.length r.f2 /\ Kd.C zqb w A3 r.f3.length r.f3 /\ Kd.C k24 w A4 r.f4.length r.f4 /\
  w.cell? ad = some (.string r.f0) /\ w.cell? ⟨ad.block, ad.off + 1, none⟩ = some (.slice A1 r.f1.length c1) /\
  w.cell? ⟨ad.block, ad.off + 2, none⟩ = some (.slice A2 r.f2.length c2) /\ w.cell? ⟨ad.block, ad.off + 3, none⟩ = some (.slice A3 r.f3.length c3) /\ w.cell? ⟨ad.block, ad.off + 4, none⟩ = some (.slice A4 r.f4.length c4) := by
 obtain ⟨ad, cs, rfl, hcl, hK, hcell⟩ := Kd.C_get h r 0 (by simp) (by simp)
 obtain ⟨A1, c1, A2, c2, A3, c3, A4, c4, hcs, _, h1, _, h2, _, h3, _, h4⟩ := zcB hK; subst hcs; refine ⟨ad, A1, c1, A2, c2, A3, c3, A4, c4, rfl, h1, h2, h3, h4, ?_, ?_, ?_, ?_, ?_⟩
 . have := hcell 0 _ rfl; rwa [zdF] at this
 . have := hcell 1 _ rfl; rwa [at_next ad 1 (by decide)] at this
 . have := hcell 2 _ rfl; rwa [at_next ad 2 (by decide)] at this
 . have := hcell 3 _ rfl; rwa [at_next ad 3 (by decide)] at this
 . have := hcell 4 _ rfl; rwa [at_next ad 4 (by decide)] at this
theorem zoA (x : zaw) (A : Option Addr) (c : Nat) (B : Option Addr) (d : Nat) (w : World) (h1 : Kd.C k24 w A 1 [x]) (h2 : Kd.C k24 w B 1 [x]) :
 Calls zp5 196 #[.slice A 1 c, .slice B 1 d, .func (.func 197) #[] #[]] w (zcw w) := by
 obtain ⟨ad, A2, c2, A3, c3, rfl, hA2, hA3, m0, m1, m2, m3, m4⟩ := zei h1; obtain ⟨bd, B2, d2, B3, d3, rfl, hB2, hB3, n0, n1, n2, n3, n4⟩ := zei h2; have hS : Hid (∀ W, Below w.heap.size w W -> Calls zp5 197 #[.agg #[.string x.f0, .int .i64 x.f1, .slice A2 x.f2.length c2, .slice A3 x.f3.length c3, .int .i64 x.f4], .agg #[.string x.f0, .int .i64 x.f1, .slice B2 x.f2.length d2, .slice B3 x.f3.length d3, .int .i64 x.f4]] W
  fun e w' => e = .returned (.bool true) /\ Below W.heap.size W w') := fun W hW => zmN x A2 c2 A3 c3 B2 d2 B3 d3 W (zqS hA2 hW) (zqS hA3 hW) (zqS hB2 hW) (zqS hB3 hW)
 clear h1 h2 hA2 hA3 hB2 hB3; go_enter Tryz.func196, Tryz.ntmps196
 go_wp2_with fail; go_loopg [17] 1 (fun gg s17 wr => ∃ kk : Nat, kk <= 1 /\ 1 - kk <= gg /\ s17 = .int .i64 kk /\ Aside0 (kk = 0 -> wr = w) /\ Aside0 (kk = 1 -> Below w.heap.size w wr))
 case atStart => exact ⟨0, by omega, by omega, rfl, ⟨fun _ => rfl⟩, ⟨fun h => by omega⟩⟩
 case round =>
  obtain ⟨kk, hkk, hgk, rfl, HP0, HP1⟩ := hrel; by_cases h0 : kk = 0
  . subst h0
    obtain rfl := HP0.out rfl; clear HP0 HP1; have p0 := zcG n0; have p1 := zcG n1; have p2 := zcG n2; have p3 := zcG n3; have p4 := zcG n4; have hb := ((zpw wr.heap.size wr).alloc (zpx _) (.cells #[.string x.f0, .int .i64 x.f1, .slice A2 x.f2.length c2, .slice A3 x.f3.length c3, .int .i64 x.f4] 24)).alloc (by rw [zre]; omega) (.cells #[.string x.f0, .int .i64 x.f1, .slice B2 x.f2.length d2, .slice B3 x.f3.length d3, .int .i64 x.f4] 24)
    have HB := zpt hb; have hcall := hS.out _ hb; clear hb; go_wp2_with (go_at_call 197; refine hcall.mono ?_; rintro e w2 ⟨rfl, hb2⟩; have HB2 := zpt (zac HB.out HB.out.size hb2); clear hb2)
    go_roundg 0
    case measure => omega
    case rel => exact ⟨1, by omega, by omega, by first | rfl | go_num, ⟨fun h => by omega⟩, ⟨fun _ => HB2.out⟩⟩
  . obtain rfl : kk = 1 := by omega
    have HB := zpt (HP1.out rfl); clear HP0 HP1; go_wp2_with fail; go_ret
    exact ⟨rfl, HB.out⟩
theorem znJ (f0 : ByteArray) (l1 l2 l3 : List ByteArray) (x : zaw) (A1 : Option Addr) (c1 : Nat) (A2 : Option Addr) (c2 : Nat) (A3 : Option Addr) (c3 : Nat) (A4 : Option Addr) (c4 : Nat) (B1 : Option Addr) (d1 : Nat) (B2 : Option Addr) (d2 : Nat) (B3 : Option Addr) (d3 : Nat) (B4 : Option Addr) (d4 : Nat) (w : World)
 (h1 : Kd.C zqb w A1 l1.length l1) (h2 : Kd.C zqb w A2 l2.length l2) (h3 : Kd.C zqb w A3 l3.length l3) (h4 : Kd.C k24 w A4 1 [x])
 (g1 : Kd.C zqb w B1 l1.length l1) (g2 : Kd.C zqb w B2 l2.length l2) (g3 : Kd.C zqb w B3 l3.length l3) (g4 : Kd.C k24 w B4 1 [x]) :
 Calls zp5 146 #[.agg #[.string f0, .slice A1 l1.length c1, .slice A2 l2.length c2, .slice A3 l3.length c3, .slice A4 1 c4], .agg #[.string f0, .slice B1 l1.length d1, .slice B2 l2.length d2, .slice B3 l3.length d3, .slice B4 1 d4]] w (zcw w) := by
 have hb1 := (zpw w.heap.size w).alloc (zpx _) (.cells #[.string f0, .slice A1 l1.length c1, .slice A2 l2.length c2, .slice A3 l3.length c3, .slice A4 1 c4] 45); have hb2 := hb1.alloc hb1.size (.cells #[.string f0, .slice B1 l1.length d1, .slice B2 l2.length d2, .slice B3 l3.length d3, .slice B4 1 d4] 45); have hk := zaQ (zap w (.cells #[.string f0, .slice A1 l1.length c1, .slice A2 l2.length c2, .slice A3 l3.length c3, .slice A4 1 c4] 45)) (.cells #[.string f0, .slice B1 l1.length d1, .slice B2 l2.length d2, .slice B3 l3.length d3, .slice B4 1 d4] 45); have hz := zap (w.alloc (.cells #[.string f0, .slice A1 l1.length c1, .slice A2 l2.length c2, .slice A3 l3.length c3, .slice A4 1 c4] 45)) (.cells #[.string f0, .slice B1 l1.length d1, .slice B2 l2.length d2, .slice B3 l3.length d3, .slice B4 1 d4] 45); rw [zre] at hz; have HB2 := zpt hb2; have HK2 := zpt hk; have HZ2 := zpt hz; have hE1 : Hid (∀ W, Below w.heap.size w W -> Calls zp5 195 #[.slice A1 l1.length c1, .slice B1 l1.length d1] W fun e w' => e = .returned (.bool true) /\ Below W.heap.size W w') := fun W hW => zek A1 c1 B1 d1 l1 W (zqS h1 hW) (zqS g1 hW)
 have hE2 : Hid (∀ W, Below w.heap.size w W -> Calls zp5 195 #[.slice A2 l2.length c2, .slice B2 l2.length d2] W fun e w' => e = .returned (.bool true) /\ Below W.heap.size W w') := fun W hW => zek A2 c2 B2 d2 l2 W (zqS h2 hW) (zqS g2 hW)
 have hE3 : Hid (∀ W, Below w.heap.size w W -> Calls zp5 195 #[.slice A3 l3.length c3, .slice B3 l3.length d3] W fun e w' => e = .returned (.bool true) /\ Below W.heap.size W w') := fun W hW => zek A3 c3 B3 d3 l3 W (zqS h3 hW) (zqS g3 hW)
 have hE4 : Hid (∀ W, Below w.heap.size w W -> Calls zp5 196 #[.slice A4 1 c4, .slice B4 1 d4, .func (.func 197) #[] #[]] W (zcw W)) := fun W hW => zoA x A4 c4 B4 d4 W (zqS h4 hW) (zqS g4 hW)
 clear hb1 hb2 hk hz h1 h2 h3 h4 g1 g2 g3 g4; go_enter Tryz.func146, Tryz.ntmps146
 go_wp2_with fail; generalize (w.alloc (.cells #[.string f0, .slice A1 l1.length c1, .slice A2 l2.length c2, .slice A3 l3.length c3, .slice A4 1 c4] 45)).alloc (.cells #[.string f0, .slice B1 l1.length d1, .slice B2 l2.length d2, .slice B3 l3.length d3, .slice B4 1 d4] 45) = w2 at HB2 HK2 HZ2 |-; refine (hE1.out _ HB2.out).mono ?_; rintro e w3 ⟨rfl, hb3⟩; have HB3 := zpt (zac HB2.out HB2.out.size hb3); have HK3 := zpt (zai HK2.out hb3); have HZ3 := zpt (zai HZ2.out hb3); have k3 := bc2 HK3.out; have j3 := bc2 HZ3.out; clear hb3; go_wp2_with fail; refine (hE2.out _ HB3.out).mono ?_; rintro e w4 ⟨rfl, hb4⟩; have HB4 := zpt (zac HB3.out HB3.out.size hb4); have HK4 := zpt (zai HK3.out hb4); have HZ4 := zpt (zai HZ3.out hb4); have k4 := bc3 HK4.out; have j4 := bc3 HZ4.out; clear hb4; go_wp2_with fail; refine (hE3.out _ HB4.out).mono ?_; rintro e w5 ⟨rfl, hb5⟩; have HB5 := zpt (zac HB4.out HB4.out.size hb5); have HK5 := zpt (zai HK4.out hb5); have HZ5 := zpt (zai HZ4.out hb5); have k5 := bc4 HK5.out; have j5 := bc4 HZ5.out; clear hb5; go_wp2_with fail; refine (hE4.out _ HB5.out).mono ?_; rintro e w6 ⟨rfl, hb6⟩; have HB6 := zpt (zac HB5.out HB5.out.size hb6); clear hb6; go_wp2_with fail; go_ret
 exact ⟨rfl, HB6.out⟩
theorem zjH (f0 : ByteArray) (l1 l2 l3 : List ByteArray) (x : zaw) (A : Option Addr) (c : Nat) (B : Option Addr) (d : Nat) (w : World) (h1 : Kd.C k45 w A 1 [⟨f0, l1, l2, l3, [x]⟩]) (h2 : Kd.C k45 w B 1 [⟨f0, l1, l2, l3, [x]⟩]) :
 Calls zp5 145 #[.slice A 1 c, .slice B 1 d, .func (.func 146) #[] #[]] w (zcw w) := by
 obtain ⟨ad, A1, c1, A2, c2, A3, c3, A4, c4, rfl, hA1, hA2, hA3, hA4, m0, m1, m2, m3, m4⟩ := zdQ h1; obtain ⟨bd, B1, d1, B2, d2, B3, d3, B4, d4, rfl, hB1, hB2, hB3, hB4, n0, n1, n2, n3, n4⟩ := zdQ h2; replace m0 : w.cell? ad = some (.string f0) := m0
 replace m1 : w.cell? ⟨ad.block, ad.off + 1, none⟩ = some (.slice A1 l1.length c1) := m1
 replace m2 : w.cell? ⟨ad.block, ad.off + 2, none⟩ = some (.slice A2 l2.length c2) := m2
 replace m3 : w.cell? ⟨ad.block, ad.off + 3, none⟩ = some (.slice A3 l3.length c3) := m3
 replace m4 : w.cell? ⟨ad.block, ad.off + 4, none⟩ = some (.slice A4 1 c4) := m4
 replace n0 : w.cell? bd = some (.string f0) := n0
 replace n1 : w.cell? ⟨bd.block, bd.off + 1, none⟩ = some (.slice B1 l1.length d1) := n1
 replace n2 : w.cell? ⟨bd.block, bd.off + 2, none⟩ = some (.slice B2 l2.length d2) := n2
 replace n3 : w.cell? ⟨bd.block, bd.off + 3, none⟩ = some (.slice B3 l3.length d3) := n3
 replace n4 : w.cell? ⟨bd.block, bd.off + 4, none⟩ = some (.slice B4 1 d4) := n4
 have hS : Hid (∀ W, Below w.heap.size w W -> Calls zp5 146 #[.agg #[.string f0, .slice A1 l1.length c1, .slice A2 l2.length c2, .slice A3 l3.length c3, .slice A4 1 c4], .agg #[.string f0, .slice B1 l1.length d1, .slice B2 l2.length d2, .slice B3 l3.length d3, .slice B4 1 d4]] W (zcw W)) := fun W hW => znJ f0 l1 l2 l3 x A1 c1 A2 c2 A3 c3 A4 c4 B1 d1 B2 d2 B3 d3 B4 d4 W (zqS hA1 hW) (zqS hA2 hW) (zqS hA3 hW) (zqS hA4 hW) (zqS hB1 hW) (zqS hB2 hW) (zqS hB3 hW) (zqS hB4 hW)
 clear h1 h2 hA1 hA2 hA3 hA4 hB1 hB2 hB3 hB4; go_enter Tryz.func145, Tryz.ntmps145
 go_wp2_with fail; go_loopg [17] 1 (fun gg s17 wr => ∃ kk : Nat, kk <= 1 /\ 1 - kk <= gg /\ s17 = .int .i64 kk /\ Aside0 (kk = 0 -> wr = w) /\ Aside0 (kk = 1 -> Below w.heap.size w wr))
 case atStart => exact ⟨0, by omega, by omega, rfl, ⟨fun _ => rfl⟩, ⟨fun h => by omega⟩⟩
 case round =>
  obtain ⟨kk, hkk, hgk, rfl, HP0, HP1⟩ := hrel; by_cases h0 : kk = 0
  . subst h0
    obtain rfl := HP0.out rfl; clear HP0 HP1; have p0 := zcG n0; have p1 := zcG n1; have p2 := zcG n2; have p3 := zcG n3; have p4 := zcG n4; have hb := ((zpw wr.heap.size wr).alloc (zpx _) (.cells #[.string f0, .slice A1 l1.length c1, .slice A2 l2.length c2, .slice A3 l3.length c3, .slice A4 1 c4] 45)).alloc (by rw [zre]; omega) (.cells #[.string f0, .slice B1 l1.length d1, .slice B2 l2.length d2, .slice B3 l3.length d3, .slice B4 1 d4] 45)
    have HB := zpt hb; have hcall := hS.out _ hb; clear hb; go_wp2_with (go_at_call 146; refine hcall.mono ?_; rintro e w2 ⟨rfl, hb2⟩; have HB2 := zpt (zac HB.out HB.out.size hb2); clear hb2)
    go_roundg 0
    case measure => omega
    case rel => exact ⟨1, by omega, by omega, by first | rfl | go_num, ⟨fun h => by omega⟩, ⟨fun _ => HB2.out⟩⟩
  . obtain rfl : kk = 1 := by omega
    have HB := zpt (HP1.out rfl); clear HP0 HP1; go_wp2_with fail; go_ret
    exact ⟨rfl, HB.out⟩
theorem zlR (f0 : ByteArray) (l1 l2 l3 : List ByteArray) (x : zaw) (A : Option Addr) (c : Nat) (B : Option Addr) (d : Nat) (w : World) (h1 : Kd.C k45 w A 1 [⟨f0, l1, l2, l3, [x]⟩]) (h2 : Kd.C k45 w B 1 [⟨f0, l1, l2, l3, [x]⟩]) :
 Calls zp5 117 #[.slice A 1 c, .slice B 1 d] w (zcw w) := by
 have hE := zjH f0 l1 l2 l3 x A c B d w h1 h2; clear h1 h2; go_enter Tryz.func117, Tryz.ntmps117
 go_wp2_with fail; refine hE.mono ?_; rintro e w2 ⟨rfl, hb2⟩; go_wp2_with fail; go_ret
 exact ⟨rfl, hb2⟩
end X
namespace X
def begW : zaa := [97, 32, 34, 92, 120, 52, 49, 34, 32, 59]
theorem zj9 : allR (allF begW) = ([⟨1, 0, ⟨#[97]⟩⟩, ⟨2, 2, ⟨#[65]⟩⟩, ⟨3, 9, ⟨#[59]⟩⟩, ⟨4, 10, ⟨#[]⟩⟩], 0, 0) := by kernel_rfl
def begS : zaa := "rule r { in b, a; out x; # no\n x = select \"q\\n\" a; }".toUTF8.data.toList
def begX : zaw := ⟨⟨#[120]⟩, 7, [⟨#[97]⟩], [⟨#[113, 10]⟩], 0⟩
theorem zko : zb7 begS = ([⟨⟨#[114]⟩, [⟨#[98]⟩, ⟨#[97]⟩], [⟨#[120]⟩], [], [begX]⟩], 0, 0) := by kernel_rfl
def begE : zaa := "rule in {".toUTF8.data.toList
theorem zkA : zb7 begE = ([], 1, 5) := by kernel_rfl
theorem begOp : opF ⟨#[99, 111, 117, 110, 116]⟩ = 4 := by kernel_rfl
theorem zkT : zbk 4 = ⟨#[99, 111, 117, 110, 116]⟩ := by kernel_rfl
theorem begQ : zea [97, 34, 10] = [34, 97, 92, 34, 92, 110, 34] := by kernel_rfl
theorem zlZ : zcR begX = "x = select \"q\\n\" a;".toUTF8.data.toList := by kernel_rfl
def bB : ByteArray := ⟨#[98]⟩
def bA : ByteArray := ⟨#[97]⟩
theorem zed : zae [] = [] := by simp [zae]
theorem zd8 (x : ByteArray) : zae [x] = [x] := by
 unfold zae; rw [zpX, zpY, List.mergeSort_singleton]; rfl
theorem zfV : zae [⟨#[98]⟩, ⟨#[97]⟩] = [⟨#[97]⟩, ⟨#[98]⟩] := by
 unfold zae; show List.map mk (List.mergeSort [[98], [97]] _) = _
 simp [List.mergeSort, List.MergeSort.Internal.splitInTwo, List.merge]
 first | done | decide
theorem ziL : zae [⟨#[97]⟩, ⟨#[98]⟩] = [⟨#[97]⟩, ⟨#[98]⟩] := by
 unfold zae; show List.map mk (List.mergeSort [[97], [98]] _) = _
 simp [List.mergeSort, List.MergeSort.Internal.splitInTwo, List.merge]
 first | done | decide
theorem zls : zdj ⟨#[114]⟩ [⟨#[97]⟩, ⟨#[98]⟩] [⟨#[120]⟩] [] begX = "rule r {\n  in a, b;\n  out x;\n  x = select \"q\\n\" a;\n}\n".toUTF8.data.toList := by
 unfold zdj zcT; rw [ziL, zd8, zed]; kernel_rfl
theorem begSmall : zfH ⟨#[114]⟩ [⟨#[97]⟩, ⟨#[98]⟩] [⟨#[120]⟩] [] begX := by
 constructor
 . decide
 . decide
 . decide
 . decide
 . rw [ziL]; decide
 . rw [zd8]; decide
 . rw [zed]; decide
 . decide
 . decide
 . decide
 . intro y hy
   obtain rfl : y = ⟨#[113, 10]⟩ := by simpa [begX] using hy
   refine ⟨by decide, fun c hc => ?_⟩
   have : c = 113 \/ c = 10 := by simpa using hc
   rcases this with rfl | rfl
   . right; right; decide
   . left; rfl
 . decide
end X
namespace X
open YtdpgdnpddndeoaaGreatDoorW.PrintWords YtdpgdnpddndeoaaGreatDoorW.PrintMore YtdpgdnpddndeoaaGreatDoorW.PrintLast
theorem zi8 (w : World) (hG : GOK w) : Calls zp5 112 #[] w (zcw w) := by
 have hB := shipwrightlaw1_begun.calls true w hG rfl; clear hG; go_enter Tryz.func112, Tryz.ntmps112
 go_wp2_with fail; refine hB.mono ?_; rintro e w2 ⟨rfl, hb2⟩; go_wp2_with fail; go_ret
 exact ⟨rfl, hb2⟩
theorem zlS (w : World) : Calls zp5 113 #[.string ⟨#[97, 34, 10]⟩] w fun e w' => e = .returned (.string ⟨#[34, 97, 92, 34, 92, 110, 34]⟩) /\ Below w.heap.size w w' := by
 have h := ziA ⟨#[97, 34, 10]⟩ (by decide) (fun c hc => by
  have : c = 97 \/ c = 34 \/ c = 10 := by simpa using hc
  rcases this with rfl | rfl | rfl
  . right; right; decide
  . right; right; decide
  . left; rfl) w
 rw [show zea (⟨#[97, 34, 10]⟩ : ByteArray).data.toList = _ from begQ] at h
 exact h
def begR : zaj := ⟨⟨#[114]⟩, [⟨#[98]⟩, ⟨#[97]⟩], [⟨#[120]⟩], [], [begX]⟩
def zfe : zaj := ⟨⟨#[114]⟩, [⟨#[97]⟩, ⟨#[98]⟩], [⟨#[120]⟩], [], [begX]⟩
theorem zpb (A : Option Addr) (c : Nat) (w : World) (hG : GOK w) (h : Kd.C k45 w A 1 [begR]) :
 Calls zp5 114 #[.slice A 1 c] w fun e w' => e = .returned (.string ⟨#[114, 117, 108, 101, 32, 114, 32, 123, 10, 32, 32, 105, 110, 32, 97, 44, 32, 98, 59, 10, 32, 32, 111, 117, 116, 32, 120, 59, 10, 32, 32, 120, 32, 61, 32, 115, 101, 108, 101, 99, 116, 32, 34, 113, 92, 110, 34, 32, 97, 59, 10, 125, 10]⟩) /\ Below w.heap.size w w' := by
 have hc := zo1 ⟨#[114]⟩ [⟨#[98]⟩, ⟨#[97]⟩] [⟨#[120]⟩] [] begX A c w hG h (by decide) (by decide) (by decide) (by rw [zfV, zd8, zed]; exact begSmall)
 rw [zfV, zd8, zed, zls] at hc; rw [show mk "rule r {\n  in a, b;\n  out x;\n  x = select \"q\\n\" a;\n}\n".toUTF8.data.toList = ⟨#[114, 117, 108, 101, 32, 114, 32, 123, 10, 32, 32, 105, 110, 32, 97, 44, 32, 98, 59, 10, 32, 32, 111, 117, 116, 32, 120, 59, 10, 32, 32, 120, 32, 61, 32, 115, 101, 108, 101, 99, 116, 32, 34, 113, 92, 110, 34, 32, 97, 59, 10, 125, 10]⟩ from by kernel_rfl] at hc
 exact hc
theorem zgW (A : Option Addr) (c : Nat) (w : World) (h : Kd.C k45 w A 1 [begR]) :
 Calls zp5 118 #[.slice A 1 c] w fun e w' => ∃ X d, e = .returned (.slice X 1 d) /\ Kd.C k45 w' X 1 [zfe] /\ Below w.heap.size w w' := by
 have hc := zhb ⟨#[114]⟩ [⟨#[98]⟩, ⟨#[97]⟩] [⟨#[120]⟩] [] begX A c w h (by decide) (by decide) (by decide) (by decide) (by decide)
 rw [zfV, zd8, zed] at hc; refine hc.mono ?_; rintro e w2 ⟨X, d, rfl, hR, hb⟩; obtain ⟨X', d', e', _, hC⟩ := zqq hR; injection e' with e1 e2 e3; subst e1 e3; exact ⟨X, d, rfl, hC, hb⟩
theorem znv (A : Option Addr) (c : Nat) (B : Option Addr) (d : Nat) (w : World) (h : Kd.C k45 w A 1 [zfe]) (h2 : Kd.C k45 w B 1 [zfe]) :
 Calls zp5 117 #[.slice A 1 c, .slice B 1 d] w (zcw w) :=
 zlR ⟨#[114]⟩ [⟨#[97]⟩, ⟨#[98]⟩] [⟨#[120]⟩] [] begX A c B d w h h2
theorem zny (A2 : Option Addr) (c2 : Nat) (A3 : Option Addr) (c3 : Nat) (w : World) (hG : GOK w) (h2 : Kd.C zqb w A2 1 [⟨#[97]⟩]) (h3 : Kd.C zqb w A3 1 [⟨#[113, 10]⟩]) :
 Calls zp5 119 #[.agg #[.string ⟨#[120]⟩, .int .i64 7, .slice A2 1 c2, .slice A3 1 c3, .int .i64 0]] w fun e w' => e = .returned (.string ⟨#[120, 32, 61, 32, 115, 101, 108, 101, 99, 116, 32, 34, 113, 92, 110, 34, 32, 97, 59]⟩) /\ Below w.heap.size w w' := by
 have hc := zjj begX A2 c2 A3 c3 w hG h2 h3 begSmall.s1 begSmall.sp begSmall.s2 begSmall.s3 (zpD begSmall.sj (by omega))
 rw [zlZ] at hc; rw [show mk "x = select \"q\\n\" a;".toUTF8.data.toList = ⟨#[120, 32, 61, 32, 115, 101, 108, 101, 99, 116, 32, 34, 113, 92, 110, 34, 32, 97, 59]⟩ from by kernel_rfl] at hc
 exact hc
theorem ze9 (ad : Addr) (n : Nat) (hn : 0 < n) : ad.add n = ⟨ad.block, ad.off + n, none⟩ := by
 have := at_next ad n hn (m := 0); simpa using this
theorem zjC (w : World) (hG : GOK w) : Calls zp5 75 #[] w (zcw w) := by
 have HG := zpt hG; clear hG; have hF := fun W hW => zjr ⟨begS.toArray⟩ W hW
 rw [show zb7 (⟨begS.toArray⟩ : ByteArray).data.toList = _ from zko] at hF
 have hX := fun W hW => zjr ⟨begE.toArray⟩ W hW
 rw [show zb7 (⟨begE.toArray⟩ : ByteArray).data.toList = _ from zkA] at hX
 have hA := fun W => ziX ⟨#[97, 32, 34, 92, 120, 52, 49, 34, 32, 59]⟩ (by decide) W
 rw [show allR (allF (⟨#[97, 32, 34, 92, 120, 52, 49, 34, 32, 59]⟩ : ByteArray).data.toList) = _ from zj9] at hA
 go_enter Tryz.func75, Tryz.ntmps75
 go_wp2_with fail; refine (hA _).mono ?_; rintro e w1 ⟨v, rfl, hR, hb1⟩; obtain ⟨A, c, rfl, _, hr1⟩ := zqq hR; have hE1 := zap w1 (.cells #[.int .i64 0, .int .i64 0] 133); have hb2 := (zpw w1.heap.size w1).alloc (zpx _) (.cells #[.int .i64 0, .int .i64 0] 133); have hr2 := zqS hr1 hb2; replace hb2 := zac hb1 hb1.size hb2
 have HE2 := zpt hE1; have HR2 := zpt hr2; have HB2 := zpt hb2; clear hA hR hb1 hr1 hE1 hr2 hb2; go_wp2_with fail; generalize w1.alloc (.cells #[.int .i64 0, .int .i64 0] 133) = w2 at HE2 HR2 HB2 |-; generalize w1.heap.size = E1 at HE2 |-; refine (hF _ (HG.out.below HB2.out)).mono ?_; rintro e w3 ⟨v, rfl, hR, hb3⟩; obtain ⟨AR, cR, rfl, _, hr3⟩ := zqq hR; have hE3 := zap w3 (.cells #[.int .i64 0, .int .i64 0] 133); have hb4 := (zpw w3.heap.size w3).alloc (zpx _) (.cells #[.int .i64 0, .int .i64 0] 133); have HE4a := zpt (zaQ (zai HE2.out hb3) (.cells #[.int .i64 0, .int .i64 0] 133)); have HR4a := zpt (zqS (zqS HR2.out hb3) hb4); have HR4b := zpt (zqS hr3 hb4); have HE4b := zpt hE3; have HB4 := zpt (zac (zac HB2.out HB2.out.size hb3) (zac HB2.out HB2.out.size hb3).size hb4); clear hF hR hb3 hr3 hE3 hb4 HE2 HR2 HB2; go_wp2_with fail; generalize w3.alloc (.cells #[.int .i64 0, .int .i64 0] 133) = w4 at HE4a HE4b HR4a HR4b HB4 |-; generalize w3.heap.size = E2 at HE4b |-; refine (hX _ (HG.out.below HB4.out)).mono ?_; rintro e w5 ⟨v, rfl, hR, hb5⟩; obtain ⟨AX, cX, rfl, _, _⟩ := zqq hR; have hE5 := zap w5 (.cells #[.int .i64 1, .int .i64 5] 133); have hb6 := (zpw w5.heap.size w5).alloc (zpx _) (.cells #[.int .i64 1, .int .i64 5] 133); have HE6a := zpt (zaQ (zai HE4a.out hb5) (.cells #[.int .i64 1, .int .i64 5] 133)); have HE6b := zpt (zaQ (zai HE4b.out hb5) (.cells #[.int .i64 1, .int .i64 5] 133)); have HR6a := zpt (zqS (zqS HR4a.out hb5) hb6); have HR6b := zpt (zqS (zqS HR4b.out hb5) hb6); have HE6c := zpt hE5; have HB6 := zpt (zac (zac HB4.out HB4.out.size hb5) (zac HB4.out HB4.out.size hb5).size hb6); clear hX hR hb5 hE5 hb6 HE4a HE4b HR4a HR4b HB4; obtain ⟨ad, A1, c1, A2, c2, A3, c3, A4, c4, rfl, -, -, -, hA4, m0, m1, m2, m3, m4⟩ := zdQ HR6b.out; obtain ⟨bd, B2, d2, B3, d3, rfl, -, hB3, n0, n1, n2, n3, n4⟩ := zei hA4; have m4' : (w5.alloc (.cells #[.int .i64 1, .int .i64 5] 133)).cell? ⟨ad.block, ad.off + 4, none⟩ = some (.slice (some bd) 1 c4) := m4; have n3' : (w5.alloc (.cells #[.int .i64 1, .int .i64 5] 133)).cell? ⟨bd.block, bd.off + 3, none⟩ = some (.slice B3 1 d3) := n3; have HB7 := fun W (hW : Below (w5.alloc (.cells #[.int .i64 1, .int .i64 5] 133)).heap.size (w5.alloc (.cells #[.int .i64 1, .int .i64 5] 133)) W) => zi8 W
 clear m0 m1 m2 m3 m4 n0 n1 n2 n3 n4 hA4 hB3 HB7; go_wp2_with fail; generalize w5.alloc (.cells #[.int .i64 1, .int .i64 5] 133) = w6 at HE6a HE6b HE6c HR6a HR6b HB6 m4' n3' |-; generalize w5.heap.size = E3 at HE6c |-; clear m4' n3'; refine (zi8 _ (HG.out.below HB6.out)).mono ?_; rintro e w7 ⟨rfl, hb7⟩; have HE7a := zpt (zai HE6a.out hb7); have HE7b := zpt (zai HE6b.out hb7); have HE7c := zpt (zai HE6c.out hb7); have HR7a := zpt (zqS HR6a.out hb7); have HR7b := zpt (zqS HR6b.out hb7); have HB7 := zpt (zac HB6.out HB6.out.size hb7); clear hb7 HE6a HE6b HE6c HR6a HR6b HB6; obtain ⟨aw, rfl, p10, _, p12⟩ := zfR HR7a.out 1 (by simp) (by simp)
 obtain ⟨aw2, e2, _, p21, _⟩ := zfR HR7a.out 2 (by simp) (by simp)
 obtain rfl := zp6 e2; obtain ⟨aw3, e3, p30, _, _⟩ := zfR HR7a.out 3 (by simp) (by simp)
 obtain rfl := zp6 e3; clear e2 e3; rw [show (1 : Int).toNat * 3 = 3 from rfl, ze9 _ 3 (by decide)] at p10 p12
 rw [show (2 : Int).toNat * 3 = 6 from rfl, ze9 _ 6 (by decide)] at p21
 rw [show (3 : Int).toNat * 3 = 9 from rfl, ze9 _ 9 (by decide)] at p30
 replace p10 : w7.cell? ⟨aw.block, aw.off + 3, none⟩ = some (.int .i64 2) := p10
 replace p12 : w7.cell? ⟨aw.block, aw.off + 3 + 2, none⟩ = some (.string ⟨#[65]⟩) := p12
 replace p21 : w7.cell? ⟨aw.block, aw.off + 6 + 1, none⟩ = some (.int .i64 9) := p21
 replace p30 : w7.cell? ⟨aw.block, aw.off + 9, none⟩ = some (.int .i64 4) := p30
 have k1 := bc0 HE7a.out; go_wp2_with fail; refine (zlS _).mono ?_; rintro e w8 ⟨rfl, hb8⟩; have HE8b := zpt (zai HE7b.out hb8); have HE8c := zpt (zai HE7c.out hb8); have HR8b := zpt (zqS HR7b.out hb8); have HB8 := zpt (zac HB7.out HB7.out.size hb8); clear hb8 HE7a HE7b HE7c HR7a HR7b HB7 p10 p12 p21 p30 k1; have hw : ∃ A1 c1 bd c4 B3 d3, w8.cell? ⟨ad.block, ad.off + 1, none⟩ = some (.slice A1 2 c1) /\ w8.cell? ⟨ad.block, ad.off + 4, none⟩ = some (.slice (some bd) 1 c4) /\ w8.cell? ⟨bd.block, bd.off + 3, none⟩ = some (.slice (some B3) 1 d3) /\ w8.cell? B3 = some (.string ⟨#[113, 10]⟩) := by
  obtain ⟨ad', A1, c1, A2, c2, A3, c3, A4, c4, e', -, -, -, hA4, m0, m1, m2, m3, m4⟩ := zdQ HR8b.out; obtain rfl := zp6 e'; obtain ⟨bd, B2, d2, B3, d3, rfl, -, hB3, n0, n1, n2, n3, n4⟩ := zei hA4; obtain ⟨B, cs, rfl, hcl, hK, hcell⟩ := Kd.C_get hB3 (⟨#[113, 10]⟩ : ByteArray) 0 (by decide) (by decide)
  refine ⟨A1, c1, bd, c4, B, d3, m1, m4, n3, ?_⟩; have := hcell 0 _ (show cs[0]? = some (.string ⟨#[113, 10]⟩) from by rw [show cs = [.string ⟨#[113, 10]⟩] from hK]; rfl)
  rwa [zdF] at this
 obtain ⟨A1, c1, bd, c4, B3, d3, m1, m4, n3, n30⟩ := hw; have k20 := bc0 HE8b.out; have k30 := bc0 HE8c.out; have k31 := bc1 HE8c.out; go_wp2_with fail; refine (zpb _ _ _ (HG.out.below HB8.out) HR8b.out).mono ?_; rintro e w9 ⟨rfl, hb9⟩; have HR9 := zpt (zqS HR8b.out hb9); have HB9 := zpt (zac HB8.out HB8.out.size hb9); clear hb9 HE8b HE8c HR8b HB8 m1 m4 n3 n30 k20 k30 k31; go_wp2_with fail; refine (zfO _ _).mono ?_; rintro e w10 ⟨rfl, hw⟩; rw [begOp]; have hb10 : Below w9.heap.size w9 w10 := by rw [hw]; exact (zpw _ _).alloc (zpx _) _
 have HR10 := zpt (zqS HR9.out hb10); have HB10 := zpt (zac HB9.out HB9.out.size hb10); clear hw hb10 HR9 HB9; go_wp2_with fail; refine (zhY _ _).mono ?_; rintro e w11 ⟨rfl, hb11⟩; rw [zkT]; have HR11 := zpt (zqS HR10.out hb11); have HB11 := zpt (zac HB10.out HB10.out.size hb11); clear hb11 HR10 HB10; go_wp2_with fail; refine (zgW _ _ _ HR11.out).mono ?_; rintro e w12 ⟨X, dX, rfl, hX, hb12⟩; have HR12 := zpt (zqS HR11.out hb12); have HX12 := zpt hX; have HB12 := zpt (zac HB11.out HB11.out.size hb12); clear hb12 hX HR11 HB11; go_wp2_with fail; refine (zgW _ _ _ HR12.out).mono ?_; rintro e w13 ⟨Y, dY, rfl, hY, hb13⟩; have HR13 := zpt (zqS HR12.out hb13); have HX13 := zpt (zqS HX12.out hb13); have HY13 := zpt hY; have HB13 := zpt (zac HB12.out HB12.out.size hb13); clear hb13 hY HR12 HX12 HB12; go_wp2_with fail; refine (znv _ _ _ _ _ HX13.out HY13.out).mono ?_; rintro e w14 ⟨rfl, hb14⟩; have HR14 := zpt (zqS HR13.out hb14); have HB14 := zpt (zac HB13.out HB13.out.size hb14); clear hb14 HR13 HX13 HY13 HB13; have hw : ∃ bd c4 B2 d2 B3 d3, w14.cell? ⟨ad.block, ad.off + 4, none⟩ = some (.slice (some bd) 1 c4) /\ w14.cell? bd = some (.string ⟨#[120]⟩) /\ w14.cell? ⟨bd.block, bd.off + 1, none⟩ = some (.int .i64 7) /\ w14.cell? ⟨bd.block, bd.off + 2, none⟩ = some (.slice B2 1 d2) /\ w14.cell? ⟨bd.block, bd.off + 3, none⟩ = some (.slice B3 1 d3) /\ w14.cell? ⟨bd.block, bd.off + 4, none⟩ = some (.int .i64 0) /\ Kd.C zqb w14 B2 1 [⟨#[97]⟩] /\ Kd.C zqb w14 B3 1 [⟨#[113, 10]⟩] := by
  obtain ⟨ad', A1, c1, A2, c2, A3, c3, A4, c4, e', -, -, -, hA4, m0, m1, m2, m3, m4⟩ := zdQ HR14.out; obtain rfl := zp6 e'; obtain ⟨bd, B2, d2, B3, d3, rfl, hB2, hB3, n0, n1, n2, n3, n4⟩ := zei hA4; exact ⟨bd, c4, B2, d2, B3, d3, m4, n0, n1, n2, n3, n4, hB2, hB3⟩
 obtain ⟨bd, c4, B2, d2, B3, d3, m4, n0, n1, n2, n3, n4, hB2, hB3⟩ := hw; have hS := zny B2 d2 B3 d3 w14 (HG.out.below HB14.out) hB2 hB3; clear hB2 hB3; go_wp2_with fail; refine hS.mono ?_; rintro e w15 ⟨rfl, hb15⟩; have HB15 := zpt (zac HB14.out HB14.out.size hb15); clear hb15; go_wp2_with fail; go_ret
 exact ⟨rfl, HB15.out⟩
end X
end Go.Proofs.YtdpgdnpddndeoaaGreatDoor
