-- By xprint.py (this session's driver of the kit's print): out of the translation; Lean checks it.
import Derived.Test.YtobbliglnjgbaaaGreatDoorLf0
namespace Go.Proofs.YtobbliglnjgbaaaGreatDoor.Lf
open Go.Proofs.YtobbliglnjgbaaaGreatDoor.X Go.Proofs.YtobbliglnjgbaaaGreatDoor.Pb Go.Proofs.YtobbliglnjgbaaaGreatDoor.Pc
open Go.RowKit Go.Proofs.YtobbliglnjgbaaaGreatDoorW.PrintWords Go.Proofs.YtobbliglnjgbaaaGreatDoorW.PrintLast Go.Proofs.YtobbliglnjgbaaaGreatDoorW.PrintMore
attribute [local go_sem] max2_int min2_int max_two min_two max_three min_three max_four min_four   -- for this text's walks alone
set_option linter.unusedVariables false
set_option linter.unusedSimpArgs false

/-! ### shipwrightlaw1_MintUnlike: function 10 -/
def shipwrightlaw1_MintUnlike.j0 : Nat → ByteArray → Int → Int → Bool → Option (Bool)
 | 0, _, _, _, _ => none
 | k + 1, x0, x1, x2, x18 => if x18 = true then (some true) else (if (wrap64 ((x0.size : Int) + 1)) = 0 then (none) else (if 0 ≤ (Int.tmod x1 (wrap64 ((x0.size : Int) + 1))) then (if (Int.tmod x1 (wrap64 ((x0.size : Int) + 1))) ≤ (x0.size : Int) then ((mint_Put.f (([x0.extract 0 ((Int.tmod x1 (wrap64 ((x0.size : Int) + 1))) : Int).toNat, x0.extract ((Int.tmod x1 (wrap64 ((x0.size : Int) + 1))) : Int).toNat x0.size] : List ByteArray))).bind fun t106 => (if 0 ≤ (Int.tmod x2 (wrap64 ((x0.size : Int) + 1))) then (if (Int.tmod x2 (wrap64 ((x0.size : Int) + 1))) ≤ (x0.size : Int) then ((mint_Put.f (([x0.extract 0 ((Int.tmod x2 (wrap64 ((x0.size : Int) + 1))) : Int).toNat, x0.extract ((Int.tmod x2 (wrap64 ((x0.size : Int) + 1))) : Int).toNat x0.size] : List ByteArray))).bind fun t110 => (if ((t106.toList == t110.toList) == ((Int.tmod x1 (wrap64 ((x0.size : Int) + 1))) == (Int.tmod x2 (wrap64 ((x0.size : Int) + 1))))) = true then ((mint_Put.f (([x0] : List ByteArray))).bind fun t114 => ((mint_Put.f (([x0, (⟨#[]⟩ : ByteArray)] : List ByteArray))).bind fun t118 => (if t114.toList = t118.toList then (some false) else ((mint_Put.f (([x0.extract 0 ((Int.tmod x1 (wrap64 ((x0.size : Int) + 1))) : Int).toNat, x0.extract ((Int.tmod x1 (wrap64 ((x0.size : Int) + 1))) : Int).toNat x0.size] : List ByteArray))).bind fun t122 => ((mint_Put.f (([x0] : List ByteArray))).bind fun t126 => (some (t122.toList != t126.toList))))))) else (some false))) else (none)) else (none))) else (none)) else (none)))
def shipwrightlaw1_MintUnlike.f (k : Nat) (a0 : ByteArray) (a1 : Int) (a2 : Int) : Option (Bool) := (shipwrightlaw1_begun.f).bind fun t101 => (if t101 = true then ((shipwrightlaw1_Short.f a0 40).bind fun t102 => (if a1 < 0 then (shipwrightlaw1_MintUnlike.j0 k t102 a1 a2 true) else (shipwrightlaw1_MintUnlike.j0 k t102 a1 a2 (decide (a2 < 0))))) else (some false))
theorem shipwrightlaw1_MintUnlike.mono_l : ∀ k, (∀ y0 y1 y2 y3, LeO (shipwrightlaw1_MintUnlike.j0 k y0 y1 y2 y3) (shipwrightlaw1_MintUnlike.j0 (k + 1) y0 y1 y2 y3))
 | 0 => fun _ _ _ _ r h => by simp [shipwrightlaw1_MintUnlike.j0] at h
 | k + 1 => by
  have ih0 := shipwrightlaw1_MintUnlike.mono_l k
  ·intro y0 y1 y2 y3
   unfold shipwrightlaw1_MintUnlike.j0
   repeat' first
   | (with_reducible exact ih0 _ _ _ _)
   | (with_reducible exact LeO.refl _)
   | (with_reducible exact LeO.none _)
   | (with_reducible refine LeO.ite ?_ ?_)
   | (with_reducible refine LeO.bind ?_ (fun _ => ?_))
   | exact ih0 _ _ _ _
   | exact LeO.none _
   | refine LeO.ite ?_ ?_
   | refine LeO.bind ?_ (fun _ => ?_)
theorem shipwrightlaw1_MintUnlike.mono : ∀ a0 a1 a2 k, LeO (shipwrightlaw1_MintUnlike.f k a0 a1 a2) (shipwrightlaw1_MintUnlike.f (k + 1) a0 a1 a2) := by
 intro a0 a1 a2 k
 have ih0 := shipwrightlaw1_MintUnlike.mono_l k
 unfold shipwrightlaw1_MintUnlike.f
 repeat' first
   | (with_reducible exact ih0 _ _ _ _)
   | (with_reducible exact LeO.refl _)
   | (with_reducible exact LeO.none _)
   | (with_reducible refine LeO.ite ?_ ?_)
   | (with_reducible refine LeO.bind ?_ (fun _ => ?_))
   | exact ih0 _ _ _ _
   | exact LeO.none _
   | refine LeO.ite ?_ ?_
   | refine LeO.bind ?_ (fun _ => ?_)
def shipwrightlaw1_MintUnlike.T7 : Bool × List (List Nat × List Nat) := (true, [([], []), ([], []), ([1], [1]), ([2], [2]), ([0, 3], [0, 3]), ([], []), ([], []), ([6], [6]), ([7], [7]), ([5, 8], [5, 8]), ([4, 0, 1, 2, 3, 4], [0, 4]), ([9, 10, 0, 1, 2, 3, 4, 5, 6, 7, 8, 9, 10], [5, 9])])
def shipwrightlaw1_MintUnlike.B7 : List Nat := [0, 0, 2, 6, 15, 0, 0, 64, 192, 480, 31, 2047]
theorem shipwrightlaw1_MintUnlike.tab7 : rtab .any (opsOf Tryz.f10 7) = shipwrightlaw1_MintUnlike.T7 := by kernel_rfl
theorem shipwrightlaw1_MintUnlike.bits7 : waitsOk shipwrightlaw1_MintUnlike.T7.2 shipwrightlaw1_MintUnlike.B7 = true := by kernel_rfl
def shipwrightlaw1_MintUnlike.T8 : Bool × List (List Nat × List Nat) := (true, [([], []), ([], []), ([0, 1], [0, 1]), ([], []), ([], []), ([3, 4], [3, 4]), ([2, 5], [2, 5]), ([6], [6]), ([], []), ([], []), ([8, 9], [8, 9]), ([], []), ([], []), ([11, 12], [11, 12]), ([10, 13], [10, 13]), ([14, 7], [14]), ([7, 15], [7, 15]), ([], []), ([], []), ([17, 18], [17, 18]), ([16, 19], [16, 19]), ([20, 15], [20]), ([21], [21]), ([22, 21], [21, 22]), ([23, 21, 21], [21, 23]), ([21], [21]), ([25, 21], [21, 25]), ([26, 24, 21], [21, 26]), ([24, 27, 21], [21, 24, 27]), ([21, 28], [21, 28]), ([29, 27], [29]), ([30], [30]), ([30], [30]), ([31, 32, 30], [30, 31, 32]), ([30], [30]), ([30], [30]), ([34, 35, 30], [30, 34, 35]), ([33, 36, 30], [30, 33, 36]), ([37, 30, 30], [30, 37]), ([30], [30]), ([39, 30], [30, 39]), ([40, 38, 30], [30, 40]), ([38, 41, 30], [30, 38, 41]), ([30, 42], [30, 42]), ([43, 41, 0, 1, 2, 3, 4, 5, 6, 7, 8, 9, 10, 11, 12, 13, 14, 15, 16, 17, 18, 19, 20, 21, 22, 23, 24, 25, 26, 27, 28, 29, 30, 31, 32, 33, 34, 35, 36, 37, 38, 39, 40, 41, 42, 43], [43])])
def shipwrightlaw1_MintUnlike.B8 : List Nat := [0, 0, 3, 0, 0, 24, 63, 127, 0, 0, 768, 0, 0, 6144, 16128, 32767, 65535, 0, 0, 393216, 1048575, 2097151, 4194303, 8388607, 16777215, 4194303, 37748735, 134217727, 268435455, 536870911, 1073741823, 2147483647, 2147483647, 8589934591, 2147483647, 2147483647, 53687091199, 137438953471, 274877906943, 2147483647, 551903297535, 2199023255551, 4398046511103, 8796093022207, 17592186044415]
theorem shipwrightlaw1_MintUnlike.tab8 : rtab .any (opsOf Tryz.f10 8) = shipwrightlaw1_MintUnlike.T8 := by kernel_rfl
theorem shipwrightlaw1_MintUnlike.bits8 : waitsOk shipwrightlaw1_MintUnlike.T8.2 shipwrightlaw1_MintUnlike.B8 = true := by kernel_rfl
set_option maxHeartbeats 8000000 in
set_option maxRecDepth 100000 in
theorem shipwrightlaw1_MintUnlike.calls (k : Nat) (a0 : ByteArray) (a1 : Int) (a2 : Int) (r : Bool) (w : World) (hG : GOK w) (h : shipwrightlaw1_MintUnlike.f k a0 a1 a2 = some r) :
  Calls Tryz.prog 10 #[.string a0, .int .i64 a1, .int .i64 a2] w fun e w' => e = .returned (.bool r) ∧ Below w.heap.size w w' := by
 have HB := Aside0.mk (Below.refl w.heap.size w)
 have HG := Aside0.mk hG
 clear hG
 have H : ((shipwrightlaw1_begun.f).bind fun t101 => (if t101 = true then ((shipwrightlaw1_Short.f a0 40).bind fun t102 => (if a1 < 0 then (shipwrightlaw1_MintUnlike.j0 k t102 a1 a2 true) else (shipwrightlaw1_MintUnlike.j0 k t102 a1 a2 (decide (a2 < 0))))) else (some false))) = some r := h
 clear h
 replace H := Option.bind_eq_some_iff.mp H
 obtain ⟨t101, A40, H⟩ := H
 replace H : (if t101 = true then ((shipwrightlaw1_Short.f a0 40).bind fun t102 => (if a1 < 0 then (shipwrightlaw1_MintUnlike.j0 k t102 a1 a2 true) else (shipwrightlaw1_MintUnlike.j0 k t102 a1 a2 (decide (a2 < 0))))) else (some false)) = some r := H
 have A4 := Aside0.mk A40
 clear A40
 by_cases c5 : t101 = true
 ·subst c5
  have H1 : ((shipwrightlaw1_Short.f a0 40).bind fun t102 => (if a1 < 0 then (shipwrightlaw1_MintUnlike.j0 k t102 a1 a2 true) else (shipwrightlaw1_MintUnlike.j0 k t102 a1 a2 (decide (a2 < 0))))) = some r := by rw [if_pos rfl] at H; exact H
  clear H
  have H := H1
  clear H1
  replace H := Option.bind_eq_some_iff.mp H
  obtain ⟨t102, A60, H⟩ := H
  replace H : (if a1 < 0 then (shipwrightlaw1_MintUnlike.j0 k t102 a1 a2 true) else (shipwrightlaw1_MintUnlike.j0 k t102 a1 a2 (decide (a2 < 0)))) = some r := H
  have A6 := Aside0.mk A60
  clear A60
  have HC7 := Aside0.mk H
  clear H
  go_enter Tryz.func10, Tryz.ntmps10
  go_upto_region 5 with (first | ((with_reducible refine gate_callee (f := 16) rfl ?_); refine goesL_ (some 8) rfl rfl Tryz.func16 (by kernel_rfl) rfl #[] rfl (by (try simp only [List.map_toArray, List.map_cons, List.map_nil]); first | done | rfl | (simp only [List.length_drop, List.length_take]; rfl)) ?_; (with_reducible refine (shipwrightlaw1_begun.calls  true _ ?side99 A4.out).mono ?_); (case side99 => exact GOK.below HG.out (by repeat (first | (with_reducible first | exact HB.out | apply below_alloc | apply pw_below_drewN | apply below_drew1) | exact HB.out))); rintro e w8 ⟨rfl, hb⟩; refine ⟨_, rfl, ?_⟩; have n0_ := Aside0.mk (below_step (by repeat (first | (with_reducible first | exact HB.out | apply below_alloc | apply pw_below_drewN | apply below_drew1) | exact HB.out)) hb); clear HB; have HB := n0_; clear n0_; (try clear hb); (try clear hb2); (try clear hk); (try clear hi)) | ((with_reducible refine gate_callee (f := 17) rfl ?_); refine goesL_ (some 12) rfl rfl Tryz.func17 (by kernel_rfl) rfl #[.string a0, .int .i64 40] rfl (by (try simp only [List.map_toArray, List.map_cons, List.map_nil]); first | done | rfl | (simp only [List.length_drop, List.length_take]; rfl)) ?_; (with_reducible refine (shipwrightlaw1_Short.calls a0 40 t102 _ ?side99 A6.out).mono ?_); (case side99 => exact GOK.below HG.out (by repeat (first | (with_reducible first | exact HB.out | apply below_alloc | apply pw_below_drewN | apply below_drew1) | exact HB.out))); rintro e w9 ⟨rfl, hb⟩; refine ⟨_, rfl, ?_⟩; have n0_ := Aside0.mk (below_step (by repeat (first | (with_reducible first | exact HB.out | apply below_alloc | apply pw_below_drewN | apply below_drew1) | exact HB.out)) hb); clear HB; have HB := n0_; clear n0_; (try clear hb); (try clear hb2); (try clear hk); (try clear hi)))
  (try simp only [Act.put, List.setIfInBounds_toArray, List.set_cons_zero, List.set_cons_succ])
  go_cut [18] (fun v18 wc => ∃ (kq : Nat) (x18_6 : Bool), v18 = .bool x18_6 ∧ Aside0 (shipwrightlaw1_MintUnlike.j0 kq t102 a1 a2 x18_6 = some r) ∧ Aside0 (kq ≤ k) ∧ Aside0 (Below w.heap.size w wc))
  case first =>
   have H := HC7.out
   clear HC7
   by_cases c10 : a1 < 0
   ·rw [if_pos c10] at H
    have c10b0 : decide (a1 < 0) = true := decide_eq_true c10
    clear c10
    (first | rw [c10b0] | (simp only [i64_w, i32_w]; rw [c10b0]) | skip)
    have H' := Aside0.mk H
    clear H
    go_wp2
    go_meet
    case rel => exact ⟨_, (true), (by first | rfl | (simp; done) | (simp [*]; done) | (simp [bne]; done) | (simp [*, bne]; done)), H', ⟨by first | omega | exact Nat.le_refl _⟩, ⟨by repeat (first | (with_reducible first | exact HB.out | apply below_alloc | apply pw_below_drewN | apply below_drew1) | exact HB.out)⟩⟩
   ·rw [if_neg c10] at H
    have c10b0 : decide (a1 < 0) = false := decide_eq_false c10
    clear c10
    (first | rw [c10b0] | (simp only [i64_w, i32_w]; rw [c10b0]) | skip)
    have H' := Aside0.mk H
    clear H
    go_wp2
    go_meet
    case rel => exact ⟨_, (decide (a2 < 0)), (by first | rfl | (simp; done) | (simp [*]; done) | (simp [bne]; done) | (simp [*, bne]; done)), H', ⟨by first | omega | exact Nat.le_refl _⟩, ⟨by repeat (first | (with_reducible first | exact HB.out | apply below_alloc | apply pw_below_drewN | apply below_drew1) | exact HB.out)⟩⟩
  case rest =>
   clear HC7
   try clear c1
   try clear p2
   try clear c5
   try clear c10
   try clear c10b0
   obtain ⟨kq, x18_6, rfl, HA, HJ6, HB⟩ := hcut
   cases kq with
   | zero => exact absurd HA.out (by simp [shipwrightlaw1_MintUnlike.j0])
   | succ kj6 =>
    have H := HA.out
    clear HA
    simp only [shipwrightlaw1_MintUnlike.j0] at H
    by_cases c11 : x18_6 = true
    ·subst c11
     have H1 : (some true) = some r := by rw [if_pos rfl] at H; exact H
     clear H
     have H := H1
     clear H1
     obtain rfl := Option.some.inj H
     go_wp2
     go_ret
     exact ⟨by first | rfl | (simp [errW_none, errW_some] <;> rfl) | (simp [*, errW_none, errW_some] <;> rfl), by repeat (first | (with_reducible first | exact HB.out | apply below_alloc | apply pw_below_drewN | apply below_drew1) | exact HB.out)⟩
    ·replace c11 := Bool.eq_false_iff.mpr c11
     subst c11
     have H1 : (if (wrap64 ((t102.size : Int) + 1)) = 0 then (none) else (if 0 ≤ (Int.tmod a1 (wrap64 ((t102.size : Int) + 1))) then (if (Int.tmod a1 (wrap64 ((t102.size : Int) + 1))) ≤ (t102.size : Int) then ((mint_Put.f (([t102.extract 0 ((Int.tmod a1 (wrap64 ((t102.size : Int) + 1))) : Int).toNat, t102.extract ((Int.tmod a1 (wrap64 ((t102.size : Int) + 1))) : Int).toNat t102.size] : List ByteArray))).bind fun t106 => (if 0 ≤ (Int.tmod a2 (wrap64 ((t102.size : Int) + 1))) then (if (Int.tmod a2 (wrap64 ((t102.size : Int) + 1))) ≤ (t102.size : Int) then ((mint_Put.f (([t102.extract 0 ((Int.tmod a2 (wrap64 ((t102.size : Int) + 1))) : Int).toNat, t102.extract ((Int.tmod a2 (wrap64 ((t102.size : Int) + 1))) : Int).toNat t102.size] : List ByteArray))).bind fun t110 => (if ((t106.toList == t110.toList) == ((Int.tmod a1 (wrap64 ((t102.size : Int) + 1))) == (Int.tmod a2 (wrap64 ((t102.size : Int) + 1))))) = true then ((mint_Put.f (([t102] : List ByteArray))).bind fun t114 => ((mint_Put.f (([t102, (⟨#[]⟩ : ByteArray)] : List ByteArray))).bind fun t118 => (if t114.toList = t118.toList then (some false) else ((mint_Put.f (([t102.extract 0 ((Int.tmod a1 (wrap64 ((t102.size : Int) + 1))) : Int).toNat, t102.extract ((Int.tmod a1 (wrap64 ((t102.size : Int) + 1))) : Int).toNat t102.size] : List ByteArray))).bind fun t122 => ((mint_Put.f (([t102] : List ByteArray))).bind fun t126 => (some (t122.toList != t126.toList))))))) else (some false))) else (none)) else (none))) else (none)) else (none))) = some r := by rw [if_neg (show ¬ (false = true) by decide)] at H; exact H
     clear H
     have H := H1
     clear H1
     by_cases c12 : (wrap64 ((t102.size : Int) + 1)) = 0
     ·rw [if_pos c12] at H
      exact absurd H (by simp)
     ·rw [if_neg c12] at H
      have c12b0 : ((wrap64 ((t102.size : Int) + 1)) == 0) = false := beq_eq_false_iff_ne.mpr c12
      have c12b1 : ((wrap64 ((t102.size : Int) + 1)) != 0) = true := bne_iff_ne.mpr c12
      obtain ⟨ji13, hji13⟩ : ∃ j_ : Int, (Int.tmod a1 (wrap64 ((t102.size : Int) + 1))) = j_ := ⟨_, rfl⟩
      replace H : (if 0 ≤ (ji13) then (if (ji13) ≤ (t102.size : Int) then ((mint_Put.f (([t102.extract 0 ((ji13) : Int).toNat, t102.extract ((ji13) : Int).toNat t102.size] : List ByteArray))).bind fun t106 => (if 0 ≤ (Int.tmod a2 (wrap64 ((t102.size : Int) + 1))) then (if (Int.tmod a2 (wrap64 ((t102.size : Int) + 1))) ≤ (t102.size : Int) then ((mint_Put.f (([t102.extract 0 ((Int.tmod a2 (wrap64 ((t102.size : Int) + 1))) : Int).toNat, t102.extract ((Int.tmod a2 (wrap64 ((t102.size : Int) + 1))) : Int).toNat t102.size] : List ByteArray))).bind fun t110 => (if ((t106.toList == t110.toList) == ((ji13) == (Int.tmod a2 (wrap64 ((t102.size : Int) + 1))))) = true then ((mint_Put.f (([t102] : List ByteArray))).bind fun t114 => ((mint_Put.f (([t102, (⟨#[]⟩ : ByteArray)] : List ByteArray))).bind fun t118 => (if t114.toList = t118.toList then (some false) else ((mint_Put.f (([t102.extract 0 ((ji13) : Int).toNat, t102.extract ((ji13) : Int).toNat t102.size] : List ByteArray))).bind fun t122 => ((mint_Put.f (([t102] : List ByteArray))).bind fun t126 => (some (t122.toList != t126.toList))))))) else (some false))) else (none)) else (none))) else (none)) else (none)) = some r := by first | (rw [hji13] at H; exact H) | (simp only [hji13] at H ⊢; exact H)
      by_cases c14 : 0 ≤ (ji13)
      ·rw [if_pos c14] at H
       have c14b0 := eq_true c14
       have c14b1 : decide (0 ≤ (ji13)) = true := decide_eq_true c14
       clear c14
       by_cases c15 : (ji13) ≤ (t102.size : Int)
       ·rw [if_pos c15] at H
        have c15b0 := eq_true c15
        have c15b1 : decide ((ji13) ≤ (t102.size : Int)) = true := decide_eq_true c15
        clear c15
        have c16b0 := eq_true (of_decide_eq_true (by first | (with_reducible assumption) | assumption) : 0 ≤ (ji13))
        have c17b0 := eq_true (of_decide_eq_true (by first | (with_reducible assumption) | assumption) : (ji13) ≤ (t102.size : Int))
        obtain ⟨y103, hy103⟩ : ∃ y_ : List ByteArray, y_ = (([t102.extract 0 ((ji13) : Int).toNat, t102.extract ((ji13) : Int).toNat t102.size] : List ByteArray)) := ⟨_, rfl⟩
        replace H : ((mint_Put.f y103).bind fun t106 => (if 0 ≤ (Int.tmod a2 (wrap64 ((t102.size : Int) + 1))) then (if (Int.tmod a2 (wrap64 ((t102.size : Int) + 1))) ≤ (t102.size : Int) then ((mint_Put.f (([t102.extract 0 ((Int.tmod a2 (wrap64 ((t102.size : Int) + 1))) : Int).toNat, t102.extract ((Int.tmod a2 (wrap64 ((t102.size : Int) + 1))) : Int).toNat t102.size] : List ByteArray))).bind fun t110 => (if ((t106.toList == t110.toList) == ((ji13) == (Int.tmod a2 (wrap64 ((t102.size : Int) + 1))))) = true then ((mint_Put.f (([t102] : List ByteArray))).bind fun t114 => ((mint_Put.f (([t102, (⟨#[]⟩ : ByteArray)] : List ByteArray))).bind fun t118 => (if t114.toList = t118.toList then (some false) else ((mint_Put.f (([t102.extract 0 ((ji13) : Int).toNat, t102.extract ((ji13) : Int).toNat t102.size] : List ByteArray))).bind fun t122 => ((mint_Put.f (([t102] : List ByteArray))).bind fun t126 => (some (t122.toList != t126.toList))))))) else (some false))) else (none)) else (none))) = some r := by first | (rw [hy103]; with_reducible exact H) | (have H2_ := (Option.bind_some _ _).symm.trans H; rw [hy103]; with_reducible exact H2_) | (have H2_ := (Option.bind_some _ _).symm.trans H; with_reducible exact H2_) | with_reducible exact H | (rw [hy103]; exact H) | exact H
        have Ny103 := Aside0.mk hy103
        clear hy103
        replace H := Option.bind_eq_some_iff.mp H
        obtain ⟨t106, A180, H⟩ := H
        replace H : (if 0 ≤ (Int.tmod a2 (wrap64 ((t102.size : Int) + 1))) then (if (Int.tmod a2 (wrap64 ((t102.size : Int) + 1))) ≤ (t102.size : Int) then ((mint_Put.f (([t102.extract 0 ((Int.tmod a2 (wrap64 ((t102.size : Int) + 1))) : Int).toNat, t102.extract ((Int.tmod a2 (wrap64 ((t102.size : Int) + 1))) : Int).toNat t102.size] : List ByteArray))).bind fun t110 => (if ((t106.toList == t110.toList) == ((ji13) == (Int.tmod a2 (wrap64 ((t102.size : Int) + 1))))) = true then ((mint_Put.f (([t102] : List ByteArray))).bind fun t114 => ((mint_Put.f (([t102, (⟨#[]⟩ : ByteArray)] : List ByteArray))).bind fun t118 => (if t114.toList = t118.toList then (some false) else ((mint_Put.f (([t102.extract 0 ((ji13) : Int).toNat, t102.extract ((ji13) : Int).toNat t102.size] : List ByteArray))).bind fun t122 => ((mint_Put.f (([t102] : List ByteArray))).bind fun t126 => (some (t122.toList != t126.toList))))))) else (some false))) else (none)) else (none)) = some r := H
        have A18 := Aside0.mk A180
        clear A180
        obtain ⟨ji19, hji19⟩ : ∃ j_ : Int, (Int.tmod a2 (wrap64 ((t102.size : Int) + 1))) = j_ := ⟨_, rfl⟩
        replace H : (if 0 ≤ (ji19) then (if (ji19) ≤ (t102.size : Int) then ((mint_Put.f (([t102.extract 0 ((ji19) : Int).toNat, t102.extract ((ji19) : Int).toNat t102.size] : List ByteArray))).bind fun t110 => (if ((t106.toList == t110.toList) == ((ji13) == (ji19))) = true then ((mint_Put.f (([t102] : List ByteArray))).bind fun t114 => ((mint_Put.f (([t102, (⟨#[]⟩ : ByteArray)] : List ByteArray))).bind fun t118 => (if t114.toList = t118.toList then (some false) else ((mint_Put.f (([t102.extract 0 ((ji13) : Int).toNat, t102.extract ((ji13) : Int).toNat t102.size] : List ByteArray))).bind fun t122 => ((mint_Put.f (([t102] : List ByteArray))).bind fun t126 => (some (t122.toList != t126.toList))))))) else (some false))) else (none)) else (none)) = some r := by first | (rw [hji19] at H; exact H) | (simp only [hji19] at H ⊢; exact H)
        (try rw [hji19] at A18)
        by_cases c20 : 0 ≤ (ji19)
        ·rw [if_pos c20] at H
         have c20b0 := eq_true c20
         have c20b1 : decide (0 ≤ (ji19)) = true := decide_eq_true c20
         clear c20
         by_cases c21 : (ji19) ≤ (t102.size : Int)
         ·rw [if_pos c21] at H
          have c21b0 := eq_true c21
          have c21b1 : decide ((ji19) ≤ (t102.size : Int)) = true := decide_eq_true c21
          clear c21
          have c22b0 := eq_true (of_decide_eq_true (by first | (with_reducible assumption) | assumption) : 0 ≤ (ji19))
          have c23b0 := eq_true (of_decide_eq_true (by first | (with_reducible assumption) | assumption) : (ji19) ≤ (t102.size : Int))
          obtain ⟨y107, hy107⟩ : ∃ y_ : List ByteArray, y_ = (([t102.extract 0 ((ji19) : Int).toNat, t102.extract ((ji19) : Int).toNat t102.size] : List ByteArray)) := ⟨_, rfl⟩
          replace H : ((mint_Put.f y107).bind fun t110 => (if ((t106.toList == t110.toList) == ((ji13) == (ji19))) = true then ((mint_Put.f (([t102] : List ByteArray))).bind fun t114 => ((mint_Put.f (([t102, (⟨#[]⟩ : ByteArray)] : List ByteArray))).bind fun t118 => (if t114.toList = t118.toList then (some false) else ((mint_Put.f (([t102.extract 0 ((ji13) : Int).toNat, t102.extract ((ji13) : Int).toNat t102.size] : List ByteArray))).bind fun t122 => ((mint_Put.f (([t102] : List ByteArray))).bind fun t126 => (some (t122.toList != t126.toList))))))) else (some false))) = some r := by first | (rw [hy107]; with_reducible exact H) | (have H2_ := (Option.bind_some _ _).symm.trans H; rw [hy107]; with_reducible exact H2_) | (have H2_ := (Option.bind_some _ _).symm.trans H; with_reducible exact H2_) | with_reducible exact H | (rw [hy107]; exact H) | exact H
          have Ny107 := Aside0.mk hy107
          clear hy107
          replace H := Option.bind_eq_some_iff.mp H
          obtain ⟨t110, A240, H⟩ := H
          replace H : (if ((t106.toList == t110.toList) == ((ji13) == (ji19))) = true then ((mint_Put.f (([t102] : List ByteArray))).bind fun t114 => ((mint_Put.f (([t102, (⟨#[]⟩ : ByteArray)] : List ByteArray))).bind fun t118 => (if t114.toList = t118.toList then (some false) else ((mint_Put.f (([t102.extract 0 ((ji13) : Int).toNat, t102.extract ((ji13) : Int).toNat t102.size] : List ByteArray))).bind fun t122 => ((mint_Put.f (([t102] : List ByteArray))).bind fun t126 => (some (t122.toList != t126.toList))))))) else (some false)) = some r := H
          have A24 := Aside0.mk A240
          clear A240
          by_cases c25 : ((t106.toList == t110.toList) == ((ji13) == (ji19))) = true
          ·rw [if_pos c25] at H
           have c25b0 : ((t106.toList == t110.toList) == ((ji13) == (ji19))) = true := c25
           (try (have c25b1 : decide ((t106.toList == t110.toList) = ((ji13) == (ji19))) = true := by simpa using c25))
           (try (have c25b2 : ((t106.toList == t110.toList) == ((ji13) == (ji19))) = true := by simpa using c25))
           clear c25
           obtain ⟨y111, hy111⟩ : ∃ y_ : List ByteArray, y_ = (([t102] : List ByteArray)) := ⟨_, rfl⟩
           replace H : ((mint_Put.f y111).bind fun t114 => ((mint_Put.f (([t102, (⟨#[]⟩ : ByteArray)] : List ByteArray))).bind fun t118 => (if t114.toList = t118.toList then (some false) else ((mint_Put.f (([t102.extract 0 ((ji13) : Int).toNat, t102.extract ((ji13) : Int).toNat t102.size] : List ByteArray))).bind fun t122 => ((mint_Put.f (([t102] : List ByteArray))).bind fun t126 => (some (t122.toList != t126.toList))))))) = some r := by first | (rw [hy111]; with_reducible exact H) | (have H2_ := (Option.bind_some _ _).symm.trans H; rw [hy111]; with_reducible exact H2_) | (have H2_ := (Option.bind_some _ _).symm.trans H; with_reducible exact H2_) | with_reducible exact H | (rw [hy111]; exact H) | exact H
           have Ny111 := Aside0.mk hy111
           clear hy111
           replace H := Option.bind_eq_some_iff.mp H
           obtain ⟨t114, A260, H⟩ := H
           replace H : ((mint_Put.f (([t102, (⟨#[]⟩ : ByteArray)] : List ByteArray))).bind fun t118 => (if t114.toList = t118.toList then (some false) else ((mint_Put.f (([t102.extract 0 ((ji13) : Int).toNat, t102.extract ((ji13) : Int).toNat t102.size] : List ByteArray))).bind fun t122 => ((mint_Put.f (([t102] : List ByteArray))).bind fun t126 => (some (t122.toList != t126.toList)))))) = some r := H
           have A26 := Aside0.mk A260
           clear A260
           obtain ⟨y115, hy115⟩ : ∃ y_ : List ByteArray, y_ = (([t102, (⟨#[]⟩ : ByteArray)] : List ByteArray)) := ⟨_, rfl⟩
           replace H : ((mint_Put.f y115).bind fun t118 => (if t114.toList = t118.toList then (some false) else ((mint_Put.f (([t102.extract 0 ((ji13) : Int).toNat, t102.extract ((ji13) : Int).toNat t102.size] : List ByteArray))).bind fun t122 => ((mint_Put.f (([t102] : List ByteArray))).bind fun t126 => (some (t122.toList != t126.toList)))))) = some r := by first | (rw [hy115]; with_reducible exact H) | (have H2_ := (Option.bind_some _ _).symm.trans H; rw [hy115]; with_reducible exact H2_) | (have H2_ := (Option.bind_some _ _).symm.trans H; with_reducible exact H2_) | with_reducible exact H | (rw [hy115]; exact H) | exact H
           have Ny115 := Aside0.mk hy115
           clear hy115
           replace H := Option.bind_eq_some_iff.mp H
           obtain ⟨t118, A270, H⟩ := H
           replace H : (if t114.toList = t118.toList then (some false) else ((mint_Put.f (([t102.extract 0 ((ji13) : Int).toNat, t102.extract ((ji13) : Int).toNat t102.size] : List ByteArray))).bind fun t122 => ((mint_Put.f (([t102] : List ByteArray))).bind fun t126 => (some (t122.toList != t126.toList))))) = some r := H
           have A27 := Aside0.mk A270
           clear A270
           by_cases c28 : t114.toList = t118.toList
           ·rw [if_pos c28] at H
            have c28b0 : (t114.toList == t118.toList) = true := beq_iff_eq.mpr c28
            have c28b1 : (t114.toList != t118.toList) = false := bne_eq_false_iff_eq.mpr c28
            clear c28
            obtain rfl := Option.some.inj H
            try go_wp2
            have n0_ := Aside0.mk (below_drew1 HB.out)
            clear HB
            have HB := n0_
            clear n0_
            refine start_ (n := 12) (S := fun w' => True) (ds := []) #[false, false, false, false, false, false, false, false, false, false, false, false] (by kernel_rfl) rfl rfl trivial (fun hHeld => ?_); refine with_tabW shipwrightlaw1_MintUnlike.tab7 shipwrightlaw1_MintUnlike.bits7 (fun HT_ HW_ => ?_)
            generalize wc.drew = w29 at HB hHeld ⊢
            refine pure_ (i := 0) (N := some 19) (v := ?_) (a' := ?_) #[true, false, false, false, false, false, false, false, false, false, false, false] rfl rfl (any_of HT_.out (by kernel_rfl)) (fun _ _ _ h => h) (Or.inl ⟨by rfl, ?_⟩) ?_ ?_
            rotate_left
            ·intro w'
             go_simp
             with_reducible rfl
            rotate_left
            ·simp only [Act.put, List.setIfInBounds_toArray, List.set_cons_zero, List.set_cons_succ, i64_w, i32_w]
             rfl
            refine pure_ (i := 1) (N := some 20) (v := ?_) (a' := ?_) #[true, true, false, false, false, false, false, false, false, false, false, false] rfl rfl (any_of HT_.out (by kernel_rfl)) (fun _ _ _ h => h) (Or.inl ⟨by rfl, ?_⟩) ?_ ?_
            rotate_left
            ·intro w'
             go_simp
             with_reducible rfl
            rotate_left
            ·simp only [Act.put, List.setIfInBounds_toArray, List.set_cons_zero, List.set_cons_succ, i64_w, i32_w]
             rfl
            refine pure_ (i := 2) (N := some 21) (v := ?_) (a' := ?_) #[true, true, true, false, false, false, false, false, false, false, false, false] rfl rfl (any_of HT_.out (by kernel_rfl)) (fun _ _ _ h => h) (Or.inl ⟨by rfl, ?_⟩) ?_ ?_
            rotate_left
            ·intro w'
             go_simp
             with_reducible rfl
            rotate_left
            ·simp only [Act.put, List.setIfInBounds_toArray, List.set_cons_zero, List.set_cons_succ, i64_w, i32_w]
             rfl
            refine pure_ (i := 3) (N := some 22) (v := ?_) (a' := ?_) #[true, true, true, true, false, false, false, false, false, false, false, false] rfl rfl (any_of HT_.out (by kernel_rfl)) (fun _ _ _ h => h) (Or.inl ⟨by rfl, ?_⟩) ?_ ?_
            rotate_left
            ·intro w'
             go_simp
             with_reducible rfl
            rotate_left
            ·simp only [Act.put, List.setIfInBounds_toArray, List.set_cons_zero, List.set_cons_succ, i64_w, i32_w]
             rfl
            refine pure_ (i := 4) (N := some 23) (v := ?_) (a' := ?_) #[true, true, true, true, true, false, false, false, false, false, false, false] rfl rfl (any_of HT_.out (by kernel_rfl)) (fun _ _ _ h => h) (Or.inl ⟨by rfl, ?_⟩) ?_ ?_
            rotate_left
            ·intro w'
             go_simp
             with_reducible rfl
            rotate_left
            ·simp only [Act.put, List.setIfInBounds_toArray, List.set_cons_zero, List.set_cons_succ, i64_w, i32_w]
             rfl
            refine pure_ (i := 5) (N := some 24) (v := ?_) (a' := ?_) #[true, true, true, true, true, true, false, false, false, false, false, false] rfl rfl (any_of HT_.out (by kernel_rfl)) (fun _ _ _ h => h) (Or.inl ⟨by rfl, ?_⟩) ?_ ?_
            rotate_left
            ·intro w'
             go_simp
             with_reducible rfl
            rotate_left
            ·simp only [Act.put, List.setIfInBounds_toArray, List.set_cons_zero, List.set_cons_succ, i64_w, i32_w]
             rfl
            refine pure_ (i := 6) (N := some 25) (v := ?_) (a' := ?_) #[true, true, true, true, true, true, true, false, false, false, false, false] rfl rfl (any_of HT_.out (by kernel_rfl)) (fun _ _ _ h => h) (Or.inl ⟨by rfl, ?_⟩) ?_ ?_
            rotate_left
            ·intro w'
             go_simp
             with_reducible rfl
            rotate_left
            ·simp only [Act.put, List.setIfInBounds_toArray, List.set_cons_zero, List.set_cons_succ, i64_w, i32_w]
             rfl
            refine pure_ (i := 7) (N := some 26) (v := ?_) (a' := ?_) #[true, true, true, true, true, true, true, true, false, false, false, false] rfl rfl (any_of HT_.out (by kernel_rfl)) (fun _ _ _ h => h) (Or.inl ⟨by rfl, ?_⟩) ?_ ?_
            rotate_left
            ·intro w'
             go_simp
             with_reducible rfl
            rotate_left
            ·simp only [Act.put, List.setIfInBounds_toArray, List.set_cons_zero, List.set_cons_succ, i64_w, i32_w]
             rfl
            refine pure_ (i := 8) (N := some 27) (v := ?_) (a' := ?_) #[true, true, true, true, true, true, true, true, true, false, false, false] rfl rfl (any_of HT_.out (by kernel_rfl)) (fun _ _ _ h => h) (Or.inl ⟨by rfl, ?_⟩) ?_ ?_
            rotate_left
            ·intro w'
             go_simp
             with_reducible rfl
            rotate_left
            ·simp only [Act.put, List.setIfInBounds_toArray, List.set_cons_zero, List.set_cons_succ, i64_w, i32_w]
             rfl
            refine pure_ (i := 9) (N := some 28) (v := ?_) (a' := ?_) #[true, true, true, true, true, true, true, true, true, true, false, false] rfl rfl (any_of HT_.out (by kernel_rfl)) (fun _ _ _ h => h) (Or.inl ⟨by rfl, ?_⟩) ?_ ?_
            rotate_left
            ·intro w'
             go_simp
             with_reducible rfl
            rotate_left
            ·simp only [Act.put, List.setIfInBounds_toArray, List.set_cons_zero, List.set_cons_succ, i64_w, i32_w]
             rfl
            refine pure_ (i := 10) (N := some 1) (v := ?_) (a' := ?_) #[true, true, true, true, true, true, true, true, true, true, true, false] rfl rfl (any_of HT_.out (by kernel_rfl)) (fun _ _ _ h => h) (Or.inl ⟨by rfl, ?_⟩) ?_ ?_
            rotate_left
            ·intro w'
             go_simp
             with_reducible rfl
            rotate_left
            ·simp only [Act.put, List.setIfInBounds_toArray, List.set_cons_zero, List.set_cons_succ, i64_w, i32_w]
             rfl
            refine pure_ (i := 11) (N := some 2) (v := ?_) (a' := ?_) #[true, true, true, true, true, true, true, true, true, true, true, true] rfl rfl (any_of HT_.out (by kernel_rfl)) (fun _ _ _ h => h) (Or.inl ⟨by rfl, ?_⟩) ?_ ?_
            rotate_left
            ·intro w'
             go_simp
             with_reducible rfl
            rotate_left
            ·simp only [Act.put, List.setIfInBounds_toArray, List.set_cons_zero, List.set_cons_succ, i64_w, i32_w]
             rfl
            refine done_ (done_of HT_.out (by kernel_rfl)) ?_
            try go_wp2
            have n0_ := Aside0.mk (below_drew1 HB.out)
            clear HB
            have HB := n0_
            clear n0_
            refine start_ (n := 45) (S := fun w' => True) (ds := []) #[false, false, false, false, false, false, false, false, false, false, false, false, false, false, false, false, false, false, false, false, false, false, false, false, false, false, false, false, false, false, false, false, false, false, false, false, false, false, false, false, false, false, false, false, false] (by kernel_rfl) rfl rfl trivial (fun hHeld => ?_); refine with_tabW shipwrightlaw1_MintUnlike.tab8 shipwrightlaw1_MintUnlike.bits8 (fun HT_ HW_ => ?_)
            generalize w29.drew = w30 at HB hHeld ⊢
            refine pure_ (i := 0) (N := some 29) (v := ?_) (a' := ?_) #[true, false, false, false, false, false, false, false, false, false, false, false, false, false, false, false, false, false, false, false, false, false, false, false, false, false, false, false, false, false, false, false, false, false, false, false, false, false, false, false, false, false, false, false, false] rfl rfl (any_of HT_.out (by kernel_rfl)) (fun _ _ _ h => h) (Or.inl ⟨by rfl, ?_⟩) ?_ ?_
            rotate_left
            ·intro w'
             go_simp
             with_reducible rfl
            rotate_left
            ·simp only [Act.put, List.setIfInBounds_toArray, List.set_cons_zero, List.set_cons_succ, i64_w, i32_w]
             rfl
            refine pure_ (i := 1) (N := some 30) (v := ?_) (a' := ?_) #[true, true, false, false, false, false, false, false, false, false, false, false, false, false, false, false, false, false, false, false, false, false, false, false, false, false, false, false, false, false, false, false, false, false, false, false, false, false, false, false, false, false, false, false, false] rfl rfl (any_of HT_.out (by kernel_rfl)) (fun _ _ _ h => h) (Or.inl ⟨by rfl, ?_⟩) ?_ ?_
            rotate_left
            ·intro w'
             go_simp
             with_reducible rfl
            rotate_left
            ·simp only [Act.put, List.setIfInBounds_toArray, List.set_cons_zero, List.set_cons_succ, i64_w, i32_w]
             rfl
            refine pure_ (i := 3) (N := some 32) (v := ?_) (a' := ?_) #[true, true, false, true, false, false, false, false, false, false, false, false, false, false, false, false, false, false, false, false, false, false, false, false, false, false, false, false, false, false, false, false, false, false, false, false, false, false, false, false, false, false, false, false, false] rfl rfl (any_of HT_.out (by kernel_rfl)) (fun _ _ _ h => h) (Or.inl ⟨by rfl, ?_⟩) ?_ ?_
            rotate_left
            ·intro w'
             go_simp
             with_reducible rfl
            rotate_left
            ·simp only [Act.put, List.setIfInBounds_toArray, List.set_cons_zero, List.set_cons_succ, i64_w, i32_w]
             rfl
            refine pure_ (i := 4) (N := some 33) (v := ?_) (a' := ?_) #[true, true, false, true, true, false, false, false, false, false, false, false, false, false, false, false, false, false, false, false, false, false, false, false, false, false, false, false, false, false, false, false, false, false, false, false, false, false, false, false, false, false, false, false, false] rfl rfl (any_of HT_.out (by kernel_rfl)) (fun _ _ _ h => h) (Or.inl ⟨by rfl, ?_⟩) ?_ ?_
            rotate_left
            ·intro w'
             go_simp
             with_reducible rfl
            rotate_left
            ·simp only [Act.put, List.setIfInBounds_toArray, List.set_cons_zero, List.set_cons_succ, i64_w, i32_w]
             rfl
            refine pure_ (i := 8) (N := some 37) (v := ?_) (a' := ?_) #[true, true, false, true, true, false, false, false, true, false, false, false, false, false, false, false, false, false, false, false, false, false, false, false, false, false, false, false, false, false, false, false, false, false, false, false, false, false, false, false, false, false, false, false, false] rfl rfl (any_of HT_.out (by kernel_rfl)) (fun _ _ _ h => h) (Or.inl ⟨by rfl, ?_⟩) ?_ ?_
            rotate_left
            ·intro w'
             go_simp
             with_reducible rfl
            rotate_left
            ·simp only [Act.put, List.setIfInBounds_toArray, List.set_cons_zero, List.set_cons_succ, i64_w, i32_w]
             rfl
            refine pure_ (i := 9) (N := some 38) (v := ?_) (a' := ?_) #[true, true, false, true, true, false, false, false, true, true, false, false, false, false, false, false, false, false, false, false, false, false, false, false, false, false, false, false, false, false, false, false, false, false, false, false, false, false, false, false, false, false, false, false, false] rfl rfl (any_of HT_.out (by kernel_rfl)) (fun _ _ _ h => h) (Or.inl ⟨by rfl, ?_⟩) ?_ ?_
            rotate_left
            ·intro w'
             go_simp
             with_reducible rfl
            rotate_left
            ·simp only [Act.put, List.setIfInBounds_toArray, List.set_cons_zero, List.set_cons_succ, i64_w, i32_w]
             rfl
            refine pure_ (i := 11) (N := some 40) (v := ?_) (a' := ?_) #[true, true, false, true, true, false, false, false, true, true, false, true, false, false, false, false, false, false, false, false, false, false, false, false, false, false, false, false, false, false, false, false, false, false, false, false, false, false, false, false, false, false, false, false, false] rfl rfl (any_of HT_.out (by kernel_rfl)) (fun _ _ _ h => h) (Or.inl ⟨by rfl, ?_⟩) ?_ ?_
            rotate_left
            ·intro w'
             go_simp
             with_reducible rfl
            rotate_left
            ·simp only [Act.put, List.setIfInBounds_toArray, List.set_cons_zero, List.set_cons_succ, i64_w, i32_w]
             rfl
            refine pure_ (i := 12) (N := some 41) (v := ?_) (a' := ?_) #[true, true, false, true, true, false, false, false, true, true, false, true, true, false, false, false, false, false, false, false, false, false, false, false, false, false, false, false, false, false, false, false, false, false, false, false, false, false, false, false, false, false, false, false, false] rfl rfl (any_of HT_.out (by kernel_rfl)) (fun _ _ _ h => h) (Or.inl ⟨by rfl, ?_⟩) ?_ ?_
            rotate_left
            ·intro w'
             go_simp
             with_reducible rfl
            rotate_left
            ·simp only [Act.put, List.setIfInBounds_toArray, List.set_cons_zero, List.set_cons_succ, i64_w, i32_w]
             rfl
            refine pure_ (i := 17) (N := some 46) (v := ?_) (a' := ?_) #[true, true, false, true, true, false, false, false, true, true, false, true, true, false, false, false, false, true, false, false, false, false, false, false, false, false, false, false, false, false, false, false, false, false, false, false, false, false, false, false, false, false, false, false, false] rfl rfl (any_of HT_.out (by kernel_rfl)) (fun _ _ _ h => h) (Or.inl ⟨by rfl, ?_⟩) ?_ ?_
            rotate_left
            ·intro w'
             go_simp
             with_reducible rfl
            rotate_left
            ·simp only [Act.put, List.setIfInBounds_toArray, List.set_cons_zero, List.set_cons_succ, i64_w, i32_w]
             rfl
            refine pure_ (i := 18) (N := some 47) (v := ?_) (a' := ?_) #[true, true, false, true, true, false, false, false, true, true, false, true, true, false, false, false, false, true, true, false, false, false, false, false, false, false, false, false, false, false, false, false, false, false, false, false, false, false, false, false, false, false, false, false, false] rfl rfl (any_of HT_.out (by kernel_rfl)) (fun _ _ _ h => h) (Or.inl ⟨by rfl, ?_⟩) ?_ ?_
            rotate_left
            ·intro w'
             go_simp
             with_reducible rfl
            rotate_left
            ·simp only [Act.put, List.setIfInBounds_toArray, List.set_cons_zero, List.set_cons_succ, i64_w, i32_w]
             rfl
            refine inv_at [2, 5, 6, 7, 10, 13, 14, 15, 16, 19, 20, 21, 22, 23, 24, 25, 26, 27, 28, 29, 30, 31, 32, 33, 34, 35, 36, 37, 38, 39, 40, 41, 42, 43, 44] (fun a0_ b a w' => ∃ (v104 : Value) (v108 : Value) (v112 : Value) (v116 : Value), a = putSel a0_ b [(2, 31, .string (t102.extract 0 ((ji13) : Int).toNat)), (5, 34, .string (t102.extract ((ji13) : Int).toNat t102.size)), (6, 35, v104), (7, 36, .string t106), (10, 39, .string (t102.extract 0 ((ji19) : Int).toNat)), (13, 42, .string (t102.extract ((ji19) : Int).toNat t102.size)), (14, 43, v108), (15, 44, .string t110), (16, 45, .bool (t106.toList == t110.toList)), (19, 48, .bool ((ji13) == (ji19))), (20, 49, .bool ((t106.toList == t110.toList) == ((ji13) == (ji19)))), (21, 50, .bool ((t106.toList == t110.toList) == ((ji13) == (ji19)))), (22, 51, .string t102), (23, 52, v112), (24, 53, .string t114), (25, 54, .string t102), (26, 55, v116), (27, 56, .string t118), (28, 57, .bool (t114.toList != t118.toList)), (29, 58, .bool (t114.toList != t118.toList)), (30, 59, .bool (t114.toList != t118.toList)), (31, 60, undef), (32, 61, undef), (33, 62, undef), (34, 63, undef), (35, 64, undef), (36, 65, undef), (37, 66, undef), (38, 67, undef), (39, 68, undef), (40, 69, undef), (41, 70, undef), (42, 71, undef), (43, 72, .bool false), (44, 6, .bool false)] ∧ (Below w.heap.size w w') ∧ (b 6 = true → Kd.R Kd.string 9 w' w.heap.size (fun _ => True) v104 y103) ∧ (b 14 = true → Kd.R Kd.string 9 w' w.heap.size (fun _ => True) v108 y107) ∧ (b 23 = true → Kd.R Kd.string 9 w' w.heap.size (fun _ => True) v112 y111) ∧ (b 26 = true → Kd.R Kd.string 9 w' w.heap.size (fun _ => True) v116 y115)) HT_.out HW_.out (by kernel_rfl) (by kernel_rfl) ?_ ?_ ?_
            ·exact ⟨.bool false, .bool false, .bool false, .bool false, by simp only [putSel, Bool.false_eq_true, if_false], HB.out, fun h_ => absurd h_ (by decide), fun h_ => absurd h_ (by decide), fun h_ => absurd h_ (by decide), fun h_ => absurd h_ (by decide)⟩
            ·skip
             clear HB
             refine steps_cons ?_ ?_
             ·rintro b a w' ⟨v104, v108, v112, v116, ha, Q_HB, Q_HO105, Q_HO109, Q_HO113, Q_HO117⟩ hb_ hon hoff
              refine ⟨_, rfl, fun K hK => ?_⟩
              have e29 : a.tmps[29]? = some (.string t102) := by rw [ha]; exact (putSel_off rfl).trans rfl
              have e30 : a.tmps[30]? = some (.int .i64 ji13) := by rw [ha]; exact (putSel_off rfl).trans rfl
              replace ha := Aside0.mk ha
              have HB := Aside0.mk Q_HB
              refine value_ (w1 := w') (v := .string (t102.extract 0 ((ji13) : Int).toNat)) (by rfl) rfl ?_ ?_
              ·go_simp
               (try simp only [i64_w])
               first | rfl | (simp [bne]; done) | skip
              refine hK.out _ _ ⟨v104, v108, v112, v116, (by rw [ha.out]; exact putSel_upk 0 hb_ rfl rfl rfl), Q_HB, fun h0_ => absurd ((hoff 6 (by kernel_rfl)).symm.trans h0_) (by decide), Q_HO109, fun h0_ => absurd ((hoff 23 (by kernel_rfl)).symm.trans h0_) (by decide), fun h0_ => absurd ((hoff 26 (by kernel_rfl)).symm.trans h0_) (by decide)⟩
             refine steps_cons ?_ ?_
             ·rintro b a w' ⟨v104, v108, v112, v116, ha, Q_HB, Q_HO105, Q_HO109, Q_HO113, Q_HO117⟩ hb_ hon hoff
              refine ⟨_, rfl, fun K hK => ?_⟩
              have e32 : a.tmps[32]? = some (.string t102) := by rw [ha]; exact (putSel_off rfl).trans rfl
              have e33 : a.tmps[33]? = some (.int .i64 ji13) := by rw [ha]; exact (putSel_off rfl).trans rfl
              replace ha := Aside0.mk ha
              have HB := Aside0.mk Q_HB
              refine value_ (w1 := w') (v := .string (t102.extract ((ji13) : Int).toNat t102.size)) (by rfl) rfl ?_ ?_
              ·go_simp
               (try simp only [i64_w])
               first | rfl | (simp [bne]; done) | skip
              refine hK.out _ _ ⟨v104, v108, v112, v116, (by rw [ha.out]; exact putSel_upk 1 hb_ rfl rfl rfl), Q_HB, fun h0_ => absurd ((hoff 6 (by kernel_rfl)).symm.trans h0_) (by decide), Q_HO109, fun h0_ => absurd ((hoff 23 (by kernel_rfl)).symm.trans h0_) (by decide), fun h0_ => absurd ((hoff 26 (by kernel_rfl)).symm.trans h0_) (by decide)⟩
             refine steps_cons ?_ ?_
             ·rintro b a w' ⟨v104, v108, v112, v116, ha, Q_HB, Q_HO105, Q_HO109, Q_HO113, Q_HO117⟩ hb_ hon hoff
              refine ⟨_, rfl, fun K hK => ?_⟩
              have e31 : a.tmps[31]? = some (.string (t102.extract 0 ((ji13) : Int).toNat)) := by rw [ha]; exact putSel_on (e := (2, 31, .string (t102.extract 0 ((ji13) : Int).toNat))) 0 rfl rfl (hon 2 (by kernel_rfl)) rfl
              have e34 : a.tmps[34]? = some (.string (t102.extract ((ji13) : Int).toNat t102.size)) := by rw [ha]; exact putSel_on (e := (5, 34, .string (t102.extract ((ji13) : Int).toNat t102.size))) 1 rfl rfl (hon 5 (by kernel_rfl)) rfl
              replace ha := Aside0.mk ha
              have HB := Aside0.mk Q_HB
              refine Kd.R_lit_step Kd.string _ 9 ?hg (N := 35) ?hd (xs := ([t102.extract 0 ((ji13) : Int).toNat, t102.extract ((ji13) : Int).toNat t102.size] : List ByteArray)) (inner := [.string (t102.extract 0 ((ji13) : Int).toNat), .string (t102.extract ((ji13) : Int).toNat t102.size)]) (ok := fun _ => True) (okp := fun _ => True) ?hr ?hp (fun _ hk => hk) trivial (Below.refl _ _) (Nat.le_refl _) (by simp) ?_; (case hd => rfl); (case hg => first | rfl | exact wanted_on rfl rfl rfl e50 | exact wanted_on rfl rfl rfl e59); (case hr => first | (go_simp; done) | (go_simp; rfl)); (case hp => exact (Reps.one (show Kd.M Kd.string _ _ _ (t102.extract 0 ((ji13) : Int).toNat) [.string (t102.extract 0 ((ji13) : Int).toNat)] from rfl) (Reps.one (show Kd.M Kd.string _ _ _ (t102.extract ((ji13) : Int).toNat t102.size) [.string (t102.extract ((ji13) : Int).toNat t102.size)] from rfl) (Reps.none _ _))))
              intro v104 w31 ho32 hb hg_ hnew_
              clear hg_ hnew_
              (first | rw [← Ny103.out] at ho32 | (simp only [Int.reduceToNat] at ho32; rw [← Ny103.out] at ho32))
              have n0_ := Aside0.mk (Kd.R_lower ho32 (below_size (by repeat (first | (with_reducible first | exact HB.out | apply below_alloc | apply pw_below_drewN | apply below_drew1) | exact HB.out))))
              have n1_ := Aside0.mk (below_step (by repeat (first | (with_reducible first | exact HB.out | apply below_alloc | apply pw_below_drewN | apply below_drew1) | exact HB.out)) hb)
              have z_HO109 := fun (h0_ : b 14 = true) => (show Kd.R Kd.string 9 w31 w.heap.size (fun _ => True) v108 y107 from by first | exact (Kd.R_elder' (by (with_reducible repeat (first | apply Kd.R_alloc | apply Kd.R_drewN | apply Kd.R_drew)); exact (Q_HO109 h0_)) (Kd.R_base ho32) hb) | exact Kd.R_mono (Kd.R_elder' (by (with_reducible repeat (first | apply Kd.R_alloc | apply Kd.R_drewN | apply Kd.R_drew)); exact (Q_HO109 h0_)) (Kd.R_base ho32) hb) (fun _ h_ => by first | trivial | exact h_ | exact h_.1))
              clear HB
              have HO105 := n0_
              have HB := n1_
              clear n0_ n1_
              clear hb ho32
              refine hK.out _ _ ⟨v104, v108, v112, v116, (by rw [ha.out]; exact putSel_upk 2 hb_ rfl rfl rfl), (by repeat (first | (with_reducible first | exact HB.out | apply below_alloc | apply pw_below_drewN | apply below_drew1) | exact HB.out)), fun _ => (by (with_reducible repeat (first | apply Kd.R_alloc | apply Kd.R_drewN | apply Kd.R_drew)); first | exact HO105.out | exact Kd.R_mono HO105.out (fun _ _ => trivial)), z_HO109, fun h0_ => absurd ((hoff 23 (by kernel_rfl)).symm.trans h0_) (by decide), fun h0_ => absurd ((hoff 26 (by kernel_rfl)).symm.trans h0_) (by decide)⟩
             refine steps_cons ?_ ?_
             ·rintro b a w' ⟨v104, v108, v112, v116, ha, Q_HB, Q_HO105, Q_HO109, Q_HO113, Q_HO117⟩ hb_ hon hoff
              refine ⟨_, rfl, fun K hK => ?_⟩
              have e35 : a.tmps[35]? = some (v104) := by rw [ha]; exact putSel_on (e := (6, 35, v104)) 2 rfl rfl (hon 6 (by kernel_rfl)) rfl
              replace ha := Aside0.mk ha
              have HB := Aside0.mk Q_HB
              have HO105 := Aside0.mk (Q_HO105 (hon 6 (by kernel_rfl)))
              obtain ⟨Ao34, co34, eo34⟩ := Kd.R_slice HO105.out
              (first | subst eo34 | (injection eo34 with f1_ f2_ f3_; have f4_ := f1_.symm; have f5_ := f3_.symm; clear f1_ f2_ f3_; subst f4_; subst f5_))
              refine goes_ Tryz.func32 (by kernel_rfl) rfl #[.slice Ao34 y103.length co34] (by first | rfl | exact wanted_on rfl rfl rfl e50 | exact wanted_on rfl rfl rfl e59) rfl rfl (by simp only [List.map_toArray, List.map_cons, List.map_nil, Act.eval, Array.getD_eq_getD_getElem?, Option.getD_some, e35] <;> rfl) ?_
              with_reducible refine (mint_Put.calls _ _ y103 t106 _ ?side99 ?side1 ?side2 A18.out).mono ?_
              (case side99 => exact GOK.below HG.out (by repeat (first | (with_reducible first | exact HB.out | apply below_alloc | apply pw_below_drewN | apply below_drew1) | exact HB.out)))
              (case side1 => repeat (first | exact (Kd.R_reads' HO105.out).2.2 | (with_reducible refine Kd.C_alloc ?_ _) | (with_reducible refine Kd.C_drewN ?_ _) | (with_reducible refine Kd.C_drew ?_)))
              (case side2 => exact (Kd.R_reads' HO105.out).2.1)
              rintro e w35 ⟨rfl, hb⟩
              refine ⟨_, rfl, ?_⟩
              have n0_ := Aside0.mk (Kd.R_below (by (with_reducible repeat (first | apply Kd.R_alloc | apply Kd.R_drewN | apply Kd.R_drew)); first | exact HO105.out | exact Kd.R_mono HO105.out (fun _ _ => trivial)) hb)
              have n1_ := Aside0.mk (below_step (by repeat (first | (with_reducible first | exact HB.out | apply below_alloc | apply pw_below_drewN | apply below_drew1) | exact HB.out)) hb)
              have z_HO109 := fun (h0_ : b 14 = true) => (show Kd.R Kd.string 9 w35 w.heap.size (fun _ => True) v108 y107 from by first | exact (Kd.R_below (by (with_reducible repeat (first | apply Kd.R_alloc | apply Kd.R_drewN | apply Kd.R_drew)); exact (Q_HO109 h0_)) hb) | exact Kd.R_mono (Kd.R_below (by (with_reducible repeat (first | apply Kd.R_alloc | apply Kd.R_drewN | apply Kd.R_drew)); exact (Q_HO109 h0_)) hb) (fun _ h_ => by first | trivial | exact h_ | exact h_.1))
              clear HO105
              clear HB
              have HO105 := n0_
              have HB := n1_
              clear n0_ n1_
              (try clear hb)
              (try clear hb2)
              (try clear hk)
              (try clear hi)
              refine hK.out _ _ ⟨.slice Ao34 y103.length co34, v108, v112, v116, (by rw [ha.out]; exact putSel_upk 3 hb_ rfl rfl rfl), (by repeat (first | (with_reducible first | exact HB.out | apply below_alloc | apply pw_below_drewN | apply below_drew1) | exact HB.out)), fun _ => (by (with_reducible repeat (first | apply Kd.R_alloc | apply Kd.R_drewN | apply Kd.R_drew)); first | exact HO105.out | exact Kd.R_mono HO105.out (fun _ _ => trivial)), z_HO109, fun h0_ => absurd ((hoff 23 (by kernel_rfl)).symm.trans h0_) (by decide), fun h0_ => absurd ((hoff 26 (by kernel_rfl)).symm.trans h0_) (by decide)⟩
             refine steps_cons ?_ ?_
             ·rintro b a w' ⟨v104, v108, v112, v116, ha, Q_HB, Q_HO105, Q_HO109, Q_HO113, Q_HO117⟩ hb_ hon hoff
              refine ⟨_, rfl, fun K hK => ?_⟩
              have e37 : a.tmps[37]? = some (.string t102) := by rw [ha]; exact (putSel_off rfl).trans rfl
              have e38 : a.tmps[38]? = some (.int .i64 ji19) := by rw [ha]; exact (putSel_off rfl).trans rfl
              replace ha := Aside0.mk ha
              have HB := Aside0.mk Q_HB
              refine value_ (w1 := w') (v := .string (t102.extract 0 ((ji19) : Int).toNat)) (by rfl) rfl ?_ ?_
              ·go_simp
               (try simp only [i64_w])
               first | rfl | (simp [bne]; done) | skip
              refine hK.out _ _ ⟨v104, v108, v112, v116, (by rw [ha.out]; exact putSel_upk 4 hb_ rfl rfl rfl), Q_HB, Q_HO105, fun h0_ => absurd ((hoff 14 (by kernel_rfl)).symm.trans h0_) (by decide), fun h0_ => absurd ((hoff 23 (by kernel_rfl)).symm.trans h0_) (by decide), fun h0_ => absurd ((hoff 26 (by kernel_rfl)).symm.trans h0_) (by decide)⟩
             refine steps_cons ?_ ?_
             ·rintro b a w' ⟨v104, v108, v112, v116, ha, Q_HB, Q_HO105, Q_HO109, Q_HO113, Q_HO117⟩ hb_ hon hoff
              refine ⟨_, rfl, fun K hK => ?_⟩
              have e40 : a.tmps[40]? = some (.string t102) := by rw [ha]; exact (putSel_off rfl).trans rfl
              have e41 : a.tmps[41]? = some (.int .i64 ji19) := by rw [ha]; exact (putSel_off rfl).trans rfl
              replace ha := Aside0.mk ha
              have HB := Aside0.mk Q_HB
              refine value_ (w1 := w') (v := .string (t102.extract ((ji19) : Int).toNat t102.size)) (by rfl) rfl ?_ ?_
              ·go_simp
               (try simp only [i64_w])
               first | rfl | (simp [bne]; done) | skip
              refine hK.out _ _ ⟨v104, v108, v112, v116, (by rw [ha.out]; exact putSel_upk 5 hb_ rfl rfl rfl), Q_HB, Q_HO105, fun h0_ => absurd ((hoff 14 (by kernel_rfl)).symm.trans h0_) (by decide), fun h0_ => absurd ((hoff 23 (by kernel_rfl)).symm.trans h0_) (by decide), fun h0_ => absurd ((hoff 26 (by kernel_rfl)).symm.trans h0_) (by decide)⟩
             refine steps_cons ?_ ?_
             ·rintro b a w' ⟨v104, v108, v112, v116, ha, Q_HB, Q_HO105, Q_HO109, Q_HO113, Q_HO117⟩ hb_ hon hoff
              refine ⟨_, rfl, fun K hK => ?_⟩
              have e39 : a.tmps[39]? = some (.string (t102.extract 0 ((ji19) : Int).toNat)) := by rw [ha]; exact putSel_on (e := (10, 39, .string (t102.extract 0 ((ji19) : Int).toNat))) 4 rfl rfl (hon 10 (by kernel_rfl)) rfl
              have e42 : a.tmps[42]? = some (.string (t102.extract ((ji19) : Int).toNat t102.size)) := by rw [ha]; exact putSel_on (e := (13, 42, .string (t102.extract ((ji19) : Int).toNat t102.size))) 5 rfl rfl (hon 13 (by kernel_rfl)) rfl
              replace ha := Aside0.mk ha
              have HB := Aside0.mk Q_HB
              refine Kd.R_lit_step Kd.string _ 9 ?hg (N := 43) ?hd (xs := ([t102.extract 0 ((ji19) : Int).toNat, t102.extract ((ji19) : Int).toNat t102.size] : List ByteArray)) (inner := [.string (t102.extract 0 ((ji19) : Int).toNat), .string (t102.extract ((ji19) : Int).toNat t102.size)]) (ok := fun _ => True) (okp := fun _ => True) ?hr ?hp (fun _ hk => hk) trivial (Below.refl _ _) (Nat.le_refl _) (by simp) ?_; (case hd => rfl); (case hg => first | rfl | exact wanted_on rfl rfl rfl e50 | exact wanted_on rfl rfl rfl e59); (case hr => first | (go_simp; done) | (go_simp; rfl)); (case hp => exact (Reps.one (show Kd.M Kd.string _ _ _ (t102.extract 0 ((ji19) : Int).toNat) [.string (t102.extract 0 ((ji19) : Int).toNat)] from rfl) (Reps.one (show Kd.M Kd.string _ _ _ (t102.extract ((ji19) : Int).toNat t102.size) [.string (t102.extract ((ji19) : Int).toNat t102.size)] from rfl) (Reps.none _ _))))
              intro v108 w31 ho32 hb hg_ hnew_
              clear hg_ hnew_
              (first | rw [← Ny107.out] at ho32 | (simp only [Int.reduceToNat] at ho32; rw [← Ny107.out] at ho32))
              have n0_ := Aside0.mk (Kd.R_lower ho32 (below_size (by repeat (first | (with_reducible first | exact HB.out | apply below_alloc | apply pw_below_drewN | apply below_drew1) | exact HB.out))))
              have n1_ := Aside0.mk (below_step (by repeat (first | (with_reducible first | exact HB.out | apply below_alloc | apply pw_below_drewN | apply below_drew1) | exact HB.out)) hb)
              have z_HO105 := fun (h0_ : b 6 = true) => (show Kd.R Kd.string 9 w31 w.heap.size (fun _ => True) v104 y103 from by first | exact (Kd.R_elder' (by (with_reducible repeat (first | apply Kd.R_alloc | apply Kd.R_drewN | apply Kd.R_drew)); exact (Q_HO105 h0_)) (Kd.R_base ho32) hb) | exact Kd.R_mono (Kd.R_elder' (by (with_reducible repeat (first | apply Kd.R_alloc | apply Kd.R_drewN | apply Kd.R_drew)); exact (Q_HO105 h0_)) (Kd.R_base ho32) hb) (fun _ h_ => by first | trivial | exact h_ | exact h_.1))
              clear HB
              have HO109 := n0_
              have HB := n1_
              clear n0_ n1_
              clear hb ho32
              refine hK.out _ _ ⟨v104, v108, v112, v116, (by rw [ha.out]; exact putSel_upk 6 hb_ rfl rfl rfl), (by repeat (first | (with_reducible first | exact HB.out | apply below_alloc | apply pw_below_drewN | apply below_drew1) | exact HB.out)), z_HO105, fun _ => (by (with_reducible repeat (first | apply Kd.R_alloc | apply Kd.R_drewN | apply Kd.R_drew)); first | exact HO109.out | exact Kd.R_mono HO109.out (fun _ _ => trivial)), fun h0_ => absurd ((hoff 23 (by kernel_rfl)).symm.trans h0_) (by decide), fun h0_ => absurd ((hoff 26 (by kernel_rfl)).symm.trans h0_) (by decide)⟩
             refine steps_cons ?_ ?_
             ·rintro b a w' ⟨v104, v108, v112, v116, ha, Q_HB, Q_HO105, Q_HO109, Q_HO113, Q_HO117⟩ hb_ hon hoff
              refine ⟨_, rfl, fun K hK => ?_⟩
              have e43 : a.tmps[43]? = some (v108) := by rw [ha]; exact putSel_on (e := (14, 43, v108)) 6 rfl rfl (hon 14 (by kernel_rfl)) rfl
              replace ha := Aside0.mk ha
              have HB := Aside0.mk Q_HB
              have HO105 := Aside0.mk (Q_HO105 (hon 6 (by kernel_rfl)))
              have HO109 := Aside0.mk (Q_HO109 (hon 14 (by kernel_rfl)))
              obtain ⟨Ao38, co38, eo38⟩ := Kd.R_slice HO109.out
              (first | subst eo38 | (injection eo38 with f1_ f2_ f3_; have f4_ := f1_.symm; have f5_ := f3_.symm; clear f1_ f2_ f3_; subst f4_; subst f5_))
              refine goes_ Tryz.func32 (by kernel_rfl) rfl #[.slice Ao38 y107.length co38] (by first | rfl | exact wanted_on rfl rfl rfl e50 | exact wanted_on rfl rfl rfl e59) rfl rfl (by simp only [List.map_toArray, List.map_cons, List.map_nil, Act.eval, Array.getD_eq_getD_getElem?, Option.getD_some, e43] <;> rfl) ?_
              with_reducible refine (mint_Put.calls _ _ y107 t110 _ ?side99 ?side1 ?side2 A24.out).mono ?_
              (case side99 => exact GOK.below HG.out (by repeat (first | (with_reducible first | exact HB.out | apply below_alloc | apply pw_below_drewN | apply below_drew1) | exact HB.out)))
              (case side1 => repeat (first | exact (Kd.R_reads' HO109.out).2.2 | (with_reducible refine Kd.C_alloc ?_ _) | (with_reducible refine Kd.C_drewN ?_ _) | (with_reducible refine Kd.C_drew ?_)))
              (case side2 => exact (Kd.R_reads' HO109.out).2.1)
              rintro e w39 ⟨rfl, hb⟩
              refine ⟨_, rfl, ?_⟩
              have n0_ := Aside0.mk (Kd.R_below (by (with_reducible repeat (first | apply Kd.R_alloc | apply Kd.R_drewN | apply Kd.R_drew)); first | exact HO105.out | exact Kd.R_mono HO105.out (fun _ _ => trivial)) hb)
              have n1_ := Aside0.mk (Kd.R_below (by (with_reducible repeat (first | apply Kd.R_alloc | apply Kd.R_drewN | apply Kd.R_drew)); first | exact HO109.out | exact Kd.R_mono HO109.out (fun _ _ => trivial)) hb)
              have n2_ := Aside0.mk (below_step (by repeat (first | (with_reducible first | exact HB.out | apply below_alloc | apply pw_below_drewN | apply below_drew1) | exact HB.out)) hb)
              clear HO105
              clear HO109
              clear HB
              have HO105 := n0_
              have HO109 := n1_
              have HB := n2_
              clear n0_ n1_ n2_
              (try clear hb)
              (try clear hb2)
              (try clear hk)
              (try clear hi)
              refine hK.out _ _ ⟨v104, .slice Ao38 y107.length co38, v112, v116, (by rw [ha.out]; exact putSel_upk 7 hb_ rfl rfl rfl), (by repeat (first | (with_reducible first | exact HB.out | apply below_alloc | apply pw_below_drewN | apply below_drew1) | exact HB.out)), fun _ => (by (with_reducible repeat (first | apply Kd.R_alloc | apply Kd.R_drewN | apply Kd.R_drew)); first | exact HO105.out | exact Kd.R_mono HO105.out (fun _ _ => trivial)), fun _ => (by (with_reducible repeat (first | apply Kd.R_alloc | apply Kd.R_drewN | apply Kd.R_drew)); first | exact HO109.out | exact Kd.R_mono HO109.out (fun _ _ => trivial)), fun h0_ => absurd ((hoff 23 (by kernel_rfl)).symm.trans h0_) (by decide), fun h0_ => absurd ((hoff 26 (by kernel_rfl)).symm.trans h0_) (by decide)⟩
             refine steps_cons ?_ ?_
             ·rintro b a w' ⟨v104, v108, v112, v116, ha, Q_HB, Q_HO105, Q_HO109, Q_HO113, Q_HO117⟩ hb_ hon hoff
              refine ⟨_, rfl, fun K hK => ?_⟩
              have e36 : a.tmps[36]? = some (.string t106) := by rw [ha]; exact putSel_on (e := (7, 36, .string t106)) 3 rfl rfl (hon 7 (by kernel_rfl)) rfl
              have e44 : a.tmps[44]? = some (.string t110) := by rw [ha]; exact putSel_on (e := (15, 44, .string t110)) 7 rfl rfl (hon 15 (by kernel_rfl)) rfl
              replace ha := Aside0.mk ha
              have HB := Aside0.mk Q_HB
              have HO105 := Aside0.mk (Q_HO105 (hon 6 (by kernel_rfl)))
              have HO109 := Aside0.mk (Q_HO109 (hon 14 (by kernel_rfl)))
              refine value_ (w1 := w') (v := .bool (t106.toList == t110.toList)) (by rfl) rfl ?_ ?_
              ·go_simp
               (try simp only [i64_w])
               first | rfl | (simp [bne]; done) | skip
              refine hK.out _ _ ⟨v104, v108, v112, v116, (by rw [ha.out]; exact putSel_upk 8 hb_ rfl rfl rfl), Q_HB, Q_HO105, Q_HO109, fun h0_ => absurd ((hoff 23 (by kernel_rfl)).symm.trans h0_) (by decide), fun h0_ => absurd ((hoff 26 (by kernel_rfl)).symm.trans h0_) (by decide)⟩
             refine steps_cons ?_ ?_
             ·rintro b a w' ⟨v104, v108, v112, v116, ha, Q_HB, Q_HO105, Q_HO109, Q_HO113, Q_HO117⟩ hb_ hon hoff
              refine ⟨_, rfl, fun K hK => ?_⟩
              have e46 : a.tmps[46]? = some (.int .i64 ji13) := by rw [ha]; exact (putSel_off rfl).trans rfl
              have e47 : a.tmps[47]? = some (.int .i64 ji19) := by rw [ha]; exact (putSel_off rfl).trans rfl
              replace ha := Aside0.mk ha
              have HB := Aside0.mk Q_HB
              refine value_ (w1 := w') (v := .bool ((ji13) == (ji19))) (by rfl) rfl ?_ ?_
              ·go_simp
               (try simp only [i64_w])
               first | rfl | (simp [bne]; done) | skip
              refine hK.out _ _ ⟨v104, v108, v112, v116, (by rw [ha.out]; exact putSel_upk 9 hb_ rfl rfl rfl), Q_HB, Q_HO105, Q_HO109, fun h0_ => absurd ((hoff 23 (by kernel_rfl)).symm.trans h0_) (by decide), fun h0_ => absurd ((hoff 26 (by kernel_rfl)).symm.trans h0_) (by decide)⟩
             refine steps_cons ?_ ?_
             ·rintro b a w' ⟨v104, v108, v112, v116, ha, Q_HB, Q_HO105, Q_HO109, Q_HO113, Q_HO117⟩ hb_ hon hoff
              refine ⟨_, rfl, fun K hK => ?_⟩
              have e45 : a.tmps[45]? = some (.bool (t106.toList == t110.toList)) := by rw [ha]; exact putSel_on (e := (16, 45, .bool (t106.toList == t110.toList))) 8 rfl rfl (hon 16 (by kernel_rfl)) rfl
              try rw [(by assumption : (t106.toList == t110.toList) = true)] at e45
              try rw [(by assumption : (t106.toList == t110.toList) = false)] at e45
              have e48 : a.tmps[48]? = some (.bool ((ji13) == (ji19))) := by rw [ha]; exact putSel_on (e := (19, 48, .bool ((ji13) == (ji19)))) 9 rfl rfl (hon 19 (by kernel_rfl)) rfl
              try rw [(by assumption : ((ji13) == (ji19)) = true)] at e48
              try rw [(by assumption : ((ji13) == (ji19)) = false)] at e48
              replace ha := Aside0.mk ha
              have HB := Aside0.mk Q_HB
              have HO105 := Aside0.mk (Q_HO105 (hon 6 (by kernel_rfl)))
              have HO109 := Aside0.mk (Q_HO109 (hon 14 (by kernel_rfl)))
              refine value_ (w1 := w') (v := .bool ((t106.toList == t110.toList) == ((ji13) == (ji19)))) (by rfl) rfl ?_ ?_
              ·go_simp
               (try simp only [i64_w])
               first | rfl | (simp [bne]; done) | skip
              refine hK.out _ _ ⟨v104, v108, v112, v116, (by rw [ha.out]; exact putSel_upk 10 hb_ rfl rfl rfl), Q_HB, Q_HO105, Q_HO109, fun h0_ => absurd ((hoff 23 (by kernel_rfl)).symm.trans h0_) (by decide), fun h0_ => absurd ((hoff 26 (by kernel_rfl)).symm.trans h0_) (by decide)⟩
             refine steps_cons ?_ ?_
             ·rintro b a w' ⟨v104, v108, v112, v116, ha, Q_HB, Q_HO105, Q_HO109, Q_HO113, Q_HO117⟩ hb_ hon hoff
              refine ⟨_, rfl, fun K hK => ?_⟩
              have e49 : a.tmps[49]? = some (.bool ((t106.toList == t110.toList) == ((ji13) == (ji19)))) := by rw [ha]; exact putSel_on (e := (20, 49, .bool ((t106.toList == t110.toList) == ((ji13) == (ji19))))) 10 rfl rfl (hon 20 (by kernel_rfl)) rfl
              try rw [(by assumption : ((t106.toList == t110.toList) == ((ji13) == (ji19))) = true)] at e49
              try rw [(by assumption : ((t106.toList == t110.toList) == ((ji13) == (ji19))) = false)] at e49
              replace ha := Aside0.mk ha
              have HB := Aside0.mk Q_HB
              have HO105 := Aside0.mk (Q_HO105 (hon 6 (by kernel_rfl)))
              have HO109 := Aside0.mk (Q_HO109 (hon 14 (by kernel_rfl)))
              refine value_ (w1 := w') (v := .bool ((t106.toList == t110.toList) == ((ji13) == (ji19)))) (by rfl) rfl ?_ ?_
              ·go_simp
               (try simp only [i64_w])
               first | rfl | (simp [bne]; done) | skip
              refine hK.out _ _ ⟨v104, v108, v112, v116, (by rw [ha.out]; exact putSel_upk 11 hb_ rfl rfl rfl), Q_HB, Q_HO105, Q_HO109, fun h0_ => absurd ((hoff 23 (by kernel_rfl)).symm.trans h0_) (by decide), fun h0_ => absurd ((hoff 26 (by kernel_rfl)).symm.trans h0_) (by decide)⟩
             refine steps_cons ?_ ?_
             ·rintro b a w' ⟨v104, v108, v112, v116, ha, Q_HB, Q_HO105, Q_HO109, Q_HO113, Q_HO117⟩ hb_ hon hoff
              refine ⟨_, rfl, fun K hK => ?_⟩
              have e0 : a.tmps[0]? = some (.string t102) := by rw [ha]; exact (putSel_off rfl).trans rfl
              have e50 : a.tmps[50]? = some (.bool ((t106.toList == t110.toList) == ((ji13) == (ji19)))) := by rw [ha]; exact putSel_on (e := (21, 50, .bool ((t106.toList == t110.toList) == ((ji13) == (ji19))))) 11 rfl rfl (hon 21 (by kernel_rfl)) rfl
              try rw [(by assumption : ((t106.toList == t110.toList) == ((ji13) == (ji19))) = true)] at e50
              try rw [(by assumption : ((t106.toList == t110.toList) == ((ji13) == (ji19))) = false)] at e50
              replace ha := Aside0.mk ha
              have HB := Aside0.mk Q_HB
              have HO105 := Aside0.mk (Q_HO105 (hon 6 (by kernel_rfl)))
              have HO109 := Aside0.mk (Q_HO109 (hon 14 (by kernel_rfl)))
              refine value_ (w1 := w') (v := .string t102) (wanted_on rfl rfl rfl (e50.trans (by first | rfl | (simp [*]; done)))) rfl ?_ ?_
              ·go_simp
               (try simp only [i64_w])
               first | rfl | (simp [bne]; done) | skip
              refine hK.out _ _ ⟨v104, v108, v112, v116, (by rw [ha.out]; exact putSel_upk 12 hb_ rfl rfl rfl), Q_HB, Q_HO105, Q_HO109, fun h0_ => absurd ((hoff 23 (by kernel_rfl)).symm.trans h0_) (by decide), Q_HO117⟩
             refine steps_cons ?_ ?_
             ·rintro b a w' ⟨v104, v108, v112, v116, ha, Q_HB, Q_HO105, Q_HO109, Q_HO113, Q_HO117⟩ hb_ hon hoff
              refine ⟨_, rfl, fun K hK => ?_⟩
              have e51 : a.tmps[51]? = some (.string t102) := by rw [ha]; exact putSel_on (e := (22, 51, .string t102)) 12 rfl rfl (hon 22 (by kernel_rfl)) rfl
              have e50 : a.tmps[50]? = some (.bool ((t106.toList == t110.toList) == ((ji13) == (ji19)))) := by rw [ha]; exact putSel_on (e := (21, 50, .bool ((t106.toList == t110.toList) == ((ji13) == (ji19))))) 11 rfl rfl (hon 21 (by kernel_rfl)) rfl
              try rw [(by assumption : ((t106.toList == t110.toList) == ((ji13) == (ji19))) = true)] at e50
              try rw [(by assumption : ((t106.toList == t110.toList) == ((ji13) == (ji19))) = false)] at e50
              replace ha := Aside0.mk ha
              have HB := Aside0.mk Q_HB
              have HO105 := Aside0.mk (Q_HO105 (hon 6 (by kernel_rfl)))
              have HO109 := Aside0.mk (Q_HO109 (hon 14 (by kernel_rfl)))
              refine Kd.R_lit_step Kd.string _ 9 ?hg (N := 52) ?hd (xs := ([t102] : List ByteArray)) (inner := [.string t102]) (ok := fun _ => True) (okp := fun _ => True) ?hr ?hp (fun _ hk => hk) trivial (Below.refl _ _) (Nat.le_refl _) (by simp) ?_; (case hd => rfl); (case hg => first | rfl | exact wanted_on rfl rfl rfl e50 | exact wanted_on rfl rfl rfl e59); (case hr => first | (go_simp; done) | (go_simp; rfl)); (case hp => exact (Reps.one (show Kd.M Kd.string _ _ _ t102 [.string t102] from rfl) (Reps.none _ _)))
              intro v112 w40 ho41 hb hg_ hnew_
              clear hg_ hnew_
              (first | rw [← Ny111.out] at ho41 | (simp only [Int.reduceToNat] at ho41; rw [← Ny111.out] at ho41))
              have n0_ := Aside0.mk (Kd.R_elder' (by (with_reducible repeat (first | apply Kd.R_alloc | apply Kd.R_drewN | apply Kd.R_drew)); first | exact HO105.out | exact Kd.R_mono HO105.out (fun _ _ => trivial)) (Kd.R_base ho41) hb)
              have n1_ := Aside0.mk (Kd.R_elder' (by (with_reducible repeat (first | apply Kd.R_alloc | apply Kd.R_drewN | apply Kd.R_drew)); first | exact HO109.out | exact Kd.R_mono HO109.out (fun _ _ => trivial)) (Kd.R_base ho41) hb)
              have n2_ := Aside0.mk (Kd.R_lower (Kd.R_new' (Kd.R_new' ho41 (Kd.R_lt (by (with_reducible repeat (first | apply Kd.R_alloc | apply Kd.R_drewN | apply Kd.R_drew)); first | exact HO105.out | exact Kd.R_mono HO105.out (fun _ _ => trivial)))) (Kd.R_lt (by (with_reducible repeat (first | apply Kd.R_alloc | apply Kd.R_drewN | apply Kd.R_drew)); first | exact HO109.out | exact Kd.R_mono HO109.out (fun _ _ => trivial)))) (below_size (by repeat (first | (with_reducible first | exact HB.out | apply below_alloc | apply pw_below_drewN | apply below_drew1) | exact HB.out))))
              have n3_ := Aside0.mk (below_step (by repeat (first | (with_reducible first | exact HB.out | apply below_alloc | apply pw_below_drewN | apply below_drew1) | exact HB.out)) hb)
              have z_HO117 := fun (h0_ : b 26 = true) => (show Kd.R Kd.string 9 w40 w.heap.size (fun _ => True) v116 y115 from by first | exact (Kd.R_elder' (by (with_reducible repeat (first | apply Kd.R_alloc | apply Kd.R_drewN | apply Kd.R_drew)); exact (Q_HO117 h0_)) (Kd.R_base ho41) hb) | exact Kd.R_mono (Kd.R_elder' (by (with_reducible repeat (first | apply Kd.R_alloc | apply Kd.R_drewN | apply Kd.R_drew)); exact (Q_HO117 h0_)) (Kd.R_base ho41) hb) (fun _ h_ => by first | trivial | exact h_ | exact h_.1))
              clear HO105
              clear HO109
              clear HB
              have HO105 := n0_
              have HO109 := n1_
              have HO113 := n2_
              have HB := n3_
              clear n0_ n1_ n2_ n3_
              clear hb ho41
              refine hK.out _ _ ⟨v104, v108, v112, v116, (by rw [ha.out]; exact putSel_upk 13 hb_ rfl rfl rfl), (by repeat (first | (with_reducible first | exact HB.out | apply below_alloc | apply pw_below_drewN | apply below_drew1) | exact HB.out)), fun _ => (by (with_reducible repeat (first | apply Kd.R_alloc | apply Kd.R_drewN | apply Kd.R_drew)); first | exact HO105.out | exact Kd.R_mono HO105.out (fun _ _ => trivial)), fun _ => (by (with_reducible repeat (first | apply Kd.R_alloc | apply Kd.R_drewN | apply Kd.R_drew)); first | exact HO109.out | exact Kd.R_mono HO109.out (fun _ _ => trivial)), fun _ => (by (with_reducible repeat (first | apply Kd.R_alloc | apply Kd.R_drewN | apply Kd.R_drew)); exact Kd.R_mono HO113.out (fun _ hk => by first | trivial | exact ⟨hk.1.2, hk.2⟩)), z_HO117⟩
             refine steps_cons ?_ ?_
             ·rintro b a w' ⟨v104, v108, v112, v116, ha, Q_HB, Q_HO105, Q_HO109, Q_HO113, Q_HO117⟩ hb_ hon hoff
              refine ⟨_, rfl, fun K hK => ?_⟩
              have e52 : a.tmps[52]? = some (v112) := by rw [ha]; exact putSel_on (e := (23, 52, v112)) 13 rfl rfl (hon 23 (by kernel_rfl)) rfl
              have e50 : a.tmps[50]? = some (.bool ((t106.toList == t110.toList) == ((ji13) == (ji19)))) := by rw [ha]; exact putSel_on (e := (21, 50, .bool ((t106.toList == t110.toList) == ((ji13) == (ji19))))) 11 rfl rfl (hon 21 (by kernel_rfl)) rfl
              try rw [(by assumption : ((t106.toList == t110.toList) == ((ji13) == (ji19))) = true)] at e50
              try rw [(by assumption : ((t106.toList == t110.toList) == ((ji13) == (ji19))) = false)] at e50
              replace ha := Aside0.mk ha
              have HB := Aside0.mk Q_HB
              have HO105 := Aside0.mk (Q_HO105 (hon 6 (by kernel_rfl)))
              have HO109 := Aside0.mk (Q_HO109 (hon 14 (by kernel_rfl)))
              have HO113 := Aside0.mk (Q_HO113 (hon 23 (by kernel_rfl)))
              obtain ⟨Ao42, co42, eo42⟩ := Kd.R_slice HO113.out
              (first | subst eo42 | (injection eo42 with f1_ f2_ f3_; have f4_ := f1_.symm; have f5_ := f3_.symm; clear f1_ f2_ f3_; subst f4_; subst f5_))
              refine goes_ Tryz.func32 (by kernel_rfl) rfl #[.slice Ao42 y111.length co42] (by first | rfl | exact wanted_on rfl rfl rfl e50 | exact wanted_on rfl rfl rfl e59) rfl rfl (by simp only [List.map_toArray, List.map_cons, List.map_nil, Act.eval, Array.getD_eq_getD_getElem?, Option.getD_some, e52, e50] <;> rfl) ?_
              with_reducible refine (mint_Put.calls _ _ y111 t114 _ ?side99 ?side1 ?side2 A26.out).mono ?_
              (case side99 => exact GOK.below HG.out (by repeat (first | (with_reducible first | exact HB.out | apply below_alloc | apply pw_below_drewN | apply below_drew1) | exact HB.out)))
              (case side1 => repeat (first | exact (Kd.R_reads' HO113.out).2.2 | (with_reducible refine Kd.C_alloc ?_ _) | (with_reducible refine Kd.C_drewN ?_ _) | (with_reducible refine Kd.C_drew ?_)))
              (case side2 => exact (Kd.R_reads' HO113.out).2.1)
              rintro e w43 ⟨rfl, hb⟩
              refine ⟨_, rfl, ?_⟩
              have n0_ := Aside0.mk (Kd.R_below (by (with_reducible repeat (first | apply Kd.R_alloc | apply Kd.R_drewN | apply Kd.R_drew)); first | exact HO105.out | exact Kd.R_mono HO105.out (fun _ _ => trivial)) hb)
              have n1_ := Aside0.mk (Kd.R_below (by (with_reducible repeat (first | apply Kd.R_alloc | apply Kd.R_drewN | apply Kd.R_drew)); first | exact HO109.out | exact Kd.R_mono HO109.out (fun _ _ => trivial)) hb)
              have n2_ := Aside0.mk (Kd.R_below (by (with_reducible repeat (first | apply Kd.R_alloc | apply Kd.R_drewN | apply Kd.R_drew)); first | exact HO113.out | exact Kd.R_mono HO113.out (fun _ _ => trivial)) hb)
              have n3_ := Aside0.mk (below_step (by repeat (first | (with_reducible first | exact HB.out | apply below_alloc | apply pw_below_drewN | apply below_drew1) | exact HB.out)) hb)
              have z_HO117 := fun (h0_ : b 26 = true) => (show Kd.R Kd.string 9 w43 w.heap.size (fun _ => True) v116 y115 from by first | exact (Kd.R_below (by (with_reducible repeat (first | apply Kd.R_alloc | apply Kd.R_drewN | apply Kd.R_drew)); exact (Q_HO117 h0_)) hb) | exact Kd.R_mono (Kd.R_below (by (with_reducible repeat (first | apply Kd.R_alloc | apply Kd.R_drewN | apply Kd.R_drew)); exact (Q_HO117 h0_)) hb) (fun _ h_ => by first | trivial | exact h_ | exact h_.1))
              clear HO105
              clear HO109
              clear HO113
              clear HB
              have HO105 := n0_
              have HO109 := n1_
              have HO113 := n2_
              have HB := n3_
              clear n0_ n1_ n2_ n3_
              (try clear hb)
              (try clear hb2)
              (try clear hk)
              (try clear hi)
              refine hK.out _ _ ⟨v104, v108, .slice Ao42 y111.length co42, v116, (by rw [ha.out]; exact putSel_upk 14 hb_ rfl rfl rfl), (by repeat (first | (with_reducible first | exact HB.out | apply below_alloc | apply pw_below_drewN | apply below_drew1) | exact HB.out)), fun _ => (by (with_reducible repeat (first | apply Kd.R_alloc | apply Kd.R_drewN | apply Kd.R_drew)); first | exact HO105.out | exact Kd.R_mono HO105.out (fun _ _ => trivial)), fun _ => (by (with_reducible repeat (first | apply Kd.R_alloc | apply Kd.R_drewN | apply Kd.R_drew)); first | exact HO109.out | exact Kd.R_mono HO109.out (fun _ _ => trivial)), fun _ => (by (with_reducible repeat (first | apply Kd.R_alloc | apply Kd.R_drewN | apply Kd.R_drew)); first | exact HO113.out | exact Kd.R_mono HO113.out (fun _ _ => trivial)), z_HO117⟩
             refine steps_cons ?_ ?_
             ·rintro b a w' ⟨v104, v108, v112, v116, ha, Q_HB, Q_HO105, Q_HO109, Q_HO113, Q_HO117⟩ hb_ hon hoff
              refine ⟨_, rfl, fun K hK => ?_⟩
              have e0 : a.tmps[0]? = some (.string t102) := by rw [ha]; exact (putSel_off rfl).trans rfl
              have e50 : a.tmps[50]? = some (.bool ((t106.toList == t110.toList) == ((ji13) == (ji19)))) := by rw [ha]; exact putSel_on (e := (21, 50, .bool ((t106.toList == t110.toList) == ((ji13) == (ji19))))) 11 rfl rfl (hon 21 (by kernel_rfl)) rfl
              try rw [(by assumption : ((t106.toList == t110.toList) == ((ji13) == (ji19))) = true)] at e50
              try rw [(by assumption : ((t106.toList == t110.toList) == ((ji13) == (ji19))) = false)] at e50
              replace ha := Aside0.mk ha
              have HB := Aside0.mk Q_HB
              have HO105 := Aside0.mk (Q_HO105 (hon 6 (by kernel_rfl)))
              have HO109 := Aside0.mk (Q_HO109 (hon 14 (by kernel_rfl)))
              refine value_ (w1 := w') (v := .string t102) (wanted_on rfl rfl rfl (e50.trans (by first | rfl | (simp [*]; done)))) rfl ?_ ?_
              ·go_simp
               (try simp only [i64_w])
               first | rfl | (simp [bne]; done) | skip
              refine hK.out _ _ ⟨v104, v108, v112, v116, (by rw [ha.out]; exact putSel_upk 15 hb_ rfl rfl rfl), Q_HB, Q_HO105, Q_HO109, Q_HO113, fun h0_ => absurd ((hoff 26 (by kernel_rfl)).symm.trans h0_) (by decide)⟩
             refine steps_cons ?_ ?_
             ·rintro b a w' ⟨v104, v108, v112, v116, ha, Q_HB, Q_HO105, Q_HO109, Q_HO113, Q_HO117⟩ hb_ hon hoff
              refine ⟨_, rfl, fun K hK => ?_⟩
              have e54 : a.tmps[54]? = some (.string t102) := by rw [ha]; exact putSel_on (e := (25, 54, .string t102)) 15 rfl rfl (hon 25 (by kernel_rfl)) rfl
              have e50 : a.tmps[50]? = some (.bool ((t106.toList == t110.toList) == ((ji13) == (ji19)))) := by rw [ha]; exact putSel_on (e := (21, 50, .bool ((t106.toList == t110.toList) == ((ji13) == (ji19))))) 11 rfl rfl (hon 21 (by kernel_rfl)) rfl
              try rw [(by assumption : ((t106.toList == t110.toList) == ((ji13) == (ji19))) = true)] at e50
              try rw [(by assumption : ((t106.toList == t110.toList) == ((ji13) == (ji19))) = false)] at e50
              replace ha := Aside0.mk ha
              have HB := Aside0.mk Q_HB
              have HO105 := Aside0.mk (Q_HO105 (hon 6 (by kernel_rfl)))
              have HO109 := Aside0.mk (Q_HO109 (hon 14 (by kernel_rfl)))
              refine Kd.R_lit_step Kd.string _ 9 ?hg (N := 55) ?hd (xs := ([t102, (⟨#[]⟩ : ByteArray)] : List ByteArray)) (inner := [.string t102, .string (⟨#[]⟩ : ByteArray)]) (ok := fun _ => True) (okp := fun _ => True) ?hr ?hp (fun _ hk => hk) trivial (Below.refl _ _) (Nat.le_refl _) (by simp) ?_; (case hd => rfl); (case hg => first | rfl | exact wanted_on rfl rfl rfl e50 | exact wanted_on rfl rfl rfl e59); (case hr => first | (go_simp; done) | (go_simp; rfl)); (case hp => exact (Reps.one (show Kd.M Kd.string _ _ _ t102 [.string t102] from rfl) (Reps.one (show Kd.M Kd.string _ _ _ (⟨#[]⟩ : ByteArray) [.string (⟨#[]⟩ : ByteArray)] from rfl) (Reps.none _ _))))
              intro v116 w40 ho41 hb hg_ hnew_
              clear hg_ hnew_
              (first | rw [← Ny115.out] at ho41 | (simp only [Int.reduceToNat] at ho41; rw [← Ny115.out] at ho41))
              have n0_ := Aside0.mk (Kd.R_elder' (by (with_reducible repeat (first | apply Kd.R_alloc | apply Kd.R_drewN | apply Kd.R_drew)); first | exact HO105.out | exact Kd.R_mono HO105.out (fun _ _ => trivial)) (Kd.R_base ho41) hb)
              have n1_ := Aside0.mk (Kd.R_elder' (by (with_reducible repeat (first | apply Kd.R_alloc | apply Kd.R_drewN | apply Kd.R_drew)); first | exact HO109.out | exact Kd.R_mono HO109.out (fun _ _ => trivial)) (Kd.R_base ho41) hb)
              have n2_ := Aside0.mk (Kd.R_lower (Kd.R_new' (Kd.R_new' ho41 (Kd.R_lt (by (with_reducible repeat (first | apply Kd.R_alloc | apply Kd.R_drewN | apply Kd.R_drew)); first | exact HO105.out | exact Kd.R_mono HO105.out (fun _ _ => trivial)))) (Kd.R_lt (by (with_reducible repeat (first | apply Kd.R_alloc | apply Kd.R_drewN | apply Kd.R_drew)); first | exact HO109.out | exact Kd.R_mono HO109.out (fun _ _ => trivial)))) (below_size (by repeat (first | (with_reducible first | exact HB.out | apply below_alloc | apply pw_below_drewN | apply below_drew1) | exact HB.out))))
              have n3_ := Aside0.mk (below_step (by repeat (first | (with_reducible first | exact HB.out | apply below_alloc | apply pw_below_drewN | apply below_drew1) | exact HB.out)) hb)
              have z_HO113 := fun (h0_ : b 23 = true) => (show Kd.R Kd.string 9 w40 w.heap.size (fun _ => True) v112 y111 from by first | exact (Kd.R_elder' (by (with_reducible repeat (first | apply Kd.R_alloc | apply Kd.R_drewN | apply Kd.R_drew)); exact (Q_HO113 h0_)) (Kd.R_base ho41) hb) | exact Kd.R_mono (Kd.R_elder' (by (with_reducible repeat (first | apply Kd.R_alloc | apply Kd.R_drewN | apply Kd.R_drew)); exact (Q_HO113 h0_)) (Kd.R_base ho41) hb) (fun _ h_ => by first | trivial | exact h_ | exact h_.1))
              clear HO105
              clear HO109
              clear HB
              have HO105 := n0_
              have HO109 := n1_
              have HO117 := n2_
              have HB := n3_
              clear n0_ n1_ n2_ n3_
              clear hb ho41
              refine hK.out _ _ ⟨v104, v108, v112, v116, (by rw [ha.out]; exact putSel_upk 16 hb_ rfl rfl rfl), (by repeat (first | (with_reducible first | exact HB.out | apply below_alloc | apply pw_below_drewN | apply below_drew1) | exact HB.out)), fun _ => (by (with_reducible repeat (first | apply Kd.R_alloc | apply Kd.R_drewN | apply Kd.R_drew)); first | exact HO105.out | exact Kd.R_mono HO105.out (fun _ _ => trivial)), fun _ => (by (with_reducible repeat (first | apply Kd.R_alloc | apply Kd.R_drewN | apply Kd.R_drew)); first | exact HO109.out | exact Kd.R_mono HO109.out (fun _ _ => trivial)), z_HO113, fun _ => (by (with_reducible repeat (first | apply Kd.R_alloc | apply Kd.R_drewN | apply Kd.R_drew)); exact Kd.R_mono HO117.out (fun _ hk => by first | trivial | exact ⟨hk.1.2, hk.2⟩))⟩
             refine steps_cons ?_ ?_
             ·rintro b a w' ⟨v104, v108, v112, v116, ha, Q_HB, Q_HO105, Q_HO109, Q_HO113, Q_HO117⟩ hb_ hon hoff
              refine ⟨_, rfl, fun K hK => ?_⟩
              have e55 : a.tmps[55]? = some (v116) := by rw [ha]; exact putSel_on (e := (26, 55, v116)) 16 rfl rfl (hon 26 (by kernel_rfl)) rfl
              have e50 : a.tmps[50]? = some (.bool ((t106.toList == t110.toList) == ((ji13) == (ji19)))) := by rw [ha]; exact putSel_on (e := (21, 50, .bool ((t106.toList == t110.toList) == ((ji13) == (ji19))))) 11 rfl rfl (hon 21 (by kernel_rfl)) rfl
              try rw [(by assumption : ((t106.toList == t110.toList) == ((ji13) == (ji19))) = true)] at e50
              try rw [(by assumption : ((t106.toList == t110.toList) == ((ji13) == (ji19))) = false)] at e50
              replace ha := Aside0.mk ha
              have HB := Aside0.mk Q_HB
              have HO105 := Aside0.mk (Q_HO105 (hon 6 (by kernel_rfl)))
              have HO109 := Aside0.mk (Q_HO109 (hon 14 (by kernel_rfl)))
              have HO113 := Aside0.mk (Q_HO113 (hon 23 (by kernel_rfl)))
              have HO117 := Aside0.mk (Q_HO117 (hon 26 (by kernel_rfl)))
              obtain ⟨Ao46, co46, eo46⟩ := Kd.R_slice HO117.out
              (first | subst eo46 | (injection eo46 with f1_ f2_ f3_; have f4_ := f1_.symm; have f5_ := f3_.symm; clear f1_ f2_ f3_; subst f4_; subst f5_))
              refine goes_ Tryz.func32 (by kernel_rfl) rfl #[.slice Ao46 y115.length co46] (by first | rfl | exact wanted_on rfl rfl rfl e50 | exact wanted_on rfl rfl rfl e59) rfl rfl (by simp only [List.map_toArray, List.map_cons, List.map_nil, Act.eval, Array.getD_eq_getD_getElem?, Option.getD_some, e55, e50] <;> rfl) ?_
              with_reducible refine (mint_Put.calls _ _ y115 t118 _ ?side99 ?side1 ?side2 A27.out).mono ?_
              (case side99 => exact GOK.below HG.out (by repeat (first | (with_reducible first | exact HB.out | apply below_alloc | apply pw_below_drewN | apply below_drew1) | exact HB.out)))
              (case side1 => repeat (first | exact (Kd.R_reads' HO117.out).2.2 | (with_reducible refine Kd.C_alloc ?_ _) | (with_reducible refine Kd.C_drewN ?_ _) | (with_reducible refine Kd.C_drew ?_)))
              (case side2 => exact (Kd.R_reads' HO117.out).2.1)
              rintro e w47 ⟨rfl, hb⟩
              refine ⟨_, rfl, ?_⟩
              have n0_ := Aside0.mk (Kd.R_below (by (with_reducible repeat (first | apply Kd.R_alloc | apply Kd.R_drewN | apply Kd.R_drew)); first | exact HO105.out | exact Kd.R_mono HO105.out (fun _ _ => trivial)) hb)
              have n1_ := Aside0.mk (Kd.R_below (by (with_reducible repeat (first | apply Kd.R_alloc | apply Kd.R_drewN | apply Kd.R_drew)); first | exact HO109.out | exact Kd.R_mono HO109.out (fun _ _ => trivial)) hb)
              have n2_ := Aside0.mk (Kd.R_below (by (with_reducible repeat (first | apply Kd.R_alloc | apply Kd.R_drewN | apply Kd.R_drew)); first | exact HO113.out | exact Kd.R_mono HO113.out (fun _ _ => trivial)) hb)
              have n3_ := Aside0.mk (Kd.R_below (by (with_reducible repeat (first | apply Kd.R_alloc | apply Kd.R_drewN | apply Kd.R_drew)); first | exact HO117.out | exact Kd.R_mono HO117.out (fun _ _ => trivial)) hb)
              have n4_ := Aside0.mk (below_step (by repeat (first | (with_reducible first | exact HB.out | apply below_alloc | apply pw_below_drewN | apply below_drew1) | exact HB.out)) hb)
              clear HO105
              clear HO109
              clear HO113
              clear HO117
              clear HB
              have HO105 := n0_
              have HO109 := n1_
              have HO113 := n2_
              have HO117 := n3_
              have HB := n4_
              clear n0_ n1_ n2_ n3_ n4_
              (try clear hb)
              (try clear hb2)
              (try clear hk)
              (try clear hi)
              refine hK.out _ _ ⟨v104, v108, v112, .slice Ao46 y115.length co46, (by rw [ha.out]; exact putSel_upk 17 hb_ rfl rfl rfl), (by repeat (first | (with_reducible first | exact HB.out | apply below_alloc | apply pw_below_drewN | apply below_drew1) | exact HB.out)), fun _ => (by (with_reducible repeat (first | apply Kd.R_alloc | apply Kd.R_drewN | apply Kd.R_drew)); first | exact HO105.out | exact Kd.R_mono HO105.out (fun _ _ => trivial)), fun _ => (by (with_reducible repeat (first | apply Kd.R_alloc | apply Kd.R_drewN | apply Kd.R_drew)); first | exact HO109.out | exact Kd.R_mono HO109.out (fun _ _ => trivial)), fun _ => (by (with_reducible repeat (first | apply Kd.R_alloc | apply Kd.R_drewN | apply Kd.R_drew)); first | exact HO113.out | exact Kd.R_mono HO113.out (fun _ _ => trivial)), fun _ => (by (with_reducible repeat (first | apply Kd.R_alloc | apply Kd.R_drewN | apply Kd.R_drew)); first | exact HO117.out | exact Kd.R_mono HO117.out (fun _ _ => trivial))⟩
             refine steps_cons ?_ ?_
             ·rintro b a w' ⟨v104, v108, v112, v116, ha, Q_HB, Q_HO105, Q_HO109, Q_HO113, Q_HO117⟩ hb_ hon hoff
              refine ⟨_, rfl, fun K hK => ?_⟩
              have e53 : a.tmps[53]? = some (.string t114) := by rw [ha]; exact putSel_on (e := (24, 53, .string t114)) 14 rfl rfl (hon 24 (by kernel_rfl)) rfl
              have e56 : a.tmps[56]? = some (.string t118) := by rw [ha]; exact putSel_on (e := (27, 56, .string t118)) 17 rfl rfl (hon 27 (by kernel_rfl)) rfl
              have e50 : a.tmps[50]? = some (.bool ((t106.toList == t110.toList) == ((ji13) == (ji19)))) := by rw [ha]; exact putSel_on (e := (21, 50, .bool ((t106.toList == t110.toList) == ((ji13) == (ji19))))) 11 rfl rfl (hon 21 (by kernel_rfl)) rfl
              try rw [(by assumption : ((t106.toList == t110.toList) == ((ji13) == (ji19))) = true)] at e50
              try rw [(by assumption : ((t106.toList == t110.toList) == ((ji13) == (ji19))) = false)] at e50
              replace ha := Aside0.mk ha
              have HB := Aside0.mk Q_HB
              have HO105 := Aside0.mk (Q_HO105 (hon 6 (by kernel_rfl)))
              have HO109 := Aside0.mk (Q_HO109 (hon 14 (by kernel_rfl)))
              have HO113 := Aside0.mk (Q_HO113 (hon 23 (by kernel_rfl)))
              have HO117 := Aside0.mk (Q_HO117 (hon 26 (by kernel_rfl)))
              refine value_ (w1 := w') (v := .bool (t114.toList != t118.toList)) (wanted_on rfl rfl rfl (e50.trans (by first | rfl | (simp [*]; done)))) rfl ?_ ?_
              ·go_simp
               (try simp only [i64_w])
               first | rfl | (simp [bne]; done) | skip
              refine hK.out _ _ ⟨v104, v108, v112, v116, (by rw [ha.out]; exact putSel_upk 18 hb_ rfl rfl rfl), Q_HB, Q_HO105, Q_HO109, Q_HO113, Q_HO117⟩
             refine steps_cons ?_ ?_
             ·rintro b a w' ⟨v104, v108, v112, v116, ha, Q_HB, Q_HO105, Q_HO109, Q_HO113, Q_HO117⟩ hb_ hon hoff
              refine ⟨_, rfl, fun K hK => ?_⟩
              have e50 : a.tmps[50]? = some (.bool ((t106.toList == t110.toList) == ((ji13) == (ji19)))) := by rw [ha]; exact putSel_on (e := (21, 50, .bool ((t106.toList == t110.toList) == ((ji13) == (ji19))))) 11 rfl rfl (hon 21 (by kernel_rfl)) rfl
              try rw [(by assumption : ((t106.toList == t110.toList) == ((ji13) == (ji19))) = true)] at e50
              try rw [(by assumption : ((t106.toList == t110.toList) == ((ji13) == (ji19))) = false)] at e50
              have e57 : a.tmps[57]? = some (.bool (t114.toList != t118.toList)) := by rw [ha]; exact putSel_on (e := (28, 57, .bool (t114.toList != t118.toList))) 18 rfl rfl (hon 28 (by kernel_rfl)) rfl
              try rw [(by assumption : (t114.toList != t118.toList) = true)] at e57
              try rw [(by assumption : (t114.toList != t118.toList) = false)] at e57
              replace ha := Aside0.mk ha
              have HB := Aside0.mk Q_HB
              have HO105 := Aside0.mk (Q_HO105 (hon 6 (by kernel_rfl)))
              have HO109 := Aside0.mk (Q_HO109 (hon 14 (by kernel_rfl)))
              have HO113 := Aside0.mk (Q_HO113 (hon 23 (by kernel_rfl)))
              have HO117 := Aside0.mk (Q_HO117 (hon 26 (by kernel_rfl)))
              refine value_ (w1 := w') (v := .bool (t114.toList != t118.toList)) (by rfl) rfl ?_ ?_
              ·go_simp
               (try simp only [i64_w])
               first | rfl | (simp [bne]; done) | skip
              refine hK.out _ _ ⟨v104, v108, v112, v116, (by rw [ha.out]; exact putSel_upk 19 hb_ rfl rfl rfl), Q_HB, Q_HO105, Q_HO109, Q_HO113, Q_HO117⟩
             refine steps_cons ?_ ?_
             ·rintro b a w' ⟨v104, v108, v112, v116, ha, Q_HB, Q_HO105, Q_HO109, Q_HO113, Q_HO117⟩ hb_ hon hoff
              refine ⟨_, rfl, fun K hK => ?_⟩
              have e58 : a.tmps[58]? = some (.bool (t114.toList != t118.toList)) := by rw [ha]; exact putSel_on (e := (29, 58, .bool (t114.toList != t118.toList))) 19 rfl rfl (hon 29 (by kernel_rfl)) rfl
              try rw [(by assumption : (t114.toList != t118.toList) = true)] at e58
              try rw [(by assumption : (t114.toList != t118.toList) = false)] at e58
              replace ha := Aside0.mk ha
              have HB := Aside0.mk Q_HB
              have HO105 := Aside0.mk (Q_HO105 (hon 6 (by kernel_rfl)))
              have HO109 := Aside0.mk (Q_HO109 (hon 14 (by kernel_rfl)))
              have HO113 := Aside0.mk (Q_HO113 (hon 23 (by kernel_rfl)))
              have HO117 := Aside0.mk (Q_HO117 (hon 26 (by kernel_rfl)))
              refine value_ (w1 := w') (v := .bool (t114.toList != t118.toList)) (by rfl) rfl ?_ ?_
              ·go_simp
               (try simp only [i64_w])
               first | rfl | (simp [bne]; done) | skip
              refine hK.out _ _ ⟨v104, v108, v112, v116, (by rw [ha.out]; exact putSel_upk 20 hb_ rfl rfl rfl), Q_HB, Q_HO105, Q_HO109, Q_HO113, Q_HO117⟩
             refine steps_cons ?_ ?_
             ·rintro b a w' ⟨v104, v108, v112, v116, ha, Q_HB, Q_HO105, Q_HO109, Q_HO113, Q_HO117⟩ hb_ hon hoff
              refine ⟨_, rfl, fun K hK => ?_⟩
              have e59 : a.tmps[59]? = some (.bool (t114.toList != t118.toList)) := by rw [ha]; exact putSel_on (e := (30, 59, .bool (t114.toList != t118.toList))) 20 rfl rfl (hon 30 (by kernel_rfl)) rfl
              try rw [(by assumption : (t114.toList != t118.toList) = true)] at e59
              try rw [(by assumption : (t114.toList != t118.toList) = false)] at e59
              replace ha := Aside0.mk ha
              have HB := Aside0.mk Q_HB
              have HO105 := Aside0.mk (Q_HO105 (hon 6 (by kernel_rfl)))
              have HO109 := Aside0.mk (Q_HO109 (hon 14 (by kernel_rfl)))
              have HO113 := Aside0.mk (Q_HO113 (hon 23 (by kernel_rfl)))
              have HO117 := Aside0.mk (Q_HO117 (hon 26 (by kernel_rfl)))
              refine off_ (wanted_off rfl rfl rfl (e59.trans (by first | rfl | (simp [*]; done)))) ?_
              refine hK.out _ _ ⟨v104, v108, v112, v116, (by rw [ha.out]; exact putSel_upk 21 hb_ rfl rfl rfl), Q_HB, Q_HO105, Q_HO109, Q_HO113, Q_HO117⟩
             refine steps_cons ?_ ?_
             ·rintro b a w' ⟨v104, v108, v112, v116, ha, Q_HB, Q_HO105, Q_HO109, Q_HO113, Q_HO117⟩ hb_ hon hoff
              refine ⟨_, rfl, fun K hK => ?_⟩
              have e59 : a.tmps[59]? = some (.bool (t114.toList != t118.toList)) := by rw [ha]; exact putSel_on (e := (30, 59, .bool (t114.toList != t118.toList))) 20 rfl rfl (hon 30 (by kernel_rfl)) rfl
              try rw [(by assumption : (t114.toList != t118.toList) = true)] at e59
              try rw [(by assumption : (t114.toList != t118.toList) = false)] at e59
              replace ha := Aside0.mk ha
              have HB := Aside0.mk Q_HB
              have HO105 := Aside0.mk (Q_HO105 (hon 6 (by kernel_rfl)))
              have HO109 := Aside0.mk (Q_HO109 (hon 14 (by kernel_rfl)))
              have HO113 := Aside0.mk (Q_HO113 (hon 23 (by kernel_rfl)))
              have HO117 := Aside0.mk (Q_HO117 (hon 26 (by kernel_rfl)))
              refine off_ (wanted_off rfl rfl rfl (e59.trans (by first | rfl | (simp [*]; done)))) ?_
              refine hK.out _ _ ⟨v104, v108, v112, v116, (by rw [ha.out]; exact putSel_upk 22 hb_ rfl rfl rfl), Q_HB, Q_HO105, Q_HO109, Q_HO113, Q_HO117⟩
             refine steps_cons ?_ ?_
             ·rintro b a w' ⟨v104, v108, v112, v116, ha, Q_HB, Q_HO105, Q_HO109, Q_HO113, Q_HO117⟩ hb_ hon hoff
              refine ⟨_, rfl, fun K hK => ?_⟩
              have e59 : a.tmps[59]? = some (.bool (t114.toList != t118.toList)) := by rw [ha]; exact putSel_on (e := (30, 59, .bool (t114.toList != t118.toList))) 20 rfl rfl (hon 30 (by kernel_rfl)) rfl
              try rw [(by assumption : (t114.toList != t118.toList) = true)] at e59
              try rw [(by assumption : (t114.toList != t118.toList) = false)] at e59
              replace ha := Aside0.mk ha
              have HB := Aside0.mk Q_HB
              have HO105 := Aside0.mk (Q_HO105 (hon 6 (by kernel_rfl)))
              have HO109 := Aside0.mk (Q_HO109 (hon 14 (by kernel_rfl)))
              have HO113 := Aside0.mk (Q_HO113 (hon 23 (by kernel_rfl)))
              have HO117 := Aside0.mk (Q_HO117 (hon 26 (by kernel_rfl)))
              refine off_ (wanted_off rfl rfl rfl (e59.trans (by first | rfl | (simp [*]; done)))) ?_
              refine hK.out _ _ ⟨v104, v108, v112, v116, (by rw [ha.out]; exact putSel_upk 23 hb_ rfl rfl rfl), Q_HB, Q_HO105, Q_HO109, Q_HO113, Q_HO117⟩
             refine steps_cons ?_ ?_
             ·rintro b a w' ⟨v104, v108, v112, v116, ha, Q_HB, Q_HO105, Q_HO109, Q_HO113, Q_HO117⟩ hb_ hon hoff
              refine ⟨_, rfl, fun K hK => ?_⟩
              have e59 : a.tmps[59]? = some (.bool (t114.toList != t118.toList)) := by rw [ha]; exact putSel_on (e := (30, 59, .bool (t114.toList != t118.toList))) 20 rfl rfl (hon 30 (by kernel_rfl)) rfl
              try rw [(by assumption : (t114.toList != t118.toList) = true)] at e59
              try rw [(by assumption : (t114.toList != t118.toList) = false)] at e59
              replace ha := Aside0.mk ha
              have HB := Aside0.mk Q_HB
              have HO105 := Aside0.mk (Q_HO105 (hon 6 (by kernel_rfl)))
              have HO109 := Aside0.mk (Q_HO109 (hon 14 (by kernel_rfl)))
              have HO113 := Aside0.mk (Q_HO113 (hon 23 (by kernel_rfl)))
              have HO117 := Aside0.mk (Q_HO117 (hon 26 (by kernel_rfl)))
              refine off_ (wanted_off rfl rfl rfl (e59.trans (by first | rfl | (simp [*]; done)))) ?_
              refine hK.out _ _ ⟨v104, v108, v112, v116, (by rw [ha.out]; exact putSel_upk 24 hb_ rfl rfl rfl), Q_HB, Q_HO105, Q_HO109, Q_HO113, Q_HO117⟩
             refine steps_cons ?_ ?_
             ·rintro b a w' ⟨v104, v108, v112, v116, ha, Q_HB, Q_HO105, Q_HO109, Q_HO113, Q_HO117⟩ hb_ hon hoff
              refine ⟨_, rfl, fun K hK => ?_⟩
              have e59 : a.tmps[59]? = some (.bool (t114.toList != t118.toList)) := by rw [ha]; exact putSel_on (e := (30, 59, .bool (t114.toList != t118.toList))) 20 rfl rfl (hon 30 (by kernel_rfl)) rfl
              try rw [(by assumption : (t114.toList != t118.toList) = true)] at e59
              try rw [(by assumption : (t114.toList != t118.toList) = false)] at e59
              replace ha := Aside0.mk ha
              have HB := Aside0.mk Q_HB
              have HO105 := Aside0.mk (Q_HO105 (hon 6 (by kernel_rfl)))
              have HO109 := Aside0.mk (Q_HO109 (hon 14 (by kernel_rfl)))
              have HO113 := Aside0.mk (Q_HO113 (hon 23 (by kernel_rfl)))
              have HO117 := Aside0.mk (Q_HO117 (hon 26 (by kernel_rfl)))
              refine off_ (wanted_off rfl rfl rfl (e59.trans (by first | rfl | (simp [*]; done)))) ?_
              refine hK.out _ _ ⟨v104, v108, v112, v116, (by rw [ha.out]; exact putSel_upk 25 hb_ rfl rfl rfl), Q_HB, Q_HO105, Q_HO109, Q_HO113, Q_HO117⟩
             refine steps_cons ?_ ?_
             ·rintro b a w' ⟨v104, v108, v112, v116, ha, Q_HB, Q_HO105, Q_HO109, Q_HO113, Q_HO117⟩ hb_ hon hoff
              refine ⟨_, rfl, fun K hK => ?_⟩
              have e59 : a.tmps[59]? = some (.bool (t114.toList != t118.toList)) := by rw [ha]; exact putSel_on (e := (30, 59, .bool (t114.toList != t118.toList))) 20 rfl rfl (hon 30 (by kernel_rfl)) rfl
              try rw [(by assumption : (t114.toList != t118.toList) = true)] at e59
              try rw [(by assumption : (t114.toList != t118.toList) = false)] at e59
              replace ha := Aside0.mk ha
              have HB := Aside0.mk Q_HB
              have HO105 := Aside0.mk (Q_HO105 (hon 6 (by kernel_rfl)))
              have HO109 := Aside0.mk (Q_HO109 (hon 14 (by kernel_rfl)))
              have HO113 := Aside0.mk (Q_HO113 (hon 23 (by kernel_rfl)))
              have HO117 := Aside0.mk (Q_HO117 (hon 26 (by kernel_rfl)))
              refine off_ (wanted_off rfl rfl rfl (e59.trans (by first | rfl | (simp [*]; done)))) ?_
              refine hK.out _ _ ⟨v104, v108, v112, v116, (by rw [ha.out]; exact putSel_upk 26 hb_ rfl rfl rfl), Q_HB, Q_HO105, Q_HO109, Q_HO113, Q_HO117⟩
             refine steps_cons ?_ ?_
             ·rintro b a w' ⟨v104, v108, v112, v116, ha, Q_HB, Q_HO105, Q_HO109, Q_HO113, Q_HO117⟩ hb_ hon hoff
              refine ⟨_, rfl, fun K hK => ?_⟩
              have e59 : a.tmps[59]? = some (.bool (t114.toList != t118.toList)) := by rw [ha]; exact putSel_on (e := (30, 59, .bool (t114.toList != t118.toList))) 20 rfl rfl (hon 30 (by kernel_rfl)) rfl
              try rw [(by assumption : (t114.toList != t118.toList) = true)] at e59
              try rw [(by assumption : (t114.toList != t118.toList) = false)] at e59
              replace ha := Aside0.mk ha
              have HB := Aside0.mk Q_HB
              have HO105 := Aside0.mk (Q_HO105 (hon 6 (by kernel_rfl)))
              have HO109 := Aside0.mk (Q_HO109 (hon 14 (by kernel_rfl)))
              have HO113 := Aside0.mk (Q_HO113 (hon 23 (by kernel_rfl)))
              have HO117 := Aside0.mk (Q_HO117 (hon 26 (by kernel_rfl)))
              refine off_ (wanted_off rfl rfl rfl (e59.trans (by first | rfl | (simp [*]; done)))) ?_
              refine hK.out _ _ ⟨v104, v108, v112, v116, (by rw [ha.out]; exact putSel_upk 27 hb_ rfl rfl rfl), Q_HB, Q_HO105, Q_HO109, Q_HO113, Q_HO117⟩
             refine steps_cons ?_ ?_
             ·rintro b a w' ⟨v104, v108, v112, v116, ha, Q_HB, Q_HO105, Q_HO109, Q_HO113, Q_HO117⟩ hb_ hon hoff
              refine ⟨_, rfl, fun K hK => ?_⟩
              have e59 : a.tmps[59]? = some (.bool (t114.toList != t118.toList)) := by rw [ha]; exact putSel_on (e := (30, 59, .bool (t114.toList != t118.toList))) 20 rfl rfl (hon 30 (by kernel_rfl)) rfl
              try rw [(by assumption : (t114.toList != t118.toList) = true)] at e59
              try rw [(by assumption : (t114.toList != t118.toList) = false)] at e59
              replace ha := Aside0.mk ha
              have HB := Aside0.mk Q_HB
              have HO105 := Aside0.mk (Q_HO105 (hon 6 (by kernel_rfl)))
              have HO109 := Aside0.mk (Q_HO109 (hon 14 (by kernel_rfl)))
              have HO113 := Aside0.mk (Q_HO113 (hon 23 (by kernel_rfl)))
              have HO117 := Aside0.mk (Q_HO117 (hon 26 (by kernel_rfl)))
              refine off_ (wanted_off rfl rfl rfl (e59.trans (by first | rfl | (simp [*]; done)))) ?_
              refine hK.out _ _ ⟨v104, v108, v112, v116, (by rw [ha.out]; exact putSel_upk 28 hb_ rfl rfl rfl), Q_HB, Q_HO105, Q_HO109, Q_HO113, Q_HO117⟩
             refine steps_cons ?_ ?_
             ·rintro b a w' ⟨v104, v108, v112, v116, ha, Q_HB, Q_HO105, Q_HO109, Q_HO113, Q_HO117⟩ hb_ hon hoff
              refine ⟨_, rfl, fun K hK => ?_⟩
              have e59 : a.tmps[59]? = some (.bool (t114.toList != t118.toList)) := by rw [ha]; exact putSel_on (e := (30, 59, .bool (t114.toList != t118.toList))) 20 rfl rfl (hon 30 (by kernel_rfl)) rfl
              try rw [(by assumption : (t114.toList != t118.toList) = true)] at e59
              try rw [(by assumption : (t114.toList != t118.toList) = false)] at e59
              replace ha := Aside0.mk ha
              have HB := Aside0.mk Q_HB
              have HO105 := Aside0.mk (Q_HO105 (hon 6 (by kernel_rfl)))
              have HO109 := Aside0.mk (Q_HO109 (hon 14 (by kernel_rfl)))
              have HO113 := Aside0.mk (Q_HO113 (hon 23 (by kernel_rfl)))
              have HO117 := Aside0.mk (Q_HO117 (hon 26 (by kernel_rfl)))
              refine off_ (wanted_off rfl rfl rfl (e59.trans (by first | rfl | (simp [*]; done)))) ?_
              refine hK.out _ _ ⟨v104, v108, v112, v116, (by rw [ha.out]; exact putSel_upk 29 hb_ rfl rfl rfl), Q_HB, Q_HO105, Q_HO109, Q_HO113, Q_HO117⟩
             refine steps_cons ?_ ?_
             ·rintro b a w' ⟨v104, v108, v112, v116, ha, Q_HB, Q_HO105, Q_HO109, Q_HO113, Q_HO117⟩ hb_ hon hoff
              refine ⟨_, rfl, fun K hK => ?_⟩
              have e59 : a.tmps[59]? = some (.bool (t114.toList != t118.toList)) := by rw [ha]; exact putSel_on (e := (30, 59, .bool (t114.toList != t118.toList))) 20 rfl rfl (hon 30 (by kernel_rfl)) rfl
              try rw [(by assumption : (t114.toList != t118.toList) = true)] at e59
              try rw [(by assumption : (t114.toList != t118.toList) = false)] at e59
              replace ha := Aside0.mk ha
              have HB := Aside0.mk Q_HB
              have HO105 := Aside0.mk (Q_HO105 (hon 6 (by kernel_rfl)))
              have HO109 := Aside0.mk (Q_HO109 (hon 14 (by kernel_rfl)))
              have HO113 := Aside0.mk (Q_HO113 (hon 23 (by kernel_rfl)))
              have HO117 := Aside0.mk (Q_HO117 (hon 26 (by kernel_rfl)))
              refine off_ (wanted_off rfl rfl rfl (e59.trans (by first | rfl | (simp [*]; done)))) ?_
              refine hK.out _ _ ⟨v104, v108, v112, v116, (by rw [ha.out]; exact putSel_upk 30 hb_ rfl rfl rfl), Q_HB, Q_HO105, Q_HO109, Q_HO113, Q_HO117⟩
             refine steps_cons ?_ ?_
             ·rintro b a w' ⟨v104, v108, v112, v116, ha, Q_HB, Q_HO105, Q_HO109, Q_HO113, Q_HO117⟩ hb_ hon hoff
              refine ⟨_, rfl, fun K hK => ?_⟩
              have e59 : a.tmps[59]? = some (.bool (t114.toList != t118.toList)) := by rw [ha]; exact putSel_on (e := (30, 59, .bool (t114.toList != t118.toList))) 20 rfl rfl (hon 30 (by kernel_rfl)) rfl
              try rw [(by assumption : (t114.toList != t118.toList) = true)] at e59
              try rw [(by assumption : (t114.toList != t118.toList) = false)] at e59
              replace ha := Aside0.mk ha
              have HB := Aside0.mk Q_HB
              have HO105 := Aside0.mk (Q_HO105 (hon 6 (by kernel_rfl)))
              have HO109 := Aside0.mk (Q_HO109 (hon 14 (by kernel_rfl)))
              have HO113 := Aside0.mk (Q_HO113 (hon 23 (by kernel_rfl)))
              have HO117 := Aside0.mk (Q_HO117 (hon 26 (by kernel_rfl)))
              refine off_ (wanted_off rfl rfl rfl (e59.trans (by first | rfl | (simp [*]; done)))) ?_
              refine hK.out _ _ ⟨v104, v108, v112, v116, (by rw [ha.out]; exact putSel_upk 31 hb_ rfl rfl rfl), Q_HB, Q_HO105, Q_HO109, Q_HO113, Q_HO117⟩
             refine steps_cons ?_ ?_
             ·rintro b a w' ⟨v104, v108, v112, v116, ha, Q_HB, Q_HO105, Q_HO109, Q_HO113, Q_HO117⟩ hb_ hon hoff
              refine ⟨_, rfl, fun K hK => ?_⟩
              have e59 : a.tmps[59]? = some (.bool (t114.toList != t118.toList)) := by rw [ha]; exact putSel_on (e := (30, 59, .bool (t114.toList != t118.toList))) 20 rfl rfl (hon 30 (by kernel_rfl)) rfl
              try rw [(by assumption : (t114.toList != t118.toList) = true)] at e59
              try rw [(by assumption : (t114.toList != t118.toList) = false)] at e59
              replace ha := Aside0.mk ha
              have HB := Aside0.mk Q_HB
              have HO105 := Aside0.mk (Q_HO105 (hon 6 (by kernel_rfl)))
              have HO109 := Aside0.mk (Q_HO109 (hon 14 (by kernel_rfl)))
              have HO113 := Aside0.mk (Q_HO113 (hon 23 (by kernel_rfl)))
              have HO117 := Aside0.mk (Q_HO117 (hon 26 (by kernel_rfl)))
              refine off_ (wanted_off rfl rfl rfl (e59.trans (by first | rfl | (simp [*]; done)))) ?_
              refine hK.out _ _ ⟨v104, v108, v112, v116, (by rw [ha.out]; exact putSel_upk 32 hb_ rfl rfl rfl), Q_HB, Q_HO105, Q_HO109, Q_HO113, Q_HO117⟩
             refine steps_cons ?_ ?_
             ·rintro b a w' ⟨v104, v108, v112, v116, ha, Q_HB, Q_HO105, Q_HO109, Q_HO113, Q_HO117⟩ hb_ hon hoff
              refine ⟨_, rfl, fun K hK => ?_⟩
              have e59 : a.tmps[59]? = some (.bool (t114.toList != t118.toList)) := by rw [ha]; exact putSel_on (e := (30, 59, .bool (t114.toList != t118.toList))) 20 rfl rfl (hon 30 (by kernel_rfl)) rfl
              try rw [(by assumption : (t114.toList != t118.toList) = true)] at e59
              try rw [(by assumption : (t114.toList != t118.toList) = false)] at e59
              have e71 : a.tmps[71]? = some (undef) := by rw [ha]; exact putSel_on (e := (42, 71, undef)) 32 rfl rfl (hon 42 (by kernel_rfl)) rfl
              replace ha := Aside0.mk ha
              have HB := Aside0.mk Q_HB
              have HO105 := Aside0.mk (Q_HO105 (hon 6 (by kernel_rfl)))
              have HO109 := Aside0.mk (Q_HO109 (hon 14 (by kernel_rfl)))
              have HO113 := Aside0.mk (Q_HO113 (hon 23 (by kernel_rfl)))
              have HO117 := Aside0.mk (Q_HO117 (hon 26 (by kernel_rfl)))
              refine value_ (w1 := w') (v := .bool false) (by rfl) rfl ?_ ?_
              ·go_simp
               (try simp only [i64_w])
               first | rfl | (simp [bne]; done) | skip
              refine hK.out _ _ ⟨v104, v108, v112, v116, (by rw [ha.out]; exact putSel_upk 33 hb_ rfl rfl rfl), Q_HB, Q_HO105, Q_HO109, Q_HO113, Q_HO117⟩
             refine steps_cons ?_ ?_
             ·rintro b a w' ⟨v104, v108, v112, v116, ha, Q_HB, Q_HO105, Q_HO109, Q_HO113, Q_HO117⟩ hb_ hon hoff
              refine ⟨_, rfl, fun K hK => ?_⟩
              have e72 : a.tmps[72]? = some (.bool false) := by rw [ha]; exact putSel_on (e := (43, 72, .bool false)) 33 rfl rfl (hon 43 (by kernel_rfl)) rfl
              replace ha := Aside0.mk ha
              have HB := Aside0.mk Q_HB
              have HO105 := Aside0.mk (Q_HO105 (hon 6 (by kernel_rfl)))
              have HO109 := Aside0.mk (Q_HO109 (hon 14 (by kernel_rfl)))
              have HO113 := Aside0.mk (Q_HO113 (hon 23 (by kernel_rfl)))
              have HO117 := Aside0.mk (Q_HO117 (hon 26 (by kernel_rfl)))
              refine value_ (w1 := w') (v := .bool false) (by rfl) rfl ?_ ?_
              ·go_simp
               (try simp only [i64_w])
               first | rfl | (simp [bne]; done) | skip
              refine hK.out _ _ ⟨v104, v108, v112, v116, (by rw [ha.out]; exact putSel_upk 34 hb_ rfl rfl rfl), Q_HB, Q_HO105, Q_HO109, Q_HO113, Q_HO117⟩
             exact steps_nil
            rintro b a w47 hall ⟨v104, v108, v112, v116, ha, Q_HB, Q_HO105, Q_HO109, Q_HO113, Q_HO117⟩
            clear HB
            have hb2_ := hall 2 (by kernel_rfl)
            have hb5_ := hall 5 (by kernel_rfl)
            have hb6_ := hall 6 (by kernel_rfl)
            have hb7_ := hall 7 (by kernel_rfl)
            have hb10_ := hall 10 (by kernel_rfl)
            have hb13_ := hall 13 (by kernel_rfl)
            have hb14_ := hall 14 (by kernel_rfl)
            have hb15_ := hall 15 (by kernel_rfl)
            have hb16_ := hall 16 (by kernel_rfl)
            have hb19_ := hall 19 (by kernel_rfl)
            have hb20_ := hall 20 (by kernel_rfl)
            have hb21_ := hall 21 (by kernel_rfl)
            have hb22_ := hall 22 (by kernel_rfl)
            have hb23_ := hall 23 (by kernel_rfl)
            have hb24_ := hall 24 (by kernel_rfl)
            have hb25_ := hall 25 (by kernel_rfl)
            have hb26_ := hall 26 (by kernel_rfl)
            have hb27_ := hall 27 (by kernel_rfl)
            have hb28_ := hall 28 (by kernel_rfl)
            have hb29_ := hall 29 (by kernel_rfl)
            have hb30_ := hall 30 (by kernel_rfl)
            have hb31_ := hall 31 (by kernel_rfl)
            have hb32_ := hall 32 (by kernel_rfl)
            have hb33_ := hall 33 (by kernel_rfl)
            have hb34_ := hall 34 (by kernel_rfl)
            have hb35_ := hall 35 (by kernel_rfl)
            have hb36_ := hall 36 (by kernel_rfl)
            have hb37_ := hall 37 (by kernel_rfl)
            have hb38_ := hall 38 (by kernel_rfl)
            have hb39_ := hall 39 (by kernel_rfl)
            have hb40_ := hall 40 (by kernel_rfl)
            have hb41_ := hall 41 (by kernel_rfl)
            have hb42_ := hall 42 (by kernel_rfl)
            have hb43_ := hall 43 (by kernel_rfl)
            have hb44_ := hall 44 (by kernel_rfl)
            subst ha
            simp only [putSel, hb2_, hb5_, hb6_, hb7_, hb10_, hb13_, hb14_, hb15_, hb16_, hb19_, hb20_, hb21_, hb22_, hb23_, hb24_, hb25_, hb26_, hb27_, hb28_, hb29_, hb30_, hb31_, hb32_, hb33_, hb34_, hb35_, hb36_, hb37_, hb38_, hb39_, hb40_, hb41_, hb42_, hb43_, hb44_, if_true, Act.put, List.setIfInBounds_toArray, List.set_cons_zero, List.set_cons_succ]
            have HB := Aside0.mk Q_HB
            clear Q_HB
            have HO105 := Aside0.mk (Q_HO105 hb6_)
            clear Q_HO105
            have HO109 := Aside0.mk (Q_HO109 hb14_)
            clear Q_HO109
            have HO113 := Aside0.mk (Q_HO113 hb23_)
            clear Q_HO113
            have HO117 := Aside0.mk (Q_HO117 hb26_)
            clear Q_HO117
            clear hall hb2_ hb5_ hb6_ hb7_ hb10_ hb13_ hb14_ hb15_ hb16_ hb19_ hb20_ hb21_ hb22_ hb23_ hb24_ hb25_ hb26_ hb27_ hb28_ hb29_ hb30_ hb31_ hb32_ hb33_ hb34_ hb35_ hb36_ hb37_ hb38_ hb39_ hb40_ hb41_ hb42_ hb43_ hb44_
            try go_wp2
            go_ret
            exact ⟨by first | rfl | (simp [errW_none, errW_some] <;> rfl) | (simp only [← hji13, ← hji19]; first | rfl | (simp [errW_none, errW_some] <;> rfl)) | (simp [*, errW_none, errW_some] <;> rfl), by repeat (first | (with_reducible first | exact HB.out | apply below_alloc | apply pw_below_drewN | apply below_drew1) | exact HB.out)⟩
           ·rw [if_neg c28] at H
            have c28b0 : (t114.toList == t118.toList) = false := beq_eq_false_iff_ne.mpr c28
            have c28b1 : (t114.toList != t118.toList) = true := bne_iff_ne.mpr c28
            have c48b0 := eq_true (of_decide_eq_true (by first | (with_reducible assumption) | assumption) : 0 ≤ (ji13))
            have c49b0 := eq_true (of_decide_eq_true (by first | (with_reducible assumption) | assumption) : (ji13) ≤ (t102.size : Int))
            have c50b0 := eq_true (of_decide_eq_true (by first | (with_reducible assumption) | assumption) : 0 ≤ (ji13))
            have c51b0 := eq_true (of_decide_eq_true (by first | (with_reducible assumption) | assumption) : (ji13) ≤ (t102.size : Int))
            obtain ⟨y119, hy119⟩ : ∃ y_ : List ByteArray, y_ = (([t102.extract 0 ((ji13) : Int).toNat, t102.extract ((ji13) : Int).toNat t102.size] : List ByteArray)) := ⟨_, rfl⟩
            replace H : ((mint_Put.f y119).bind fun t122 => ((mint_Put.f (([t102] : List ByteArray))).bind fun t126 => (some (t122.toList != t126.toList)))) = some r := by first | (rw [hy119]; with_reducible exact H) | (have H2_ := (Option.bind_some _ _).symm.trans H; rw [hy119]; with_reducible exact H2_) | (have H2_ := (Option.bind_some _ _).symm.trans H; with_reducible exact H2_) | with_reducible exact H | (rw [hy119]; exact H) | exact H
            have Ny119 := Aside0.mk hy119
            clear hy119
            replace H := Option.bind_eq_some_iff.mp H
            obtain ⟨t122, A520, H⟩ := H
            replace H : ((mint_Put.f (([t102] : List ByteArray))).bind fun t126 => (some (t122.toList != t126.toList))) = some r := H
            have A52 := Aside0.mk A520
            clear A520
            obtain ⟨y123, hy123⟩ : ∃ y_ : List ByteArray, y_ = (([t102] : List ByteArray)) := ⟨_, rfl⟩
            replace H : ((mint_Put.f y123).bind fun t126 => (some (t122.toList != t126.toList))) = some r := by first | (rw [hy123]; with_reducible exact H) | (have H2_ := (Option.bind_some _ _).symm.trans H; rw [hy123]; with_reducible exact H2_) | (have H2_ := (Option.bind_some _ _).symm.trans H; with_reducible exact H2_) | with_reducible exact H | (rw [hy123]; exact H) | exact H
            have Ny123 := Aside0.mk hy123
            clear hy123
            replace H := Option.bind_eq_some_iff.mp H
            obtain ⟨t126, A530, H⟩ := H
            replace H : (some (t122.toList != t126.toList)) = some r := H
            have A53 := Aside0.mk A530
            clear A530
            obtain rfl := Option.some.inj H
            try go_wp2
            have n0_ := Aside0.mk (below_drew1 HB.out)
            clear HB
            have HB := n0_
            clear n0_
            refine start_ (n := 12) (S := fun w' => True) (ds := []) #[false, false, false, false, false, false, false, false, false, false, false, false] (by kernel_rfl) rfl rfl trivial (fun hHeld => ?_); refine with_tabW shipwrightlaw1_MintUnlike.tab7 shipwrightlaw1_MintUnlike.bits7 (fun HT_ HW_ => ?_)
            generalize wc.drew = w54 at HB hHeld ⊢
            refine pure_ (i := 0) (N := some 19) (v := ?_) (a' := ?_) #[true, false, false, false, false, false, false, false, false, false, false, false] rfl rfl (any_of HT_.out (by kernel_rfl)) (fun _ _ _ h => h) (Or.inl ⟨by rfl, ?_⟩) ?_ ?_
            rotate_left
            ·intro w'
             go_simp
             with_reducible rfl
            rotate_left
            ·simp only [Act.put, List.setIfInBounds_toArray, List.set_cons_zero, List.set_cons_succ, i64_w, i32_w]
             rfl
            refine pure_ (i := 1) (N := some 20) (v := ?_) (a' := ?_) #[true, true, false, false, false, false, false, false, false, false, false, false] rfl rfl (any_of HT_.out (by kernel_rfl)) (fun _ _ _ h => h) (Or.inl ⟨by rfl, ?_⟩) ?_ ?_
            rotate_left
            ·intro w'
             go_simp
             with_reducible rfl
            rotate_left
            ·simp only [Act.put, List.setIfInBounds_toArray, List.set_cons_zero, List.set_cons_succ, i64_w, i32_w]
             rfl
            refine pure_ (i := 2) (N := some 21) (v := ?_) (a' := ?_) #[true, true, true, false, false, false, false, false, false, false, false, false] rfl rfl (any_of HT_.out (by kernel_rfl)) (fun _ _ _ h => h) (Or.inl ⟨by rfl, ?_⟩) ?_ ?_
            rotate_left
            ·intro w'
             go_simp
             with_reducible rfl
            rotate_left
            ·simp only [Act.put, List.setIfInBounds_toArray, List.set_cons_zero, List.set_cons_succ, i64_w, i32_w]
             rfl
            refine pure_ (i := 3) (N := some 22) (v := ?_) (a' := ?_) #[true, true, true, true, false, false, false, false, false, false, false, false] rfl rfl (any_of HT_.out (by kernel_rfl)) (fun _ _ _ h => h) (Or.inl ⟨by rfl, ?_⟩) ?_ ?_
            rotate_left
            ·intro w'
             go_simp
             with_reducible rfl
            rotate_left
            ·simp only [Act.put, List.setIfInBounds_toArray, List.set_cons_zero, List.set_cons_succ, i64_w, i32_w]
             rfl
            refine pure_ (i := 4) (N := some 23) (v := ?_) (a' := ?_) #[true, true, true, true, true, false, false, false, false, false, false, false] rfl rfl (any_of HT_.out (by kernel_rfl)) (fun _ _ _ h => h) (Or.inl ⟨by rfl, ?_⟩) ?_ ?_
            rotate_left
            ·intro w'
             go_simp
             with_reducible rfl
            rotate_left
            ·simp only [Act.put, List.setIfInBounds_toArray, List.set_cons_zero, List.set_cons_succ, i64_w, i32_w]
             rfl
            refine pure_ (i := 5) (N := some 24) (v := ?_) (a' := ?_) #[true, true, true, true, true, true, false, false, false, false, false, false] rfl rfl (any_of HT_.out (by kernel_rfl)) (fun _ _ _ h => h) (Or.inl ⟨by rfl, ?_⟩) ?_ ?_
            rotate_left
            ·intro w'
             go_simp
             with_reducible rfl
            rotate_left
            ·simp only [Act.put, List.setIfInBounds_toArray, List.set_cons_zero, List.set_cons_succ, i64_w, i32_w]
             rfl
            refine pure_ (i := 6) (N := some 25) (v := ?_) (a' := ?_) #[true, true, true, true, true, true, true, false, false, false, false, false] rfl rfl (any_of HT_.out (by kernel_rfl)) (fun _ _ _ h => h) (Or.inl ⟨by rfl, ?_⟩) ?_ ?_
            rotate_left
            ·intro w'
             go_simp
             with_reducible rfl
            rotate_left
            ·simp only [Act.put, List.setIfInBounds_toArray, List.set_cons_zero, List.set_cons_succ, i64_w, i32_w]
             rfl
            refine pure_ (i := 7) (N := some 26) (v := ?_) (a' := ?_) #[true, true, true, true, true, true, true, true, false, false, false, false] rfl rfl (any_of HT_.out (by kernel_rfl)) (fun _ _ _ h => h) (Or.inl ⟨by rfl, ?_⟩) ?_ ?_
            rotate_left
            ·intro w'
             go_simp
             with_reducible rfl
            rotate_left
            ·simp only [Act.put, List.setIfInBounds_toArray, List.set_cons_zero, List.set_cons_succ, i64_w, i32_w]
             rfl
            refine pure_ (i := 8) (N := some 27) (v := ?_) (a' := ?_) #[true, true, true, true, true, true, true, true, true, false, false, false] rfl rfl (any_of HT_.out (by kernel_rfl)) (fun _ _ _ h => h) (Or.inl ⟨by rfl, ?_⟩) ?_ ?_
            rotate_left
            ·intro w'
             go_simp
             with_reducible rfl
            rotate_left
            ·simp only [Act.put, List.setIfInBounds_toArray, List.set_cons_zero, List.set_cons_succ, i64_w, i32_w]
             rfl
            refine pure_ (i := 9) (N := some 28) (v := ?_) (a' := ?_) #[true, true, true, true, true, true, true, true, true, true, false, false] rfl rfl (any_of HT_.out (by kernel_rfl)) (fun _ _ _ h => h) (Or.inl ⟨by rfl, ?_⟩) ?_ ?_
            rotate_left
            ·intro w'
             go_simp
             with_reducible rfl
            rotate_left
            ·simp only [Act.put, List.setIfInBounds_toArray, List.set_cons_zero, List.set_cons_succ, i64_w, i32_w]
             rfl
            refine pure_ (i := 10) (N := some 1) (v := ?_) (a' := ?_) #[true, true, true, true, true, true, true, true, true, true, true, false] rfl rfl (any_of HT_.out (by kernel_rfl)) (fun _ _ _ h => h) (Or.inl ⟨by rfl, ?_⟩) ?_ ?_
            rotate_left
            ·intro w'
             go_simp
             with_reducible rfl
            rotate_left
            ·simp only [Act.put, List.setIfInBounds_toArray, List.set_cons_zero, List.set_cons_succ, i64_w, i32_w]
             rfl
            refine pure_ (i := 11) (N := some 2) (v := ?_) (a' := ?_) #[true, true, true, true, true, true, true, true, true, true, true, true] rfl rfl (any_of HT_.out (by kernel_rfl)) (fun _ _ _ h => h) (Or.inl ⟨by rfl, ?_⟩) ?_ ?_
            rotate_left
            ·intro w'
             go_simp
             with_reducible rfl
            rotate_left
            ·simp only [Act.put, List.setIfInBounds_toArray, List.set_cons_zero, List.set_cons_succ, i64_w, i32_w]
             rfl
            refine done_ (done_of HT_.out (by kernel_rfl)) ?_
            try go_wp2
            have n0_ := Aside0.mk (below_drew1 HB.out)
            clear HB
            have HB := n0_
            clear n0_
            refine start_ (n := 45) (S := fun w' => True) (ds := []) #[false, false, false, false, false, false, false, false, false, false, false, false, false, false, false, false, false, false, false, false, false, false, false, false, false, false, false, false, false, false, false, false, false, false, false, false, false, false, false, false, false, false, false, false, false] (by kernel_rfl) rfl rfl trivial (fun hHeld => ?_); refine with_tabW shipwrightlaw1_MintUnlike.tab8 shipwrightlaw1_MintUnlike.bits8 (fun HT_ HW_ => ?_)
            generalize w54.drew = w55 at HB hHeld ⊢
            refine pure_ (i := 0) (N := some 29) (v := ?_) (a' := ?_) #[true, false, false, false, false, false, false, false, false, false, false, false, false, false, false, false, false, false, false, false, false, false, false, false, false, false, false, false, false, false, false, false, false, false, false, false, false, false, false, false, false, false, false, false, false] rfl rfl (any_of HT_.out (by kernel_rfl)) (fun _ _ _ h => h) (Or.inl ⟨by rfl, ?_⟩) ?_ ?_
            rotate_left
            ·intro w'
             go_simp
             with_reducible rfl
            rotate_left
            ·simp only [Act.put, List.setIfInBounds_toArray, List.set_cons_zero, List.set_cons_succ, i64_w, i32_w]
             rfl
            refine pure_ (i := 1) (N := some 30) (v := ?_) (a' := ?_) #[true, true, false, false, false, false, false, false, false, false, false, false, false, false, false, false, false, false, false, false, false, false, false, false, false, false, false, false, false, false, false, false, false, false, false, false, false, false, false, false, false, false, false, false, false] rfl rfl (any_of HT_.out (by kernel_rfl)) (fun _ _ _ h => h) (Or.inl ⟨by rfl, ?_⟩) ?_ ?_
            rotate_left
            ·intro w'
             go_simp
             with_reducible rfl
            rotate_left
            ·simp only [Act.put, List.setIfInBounds_toArray, List.set_cons_zero, List.set_cons_succ, i64_w, i32_w]
             rfl
            refine pure_ (i := 3) (N := some 32) (v := ?_) (a' := ?_) #[true, true, false, true, false, false, false, false, false, false, false, false, false, false, false, false, false, false, false, false, false, false, false, false, false, false, false, false, false, false, false, false, false, false, false, false, false, false, false, false, false, false, false, false, false] rfl rfl (any_of HT_.out (by kernel_rfl)) (fun _ _ _ h => h) (Or.inl ⟨by rfl, ?_⟩) ?_ ?_
            rotate_left
            ·intro w'
             go_simp
             with_reducible rfl
            rotate_left
            ·simp only [Act.put, List.setIfInBounds_toArray, List.set_cons_zero, List.set_cons_succ, i64_w, i32_w]
             rfl
            refine pure_ (i := 4) (N := some 33) (v := ?_) (a' := ?_) #[true, true, false, true, true, false, false, false, false, false, false, false, false, false, false, false, false, false, false, false, false, false, false, false, false, false, false, false, false, false, false, false, false, false, false, false, false, false, false, false, false, false, false, false, false] rfl rfl (any_of HT_.out (by kernel_rfl)) (fun _ _ _ h => h) (Or.inl ⟨by rfl, ?_⟩) ?_ ?_
            rotate_left
            ·intro w'
             go_simp
             with_reducible rfl
            rotate_left
            ·simp only [Act.put, List.setIfInBounds_toArray, List.set_cons_zero, List.set_cons_succ, i64_w, i32_w]
             rfl
            refine pure_ (i := 8) (N := some 37) (v := ?_) (a' := ?_) #[true, true, false, true, true, false, false, false, true, false, false, false, false, false, false, false, false, false, false, false, false, false, false, false, false, false, false, false, false, false, false, false, false, false, false, false, false, false, false, false, false, false, false, false, false] rfl rfl (any_of HT_.out (by kernel_rfl)) (fun _ _ _ h => h) (Or.inl ⟨by rfl, ?_⟩) ?_ ?_
            rotate_left
            ·intro w'
             go_simp
             with_reducible rfl
            rotate_left
            ·simp only [Act.put, List.setIfInBounds_toArray, List.set_cons_zero, List.set_cons_succ, i64_w, i32_w]
             rfl
            refine pure_ (i := 9) (N := some 38) (v := ?_) (a' := ?_) #[true, true, false, true, true, false, false, false, true, true, false, false, false, false, false, false, false, false, false, false, false, false, false, false, false, false, false, false, false, false, false, false, false, false, false, false, false, false, false, false, false, false, false, false, false] rfl rfl (any_of HT_.out (by kernel_rfl)) (fun _ _ _ h => h) (Or.inl ⟨by rfl, ?_⟩) ?_ ?_
            rotate_left
            ·intro w'
             go_simp
             with_reducible rfl
            rotate_left
            ·simp only [Act.put, List.setIfInBounds_toArray, List.set_cons_zero, List.set_cons_succ, i64_w, i32_w]
             rfl
            refine pure_ (i := 11) (N := some 40) (v := ?_) (a' := ?_) #[true, true, false, true, true, false, false, false, true, true, false, true, false, false, false, false, false, false, false, false, false, false, false, false, false, false, false, false, false, false, false, false, false, false, false, false, false, false, false, false, false, false, false, false, false] rfl rfl (any_of HT_.out (by kernel_rfl)) (fun _ _ _ h => h) (Or.inl ⟨by rfl, ?_⟩) ?_ ?_
            rotate_left
            ·intro w'
             go_simp
             with_reducible rfl
            rotate_left
            ·simp only [Act.put, List.setIfInBounds_toArray, List.set_cons_zero, List.set_cons_succ, i64_w, i32_w]
             rfl
            refine pure_ (i := 12) (N := some 41) (v := ?_) (a' := ?_) #[true, true, false, true, true, false, false, false, true, true, false, true, true, false, false, false, false, false, false, false, false, false, false, false, false, false, false, false, false, false, false, false, false, false, false, false, false, false, false, false, false, false, false, false, false] rfl rfl (any_of HT_.out (by kernel_rfl)) (fun _ _ _ h => h) (Or.inl ⟨by rfl, ?_⟩) ?_ ?_
            rotate_left
            ·intro w'
             go_simp
             with_reducible rfl
            rotate_left
            ·simp only [Act.put, List.setIfInBounds_toArray, List.set_cons_zero, List.set_cons_succ, i64_w, i32_w]
             rfl
            refine pure_ (i := 17) (N := some 46) (v := ?_) (a' := ?_) #[true, true, false, true, true, false, false, false, true, true, false, true, true, false, false, false, false, true, false, false, false, false, false, false, false, false, false, false, false, false, false, false, false, false, false, false, false, false, false, false, false, false, false, false, false] rfl rfl (any_of HT_.out (by kernel_rfl)) (fun _ _ _ h => h) (Or.inl ⟨by rfl, ?_⟩) ?_ ?_
            rotate_left
            ·intro w'
             go_simp
             with_reducible rfl
            rotate_left
            ·simp only [Act.put, List.setIfInBounds_toArray, List.set_cons_zero, List.set_cons_succ, i64_w, i32_w]
             rfl
            refine pure_ (i := 18) (N := some 47) (v := ?_) (a' := ?_) #[true, true, false, true, true, false, false, false, true, true, false, true, true, false, false, false, false, true, true, false, false, false, false, false, false, false, false, false, false, false, false, false, false, false, false, false, false, false, false, false, false, false, false, false, false] rfl rfl (any_of HT_.out (by kernel_rfl)) (fun _ _ _ h => h) (Or.inl ⟨by rfl, ?_⟩) ?_ ?_
            rotate_left
            ·intro w'
             go_simp
             with_reducible rfl
            rotate_left
            ·simp only [Act.put, List.setIfInBounds_toArray, List.set_cons_zero, List.set_cons_succ, i64_w, i32_w]
             rfl
            refine inv_at [2, 5, 6, 7, 10, 13, 14, 15, 16, 19, 20, 21, 22, 23, 24, 25, 26, 27, 28, 29, 30, 31, 32, 33, 34, 35, 36, 37, 38, 39, 40, 41, 42, 43, 44] (fun a0_ b a w' => ∃ (v104 : Value) (v108 : Value) (v112 : Value) (v116 : Value) (v120 : Value) (v124 : Value), a = putSel a0_ b [(2, 31, .string (t102.extract 0 ((ji13) : Int).toNat)), (5, 34, .string (t102.extract ((ji13) : Int).toNat t102.size)), (6, 35, v104), (7, 36, .string t106), (10, 39, .string (t102.extract 0 ((ji19) : Int).toNat)), (13, 42, .string (t102.extract ((ji19) : Int).toNat t102.size)), (14, 43, v108), (15, 44, .string t110), (16, 45, .bool (t106.toList == t110.toList)), (19, 48, .bool ((ji13) == (ji19))), (20, 49, .bool ((t106.toList == t110.toList) == ((ji13) == (ji19)))), (21, 50, .bool ((t106.toList == t110.toList) == ((ji13) == (ji19)))), (22, 51, .string t102), (23, 52, v112), (24, 53, .string t114), (25, 54, .string t102), (26, 55, v116), (27, 56, .string t118), (28, 57, .bool (t114.toList != t118.toList)), (29, 58, .bool (t114.toList != t118.toList)), (30, 59, .bool (t114.toList != t118.toList)), (31, 60, .string t102), (32, 61, .int .i64 ji13), (33, 62, .string (t102.extract 0 ((ji13) : Int).toNat)), (34, 63, .string t102), (35, 64, .int .i64 ji13), (36, 65, .string (t102.extract ((ji13) : Int).toNat t102.size)), (37, 66, v120), (38, 67, .string t122), (39, 68, .string t102), (40, 69, v124), (41, 70, .string t126), (42, 71, .bool (t122.toList != t126.toList)), (43, 72, .bool (t122.toList != t126.toList)), (44, 6, .bool (t122.toList != t126.toList))] ∧ (Below w.heap.size w w') ∧ (b 6 = true → Kd.R Kd.string 9 w' w.heap.size (fun _ => True) v104 y103) ∧ (b 14 = true → Kd.R Kd.string 9 w' w.heap.size (fun _ => True) v108 y107) ∧ (b 23 = true → Kd.R Kd.string 9 w' w.heap.size (fun _ => True) v112 y111) ∧ (b 26 = true → Kd.R Kd.string 9 w' w.heap.size (fun _ => True) v116 y115) ∧ (b 37 = true → Kd.R Kd.string 9 w' w.heap.size (fun _ => True) v120 y119) ∧ (b 40 = true → Kd.R Kd.string 9 w' w.heap.size (fun _ => True) v124 y123)) HT_.out HW_.out (by kernel_rfl) (by kernel_rfl) ?_ ?_ ?_
            ·exact ⟨.bool false, .bool false, .bool false, .bool false, .bool false, .bool false, by simp only [putSel, Bool.false_eq_true, if_false], HB.out, fun h_ => absurd h_ (by decide), fun h_ => absurd h_ (by decide), fun h_ => absurd h_ (by decide), fun h_ => absurd h_ (by decide), fun h_ => absurd h_ (by decide), fun h_ => absurd h_ (by decide)⟩
            ·skip
             clear HB
             refine steps_cons ?_ ?_
             ·rintro b a w' ⟨v104, v108, v112, v116, v120, v124, ha, Q_HB, Q_HO105, Q_HO109, Q_HO113, Q_HO117, Q_HO121, Q_HO125⟩ hb_ hon hoff
              refine ⟨_, rfl, fun K hK => ?_⟩
              have e29 : a.tmps[29]? = some (.string t102) := by rw [ha]; exact (putSel_off rfl).trans rfl
              have e30 : a.tmps[30]? = some (.int .i64 ji13) := by rw [ha]; exact (putSel_off rfl).trans rfl
              replace ha := Aside0.mk ha
              have HB := Aside0.mk Q_HB
              refine value_ (w1 := w') (v := .string (t102.extract 0 ((ji13) : Int).toNat)) (by rfl) rfl ?_ ?_
              ·go_simp
               (try simp only [i64_w])
               first | rfl | (simp [bne]; done) | skip
              refine hK.out _ _ ⟨v104, v108, v112, v116, v120, v124, (by rw [ha.out]; exact putSel_upk 0 hb_ rfl rfl rfl), Q_HB, fun h0_ => absurd ((hoff 6 (by kernel_rfl)).symm.trans h0_) (by decide), Q_HO109, fun h0_ => absurd ((hoff 23 (by kernel_rfl)).symm.trans h0_) (by decide), fun h0_ => absurd ((hoff 26 (by kernel_rfl)).symm.trans h0_) (by decide), fun h0_ => absurd ((hoff 37 (by kernel_rfl)).symm.trans h0_) (by decide), fun h0_ => absurd ((hoff 40 (by kernel_rfl)).symm.trans h0_) (by decide)⟩
             refine steps_cons ?_ ?_
             ·rintro b a w' ⟨v104, v108, v112, v116, v120, v124, ha, Q_HB, Q_HO105, Q_HO109, Q_HO113, Q_HO117, Q_HO121, Q_HO125⟩ hb_ hon hoff
              refine ⟨_, rfl, fun K hK => ?_⟩
              have e32 : a.tmps[32]? = some (.string t102) := by rw [ha]; exact (putSel_off rfl).trans rfl
              have e33 : a.tmps[33]? = some (.int .i64 ji13) := by rw [ha]; exact (putSel_off rfl).trans rfl
              replace ha := Aside0.mk ha
              have HB := Aside0.mk Q_HB
              refine value_ (w1 := w') (v := .string (t102.extract ((ji13) : Int).toNat t102.size)) (by rfl) rfl ?_ ?_
              ·go_simp
               (try simp only [i64_w])
               first | rfl | (simp [bne]; done) | skip
              refine hK.out _ _ ⟨v104, v108, v112, v116, v120, v124, (by rw [ha.out]; exact putSel_upk 1 hb_ rfl rfl rfl), Q_HB, fun h0_ => absurd ((hoff 6 (by kernel_rfl)).symm.trans h0_) (by decide), Q_HO109, fun h0_ => absurd ((hoff 23 (by kernel_rfl)).symm.trans h0_) (by decide), fun h0_ => absurd ((hoff 26 (by kernel_rfl)).symm.trans h0_) (by decide), fun h0_ => absurd ((hoff 37 (by kernel_rfl)).symm.trans h0_) (by decide), fun h0_ => absurd ((hoff 40 (by kernel_rfl)).symm.trans h0_) (by decide)⟩
             refine steps_cons ?_ ?_
             ·rintro b a w' ⟨v104, v108, v112, v116, v120, v124, ha, Q_HB, Q_HO105, Q_HO109, Q_HO113, Q_HO117, Q_HO121, Q_HO125⟩ hb_ hon hoff
              refine ⟨_, rfl, fun K hK => ?_⟩
              have e31 : a.tmps[31]? = some (.string (t102.extract 0 ((ji13) : Int).toNat)) := by rw [ha]; exact putSel_on (e := (2, 31, .string (t102.extract 0 ((ji13) : Int).toNat))) 0 rfl rfl (hon 2 (by kernel_rfl)) rfl
              have e34 : a.tmps[34]? = some (.string (t102.extract ((ji13) : Int).toNat t102.size)) := by rw [ha]; exact putSel_on (e := (5, 34, .string (t102.extract ((ji13) : Int).toNat t102.size))) 1 rfl rfl (hon 5 (by kernel_rfl)) rfl
              replace ha := Aside0.mk ha
              have HB := Aside0.mk Q_HB
              refine Kd.R_lit_step Kd.string _ 9 ?hg (N := 35) ?hd (xs := ([t102.extract 0 ((ji13) : Int).toNat, t102.extract ((ji13) : Int).toNat t102.size] : List ByteArray)) (inner := [.string (t102.extract 0 ((ji13) : Int).toNat), .string (t102.extract ((ji13) : Int).toNat t102.size)]) (ok := fun _ => True) (okp := fun _ => True) ?hr ?hp (fun _ hk => hk) trivial (Below.refl _ _) (Nat.le_refl _) (by simp) ?_; (case hd => rfl); (case hg => first | rfl | exact wanted_on rfl rfl rfl e50 | exact wanted_on rfl rfl rfl e59); (case hr => first | (go_simp; done) | (go_simp; rfl)); (case hp => exact (Reps.one (show Kd.M Kd.string _ _ _ (t102.extract 0 ((ji13) : Int).toNat) [.string (t102.extract 0 ((ji13) : Int).toNat)] from rfl) (Reps.one (show Kd.M Kd.string _ _ _ (t102.extract ((ji13) : Int).toNat t102.size) [.string (t102.extract ((ji13) : Int).toNat t102.size)] from rfl) (Reps.none _ _))))
              intro v104 w56 ho57 hb hg_ hnew_
              clear hg_ hnew_
              (first | rw [← Ny103.out] at ho57 | (simp only [Int.reduceToNat] at ho57; rw [← Ny103.out] at ho57))
              have n0_ := Aside0.mk (Kd.R_lower ho57 (below_size (by repeat (first | (with_reducible first | exact HB.out | apply below_alloc | apply pw_below_drewN | apply below_drew1) | exact HB.out))))
              have n1_ := Aside0.mk (below_step (by repeat (first | (with_reducible first | exact HB.out | apply below_alloc | apply pw_below_drewN | apply below_drew1) | exact HB.out)) hb)
              have z_HO109 := fun (h0_ : b 14 = true) => (show Kd.R Kd.string 9 w56 w.heap.size (fun _ => True) v108 y107 from by first | exact (Kd.R_elder' (by (with_reducible repeat (first | apply Kd.R_alloc | apply Kd.R_drewN | apply Kd.R_drew)); exact (Q_HO109 h0_)) (Kd.R_base ho57) hb) | exact Kd.R_mono (Kd.R_elder' (by (with_reducible repeat (first | apply Kd.R_alloc | apply Kd.R_drewN | apply Kd.R_drew)); exact (Q_HO109 h0_)) (Kd.R_base ho57) hb) (fun _ h_ => by first | trivial | exact h_ | exact h_.1))
              clear HB
              have HO105 := n0_
              have HB := n1_
              clear n0_ n1_
              clear hb ho57
              refine hK.out _ _ ⟨v104, v108, v112, v116, v120, v124, (by rw [ha.out]; exact putSel_upk 2 hb_ rfl rfl rfl), (by repeat (first | (with_reducible first | exact HB.out | apply below_alloc | apply pw_below_drewN | apply below_drew1) | exact HB.out)), fun _ => (by (with_reducible repeat (first | apply Kd.R_alloc | apply Kd.R_drewN | apply Kd.R_drew)); first | exact HO105.out | exact Kd.R_mono HO105.out (fun _ _ => trivial)), z_HO109, fun h0_ => absurd ((hoff 23 (by kernel_rfl)).symm.trans h0_) (by decide), fun h0_ => absurd ((hoff 26 (by kernel_rfl)).symm.trans h0_) (by decide), fun h0_ => absurd ((hoff 37 (by kernel_rfl)).symm.trans h0_) (by decide), fun h0_ => absurd ((hoff 40 (by kernel_rfl)).symm.trans h0_) (by decide)⟩
             refine steps_cons ?_ ?_
             ·rintro b a w' ⟨v104, v108, v112, v116, v120, v124, ha, Q_HB, Q_HO105, Q_HO109, Q_HO113, Q_HO117, Q_HO121, Q_HO125⟩ hb_ hon hoff
              refine ⟨_, rfl, fun K hK => ?_⟩
              have e35 : a.tmps[35]? = some (v104) := by rw [ha]; exact putSel_on (e := (6, 35, v104)) 2 rfl rfl (hon 6 (by kernel_rfl)) rfl
              replace ha := Aside0.mk ha
              have HB := Aside0.mk Q_HB
              have HO105 := Aside0.mk (Q_HO105 (hon 6 (by kernel_rfl)))
              obtain ⟨Ao59, co59, eo59⟩ := Kd.R_slice HO105.out
              (first | subst eo59 | (injection eo59 with f1_ f2_ f3_; have f4_ := f1_.symm; have f5_ := f3_.symm; clear f1_ f2_ f3_; subst f4_; subst f5_))
              refine goes_ Tryz.func32 (by kernel_rfl) rfl #[.slice Ao59 y103.length co59] (by first | rfl | exact wanted_on rfl rfl rfl e50 | exact wanted_on rfl rfl rfl e59) rfl rfl (by simp only [List.map_toArray, List.map_cons, List.map_nil, Act.eval, Array.getD_eq_getD_getElem?, Option.getD_some, e35] <;> rfl) ?_
              with_reducible refine (mint_Put.calls _ _ y103 t106 _ ?side99 ?side1 ?side2 A18.out).mono ?_
              (case side99 => exact GOK.below HG.out (by repeat (first | (with_reducible first | exact HB.out | apply below_alloc | apply pw_below_drewN | apply below_drew1) | exact HB.out)))
              (case side1 => repeat (first | exact (Kd.R_reads' HO105.out).2.2 | (with_reducible refine Kd.C_alloc ?_ _) | (with_reducible refine Kd.C_drewN ?_ _) | (with_reducible refine Kd.C_drew ?_)))
              (case side2 => exact (Kd.R_reads' HO105.out).2.1)
              rintro e w60 ⟨rfl, hb⟩
              refine ⟨_, rfl, ?_⟩
              have n0_ := Aside0.mk (Kd.R_below (by (with_reducible repeat (first | apply Kd.R_alloc | apply Kd.R_drewN | apply Kd.R_drew)); first | exact HO105.out | exact Kd.R_mono HO105.out (fun _ _ => trivial)) hb)
              have n1_ := Aside0.mk (below_step (by repeat (first | (with_reducible first | exact HB.out | apply below_alloc | apply pw_below_drewN | apply below_drew1) | exact HB.out)) hb)
              have z_HO109 := fun (h0_ : b 14 = true) => (show Kd.R Kd.string 9 w60 w.heap.size (fun _ => True) v108 y107 from by first | exact (Kd.R_below (by (with_reducible repeat (first | apply Kd.R_alloc | apply Kd.R_drewN | apply Kd.R_drew)); exact (Q_HO109 h0_)) hb) | exact Kd.R_mono (Kd.R_below (by (with_reducible repeat (first | apply Kd.R_alloc | apply Kd.R_drewN | apply Kd.R_drew)); exact (Q_HO109 h0_)) hb) (fun _ h_ => by first | trivial | exact h_ | exact h_.1))
              clear HO105
              clear HB
              have HO105 := n0_
              have HB := n1_
              clear n0_ n1_
              (try clear hb)
              (try clear hb2)
              (try clear hk)
              (try clear hi)
              refine hK.out _ _ ⟨.slice Ao59 y103.length co59, v108, v112, v116, v120, v124, (by rw [ha.out]; exact putSel_upk 3 hb_ rfl rfl rfl), (by repeat (first | (with_reducible first | exact HB.out | apply below_alloc | apply pw_below_drewN | apply below_drew1) | exact HB.out)), fun _ => (by (with_reducible repeat (first | apply Kd.R_alloc | apply Kd.R_drewN | apply Kd.R_drew)); first | exact HO105.out | exact Kd.R_mono HO105.out (fun _ _ => trivial)), z_HO109, fun h0_ => absurd ((hoff 23 (by kernel_rfl)).symm.trans h0_) (by decide), fun h0_ => absurd ((hoff 26 (by kernel_rfl)).symm.trans h0_) (by decide), fun h0_ => absurd ((hoff 37 (by kernel_rfl)).symm.trans h0_) (by decide), fun h0_ => absurd ((hoff 40 (by kernel_rfl)).symm.trans h0_) (by decide)⟩
             refine steps_cons ?_ ?_
             ·rintro b a w' ⟨v104, v108, v112, v116, v120, v124, ha, Q_HB, Q_HO105, Q_HO109, Q_HO113, Q_HO117, Q_HO121, Q_HO125⟩ hb_ hon hoff
              refine ⟨_, rfl, fun K hK => ?_⟩
              have e37 : a.tmps[37]? = some (.string t102) := by rw [ha]; exact (putSel_off rfl).trans rfl
              have e38 : a.tmps[38]? = some (.int .i64 ji19) := by rw [ha]; exact (putSel_off rfl).trans rfl
              replace ha := Aside0.mk ha
              have HB := Aside0.mk Q_HB
              refine value_ (w1 := w') (v := .string (t102.extract 0 ((ji19) : Int).toNat)) (by rfl) rfl ?_ ?_
              ·go_simp
               (try simp only [i64_w])
               first | rfl | (simp [bne]; done) | skip
              refine hK.out _ _ ⟨v104, v108, v112, v116, v120, v124, (by rw [ha.out]; exact putSel_upk 4 hb_ rfl rfl rfl), Q_HB, Q_HO105, fun h0_ => absurd ((hoff 14 (by kernel_rfl)).symm.trans h0_) (by decide), fun h0_ => absurd ((hoff 23 (by kernel_rfl)).symm.trans h0_) (by decide), fun h0_ => absurd ((hoff 26 (by kernel_rfl)).symm.trans h0_) (by decide), fun h0_ => absurd ((hoff 37 (by kernel_rfl)).symm.trans h0_) (by decide), fun h0_ => absurd ((hoff 40 (by kernel_rfl)).symm.trans h0_) (by decide)⟩
             refine steps_cons ?_ ?_
             ·rintro b a w' ⟨v104, v108, v112, v116, v120, v124, ha, Q_HB, Q_HO105, Q_HO109, Q_HO113, Q_HO117, Q_HO121, Q_HO125⟩ hb_ hon hoff
              refine ⟨_, rfl, fun K hK => ?_⟩
              have e40 : a.tmps[40]? = some (.string t102) := by rw [ha]; exact (putSel_off rfl).trans rfl
              have e41 : a.tmps[41]? = some (.int .i64 ji19) := by rw [ha]; exact (putSel_off rfl).trans rfl
              replace ha := Aside0.mk ha
              have HB := Aside0.mk Q_HB
              refine value_ (w1 := w') (v := .string (t102.extract ((ji19) : Int).toNat t102.size)) (by rfl) rfl ?_ ?_
              ·go_simp
               (try simp only [i64_w])
               first | rfl | (simp [bne]; done) | skip
              refine hK.out _ _ ⟨v104, v108, v112, v116, v120, v124, (by rw [ha.out]; exact putSel_upk 5 hb_ rfl rfl rfl), Q_HB, Q_HO105, fun h0_ => absurd ((hoff 14 (by kernel_rfl)).symm.trans h0_) (by decide), fun h0_ => absurd ((hoff 23 (by kernel_rfl)).symm.trans h0_) (by decide), fun h0_ => absurd ((hoff 26 (by kernel_rfl)).symm.trans h0_) (by decide), fun h0_ => absurd ((hoff 37 (by kernel_rfl)).symm.trans h0_) (by decide), fun h0_ => absurd ((hoff 40 (by kernel_rfl)).symm.trans h0_) (by decide)⟩
             refine steps_cons ?_ ?_
             ·rintro b a w' ⟨v104, v108, v112, v116, v120, v124, ha, Q_HB, Q_HO105, Q_HO109, Q_HO113, Q_HO117, Q_HO121, Q_HO125⟩ hb_ hon hoff
              refine ⟨_, rfl, fun K hK => ?_⟩
              have e39 : a.tmps[39]? = some (.string (t102.extract 0 ((ji19) : Int).toNat)) := by rw [ha]; exact putSel_on (e := (10, 39, .string (t102.extract 0 ((ji19) : Int).toNat))) 4 rfl rfl (hon 10 (by kernel_rfl)) rfl
              have e42 : a.tmps[42]? = some (.string (t102.extract ((ji19) : Int).toNat t102.size)) := by rw [ha]; exact putSel_on (e := (13, 42, .string (t102.extract ((ji19) : Int).toNat t102.size))) 5 rfl rfl (hon 13 (by kernel_rfl)) rfl
              replace ha := Aside0.mk ha
              have HB := Aside0.mk Q_HB
              refine Kd.R_lit_step Kd.string _ 9 ?hg (N := 43) ?hd (xs := ([t102.extract 0 ((ji19) : Int).toNat, t102.extract ((ji19) : Int).toNat t102.size] : List ByteArray)) (inner := [.string (t102.extract 0 ((ji19) : Int).toNat), .string (t102.extract ((ji19) : Int).toNat t102.size)]) (ok := fun _ => True) (okp := fun _ => True) ?hr ?hp (fun _ hk => hk) trivial (Below.refl _ _) (Nat.le_refl _) (by simp) ?_; (case hd => rfl); (case hg => first | rfl | exact wanted_on rfl rfl rfl e50 | exact wanted_on rfl rfl rfl e59); (case hr => first | (go_simp; done) | (go_simp; rfl)); (case hp => exact (Reps.one (show Kd.M Kd.string _ _ _ (t102.extract 0 ((ji19) : Int).toNat) [.string (t102.extract 0 ((ji19) : Int).toNat)] from rfl) (Reps.one (show Kd.M Kd.string _ _ _ (t102.extract ((ji19) : Int).toNat t102.size) [.string (t102.extract ((ji19) : Int).toNat t102.size)] from rfl) (Reps.none _ _))))
              intro v108 w56 ho57 hb hg_ hnew_
              clear hg_ hnew_
              (first | rw [← Ny107.out] at ho57 | (simp only [Int.reduceToNat] at ho57; rw [← Ny107.out] at ho57))
              have n0_ := Aside0.mk (Kd.R_lower ho57 (below_size (by repeat (first | (with_reducible first | exact HB.out | apply below_alloc | apply pw_below_drewN | apply below_drew1) | exact HB.out))))
              have n1_ := Aside0.mk (below_step (by repeat (first | (with_reducible first | exact HB.out | apply below_alloc | apply pw_below_drewN | apply below_drew1) | exact HB.out)) hb)
              have z_HO105 := fun (h0_ : b 6 = true) => (show Kd.R Kd.string 9 w56 w.heap.size (fun _ => True) v104 y103 from by first | exact (Kd.R_elder' (by (with_reducible repeat (first | apply Kd.R_alloc | apply Kd.R_drewN | apply Kd.R_drew)); exact (Q_HO105 h0_)) (Kd.R_base ho57) hb) | exact Kd.R_mono (Kd.R_elder' (by (with_reducible repeat (first | apply Kd.R_alloc | apply Kd.R_drewN | apply Kd.R_drew)); exact (Q_HO105 h0_)) (Kd.R_base ho57) hb) (fun _ h_ => by first | trivial | exact h_ | exact h_.1))
              clear HB
              have HO109 := n0_
              have HB := n1_
              clear n0_ n1_
              clear hb ho57
              refine hK.out _ _ ⟨v104, v108, v112, v116, v120, v124, (by rw [ha.out]; exact putSel_upk 6 hb_ rfl rfl rfl), (by repeat (first | (with_reducible first | exact HB.out | apply below_alloc | apply pw_below_drewN | apply below_drew1) | exact HB.out)), z_HO105, fun _ => (by (with_reducible repeat (first | apply Kd.R_alloc | apply Kd.R_drewN | apply Kd.R_drew)); first | exact HO109.out | exact Kd.R_mono HO109.out (fun _ _ => trivial)), fun h0_ => absurd ((hoff 23 (by kernel_rfl)).symm.trans h0_) (by decide), fun h0_ => absurd ((hoff 26 (by kernel_rfl)).symm.trans h0_) (by decide), fun h0_ => absurd ((hoff 37 (by kernel_rfl)).symm.trans h0_) (by decide), fun h0_ => absurd ((hoff 40 (by kernel_rfl)).symm.trans h0_) (by decide)⟩
             refine steps_cons ?_ ?_
             ·rintro b a w' ⟨v104, v108, v112, v116, v120, v124, ha, Q_HB, Q_HO105, Q_HO109, Q_HO113, Q_HO117, Q_HO121, Q_HO125⟩ hb_ hon hoff
              refine ⟨_, rfl, fun K hK => ?_⟩
              have e43 : a.tmps[43]? = some (v108) := by rw [ha]; exact putSel_on (e := (14, 43, v108)) 6 rfl rfl (hon 14 (by kernel_rfl)) rfl
              replace ha := Aside0.mk ha
              have HB := Aside0.mk Q_HB
              have HO105 := Aside0.mk (Q_HO105 (hon 6 (by kernel_rfl)))
              have HO109 := Aside0.mk (Q_HO109 (hon 14 (by kernel_rfl)))
              obtain ⟨Ao63, co63, eo63⟩ := Kd.R_slice HO109.out
              (first | subst eo63 | (injection eo63 with f1_ f2_ f3_; have f4_ := f1_.symm; have f5_ := f3_.symm; clear f1_ f2_ f3_; subst f4_; subst f5_))
              refine goes_ Tryz.func32 (by kernel_rfl) rfl #[.slice Ao63 y107.length co63] (by first | rfl | exact wanted_on rfl rfl rfl e50 | exact wanted_on rfl rfl rfl e59) rfl rfl (by simp only [List.map_toArray, List.map_cons, List.map_nil, Act.eval, Array.getD_eq_getD_getElem?, Option.getD_some, e43] <;> rfl) ?_
              with_reducible refine (mint_Put.calls _ _ y107 t110 _ ?side99 ?side1 ?side2 A24.out).mono ?_
              (case side99 => exact GOK.below HG.out (by repeat (first | (with_reducible first | exact HB.out | apply below_alloc | apply pw_below_drewN | apply below_drew1) | exact HB.out)))
              (case side1 => repeat (first | exact (Kd.R_reads' HO109.out).2.2 | (with_reducible refine Kd.C_alloc ?_ _) | (with_reducible refine Kd.C_drewN ?_ _) | (with_reducible refine Kd.C_drew ?_)))
              (case side2 => exact (Kd.R_reads' HO109.out).2.1)
              rintro e w64 ⟨rfl, hb⟩
              refine ⟨_, rfl, ?_⟩
              have n0_ := Aside0.mk (Kd.R_below (by (with_reducible repeat (first | apply Kd.R_alloc | apply Kd.R_drewN | apply Kd.R_drew)); first | exact HO105.out | exact Kd.R_mono HO105.out (fun _ _ => trivial)) hb)
              have n1_ := Aside0.mk (Kd.R_below (by (with_reducible repeat (first | apply Kd.R_alloc | apply Kd.R_drewN | apply Kd.R_drew)); first | exact HO109.out | exact Kd.R_mono HO109.out (fun _ _ => trivial)) hb)
              have n2_ := Aside0.mk (below_step (by repeat (first | (with_reducible first | exact HB.out | apply below_alloc | apply pw_below_drewN | apply below_drew1) | exact HB.out)) hb)
              clear HO105
              clear HO109
              clear HB
              have HO105 := n0_
              have HO109 := n1_
              have HB := n2_
              clear n0_ n1_ n2_
              (try clear hb)
              (try clear hb2)
              (try clear hk)
              (try clear hi)
              refine hK.out _ _ ⟨v104, .slice Ao63 y107.length co63, v112, v116, v120, v124, (by rw [ha.out]; exact putSel_upk 7 hb_ rfl rfl rfl), (by repeat (first | (with_reducible first | exact HB.out | apply below_alloc | apply pw_below_drewN | apply below_drew1) | exact HB.out)), fun _ => (by (with_reducible repeat (first | apply Kd.R_alloc | apply Kd.R_drewN | apply Kd.R_drew)); first | exact HO105.out | exact Kd.R_mono HO105.out (fun _ _ => trivial)), fun _ => (by (with_reducible repeat (first | apply Kd.R_alloc | apply Kd.R_drewN | apply Kd.R_drew)); first | exact HO109.out | exact Kd.R_mono HO109.out (fun _ _ => trivial)), fun h0_ => absurd ((hoff 23 (by kernel_rfl)).symm.trans h0_) (by decide), fun h0_ => absurd ((hoff 26 (by kernel_rfl)).symm.trans h0_) (by decide), fun h0_ => absurd ((hoff 37 (by kernel_rfl)).symm.trans h0_) (by decide), fun h0_ => absurd ((hoff 40 (by kernel_rfl)).symm.trans h0_) (by decide)⟩
             refine steps_cons ?_ ?_
             ·rintro b a w' ⟨v104, v108, v112, v116, v120, v124, ha, Q_HB, Q_HO105, Q_HO109, Q_HO113, Q_HO117, Q_HO121, Q_HO125⟩ hb_ hon hoff
              refine ⟨_, rfl, fun K hK => ?_⟩
              have e36 : a.tmps[36]? = some (.string t106) := by rw [ha]; exact putSel_on (e := (7, 36, .string t106)) 3 rfl rfl (hon 7 (by kernel_rfl)) rfl
              have e44 : a.tmps[44]? = some (.string t110) := by rw [ha]; exact putSel_on (e := (15, 44, .string t110)) 7 rfl rfl (hon 15 (by kernel_rfl)) rfl
              replace ha := Aside0.mk ha
              have HB := Aside0.mk Q_HB
              have HO105 := Aside0.mk (Q_HO105 (hon 6 (by kernel_rfl)))
              have HO109 := Aside0.mk (Q_HO109 (hon 14 (by kernel_rfl)))
              refine value_ (w1 := w') (v := .bool (t106.toList == t110.toList)) (by rfl) rfl ?_ ?_
              ·go_simp
               (try simp only [i64_w])
               first | rfl | (simp [bne]; done) | skip
              refine hK.out _ _ ⟨v104, v108, v112, v116, v120, v124, (by rw [ha.out]; exact putSel_upk 8 hb_ rfl rfl rfl), Q_HB, Q_HO105, Q_HO109, fun h0_ => absurd ((hoff 23 (by kernel_rfl)).symm.trans h0_) (by decide), fun h0_ => absurd ((hoff 26 (by kernel_rfl)).symm.trans h0_) (by decide), fun h0_ => absurd ((hoff 37 (by kernel_rfl)).symm.trans h0_) (by decide), fun h0_ => absurd ((hoff 40 (by kernel_rfl)).symm.trans h0_) (by decide)⟩
             refine steps_cons ?_ ?_
             ·rintro b a w' ⟨v104, v108, v112, v116, v120, v124, ha, Q_HB, Q_HO105, Q_HO109, Q_HO113, Q_HO117, Q_HO121, Q_HO125⟩ hb_ hon hoff
              refine ⟨_, rfl, fun K hK => ?_⟩
              have e46 : a.tmps[46]? = some (.int .i64 ji13) := by rw [ha]; exact (putSel_off rfl).trans rfl
              have e47 : a.tmps[47]? = some (.int .i64 ji19) := by rw [ha]; exact (putSel_off rfl).trans rfl
              replace ha := Aside0.mk ha
              have HB := Aside0.mk Q_HB
              refine value_ (w1 := w') (v := .bool ((ji13) == (ji19))) (by rfl) rfl ?_ ?_
              ·go_simp
               (try simp only [i64_w])
               first | rfl | (simp [bne]; done) | skip
              refine hK.out _ _ ⟨v104, v108, v112, v116, v120, v124, (by rw [ha.out]; exact putSel_upk 9 hb_ rfl rfl rfl), Q_HB, Q_HO105, Q_HO109, fun h0_ => absurd ((hoff 23 (by kernel_rfl)).symm.trans h0_) (by decide), fun h0_ => absurd ((hoff 26 (by kernel_rfl)).symm.trans h0_) (by decide), fun h0_ => absurd ((hoff 37 (by kernel_rfl)).symm.trans h0_) (by decide), fun h0_ => absurd ((hoff 40 (by kernel_rfl)).symm.trans h0_) (by decide)⟩
             refine steps_cons ?_ ?_
             ·rintro b a w' ⟨v104, v108, v112, v116, v120, v124, ha, Q_HB, Q_HO105, Q_HO109, Q_HO113, Q_HO117, Q_HO121, Q_HO125⟩ hb_ hon hoff
              refine ⟨_, rfl, fun K hK => ?_⟩
              have e45 : a.tmps[45]? = some (.bool (t106.toList == t110.toList)) := by rw [ha]; exact putSel_on (e := (16, 45, .bool (t106.toList == t110.toList))) 8 rfl rfl (hon 16 (by kernel_rfl)) rfl
              try rw [(by assumption : (t106.toList == t110.toList) = true)] at e45
              try rw [(by assumption : (t106.toList == t110.toList) = false)] at e45
              have e48 : a.tmps[48]? = some (.bool ((ji13) == (ji19))) := by rw [ha]; exact putSel_on (e := (19, 48, .bool ((ji13) == (ji19)))) 9 rfl rfl (hon 19 (by kernel_rfl)) rfl
              try rw [(by assumption : ((ji13) == (ji19)) = true)] at e48
              try rw [(by assumption : ((ji13) == (ji19)) = false)] at e48
              replace ha := Aside0.mk ha
              have HB := Aside0.mk Q_HB
              have HO105 := Aside0.mk (Q_HO105 (hon 6 (by kernel_rfl)))
              have HO109 := Aside0.mk (Q_HO109 (hon 14 (by kernel_rfl)))
              refine value_ (w1 := w') (v := .bool ((t106.toList == t110.toList) == ((ji13) == (ji19)))) (by rfl) rfl ?_ ?_
              ·go_simp
               (try simp only [i64_w])
               first | rfl | (simp [bne]; done) | skip
              refine hK.out _ _ ⟨v104, v108, v112, v116, v120, v124, (by rw [ha.out]; exact putSel_upk 10 hb_ rfl rfl rfl), Q_HB, Q_HO105, Q_HO109, fun h0_ => absurd ((hoff 23 (by kernel_rfl)).symm.trans h0_) (by decide), fun h0_ => absurd ((hoff 26 (by kernel_rfl)).symm.trans h0_) (by decide), fun h0_ => absurd ((hoff 37 (by kernel_rfl)).symm.trans h0_) (by decide), fun h0_ => absurd ((hoff 40 (by kernel_rfl)).symm.trans h0_) (by decide)⟩
             refine steps_cons ?_ ?_
             ·rintro b a w' ⟨v104, v108, v112, v116, v120, v124, ha, Q_HB, Q_HO105, Q_HO109, Q_HO113, Q_HO117, Q_HO121, Q_HO125⟩ hb_ hon hoff
              refine ⟨_, rfl, fun K hK => ?_⟩
              have e49 : a.tmps[49]? = some (.bool ((t106.toList == t110.toList) == ((ji13) == (ji19)))) := by rw [ha]; exact putSel_on (e := (20, 49, .bool ((t106.toList == t110.toList) == ((ji13) == (ji19))))) 10 rfl rfl (hon 20 (by kernel_rfl)) rfl
              try rw [(by assumption : ((t106.toList == t110.toList) == ((ji13) == (ji19))) = true)] at e49
              try rw [(by assumption : ((t106.toList == t110.toList) == ((ji13) == (ji19))) = false)] at e49
              replace ha := Aside0.mk ha
              have HB := Aside0.mk Q_HB
              have HO105 := Aside0.mk (Q_HO105 (hon 6 (by kernel_rfl)))
              have HO109 := Aside0.mk (Q_HO109 (hon 14 (by kernel_rfl)))
              refine value_ (w1 := w') (v := .bool ((t106.toList == t110.toList) == ((ji13) == (ji19)))) (by rfl) rfl ?_ ?_
              ·go_simp
               (try simp only [i64_w])
               first | rfl | (simp [bne]; done) | skip
              refine hK.out _ _ ⟨v104, v108, v112, v116, v120, v124, (by rw [ha.out]; exact putSel_upk 11 hb_ rfl rfl rfl), Q_HB, Q_HO105, Q_HO109, fun h0_ => absurd ((hoff 23 (by kernel_rfl)).symm.trans h0_) (by decide), fun h0_ => absurd ((hoff 26 (by kernel_rfl)).symm.trans h0_) (by decide), fun h0_ => absurd ((hoff 37 (by kernel_rfl)).symm.trans h0_) (by decide), fun h0_ => absurd ((hoff 40 (by kernel_rfl)).symm.trans h0_) (by decide)⟩
             refine steps_cons ?_ ?_
             ·rintro b a w' ⟨v104, v108, v112, v116, v120, v124, ha, Q_HB, Q_HO105, Q_HO109, Q_HO113, Q_HO117, Q_HO121, Q_HO125⟩ hb_ hon hoff
              refine ⟨_, rfl, fun K hK => ?_⟩
              have e0 : a.tmps[0]? = some (.string t102) := by rw [ha]; exact (putSel_off rfl).trans rfl
              have e50 : a.tmps[50]? = some (.bool ((t106.toList == t110.toList) == ((ji13) == (ji19)))) := by rw [ha]; exact putSel_on (e := (21, 50, .bool ((t106.toList == t110.toList) == ((ji13) == (ji19))))) 11 rfl rfl (hon 21 (by kernel_rfl)) rfl
              try rw [(by assumption : ((t106.toList == t110.toList) == ((ji13) == (ji19))) = true)] at e50
              try rw [(by assumption : ((t106.toList == t110.toList) == ((ji13) == (ji19))) = false)] at e50
              replace ha := Aside0.mk ha
              have HB := Aside0.mk Q_HB
              have HO105 := Aside0.mk (Q_HO105 (hon 6 (by kernel_rfl)))
              have HO109 := Aside0.mk (Q_HO109 (hon 14 (by kernel_rfl)))
              refine value_ (w1 := w') (v := .string t102) (wanted_on rfl rfl rfl (e50.trans (by first | rfl | (simp [*]; done)))) rfl ?_ ?_
              ·go_simp
               (try simp only [i64_w])
               first | rfl | (simp [bne]; done) | skip
              refine hK.out _ _ ⟨v104, v108, v112, v116, v120, v124, (by rw [ha.out]; exact putSel_upk 12 hb_ rfl rfl rfl), Q_HB, Q_HO105, Q_HO109, fun h0_ => absurd ((hoff 23 (by kernel_rfl)).symm.trans h0_) (by decide), Q_HO117, fun h0_ => absurd ((hoff 37 (by kernel_rfl)).symm.trans h0_) (by decide), fun h0_ => absurd ((hoff 40 (by kernel_rfl)).symm.trans h0_) (by decide)⟩
             refine steps_cons ?_ ?_
             ·rintro b a w' ⟨v104, v108, v112, v116, v120, v124, ha, Q_HB, Q_HO105, Q_HO109, Q_HO113, Q_HO117, Q_HO121, Q_HO125⟩ hb_ hon hoff
              refine ⟨_, rfl, fun K hK => ?_⟩
              have e51 : a.tmps[51]? = some (.string t102) := by rw [ha]; exact putSel_on (e := (22, 51, .string t102)) 12 rfl rfl (hon 22 (by kernel_rfl)) rfl
              have e50 : a.tmps[50]? = some (.bool ((t106.toList == t110.toList) == ((ji13) == (ji19)))) := by rw [ha]; exact putSel_on (e := (21, 50, .bool ((t106.toList == t110.toList) == ((ji13) == (ji19))))) 11 rfl rfl (hon 21 (by kernel_rfl)) rfl
              try rw [(by assumption : ((t106.toList == t110.toList) == ((ji13) == (ji19))) = true)] at e50
              try rw [(by assumption : ((t106.toList == t110.toList) == ((ji13) == (ji19))) = false)] at e50
              replace ha := Aside0.mk ha
              have HB := Aside0.mk Q_HB
              have HO105 := Aside0.mk (Q_HO105 (hon 6 (by kernel_rfl)))
              have HO109 := Aside0.mk (Q_HO109 (hon 14 (by kernel_rfl)))
              refine Kd.R_lit_step Kd.string _ 9 ?hg (N := 52) ?hd (xs := ([t102] : List ByteArray)) (inner := [.string t102]) (ok := fun _ => True) (okp := fun _ => True) ?hr ?hp (fun _ hk => hk) trivial (Below.refl _ _) (Nat.le_refl _) (by simp) ?_; (case hd => rfl); (case hg => first | rfl | exact wanted_on rfl rfl rfl e50 | exact wanted_on rfl rfl rfl e59); (case hr => first | (go_simp; done) | (go_simp; rfl)); (case hp => exact (Reps.one (show Kd.M Kd.string _ _ _ t102 [.string t102] from rfl) (Reps.none _ _)))
              intro v112 w65 ho66 hb hg_ hnew_
              clear hg_ hnew_
              (first | rw [← Ny111.out] at ho66 | (simp only [Int.reduceToNat] at ho66; rw [← Ny111.out] at ho66))
              have n0_ := Aside0.mk (Kd.R_elder' (by (with_reducible repeat (first | apply Kd.R_alloc | apply Kd.R_drewN | apply Kd.R_drew)); first | exact HO105.out | exact Kd.R_mono HO105.out (fun _ _ => trivial)) (Kd.R_base ho66) hb)
              have n1_ := Aside0.mk (Kd.R_elder' (by (with_reducible repeat (first | apply Kd.R_alloc | apply Kd.R_drewN | apply Kd.R_drew)); first | exact HO109.out | exact Kd.R_mono HO109.out (fun _ _ => trivial)) (Kd.R_base ho66) hb)
              have n2_ := Aside0.mk (Kd.R_lower (Kd.R_new' (Kd.R_new' ho66 (Kd.R_lt (by (with_reducible repeat (first | apply Kd.R_alloc | apply Kd.R_drewN | apply Kd.R_drew)); first | exact HO105.out | exact Kd.R_mono HO105.out (fun _ _ => trivial)))) (Kd.R_lt (by (with_reducible repeat (first | apply Kd.R_alloc | apply Kd.R_drewN | apply Kd.R_drew)); first | exact HO109.out | exact Kd.R_mono HO109.out (fun _ _ => trivial)))) (below_size (by repeat (first | (with_reducible first | exact HB.out | apply below_alloc | apply pw_below_drewN | apply below_drew1) | exact HB.out))))
              have n3_ := Aside0.mk (below_step (by repeat (first | (with_reducible first | exact HB.out | apply below_alloc | apply pw_below_drewN | apply below_drew1) | exact HB.out)) hb)
              have z_HO117 := fun (h0_ : b 26 = true) => (show Kd.R Kd.string 9 w65 w.heap.size (fun _ => True) v116 y115 from by first | exact (Kd.R_elder' (by (with_reducible repeat (first | apply Kd.R_alloc | apply Kd.R_drewN | apply Kd.R_drew)); exact (Q_HO117 h0_)) (Kd.R_base ho66) hb) | exact Kd.R_mono (Kd.R_elder' (by (with_reducible repeat (first | apply Kd.R_alloc | apply Kd.R_drewN | apply Kd.R_drew)); exact (Q_HO117 h0_)) (Kd.R_base ho66) hb) (fun _ h_ => by first | trivial | exact h_ | exact h_.1))
              clear HO105
              clear HO109
              clear HB
              have HO105 := n0_
              have HO109 := n1_
              have HO113 := n2_
              have HB := n3_
              clear n0_ n1_ n2_ n3_
              clear hb ho66
              refine hK.out _ _ ⟨v104, v108, v112, v116, v120, v124, (by rw [ha.out]; exact putSel_upk 13 hb_ rfl rfl rfl), (by repeat (first | (with_reducible first | exact HB.out | apply below_alloc | apply pw_below_drewN | apply below_drew1) | exact HB.out)), fun _ => (by (with_reducible repeat (first | apply Kd.R_alloc | apply Kd.R_drewN | apply Kd.R_drew)); first | exact HO105.out | exact Kd.R_mono HO105.out (fun _ _ => trivial)), fun _ => (by (with_reducible repeat (first | apply Kd.R_alloc | apply Kd.R_drewN | apply Kd.R_drew)); first | exact HO109.out | exact Kd.R_mono HO109.out (fun _ _ => trivial)), fun _ => (by (with_reducible repeat (first | apply Kd.R_alloc | apply Kd.R_drewN | apply Kd.R_drew)); exact Kd.R_mono HO113.out (fun _ hk => by first | trivial | exact ⟨hk.1.2, hk.2⟩)), z_HO117, fun h0_ => absurd ((hoff 37 (by kernel_rfl)).symm.trans h0_) (by decide), fun h0_ => absurd ((hoff 40 (by kernel_rfl)).symm.trans h0_) (by decide)⟩
             refine steps_cons ?_ ?_
             ·rintro b a w' ⟨v104, v108, v112, v116, v120, v124, ha, Q_HB, Q_HO105, Q_HO109, Q_HO113, Q_HO117, Q_HO121, Q_HO125⟩ hb_ hon hoff
              refine ⟨_, rfl, fun K hK => ?_⟩
              have e52 : a.tmps[52]? = some (v112) := by rw [ha]; exact putSel_on (e := (23, 52, v112)) 13 rfl rfl (hon 23 (by kernel_rfl)) rfl
              have e50 : a.tmps[50]? = some (.bool ((t106.toList == t110.toList) == ((ji13) == (ji19)))) := by rw [ha]; exact putSel_on (e := (21, 50, .bool ((t106.toList == t110.toList) == ((ji13) == (ji19))))) 11 rfl rfl (hon 21 (by kernel_rfl)) rfl
              try rw [(by assumption : ((t106.toList == t110.toList) == ((ji13) == (ji19))) = true)] at e50
              try rw [(by assumption : ((t106.toList == t110.toList) == ((ji13) == (ji19))) = false)] at e50
              replace ha := Aside0.mk ha
              have HB := Aside0.mk Q_HB
              have HO105 := Aside0.mk (Q_HO105 (hon 6 (by kernel_rfl)))
              have HO109 := Aside0.mk (Q_HO109 (hon 14 (by kernel_rfl)))
              have HO113 := Aside0.mk (Q_HO113 (hon 23 (by kernel_rfl)))
              obtain ⟨Ao67, co67, eo67⟩ := Kd.R_slice HO113.out
              (first | subst eo67 | (injection eo67 with f1_ f2_ f3_; have f4_ := f1_.symm; have f5_ := f3_.symm; clear f1_ f2_ f3_; subst f4_; subst f5_))
              refine goes_ Tryz.func32 (by kernel_rfl) rfl #[.slice Ao67 y111.length co67] (by first | rfl | exact wanted_on rfl rfl rfl e50 | exact wanted_on rfl rfl rfl e59) rfl rfl (by simp only [List.map_toArray, List.map_cons, List.map_nil, Act.eval, Array.getD_eq_getD_getElem?, Option.getD_some, e52, e50] <;> rfl) ?_
              with_reducible refine (mint_Put.calls _ _ y111 t114 _ ?side99 ?side1 ?side2 A26.out).mono ?_
              (case side99 => exact GOK.below HG.out (by repeat (first | (with_reducible first | exact HB.out | apply below_alloc | apply pw_below_drewN | apply below_drew1) | exact HB.out)))
              (case side1 => repeat (first | exact (Kd.R_reads' HO113.out).2.2 | (with_reducible refine Kd.C_alloc ?_ _) | (with_reducible refine Kd.C_drewN ?_ _) | (with_reducible refine Kd.C_drew ?_)))
              (case side2 => exact (Kd.R_reads' HO113.out).2.1)
              rintro e w68 ⟨rfl, hb⟩
              refine ⟨_, rfl, ?_⟩
              have n0_ := Aside0.mk (Kd.R_below (by (with_reducible repeat (first | apply Kd.R_alloc | apply Kd.R_drewN | apply Kd.R_drew)); first | exact HO105.out | exact Kd.R_mono HO105.out (fun _ _ => trivial)) hb)
              have n1_ := Aside0.mk (Kd.R_below (by (with_reducible repeat (first | apply Kd.R_alloc | apply Kd.R_drewN | apply Kd.R_drew)); first | exact HO109.out | exact Kd.R_mono HO109.out (fun _ _ => trivial)) hb)
              have n2_ := Aside0.mk (Kd.R_below (by (with_reducible repeat (first | apply Kd.R_alloc | apply Kd.R_drewN | apply Kd.R_drew)); first | exact HO113.out | exact Kd.R_mono HO113.out (fun _ _ => trivial)) hb)
              have n3_ := Aside0.mk (below_step (by repeat (first | (with_reducible first | exact HB.out | apply below_alloc | apply pw_below_drewN | apply below_drew1) | exact HB.out)) hb)
              have z_HO117 := fun (h0_ : b 26 = true) => (show Kd.R Kd.string 9 w68 w.heap.size (fun _ => True) v116 y115 from by first | exact (Kd.R_below (by (with_reducible repeat (first | apply Kd.R_alloc | apply Kd.R_drewN | apply Kd.R_drew)); exact (Q_HO117 h0_)) hb) | exact Kd.R_mono (Kd.R_below (by (with_reducible repeat (first | apply Kd.R_alloc | apply Kd.R_drewN | apply Kd.R_drew)); exact (Q_HO117 h0_)) hb) (fun _ h_ => by first | trivial | exact h_ | exact h_.1))
              clear HO105
              clear HO109
              clear HO113
              clear HB
              have HO105 := n0_
              have HO109 := n1_
              have HO113 := n2_
              have HB := n3_
              clear n0_ n1_ n2_ n3_
              (try clear hb)
              (try clear hb2)
              (try clear hk)
              (try clear hi)
              refine hK.out _ _ ⟨v104, v108, .slice Ao67 y111.length co67, v116, v120, v124, (by rw [ha.out]; exact putSel_upk 14 hb_ rfl rfl rfl), (by repeat (first | (with_reducible first | exact HB.out | apply below_alloc | apply pw_below_drewN | apply below_drew1) | exact HB.out)), fun _ => (by (with_reducible repeat (first | apply Kd.R_alloc | apply Kd.R_drewN | apply Kd.R_drew)); first | exact HO105.out | exact Kd.R_mono HO105.out (fun _ _ => trivial)), fun _ => (by (with_reducible repeat (first | apply Kd.R_alloc | apply Kd.R_drewN | apply Kd.R_drew)); first | exact HO109.out | exact Kd.R_mono HO109.out (fun _ _ => trivial)), fun _ => (by (with_reducible repeat (first | apply Kd.R_alloc | apply Kd.R_drewN | apply Kd.R_drew)); first | exact HO113.out | exact Kd.R_mono HO113.out (fun _ _ => trivial)), z_HO117, fun h0_ => absurd ((hoff 37 (by kernel_rfl)).symm.trans h0_) (by decide), fun h0_ => absurd ((hoff 40 (by kernel_rfl)).symm.trans h0_) (by decide)⟩
             refine steps_cons ?_ ?_
             ·rintro b a w' ⟨v104, v108, v112, v116, v120, v124, ha, Q_HB, Q_HO105, Q_HO109, Q_HO113, Q_HO117, Q_HO121, Q_HO125⟩ hb_ hon hoff
              refine ⟨_, rfl, fun K hK => ?_⟩
              have e0 : a.tmps[0]? = some (.string t102) := by rw [ha]; exact (putSel_off rfl).trans rfl
              have e50 : a.tmps[50]? = some (.bool ((t106.toList == t110.toList) == ((ji13) == (ji19)))) := by rw [ha]; exact putSel_on (e := (21, 50, .bool ((t106.toList == t110.toList) == ((ji13) == (ji19))))) 11 rfl rfl (hon 21 (by kernel_rfl)) rfl
              try rw [(by assumption : ((t106.toList == t110.toList) == ((ji13) == (ji19))) = true)] at e50
              try rw [(by assumption : ((t106.toList == t110.toList) == ((ji13) == (ji19))) = false)] at e50
              replace ha := Aside0.mk ha
              have HB := Aside0.mk Q_HB
              have HO105 := Aside0.mk (Q_HO105 (hon 6 (by kernel_rfl)))
              have HO109 := Aside0.mk (Q_HO109 (hon 14 (by kernel_rfl)))
              refine value_ (w1 := w') (v := .string t102) (wanted_on rfl rfl rfl (e50.trans (by first | rfl | (simp [*]; done)))) rfl ?_ ?_
              ·go_simp
               (try simp only [i64_w])
               first | rfl | (simp [bne]; done) | skip
              refine hK.out _ _ ⟨v104, v108, v112, v116, v120, v124, (by rw [ha.out]; exact putSel_upk 15 hb_ rfl rfl rfl), Q_HB, Q_HO105, Q_HO109, Q_HO113, fun h0_ => absurd ((hoff 26 (by kernel_rfl)).symm.trans h0_) (by decide), fun h0_ => absurd ((hoff 37 (by kernel_rfl)).symm.trans h0_) (by decide), fun h0_ => absurd ((hoff 40 (by kernel_rfl)).symm.trans h0_) (by decide)⟩
             refine steps_cons ?_ ?_
             ·rintro b a w' ⟨v104, v108, v112, v116, v120, v124, ha, Q_HB, Q_HO105, Q_HO109, Q_HO113, Q_HO117, Q_HO121, Q_HO125⟩ hb_ hon hoff
              refine ⟨_, rfl, fun K hK => ?_⟩
              have e54 : a.tmps[54]? = some (.string t102) := by rw [ha]; exact putSel_on (e := (25, 54, .string t102)) 15 rfl rfl (hon 25 (by kernel_rfl)) rfl
              have e50 : a.tmps[50]? = some (.bool ((t106.toList == t110.toList) == ((ji13) == (ji19)))) := by rw [ha]; exact putSel_on (e := (21, 50, .bool ((t106.toList == t110.toList) == ((ji13) == (ji19))))) 11 rfl rfl (hon 21 (by kernel_rfl)) rfl
              try rw [(by assumption : ((t106.toList == t110.toList) == ((ji13) == (ji19))) = true)] at e50
              try rw [(by assumption : ((t106.toList == t110.toList) == ((ji13) == (ji19))) = false)] at e50
              replace ha := Aside0.mk ha
              have HB := Aside0.mk Q_HB
              have HO105 := Aside0.mk (Q_HO105 (hon 6 (by kernel_rfl)))
              have HO109 := Aside0.mk (Q_HO109 (hon 14 (by kernel_rfl)))
              refine Kd.R_lit_step Kd.string _ 9 ?hg (N := 55) ?hd (xs := ([t102, (⟨#[]⟩ : ByteArray)] : List ByteArray)) (inner := [.string t102, .string (⟨#[]⟩ : ByteArray)]) (ok := fun _ => True) (okp := fun _ => True) ?hr ?hp (fun _ hk => hk) trivial (Below.refl _ _) (Nat.le_refl _) (by simp) ?_; (case hd => rfl); (case hg => first | rfl | exact wanted_on rfl rfl rfl e50 | exact wanted_on rfl rfl rfl e59); (case hr => first | (go_simp; done) | (go_simp; rfl)); (case hp => exact (Reps.one (show Kd.M Kd.string _ _ _ t102 [.string t102] from rfl) (Reps.one (show Kd.M Kd.string _ _ _ (⟨#[]⟩ : ByteArray) [.string (⟨#[]⟩ : ByteArray)] from rfl) (Reps.none _ _))))
              intro v116 w65 ho66 hb hg_ hnew_
              clear hg_ hnew_
              (first | rw [← Ny115.out] at ho66 | (simp only [Int.reduceToNat] at ho66; rw [← Ny115.out] at ho66))
              have n0_ := Aside0.mk (Kd.R_elder' (by (with_reducible repeat (first | apply Kd.R_alloc | apply Kd.R_drewN | apply Kd.R_drew)); first | exact HO105.out | exact Kd.R_mono HO105.out (fun _ _ => trivial)) (Kd.R_base ho66) hb)
              have n1_ := Aside0.mk (Kd.R_elder' (by (with_reducible repeat (first | apply Kd.R_alloc | apply Kd.R_drewN | apply Kd.R_drew)); first | exact HO109.out | exact Kd.R_mono HO109.out (fun _ _ => trivial)) (Kd.R_base ho66) hb)
              have n2_ := Aside0.mk (Kd.R_lower (Kd.R_new' (Kd.R_new' ho66 (Kd.R_lt (by (with_reducible repeat (first | apply Kd.R_alloc | apply Kd.R_drewN | apply Kd.R_drew)); first | exact HO105.out | exact Kd.R_mono HO105.out (fun _ _ => trivial)))) (Kd.R_lt (by (with_reducible repeat (first | apply Kd.R_alloc | apply Kd.R_drewN | apply Kd.R_drew)); first | exact HO109.out | exact Kd.R_mono HO109.out (fun _ _ => trivial)))) (below_size (by repeat (first | (with_reducible first | exact HB.out | apply below_alloc | apply pw_below_drewN | apply below_drew1) | exact HB.out))))
              have n3_ := Aside0.mk (below_step (by repeat (first | (with_reducible first | exact HB.out | apply below_alloc | apply pw_below_drewN | apply below_drew1) | exact HB.out)) hb)
              have z_HO113 := fun (h0_ : b 23 = true) => (show Kd.R Kd.string 9 w65 w.heap.size (fun _ => True) v112 y111 from by first | exact (Kd.R_elder' (by (with_reducible repeat (first | apply Kd.R_alloc | apply Kd.R_drewN | apply Kd.R_drew)); exact (Q_HO113 h0_)) (Kd.R_base ho66) hb) | exact Kd.R_mono (Kd.R_elder' (by (with_reducible repeat (first | apply Kd.R_alloc | apply Kd.R_drewN | apply Kd.R_drew)); exact (Q_HO113 h0_)) (Kd.R_base ho66) hb) (fun _ h_ => by first | trivial | exact h_ | exact h_.1))
              clear HO105
              clear HO109
              clear HB
              have HO105 := n0_
              have HO109 := n1_
              have HO117 := n2_
              have HB := n3_
              clear n0_ n1_ n2_ n3_
              clear hb ho66
              refine hK.out _ _ ⟨v104, v108, v112, v116, v120, v124, (by rw [ha.out]; exact putSel_upk 16 hb_ rfl rfl rfl), (by repeat (first | (with_reducible first | exact HB.out | apply below_alloc | apply pw_below_drewN | apply below_drew1) | exact HB.out)), fun _ => (by (with_reducible repeat (first | apply Kd.R_alloc | apply Kd.R_drewN | apply Kd.R_drew)); first | exact HO105.out | exact Kd.R_mono HO105.out (fun _ _ => trivial)), fun _ => (by (with_reducible repeat (first | apply Kd.R_alloc | apply Kd.R_drewN | apply Kd.R_drew)); first | exact HO109.out | exact Kd.R_mono HO109.out (fun _ _ => trivial)), z_HO113, fun _ => (by (with_reducible repeat (first | apply Kd.R_alloc | apply Kd.R_drewN | apply Kd.R_drew)); exact Kd.R_mono HO117.out (fun _ hk => by first | trivial | exact ⟨hk.1.2, hk.2⟩)), fun h0_ => absurd ((hoff 37 (by kernel_rfl)).symm.trans h0_) (by decide), fun h0_ => absurd ((hoff 40 (by kernel_rfl)).symm.trans h0_) (by decide)⟩
             refine steps_cons ?_ ?_
             ·rintro b a w' ⟨v104, v108, v112, v116, v120, v124, ha, Q_HB, Q_HO105, Q_HO109, Q_HO113, Q_HO117, Q_HO121, Q_HO125⟩ hb_ hon hoff
              refine ⟨_, rfl, fun K hK => ?_⟩
              have e55 : a.tmps[55]? = some (v116) := by rw [ha]; exact putSel_on (e := (26, 55, v116)) 16 rfl rfl (hon 26 (by kernel_rfl)) rfl
              have e50 : a.tmps[50]? = some (.bool ((t106.toList == t110.toList) == ((ji13) == (ji19)))) := by rw [ha]; exact putSel_on (e := (21, 50, .bool ((t106.toList == t110.toList) == ((ji13) == (ji19))))) 11 rfl rfl (hon 21 (by kernel_rfl)) rfl
              try rw [(by assumption : ((t106.toList == t110.toList) == ((ji13) == (ji19))) = true)] at e50
              try rw [(by assumption : ((t106.toList == t110.toList) == ((ji13) == (ji19))) = false)] at e50
              replace ha := Aside0.mk ha
              have HB := Aside0.mk Q_HB
              have HO105 := Aside0.mk (Q_HO105 (hon 6 (by kernel_rfl)))
              have HO109 := Aside0.mk (Q_HO109 (hon 14 (by kernel_rfl)))
              have HO113 := Aside0.mk (Q_HO113 (hon 23 (by kernel_rfl)))
              have HO117 := Aside0.mk (Q_HO117 (hon 26 (by kernel_rfl)))
              obtain ⟨Ao71, co71, eo71⟩ := Kd.R_slice HO117.out
              (first | subst eo71 | (injection eo71 with f1_ f2_ f3_; have f4_ := f1_.symm; have f5_ := f3_.symm; clear f1_ f2_ f3_; subst f4_; subst f5_))
              refine goes_ Tryz.func32 (by kernel_rfl) rfl #[.slice Ao71 y115.length co71] (by first | rfl | exact wanted_on rfl rfl rfl e50 | exact wanted_on rfl rfl rfl e59) rfl rfl (by simp only [List.map_toArray, List.map_cons, List.map_nil, Act.eval, Array.getD_eq_getD_getElem?, Option.getD_some, e55, e50] <;> rfl) ?_
              with_reducible refine (mint_Put.calls _ _ y115 t118 _ ?side99 ?side1 ?side2 A27.out).mono ?_
              (case side99 => exact GOK.below HG.out (by repeat (first | (with_reducible first | exact HB.out | apply below_alloc | apply pw_below_drewN | apply below_drew1) | exact HB.out)))
              (case side1 => repeat (first | exact (Kd.R_reads' HO117.out).2.2 | (with_reducible refine Kd.C_alloc ?_ _) | (with_reducible refine Kd.C_drewN ?_ _) | (with_reducible refine Kd.C_drew ?_)))
              (case side2 => exact (Kd.R_reads' HO117.out).2.1)
              rintro e w72 ⟨rfl, hb⟩
              refine ⟨_, rfl, ?_⟩
              have n0_ := Aside0.mk (Kd.R_below (by (with_reducible repeat (first | apply Kd.R_alloc | apply Kd.R_drewN | apply Kd.R_drew)); first | exact HO105.out | exact Kd.R_mono HO105.out (fun _ _ => trivial)) hb)
              have n1_ := Aside0.mk (Kd.R_below (by (with_reducible repeat (first | apply Kd.R_alloc | apply Kd.R_drewN | apply Kd.R_drew)); first | exact HO109.out | exact Kd.R_mono HO109.out (fun _ _ => trivial)) hb)
              have n2_ := Aside0.mk (Kd.R_below (by (with_reducible repeat (first | apply Kd.R_alloc | apply Kd.R_drewN | apply Kd.R_drew)); first | exact HO113.out | exact Kd.R_mono HO113.out (fun _ _ => trivial)) hb)
              have n3_ := Aside0.mk (Kd.R_below (by (with_reducible repeat (first | apply Kd.R_alloc | apply Kd.R_drewN | apply Kd.R_drew)); first | exact HO117.out | exact Kd.R_mono HO117.out (fun _ _ => trivial)) hb)
              have n4_ := Aside0.mk (below_step (by repeat (first | (with_reducible first | exact HB.out | apply below_alloc | apply pw_below_drewN | apply below_drew1) | exact HB.out)) hb)
              clear HO105
              clear HO109
              clear HO113
              clear HO117
              clear HB
              have HO105 := n0_
              have HO109 := n1_
              have HO113 := n2_
              have HO117 := n3_
              have HB := n4_
              clear n0_ n1_ n2_ n3_ n4_
              (try clear hb)
              (try clear hb2)
              (try clear hk)
              (try clear hi)
              refine hK.out _ _ ⟨v104, v108, v112, .slice Ao71 y115.length co71, v120, v124, (by rw [ha.out]; exact putSel_upk 17 hb_ rfl rfl rfl), (by repeat (first | (with_reducible first | exact HB.out | apply below_alloc | apply pw_below_drewN | apply below_drew1) | exact HB.out)), fun _ => (by (with_reducible repeat (first | apply Kd.R_alloc | apply Kd.R_drewN | apply Kd.R_drew)); first | exact HO105.out | exact Kd.R_mono HO105.out (fun _ _ => trivial)), fun _ => (by (with_reducible repeat (first | apply Kd.R_alloc | apply Kd.R_drewN | apply Kd.R_drew)); first | exact HO109.out | exact Kd.R_mono HO109.out (fun _ _ => trivial)), fun _ => (by (with_reducible repeat (first | apply Kd.R_alloc | apply Kd.R_drewN | apply Kd.R_drew)); first | exact HO113.out | exact Kd.R_mono HO113.out (fun _ _ => trivial)), fun _ => (by (with_reducible repeat (first | apply Kd.R_alloc | apply Kd.R_drewN | apply Kd.R_drew)); first | exact HO117.out | exact Kd.R_mono HO117.out (fun _ _ => trivial)), fun h0_ => absurd ((hoff 37 (by kernel_rfl)).symm.trans h0_) (by decide), fun h0_ => absurd ((hoff 40 (by kernel_rfl)).symm.trans h0_) (by decide)⟩
             refine steps_cons ?_ ?_
             ·rintro b a w' ⟨v104, v108, v112, v116, v120, v124, ha, Q_HB, Q_HO105, Q_HO109, Q_HO113, Q_HO117, Q_HO121, Q_HO125⟩ hb_ hon hoff
              refine ⟨_, rfl, fun K hK => ?_⟩
              have e53 : a.tmps[53]? = some (.string t114) := by rw [ha]; exact putSel_on (e := (24, 53, .string t114)) 14 rfl rfl (hon 24 (by kernel_rfl)) rfl
              have e56 : a.tmps[56]? = some (.string t118) := by rw [ha]; exact putSel_on (e := (27, 56, .string t118)) 17 rfl rfl (hon 27 (by kernel_rfl)) rfl
              have e50 : a.tmps[50]? = some (.bool ((t106.toList == t110.toList) == ((ji13) == (ji19)))) := by rw [ha]; exact putSel_on (e := (21, 50, .bool ((t106.toList == t110.toList) == ((ji13) == (ji19))))) 11 rfl rfl (hon 21 (by kernel_rfl)) rfl
              try rw [(by assumption : ((t106.toList == t110.toList) == ((ji13) == (ji19))) = true)] at e50
              try rw [(by assumption : ((t106.toList == t110.toList) == ((ji13) == (ji19))) = false)] at e50
              replace ha := Aside0.mk ha
              have HB := Aside0.mk Q_HB
              have HO105 := Aside0.mk (Q_HO105 (hon 6 (by kernel_rfl)))
              have HO109 := Aside0.mk (Q_HO109 (hon 14 (by kernel_rfl)))
              have HO113 := Aside0.mk (Q_HO113 (hon 23 (by kernel_rfl)))
              have HO117 := Aside0.mk (Q_HO117 (hon 26 (by kernel_rfl)))
              refine value_ (w1 := w') (v := .bool (t114.toList != t118.toList)) (wanted_on rfl rfl rfl (e50.trans (by first | rfl | (simp [*]; done)))) rfl ?_ ?_
              ·go_simp
               (try simp only [i64_w])
               first | rfl | (simp [bne]; done) | skip
              refine hK.out _ _ ⟨v104, v108, v112, v116, v120, v124, (by rw [ha.out]; exact putSel_upk 18 hb_ rfl rfl rfl), Q_HB, Q_HO105, Q_HO109, Q_HO113, Q_HO117, fun h0_ => absurd ((hoff 37 (by kernel_rfl)).symm.trans h0_) (by decide), fun h0_ => absurd ((hoff 40 (by kernel_rfl)).symm.trans h0_) (by decide)⟩
             refine steps_cons ?_ ?_
             ·rintro b a w' ⟨v104, v108, v112, v116, v120, v124, ha, Q_HB, Q_HO105, Q_HO109, Q_HO113, Q_HO117, Q_HO121, Q_HO125⟩ hb_ hon hoff
              refine ⟨_, rfl, fun K hK => ?_⟩
              have e50 : a.tmps[50]? = some (.bool ((t106.toList == t110.toList) == ((ji13) == (ji19)))) := by rw [ha]; exact putSel_on (e := (21, 50, .bool ((t106.toList == t110.toList) == ((ji13) == (ji19))))) 11 rfl rfl (hon 21 (by kernel_rfl)) rfl
              try rw [(by assumption : ((t106.toList == t110.toList) == ((ji13) == (ji19))) = true)] at e50
              try rw [(by assumption : ((t106.toList == t110.toList) == ((ji13) == (ji19))) = false)] at e50
              have e57 : a.tmps[57]? = some (.bool (t114.toList != t118.toList)) := by rw [ha]; exact putSel_on (e := (28, 57, .bool (t114.toList != t118.toList))) 18 rfl rfl (hon 28 (by kernel_rfl)) rfl
              try rw [(by assumption : (t114.toList != t118.toList) = true)] at e57
              try rw [(by assumption : (t114.toList != t118.toList) = false)] at e57
              replace ha := Aside0.mk ha
              have HB := Aside0.mk Q_HB
              have HO105 := Aside0.mk (Q_HO105 (hon 6 (by kernel_rfl)))
              have HO109 := Aside0.mk (Q_HO109 (hon 14 (by kernel_rfl)))
              have HO113 := Aside0.mk (Q_HO113 (hon 23 (by kernel_rfl)))
              have HO117 := Aside0.mk (Q_HO117 (hon 26 (by kernel_rfl)))
              refine value_ (w1 := w') (v := .bool (t114.toList != t118.toList)) (by rfl) rfl ?_ ?_
              ·go_simp
               (try simp only [i64_w])
               first | rfl | (simp [bne]; done) | skip
              refine hK.out _ _ ⟨v104, v108, v112, v116, v120, v124, (by rw [ha.out]; exact putSel_upk 19 hb_ rfl rfl rfl), Q_HB, Q_HO105, Q_HO109, Q_HO113, Q_HO117, fun h0_ => absurd ((hoff 37 (by kernel_rfl)).symm.trans h0_) (by decide), fun h0_ => absurd ((hoff 40 (by kernel_rfl)).symm.trans h0_) (by decide)⟩
             refine steps_cons ?_ ?_
             ·rintro b a w' ⟨v104, v108, v112, v116, v120, v124, ha, Q_HB, Q_HO105, Q_HO109, Q_HO113, Q_HO117, Q_HO121, Q_HO125⟩ hb_ hon hoff
              refine ⟨_, rfl, fun K hK => ?_⟩
              have e58 : a.tmps[58]? = some (.bool (t114.toList != t118.toList)) := by rw [ha]; exact putSel_on (e := (29, 58, .bool (t114.toList != t118.toList))) 19 rfl rfl (hon 29 (by kernel_rfl)) rfl
              try rw [(by assumption : (t114.toList != t118.toList) = true)] at e58
              try rw [(by assumption : (t114.toList != t118.toList) = false)] at e58
              replace ha := Aside0.mk ha
              have HB := Aside0.mk Q_HB
              have HO105 := Aside0.mk (Q_HO105 (hon 6 (by kernel_rfl)))
              have HO109 := Aside0.mk (Q_HO109 (hon 14 (by kernel_rfl)))
              have HO113 := Aside0.mk (Q_HO113 (hon 23 (by kernel_rfl)))
              have HO117 := Aside0.mk (Q_HO117 (hon 26 (by kernel_rfl)))
              refine value_ (w1 := w') (v := .bool (t114.toList != t118.toList)) (by rfl) rfl ?_ ?_
              ·go_simp
               (try simp only [i64_w])
               first | rfl | (simp [bne]; done) | skip
              refine hK.out _ _ ⟨v104, v108, v112, v116, v120, v124, (by rw [ha.out]; exact putSel_upk 20 hb_ rfl rfl rfl), Q_HB, Q_HO105, Q_HO109, Q_HO113, Q_HO117, fun h0_ => absurd ((hoff 37 (by kernel_rfl)).symm.trans h0_) (by decide), fun h0_ => absurd ((hoff 40 (by kernel_rfl)).symm.trans h0_) (by decide)⟩
             refine steps_cons ?_ ?_
             ·rintro b a w' ⟨v104, v108, v112, v116, v120, v124, ha, Q_HB, Q_HO105, Q_HO109, Q_HO113, Q_HO117, Q_HO121, Q_HO125⟩ hb_ hon hoff
              refine ⟨_, rfl, fun K hK => ?_⟩
              have e0 : a.tmps[0]? = some (.string t102) := by rw [ha]; exact (putSel_off rfl).trans rfl
              have e59 : a.tmps[59]? = some (.bool (t114.toList != t118.toList)) := by rw [ha]; exact putSel_on (e := (30, 59, .bool (t114.toList != t118.toList))) 20 rfl rfl (hon 30 (by kernel_rfl)) rfl
              try rw [(by assumption : (t114.toList != t118.toList) = true)] at e59
              try rw [(by assumption : (t114.toList != t118.toList) = false)] at e59
              replace ha := Aside0.mk ha
              have HB := Aside0.mk Q_HB
              have HO105 := Aside0.mk (Q_HO105 (hon 6 (by kernel_rfl)))
              have HO109 := Aside0.mk (Q_HO109 (hon 14 (by kernel_rfl)))
              have HO113 := Aside0.mk (Q_HO113 (hon 23 (by kernel_rfl)))
              have HO117 := Aside0.mk (Q_HO117 (hon 26 (by kernel_rfl)))
              refine value_ (w1 := w') (v := .string t102) (wanted_on rfl rfl rfl (e59.trans (by first | rfl | (simp [*]; done)))) rfl ?_ ?_
              ·go_simp
               (try simp only [i64_w])
               first | rfl | (simp [bne]; done) | skip
              refine hK.out _ _ ⟨v104, v108, v112, v116, v120, v124, (by rw [ha.out]; exact putSel_upk 21 hb_ rfl rfl rfl), Q_HB, Q_HO105, Q_HO109, Q_HO113, Q_HO117, fun h0_ => absurd ((hoff 37 (by kernel_rfl)).symm.trans h0_) (by decide), Q_HO125⟩
             refine steps_cons ?_ ?_
             ·rintro b a w' ⟨v104, v108, v112, v116, v120, v124, ha, Q_HB, Q_HO105, Q_HO109, Q_HO113, Q_HO117, Q_HO121, Q_HO125⟩ hb_ hon hoff
              refine ⟨_, rfl, fun K hK => ?_⟩
              have e1 : a.tmps[1]? = some (.int .i64 ji13) := by rw [ha]; exact (putSel_off rfl).trans rfl
              have e59 : a.tmps[59]? = some (.bool (t114.toList != t118.toList)) := by rw [ha]; exact putSel_on (e := (30, 59, .bool (t114.toList != t118.toList))) 20 rfl rfl (hon 30 (by kernel_rfl)) rfl
              try rw [(by assumption : (t114.toList != t118.toList) = true)] at e59
              try rw [(by assumption : (t114.toList != t118.toList) = false)] at e59
              replace ha := Aside0.mk ha
              have HB := Aside0.mk Q_HB
              have HO105 := Aside0.mk (Q_HO105 (hon 6 (by kernel_rfl)))
              have HO109 := Aside0.mk (Q_HO109 (hon 14 (by kernel_rfl)))
              have HO113 := Aside0.mk (Q_HO113 (hon 23 (by kernel_rfl)))
              have HO117 := Aside0.mk (Q_HO117 (hon 26 (by kernel_rfl)))
              refine value_ (w1 := w') (v := .int .i64 ji13) (wanted_on rfl rfl rfl (e59.trans (by first | rfl | (simp [*]; done)))) rfl ?_ ?_
              ·go_simp
               (try simp only [i64_w])
               first | rfl | (simp [bne]; done) | skip
              refine hK.out _ _ ⟨v104, v108, v112, v116, v120, v124, (by rw [ha.out]; exact putSel_upk 22 hb_ rfl rfl rfl), Q_HB, Q_HO105, Q_HO109, Q_HO113, Q_HO117, fun h0_ => absurd ((hoff 37 (by kernel_rfl)).symm.trans h0_) (by decide), Q_HO125⟩
             refine steps_cons ?_ ?_
             ·rintro b a w' ⟨v104, v108, v112, v116, v120, v124, ha, Q_HB, Q_HO105, Q_HO109, Q_HO113, Q_HO117, Q_HO121, Q_HO125⟩ hb_ hon hoff
              refine ⟨_, rfl, fun K hK => ?_⟩
              have e60 : a.tmps[60]? = some (.string t102) := by rw [ha]; exact putSel_on (e := (31, 60, .string t102)) 21 rfl rfl (hon 31 (by kernel_rfl)) rfl
              have e61 : a.tmps[61]? = some (.int .i64 ji13) := by rw [ha]; exact putSel_on (e := (32, 61, .int .i64 ji13)) 22 rfl rfl (hon 32 (by kernel_rfl)) rfl
              have e59 : a.tmps[59]? = some (.bool (t114.toList != t118.toList)) := by rw [ha]; exact putSel_on (e := (30, 59, .bool (t114.toList != t118.toList))) 20 rfl rfl (hon 30 (by kernel_rfl)) rfl
              try rw [(by assumption : (t114.toList != t118.toList) = true)] at e59
              try rw [(by assumption : (t114.toList != t118.toList) = false)] at e59
              replace ha := Aside0.mk ha
              have HB := Aside0.mk Q_HB
              have HO105 := Aside0.mk (Q_HO105 (hon 6 (by kernel_rfl)))
              have HO109 := Aside0.mk (Q_HO109 (hon 14 (by kernel_rfl)))
              have HO113 := Aside0.mk (Q_HO113 (hon 23 (by kernel_rfl)))
              have HO117 := Aside0.mk (Q_HO117 (hon 26 (by kernel_rfl)))
              refine value_ (w1 := w') (v := .string (t102.extract 0 ((ji13) : Int).toNat)) (wanted_on rfl rfl rfl (e59.trans (by first | rfl | (simp [*]; done)))) rfl ?_ ?_
              ·go_simp
               (try simp only [i64_w])
               first | rfl | (simp [bne]; done) | skip
              refine hK.out _ _ ⟨v104, v108, v112, v116, v120, v124, (by rw [ha.out]; exact putSel_upk 23 hb_ rfl rfl rfl), Q_HB, Q_HO105, Q_HO109, Q_HO113, Q_HO117, fun h0_ => absurd ((hoff 37 (by kernel_rfl)).symm.trans h0_) (by decide), Q_HO125⟩
             refine steps_cons ?_ ?_
             ·rintro b a w' ⟨v104, v108, v112, v116, v120, v124, ha, Q_HB, Q_HO105, Q_HO109, Q_HO113, Q_HO117, Q_HO121, Q_HO125⟩ hb_ hon hoff
              refine ⟨_, rfl, fun K hK => ?_⟩
              have e0 : a.tmps[0]? = some (.string t102) := by rw [ha]; exact (putSel_off rfl).trans rfl
              have e59 : a.tmps[59]? = some (.bool (t114.toList != t118.toList)) := by rw [ha]; exact putSel_on (e := (30, 59, .bool (t114.toList != t118.toList))) 20 rfl rfl (hon 30 (by kernel_rfl)) rfl
              try rw [(by assumption : (t114.toList != t118.toList) = true)] at e59
              try rw [(by assumption : (t114.toList != t118.toList) = false)] at e59
              replace ha := Aside0.mk ha
              have HB := Aside0.mk Q_HB
              have HO105 := Aside0.mk (Q_HO105 (hon 6 (by kernel_rfl)))
              have HO109 := Aside0.mk (Q_HO109 (hon 14 (by kernel_rfl)))
              have HO113 := Aside0.mk (Q_HO113 (hon 23 (by kernel_rfl)))
              have HO117 := Aside0.mk (Q_HO117 (hon 26 (by kernel_rfl)))
              refine value_ (w1 := w') (v := .string t102) (wanted_on rfl rfl rfl (e59.trans (by first | rfl | (simp [*]; done)))) rfl ?_ ?_
              ·go_simp
               (try simp only [i64_w])
               first | rfl | (simp [bne]; done) | skip
              refine hK.out _ _ ⟨v104, v108, v112, v116, v120, v124, (by rw [ha.out]; exact putSel_upk 24 hb_ rfl rfl rfl), Q_HB, Q_HO105, Q_HO109, Q_HO113, Q_HO117, fun h0_ => absurd ((hoff 37 (by kernel_rfl)).symm.trans h0_) (by decide), Q_HO125⟩
             refine steps_cons ?_ ?_
             ·rintro b a w' ⟨v104, v108, v112, v116, v120, v124, ha, Q_HB, Q_HO105, Q_HO109, Q_HO113, Q_HO117, Q_HO121, Q_HO125⟩ hb_ hon hoff
              refine ⟨_, rfl, fun K hK => ?_⟩
              have e1 : a.tmps[1]? = some (.int .i64 ji13) := by rw [ha]; exact (putSel_off rfl).trans rfl
              have e59 : a.tmps[59]? = some (.bool (t114.toList != t118.toList)) := by rw [ha]; exact putSel_on (e := (30, 59, .bool (t114.toList != t118.toList))) 20 rfl rfl (hon 30 (by kernel_rfl)) rfl
              try rw [(by assumption : (t114.toList != t118.toList) = true)] at e59
              try rw [(by assumption : (t114.toList != t118.toList) = false)] at e59
              replace ha := Aside0.mk ha
              have HB := Aside0.mk Q_HB
              have HO105 := Aside0.mk (Q_HO105 (hon 6 (by kernel_rfl)))
              have HO109 := Aside0.mk (Q_HO109 (hon 14 (by kernel_rfl)))
              have HO113 := Aside0.mk (Q_HO113 (hon 23 (by kernel_rfl)))
              have HO117 := Aside0.mk (Q_HO117 (hon 26 (by kernel_rfl)))
              refine value_ (w1 := w') (v := .int .i64 ji13) (wanted_on rfl rfl rfl (e59.trans (by first | rfl | (simp [*]; done)))) rfl ?_ ?_
              ·go_simp
               (try simp only [i64_w])
               first | rfl | (simp [bne]; done) | skip
              refine hK.out _ _ ⟨v104, v108, v112, v116, v120, v124, (by rw [ha.out]; exact putSel_upk 25 hb_ rfl rfl rfl), Q_HB, Q_HO105, Q_HO109, Q_HO113, Q_HO117, fun h0_ => absurd ((hoff 37 (by kernel_rfl)).symm.trans h0_) (by decide), Q_HO125⟩
             refine steps_cons ?_ ?_
             ·rintro b a w' ⟨v104, v108, v112, v116, v120, v124, ha, Q_HB, Q_HO105, Q_HO109, Q_HO113, Q_HO117, Q_HO121, Q_HO125⟩ hb_ hon hoff
              refine ⟨_, rfl, fun K hK => ?_⟩
              have e63 : a.tmps[63]? = some (.string t102) := by rw [ha]; exact putSel_on (e := (34, 63, .string t102)) 24 rfl rfl (hon 34 (by kernel_rfl)) rfl
              have e64 : a.tmps[64]? = some (.int .i64 ji13) := by rw [ha]; exact putSel_on (e := (35, 64, .int .i64 ji13)) 25 rfl rfl (hon 35 (by kernel_rfl)) rfl
              have e59 : a.tmps[59]? = some (.bool (t114.toList != t118.toList)) := by rw [ha]; exact putSel_on (e := (30, 59, .bool (t114.toList != t118.toList))) 20 rfl rfl (hon 30 (by kernel_rfl)) rfl
              try rw [(by assumption : (t114.toList != t118.toList) = true)] at e59
              try rw [(by assumption : (t114.toList != t118.toList) = false)] at e59
              replace ha := Aside0.mk ha
              have HB := Aside0.mk Q_HB
              have HO105 := Aside0.mk (Q_HO105 (hon 6 (by kernel_rfl)))
              have HO109 := Aside0.mk (Q_HO109 (hon 14 (by kernel_rfl)))
              have HO113 := Aside0.mk (Q_HO113 (hon 23 (by kernel_rfl)))
              have HO117 := Aside0.mk (Q_HO117 (hon 26 (by kernel_rfl)))
              refine value_ (w1 := w') (v := .string (t102.extract ((ji13) : Int).toNat t102.size)) (wanted_on rfl rfl rfl (e59.trans (by first | rfl | (simp [*]; done)))) rfl ?_ ?_
              ·go_simp
               (try simp only [i64_w])
               first | rfl | (simp [bne]; done) | skip
              refine hK.out _ _ ⟨v104, v108, v112, v116, v120, v124, (by rw [ha.out]; exact putSel_upk 26 hb_ rfl rfl rfl), Q_HB, Q_HO105, Q_HO109, Q_HO113, Q_HO117, fun h0_ => absurd ((hoff 37 (by kernel_rfl)).symm.trans h0_) (by decide), Q_HO125⟩
             refine steps_cons ?_ ?_
             ·rintro b a w' ⟨v104, v108, v112, v116, v120, v124, ha, Q_HB, Q_HO105, Q_HO109, Q_HO113, Q_HO117, Q_HO121, Q_HO125⟩ hb_ hon hoff
              refine ⟨_, rfl, fun K hK => ?_⟩
              have e62 : a.tmps[62]? = some (.string (t102.extract 0 ((ji13) : Int).toNat)) := by rw [ha]; exact putSel_on (e := (33, 62, .string (t102.extract 0 ((ji13) : Int).toNat))) 23 rfl rfl (hon 33 (by kernel_rfl)) rfl
              have e65 : a.tmps[65]? = some (.string (t102.extract ((ji13) : Int).toNat t102.size)) := by rw [ha]; exact putSel_on (e := (36, 65, .string (t102.extract ((ji13) : Int).toNat t102.size))) 26 rfl rfl (hon 36 (by kernel_rfl)) rfl
              have e59 : a.tmps[59]? = some (.bool (t114.toList != t118.toList)) := by rw [ha]; exact putSel_on (e := (30, 59, .bool (t114.toList != t118.toList))) 20 rfl rfl (hon 30 (by kernel_rfl)) rfl
              try rw [(by assumption : (t114.toList != t118.toList) = true)] at e59
              try rw [(by assumption : (t114.toList != t118.toList) = false)] at e59
              replace ha := Aside0.mk ha
              have HB := Aside0.mk Q_HB
              have HO105 := Aside0.mk (Q_HO105 (hon 6 (by kernel_rfl)))
              have HO109 := Aside0.mk (Q_HO109 (hon 14 (by kernel_rfl)))
              have HO113 := Aside0.mk (Q_HO113 (hon 23 (by kernel_rfl)))
              have HO117 := Aside0.mk (Q_HO117 (hon 26 (by kernel_rfl)))
              refine Kd.R_lit_step Kd.string _ 9 ?hg (N := 66) ?hd (xs := ([t102.extract 0 ((ji13) : Int).toNat, t102.extract ((ji13) : Int).toNat t102.size] : List ByteArray)) (inner := [.string (t102.extract 0 ((ji13) : Int).toNat), .string (t102.extract ((ji13) : Int).toNat t102.size)]) (ok := fun _ => True) (okp := fun _ => True) ?hr ?hp (fun _ hk => hk) trivial (Below.refl _ _) (Nat.le_refl _) (by simp) ?_; (case hd => rfl); (case hg => first | rfl | exact wanted_on rfl rfl rfl e50 | exact wanted_on rfl rfl rfl e59); (case hr => first | (go_simp; done) | (go_simp; rfl)); (case hp => exact (Reps.one (show Kd.M Kd.string _ _ _ (t102.extract 0 ((ji13) : Int).toNat) [.string (t102.extract 0 ((ji13) : Int).toNat)] from rfl) (Reps.one (show Kd.M Kd.string _ _ _ (t102.extract ((ji13) : Int).toNat t102.size) [.string (t102.extract ((ji13) : Int).toNat t102.size)] from rfl) (Reps.none _ _))))
              intro v120 w73 ho74 hb hg_ hnew_
              clear hg_ hnew_
              (first | rw [← Ny119.out] at ho74 | (simp only [Int.reduceToNat] at ho74; rw [← Ny119.out] at ho74))
              have n0_ := Aside0.mk (Kd.R_elder' (by (with_reducible repeat (first | apply Kd.R_alloc | apply Kd.R_drewN | apply Kd.R_drew)); first | exact HO105.out | exact Kd.R_mono HO105.out (fun _ _ => trivial)) (Kd.R_base ho74) hb)
              have n1_ := Aside0.mk (Kd.R_elder' (by (with_reducible repeat (first | apply Kd.R_alloc | apply Kd.R_drewN | apply Kd.R_drew)); first | exact HO109.out | exact Kd.R_mono HO109.out (fun _ _ => trivial)) (Kd.R_base ho74) hb)
              have n2_ := Aside0.mk (Kd.R_elder' (by (with_reducible repeat (first | apply Kd.R_alloc | apply Kd.R_drewN | apply Kd.R_drew)); first | exact HO113.out | exact Kd.R_mono HO113.out (fun _ _ => trivial)) (Kd.R_base ho74) hb)
              have n3_ := Aside0.mk (Kd.R_elder' (by (with_reducible repeat (first | apply Kd.R_alloc | apply Kd.R_drewN | apply Kd.R_drew)); first | exact HO117.out | exact Kd.R_mono HO117.out (fun _ _ => trivial)) (Kd.R_base ho74) hb)
              have n4_ := Aside0.mk (Kd.R_lower (Kd.R_new' (Kd.R_new' (Kd.R_new' (Kd.R_new' ho74 (Kd.R_lt (by (with_reducible repeat (first | apply Kd.R_alloc | apply Kd.R_drewN | apply Kd.R_drew)); first | exact HO105.out | exact Kd.R_mono HO105.out (fun _ _ => trivial)))) (Kd.R_lt (by (with_reducible repeat (first | apply Kd.R_alloc | apply Kd.R_drewN | apply Kd.R_drew)); first | exact HO109.out | exact Kd.R_mono HO109.out (fun _ _ => trivial)))) (Kd.R_lt (by (with_reducible repeat (first | apply Kd.R_alloc | apply Kd.R_drewN | apply Kd.R_drew)); first | exact HO113.out | exact Kd.R_mono HO113.out (fun _ _ => trivial)))) (Kd.R_lt (by (with_reducible repeat (first | apply Kd.R_alloc | apply Kd.R_drewN | apply Kd.R_drew)); first | exact HO117.out | exact Kd.R_mono HO117.out (fun _ _ => trivial)))) (below_size (by repeat (first | (with_reducible first | exact HB.out | apply below_alloc | apply pw_below_drewN | apply below_drew1) | exact HB.out))))
              have n5_ := Aside0.mk (below_step (by repeat (first | (with_reducible first | exact HB.out | apply below_alloc | apply pw_below_drewN | apply below_drew1) | exact HB.out)) hb)
              have z_HO125 := fun (h0_ : b 40 = true) => (show Kd.R Kd.string 9 w73 w.heap.size (fun _ => True) v124 y123 from by first | exact (Kd.R_elder' (by (with_reducible repeat (first | apply Kd.R_alloc | apply Kd.R_drewN | apply Kd.R_drew)); exact (Q_HO125 h0_)) (Kd.R_base ho74) hb) | exact Kd.R_mono (Kd.R_elder' (by (with_reducible repeat (first | apply Kd.R_alloc | apply Kd.R_drewN | apply Kd.R_drew)); exact (Q_HO125 h0_)) (Kd.R_base ho74) hb) (fun _ h_ => by first | trivial | exact h_ | exact h_.1))
              clear HO105
              clear HO109
              clear HO113
              clear HO117
              clear HB
              have HO105 := n0_
              have HO109 := n1_
              have HO113 := n2_
              have HO117 := n3_
              have HO121 := n4_
              have HB := n5_
              clear n0_ n1_ n2_ n3_ n4_ n5_
              clear hb ho74
              refine hK.out _ _ ⟨v104, v108, v112, v116, v120, v124, (by rw [ha.out]; exact putSel_upk 27 hb_ rfl rfl rfl), (by repeat (first | (with_reducible first | exact HB.out | apply below_alloc | apply pw_below_drewN | apply below_drew1) | exact HB.out)), fun _ => (by (with_reducible repeat (first | apply Kd.R_alloc | apply Kd.R_drewN | apply Kd.R_drew)); exact Kd.R_mono HO105.out (fun _ hk => by first | trivial | exact ⟨hk.1.1, ⟨hk.1.2.1, ⟨hk.1.2.2, hk.2⟩⟩⟩)), fun _ => (by (with_reducible repeat (first | apply Kd.R_alloc | apply Kd.R_drewN | apply Kd.R_drew)); exact Kd.R_mono HO109.out (fun _ hk => by first | trivial | exact ⟨hk.1.1, ⟨hk.1.2.1, ⟨hk.1.2.2, hk.2⟩⟩⟩)), fun _ => (by (with_reducible repeat (first | apply Kd.R_alloc | apply Kd.R_drewN | apply Kd.R_drew)); exact Kd.R_mono HO113.out (fun _ hk => by first | trivial | exact ⟨hk.1.1, ⟨hk.1.2.1, ⟨hk.1.2.2, hk.2⟩⟩⟩)), fun _ => (by (with_reducible repeat (first | apply Kd.R_alloc | apply Kd.R_drewN | apply Kd.R_drew)); exact Kd.R_mono HO117.out (fun _ hk => by first | trivial | exact ⟨hk.1.1, ⟨hk.1.2.1, ⟨hk.1.2.2, hk.2⟩⟩⟩)), fun _ => (by (with_reducible repeat (first | apply Kd.R_alloc | apply Kd.R_drewN | apply Kd.R_drew)); exact Kd.R_mono HO121.out (fun _ hk => by first | trivial | exact ⟨hk.1.1.1.2, ⟨hk.1.1.2, ⟨hk.1.2, hk.2⟩⟩⟩)), z_HO125⟩
             refine steps_cons ?_ ?_
             ·rintro b a w' ⟨v104, v108, v112, v116, v120, v124, ha, Q_HB, Q_HO105, Q_HO109, Q_HO113, Q_HO117, Q_HO121, Q_HO125⟩ hb_ hon hoff
              refine ⟨_, rfl, fun K hK => ?_⟩
              have e66 : a.tmps[66]? = some (v120) := by rw [ha]; exact putSel_on (e := (37, 66, v120)) 27 rfl rfl (hon 37 (by kernel_rfl)) rfl
              have e59 : a.tmps[59]? = some (.bool (t114.toList != t118.toList)) := by rw [ha]; exact putSel_on (e := (30, 59, .bool (t114.toList != t118.toList))) 20 rfl rfl (hon 30 (by kernel_rfl)) rfl
              try rw [(by assumption : (t114.toList != t118.toList) = true)] at e59
              try rw [(by assumption : (t114.toList != t118.toList) = false)] at e59
              replace ha := Aside0.mk ha
              have HB := Aside0.mk Q_HB
              have HO105 := Aside0.mk (Q_HO105 (hon 6 (by kernel_rfl)))
              have HO109 := Aside0.mk (Q_HO109 (hon 14 (by kernel_rfl)))
              have HO113 := Aside0.mk (Q_HO113 (hon 23 (by kernel_rfl)))
              have HO117 := Aside0.mk (Q_HO117 (hon 26 (by kernel_rfl)))
              have HO121 := Aside0.mk (Q_HO121 (hon 37 (by kernel_rfl)))
              obtain ⟨Ao75, co75, eo75⟩ := Kd.R_slice HO121.out
              (first | subst eo75 | (injection eo75 with f1_ f2_ f3_; have f4_ := f1_.symm; have f5_ := f3_.symm; clear f1_ f2_ f3_; subst f4_; subst f5_))
              refine goes_ Tryz.func32 (by kernel_rfl) rfl #[.slice Ao75 y119.length co75] (by first | rfl | exact wanted_on rfl rfl rfl e50 | exact wanted_on rfl rfl rfl e59) rfl rfl (by simp only [List.map_toArray, List.map_cons, List.map_nil, Act.eval, Array.getD_eq_getD_getElem?, Option.getD_some, e66, e59] <;> rfl) ?_
              with_reducible refine (mint_Put.calls _ _ y119 t122 _ ?side99 ?side1 ?side2 A52.out).mono ?_
              (case side99 => exact GOK.below HG.out (by repeat (first | (with_reducible first | exact HB.out | apply below_alloc | apply pw_below_drewN | apply below_drew1) | exact HB.out)))
              (case side1 => repeat (first | exact (Kd.R_reads' HO121.out).2.2 | (with_reducible refine Kd.C_alloc ?_ _) | (with_reducible refine Kd.C_drewN ?_ _) | (with_reducible refine Kd.C_drew ?_)))
              (case side2 => exact (Kd.R_reads' HO121.out).2.1)
              rintro e w76 ⟨rfl, hb⟩
              refine ⟨_, rfl, ?_⟩
              have n0_ := Aside0.mk (Kd.R_below (by (with_reducible repeat (first | apply Kd.R_alloc | apply Kd.R_drewN | apply Kd.R_drew)); first | exact HO105.out | exact Kd.R_mono HO105.out (fun _ _ => trivial)) hb)
              have n1_ := Aside0.mk (Kd.R_below (by (with_reducible repeat (first | apply Kd.R_alloc | apply Kd.R_drewN | apply Kd.R_drew)); first | exact HO109.out | exact Kd.R_mono HO109.out (fun _ _ => trivial)) hb)
              have n2_ := Aside0.mk (Kd.R_below (by (with_reducible repeat (first | apply Kd.R_alloc | apply Kd.R_drewN | apply Kd.R_drew)); first | exact HO113.out | exact Kd.R_mono HO113.out (fun _ _ => trivial)) hb)
              have n3_ := Aside0.mk (Kd.R_below (by (with_reducible repeat (first | apply Kd.R_alloc | apply Kd.R_drewN | apply Kd.R_drew)); first | exact HO117.out | exact Kd.R_mono HO117.out (fun _ _ => trivial)) hb)
              have n4_ := Aside0.mk (Kd.R_below (by (with_reducible repeat (first | apply Kd.R_alloc | apply Kd.R_drewN | apply Kd.R_drew)); first | exact HO121.out | exact Kd.R_mono HO121.out (fun _ _ => trivial)) hb)
              have n5_ := Aside0.mk (below_step (by repeat (first | (with_reducible first | exact HB.out | apply below_alloc | apply pw_below_drewN | apply below_drew1) | exact HB.out)) hb)
              have z_HO125 := fun (h0_ : b 40 = true) => (show Kd.R Kd.string 9 w76 w.heap.size (fun _ => True) v124 y123 from by first | exact (Kd.R_below (by (with_reducible repeat (first | apply Kd.R_alloc | apply Kd.R_drewN | apply Kd.R_drew)); exact (Q_HO125 h0_)) hb) | exact Kd.R_mono (Kd.R_below (by (with_reducible repeat (first | apply Kd.R_alloc | apply Kd.R_drewN | apply Kd.R_drew)); exact (Q_HO125 h0_)) hb) (fun _ h_ => by first | trivial | exact h_ | exact h_.1))
              clear HO105
              clear HO109
              clear HO113
              clear HO117
              clear HO121
              clear HB
              have HO105 := n0_
              have HO109 := n1_
              have HO113 := n2_
              have HO117 := n3_
              have HO121 := n4_
              have HB := n5_
              clear n0_ n1_ n2_ n3_ n4_ n5_
              (try clear hb)
              (try clear hb2)
              (try clear hk)
              (try clear hi)
              refine hK.out _ _ ⟨v104, v108, v112, v116, .slice Ao75 y119.length co75, v124, (by rw [ha.out]; exact putSel_upk 28 hb_ rfl rfl rfl), (by repeat (first | (with_reducible first | exact HB.out | apply below_alloc | apply pw_below_drewN | apply below_drew1) | exact HB.out)), fun _ => (by (with_reducible repeat (first | apply Kd.R_alloc | apply Kd.R_drewN | apply Kd.R_drew)); first | exact HO105.out | exact Kd.R_mono HO105.out (fun _ _ => trivial)), fun _ => (by (with_reducible repeat (first | apply Kd.R_alloc | apply Kd.R_drewN | apply Kd.R_drew)); first | exact HO109.out | exact Kd.R_mono HO109.out (fun _ _ => trivial)), fun _ => (by (with_reducible repeat (first | apply Kd.R_alloc | apply Kd.R_drewN | apply Kd.R_drew)); first | exact HO113.out | exact Kd.R_mono HO113.out (fun _ _ => trivial)), fun _ => (by (with_reducible repeat (first | apply Kd.R_alloc | apply Kd.R_drewN | apply Kd.R_drew)); first | exact HO117.out | exact Kd.R_mono HO117.out (fun _ _ => trivial)), fun _ => (by (with_reducible repeat (first | apply Kd.R_alloc | apply Kd.R_drewN | apply Kd.R_drew)); first | exact HO121.out | exact Kd.R_mono HO121.out (fun _ _ => trivial)), z_HO125⟩
             refine steps_cons ?_ ?_
             ·rintro b a w' ⟨v104, v108, v112, v116, v120, v124, ha, Q_HB, Q_HO105, Q_HO109, Q_HO113, Q_HO117, Q_HO121, Q_HO125⟩ hb_ hon hoff
              refine ⟨_, rfl, fun K hK => ?_⟩
              have e0 : a.tmps[0]? = some (.string t102) := by rw [ha]; exact (putSel_off rfl).trans rfl
              have e59 : a.tmps[59]? = some (.bool (t114.toList != t118.toList)) := by rw [ha]; exact putSel_on (e := (30, 59, .bool (t114.toList != t118.toList))) 20 rfl rfl (hon 30 (by kernel_rfl)) rfl
              try rw [(by assumption : (t114.toList != t118.toList) = true)] at e59
              try rw [(by assumption : (t114.toList != t118.toList) = false)] at e59
              replace ha := Aside0.mk ha
              have HB := Aside0.mk Q_HB
              have HO105 := Aside0.mk (Q_HO105 (hon 6 (by kernel_rfl)))
              have HO109 := Aside0.mk (Q_HO109 (hon 14 (by kernel_rfl)))
              have HO113 := Aside0.mk (Q_HO113 (hon 23 (by kernel_rfl)))
              have HO117 := Aside0.mk (Q_HO117 (hon 26 (by kernel_rfl)))
              refine value_ (w1 := w') (v := .string t102) (wanted_on rfl rfl rfl (e59.trans (by first | rfl | (simp [*]; done)))) rfl ?_ ?_
              ·go_simp
               (try simp only [i64_w])
               first | rfl | (simp [bne]; done) | skip
              refine hK.out _ _ ⟨v104, v108, v112, v116, v120, v124, (by rw [ha.out]; exact putSel_upk 29 hb_ rfl rfl rfl), Q_HB, Q_HO105, Q_HO109, Q_HO113, Q_HO117, Q_HO121, fun h0_ => absurd ((hoff 40 (by kernel_rfl)).symm.trans h0_) (by decide)⟩
             refine steps_cons ?_ ?_
             ·rintro b a w' ⟨v104, v108, v112, v116, v120, v124, ha, Q_HB, Q_HO105, Q_HO109, Q_HO113, Q_HO117, Q_HO121, Q_HO125⟩ hb_ hon hoff
              refine ⟨_, rfl, fun K hK => ?_⟩
              have e68 : a.tmps[68]? = some (.string t102) := by rw [ha]; exact putSel_on (e := (39, 68, .string t102)) 29 rfl rfl (hon 39 (by kernel_rfl)) rfl
              have e59 : a.tmps[59]? = some (.bool (t114.toList != t118.toList)) := by rw [ha]; exact putSel_on (e := (30, 59, .bool (t114.toList != t118.toList))) 20 rfl rfl (hon 30 (by kernel_rfl)) rfl
              try rw [(by assumption : (t114.toList != t118.toList) = true)] at e59
              try rw [(by assumption : (t114.toList != t118.toList) = false)] at e59
              replace ha := Aside0.mk ha
              have HB := Aside0.mk Q_HB
              have HO105 := Aside0.mk (Q_HO105 (hon 6 (by kernel_rfl)))
              have HO109 := Aside0.mk (Q_HO109 (hon 14 (by kernel_rfl)))
              have HO113 := Aside0.mk (Q_HO113 (hon 23 (by kernel_rfl)))
              have HO117 := Aside0.mk (Q_HO117 (hon 26 (by kernel_rfl)))
              refine Kd.R_lit_step Kd.string _ 9 ?hg (N := 69) ?hd (xs := ([t102] : List ByteArray)) (inner := [.string t102]) (ok := fun _ => True) (okp := fun _ => True) ?hr ?hp (fun _ hk => hk) trivial (Below.refl _ _) (Nat.le_refl _) (by simp) ?_; (case hd => rfl); (case hg => first | rfl | exact wanted_on rfl rfl rfl e50 | exact wanted_on rfl rfl rfl e59); (case hr => first | (go_simp; done) | (go_simp; rfl)); (case hp => exact (Reps.one (show Kd.M Kd.string _ _ _ t102 [.string t102] from rfl) (Reps.none _ _)))
              intro v124 w73 ho74 hb hg_ hnew_
              clear hg_ hnew_
              (first | rw [← Ny123.out] at ho74 | (simp only [Int.reduceToNat] at ho74; rw [← Ny123.out] at ho74))
              have n0_ := Aside0.mk (Kd.R_elder' (by (with_reducible repeat (first | apply Kd.R_alloc | apply Kd.R_drewN | apply Kd.R_drew)); first | exact HO105.out | exact Kd.R_mono HO105.out (fun _ _ => trivial)) (Kd.R_base ho74) hb)
              have n1_ := Aside0.mk (Kd.R_elder' (by (with_reducible repeat (first | apply Kd.R_alloc | apply Kd.R_drewN | apply Kd.R_drew)); first | exact HO109.out | exact Kd.R_mono HO109.out (fun _ _ => trivial)) (Kd.R_base ho74) hb)
              have n2_ := Aside0.mk (Kd.R_elder' (by (with_reducible repeat (first | apply Kd.R_alloc | apply Kd.R_drewN | apply Kd.R_drew)); first | exact HO113.out | exact Kd.R_mono HO113.out (fun _ _ => trivial)) (Kd.R_base ho74) hb)
              have n3_ := Aside0.mk (Kd.R_elder' (by (with_reducible repeat (first | apply Kd.R_alloc | apply Kd.R_drewN | apply Kd.R_drew)); first | exact HO117.out | exact Kd.R_mono HO117.out (fun _ _ => trivial)) (Kd.R_base ho74) hb)
              have n4_ := Aside0.mk (Kd.R_lower (Kd.R_new' (Kd.R_new' (Kd.R_new' (Kd.R_new' ho74 (Kd.R_lt (by (with_reducible repeat (first | apply Kd.R_alloc | apply Kd.R_drewN | apply Kd.R_drew)); first | exact HO105.out | exact Kd.R_mono HO105.out (fun _ _ => trivial)))) (Kd.R_lt (by (with_reducible repeat (first | apply Kd.R_alloc | apply Kd.R_drewN | apply Kd.R_drew)); first | exact HO109.out | exact Kd.R_mono HO109.out (fun _ _ => trivial)))) (Kd.R_lt (by (with_reducible repeat (first | apply Kd.R_alloc | apply Kd.R_drewN | apply Kd.R_drew)); first | exact HO113.out | exact Kd.R_mono HO113.out (fun _ _ => trivial)))) (Kd.R_lt (by (with_reducible repeat (first | apply Kd.R_alloc | apply Kd.R_drewN | apply Kd.R_drew)); first | exact HO117.out | exact Kd.R_mono HO117.out (fun _ _ => trivial)))) (below_size (by repeat (first | (with_reducible first | exact HB.out | apply below_alloc | apply pw_below_drewN | apply below_drew1) | exact HB.out))))
              have n5_ := Aside0.mk (below_step (by repeat (first | (with_reducible first | exact HB.out | apply below_alloc | apply pw_below_drewN | apply below_drew1) | exact HB.out)) hb)
              have z_HO121 := fun (h0_ : b 37 = true) => (show Kd.R Kd.string 9 w73 w.heap.size (fun _ => True) v120 y119 from by first | exact (Kd.R_elder' (by (with_reducible repeat (first | apply Kd.R_alloc | apply Kd.R_drewN | apply Kd.R_drew)); exact (Q_HO121 h0_)) (Kd.R_base ho74) hb) | exact Kd.R_mono (Kd.R_elder' (by (with_reducible repeat (first | apply Kd.R_alloc | apply Kd.R_drewN | apply Kd.R_drew)); exact (Q_HO121 h0_)) (Kd.R_base ho74) hb) (fun _ h_ => by first | trivial | exact h_ | exact h_.1))
              clear HO105
              clear HO109
              clear HO113
              clear HO117
              clear HB
              have HO105 := n0_
              have HO109 := n1_
              have HO113 := n2_
              have HO117 := n3_
              have HO125 := n4_
              have HB := n5_
              clear n0_ n1_ n2_ n3_ n4_ n5_
              clear hb ho74
              refine hK.out _ _ ⟨v104, v108, v112, v116, v120, v124, (by rw [ha.out]; exact putSel_upk 30 hb_ rfl rfl rfl), (by repeat (first | (with_reducible first | exact HB.out | apply below_alloc | apply pw_below_drewN | apply below_drew1) | exact HB.out)), fun _ => (by (with_reducible repeat (first | apply Kd.R_alloc | apply Kd.R_drewN | apply Kd.R_drew)); exact Kd.R_mono HO105.out (fun _ hk => by first | trivial | exact ⟨hk.1.1, ⟨hk.1.2.1, ⟨hk.1.2.2, hk.2⟩⟩⟩)), fun _ => (by (with_reducible repeat (first | apply Kd.R_alloc | apply Kd.R_drewN | apply Kd.R_drew)); exact Kd.R_mono HO109.out (fun _ hk => by first | trivial | exact ⟨hk.1.1, ⟨hk.1.2.1, ⟨hk.1.2.2, hk.2⟩⟩⟩)), fun _ => (by (with_reducible repeat (first | apply Kd.R_alloc | apply Kd.R_drewN | apply Kd.R_drew)); exact Kd.R_mono HO113.out (fun _ hk => by first | trivial | exact ⟨hk.1.1, ⟨hk.1.2.1, ⟨hk.1.2.2, hk.2⟩⟩⟩)), fun _ => (by (with_reducible repeat (first | apply Kd.R_alloc | apply Kd.R_drewN | apply Kd.R_drew)); exact Kd.R_mono HO117.out (fun _ hk => by first | trivial | exact ⟨hk.1.1, ⟨hk.1.2.1, ⟨hk.1.2.2, hk.2⟩⟩⟩)), z_HO121, fun _ => (by (with_reducible repeat (first | apply Kd.R_alloc | apply Kd.R_drewN | apply Kd.R_drew)); exact Kd.R_mono HO125.out (fun _ hk => by first | trivial | exact ⟨hk.1.1.1.2, ⟨hk.1.1.2, ⟨hk.1.2, hk.2⟩⟩⟩))⟩
             refine steps_cons ?_ ?_
             ·rintro b a w' ⟨v104, v108, v112, v116, v120, v124, ha, Q_HB, Q_HO105, Q_HO109, Q_HO113, Q_HO117, Q_HO121, Q_HO125⟩ hb_ hon hoff
              refine ⟨_, rfl, fun K hK => ?_⟩
              have e69 : a.tmps[69]? = some (v124) := by rw [ha]; exact putSel_on (e := (40, 69, v124)) 30 rfl rfl (hon 40 (by kernel_rfl)) rfl
              have e59 : a.tmps[59]? = some (.bool (t114.toList != t118.toList)) := by rw [ha]; exact putSel_on (e := (30, 59, .bool (t114.toList != t118.toList))) 20 rfl rfl (hon 30 (by kernel_rfl)) rfl
              try rw [(by assumption : (t114.toList != t118.toList) = true)] at e59
              try rw [(by assumption : (t114.toList != t118.toList) = false)] at e59
              replace ha := Aside0.mk ha
              have HB := Aside0.mk Q_HB
              have HO105 := Aside0.mk (Q_HO105 (hon 6 (by kernel_rfl)))
              have HO109 := Aside0.mk (Q_HO109 (hon 14 (by kernel_rfl)))
              have HO113 := Aside0.mk (Q_HO113 (hon 23 (by kernel_rfl)))
              have HO117 := Aside0.mk (Q_HO117 (hon 26 (by kernel_rfl)))
              have HO121 := Aside0.mk (Q_HO121 (hon 37 (by kernel_rfl)))
              have HO125 := Aside0.mk (Q_HO125 (hon 40 (by kernel_rfl)))
              obtain ⟨Ao79, co79, eo79⟩ := Kd.R_slice HO125.out
              (first | subst eo79 | (injection eo79 with f1_ f2_ f3_; have f4_ := f1_.symm; have f5_ := f3_.symm; clear f1_ f2_ f3_; subst f4_; subst f5_))
              refine goes_ Tryz.func32 (by kernel_rfl) rfl #[.slice Ao79 y123.length co79] (by first | rfl | exact wanted_on rfl rfl rfl e50 | exact wanted_on rfl rfl rfl e59) rfl rfl (by simp only [List.map_toArray, List.map_cons, List.map_nil, Act.eval, Array.getD_eq_getD_getElem?, Option.getD_some, e69, e59] <;> rfl) ?_
              with_reducible refine (mint_Put.calls _ _ y123 t126 _ ?side99 ?side1 ?side2 A53.out).mono ?_
              (case side99 => exact GOK.below HG.out (by repeat (first | (with_reducible first | exact HB.out | apply below_alloc | apply pw_below_drewN | apply below_drew1) | exact HB.out)))
              (case side1 => repeat (first | exact (Kd.R_reads' HO125.out).2.2 | (with_reducible refine Kd.C_alloc ?_ _) | (with_reducible refine Kd.C_drewN ?_ _) | (with_reducible refine Kd.C_drew ?_)))
              (case side2 => exact (Kd.R_reads' HO125.out).2.1)
              rintro e w80 ⟨rfl, hb⟩
              refine ⟨_, rfl, ?_⟩
              have n0_ := Aside0.mk (Kd.R_below (by (with_reducible repeat (first | apply Kd.R_alloc | apply Kd.R_drewN | apply Kd.R_drew)); first | exact HO105.out | exact Kd.R_mono HO105.out (fun _ _ => trivial)) hb)
              have n1_ := Aside0.mk (Kd.R_below (by (with_reducible repeat (first | apply Kd.R_alloc | apply Kd.R_drewN | apply Kd.R_drew)); first | exact HO109.out | exact Kd.R_mono HO109.out (fun _ _ => trivial)) hb)
              have n2_ := Aside0.mk (Kd.R_below (by (with_reducible repeat (first | apply Kd.R_alloc | apply Kd.R_drewN | apply Kd.R_drew)); first | exact HO113.out | exact Kd.R_mono HO113.out (fun _ _ => trivial)) hb)
              have n3_ := Aside0.mk (Kd.R_below (by (with_reducible repeat (first | apply Kd.R_alloc | apply Kd.R_drewN | apply Kd.R_drew)); first | exact HO117.out | exact Kd.R_mono HO117.out (fun _ _ => trivial)) hb)
              have n4_ := Aside0.mk (Kd.R_below (by (with_reducible repeat (first | apply Kd.R_alloc | apply Kd.R_drewN | apply Kd.R_drew)); first | exact HO121.out | exact Kd.R_mono HO121.out (fun _ _ => trivial)) hb)
              have n5_ := Aside0.mk (Kd.R_below (by (with_reducible repeat (first | apply Kd.R_alloc | apply Kd.R_drewN | apply Kd.R_drew)); first | exact HO125.out | exact Kd.R_mono HO125.out (fun _ _ => trivial)) hb)
              have n6_ := Aside0.mk (below_step (by repeat (first | (with_reducible first | exact HB.out | apply below_alloc | apply pw_below_drewN | apply below_drew1) | exact HB.out)) hb)
              clear HO105
              clear HO109
              clear HO113
              clear HO117
              clear HO121
              clear HO125
              clear HB
              have HO105 := n0_
              have HO109 := n1_
              have HO113 := n2_
              have HO117 := n3_
              have HO121 := n4_
              have HO125 := n5_
              have HB := n6_
              clear n0_ n1_ n2_ n3_ n4_ n5_ n6_
              (try clear hb)
              (try clear hb2)
              (try clear hk)
              (try clear hi)
              refine hK.out _ _ ⟨v104, v108, v112, v116, v120, .slice Ao79 y123.length co79, (by rw [ha.out]; exact putSel_upk 31 hb_ rfl rfl rfl), (by repeat (first | (with_reducible first | exact HB.out | apply below_alloc | apply pw_below_drewN | apply below_drew1) | exact HB.out)), fun _ => (by (with_reducible repeat (first | apply Kd.R_alloc | apply Kd.R_drewN | apply Kd.R_drew)); first | exact HO105.out | exact Kd.R_mono HO105.out (fun _ _ => trivial)), fun _ => (by (with_reducible repeat (first | apply Kd.R_alloc | apply Kd.R_drewN | apply Kd.R_drew)); first | exact HO109.out | exact Kd.R_mono HO109.out (fun _ _ => trivial)), fun _ => (by (with_reducible repeat (first | apply Kd.R_alloc | apply Kd.R_drewN | apply Kd.R_drew)); first | exact HO113.out | exact Kd.R_mono HO113.out (fun _ _ => trivial)), fun _ => (by (with_reducible repeat (first | apply Kd.R_alloc | apply Kd.R_drewN | apply Kd.R_drew)); first | exact HO117.out | exact Kd.R_mono HO117.out (fun _ _ => trivial)), fun _ => (by (with_reducible repeat (first | apply Kd.R_alloc | apply Kd.R_drewN | apply Kd.R_drew)); first | exact HO121.out | exact Kd.R_mono HO121.out (fun _ _ => trivial)), fun _ => (by (with_reducible repeat (first | apply Kd.R_alloc | apply Kd.R_drewN | apply Kd.R_drew)); first | exact HO125.out | exact Kd.R_mono HO125.out (fun _ _ => trivial))⟩
             refine steps_cons ?_ ?_
             ·rintro b a w' ⟨v104, v108, v112, v116, v120, v124, ha, Q_HB, Q_HO105, Q_HO109, Q_HO113, Q_HO117, Q_HO121, Q_HO125⟩ hb_ hon hoff
              refine ⟨_, rfl, fun K hK => ?_⟩
              have e67 : a.tmps[67]? = some (.string t122) := by rw [ha]; exact putSel_on (e := (38, 67, .string t122)) 28 rfl rfl (hon 38 (by kernel_rfl)) rfl
              have e70 : a.tmps[70]? = some (.string t126) := by rw [ha]; exact putSel_on (e := (41, 70, .string t126)) 31 rfl rfl (hon 41 (by kernel_rfl)) rfl
              have e59 : a.tmps[59]? = some (.bool (t114.toList != t118.toList)) := by rw [ha]; exact putSel_on (e := (30, 59, .bool (t114.toList != t118.toList))) 20 rfl rfl (hon 30 (by kernel_rfl)) rfl
              try rw [(by assumption : (t114.toList != t118.toList) = true)] at e59
              try rw [(by assumption : (t114.toList != t118.toList) = false)] at e59
              replace ha := Aside0.mk ha
              have HB := Aside0.mk Q_HB
              have HO105 := Aside0.mk (Q_HO105 (hon 6 (by kernel_rfl)))
              have HO109 := Aside0.mk (Q_HO109 (hon 14 (by kernel_rfl)))
              have HO113 := Aside0.mk (Q_HO113 (hon 23 (by kernel_rfl)))
              have HO117 := Aside0.mk (Q_HO117 (hon 26 (by kernel_rfl)))
              have HO121 := Aside0.mk (Q_HO121 (hon 37 (by kernel_rfl)))
              have HO125 := Aside0.mk (Q_HO125 (hon 40 (by kernel_rfl)))
              refine value_ (w1 := w') (v := .bool (t122.toList != t126.toList)) (wanted_on rfl rfl rfl (e59.trans (by first | rfl | (simp [*]; done)))) rfl ?_ ?_
              ·go_simp
               (try simp only [i64_w])
               first | rfl | (simp [bne]; done) | skip
              refine hK.out _ _ ⟨v104, v108, v112, v116, v120, v124, (by rw [ha.out]; exact putSel_upk 32 hb_ rfl rfl rfl), Q_HB, Q_HO105, Q_HO109, Q_HO113, Q_HO117, Q_HO121, Q_HO125⟩
             refine steps_cons ?_ ?_
             ·rintro b a w' ⟨v104, v108, v112, v116, v120, v124, ha, Q_HB, Q_HO105, Q_HO109, Q_HO113, Q_HO117, Q_HO121, Q_HO125⟩ hb_ hon hoff
              refine ⟨_, rfl, fun K hK => ?_⟩
              have e59 : a.tmps[59]? = some (.bool (t114.toList != t118.toList)) := by rw [ha]; exact putSel_on (e := (30, 59, .bool (t114.toList != t118.toList))) 20 rfl rfl (hon 30 (by kernel_rfl)) rfl
              try rw [(by assumption : (t114.toList != t118.toList) = true)] at e59
              try rw [(by assumption : (t114.toList != t118.toList) = false)] at e59
              have e71 : a.tmps[71]? = some (.bool (t122.toList != t126.toList)) := by rw [ha]; exact putSel_on (e := (42, 71, .bool (t122.toList != t126.toList))) 32 rfl rfl (hon 42 (by kernel_rfl)) rfl
              try rw [(by assumption : (t122.toList != t126.toList) = true)] at e71
              try rw [(by assumption : (t122.toList != t126.toList) = false)] at e71
              replace ha := Aside0.mk ha
              have HB := Aside0.mk Q_HB
              have HO105 := Aside0.mk (Q_HO105 (hon 6 (by kernel_rfl)))
              have HO109 := Aside0.mk (Q_HO109 (hon 14 (by kernel_rfl)))
              have HO113 := Aside0.mk (Q_HO113 (hon 23 (by kernel_rfl)))
              have HO117 := Aside0.mk (Q_HO117 (hon 26 (by kernel_rfl)))
              have HO121 := Aside0.mk (Q_HO121 (hon 37 (by kernel_rfl)))
              have HO125 := Aside0.mk (Q_HO125 (hon 40 (by kernel_rfl)))
              refine value_ (w1 := w') (v := .bool (t122.toList != t126.toList)) (by rfl) rfl ?_ ?_
              ·go_simp
               (try simp only [i64_w])
               first | rfl | (simp [bne]; done) | skip
              refine hK.out _ _ ⟨v104, v108, v112, v116, v120, v124, (by rw [ha.out]; exact putSel_upk 33 hb_ rfl rfl rfl), Q_HB, Q_HO105, Q_HO109, Q_HO113, Q_HO117, Q_HO121, Q_HO125⟩
             refine steps_cons ?_ ?_
             ·rintro b a w' ⟨v104, v108, v112, v116, v120, v124, ha, Q_HB, Q_HO105, Q_HO109, Q_HO113, Q_HO117, Q_HO121, Q_HO125⟩ hb_ hon hoff
              refine ⟨_, rfl, fun K hK => ?_⟩
              have e72 : a.tmps[72]? = some (.bool (t122.toList != t126.toList)) := by rw [ha]; exact putSel_on (e := (43, 72, .bool (t122.toList != t126.toList))) 33 rfl rfl (hon 43 (by kernel_rfl)) rfl
              try rw [(by assumption : (t122.toList != t126.toList) = true)] at e72
              try rw [(by assumption : (t122.toList != t126.toList) = false)] at e72
              replace ha := Aside0.mk ha
              have HB := Aside0.mk Q_HB
              have HO105 := Aside0.mk (Q_HO105 (hon 6 (by kernel_rfl)))
              have HO109 := Aside0.mk (Q_HO109 (hon 14 (by kernel_rfl)))
              have HO113 := Aside0.mk (Q_HO113 (hon 23 (by kernel_rfl)))
              have HO117 := Aside0.mk (Q_HO117 (hon 26 (by kernel_rfl)))
              have HO121 := Aside0.mk (Q_HO121 (hon 37 (by kernel_rfl)))
              have HO125 := Aside0.mk (Q_HO125 (hon 40 (by kernel_rfl)))
              refine value_ (w1 := w') (v := .bool (t122.toList != t126.toList)) (by rfl) rfl ?_ ?_
              ·go_simp
               (try simp only [i64_w])
               first | rfl | (simp [bne]; done) | skip
              refine hK.out _ _ ⟨v104, v108, v112, v116, v120, v124, (by rw [ha.out]; exact putSel_upk 34 hb_ rfl rfl rfl), Q_HB, Q_HO105, Q_HO109, Q_HO113, Q_HO117, Q_HO121, Q_HO125⟩
             exact steps_nil
            rintro b a w80 hall ⟨v104, v108, v112, v116, v120, v124, ha, Q_HB, Q_HO105, Q_HO109, Q_HO113, Q_HO117, Q_HO121, Q_HO125⟩
            clear HB
            have hb2_ := hall 2 (by kernel_rfl)
            have hb5_ := hall 5 (by kernel_rfl)
            have hb6_ := hall 6 (by kernel_rfl)
            have hb7_ := hall 7 (by kernel_rfl)
            have hb10_ := hall 10 (by kernel_rfl)
            have hb13_ := hall 13 (by kernel_rfl)
            have hb14_ := hall 14 (by kernel_rfl)
            have hb15_ := hall 15 (by kernel_rfl)
            have hb16_ := hall 16 (by kernel_rfl)
            have hb19_ := hall 19 (by kernel_rfl)
            have hb20_ := hall 20 (by kernel_rfl)
            have hb21_ := hall 21 (by kernel_rfl)
            have hb22_ := hall 22 (by kernel_rfl)
            have hb23_ := hall 23 (by kernel_rfl)
            have hb24_ := hall 24 (by kernel_rfl)
            have hb25_ := hall 25 (by kernel_rfl)
            have hb26_ := hall 26 (by kernel_rfl)
            have hb27_ := hall 27 (by kernel_rfl)
            have hb28_ := hall 28 (by kernel_rfl)
            have hb29_ := hall 29 (by kernel_rfl)
            have hb30_ := hall 30 (by kernel_rfl)
            have hb31_ := hall 31 (by kernel_rfl)
            have hb32_ := hall 32 (by kernel_rfl)
            have hb33_ := hall 33 (by kernel_rfl)
            have hb34_ := hall 34 (by kernel_rfl)
            have hb35_ := hall 35 (by kernel_rfl)
            have hb36_ := hall 36 (by kernel_rfl)
            have hb37_ := hall 37 (by kernel_rfl)
            have hb38_ := hall 38 (by kernel_rfl)
            have hb39_ := hall 39 (by kernel_rfl)
            have hb40_ := hall 40 (by kernel_rfl)
            have hb41_ := hall 41 (by kernel_rfl)
            have hb42_ := hall 42 (by kernel_rfl)
            have hb43_ := hall 43 (by kernel_rfl)
            have hb44_ := hall 44 (by kernel_rfl)
            subst ha
            simp only [putSel, hb2_, hb5_, hb6_, hb7_, hb10_, hb13_, hb14_, hb15_, hb16_, hb19_, hb20_, hb21_, hb22_, hb23_, hb24_, hb25_, hb26_, hb27_, hb28_, hb29_, hb30_, hb31_, hb32_, hb33_, hb34_, hb35_, hb36_, hb37_, hb38_, hb39_, hb40_, hb41_, hb42_, hb43_, hb44_, if_true, Act.put, List.setIfInBounds_toArray, List.set_cons_zero, List.set_cons_succ]
            have HB := Aside0.mk Q_HB
            clear Q_HB
            have HO105 := Aside0.mk (Q_HO105 hb6_)
            clear Q_HO105
            have HO109 := Aside0.mk (Q_HO109 hb14_)
            clear Q_HO109
            have HO113 := Aside0.mk (Q_HO113 hb23_)
            clear Q_HO113
            have HO117 := Aside0.mk (Q_HO117 hb26_)
            clear Q_HO117
            have HO121 := Aside0.mk (Q_HO121 hb37_)
            clear Q_HO121
            have HO125 := Aside0.mk (Q_HO125 hb40_)
            clear Q_HO125
            clear hall hb2_ hb5_ hb6_ hb7_ hb10_ hb13_ hb14_ hb15_ hb16_ hb19_ hb20_ hb21_ hb22_ hb23_ hb24_ hb25_ hb26_ hb27_ hb28_ hb29_ hb30_ hb31_ hb32_ hb33_ hb34_ hb35_ hb36_ hb37_ hb38_ hb39_ hb40_ hb41_ hb42_ hb43_ hb44_
            try go_wp2
            go_ret
            exact ⟨by first | rfl | (simp [errW_none, errW_some] <;> rfl) | (simp only [← hji13, ← hji19]; first | rfl | (simp [errW_none, errW_some] <;> rfl)) | (simp [*, errW_none, errW_some] <;> rfl), by repeat (first | (with_reducible first | exact HB.out | apply below_alloc | apply pw_below_drewN | apply below_drew1) | exact HB.out)⟩
          ·rw [if_neg c25] at H
           have c25b0 : ((t106.toList == t110.toList) == ((ji13) == (ji19))) = false := by simpa using c25
           (try (have c25b1 : decide ((t106.toList == t110.toList) = ((ji13) == (ji19))) = false := by simpa using c25))
           (try (have c25b2 : ((t106.toList == t110.toList) == ((ji13) == (ji19))) = false := by simpa using c25))
           (try (have c25b3 : ¬ ((t106.toList == t110.toList) = ((ji13) == (ji19))) := by simpa using c25))
           clear c25
           obtain rfl := Option.some.inj H
           try go_wp2
           have n0_ := Aside0.mk (below_drew1 HB.out)
           clear HB
           have HB := n0_
           clear n0_
           refine start_ (n := 12) (S := fun w' => True) (ds := []) #[false, false, false, false, false, false, false, false, false, false, false, false] (by kernel_rfl) rfl rfl trivial (fun hHeld => ?_); refine with_tabW shipwrightlaw1_MintUnlike.tab7 shipwrightlaw1_MintUnlike.bits7 (fun HT_ HW_ => ?_)
           generalize wc.drew = w81 at HB hHeld ⊢
           refine pure_ (i := 0) (N := some 19) (v := ?_) (a' := ?_) #[true, false, false, false, false, false, false, false, false, false, false, false] rfl rfl (any_of HT_.out (by kernel_rfl)) (fun _ _ _ h => h) (Or.inl ⟨by rfl, ?_⟩) ?_ ?_
           rotate_left
           ·intro w'
            go_simp
            with_reducible rfl
           rotate_left
           ·simp only [Act.put, List.setIfInBounds_toArray, List.set_cons_zero, List.set_cons_succ, i64_w, i32_w]
            rfl
           refine pure_ (i := 1) (N := some 20) (v := ?_) (a' := ?_) #[true, true, false, false, false, false, false, false, false, false, false, false] rfl rfl (any_of HT_.out (by kernel_rfl)) (fun _ _ _ h => h) (Or.inl ⟨by rfl, ?_⟩) ?_ ?_
           rotate_left
           ·intro w'
            go_simp
            with_reducible rfl
           rotate_left
           ·simp only [Act.put, List.setIfInBounds_toArray, List.set_cons_zero, List.set_cons_succ, i64_w, i32_w]
            rfl
           refine pure_ (i := 2) (N := some 21) (v := ?_) (a' := ?_) #[true, true, true, false, false, false, false, false, false, false, false, false] rfl rfl (any_of HT_.out (by kernel_rfl)) (fun _ _ _ h => h) (Or.inl ⟨by rfl, ?_⟩) ?_ ?_
           rotate_left
           ·intro w'
            go_simp
            with_reducible rfl
           rotate_left
           ·simp only [Act.put, List.setIfInBounds_toArray, List.set_cons_zero, List.set_cons_succ, i64_w, i32_w]
            rfl
           refine pure_ (i := 3) (N := some 22) (v := ?_) (a' := ?_) #[true, true, true, true, false, false, false, false, false, false, false, false] rfl rfl (any_of HT_.out (by kernel_rfl)) (fun _ _ _ h => h) (Or.inl ⟨by rfl, ?_⟩) ?_ ?_
           rotate_left
           ·intro w'
            go_simp
            with_reducible rfl
           rotate_left
           ·simp only [Act.put, List.setIfInBounds_toArray, List.set_cons_zero, List.set_cons_succ, i64_w, i32_w]
            rfl
           refine pure_ (i := 4) (N := some 23) (v := ?_) (a' := ?_) #[true, true, true, true, true, false, false, false, false, false, false, false] rfl rfl (any_of HT_.out (by kernel_rfl)) (fun _ _ _ h => h) (Or.inl ⟨by rfl, ?_⟩) ?_ ?_
           rotate_left
           ·intro w'
            go_simp
            with_reducible rfl
           rotate_left
           ·simp only [Act.put, List.setIfInBounds_toArray, List.set_cons_zero, List.set_cons_succ, i64_w, i32_w]
            rfl
           refine pure_ (i := 5) (N := some 24) (v := ?_) (a' := ?_) #[true, true, true, true, true, true, false, false, false, false, false, false] rfl rfl (any_of HT_.out (by kernel_rfl)) (fun _ _ _ h => h) (Or.inl ⟨by rfl, ?_⟩) ?_ ?_
           rotate_left
           ·intro w'
            go_simp
            with_reducible rfl
           rotate_left
           ·simp only [Act.put, List.setIfInBounds_toArray, List.set_cons_zero, List.set_cons_succ, i64_w, i32_w]
            rfl
           refine pure_ (i := 6) (N := some 25) (v := ?_) (a' := ?_) #[true, true, true, true, true, true, true, false, false, false, false, false] rfl rfl (any_of HT_.out (by kernel_rfl)) (fun _ _ _ h => h) (Or.inl ⟨by rfl, ?_⟩) ?_ ?_
           rotate_left
           ·intro w'
            go_simp
            with_reducible rfl
           rotate_left
           ·simp only [Act.put, List.setIfInBounds_toArray, List.set_cons_zero, List.set_cons_succ, i64_w, i32_w]
            rfl
           refine pure_ (i := 7) (N := some 26) (v := ?_) (a' := ?_) #[true, true, true, true, true, true, true, true, false, false, false, false] rfl rfl (any_of HT_.out (by kernel_rfl)) (fun _ _ _ h => h) (Or.inl ⟨by rfl, ?_⟩) ?_ ?_
           rotate_left
           ·intro w'
            go_simp
            with_reducible rfl
           rotate_left
           ·simp only [Act.put, List.setIfInBounds_toArray, List.set_cons_zero, List.set_cons_succ, i64_w, i32_w]
            rfl
           refine pure_ (i := 8) (N := some 27) (v := ?_) (a' := ?_) #[true, true, true, true, true, true, true, true, true, false, false, false] rfl rfl (any_of HT_.out (by kernel_rfl)) (fun _ _ _ h => h) (Or.inl ⟨by rfl, ?_⟩) ?_ ?_
           rotate_left
           ·intro w'
            go_simp
            with_reducible rfl
           rotate_left
           ·simp only [Act.put, List.setIfInBounds_toArray, List.set_cons_zero, List.set_cons_succ, i64_w, i32_w]
            rfl
           refine pure_ (i := 9) (N := some 28) (v := ?_) (a' := ?_) #[true, true, true, true, true, true, true, true, true, true, false, false] rfl rfl (any_of HT_.out (by kernel_rfl)) (fun _ _ _ h => h) (Or.inl ⟨by rfl, ?_⟩) ?_ ?_
           rotate_left
           ·intro w'
            go_simp
            with_reducible rfl
           rotate_left
           ·simp only [Act.put, List.setIfInBounds_toArray, List.set_cons_zero, List.set_cons_succ, i64_w, i32_w]
            rfl
           refine pure_ (i := 10) (N := some 1) (v := ?_) (a' := ?_) #[true, true, true, true, true, true, true, true, true, true, true, false] rfl rfl (any_of HT_.out (by kernel_rfl)) (fun _ _ _ h => h) (Or.inl ⟨by rfl, ?_⟩) ?_ ?_
           rotate_left
           ·intro w'
            go_simp
            with_reducible rfl
           rotate_left
           ·simp only [Act.put, List.setIfInBounds_toArray, List.set_cons_zero, List.set_cons_succ, i64_w, i32_w]
            rfl
           refine pure_ (i := 11) (N := some 2) (v := ?_) (a' := ?_) #[true, true, true, true, true, true, true, true, true, true, true, true] rfl rfl (any_of HT_.out (by kernel_rfl)) (fun _ _ _ h => h) (Or.inl ⟨by rfl, ?_⟩) ?_ ?_
           rotate_left
           ·intro w'
            go_simp
            with_reducible rfl
           rotate_left
           ·simp only [Act.put, List.setIfInBounds_toArray, List.set_cons_zero, List.set_cons_succ, i64_w, i32_w]
            rfl
           refine done_ (done_of HT_.out (by kernel_rfl)) ?_
           try go_wp2
           have n0_ := Aside0.mk (below_drew1 HB.out)
           clear HB
           have HB := n0_
           clear n0_
           refine start_ (n := 45) (S := fun w' => True) (ds := []) #[false, false, false, false, false, false, false, false, false, false, false, false, false, false, false, false, false, false, false, false, false, false, false, false, false, false, false, false, false, false, false, false, false, false, false, false, false, false, false, false, false, false, false, false, false] (by kernel_rfl) rfl rfl trivial (fun hHeld => ?_); refine with_tabW shipwrightlaw1_MintUnlike.tab8 shipwrightlaw1_MintUnlike.bits8 (fun HT_ HW_ => ?_)
           generalize w81.drew = w82 at HB hHeld ⊢
           refine pure_ (i := 0) (N := some 29) (v := ?_) (a' := ?_) #[true, false, false, false, false, false, false, false, false, false, false, false, false, false, false, false, false, false, false, false, false, false, false, false, false, false, false, false, false, false, false, false, false, false, false, false, false, false, false, false, false, false, false, false, false] rfl rfl (any_of HT_.out (by kernel_rfl)) (fun _ _ _ h => h) (Or.inl ⟨by rfl, ?_⟩) ?_ ?_
           rotate_left
           ·intro w'
            go_simp
            with_reducible rfl
           rotate_left
           ·simp only [Act.put, List.setIfInBounds_toArray, List.set_cons_zero, List.set_cons_succ, i64_w, i32_w]
            rfl
           refine pure_ (i := 1) (N := some 30) (v := ?_) (a' := ?_) #[true, true, false, false, false, false, false, false, false, false, false, false, false, false, false, false, false, false, false, false, false, false, false, false, false, false, false, false, false, false, false, false, false, false, false, false, false, false, false, false, false, false, false, false, false] rfl rfl (any_of HT_.out (by kernel_rfl)) (fun _ _ _ h => h) (Or.inl ⟨by rfl, ?_⟩) ?_ ?_
           rotate_left
           ·intro w'
            go_simp
            with_reducible rfl
           rotate_left
           ·simp only [Act.put, List.setIfInBounds_toArray, List.set_cons_zero, List.set_cons_succ, i64_w, i32_w]
            rfl
           refine pure_ (i := 3) (N := some 32) (v := ?_) (a' := ?_) #[true, true, false, true, false, false, false, false, false, false, false, false, false, false, false, false, false, false, false, false, false, false, false, false, false, false, false, false, false, false, false, false, false, false, false, false, false, false, false, false, false, false, false, false, false] rfl rfl (any_of HT_.out (by kernel_rfl)) (fun _ _ _ h => h) (Or.inl ⟨by rfl, ?_⟩) ?_ ?_
           rotate_left
           ·intro w'
            go_simp
            with_reducible rfl
           rotate_left
           ·simp only [Act.put, List.setIfInBounds_toArray, List.set_cons_zero, List.set_cons_succ, i64_w, i32_w]
            rfl
           refine pure_ (i := 4) (N := some 33) (v := ?_) (a' := ?_) #[true, true, false, true, true, false, false, false, false, false, false, false, false, false, false, false, false, false, false, false, false, false, false, false, false, false, false, false, false, false, false, false, false, false, false, false, false, false, false, false, false, false, false, false, false] rfl rfl (any_of HT_.out (by kernel_rfl)) (fun _ _ _ h => h) (Or.inl ⟨by rfl, ?_⟩) ?_ ?_
           rotate_left
           ·intro w'
            go_simp
            with_reducible rfl
           rotate_left
           ·simp only [Act.put, List.setIfInBounds_toArray, List.set_cons_zero, List.set_cons_succ, i64_w, i32_w]
            rfl
           refine pure_ (i := 8) (N := some 37) (v := ?_) (a' := ?_) #[true, true, false, true, true, false, false, false, true, false, false, false, false, false, false, false, false, false, false, false, false, false, false, false, false, false, false, false, false, false, false, false, false, false, false, false, false, false, false, false, false, false, false, false, false] rfl rfl (any_of HT_.out (by kernel_rfl)) (fun _ _ _ h => h) (Or.inl ⟨by rfl, ?_⟩) ?_ ?_
           rotate_left
           ·intro w'
            go_simp
            with_reducible rfl
           rotate_left
           ·simp only [Act.put, List.setIfInBounds_toArray, List.set_cons_zero, List.set_cons_succ, i64_w, i32_w]
            rfl
           refine pure_ (i := 9) (N := some 38) (v := ?_) (a' := ?_) #[true, true, false, true, true, false, false, false, true, true, false, false, false, false, false, false, false, false, false, false, false, false, false, false, false, false, false, false, false, false, false, false, false, false, false, false, false, false, false, false, false, false, false, false, false] rfl rfl (any_of HT_.out (by kernel_rfl)) (fun _ _ _ h => h) (Or.inl ⟨by rfl, ?_⟩) ?_ ?_
           rotate_left
           ·intro w'
            go_simp
            with_reducible rfl
           rotate_left
           ·simp only [Act.put, List.setIfInBounds_toArray, List.set_cons_zero, List.set_cons_succ, i64_w, i32_w]
            rfl
           refine pure_ (i := 11) (N := some 40) (v := ?_) (a' := ?_) #[true, true, false, true, true, false, false, false, true, true, false, true, false, false, false, false, false, false, false, false, false, false, false, false, false, false, false, false, false, false, false, false, false, false, false, false, false, false, false, false, false, false, false, false, false] rfl rfl (any_of HT_.out (by kernel_rfl)) (fun _ _ _ h => h) (Or.inl ⟨by rfl, ?_⟩) ?_ ?_
           rotate_left
           ·intro w'
            go_simp
            with_reducible rfl
           rotate_left
           ·simp only [Act.put, List.setIfInBounds_toArray, List.set_cons_zero, List.set_cons_succ, i64_w, i32_w]
            rfl
           refine pure_ (i := 12) (N := some 41) (v := ?_) (a' := ?_) #[true, true, false, true, true, false, false, false, true, true, false, true, true, false, false, false, false, false, false, false, false, false, false, false, false, false, false, false, false, false, false, false, false, false, false, false, false, false, false, false, false, false, false, false, false] rfl rfl (any_of HT_.out (by kernel_rfl)) (fun _ _ _ h => h) (Or.inl ⟨by rfl, ?_⟩) ?_ ?_
           rotate_left
           ·intro w'
            go_simp
            with_reducible rfl
           rotate_left
           ·simp only [Act.put, List.setIfInBounds_toArray, List.set_cons_zero, List.set_cons_succ, i64_w, i32_w]
            rfl
           refine pure_ (i := 17) (N := some 46) (v := ?_) (a' := ?_) #[true, true, false, true, true, false, false, false, true, true, false, true, true, false, false, false, false, true, false, false, false, false, false, false, false, false, false, false, false, false, false, false, false, false, false, false, false, false, false, false, false, false, false, false, false] rfl rfl (any_of HT_.out (by kernel_rfl)) (fun _ _ _ h => h) (Or.inl ⟨by rfl, ?_⟩) ?_ ?_
           rotate_left
           ·intro w'
            go_simp
            with_reducible rfl
           rotate_left
           ·simp only [Act.put, List.setIfInBounds_toArray, List.set_cons_zero, List.set_cons_succ, i64_w, i32_w]
            rfl
           refine pure_ (i := 18) (N := some 47) (v := ?_) (a' := ?_) #[true, true, false, true, true, false, false, false, true, true, false, true, true, false, false, false, false, true, true, false, false, false, false, false, false, false, false, false, false, false, false, false, false, false, false, false, false, false, false, false, false, false, false, false, false] rfl rfl (any_of HT_.out (by kernel_rfl)) (fun _ _ _ h => h) (Or.inl ⟨by rfl, ?_⟩) ?_ ?_
           rotate_left
           ·intro w'
            go_simp
            with_reducible rfl
           rotate_left
           ·simp only [Act.put, List.setIfInBounds_toArray, List.set_cons_zero, List.set_cons_succ, i64_w, i32_w]
            rfl
           refine inv_at [2, 5, 6, 7, 10, 13, 14, 15, 16, 19, 20, 21, 22, 23, 24, 25, 26, 27, 28, 29, 30, 31, 32, 33, 34, 35, 36, 37, 38, 39, 40, 41, 42, 43, 44] (fun a0_ b a w' => ∃ (v104 : Value) (v108 : Value), a = putSel a0_ b [(2, 31, .string (t102.extract 0 ((ji13) : Int).toNat)), (5, 34, .string (t102.extract ((ji13) : Int).toNat t102.size)), (6, 35, v104), (7, 36, .string t106), (10, 39, .string (t102.extract 0 ((ji19) : Int).toNat)), (13, 42, .string (t102.extract ((ji19) : Int).toNat t102.size)), (14, 43, v108), (15, 44, .string t110), (16, 45, .bool (t106.toList == t110.toList)), (19, 48, .bool ((ji13) == (ji19))), (20, 49, .bool ((t106.toList == t110.toList) == ((ji13) == (ji19)))), (21, 50, .bool ((t106.toList == t110.toList) == ((ji13) == (ji19)))), (22, 51, undef), (23, 52, undef), (24, 53, undef), (25, 54, undef), (26, 55, undef), (27, 56, undef), (28, 57, undef), (29, 58, .bool false), (30, 59, .bool false), (31, 60, undef), (32, 61, undef), (33, 62, undef), (34, 63, undef), (35, 64, undef), (36, 65, undef), (37, 66, undef), (38, 67, undef), (39, 68, undef), (40, 69, undef), (41, 70, undef), (42, 71, undef), (43, 72, .bool false), (44, 6, .bool false)] ∧ (Below w.heap.size w w') ∧ (b 6 = true → Kd.R Kd.string 9 w' w.heap.size (fun _ => True) v104 y103) ∧ (b 14 = true → Kd.R Kd.string 9 w' w.heap.size (fun _ => True) v108 y107)) HT_.out HW_.out (by kernel_rfl) (by kernel_rfl) ?_ ?_ ?_
           ·exact ⟨.bool false, .bool false, by simp only [putSel, Bool.false_eq_true, if_false], HB.out, fun h_ => absurd h_ (by decide), fun h_ => absurd h_ (by decide)⟩
           ·skip
            clear HB
            refine steps_cons ?_ ?_
            ·rintro b a w' ⟨v104, v108, ha, Q_HB, Q_HO105, Q_HO109⟩ hb_ hon hoff
             refine ⟨_, rfl, fun K hK => ?_⟩
             have e29 : a.tmps[29]? = some (.string t102) := by rw [ha]; exact (putSel_off rfl).trans rfl
             have e30 : a.tmps[30]? = some (.int .i64 ji13) := by rw [ha]; exact (putSel_off rfl).trans rfl
             replace ha := Aside0.mk ha
             have HB := Aside0.mk Q_HB
             refine value_ (w1 := w') (v := .string (t102.extract 0 ((ji13) : Int).toNat)) (by rfl) rfl ?_ ?_
             ·go_simp
              (try simp only [i64_w])
              first | rfl | (simp [bne]; done) | skip
             refine hK.out _ _ ⟨v104, v108, (by rw [ha.out]; exact putSel_upk 0 hb_ rfl rfl rfl), Q_HB, fun h0_ => absurd ((hoff 6 (by kernel_rfl)).symm.trans h0_) (by decide), Q_HO109⟩
            refine steps_cons ?_ ?_
            ·rintro b a w' ⟨v104, v108, ha, Q_HB, Q_HO105, Q_HO109⟩ hb_ hon hoff
             refine ⟨_, rfl, fun K hK => ?_⟩
             have e32 : a.tmps[32]? = some (.string t102) := by rw [ha]; exact (putSel_off rfl).trans rfl
             have e33 : a.tmps[33]? = some (.int .i64 ji13) := by rw [ha]; exact (putSel_off rfl).trans rfl
             replace ha := Aside0.mk ha
             have HB := Aside0.mk Q_HB
             refine value_ (w1 := w') (v := .string (t102.extract ((ji13) : Int).toNat t102.size)) (by rfl) rfl ?_ ?_
             ·go_simp
              (try simp only [i64_w])
              first | rfl | (simp [bne]; done) | skip
             refine hK.out _ _ ⟨v104, v108, (by rw [ha.out]; exact putSel_upk 1 hb_ rfl rfl rfl), Q_HB, fun h0_ => absurd ((hoff 6 (by kernel_rfl)).symm.trans h0_) (by decide), Q_HO109⟩
            refine steps_cons ?_ ?_
            ·rintro b a w' ⟨v104, v108, ha, Q_HB, Q_HO105, Q_HO109⟩ hb_ hon hoff
             refine ⟨_, rfl, fun K hK => ?_⟩
             have e31 : a.tmps[31]? = some (.string (t102.extract 0 ((ji13) : Int).toNat)) := by rw [ha]; exact putSel_on (e := (2, 31, .string (t102.extract 0 ((ji13) : Int).toNat))) 0 rfl rfl (hon 2 (by kernel_rfl)) rfl
             have e34 : a.tmps[34]? = some (.string (t102.extract ((ji13) : Int).toNat t102.size)) := by rw [ha]; exact putSel_on (e := (5, 34, .string (t102.extract ((ji13) : Int).toNat t102.size))) 1 rfl rfl (hon 5 (by kernel_rfl)) rfl
             replace ha := Aside0.mk ha
             have HB := Aside0.mk Q_HB
             refine Kd.R_lit_step Kd.string _ 9 ?hg (N := 35) ?hd (xs := ([t102.extract 0 ((ji13) : Int).toNat, t102.extract ((ji13) : Int).toNat t102.size] : List ByteArray)) (inner := [.string (t102.extract 0 ((ji13) : Int).toNat), .string (t102.extract ((ji13) : Int).toNat t102.size)]) (ok := fun _ => True) (okp := fun _ => True) ?hr ?hp (fun _ hk => hk) trivial (Below.refl _ _) (Nat.le_refl _) (by simp) ?_; (case hd => rfl); (case hg => first | rfl | exact wanted_on rfl rfl rfl e50 | exact wanted_on rfl rfl rfl e59); (case hr => first | (go_simp; done) | (go_simp; rfl)); (case hp => exact (Reps.one (show Kd.M Kd.string _ _ _ (t102.extract 0 ((ji13) : Int).toNat) [.string (t102.extract 0 ((ji13) : Int).toNat)] from rfl) (Reps.one (show Kd.M Kd.string _ _ _ (t102.extract ((ji13) : Int).toNat t102.size) [.string (t102.extract ((ji13) : Int).toNat t102.size)] from rfl) (Reps.none _ _))))
             intro v104 w83 ho84 hb hg_ hnew_
             clear hg_ hnew_
             (first | rw [← Ny103.out] at ho84 | (simp only [Int.reduceToNat] at ho84; rw [← Ny103.out] at ho84))
             have n0_ := Aside0.mk (Kd.R_lower ho84 (below_size (by repeat (first | (with_reducible first | exact HB.out | apply below_alloc | apply pw_below_drewN | apply below_drew1) | exact HB.out))))
             have n1_ := Aside0.mk (below_step (by repeat (first | (with_reducible first | exact HB.out | apply below_alloc | apply pw_below_drewN | apply below_drew1) | exact HB.out)) hb)
             have z_HO109 := fun (h0_ : b 14 = true) => (show Kd.R Kd.string 9 w83 w.heap.size (fun _ => True) v108 y107 from by first | exact (Kd.R_elder' (by (with_reducible repeat (first | apply Kd.R_alloc | apply Kd.R_drewN | apply Kd.R_drew)); exact (Q_HO109 h0_)) (Kd.R_base ho84) hb) | exact Kd.R_mono (Kd.R_elder' (by (with_reducible repeat (first | apply Kd.R_alloc | apply Kd.R_drewN | apply Kd.R_drew)); exact (Q_HO109 h0_)) (Kd.R_base ho84) hb) (fun _ h_ => by first | trivial | exact h_ | exact h_.1))
             clear HB
             have HO105 := n0_
             have HB := n1_
             clear n0_ n1_
             clear hb ho84
             refine hK.out _ _ ⟨v104, v108, (by rw [ha.out]; exact putSel_upk 2 hb_ rfl rfl rfl), (by repeat (first | (with_reducible first | exact HB.out | apply below_alloc | apply pw_below_drewN | apply below_drew1) | exact HB.out)), fun _ => (by (with_reducible repeat (first | apply Kd.R_alloc | apply Kd.R_drewN | apply Kd.R_drew)); first | exact HO105.out | exact Kd.R_mono HO105.out (fun _ _ => trivial)), z_HO109⟩
            refine steps_cons ?_ ?_
            ·rintro b a w' ⟨v104, v108, ha, Q_HB, Q_HO105, Q_HO109⟩ hb_ hon hoff
             refine ⟨_, rfl, fun K hK => ?_⟩
             have e35 : a.tmps[35]? = some (v104) := by rw [ha]; exact putSel_on (e := (6, 35, v104)) 2 rfl rfl (hon 6 (by kernel_rfl)) rfl
             replace ha := Aside0.mk ha
             have HB := Aside0.mk Q_HB
             have HO105 := Aside0.mk (Q_HO105 (hon 6 (by kernel_rfl)))
             obtain ⟨Ao86, co86, eo86⟩ := Kd.R_slice HO105.out
             (first | subst eo86 | (injection eo86 with f1_ f2_ f3_; have f4_ := f1_.symm; have f5_ := f3_.symm; clear f1_ f2_ f3_; subst f4_; subst f5_))
             refine goes_ Tryz.func32 (by kernel_rfl) rfl #[.slice Ao86 y103.length co86] (by first | rfl | exact wanted_on rfl rfl rfl e50 | exact wanted_on rfl rfl rfl e59) rfl rfl (by simp only [List.map_toArray, List.map_cons, List.map_nil, Act.eval, Array.getD_eq_getD_getElem?, Option.getD_some, e35] <;> rfl) ?_
             with_reducible refine (mint_Put.calls _ _ y103 t106 _ ?side99 ?side1 ?side2 A18.out).mono ?_
             (case side99 => exact GOK.below HG.out (by repeat (first | (with_reducible first | exact HB.out | apply below_alloc | apply pw_below_drewN | apply below_drew1) | exact HB.out)))
             (case side1 => repeat (first | exact (Kd.R_reads' HO105.out).2.2 | (with_reducible refine Kd.C_alloc ?_ _) | (with_reducible refine Kd.C_drewN ?_ _) | (with_reducible refine Kd.C_drew ?_)))
             (case side2 => exact (Kd.R_reads' HO105.out).2.1)
             rintro e w87 ⟨rfl, hb⟩
             refine ⟨_, rfl, ?_⟩
             have n0_ := Aside0.mk (Kd.R_below (by (with_reducible repeat (first | apply Kd.R_alloc | apply Kd.R_drewN | apply Kd.R_drew)); first | exact HO105.out | exact Kd.R_mono HO105.out (fun _ _ => trivial)) hb)
             have n1_ := Aside0.mk (below_step (by repeat (first | (with_reducible first | exact HB.out | apply below_alloc | apply pw_below_drewN | apply below_drew1) | exact HB.out)) hb)
             have z_HO109 := fun (h0_ : b 14 = true) => (show Kd.R Kd.string 9 w87 w.heap.size (fun _ => True) v108 y107 from by first | exact (Kd.R_below (by (with_reducible repeat (first | apply Kd.R_alloc | apply Kd.R_drewN | apply Kd.R_drew)); exact (Q_HO109 h0_)) hb) | exact Kd.R_mono (Kd.R_below (by (with_reducible repeat (first | apply Kd.R_alloc | apply Kd.R_drewN | apply Kd.R_drew)); exact (Q_HO109 h0_)) hb) (fun _ h_ => by first | trivial | exact h_ | exact h_.1))
             clear HO105
             clear HB
             have HO105 := n0_
             have HB := n1_
             clear n0_ n1_
             (try clear hb)
             (try clear hb2)
             (try clear hk)
             (try clear hi)
             refine hK.out _ _ ⟨.slice Ao86 y103.length co86, v108, (by rw [ha.out]; exact putSel_upk 3 hb_ rfl rfl rfl), (by repeat (first | (with_reducible first | exact HB.out | apply below_alloc | apply pw_below_drewN | apply below_drew1) | exact HB.out)), fun _ => (by (with_reducible repeat (first | apply Kd.R_alloc | apply Kd.R_drewN | apply Kd.R_drew)); first | exact HO105.out | exact Kd.R_mono HO105.out (fun _ _ => trivial)), z_HO109⟩
            refine steps_cons ?_ ?_
            ·rintro b a w' ⟨v104, v108, ha, Q_HB, Q_HO105, Q_HO109⟩ hb_ hon hoff
             refine ⟨_, rfl, fun K hK => ?_⟩
             have e37 : a.tmps[37]? = some (.string t102) := by rw [ha]; exact (putSel_off rfl).trans rfl
             have e38 : a.tmps[38]? = some (.int .i64 ji19) := by rw [ha]; exact (putSel_off rfl).trans rfl
             replace ha := Aside0.mk ha
             have HB := Aside0.mk Q_HB
             refine value_ (w1 := w') (v := .string (t102.extract 0 ((ji19) : Int).toNat)) (by rfl) rfl ?_ ?_
             ·go_simp
              (try simp only [i64_w])
              first | rfl | (simp [bne]; done) | skip
             refine hK.out _ _ ⟨v104, v108, (by rw [ha.out]; exact putSel_upk 4 hb_ rfl rfl rfl), Q_HB, Q_HO105, fun h0_ => absurd ((hoff 14 (by kernel_rfl)).symm.trans h0_) (by decide)⟩
            refine steps_cons ?_ ?_
            ·rintro b a w' ⟨v104, v108, ha, Q_HB, Q_HO105, Q_HO109⟩ hb_ hon hoff
             refine ⟨_, rfl, fun K hK => ?_⟩
             have e40 : a.tmps[40]? = some (.string t102) := by rw [ha]; exact (putSel_off rfl).trans rfl
             have e41 : a.tmps[41]? = some (.int .i64 ji19) := by rw [ha]; exact (putSel_off rfl).trans rfl
             replace ha := Aside0.mk ha
             have HB := Aside0.mk Q_HB
             refine value_ (w1 := w') (v := .string (t102.extract ((ji19) : Int).toNat t102.size)) (by rfl) rfl ?_ ?_
             ·go_simp
              (try simp only [i64_w])
              first | rfl | (simp [bne]; done) | skip
             refine hK.out _ _ ⟨v104, v108, (by rw [ha.out]; exact putSel_upk 5 hb_ rfl rfl rfl), Q_HB, Q_HO105, fun h0_ => absurd ((hoff 14 (by kernel_rfl)).symm.trans h0_) (by decide)⟩
            refine steps_cons ?_ ?_
            ·rintro b a w' ⟨v104, v108, ha, Q_HB, Q_HO105, Q_HO109⟩ hb_ hon hoff
             refine ⟨_, rfl, fun K hK => ?_⟩
             have e39 : a.tmps[39]? = some (.string (t102.extract 0 ((ji19) : Int).toNat)) := by rw [ha]; exact putSel_on (e := (10, 39, .string (t102.extract 0 ((ji19) : Int).toNat))) 4 rfl rfl (hon 10 (by kernel_rfl)) rfl
             have e42 : a.tmps[42]? = some (.string (t102.extract ((ji19) : Int).toNat t102.size)) := by rw [ha]; exact putSel_on (e := (13, 42, .string (t102.extract ((ji19) : Int).toNat t102.size))) 5 rfl rfl (hon 13 (by kernel_rfl)) rfl
             replace ha := Aside0.mk ha
             have HB := Aside0.mk Q_HB
             refine Kd.R_lit_step Kd.string _ 9 ?hg (N := 43) ?hd (xs := ([t102.extract 0 ((ji19) : Int).toNat, t102.extract ((ji19) : Int).toNat t102.size] : List ByteArray)) (inner := [.string (t102.extract 0 ((ji19) : Int).toNat), .string (t102.extract ((ji19) : Int).toNat t102.size)]) (ok := fun _ => True) (okp := fun _ => True) ?hr ?hp (fun _ hk => hk) trivial (Below.refl _ _) (Nat.le_refl _) (by simp) ?_; (case hd => rfl); (case hg => first | rfl | exact wanted_on rfl rfl rfl e50 | exact wanted_on rfl rfl rfl e59); (case hr => first | (go_simp; done) | (go_simp; rfl)); (case hp => exact (Reps.one (show Kd.M Kd.string _ _ _ (t102.extract 0 ((ji19) : Int).toNat) [.string (t102.extract 0 ((ji19) : Int).toNat)] from rfl) (Reps.one (show Kd.M Kd.string _ _ _ (t102.extract ((ji19) : Int).toNat t102.size) [.string (t102.extract ((ji19) : Int).toNat t102.size)] from rfl) (Reps.none _ _))))
             intro v108 w83 ho84 hb hg_ hnew_
             clear hg_ hnew_
             (first | rw [← Ny107.out] at ho84 | (simp only [Int.reduceToNat] at ho84; rw [← Ny107.out] at ho84))
             have n0_ := Aside0.mk (Kd.R_lower ho84 (below_size (by repeat (first | (with_reducible first | exact HB.out | apply below_alloc | apply pw_below_drewN | apply below_drew1) | exact HB.out))))
             have n1_ := Aside0.mk (below_step (by repeat (first | (with_reducible first | exact HB.out | apply below_alloc | apply pw_below_drewN | apply below_drew1) | exact HB.out)) hb)
             have z_HO105 := fun (h0_ : b 6 = true) => (show Kd.R Kd.string 9 w83 w.heap.size (fun _ => True) v104 y103 from by first | exact (Kd.R_elder' (by (with_reducible repeat (first | apply Kd.R_alloc | apply Kd.R_drewN | apply Kd.R_drew)); exact (Q_HO105 h0_)) (Kd.R_base ho84) hb) | exact Kd.R_mono (Kd.R_elder' (by (with_reducible repeat (first | apply Kd.R_alloc | apply Kd.R_drewN | apply Kd.R_drew)); exact (Q_HO105 h0_)) (Kd.R_base ho84) hb) (fun _ h_ => by first | trivial | exact h_ | exact h_.1))
             clear HB
             have HO109 := n0_
             have HB := n1_
             clear n0_ n1_
             clear hb ho84
             refine hK.out _ _ ⟨v104, v108, (by rw [ha.out]; exact putSel_upk 6 hb_ rfl rfl rfl), (by repeat (first | (with_reducible first | exact HB.out | apply below_alloc | apply pw_below_drewN | apply below_drew1) | exact HB.out)), z_HO105, fun _ => (by (with_reducible repeat (first | apply Kd.R_alloc | apply Kd.R_drewN | apply Kd.R_drew)); first | exact HO109.out | exact Kd.R_mono HO109.out (fun _ _ => trivial))⟩
            refine steps_cons ?_ ?_
            ·rintro b a w' ⟨v104, v108, ha, Q_HB, Q_HO105, Q_HO109⟩ hb_ hon hoff
             refine ⟨_, rfl, fun K hK => ?_⟩
             have e43 : a.tmps[43]? = some (v108) := by rw [ha]; exact putSel_on (e := (14, 43, v108)) 6 rfl rfl (hon 14 (by kernel_rfl)) rfl
             replace ha := Aside0.mk ha
             have HB := Aside0.mk Q_HB
             have HO105 := Aside0.mk (Q_HO105 (hon 6 (by kernel_rfl)))
             have HO109 := Aside0.mk (Q_HO109 (hon 14 (by kernel_rfl)))
             obtain ⟨Ao90, co90, eo90⟩ := Kd.R_slice HO109.out
             (first | subst eo90 | (injection eo90 with f1_ f2_ f3_; have f4_ := f1_.symm; have f5_ := f3_.symm; clear f1_ f2_ f3_; subst f4_; subst f5_))
             refine goes_ Tryz.func32 (by kernel_rfl) rfl #[.slice Ao90 y107.length co90] (by first | rfl | exact wanted_on rfl rfl rfl e50 | exact wanted_on rfl rfl rfl e59) rfl rfl (by simp only [List.map_toArray, List.map_cons, List.map_nil, Act.eval, Array.getD_eq_getD_getElem?, Option.getD_some, e43] <;> rfl) ?_
             with_reducible refine (mint_Put.calls _ _ y107 t110 _ ?side99 ?side1 ?side2 A24.out).mono ?_
             (case side99 => exact GOK.below HG.out (by repeat (first | (with_reducible first | exact HB.out | apply below_alloc | apply pw_below_drewN | apply below_drew1) | exact HB.out)))
             (case side1 => repeat (first | exact (Kd.R_reads' HO109.out).2.2 | (with_reducible refine Kd.C_alloc ?_ _) | (with_reducible refine Kd.C_drewN ?_ _) | (with_reducible refine Kd.C_drew ?_)))
             (case side2 => exact (Kd.R_reads' HO109.out).2.1)
             rintro e w91 ⟨rfl, hb⟩
             refine ⟨_, rfl, ?_⟩
             have n0_ := Aside0.mk (Kd.R_below (by (with_reducible repeat (first | apply Kd.R_alloc | apply Kd.R_drewN | apply Kd.R_drew)); first | exact HO105.out | exact Kd.R_mono HO105.out (fun _ _ => trivial)) hb)
             have n1_ := Aside0.mk (Kd.R_below (by (with_reducible repeat (first | apply Kd.R_alloc | apply Kd.R_drewN | apply Kd.R_drew)); first | exact HO109.out | exact Kd.R_mono HO109.out (fun _ _ => trivial)) hb)
             have n2_ := Aside0.mk (below_step (by repeat (first | (with_reducible first | exact HB.out | apply below_alloc | apply pw_below_drewN | apply below_drew1) | exact HB.out)) hb)
             clear HO105
             clear HO109
             clear HB
             have HO105 := n0_
             have HO109 := n1_
             have HB := n2_
             clear n0_ n1_ n2_
             (try clear hb)
             (try clear hb2)
             (try clear hk)
             (try clear hi)
             refine hK.out _ _ ⟨v104, .slice Ao90 y107.length co90, (by rw [ha.out]; exact putSel_upk 7 hb_ rfl rfl rfl), (by repeat (first | (with_reducible first | exact HB.out | apply below_alloc | apply pw_below_drewN | apply below_drew1) | exact HB.out)), fun _ => (by (with_reducible repeat (first | apply Kd.R_alloc | apply Kd.R_drewN | apply Kd.R_drew)); first | exact HO105.out | exact Kd.R_mono HO105.out (fun _ _ => trivial)), fun _ => (by (with_reducible repeat (first | apply Kd.R_alloc | apply Kd.R_drewN | apply Kd.R_drew)); first | exact HO109.out | exact Kd.R_mono HO109.out (fun _ _ => trivial))⟩
            refine steps_cons ?_ ?_
            ·rintro b a w' ⟨v104, v108, ha, Q_HB, Q_HO105, Q_HO109⟩ hb_ hon hoff
             refine ⟨_, rfl, fun K hK => ?_⟩
             have e36 : a.tmps[36]? = some (.string t106) := by rw [ha]; exact putSel_on (e := (7, 36, .string t106)) 3 rfl rfl (hon 7 (by kernel_rfl)) rfl
             have e44 : a.tmps[44]? = some (.string t110) := by rw [ha]; exact putSel_on (e := (15, 44, .string t110)) 7 rfl rfl (hon 15 (by kernel_rfl)) rfl
             replace ha := Aside0.mk ha
             have HB := Aside0.mk Q_HB
             have HO105 := Aside0.mk (Q_HO105 (hon 6 (by kernel_rfl)))
             have HO109 := Aside0.mk (Q_HO109 (hon 14 (by kernel_rfl)))
             refine value_ (w1 := w') (v := .bool (t106.toList == t110.toList)) (by rfl) rfl ?_ ?_
             ·go_simp
              (try simp only [i64_w])
              first | rfl | (simp [bne]; done) | skip
             refine hK.out _ _ ⟨v104, v108, (by rw [ha.out]; exact putSel_upk 8 hb_ rfl rfl rfl), Q_HB, Q_HO105, Q_HO109⟩
            refine steps_cons ?_ ?_
            ·rintro b a w' ⟨v104, v108, ha, Q_HB, Q_HO105, Q_HO109⟩ hb_ hon hoff
             refine ⟨_, rfl, fun K hK => ?_⟩
             have e46 : a.tmps[46]? = some (.int .i64 ji13) := by rw [ha]; exact (putSel_off rfl).trans rfl
             have e47 : a.tmps[47]? = some (.int .i64 ji19) := by rw [ha]; exact (putSel_off rfl).trans rfl
             replace ha := Aside0.mk ha
             have HB := Aside0.mk Q_HB
             refine value_ (w1 := w') (v := .bool ((ji13) == (ji19))) (by rfl) rfl ?_ ?_
             ·go_simp
              (try simp only [i64_w])
              first | rfl | (simp [bne]; done) | skip
             refine hK.out _ _ ⟨v104, v108, (by rw [ha.out]; exact putSel_upk 9 hb_ rfl rfl rfl), Q_HB, Q_HO105, Q_HO109⟩
            refine steps_cons ?_ ?_
            ·rintro b a w' ⟨v104, v108, ha, Q_HB, Q_HO105, Q_HO109⟩ hb_ hon hoff
             refine ⟨_, rfl, fun K hK => ?_⟩
             have e45 : a.tmps[45]? = some (.bool (t106.toList == t110.toList)) := by rw [ha]; exact putSel_on (e := (16, 45, .bool (t106.toList == t110.toList))) 8 rfl rfl (hon 16 (by kernel_rfl)) rfl
             try rw [(by assumption : (t106.toList == t110.toList) = true)] at e45
             try rw [(by assumption : (t106.toList == t110.toList) = false)] at e45
             have e48 : a.tmps[48]? = some (.bool ((ji13) == (ji19))) := by rw [ha]; exact putSel_on (e := (19, 48, .bool ((ji13) == (ji19)))) 9 rfl rfl (hon 19 (by kernel_rfl)) rfl
             try rw [(by assumption : ((ji13) == (ji19)) = true)] at e48
             try rw [(by assumption : ((ji13) == (ji19)) = false)] at e48
             replace ha := Aside0.mk ha
             have HB := Aside0.mk Q_HB
             have HO105 := Aside0.mk (Q_HO105 (hon 6 (by kernel_rfl)))
             have HO109 := Aside0.mk (Q_HO109 (hon 14 (by kernel_rfl)))
             refine value_ (w1 := w') (v := .bool ((t106.toList == t110.toList) == ((ji13) == (ji19)))) (by rfl) rfl ?_ ?_
             ·go_simp
              (try simp only [i64_w])
              first | rfl | (simp [bne]; done) | skip
             refine hK.out _ _ ⟨v104, v108, (by rw [ha.out]; exact putSel_upk 10 hb_ rfl rfl rfl), Q_HB, Q_HO105, Q_HO109⟩
            refine steps_cons ?_ ?_
            ·rintro b a w' ⟨v104, v108, ha, Q_HB, Q_HO105, Q_HO109⟩ hb_ hon hoff
             refine ⟨_, rfl, fun K hK => ?_⟩
             have e49 : a.tmps[49]? = some (.bool ((t106.toList == t110.toList) == ((ji13) == (ji19)))) := by rw [ha]; exact putSel_on (e := (20, 49, .bool ((t106.toList == t110.toList) == ((ji13) == (ji19))))) 10 rfl rfl (hon 20 (by kernel_rfl)) rfl
             try rw [(by assumption : ((t106.toList == t110.toList) == ((ji13) == (ji19))) = true)] at e49
             try rw [(by assumption : ((t106.toList == t110.toList) == ((ji13) == (ji19))) = false)] at e49
             replace ha := Aside0.mk ha
             have HB := Aside0.mk Q_HB
             have HO105 := Aside0.mk (Q_HO105 (hon 6 (by kernel_rfl)))
             have HO109 := Aside0.mk (Q_HO109 (hon 14 (by kernel_rfl)))
             refine value_ (w1 := w') (v := .bool ((t106.toList == t110.toList) == ((ji13) == (ji19)))) (by rfl) rfl ?_ ?_
             ·go_simp
              (try simp only [i64_w])
              first | rfl | (simp [bne]; done) | skip
             refine hK.out _ _ ⟨v104, v108, (by rw [ha.out]; exact putSel_upk 11 hb_ rfl rfl rfl), Q_HB, Q_HO105, Q_HO109⟩
            refine steps_cons ?_ ?_
            ·rintro b a w' ⟨v104, v108, ha, Q_HB, Q_HO105, Q_HO109⟩ hb_ hon hoff
             refine ⟨_, rfl, fun K hK => ?_⟩
             have e50 : a.tmps[50]? = some (.bool ((t106.toList == t110.toList) == ((ji13) == (ji19)))) := by rw [ha]; exact putSel_on (e := (21, 50, .bool ((t106.toList == t110.toList) == ((ji13) == (ji19))))) 11 rfl rfl (hon 21 (by kernel_rfl)) rfl
             try rw [(by assumption : ((t106.toList == t110.toList) == ((ji13) == (ji19))) = true)] at e50
             try rw [(by assumption : ((t106.toList == t110.toList) == ((ji13) == (ji19))) = false)] at e50
             replace ha := Aside0.mk ha
             have HB := Aside0.mk Q_HB
             have HO105 := Aside0.mk (Q_HO105 (hon 6 (by kernel_rfl)))
             have HO109 := Aside0.mk (Q_HO109 (hon 14 (by kernel_rfl)))
             refine off_ (wanted_off rfl rfl rfl (e50.trans (by first | rfl | (simp [*]; done)))) ?_
             refine hK.out _ _ ⟨v104, v108, (by rw [ha.out]; exact putSel_upk 12 hb_ rfl rfl rfl), Q_HB, Q_HO105, Q_HO109⟩
            refine steps_cons ?_ ?_
            ·rintro b a w' ⟨v104, v108, ha, Q_HB, Q_HO105, Q_HO109⟩ hb_ hon hoff
             refine ⟨_, rfl, fun K hK => ?_⟩
             have e50 : a.tmps[50]? = some (.bool ((t106.toList == t110.toList) == ((ji13) == (ji19)))) := by rw [ha]; exact putSel_on (e := (21, 50, .bool ((t106.toList == t110.toList) == ((ji13) == (ji19))))) 11 rfl rfl (hon 21 (by kernel_rfl)) rfl
             try rw [(by assumption : ((t106.toList == t110.toList) == ((ji13) == (ji19))) = true)] at e50
             try rw [(by assumption : ((t106.toList == t110.toList) == ((ji13) == (ji19))) = false)] at e50
             replace ha := Aside0.mk ha
             have HB := Aside0.mk Q_HB
             have HO105 := Aside0.mk (Q_HO105 (hon 6 (by kernel_rfl)))
             have HO109 := Aside0.mk (Q_HO109 (hon 14 (by kernel_rfl)))
             refine off_ (wanted_off rfl rfl rfl (e50.trans (by first | rfl | (simp [*]; done)))) ?_
             refine hK.out _ _ ⟨v104, v108, (by rw [ha.out]; exact putSel_upk 13 hb_ rfl rfl rfl), Q_HB, Q_HO105, Q_HO109⟩
            refine steps_cons ?_ ?_
            ·rintro b a w' ⟨v104, v108, ha, Q_HB, Q_HO105, Q_HO109⟩ hb_ hon hoff
             refine ⟨_, rfl, fun K hK => ?_⟩
             have e50 : a.tmps[50]? = some (.bool ((t106.toList == t110.toList) == ((ji13) == (ji19)))) := by rw [ha]; exact putSel_on (e := (21, 50, .bool ((t106.toList == t110.toList) == ((ji13) == (ji19))))) 11 rfl rfl (hon 21 (by kernel_rfl)) rfl
             try rw [(by assumption : ((t106.toList == t110.toList) == ((ji13) == (ji19))) = true)] at e50
             try rw [(by assumption : ((t106.toList == t110.toList) == ((ji13) == (ji19))) = false)] at e50
             replace ha := Aside0.mk ha
             have HB := Aside0.mk Q_HB
             have HO105 := Aside0.mk (Q_HO105 (hon 6 (by kernel_rfl)))
             have HO109 := Aside0.mk (Q_HO109 (hon 14 (by kernel_rfl)))
             refine off_ (wanted_off rfl rfl rfl (e50.trans (by first | rfl | (simp [*]; done)))) ?_
             refine hK.out _ _ ⟨v104, v108, (by rw [ha.out]; exact putSel_upk 14 hb_ rfl rfl rfl), Q_HB, Q_HO105, Q_HO109⟩
            refine steps_cons ?_ ?_
            ·rintro b a w' ⟨v104, v108, ha, Q_HB, Q_HO105, Q_HO109⟩ hb_ hon hoff
             refine ⟨_, rfl, fun K hK => ?_⟩
             have e50 : a.tmps[50]? = some (.bool ((t106.toList == t110.toList) == ((ji13) == (ji19)))) := by rw [ha]; exact putSel_on (e := (21, 50, .bool ((t106.toList == t110.toList) == ((ji13) == (ji19))))) 11 rfl rfl (hon 21 (by kernel_rfl)) rfl
             try rw [(by assumption : ((t106.toList == t110.toList) == ((ji13) == (ji19))) = true)] at e50
             try rw [(by assumption : ((t106.toList == t110.toList) == ((ji13) == (ji19))) = false)] at e50
             replace ha := Aside0.mk ha
             have HB := Aside0.mk Q_HB
             have HO105 := Aside0.mk (Q_HO105 (hon 6 (by kernel_rfl)))
             have HO109 := Aside0.mk (Q_HO109 (hon 14 (by kernel_rfl)))
             refine off_ (wanted_off rfl rfl rfl (e50.trans (by first | rfl | (simp [*]; done)))) ?_
             refine hK.out _ _ ⟨v104, v108, (by rw [ha.out]; exact putSel_upk 15 hb_ rfl rfl rfl), Q_HB, Q_HO105, Q_HO109⟩
            refine steps_cons ?_ ?_
            ·rintro b a w' ⟨v104, v108, ha, Q_HB, Q_HO105, Q_HO109⟩ hb_ hon hoff
             refine ⟨_, rfl, fun K hK => ?_⟩
             have e50 : a.tmps[50]? = some (.bool ((t106.toList == t110.toList) == ((ji13) == (ji19)))) := by rw [ha]; exact putSel_on (e := (21, 50, .bool ((t106.toList == t110.toList) == ((ji13) == (ji19))))) 11 rfl rfl (hon 21 (by kernel_rfl)) rfl
             try rw [(by assumption : ((t106.toList == t110.toList) == ((ji13) == (ji19))) = true)] at e50
             try rw [(by assumption : ((t106.toList == t110.toList) == ((ji13) == (ji19))) = false)] at e50
             replace ha := Aside0.mk ha
             have HB := Aside0.mk Q_HB
             have HO105 := Aside0.mk (Q_HO105 (hon 6 (by kernel_rfl)))
             have HO109 := Aside0.mk (Q_HO109 (hon 14 (by kernel_rfl)))
             refine off_ (wanted_off rfl rfl rfl (e50.trans (by first | rfl | (simp [*]; done)))) ?_
             refine hK.out _ _ ⟨v104, v108, (by rw [ha.out]; exact putSel_upk 16 hb_ rfl rfl rfl), Q_HB, Q_HO105, Q_HO109⟩
            refine steps_cons ?_ ?_
            ·rintro b a w' ⟨v104, v108, ha, Q_HB, Q_HO105, Q_HO109⟩ hb_ hon hoff
             refine ⟨_, rfl, fun K hK => ?_⟩
             have e50 : a.tmps[50]? = some (.bool ((t106.toList == t110.toList) == ((ji13) == (ji19)))) := by rw [ha]; exact putSel_on (e := (21, 50, .bool ((t106.toList == t110.toList) == ((ji13) == (ji19))))) 11 rfl rfl (hon 21 (by kernel_rfl)) rfl
             try rw [(by assumption : ((t106.toList == t110.toList) == ((ji13) == (ji19))) = true)] at e50
             try rw [(by assumption : ((t106.toList == t110.toList) == ((ji13) == (ji19))) = false)] at e50
             replace ha := Aside0.mk ha
             have HB := Aside0.mk Q_HB
             have HO105 := Aside0.mk (Q_HO105 (hon 6 (by kernel_rfl)))
             have HO109 := Aside0.mk (Q_HO109 (hon 14 (by kernel_rfl)))
             refine off_ (wanted_off rfl rfl rfl (e50.trans (by first | rfl | (simp [*]; done)))) ?_
             refine hK.out _ _ ⟨v104, v108, (by rw [ha.out]; exact putSel_upk 17 hb_ rfl rfl rfl), Q_HB, Q_HO105, Q_HO109⟩
            refine steps_cons ?_ ?_
            ·rintro b a w' ⟨v104, v108, ha, Q_HB, Q_HO105, Q_HO109⟩ hb_ hon hoff
             refine ⟨_, rfl, fun K hK => ?_⟩
             have e50 : a.tmps[50]? = some (.bool ((t106.toList == t110.toList) == ((ji13) == (ji19)))) := by rw [ha]; exact putSel_on (e := (21, 50, .bool ((t106.toList == t110.toList) == ((ji13) == (ji19))))) 11 rfl rfl (hon 21 (by kernel_rfl)) rfl
             try rw [(by assumption : ((t106.toList == t110.toList) == ((ji13) == (ji19))) = true)] at e50
             try rw [(by assumption : ((t106.toList == t110.toList) == ((ji13) == (ji19))) = false)] at e50
             replace ha := Aside0.mk ha
             have HB := Aside0.mk Q_HB
             have HO105 := Aside0.mk (Q_HO105 (hon 6 (by kernel_rfl)))
             have HO109 := Aside0.mk (Q_HO109 (hon 14 (by kernel_rfl)))
             refine off_ (wanted_off rfl rfl rfl (e50.trans (by first | rfl | (simp [*]; done)))) ?_
             refine hK.out _ _ ⟨v104, v108, (by rw [ha.out]; exact putSel_upk 18 hb_ rfl rfl rfl), Q_HB, Q_HO105, Q_HO109⟩
            refine steps_cons ?_ ?_
            ·rintro b a w' ⟨v104, v108, ha, Q_HB, Q_HO105, Q_HO109⟩ hb_ hon hoff
             refine ⟨_, rfl, fun K hK => ?_⟩
             have e50 : a.tmps[50]? = some (.bool ((t106.toList == t110.toList) == ((ji13) == (ji19)))) := by rw [ha]; exact putSel_on (e := (21, 50, .bool ((t106.toList == t110.toList) == ((ji13) == (ji19))))) 11 rfl rfl (hon 21 (by kernel_rfl)) rfl
             try rw [(by assumption : ((t106.toList == t110.toList) == ((ji13) == (ji19))) = true)] at e50
             try rw [(by assumption : ((t106.toList == t110.toList) == ((ji13) == (ji19))) = false)] at e50
             have e57 : a.tmps[57]? = some (undef) := by rw [ha]; exact putSel_on (e := (28, 57, undef)) 18 rfl rfl (hon 28 (by kernel_rfl)) rfl
             replace ha := Aside0.mk ha
             have HB := Aside0.mk Q_HB
             have HO105 := Aside0.mk (Q_HO105 (hon 6 (by kernel_rfl)))
             have HO109 := Aside0.mk (Q_HO109 (hon 14 (by kernel_rfl)))
             refine value_ (w1 := w') (v := .bool false) (by rfl) rfl ?_ ?_
             ·go_simp
              (try simp only [i64_w])
              first | rfl | (simp [bne]; done) | skip
             refine hK.out _ _ ⟨v104, v108, (by rw [ha.out]; exact putSel_upk 19 hb_ rfl rfl rfl), Q_HB, Q_HO105, Q_HO109⟩
            refine steps_cons ?_ ?_
            ·rintro b a w' ⟨v104, v108, ha, Q_HB, Q_HO105, Q_HO109⟩ hb_ hon hoff
             refine ⟨_, rfl, fun K hK => ?_⟩
             have e58 : a.tmps[58]? = some (.bool false) := by rw [ha]; exact putSel_on (e := (29, 58, .bool false)) 19 rfl rfl (hon 29 (by kernel_rfl)) rfl
             replace ha := Aside0.mk ha
             have HB := Aside0.mk Q_HB
             have HO105 := Aside0.mk (Q_HO105 (hon 6 (by kernel_rfl)))
             have HO109 := Aside0.mk (Q_HO109 (hon 14 (by kernel_rfl)))
             refine value_ (w1 := w') (v := .bool false) (by rfl) rfl ?_ ?_
             ·go_simp
              (try simp only [i64_w])
              first | rfl | (simp [bne]; done) | skip
             refine hK.out _ _ ⟨v104, v108, (by rw [ha.out]; exact putSel_upk 20 hb_ rfl rfl rfl), Q_HB, Q_HO105, Q_HO109⟩
            refine steps_cons ?_ ?_
            ·rintro b a w' ⟨v104, v108, ha, Q_HB, Q_HO105, Q_HO109⟩ hb_ hon hoff
             refine ⟨_, rfl, fun K hK => ?_⟩
             have e59 : a.tmps[59]? = some (.bool false) := by rw [ha]; exact putSel_on (e := (30, 59, .bool false)) 20 rfl rfl (hon 30 (by kernel_rfl)) rfl
             replace ha := Aside0.mk ha
             have HB := Aside0.mk Q_HB
             have HO105 := Aside0.mk (Q_HO105 (hon 6 (by kernel_rfl)))
             have HO109 := Aside0.mk (Q_HO109 (hon 14 (by kernel_rfl)))
             refine off_ (wanted_off rfl rfl rfl (e59.trans (by first | rfl | (simp [*]; done)))) ?_
             refine hK.out _ _ ⟨v104, v108, (by rw [ha.out]; exact putSel_upk 21 hb_ rfl rfl rfl), Q_HB, Q_HO105, Q_HO109⟩
            refine steps_cons ?_ ?_
            ·rintro b a w' ⟨v104, v108, ha, Q_HB, Q_HO105, Q_HO109⟩ hb_ hon hoff
             refine ⟨_, rfl, fun K hK => ?_⟩
             have e59 : a.tmps[59]? = some (.bool false) := by rw [ha]; exact putSel_on (e := (30, 59, .bool false)) 20 rfl rfl (hon 30 (by kernel_rfl)) rfl
             replace ha := Aside0.mk ha
             have HB := Aside0.mk Q_HB
             have HO105 := Aside0.mk (Q_HO105 (hon 6 (by kernel_rfl)))
             have HO109 := Aside0.mk (Q_HO109 (hon 14 (by kernel_rfl)))
             refine off_ (wanted_off rfl rfl rfl (e59.trans (by first | rfl | (simp [*]; done)))) ?_
             refine hK.out _ _ ⟨v104, v108, (by rw [ha.out]; exact putSel_upk 22 hb_ rfl rfl rfl), Q_HB, Q_HO105, Q_HO109⟩
            refine steps_cons ?_ ?_
            ·rintro b a w' ⟨v104, v108, ha, Q_HB, Q_HO105, Q_HO109⟩ hb_ hon hoff
             refine ⟨_, rfl, fun K hK => ?_⟩
             have e59 : a.tmps[59]? = some (.bool false) := by rw [ha]; exact putSel_on (e := (30, 59, .bool false)) 20 rfl rfl (hon 30 (by kernel_rfl)) rfl
             replace ha := Aside0.mk ha
             have HB := Aside0.mk Q_HB
             have HO105 := Aside0.mk (Q_HO105 (hon 6 (by kernel_rfl)))
             have HO109 := Aside0.mk (Q_HO109 (hon 14 (by kernel_rfl)))
             refine off_ (wanted_off rfl rfl rfl (e59.trans (by first | rfl | (simp [*]; done)))) ?_
             refine hK.out _ _ ⟨v104, v108, (by rw [ha.out]; exact putSel_upk 23 hb_ rfl rfl rfl), Q_HB, Q_HO105, Q_HO109⟩
            refine steps_cons ?_ ?_
            ·rintro b a w' ⟨v104, v108, ha, Q_HB, Q_HO105, Q_HO109⟩ hb_ hon hoff
             refine ⟨_, rfl, fun K hK => ?_⟩
             have e59 : a.tmps[59]? = some (.bool false) := by rw [ha]; exact putSel_on (e := (30, 59, .bool false)) 20 rfl rfl (hon 30 (by kernel_rfl)) rfl
             replace ha := Aside0.mk ha
             have HB := Aside0.mk Q_HB
             have HO105 := Aside0.mk (Q_HO105 (hon 6 (by kernel_rfl)))
             have HO109 := Aside0.mk (Q_HO109 (hon 14 (by kernel_rfl)))
             refine off_ (wanted_off rfl rfl rfl (e59.trans (by first | rfl | (simp [*]; done)))) ?_
             refine hK.out _ _ ⟨v104, v108, (by rw [ha.out]; exact putSel_upk 24 hb_ rfl rfl rfl), Q_HB, Q_HO105, Q_HO109⟩
            refine steps_cons ?_ ?_
            ·rintro b a w' ⟨v104, v108, ha, Q_HB, Q_HO105, Q_HO109⟩ hb_ hon hoff
             refine ⟨_, rfl, fun K hK => ?_⟩
             have e59 : a.tmps[59]? = some (.bool false) := by rw [ha]; exact putSel_on (e := (30, 59, .bool false)) 20 rfl rfl (hon 30 (by kernel_rfl)) rfl
             replace ha := Aside0.mk ha
             have HB := Aside0.mk Q_HB
             have HO105 := Aside0.mk (Q_HO105 (hon 6 (by kernel_rfl)))
             have HO109 := Aside0.mk (Q_HO109 (hon 14 (by kernel_rfl)))
             refine off_ (wanted_off rfl rfl rfl (e59.trans (by first | rfl | (simp [*]; done)))) ?_
             refine hK.out _ _ ⟨v104, v108, (by rw [ha.out]; exact putSel_upk 25 hb_ rfl rfl rfl), Q_HB, Q_HO105, Q_HO109⟩
            refine steps_cons ?_ ?_
            ·rintro b a w' ⟨v104, v108, ha, Q_HB, Q_HO105, Q_HO109⟩ hb_ hon hoff
             refine ⟨_, rfl, fun K hK => ?_⟩
             have e59 : a.tmps[59]? = some (.bool false) := by rw [ha]; exact putSel_on (e := (30, 59, .bool false)) 20 rfl rfl (hon 30 (by kernel_rfl)) rfl
             replace ha := Aside0.mk ha
             have HB := Aside0.mk Q_HB
             have HO105 := Aside0.mk (Q_HO105 (hon 6 (by kernel_rfl)))
             have HO109 := Aside0.mk (Q_HO109 (hon 14 (by kernel_rfl)))
             refine off_ (wanted_off rfl rfl rfl (e59.trans (by first | rfl | (simp [*]; done)))) ?_
             refine hK.out _ _ ⟨v104, v108, (by rw [ha.out]; exact putSel_upk 26 hb_ rfl rfl rfl), Q_HB, Q_HO105, Q_HO109⟩
            refine steps_cons ?_ ?_
            ·rintro b a w' ⟨v104, v108, ha, Q_HB, Q_HO105, Q_HO109⟩ hb_ hon hoff
             refine ⟨_, rfl, fun K hK => ?_⟩
             have e59 : a.tmps[59]? = some (.bool false) := by rw [ha]; exact putSel_on (e := (30, 59, .bool false)) 20 rfl rfl (hon 30 (by kernel_rfl)) rfl
             replace ha := Aside0.mk ha
             have HB := Aside0.mk Q_HB
             have HO105 := Aside0.mk (Q_HO105 (hon 6 (by kernel_rfl)))
             have HO109 := Aside0.mk (Q_HO109 (hon 14 (by kernel_rfl)))
             refine off_ (wanted_off rfl rfl rfl (e59.trans (by first | rfl | (simp [*]; done)))) ?_
             refine hK.out _ _ ⟨v104, v108, (by rw [ha.out]; exact putSel_upk 27 hb_ rfl rfl rfl), Q_HB, Q_HO105, Q_HO109⟩
            refine steps_cons ?_ ?_
            ·rintro b a w' ⟨v104, v108, ha, Q_HB, Q_HO105, Q_HO109⟩ hb_ hon hoff
             refine ⟨_, rfl, fun K hK => ?_⟩
             have e59 : a.tmps[59]? = some (.bool false) := by rw [ha]; exact putSel_on (e := (30, 59, .bool false)) 20 rfl rfl (hon 30 (by kernel_rfl)) rfl
             replace ha := Aside0.mk ha
             have HB := Aside0.mk Q_HB
             have HO105 := Aside0.mk (Q_HO105 (hon 6 (by kernel_rfl)))
             have HO109 := Aside0.mk (Q_HO109 (hon 14 (by kernel_rfl)))
             refine off_ (wanted_off rfl rfl rfl (e59.trans (by first | rfl | (simp [*]; done)))) ?_
             refine hK.out _ _ ⟨v104, v108, (by rw [ha.out]; exact putSel_upk 28 hb_ rfl rfl rfl), Q_HB, Q_HO105, Q_HO109⟩
            refine steps_cons ?_ ?_
            ·rintro b a w' ⟨v104, v108, ha, Q_HB, Q_HO105, Q_HO109⟩ hb_ hon hoff
             refine ⟨_, rfl, fun K hK => ?_⟩
             have e59 : a.tmps[59]? = some (.bool false) := by rw [ha]; exact putSel_on (e := (30, 59, .bool false)) 20 rfl rfl (hon 30 (by kernel_rfl)) rfl
             replace ha := Aside0.mk ha
             have HB := Aside0.mk Q_HB
             have HO105 := Aside0.mk (Q_HO105 (hon 6 (by kernel_rfl)))
             have HO109 := Aside0.mk (Q_HO109 (hon 14 (by kernel_rfl)))
             refine off_ (wanted_off rfl rfl rfl (e59.trans (by first | rfl | (simp [*]; done)))) ?_
             refine hK.out _ _ ⟨v104, v108, (by rw [ha.out]; exact putSel_upk 29 hb_ rfl rfl rfl), Q_HB, Q_HO105, Q_HO109⟩
            refine steps_cons ?_ ?_
            ·rintro b a w' ⟨v104, v108, ha, Q_HB, Q_HO105, Q_HO109⟩ hb_ hon hoff
             refine ⟨_, rfl, fun K hK => ?_⟩
             have e59 : a.tmps[59]? = some (.bool false) := by rw [ha]; exact putSel_on (e := (30, 59, .bool false)) 20 rfl rfl (hon 30 (by kernel_rfl)) rfl
             replace ha := Aside0.mk ha
             have HB := Aside0.mk Q_HB
             have HO105 := Aside0.mk (Q_HO105 (hon 6 (by kernel_rfl)))
             have HO109 := Aside0.mk (Q_HO109 (hon 14 (by kernel_rfl)))
             refine off_ (wanted_off rfl rfl rfl (e59.trans (by first | rfl | (simp [*]; done)))) ?_
             refine hK.out _ _ ⟨v104, v108, (by rw [ha.out]; exact putSel_upk 30 hb_ rfl rfl rfl), Q_HB, Q_HO105, Q_HO109⟩
            refine steps_cons ?_ ?_
            ·rintro b a w' ⟨v104, v108, ha, Q_HB, Q_HO105, Q_HO109⟩ hb_ hon hoff
             refine ⟨_, rfl, fun K hK => ?_⟩
             have e59 : a.tmps[59]? = some (.bool false) := by rw [ha]; exact putSel_on (e := (30, 59, .bool false)) 20 rfl rfl (hon 30 (by kernel_rfl)) rfl
             replace ha := Aside0.mk ha
             have HB := Aside0.mk Q_HB
             have HO105 := Aside0.mk (Q_HO105 (hon 6 (by kernel_rfl)))
             have HO109 := Aside0.mk (Q_HO109 (hon 14 (by kernel_rfl)))
             refine off_ (wanted_off rfl rfl rfl (e59.trans (by first | rfl | (simp [*]; done)))) ?_
             refine hK.out _ _ ⟨v104, v108, (by rw [ha.out]; exact putSel_upk 31 hb_ rfl rfl rfl), Q_HB, Q_HO105, Q_HO109⟩
            refine steps_cons ?_ ?_
            ·rintro b a w' ⟨v104, v108, ha, Q_HB, Q_HO105, Q_HO109⟩ hb_ hon hoff
             refine ⟨_, rfl, fun K hK => ?_⟩
             have e59 : a.tmps[59]? = some (.bool false) := by rw [ha]; exact putSel_on (e := (30, 59, .bool false)) 20 rfl rfl (hon 30 (by kernel_rfl)) rfl
             replace ha := Aside0.mk ha
             have HB := Aside0.mk Q_HB
             have HO105 := Aside0.mk (Q_HO105 (hon 6 (by kernel_rfl)))
             have HO109 := Aside0.mk (Q_HO109 (hon 14 (by kernel_rfl)))
             refine off_ (wanted_off rfl rfl rfl (e59.trans (by first | rfl | (simp [*]; done)))) ?_
             refine hK.out _ _ ⟨v104, v108, (by rw [ha.out]; exact putSel_upk 32 hb_ rfl rfl rfl), Q_HB, Q_HO105, Q_HO109⟩
            refine steps_cons ?_ ?_
            ·rintro b a w' ⟨v104, v108, ha, Q_HB, Q_HO105, Q_HO109⟩ hb_ hon hoff
             refine ⟨_, rfl, fun K hK => ?_⟩
             have e59 : a.tmps[59]? = some (.bool false) := by rw [ha]; exact putSel_on (e := (30, 59, .bool false)) 20 rfl rfl (hon 30 (by kernel_rfl)) rfl
             have e71 : a.tmps[71]? = some (undef) := by rw [ha]; exact putSel_on (e := (42, 71, undef)) 32 rfl rfl (hon 42 (by kernel_rfl)) rfl
             replace ha := Aside0.mk ha
             have HB := Aside0.mk Q_HB
             have HO105 := Aside0.mk (Q_HO105 (hon 6 (by kernel_rfl)))
             have HO109 := Aside0.mk (Q_HO109 (hon 14 (by kernel_rfl)))
             refine value_ (w1 := w') (v := .bool false) (by rfl) rfl ?_ ?_
             ·go_simp
              (try simp only [i64_w])
              first | rfl | (simp [bne]; done) | skip
             refine hK.out _ _ ⟨v104, v108, (by rw [ha.out]; exact putSel_upk 33 hb_ rfl rfl rfl), Q_HB, Q_HO105, Q_HO109⟩
            refine steps_cons ?_ ?_
            ·rintro b a w' ⟨v104, v108, ha, Q_HB, Q_HO105, Q_HO109⟩ hb_ hon hoff
             refine ⟨_, rfl, fun K hK => ?_⟩
             have e72 : a.tmps[72]? = some (.bool false) := by rw [ha]; exact putSel_on (e := (43, 72, .bool false)) 33 rfl rfl (hon 43 (by kernel_rfl)) rfl
             replace ha := Aside0.mk ha
             have HB := Aside0.mk Q_HB
             have HO105 := Aside0.mk (Q_HO105 (hon 6 (by kernel_rfl)))
             have HO109 := Aside0.mk (Q_HO109 (hon 14 (by kernel_rfl)))
             refine value_ (w1 := w') (v := .bool false) (by rfl) rfl ?_ ?_
             ·go_simp
              (try simp only [i64_w])
              first | rfl | (simp [bne]; done) | skip
             refine hK.out _ _ ⟨v104, v108, (by rw [ha.out]; exact putSel_upk 34 hb_ rfl rfl rfl), Q_HB, Q_HO105, Q_HO109⟩
            exact steps_nil
           rintro b a w91 hall ⟨v104, v108, ha, Q_HB, Q_HO105, Q_HO109⟩
           clear HB
           have hb2_ := hall 2 (by kernel_rfl)
           have hb5_ := hall 5 (by kernel_rfl)
           have hb6_ := hall 6 (by kernel_rfl)
           have hb7_ := hall 7 (by kernel_rfl)
           have hb10_ := hall 10 (by kernel_rfl)
           have hb13_ := hall 13 (by kernel_rfl)
           have hb14_ := hall 14 (by kernel_rfl)
           have hb15_ := hall 15 (by kernel_rfl)
           have hb16_ := hall 16 (by kernel_rfl)
           have hb19_ := hall 19 (by kernel_rfl)
           have hb20_ := hall 20 (by kernel_rfl)
           have hb21_ := hall 21 (by kernel_rfl)
           have hb22_ := hall 22 (by kernel_rfl)
           have hb23_ := hall 23 (by kernel_rfl)
           have hb24_ := hall 24 (by kernel_rfl)
           have hb25_ := hall 25 (by kernel_rfl)
           have hb26_ := hall 26 (by kernel_rfl)
           have hb27_ := hall 27 (by kernel_rfl)
           have hb28_ := hall 28 (by kernel_rfl)
           have hb29_ := hall 29 (by kernel_rfl)
           have hb30_ := hall 30 (by kernel_rfl)
           have hb31_ := hall 31 (by kernel_rfl)
           have hb32_ := hall 32 (by kernel_rfl)
           have hb33_ := hall 33 (by kernel_rfl)
           have hb34_ := hall 34 (by kernel_rfl)
           have hb35_ := hall 35 (by kernel_rfl)
           have hb36_ := hall 36 (by kernel_rfl)
           have hb37_ := hall 37 (by kernel_rfl)
           have hb38_ := hall 38 (by kernel_rfl)
           have hb39_ := hall 39 (by kernel_rfl)
           have hb40_ := hall 40 (by kernel_rfl)
           have hb41_ := hall 41 (by kernel_rfl)
           have hb42_ := hall 42 (by kernel_rfl)
           have hb43_ := hall 43 (by kernel_rfl)
           have hb44_ := hall 44 (by kernel_rfl)
           subst ha
           simp only [putSel, hb2_, hb5_, hb6_, hb7_, hb10_, hb13_, hb14_, hb15_, hb16_, hb19_, hb20_, hb21_, hb22_, hb23_, hb24_, hb25_, hb26_, hb27_, hb28_, hb29_, hb30_, hb31_, hb32_, hb33_, hb34_, hb35_, hb36_, hb37_, hb38_, hb39_, hb40_, hb41_, hb42_, hb43_, hb44_, if_true, Act.put, List.setIfInBounds_toArray, List.set_cons_zero, List.set_cons_succ]
           have HB := Aside0.mk Q_HB
           clear Q_HB
           have HO105 := Aside0.mk (Q_HO105 hb6_)
           clear Q_HO105
           have HO109 := Aside0.mk (Q_HO109 hb14_)
           clear Q_HO109
           clear hall hb2_ hb5_ hb6_ hb7_ hb10_ hb13_ hb14_ hb15_ hb16_ hb19_ hb20_ hb21_ hb22_ hb23_ hb24_ hb25_ hb26_ hb27_ hb28_ hb29_ hb30_ hb31_ hb32_ hb33_ hb34_ hb35_ hb36_ hb37_ hb38_ hb39_ hb40_ hb41_ hb42_ hb43_ hb44_
           try go_wp2
           go_ret
           exact ⟨by first | rfl | (simp [errW_none, errW_some] <;> rfl) | (simp only [← hji13, ← hji19]; first | rfl | (simp [errW_none, errW_some] <;> rfl)) | (simp [*, errW_none, errW_some] <;> rfl), by repeat (first | (with_reducible first | exact HB.out | apply below_alloc | apply pw_below_drewN | apply below_drew1) | exact HB.out)⟩
         ·rw [if_neg c21] at H
          exact absurd H (by simp)
        ·rw [if_neg c20] at H
         exact absurd H (by simp)
       ·rw [if_neg c15] at H
        exact absurd H (by simp)
      ·rw [if_neg c14] at H
       exact absurd H (by simp)
 ·replace c5 := Bool.eq_false_iff.mpr c5
  subst c5
  have H1 : (some false) = some r := by rw [if_neg (show ¬ (false = true) by decide)] at H; exact H
  clear H
  have H := H1
  clear H1
  obtain rfl := Option.some.inj H
  go_enter Tryz.func10, Tryz.ntmps10
  go_wp2_with (first | ((with_reducible refine gate_callee (f := 16) rfl ?_); refine goesL_ (some 8) rfl rfl Tryz.func16 (by kernel_rfl) rfl #[] rfl (by (try simp only [List.map_toArray, List.map_cons, List.map_nil]); first | done | rfl | (simp only [List.length_drop, List.length_take]; rfl)) ?_; (with_reducible refine (shipwrightlaw1_begun.calls  false _ ?side99 A4.out).mono ?_); (case side99 => exact GOK.below HG.out (by repeat (first | (with_reducible first | exact HB.out | apply below_alloc | apply pw_below_drewN | apply below_drew1) | exact HB.out))); rintro e w92 ⟨rfl, hb⟩; refine ⟨_, rfl, ?_⟩; have n0_ := Aside0.mk (below_step (by repeat (first | (with_reducible first | exact HB.out | apply below_alloc | apply pw_below_drewN | apply below_drew1) | exact HB.out)) hb); clear HB; have HB := n0_; clear n0_; (try clear hb); (try clear hb2); (try clear hk); (try clear hi)))
  go_ret
  exact ⟨by first | rfl | (simp [errW_none, errW_some] <;> rfl) | (simp [*, errW_none, errW_some] <;> rfl), by repeat (first | (with_reducible first | exact HB.out | apply below_alloc | apply pw_below_drewN | apply below_drew1) | exact HB.out)⟩

end Go.Proofs.YtobbliglnjgbaaaGreatDoor.Lf
