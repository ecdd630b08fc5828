-- By xprint.py (this session's driver of the kit's print): out of the translation; Lean checks it.
import Derived.Test.YtobbliglnjgbaaaGreatDoorProg
import Derived.Below
import Derived.Deep.Draws
import Derived.Deep.AppendLies
import Derived.Maps.AppendAt
import Derived.OwnWalk
import Derived.Laws.BytesArg
import Derived.Laws.MakeOwn
import Derived.Laws.OwnMore
import Derived.Deep.OwnRows
import Derived.Tactics
import Derived.Lib.ConvBytes
import Derived.Laws.Slices
import Derived.WalkKit
import Derived.KernelRfl
import Derived.RowKit3
import Derived.Deep.LoopGhost
import Derived.Deep.QuietTactic
import Derived.BigQuiet
import Derived.WideLaws
import Derived.Deep.DeepCutAuto
import Derived.Deep.CutBlock
import Derived.Deep.RegionHeld3
import Derived.Laws.Rows
import Derived.Lib.AppendStr
import Derived.ArgAppend
import Derived.Laws.IdiomCopy
import Derived.OrdersHeld
import Derived.Laws.BitsLemmas
import Derived.RowKit
import Derived.Test.YtobbliglnjgbaaaGreatDoorBegun
import Derived.Test.YtobbliglnjgbaaaGreatDoorPf
import Derived.Test.YtobbliglnjgbaaaGreatDoorPg
import Derived.Test.YtobbliglnjgbaaaGreatDoorWWords
import Derived.Test.YtobbliglnjgbaaaGreatDoorWLast
import Derived.Test.YtobbliglnjgbaaaGreatDoorWTab
import Derived.Test.YtobbliglnjgbaaaGreatDoorWFour
import Derived.Test.YtobbliglnjgbaaaGreatDoorWQPut
import Derived.Test.YtobbliglnjgbaaaGreatDoorWApart
import Derived.Test.YtobbliglnjgbaaaGreatDoorWArr
import Derived.Test.YtobbliglnjgbaaaGreatDoorWZeros
import Derived.Test.YtobbliglnjgbaaaGreatDoorWFoot
import Derived.Test.YtobbliglnjgbaaaGreatDoorWKept
import Derived.Test.YtobbliglnjgbaaaGreatDoorWShare
import Derived.Test.YtobbliglnjgbaaaGreatDoorWN
import Derived.Test.YtobbliglnjgbaaaGreatDoorWFootNe
import Derived.Test.YtobbliglnjgbaaaGreatDoorWAt
import Derived.Test.YtobbliglnjgbaaaGreatDoorWEqStruct
import Derived.Test.YtobbliglnjgbaaaGreatDoorWRepsOne
import Derived.Test.YtobbliglnjgbaaaGreatDoorWInv
import Derived.Test.YtobbliglnjgbaaaGreatDoorWInvWords
import Derived.Test.YtobbliglnjgbaaaGreatDoorWGuard
import Derived.Test.YtobbliglnjgbaaaGreatDoorWNEv
import Derived.Test.YtobbliglnjgbaaaGreatDoorWMore
import Derived.Test.YtobbliglnjgbaaaGreatDoorWSized
namespace Go.Proofs.YtobbliglnjgbaaaGreatDoor.Lg
open Go.Proofs.YtobbliglnjgbaaaGreatDoor.X Go.Proofs.YtobbliglnjgbaaaGreatDoor.Pb Go.Proofs.YtobbliglnjgbaaaGreatDoor.Pc Go.Proofs.YtobbliglnjgbaaaGreatDoor.Pf Go.Proofs.YtobbliglnjgbaaaGreatDoor.Pg
open Go.RowKit Go.Proofs.YtobbliglnjgbaaaGreatDoorW.PrintWords Go.Proofs.YtobbliglnjgbaaaGreatDoorW.PrintLast Go.Proofs.YtobbliglnjgbaaaGreatDoorW.PrintMore
attribute [local go_sem] max2_int min2_int max_two min_two max_three min_three max_four min_four   -- for this text's walks alone
set_option linter.unusedVariables false
set_option linter.unusedSimpArgs false



def errW : Option Int → Value
  | none => .nilIface
  | some c => .iface 0 (.int .i64 c)
theorem errW_none : errW none = .nilIface := rfl
theorem errW_some (c : Int) : errW (some c) = .iface 0 (.int .i64 c) := rfl

-- the values' own types

end Go.Proofs.YtobbliglnjgbaaaGreatDoor.Lg
namespace Go.Proofs.YtobbliglnjgbaaaGreatDoor.Lg
open Go.Proofs.YtobbliglnjgbaaaGreatDoor.X Go.Proofs.YtobbliglnjgbaaaGreatDoor.Pb Go.Proofs.YtobbliglnjgbaaaGreatDoor.Pc Go.Proofs.YtobbliglnjgbaaaGreatDoor.Pf Go.Proofs.YtobbliglnjgbaaaGreatDoor.Pg
open Go.RowKit Go.Proofs.YtobbliglnjgbaaaGreatDoorW.PrintWords Go.Proofs.YtobbliglnjgbaaaGreatDoorW.PrintLast Go.Proofs.YtobbliglnjgbaaaGreatDoorW.PrintMore
attribute [local go_sem] max2_int min2_int max_two min_two max_three min_three max_four min_four   -- for this text's walks alone
set_option linter.unusedVariables false
set_option linter.unusedSimpArgs false

-- EXT: function 55 (shipwrightref1_GetNumber)

/-! ### shipwrightref1_Get: function 34 -/
mutual
def shipwrightref1_Get.l0 : Nat → ByteArray → List ByteArray → Option (List ByteArray × Bool)
  | 0, _, _ => none
  | k + 1, x0, x4 => if x0.toList = ([] : List UInt8) then (some (x4, true)) else (shipwrightref1_Get.l1 k x0 x4 0)
def shipwrightref1_Get.l1 : Nat → ByteArray → List ByteArray → Int → Option (List ByteArray × Bool)
  | 0, _, _, _ => none
  | k + 1, x0, x4, x5 => if x5 < (x0.size : Int) then (if 0 ≤ x5 then (if (bt x0 x5) = 58 then (if x5 ≤ (x0.size : Int) then ((shipwrightref1_GetNumber.f k (x0.extract 0 (x5 : Int).toNat) (x0.size : Int)).bind fun bt101 => (if bt101.2 = true then (if x5 = (x0.size : Int) then (some (([] : List ByteArray), false)) else (if (wrap64 ((wrap64 ((x0.size : Int) - x5)) - 1)) < bt101.1 then (some (([] : List ByteArray), false)) else (if 0 ≤ (wrap64 (x5 + 1)) then (if (wrap64 (x5 + 1)) ≤ (wrap64 ((wrap64 (x5 + 1)) + bt101.1)) then (if (wrap64 ((wrap64 (x5 + 1)) + bt101.1)) ≤ (x0.size : Int) then (if x4.length < 8796093022208 then (if 0 ≤ (wrap64 ((wrap64 (x5 + 1)) + bt101.1)) then (shipwrightref1_Get.l0 k (x0.extract ((wrap64 ((wrap64 (x5 + 1)) + bt101.1)) : Int).toNat x0.size) (x4 ++ [x0.extract ((wrap64 (x5 + 1)) : Int).toNat ((wrap64 ((wrap64 (x5 + 1)) + bt101.1)) : Int).toNat])) else (none)) else (none)) else (none)) else (none)) else (none)))) else (some (([] : List ByteArray), false)))) else (none)) else (shipwrightref1_Get.l1 k x0 x4 (wrap64 (x5 + 1)))) else (none)) else (if 0 ≤ x5 then (if x5 ≤ (x0.size : Int) then ((shipwrightref1_GetNumber.f k (x0.extract 0 (x5 : Int).toNat) (x0.size : Int)).bind fun bt106 => (if bt106.2 = true then (if x5 = (x0.size : Int) then (some (([] : List ByteArray), false)) else (if (wrap64 ((wrap64 ((x0.size : Int) - x5)) - 1)) < bt106.1 then (some (([] : List ByteArray), false)) else (if 0 ≤ (wrap64 (x5 + 1)) then (if (wrap64 (x5 + 1)) ≤ (wrap64 ((wrap64 (x5 + 1)) + bt106.1)) then (if (wrap64 ((wrap64 (x5 + 1)) + bt106.1)) ≤ (x0.size : Int) then (if x4.length < 8796093022208 then (if 0 ≤ (wrap64 ((wrap64 (x5 + 1)) + bt106.1)) then (shipwrightref1_Get.l0 k (x0.extract ((wrap64 ((wrap64 (x5 + 1)) + bt106.1)) : Int).toNat x0.size) (x4 ++ [x0.extract ((wrap64 (x5 + 1)) : Int).toNat ((wrap64 ((wrap64 (x5 + 1)) + bt106.1)) : Int).toNat])) else (none)) else (none)) else (none)) else (none)) else (none)))) else (some (([] : List ByteArray), false)))) else (none)) else (none))
end
def shipwrightref1_Get.f (k : Nat) (a0 : ByteArray) : Option (List ByteArray × Bool) := shipwrightref1_Get.l0 k a0 ([] : List ByteArray)
theorem shipwrightref1_Get.mono_l : ∀ k, (∀ y0 y1, LeO (shipwrightref1_Get.l0 k y0 y1) (shipwrightref1_Get.l0 (k + 1) y0 y1)) ∧ (∀ y0 y1 y2, LeO (shipwrightref1_Get.l1 k y0 y1 y2) (shipwrightref1_Get.l1 (k + 1) y0 y1 y2))
  | 0 => ⟨fun _ _ r h => by simp [shipwrightref1_Get.l0] at h, fun _ _ _ r h => by simp [shipwrightref1_Get.l1] at h⟩
  | k + 1 => by
    obtain ⟨ih0, ih1⟩ := shipwrightref1_Get.mono_l k
    refine ⟨?_, ?_⟩
    · intro y0 y1
      unfold shipwrightref1_Get.l0
      repeat' first
      | (with_reducible exact ih0 _ _)
      | (with_reducible exact ih1 _ _ _)
      | (with_reducible exact shipwrightref1_GetNumber.mono _ _ _)
      | (with_reducible exact LeO.refl _)
      | (with_reducible exact LeO.none _)
      | (with_reducible refine LeO.ite ?_ ?_)
      | (with_reducible refine LeO.bind ?_ (fun _ => ?_))
      | exact ih0 _ _
      | exact ih1 _ _ _
      | exact shipwrightref1_GetNumber.mono _ _ _
      | exact LeO.none _
      | refine LeO.ite ?_ ?_
      | refine LeO.bind ?_ (fun _ => ?_)
    · intro y0 y1 y2
      unfold shipwrightref1_Get.l1
      repeat' first
      | (with_reducible exact ih0 _ _)
      | (with_reducible exact ih1 _ _ _)
      | (with_reducible exact shipwrightref1_GetNumber.mono _ _ _)
      | (with_reducible exact LeO.refl _)
      | (with_reducible exact LeO.none _)
      | (with_reducible refine LeO.ite ?_ ?_)
      | (with_reducible refine LeO.bind ?_ (fun _ => ?_))
      | exact ih0 _ _
      | exact ih1 _ _ _
      | exact shipwrightref1_GetNumber.mono _ _ _
      | exact LeO.none _
      | refine LeO.ite ?_ ?_
      | refine LeO.bind ?_ (fun _ => ?_)
theorem shipwrightref1_Get.mono : ∀ a0 k, LeO (shipwrightref1_Get.f k a0) (shipwrightref1_Get.f (k + 1) a0) := by
  intro a0 k
  obtain ⟨ih0, ih1⟩ := shipwrightref1_Get.mono_l k
  unfold shipwrightref1_Get.f
  repeat' first
      | (with_reducible exact ih0 _ _)
      | (with_reducible exact ih1 _ _ _)
      | (with_reducible exact shipwrightref1_GetNumber.mono _ _ _)
      | (with_reducible exact LeO.refl _)
      | (with_reducible exact LeO.none _)
      | (with_reducible refine LeO.ite ?_ ?_)
      | (with_reducible refine LeO.bind ?_ (fun _ => ?_))
      | exact ih0 _ _
      | exact ih1 _ _ _
      | exact shipwrightref1_GetNumber.mono _ _ _
      | exact LeO.none _
      | refine LeO.ite ?_ ?_
      | refine LeO.bind ?_ (fun _ => ?_)
set_option maxHeartbeats 8000000 in
set_option maxRecDepth 100000 in
theorem shipwrightref1_Get.calls (k : Nat) (a0 : ByteArray) (r1 : List ByteArray) (r2 : Bool) (w : World) (hG : GOK w) (h : shipwrightref1_Get.f k a0 = some (r1, r2)) :
    Calls Tryz.prog 34 #[.string a0] w fun e w' => ∃ v0_ : Value, e = .returned (.tuple #[v0_, .bool r2]) ∧ Kd.R Kd.string 9 w' w.heap.size (fun _ => True) v0_ r1 ∧ Below w.heap.size w w' := by
  have HB := Aside0.mk (Below.refl w.heap.size w)
  have HG := Aside0.mk hG
  clear hG
  have H : (shipwrightref1_Get.l0 k a0 ([] : List ByteArray)) = some (r1, r2) := h
  clear h
  have H' := Aside0.mk H
  clear H
  go_enter Tryz.func34, Tryz.ntmps34
  go_wp2
  go_loopg [0, 4] k (fun kq v0 v4 w' => ∃ (x0_1 : ByteArray) (x4_1 : List ByteArray), v0 = .string x0_1 ∧ Aside0 (shipwrightref1_Get.l0 kq x0_1 x4_1 = some (r1, r2)) ∧ Aside0 (kq ≤ k) ∧ Aside0 (Kd.R Kd.string 9 w' w.heap.size (fun _ => True) v4 x4_1) ∧ Aside0 (Below w.heap.size w w'))
  case atStart => exact ⟨(a0), (([] : List ByteArray)), (by first | rfl | (simp; done) | (simp [*]; done) | (simp [bne]; done) | (simp [*, bne]; done)), H', ⟨Nat.le_refl _⟩, ⟨by first | exact Kd.R_nil _ _ _ _ _ | exact Kd.N_nil _ _ _ _ _ | exact Kd.V_nil _ _ _ _ _ | exact Kd.Q_nil _ _ _ _ _ | exact Kd.S_nil _ _ _ _ _⟩, ⟨by repeat (first | (with_reducible first | exact HB.out | apply below_alloc | apply pw_below_drewN | apply below_drew1) | exact HB.out)⟩⟩
  case round =>
    clear H'
    obtain ⟨x0_1, x4_1, rfl, HA, HK1, HO_4, HB⟩ := hrel
    cases gk with
    | zero => exact absurd HA.out (by simp [shipwrightref1_Get.l0])
    | succ k1 =>
      have H := HA.out
      clear HA
      simp only [shipwrightref1_Get.l0] at H
      by_cases c2 : x0_1.toList = ([] : List UInt8)
      · rw [if_pos c2] at H
        have c2b0 : (x0_1.toList == ([] : List UInt8)) = true := beq_iff_eq.mpr c2
        have c2b1 : (x0_1.toList != ([] : List UInt8)) = false := bne_eq_false_iff_eq.mpr c2
        clear c2
        simp only [Option.some.injEq, Prod.mk.injEq] at H
        obtain ⟨rfl, rfl⟩ := H
        go_wp2
        go_ret2
        exact ⟨_, by first | rfl | (simp [errW_none, errW_some] <;> rfl) | (simp [*, errW_none, errW_some] <;> rfl), by (with_reducible repeat (first | apply Kd.R_alloc | apply Kd.R_drewN | apply Kd.R_drew)); exact HO_4.out, by repeat (first | (with_reducible first | exact HB.out | apply below_alloc | apply pw_below_drewN | apply below_drew1) | exact HB.out)⟩
      · rw [if_neg c2] at H
        have c2b0 : (x0_1.toList == ([] : List UInt8)) = false := beq_eq_false_iff_ne.mpr c2
        have c2b1 : (x0_1.toList != ([] : List UInt8)) = true := bne_iff_ne.mpr c2
        have H' := Aside0.mk H
        clear H
        go_wp2
        go_loopg [5] k1 (fun kq v5 w' => ∃ (x5_2 : Int), v5 = .int .i64 x5_2 ∧ Aside0 (shipwrightref1_Get.l1 kq x0_1 x4_1 x5_2 = some (r1, r2)) ∧ Aside0 (kq ≤ k1) ∧ Aside0 (Kd.R Kd.string 9 w' w.heap.size (fun _ => True) u4 x4_1) ∧ Aside0 (Below w.heap.size w w'))
        case atStart => exact ⟨(0), (by first | rfl | (simp; done) | (simp [*]; done) | (simp [bne]; done) | (simp [*, bne]; done)), H', ⟨Nat.le_refl _⟩, ⟨by (with_reducible repeat (first | apply Kd.R_alloc | apply Kd.R_drewN | apply Kd.R_drew)); exact HO_4.out⟩, ⟨by repeat (first | (with_reducible first | exact HB.out | apply below_alloc | apply pw_below_drewN | apply below_drew1) | exact HB.out)⟩⟩
        case round =>
          clear H'
          try clear c2
          try clear c2b0
          try clear c2b1
          try clear p2
          obtain ⟨x5_2, rfl, HA, HK2, HO_4, HB⟩ := hrel
          cases gk with
          | zero => exact absurd HA.out (by simp [shipwrightref1_Get.l1])
          | succ k2 =>
            have H := HA.out
            clear HA
            simp only [shipwrightref1_Get.l1] at H
            by_cases c3 : x5_2 < (x0_1.size : Int)
            · rw [if_pos c3] at H
              have c3b0 : decide (x5_2 < (x0_1.size : Int)) = true := decide_eq_true c3
              clear c3
              by_cases c4 : 0 ≤ x5_2
              · rw [if_pos c4] at H
                have c4b0 : decide (0 ≤ x5_2) = true := decide_eq_true c4
                clear c4
                by_cases c6 : (bt x0_1 x5_2) = 58
                · rw [if_pos c6] at H
                  have c6b0 : ((bt x0_1 x5_2) == 58) = true := beq_iff_eq.mpr c6
                  have c6b1 : ((bt x0_1 x5_2) != 58) = false := bne_eq_false_iff_eq.mpr c6
                  clear c6
                  have c7b0 := eq_true (of_decide_eq_true (by first | (with_reducible assumption) | assumption) : 0 ≤ x5_2)
                  by_cases c8 : x5_2 ≤ (x0_1.size : Int)
                  · rw [if_pos c8] at H
                    have c8b0 := eq_true c8
                    have c8b1 : decide (x5_2 ≤ (x0_1.size : Int)) = true := decide_eq_true c8
                    clear c8
                    replace H := Option.bind_eq_some_iff.mp H
                    obtain ⟨⟨t101, t102⟩, A90, H⟩ := H
                    replace H : (if t102 = true then (if x5_2 = (x0_1.size : Int) then (some (([] : List ByteArray), false)) else (if (wrap64 ((wrap64 ((x0_1.size : Int) - x5_2)) - 1)) < t101 then (some (([] : List ByteArray), false)) else (if 0 ≤ (wrap64 (x5_2 + 1)) then (if (wrap64 (x5_2 + 1)) ≤ (wrap64 ((wrap64 (x5_2 + 1)) + t101)) then (if (wrap64 ((wrap64 (x5_2 + 1)) + t101)) ≤ (x0_1.size : Int) then (if x4_1.length < 8796093022208 then (if 0 ≤ (wrap64 ((wrap64 (x5_2 + 1)) + t101)) then (shipwrightref1_Get.l0 k2 (x0_1.extract ((wrap64 ((wrap64 (x5_2 + 1)) + t101)) : Int).toNat x0_1.size) (x4_1 ++ [x0_1.extract ((wrap64 (x5_2 + 1)) : Int).toNat ((wrap64 ((wrap64 (x5_2 + 1)) + t101)) : Int).toNat])) else (none)) else (none)) else (none)) else (none)) else (none)))) else (some (([] : List ByteArray), false))) = some (r1, r2) := H
                    have A9 := Aside0.mk A90
                    clear A90
                    by_cases c10 : t102 = true
                    · subst c10
                      have H1 : (if x5_2 = (x0_1.size : Int) then (some (([] : List ByteArray), false)) else (if (wrap64 ((wrap64 ((x0_1.size : Int) - x5_2)) - 1)) < t101 then (some (([] : List ByteArray), false)) else (if 0 ≤ (wrap64 (x5_2 + 1)) then (if (wrap64 (x5_2 + 1)) ≤ (wrap64 ((wrap64 (x5_2 + 1)) + t101)) then (if (wrap64 ((wrap64 (x5_2 + 1)) + t101)) ≤ (x0_1.size : Int) then (if x4_1.length < 8796093022208 then (if 0 ≤ (wrap64 ((wrap64 (x5_2 + 1)) + t101)) then (shipwrightref1_Get.l0 k2 (x0_1.extract ((wrap64 ((wrap64 (x5_2 + 1)) + t101)) : Int).toNat x0_1.size) (x4_1 ++ [x0_1.extract ((wrap64 (x5_2 + 1)) : Int).toNat ((wrap64 ((wrap64 (x5_2 + 1)) + t101)) : Int).toNat])) else (none)) else (none)) else (none)) else (none)) else (none)))) = some (r1, r2) := by rw [if_pos rfl] at H; exact H
                      clear H
                      have H := H1
                      clear H1
                      by_cases c11 : x5_2 = (x0_1.size : Int)
                      · rw [if_pos c11] at H
                        have c11b0 : (x5_2 == (x0_1.size : Int)) = true := beq_iff_eq.mpr c11
                        have c11b1 : (x5_2 != (x0_1.size : Int)) = false := bne_eq_false_iff_eq.mpr c11
                        clear c11
                        simp only [Option.some.injEq, Prod.mk.injEq] at H
                        obtain ⟨rfl, rfl⟩ := H
                        have p5 : 0 ≤ (x5_2 : Int) := of_decide_eq_true (by first | (with_reducible assumption) | assumption)
                        have q5 : x5_2 < (x0_1.size : Int) := of_decide_eq_true (by first | (with_reducible assumption) | assumption)
                        have hx5 := bt_at x0_1 x5_2
                        replace p5 := eq_true p5
                        replace q5 := eq_true q5
                        go_wp2_with (first | ((with_reducible refine gate_callee (f := 55) rfl ?_); refine goesL_ (some 28) rfl rfl Tryz.func55 (by kernel_rfl) rfl #[.string (x0_1.extract 0 (x5_2 : Int).toNat), .int .i64 (x0_1.size : Int)] rfl (by (try simp only [List.map_toArray, List.map_cons, List.map_nil]); first | done | rfl | (simp only [List.length_drop, List.length_take]; rfl)) ?_; (with_reducible refine (shipwrightref1_GetNumber.calls k2 (x0_1.extract 0 (x5_2 : Int).toNat) (x0_1.size : Int) t101 true _ ?side99 A9.out).mono ?_); (case side99 => exact GOK.below HG.out (by repeat (first | (with_reducible first | exact HB.out | apply below_alloc | apply pw_below_drewN | apply below_drew1) | exact HB.out))); rintro e w' ⟨rfl, ⟨nd, rfl⟩⟩; refine ⟨_, rfl, ?_⟩))
                        go_ret2
                        exact ⟨_, by first | rfl | (simp [errW_none, errW_some] <;> rfl) | (simp [*, errW_none, errW_some] <;> rfl), by first | exact Kd.R_nil _ _ _ _ _ | exact Kd.N_nil _ _ _ _ _ | exact Kd.V_nil _ _ _ _ _ | exact Kd.Q_nil _ _ _ _ _ | exact Kd.S_nil _ _ _ _ _, by repeat (first | (with_reducible first | exact HB.out | apply below_alloc | apply pw_below_drewN | apply below_drew1) | exact HB.out)⟩
                      · rw [if_neg c11] at H
                        have c11b0 : (x5_2 == (x0_1.size : Int)) = false := beq_eq_false_iff_ne.mpr c11
                        have c11b1 : (x5_2 != (x0_1.size : Int)) = true := bne_iff_ne.mpr c11
                        by_cases c12 : (wrap64 ((wrap64 ((x0_1.size : Int) - x5_2)) - 1)) < t101
                        · rw [if_pos c12] at H
                          have c12b0 : decide ((wrap64 ((wrap64 ((x0_1.size : Int) - x5_2)) - 1)) < t101) = true := decide_eq_true c12
                          clear c12
                          simp only [Option.some.injEq, Prod.mk.injEq] at H
                          obtain ⟨rfl, rfl⟩ := H
                          have p5 : 0 ≤ (x5_2 : Int) := of_decide_eq_true (by first | (with_reducible assumption) | assumption)
                          have q5 : x5_2 < (x0_1.size : Int) := of_decide_eq_true (by first | (with_reducible assumption) | assumption)
                          have hx5 := bt_at x0_1 x5_2
                          replace p5 := eq_true p5
                          replace q5 := eq_true q5
                          go_wp2_with (first | ((with_reducible refine gate_callee (f := 55) rfl ?_); refine goesL_ (some 28) rfl rfl Tryz.func55 (by kernel_rfl) rfl #[.string (x0_1.extract 0 (x5_2 : Int).toNat), .int .i64 (x0_1.size : Int)] rfl (by (try simp only [List.map_toArray, List.map_cons, List.map_nil]); first | done | rfl | (simp only [List.length_drop, List.length_take]; rfl)) ?_; (with_reducible refine (shipwrightref1_GetNumber.calls k2 (x0_1.extract 0 (x5_2 : Int).toNat) (x0_1.size : Int) t101 true _ ?side99 A9.out).mono ?_); (case side99 => exact GOK.below HG.out (by repeat (first | (with_reducible first | exact HB.out | apply below_alloc | apply pw_below_drewN | apply below_drew1) | exact HB.out))); rintro e w' ⟨rfl, ⟨nd, rfl⟩⟩; refine ⟨_, rfl, ?_⟩))
                          go_ret2
                          exact ⟨_, by first | rfl | (simp [errW_none, errW_some] <;> rfl) | (simp [*, errW_none, errW_some] <;> rfl), by first | exact Kd.R_nil _ _ _ _ _ | exact Kd.N_nil _ _ _ _ _ | exact Kd.V_nil _ _ _ _ _ | exact Kd.Q_nil _ _ _ _ _ | exact Kd.S_nil _ _ _ _ _, by repeat (first | (with_reducible first | exact HB.out | apply below_alloc | apply pw_below_drewN | apply below_drew1) | exact HB.out)⟩
                        · rw [if_neg c12] at H
                          have c12b0 : decide ((wrap64 ((wrap64 ((x0_1.size : Int) - x5_2)) - 1)) < t101) = false := decide_eq_false c12
                          clear c12
                          obtain ⟨ji13, hji13⟩ : ∃ j_ : Int, (wrap64 (x5_2 + 1)) = j_ := ⟨_, rfl⟩
                          replace H : (if 0 ≤ (ji13) then (if (ji13) ≤ (wrap64 ((ji13) + t101)) then (if (wrap64 ((ji13) + t101)) ≤ (x0_1.size : Int) then (if x4_1.length < 8796093022208 then (if 0 ≤ (wrap64 ((ji13) + t101)) then (shipwrightref1_Get.l0 k2 (x0_1.extract ((wrap64 ((ji13) + t101)) : Int).toNat x0_1.size) (x4_1 ++ [x0_1.extract ((ji13) : Int).toNat ((wrap64 ((ji13) + t101)) : Int).toNat])) else (none)) else (none)) else (none)) else (none)) else (none)) = some (r1, r2) := by first | (rw [hji13] at H; exact H) | (simp only [hji13] at H ⊢; exact H)
                          (try rw [hji13] at A9)
                          have hji13w : (IntKind.i64.wrap (x5_2 + 1)) = ji13 := (i64_w _).trans hji13
                          by_cases c14 : 0 ≤ (ji13)
                          · rw [if_pos c14] at H
                            have c14b0 := eq_true c14
                            have c14b1 : decide (0 ≤ (ji13)) = true := decide_eq_true c14
                            clear c14
                            by_cases c15 : (ji13) ≤ (wrap64 ((ji13) + t101))
                            · rw [if_pos c15] at H
                              have c15b0 := eq_true c15
                              have c15b1 : decide ((ji13) ≤ (wrap64 ((ji13) + t101))) = true := decide_eq_true c15
                              by_cases c16 : (wrap64 ((ji13) + t101)) ≤ (x0_1.size : Int)
                              · rw [if_pos c16] at H
                                have c16b0 := eq_true c16
                                have c16b1 : decide ((wrap64 ((ji13) + t101)) ≤ (x0_1.size : Int)) = true := decide_eq_true c16
                                by_cases c17 : x4_1.length < 8796093022208
                                · rw [if_pos c17] at H
                                  have LMc17 := Aside0.mk c17
                                  clear c17
                                  obtain ⟨y103, hy103⟩ : ∃ y_ : List ByteArray, y_ = (x4_1 ++ [x0_1.extract ((ji13) : Int).toNat ((wrap64 ((ji13) + t101)) : Int).toNat]) := ⟨_, rfl⟩
                                  replace H : (if 0 ≤ (wrap64 ((ji13) + t101)) then (shipwrightref1_Get.l0 k2 (x0_1.extract ((wrap64 ((ji13) + t101)) : Int).toNat x0_1.size) y103) else (none)) = some (r1, r2) := by first | (rw [hy103]; with_reducible exact H) | (have H2_ := (Option.bind_some _ _).symm.trans H; rw [hy103]; with_reducible exact H2_) | (have H2_ := (Option.bind_some _ _).symm.trans H; with_reducible exact H2_) | with_reducible exact H | (rw [hy103]; exact H) | exact H
                                  have Ny103 := Aside0.mk hy103
                                  clear hy103
                                  obtain ⟨ji18, hji18⟩ : ∃ j_ : Int, (wrap64 ((ji13) + t101)) = j_ := ⟨_, rfl⟩
                                  replace H : (if 0 ≤ (ji18) then (shipwrightref1_Get.l0 k2 (x0_1.extract ((ji18) : Int).toNat x0_1.size) y103) else (none)) = some (r1, r2) := by first | (rw [hji18] at H; exact H) | (simp only [hji18] at H ⊢; exact H)
                                  (try rw [hji18] at c15b0)
                                  (try rw [hji18] at c15b1)
                                  (try rw [hji18] at c15)
                                  (try rw [hji18] at c16b0)
                                  (try rw [hji18] at c16b1)
                                  (try rw [hji18] at c16)
                                  (try rw [hji18] at A9)
                                  (try rw [hji18] at Ny103)
                                  have hji18w : (IntKind.i64.wrap ((ji13) + t101)) = ji18 := (i64_w _).trans hji18
                                  by_cases c19 : 0 ≤ (ji18)
                                  · rw [if_pos c19] at H
                                    have c19b0 := eq_true c19
                                    have c19b1 : decide (0 ≤ (ji18)) = true := decide_eq_true c19
                                    clear c19
                                    have c20b0 := eq_true (of_decide_eq_true (by first | (with_reducible assumption) | assumption) : (ji18) ≤ (x0_1.size : Int))
                                    have H' := Aside0.mk H
                                    clear H
                                    have p5 : 0 ≤ (x5_2 : Int) := of_decide_eq_true (by first | (with_reducible assumption) | assumption)
                                    have q5 : x5_2 < (x0_1.size : Int) := of_decide_eq_true (by first | (with_reducible assumption) | assumption)
                                    have hx5 := bt_at x0_1 x5_2
                                    replace p5 := eq_true p5
                                    replace q5 := eq_true q5
                                    go_wp2_with (first | ((with_reducible refine gate_callee (f := 55) rfl ?_); refine goesL_ (some 28) rfl rfl Tryz.func55 (by kernel_rfl) rfl #[.string (x0_1.extract 0 (x5_2 : Int).toNat), .int .i64 (x0_1.size : Int)] rfl (by (try simp only [List.map_toArray, List.map_cons, List.map_nil]); first | done | rfl | (simp only [List.length_drop, List.length_take]; rfl)) ?_; (with_reducible refine (shipwrightref1_GetNumber.calls k2 (x0_1.extract 0 (x5_2 : Int).toNat) (x0_1.size : Int) t101 true _ ?side99 A9.out).mono ?_); (case side99 => exact GOK.below HG.out (by repeat (first | (with_reducible first | exact HB.out | apply below_alloc | apply pw_below_drewN | apply below_drew1) | exact HB.out))); rintro e w' ⟨rfl, ⟨nd, rfl⟩⟩; refine ⟨_, rfl, ?_⟩) | ((with_reducible refine gate_builtin (b := .append) (xs := #[.tmp 48, .tmp 57]) rfl ?_); (try (refine gate_guard (by rfl) ?_; dsimp only)); at_builtin; refine Kd.R_append Kd.string (w0 := w) w.heap.size rfl (.tmp 48) (.tmp 57) 28 9 (.string ⟨#[]⟩) 16 rfl Tryz.underlying28 info9 rfl (by decide) (by omega) u4 x4_1 (x0_1.extract ((ji13) : Int).toNat ((ji18) : Int).toNat) [.string (x0_1.extract ((ji13) : Int).toNat ((ji18) : Int).toNat)] (fun _ => True) (fun _ => False) rfl rfl ?aP (fun _ hk => hk.elim) ?aF ?aO ?aB ?aS ?aL ?_; (case aP => exact rfl); (case aB => exact (by repeat (first | (with_reducible first | exact HB.out | apply below_alloc | apply pw_below_drewN | apply below_drew1) | exact HB.out))); (case aF => exact (fun _ _ => trivial)); (case aO => exact (by (with_reducible repeat (first | apply Kd.R_alloc | apply Kd.R_drewN | apply Kd.R_drew)); exact HO_4.out)); (case aS => exact (below_size (by repeat (first | (with_reducible first | exact HB.out | apply below_alloc | apply pw_below_drewN | apply below_drew1) | exact HB.out)))); (case aL => have := LMc17.out; omega); intro v104 w21 ho hb hg hat; rw [← Ny103.out] at ho; have n0_ := Aside0.mk (hb); have n1_ := Aside0.mk (ho); clear HB; clear HO_4; have HB := n0_; have HO105 := n1_; clear n0_ n1_; clear ho hb hg hat))
                                    go_roundg k2
                                    case measure => have := HK1.out; have := HK2.out; omega
                                    case rel => exact ⟨(x0_1.extract ((ji18) : Int).toNat x0_1.size), (y103), (by first | rfl | (simp; done) | (simp only [← hji18] <;> (first | rfl | simp)) | (simp [*]; done)), H', ⟨by have := HK1.out; have := HK2.out; omega⟩, ⟨by (with_reducible repeat (first | apply Kd.R_alloc | apply Kd.R_drewN | apply Kd.R_drew)); exact HO105.out⟩, ⟨by repeat (first | (with_reducible first | exact HB.out | apply below_alloc | apply pw_below_drewN | apply below_drew1) | exact HB.out)⟩⟩
                                  · rw [if_neg c19] at H
                                    exact absurd H (by simp)
                                · rw [if_neg c17] at H
                                  exact absurd H (by simp)
                              · rw [if_neg c16] at H
                                exact absurd H (by simp)
                            · rw [if_neg c15] at H
                              exact absurd H (by simp)
                          · rw [if_neg c14] at H
                            exact absurd H (by simp)
                    · replace c10 := Bool.eq_false_iff.mpr c10
                      subst c10
                      have H1 : (some (([] : List ByteArray), false)) = some (r1, r2) := by rw [if_neg (show ¬ (false = true) by decide)] at H; exact H
                      clear H
                      have H := H1
                      clear H1
                      simp only [Option.some.injEq, Prod.mk.injEq] at H
                      obtain ⟨rfl, rfl⟩ := H
                      have p5 : 0 ≤ (x5_2 : Int) := of_decide_eq_true (by first | (with_reducible assumption) | assumption)
                      have q5 : x5_2 < (x0_1.size : Int) := of_decide_eq_true (by first | (with_reducible assumption) | assumption)
                      have hx5 := bt_at x0_1 x5_2
                      replace p5 := eq_true p5
                      replace q5 := eq_true q5
                      go_wp2_with (first | ((with_reducible refine gate_callee (f := 55) rfl ?_); refine goesL_ (some 28) rfl rfl Tryz.func55 (by kernel_rfl) rfl #[.string (x0_1.extract 0 (x5_2 : Int).toNat), .int .i64 (x0_1.size : Int)] rfl (by (try simp only [List.map_toArray, List.map_cons, List.map_nil]); first | done | rfl | (simp only [List.length_drop, List.length_take]; rfl)) ?_; (with_reducible refine (shipwrightref1_GetNumber.calls k2 (x0_1.extract 0 (x5_2 : Int).toNat) (x0_1.size : Int) t101 false _ ?side99 A9.out).mono ?_); (case side99 => exact GOK.below HG.out (by repeat (first | (with_reducible first | exact HB.out | apply below_alloc | apply pw_below_drewN | apply below_drew1) | exact HB.out))); rintro e w' ⟨rfl, ⟨nd, rfl⟩⟩; refine ⟨_, rfl, ?_⟩))
                      go_ret2
                      exact ⟨_, by first | rfl | (simp [errW_none, errW_some] <;> rfl) | (simp [*, errW_none, errW_some] <;> rfl), by first | exact Kd.R_nil _ _ _ _ _ | exact Kd.N_nil _ _ _ _ _ | exact Kd.V_nil _ _ _ _ _ | exact Kd.Q_nil _ _ _ _ _ | exact Kd.S_nil _ _ _ _ _, by repeat (first | (with_reducible first | exact HB.out | apply below_alloc | apply pw_below_drewN | apply below_drew1) | exact HB.out)⟩
                  · rw [if_neg c8] at H
                    exact absurd H (by simp)
                · rw [if_neg c6] at H
                  have c6b0 : ((bt x0_1 x5_2) == 58) = false := beq_eq_false_iff_ne.mpr c6
                  have c6b1 : ((bt x0_1 x5_2) != 58) = true := bne_iff_ne.mpr c6
                  have H' := Aside0.mk H
                  clear H
                  have p5 : 0 ≤ (x5_2 : Int) := of_decide_eq_true (by first | (with_reducible assumption) | assumption)
                  have q5 : x5_2 < (x0_1.size : Int) := of_decide_eq_true (by first | (with_reducible assumption) | assumption)
                  have hx5 := bt_at x0_1 x5_2
                  replace p5 := eq_true p5
                  replace q5 := eq_true q5
                  go_wp2
                  go_roundg k2
                  case measure => have := HK1.out; have := HK2.out; omega
                  case rel => exact ⟨(wrap64 (x5_2 + 1)), (by first | rfl | (simp; done) | (simp [*]; done) | (simp [bne]; done) | (simp [*, bne]; done)), H', ⟨by have := HK1.out; have := HK2.out; omega⟩, ⟨by (with_reducible repeat (first | apply Kd.R_alloc | apply Kd.R_drewN | apply Kd.R_drew)); first | exact HO_4.out | (set_option smartUnfolding false in exact HO_4.out)⟩, ⟨by repeat (first | (with_reducible first | exact HB.out | apply below_alloc | apply pw_below_drewN | apply below_drew1) | exact HB.out)⟩⟩
              · rw [if_neg c4] at H
                exact absurd H (by simp)
            · rw [if_neg c3] at H
              have c3b0 : decide (x5_2 < (x0_1.size : Int)) = false := decide_eq_false c3
              clear c3
              by_cases c22 : 0 ≤ x5_2
              · rw [if_pos c22] at H
                have c22b0 := eq_true c22
                have c22b1 : decide (0 ≤ x5_2) = true := decide_eq_true c22
                clear c22
                by_cases c23 : x5_2 ≤ (x0_1.size : Int)
                · rw [if_pos c23] at H
                  have c23b0 := eq_true c23
                  have c23b1 : decide (x5_2 ≤ (x0_1.size : Int)) = true := decide_eq_true c23
                  clear c23
                  replace H := Option.bind_eq_some_iff.mp H
                  obtain ⟨⟨t106, t107⟩, A240, H⟩ := H
                  replace H : (if t107 = true then (if x5_2 = (x0_1.size : Int) then (some (([] : List ByteArray), false)) else (if (wrap64 ((wrap64 ((x0_1.size : Int) - x5_2)) - 1)) < t106 then (some (([] : List ByteArray), false)) else (if 0 ≤ (wrap64 (x5_2 + 1)) then (if (wrap64 (x5_2 + 1)) ≤ (wrap64 ((wrap64 (x5_2 + 1)) + t106)) then (if (wrap64 ((wrap64 (x5_2 + 1)) + t106)) ≤ (x0_1.size : Int) then (if x4_1.length < 8796093022208 then (if 0 ≤ (wrap64 ((wrap64 (x5_2 + 1)) + t106)) then (shipwrightref1_Get.l0 k2 (x0_1.extract ((wrap64 ((wrap64 (x5_2 + 1)) + t106)) : Int).toNat x0_1.size) (x4_1 ++ [x0_1.extract ((wrap64 (x5_2 + 1)) : Int).toNat ((wrap64 ((wrap64 (x5_2 + 1)) + t106)) : Int).toNat])) else (none)) else (none)) else (none)) else (none)) else (none)))) else (some (([] : List ByteArray), false))) = some (r1, r2) := H
                  have A24 := Aside0.mk A240
                  clear A240
                  by_cases c25 : t107 = true
                  · subst c25
                    have H1 : (if x5_2 = (x0_1.size : Int) then (some (([] : List ByteArray), false)) else (if (wrap64 ((wrap64 ((x0_1.size : Int) - x5_2)) - 1)) < t106 then (some (([] : List ByteArray), false)) else (if 0 ≤ (wrap64 (x5_2 + 1)) then (if (wrap64 (x5_2 + 1)) ≤ (wrap64 ((wrap64 (x5_2 + 1)) + t106)) then (if (wrap64 ((wrap64 (x5_2 + 1)) + t106)) ≤ (x0_1.size : Int) then (if x4_1.length < 8796093022208 then (if 0 ≤ (wrap64 ((wrap64 (x5_2 + 1)) + t106)) then (shipwrightref1_Get.l0 k2 (x0_1.extract ((wrap64 ((wrap64 (x5_2 + 1)) + t106)) : Int).toNat x0_1.size) (x4_1 ++ [x0_1.extract ((wrap64 (x5_2 + 1)) : Int).toNat ((wrap64 ((wrap64 (x5_2 + 1)) + t106)) : Int).toNat])) else (none)) else (none)) else (none)) else (none)) else (none)))) = some (r1, r2) := by rw [if_pos rfl] at H; exact H
                    clear H
                    have H := H1
                    clear H1
                    by_cases c26 : x5_2 = (x0_1.size : Int)
                    · rw [if_pos c26] at H
                      have c26b0 : (x5_2 == (x0_1.size : Int)) = true := beq_iff_eq.mpr c26
                      have c26b1 : (x5_2 != (x0_1.size : Int)) = false := bne_eq_false_iff_eq.mpr c26
                      clear c26
                      simp only [Option.some.injEq, Prod.mk.injEq] at H
                      obtain ⟨rfl, rfl⟩ := H
                      go_wp2_with (first | ((with_reducible refine gate_callee (f := 55) rfl ?_); refine goesL_ (some 28) rfl rfl Tryz.func55 (by kernel_rfl) rfl #[.string (x0_1.extract 0 (x5_2 : Int).toNat), .int .i64 (x0_1.size : Int)] rfl (by (try simp only [List.map_toArray, List.map_cons, List.map_nil]); first | done | rfl | (simp only [List.length_drop, List.length_take]; rfl)) ?_; (with_reducible refine (shipwrightref1_GetNumber.calls k2 (x0_1.extract 0 (x5_2 : Int).toNat) (x0_1.size : Int) t106 true _ ?side99 A24.out).mono ?_); (case side99 => exact GOK.below HG.out (by repeat (first | (with_reducible first | exact HB.out | apply below_alloc | apply pw_below_drewN | apply below_drew1) | exact HB.out))); rintro e w' ⟨rfl, ⟨nd, rfl⟩⟩; refine ⟨_, rfl, ?_⟩))
                      go_ret2
                      exact ⟨_, by first | rfl | (simp [errW_none, errW_some] <;> rfl) | (simp [*, errW_none, errW_some] <;> rfl), by first | exact Kd.R_nil _ _ _ _ _ | exact Kd.N_nil _ _ _ _ _ | exact Kd.V_nil _ _ _ _ _ | exact Kd.Q_nil _ _ _ _ _ | exact Kd.S_nil _ _ _ _ _, by repeat (first | (with_reducible first | exact HB.out | apply below_alloc | apply pw_below_drewN | apply below_drew1) | exact HB.out)⟩
                    · rw [if_neg c26] at H
                      have c26b0 : (x5_2 == (x0_1.size : Int)) = false := beq_eq_false_iff_ne.mpr c26
                      have c26b1 : (x5_2 != (x0_1.size : Int)) = true := bne_iff_ne.mpr c26
                      by_cases c27 : (wrap64 ((wrap64 ((x0_1.size : Int) - x5_2)) - 1)) < t106
                      · rw [if_pos c27] at H
                        have c27b0 : decide ((wrap64 ((wrap64 ((x0_1.size : Int) - x5_2)) - 1)) < t106) = true := decide_eq_true c27
                        clear c27
                        simp only [Option.some.injEq, Prod.mk.injEq] at H
                        obtain ⟨rfl, rfl⟩ := H
                        go_wp2_with (first | ((with_reducible refine gate_callee (f := 55) rfl ?_); refine goesL_ (some 28) rfl rfl Tryz.func55 (by kernel_rfl) rfl #[.string (x0_1.extract 0 (x5_2 : Int).toNat), .int .i64 (x0_1.size : Int)] rfl (by (try simp only [List.map_toArray, List.map_cons, List.map_nil]); first | done | rfl | (simp only [List.length_drop, List.length_take]; rfl)) ?_; (with_reducible refine (shipwrightref1_GetNumber.calls k2 (x0_1.extract 0 (x5_2 : Int).toNat) (x0_1.size : Int) t106 true _ ?side99 A24.out).mono ?_); (case side99 => exact GOK.below HG.out (by repeat (first | (with_reducible first | exact HB.out | apply below_alloc | apply pw_below_drewN | apply below_drew1) | exact HB.out))); rintro e w' ⟨rfl, ⟨nd, rfl⟩⟩; refine ⟨_, rfl, ?_⟩))
                        go_ret2
                        exact ⟨_, by first | rfl | (simp [errW_none, errW_some] <;> rfl) | (simp [*, errW_none, errW_some] <;> rfl), by first | exact Kd.R_nil _ _ _ _ _ | exact Kd.N_nil _ _ _ _ _ | exact Kd.V_nil _ _ _ _ _ | exact Kd.Q_nil _ _ _ _ _ | exact Kd.S_nil _ _ _ _ _, by repeat (first | (with_reducible first | exact HB.out | apply below_alloc | apply pw_below_drewN | apply below_drew1) | exact HB.out)⟩
                      · rw [if_neg c27] at H
                        have c27b0 : decide ((wrap64 ((wrap64 ((x0_1.size : Int) - x5_2)) - 1)) < t106) = false := decide_eq_false c27
                        clear c27
                        obtain ⟨ji28, hji28⟩ : ∃ j_ : Int, (wrap64 (x5_2 + 1)) = j_ := ⟨_, rfl⟩
                        replace H : (if 0 ≤ (ji28) then (if (ji28) ≤ (wrap64 ((ji28) + t106)) then (if (wrap64 ((ji28) + t106)) ≤ (x0_1.size : Int) then (if x4_1.length < 8796093022208 then (if 0 ≤ (wrap64 ((ji28) + t106)) then (shipwrightref1_Get.l0 k2 (x0_1.extract ((wrap64 ((ji28) + t106)) : Int).toNat x0_1.size) (x4_1 ++ [x0_1.extract ((ji28) : Int).toNat ((wrap64 ((ji28) + t106)) : Int).toNat])) else (none)) else (none)) else (none)) else (none)) else (none)) = some (r1, r2) := by first | (rw [hji28] at H; exact H) | (simp only [hji28] at H ⊢; exact H)
                        (try rw [hji28] at A24)
                        have hji28w : (IntKind.i64.wrap (x5_2 + 1)) = ji28 := (i64_w _).trans hji28
                        by_cases c29 : 0 ≤ (ji28)
                        · rw [if_pos c29] at H
                          have c29b0 := eq_true c29
                          have c29b1 : decide (0 ≤ (ji28)) = true := decide_eq_true c29
                          clear c29
                          by_cases c30 : (ji28) ≤ (wrap64 ((ji28) + t106))
                          · rw [if_pos c30] at H
                            have c30b0 := eq_true c30
                            have c30b1 : decide ((ji28) ≤ (wrap64 ((ji28) + t106))) = true := decide_eq_true c30
                            by_cases c31 : (wrap64 ((ji28) + t106)) ≤ (x0_1.size : Int)
                            · rw [if_pos c31] at H
                              have c31b0 := eq_true c31
                              have c31b1 : decide ((wrap64 ((ji28) + t106)) ≤ (x0_1.size : Int)) = true := decide_eq_true c31
                              by_cases c32 : x4_1.length < 8796093022208
                              · rw [if_pos c32] at H
                                have LMc32 := Aside0.mk c32
                                clear c32
                                obtain ⟨y108, hy108⟩ : ∃ y_ : List ByteArray, y_ = (x4_1 ++ [x0_1.extract ((ji28) : Int).toNat ((wrap64 ((ji28) + t106)) : Int).toNat]) := ⟨_, rfl⟩
                                replace H : (if 0 ≤ (wrap64 ((ji28) + t106)) then (shipwrightref1_Get.l0 k2 (x0_1.extract ((wrap64 ((ji28) + t106)) : Int).toNat x0_1.size) y108) else (none)) = some (r1, r2) := by first | (rw [hy108]; with_reducible exact H) | (have H2_ := (Option.bind_some _ _).symm.trans H; rw [hy108]; with_reducible exact H2_) | (have H2_ := (Option.bind_some _ _).symm.trans H; with_reducible exact H2_) | with_reducible exact H | (rw [hy108]; exact H) | exact H
                                have Ny108 := Aside0.mk hy108
                                clear hy108
                                obtain ⟨ji33, hji33⟩ : ∃ j_ : Int, (wrap64 ((ji28) + t106)) = j_ := ⟨_, rfl⟩
                                replace H : (if 0 ≤ (ji33) then (shipwrightref1_Get.l0 k2 (x0_1.extract ((ji33) : Int).toNat x0_1.size) y108) else (none)) = some (r1, r2) := by first | (rw [hji33] at H; exact H) | (simp only [hji33] at H ⊢; exact H)
                                (try rw [hji33] at c30b0)
                                (try rw [hji33] at c30b1)
                                (try rw [hji33] at c30)
                                (try rw [hji33] at c31b0)
                                (try rw [hji33] at c31b1)
                                (try rw [hji33] at c31)
                                (try rw [hji33] at A24)
                                (try rw [hji33] at Ny108)
                                have hji33w : (IntKind.i64.wrap ((ji28) + t106)) = ji33 := (i64_w _).trans hji33
                                by_cases c34 : 0 ≤ (ji33)
                                · rw [if_pos c34] at H
                                  have c34b0 := eq_true c34
                                  have c34b1 : decide (0 ≤ (ji33)) = true := decide_eq_true c34
                                  clear c34
                                  have c35b0 := eq_true (of_decide_eq_true (by first | (with_reducible assumption) | assumption) : (ji33) ≤ (x0_1.size : Int))
                                  have H' := Aside0.mk H
                                  clear H
                                  go_wp2_with (first | ((with_reducible refine gate_callee (f := 55) rfl ?_); refine goesL_ (some 28) rfl rfl Tryz.func55 (by kernel_rfl) rfl #[.string (x0_1.extract 0 (x5_2 : Int).toNat), .int .i64 (x0_1.size : Int)] rfl (by (try simp only [List.map_toArray, List.map_cons, List.map_nil]); first | done | rfl | (simp only [List.length_drop, List.length_take]; rfl)) ?_; (with_reducible refine (shipwrightref1_GetNumber.calls k2 (x0_1.extract 0 (x5_2 : Int).toNat) (x0_1.size : Int) t106 true _ ?side99 A24.out).mono ?_); (case side99 => exact GOK.below HG.out (by repeat (first | (with_reducible first | exact HB.out | apply below_alloc | apply pw_below_drewN | apply below_drew1) | exact HB.out))); rintro e w' ⟨rfl, ⟨nd, rfl⟩⟩; refine ⟨_, rfl, ?_⟩) | ((with_reducible refine gate_builtin (b := .append) (xs := #[.tmp 48, .tmp 57]) rfl ?_); (try (refine gate_guard (by rfl) ?_; dsimp only)); at_builtin; refine Kd.R_append Kd.string (w0 := w) w.heap.size rfl (.tmp 48) (.tmp 57) 28 9 (.string ⟨#[]⟩) 16 rfl Tryz.underlying28 info9 rfl (by decide) (by omega) u4 x4_1 (x0_1.extract ((ji28) : Int).toNat ((ji33) : Int).toNat) [.string (x0_1.extract ((ji28) : Int).toNat ((ji33) : Int).toNat)] (fun _ => True) (fun _ => False) rfl rfl ?aP (fun _ hk => hk.elim) ?aF ?aO ?aB ?aS ?aL ?_; (case aP => exact rfl); (case aB => exact (by repeat (first | (with_reducible first | exact HB.out | apply below_alloc | apply pw_below_drewN | apply below_drew1) | exact HB.out))); (case aF => exact (fun _ _ => trivial)); (case aO => exact (by (with_reducible repeat (first | apply Kd.R_alloc | apply Kd.R_drewN | apply Kd.R_drew)); exact HO_4.out)); (case aS => exact (below_size (by repeat (first | (with_reducible first | exact HB.out | apply below_alloc | apply pw_below_drewN | apply below_drew1) | exact HB.out)))); (case aL => have := LMc32.out; omega); intro v109 w36 ho hb hg hat; rw [← Ny108.out] at ho; have n0_ := Aside0.mk (hb); have n1_ := Aside0.mk (ho); clear HB; clear HO_4; have HB := n0_; have HO110 := n1_; clear n0_ n1_; clear ho hb hg hat))
                                  go_roundg k2
                                  case measure => have := HK1.out; have := HK2.out; omega
                                  case rel => exact ⟨(x0_1.extract ((ji33) : Int).toNat x0_1.size), (y108), (by first | rfl | (simp; done) | (simp only [← hji33] <;> (first | rfl | simp)) | (simp [*]; done)), H', ⟨by have := HK1.out; have := HK2.out; omega⟩, ⟨by (with_reducible repeat (first | apply Kd.R_alloc | apply Kd.R_drewN | apply Kd.R_drew)); exact HO110.out⟩, ⟨by repeat (first | (with_reducible first | exact HB.out | apply below_alloc | apply pw_below_drewN | apply below_drew1) | exact HB.out)⟩⟩
                                · rw [if_neg c34] at H
                                  exact absurd H (by simp)
                              · rw [if_neg c32] at H
                                exact absurd H (by simp)
                            · rw [if_neg c31] at H
                              exact absurd H (by simp)
                          · rw [if_neg c30] at H
                            exact absurd H (by simp)
                        · rw [if_neg c29] at H
                          exact absurd H (by simp)
                  · replace c25 := Bool.eq_false_iff.mpr c25
                    subst c25
                    have H1 : (some (([] : List ByteArray), false)) = some (r1, r2) := by rw [if_neg (show ¬ (false = true) by decide)] at H; exact H
                    clear H
                    have H := H1
                    clear H1
                    simp only [Option.some.injEq, Prod.mk.injEq] at H
                    obtain ⟨rfl, rfl⟩ := H
                    go_wp2_with (first | ((with_reducible refine gate_callee (f := 55) rfl ?_); refine goesL_ (some 28) rfl rfl Tryz.func55 (by kernel_rfl) rfl #[.string (x0_1.extract 0 (x5_2 : Int).toNat), .int .i64 (x0_1.size : Int)] rfl (by (try simp only [List.map_toArray, List.map_cons, List.map_nil]); first | done | rfl | (simp only [List.length_drop, List.length_take]; rfl)) ?_; (with_reducible refine (shipwrightref1_GetNumber.calls k2 (x0_1.extract 0 (x5_2 : Int).toNat) (x0_1.size : Int) t106 false _ ?side99 A24.out).mono ?_); (case side99 => exact GOK.below HG.out (by repeat (first | (with_reducible first | exact HB.out | apply below_alloc | apply pw_below_drewN | apply below_drew1) | exact HB.out))); rintro e w' ⟨rfl, ⟨nd, rfl⟩⟩; refine ⟨_, rfl, ?_⟩))
                    go_ret2
                    exact ⟨_, by first | rfl | (simp [errW_none, errW_some] <;> rfl) | (simp [*, errW_none, errW_some] <;> rfl), by first | exact Kd.R_nil _ _ _ _ _ | exact Kd.N_nil _ _ _ _ _ | exact Kd.V_nil _ _ _ _ _ | exact Kd.Q_nil _ _ _ _ _ | exact Kd.S_nil _ _ _ _ _, by repeat (first | (with_reducible first | exact HB.out | apply below_alloc | apply pw_below_drewN | apply below_drew1) | exact HB.out)⟩
                · rw [if_neg c23] at H
                  exact absurd H (by simp)
              · rw [if_neg c22] at H
                exact absurd H (by simp)

end Go.Proofs.YtobbliglnjgbaaaGreatDoor.Lg
