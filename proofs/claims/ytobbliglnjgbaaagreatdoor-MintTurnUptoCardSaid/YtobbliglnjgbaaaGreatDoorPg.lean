-- By xprint.py (this session's driver of the kit's print): out of the translation; Lean checks it.
import Derived.Test.YtobbliglnjgbaaaGreatDoorProg
import Derived.Below
import Derived.Deep.Draws
import Derived.Deep.AppendLies
import Derived.Maps.AppendAt
import Derived.OwnWalk
import Derived.Laws.BytesArg
import Derived.Laws.MakeOwn
import Derived.Laws.OwnMore
import Derived.Deep.OwnRows
import Derived.Tactics
import Derived.Lib.ConvBytes
import Derived.Laws.Slices
import Derived.WalkKit
import Derived.KernelRfl
import Derived.RowKit3
import Derived.Deep.LoopGhost
import Derived.Deep.QuietTactic
import Derived.BigQuiet
import Derived.WideLaws
import Derived.Deep.DeepCutAuto
import Derived.Deep.CutBlock
import Derived.Deep.RegionHeld3
import Derived.Laws.Rows
import Derived.Lib.AppendStr
import Derived.ArgAppend
import Derived.Laws.IdiomCopy
import Derived.OrdersHeld
import Derived.Laws.BitsLemmas
import Derived.RowKit
import Derived.Test.YtobbliglnjgbaaaGreatDoorPc
import Derived.Test.YtobbliglnjgbaaaGreatDoorWWords
import Derived.Test.YtobbliglnjgbaaaGreatDoorWLast
import Derived.Test.YtobbliglnjgbaaaGreatDoorWTab
import Derived.Test.YtobbliglnjgbaaaGreatDoorWFour
import Derived.Test.YtobbliglnjgbaaaGreatDoorWQPut
import Derived.Test.YtobbliglnjgbaaaGreatDoorWApart
import Derived.Test.YtobbliglnjgbaaaGreatDoorWArr
import Derived.Test.YtobbliglnjgbaaaGreatDoorWZeros
import Derived.Test.YtobbliglnjgbaaaGreatDoorWFoot
import Derived.Test.YtobbliglnjgbaaaGreatDoorWKept
import Derived.Test.YtobbliglnjgbaaaGreatDoorWShare
import Derived.Test.YtobbliglnjgbaaaGreatDoorWN
import Derived.Test.YtobbliglnjgbaaaGreatDoorWFootNe
import Derived.Test.YtobbliglnjgbaaaGreatDoorWAt
import Derived.Test.YtobbliglnjgbaaaGreatDoorWEqStruct
import Derived.Test.YtobbliglnjgbaaaGreatDoorWRepsOne
import Derived.Test.YtobbliglnjgbaaaGreatDoorWInv
import Derived.Test.YtobbliglnjgbaaaGreatDoorWInvWords
import Derived.Test.YtobbliglnjgbaaaGreatDoorWGuard
import Derived.Test.YtobbliglnjgbaaaGreatDoorWNEv
import Derived.Test.YtobbliglnjgbaaaGreatDoorWMore
import Derived.Test.YtobbliglnjgbaaaGreatDoorWSized
namespace Go.Proofs.YtobbliglnjgbaaaGreatDoor.Pg
open Go.Proofs.YtobbliglnjgbaaaGreatDoor.X Go.Proofs.YtobbliglnjgbaaaGreatDoor.Pb Go.Proofs.YtobbliglnjgbaaaGreatDoor.Pc
open Go.RowKit Go.Proofs.YtobbliglnjgbaaaGreatDoorW.PrintWords Go.Proofs.YtobbliglnjgbaaaGreatDoorW.PrintLast Go.Proofs.YtobbliglnjgbaaaGreatDoorW.PrintMore
attribute [local go_sem] max2_int min2_int max_two min_two max_three min_three max_four min_four   -- for this text's walks alone
set_option linter.unusedVariables false
set_option linter.unusedSimpArgs false



def errW : Option Int → Value
  | none => .nilIface
  | some c => .iface 0 (.int .i64 c)
theorem errW_none : errW none = .nilIface := rfl
theorem errW_some (c : Int) : errW (some c) = .iface 0 (.int .i64 c) := rfl

-- the values' own types

end Go.Proofs.YtobbliglnjgbaaaGreatDoor.Pg
namespace Go.Proofs.YtobbliglnjgbaaaGreatDoor.Pg
open Go.Proofs.YtobbliglnjgbaaaGreatDoor.X Go.Proofs.YtobbliglnjgbaaaGreatDoor.Pb Go.Proofs.YtobbliglnjgbaaaGreatDoor.Pc
open Go.RowKit Go.Proofs.YtobbliglnjgbaaaGreatDoorW.PrintWords Go.Proofs.YtobbliglnjgbaaaGreatDoorW.PrintLast Go.Proofs.YtobbliglnjgbaaaGreatDoorW.PrintMore
attribute [local go_sem] max2_int min2_int max_two min_two max_three min_three max_four min_four   -- for this text's walks alone
set_option linter.unusedVariables false
set_option linter.unusedSimpArgs false

/-! ### shipwrightref1_GetNumber: function 55 -/
def shipwrightref1_GetNumber.l0 : Nat → ByteArray → Int → Int → Int → Option (Int × Bool)
  | 0, _, _, _, _ => none
  | k + 1, x0, x1, x6, x7 => if x7 < (x0.size : Int) then (if 0 ≤ x7 then (if (bt x0 x7) < 48 then (some (0, false)) else (if (bt x0 x7) > 57 then (some (0, false)) else (if x6 > ((9223372036854775807 - (((bt x0 x7) - 48) % 256)) / 10) then (some (0, false)) else (shipwrightref1_GetNumber.l0 k x0 x1 (wrap64 ((wrap64 (x6 * 10)) + (((bt x0 x7) - 48) % 256))) (wrap64 (x7 + 1)))))) else (none)) else (if x0.toList = ([] : List UInt8) then (some (0, false)) else (if (x0.size : Int) > 1 then (if 0 < (x0.size : Int) then (if (bt x0 0) = 48 then (some (0, false)) else (if x6 > x1 then (some (0, false)) else (some (x6, true)))) else (none)) else (if x6 > x1 then (some (0, false)) else (some (x6, true)))))
def shipwrightref1_GetNumber.f (k : Nat) (a0 : ByteArray) (a1 : Int) : Option (Int × Bool) := shipwrightref1_GetNumber.l0 k a0 a1 0 0
theorem shipwrightref1_GetNumber.mono_l : ∀ k, (∀ y0 y1 y2 y3, LeO (shipwrightref1_GetNumber.l0 k y0 y1 y2 y3) (shipwrightref1_GetNumber.l0 (k + 1) y0 y1 y2 y3))
  | 0 => fun _ _ _ _ r h => by simp [shipwrightref1_GetNumber.l0] at h
  | k + 1 => by
    have ih0 := shipwrightref1_GetNumber.mono_l k
    · intro y0 y1 y2 y3
      unfold shipwrightref1_GetNumber.l0
      repeat' first
      | (with_reducible exact ih0 _ _ _ _)
      | (with_reducible exact LeO.refl _)
      | (with_reducible exact LeO.none _)
      | (with_reducible refine LeO.ite ?_ ?_)
      | (with_reducible refine LeO.bind ?_ (fun _ => ?_))
      | exact ih0 _ _ _ _
      | exact LeO.none _
      | refine LeO.ite ?_ ?_
      | refine LeO.bind ?_ (fun _ => ?_)
theorem shipwrightref1_GetNumber.mono : ∀ a0 a1 k, LeO (shipwrightref1_GetNumber.f k a0 a1) (shipwrightref1_GetNumber.f (k + 1) a0 a1) := by
  intro a0 a1 k
  have ih0 := shipwrightref1_GetNumber.mono_l k
  unfold shipwrightref1_GetNumber.f
  repeat' first
      | (with_reducible exact ih0 _ _ _ _)
      | (with_reducible exact LeO.refl _)
      | (with_reducible exact LeO.none _)
      | (with_reducible refine LeO.ite ?_ ?_)
      | (with_reducible refine LeO.bind ?_ (fun _ => ?_))
      | exact ih0 _ _ _ _
      | exact LeO.none _
      | refine LeO.ite ?_ ?_
      | refine LeO.bind ?_ (fun _ => ?_)
set_option maxHeartbeats 8000000 in
set_option maxRecDepth 100000 in
theorem shipwrightref1_GetNumber.calls (k : Nat) (a0 : ByteArray) (a1 : Int) (r1 : Int) (r2 : Bool) (w : World) (hG : GOK w) (h : shipwrightref1_GetNumber.f k a0 a1 = some (r1, r2)) :
    Calls Tryz.prog 55 #[.string a0, .int .i64 a1] w fun e w' => e = .returned (.tuple #[.int .i64 r1, .bool r2]) ∧ Drawn0 w w' := by
  have HG := Aside0.mk hG
  clear hG
  have H : (shipwrightref1_GetNumber.l0 k a0 a1 0 0) = some (r1, r2) := h
  clear h
  have H' := Aside0.mk H
  clear H
  go_enter Tryz.func55, Tryz.ntmps55
  go_wp2
  go_loopg [6, 7] k (fun kq v6 v7 w' => ∃ (x6_1 : Int) (x7_1 : Int), v6 = .int .i64 x6_1 ∧ v7 = .int .i64 x7_1 ∧ Aside0 (shipwrightref1_GetNumber.l0 kq a0 a1 x6_1 x7_1 = some (r1, r2)) ∧ Aside0 (kq ≤ k) ∧ Drawn0 w w')
  case atStart => exact ⟨(0), (0), (by first | rfl | (simp; done) | (simp [*]; done) | (simp [bne]; done) | (simp [*, bne]; done)), (by first | rfl | (simp; done) | (simp [*]; done) | (simp [bne]; done) | (simp [*, bne]; done)), H', ⟨Nat.le_refl _⟩, by repeat (first | exact Drawn0.refl _ | apply Drawn0.step)⟩
  case round =>
    clear H'
    try clear p2
    obtain ⟨x6_1, x7_1, rfl, rfl, HA, HK1, ⟨m1, rfl⟩⟩ := hrel
    cases gk with
    | zero => exact absurd HA.out (by simp [shipwrightref1_GetNumber.l0])
    | succ k1 =>
      have H := HA.out
      clear HA
      simp only [shipwrightref1_GetNumber.l0] at H
      by_cases c3 : x7_1 < (a0.size : Int)
      · rw [if_pos c3] at H
        have c3b0 : decide (x7_1 < (a0.size : Int)) = true := decide_eq_true c3
        clear c3
        by_cases c4 : 0 ≤ x7_1
        · rw [if_pos c4] at H
          have c4b0 : decide (0 ≤ x7_1) = true := decide_eq_true c4
          clear c4
          by_cases c6 : (bt a0 x7_1) < 48
          · rw [if_pos c6] at H
            have c6b0 : decide ((bt a0 x7_1) < 48) = true := decide_eq_true c6
            clear c6
            simp only [Option.some.injEq, Prod.mk.injEq] at H
            obtain ⟨rfl, rfl⟩ := H
            have p5 : 0 ≤ (x7_1 : Int) := of_decide_eq_true (by first | (with_reducible assumption) | assumption)
            have q5 : x7_1 < (a0.size : Int) := of_decide_eq_true (by first | (with_reducible assumption) | assumption)
            have hx5 := bt_at a0 x7_1
            replace p5 := eq_true p5
            replace q5 := eq_true q5
            go_wp2
            go_ret2
            exact ⟨by first | rfl | (simp; done) | (simp [*]; done), by repeat (first | exact Drawn0.refl _ | apply Drawn0.step)⟩
          · rw [if_neg c6] at H
            have c6b0 : decide ((bt a0 x7_1) < 48) = false := decide_eq_false c6
            clear c6
            by_cases c8 : (bt a0 x7_1) > 57
            · rw [if_pos c8] at H
              have c8b0 : decide (57 < (bt a0 x7_1)) = true := decide_eq_true c8
              clear c8
              simp only [Option.some.injEq, Prod.mk.injEq] at H
              obtain ⟨rfl, rfl⟩ := H
              have p5 : 0 ≤ (x7_1 : Int) := of_decide_eq_true (by first | (with_reducible assumption) | assumption)
              have q5 : x7_1 < (a0.size : Int) := of_decide_eq_true (by first | (with_reducible assumption) | assumption)
              have hx5 := bt_at a0 x7_1
              replace p5 := eq_true p5
              replace q5 := eq_true q5
              have p7 : 0 ≤ (x7_1 : Int) := of_decide_eq_true (by first | (with_reducible assumption) | assumption)
              have q7 : x7_1 < (a0.size : Int) := of_decide_eq_true (by first | (with_reducible assumption) | assumption)
              have hx7 := bt_at a0 x7_1
              replace p7 := eq_true p7
              replace q7 := eq_true q7
              go_wp2
              go_ret2
              exact ⟨by first | rfl | (simp; done) | (simp [*]; done), by repeat (first | exact Drawn0.refl _ | apply Drawn0.step)⟩
            · rw [if_neg c8] at H
              have c8b0 : decide (57 < (bt a0 x7_1)) = false := decide_eq_false c8
              clear c8
              by_cases c10 : x6_1 > ((9223372036854775807 - (((bt a0 x7_1) - 48) % 256)) / 10)
              · rw [if_pos c10] at H
                have c10b0 : decide (((9223372036854775807 - (((bt a0 x7_1) - 48) % 256)) / 10) < x6_1) = true := decide_eq_true c10
                clear c10
                simp only [Option.some.injEq, Prod.mk.injEq] at H
                obtain ⟨rfl, rfl⟩ := H
                have p5 : 0 ≤ (x7_1 : Int) := of_decide_eq_true (by first | (with_reducible assumption) | assumption)
                have q5 : x7_1 < (a0.size : Int) := of_decide_eq_true (by first | (with_reducible assumption) | assumption)
                have hx5 := bt_at a0 x7_1
                replace p5 := eq_true p5
                replace q5 := eq_true q5
                have p7 : 0 ≤ (x7_1 : Int) := of_decide_eq_true (by first | (with_reducible assumption) | assumption)
                have q7 : x7_1 < (a0.size : Int) := of_decide_eq_true (by first | (with_reducible assumption) | assumption)
                have hx7 := bt_at a0 x7_1
                replace p7 := eq_true p7
                replace q7 := eq_true q7
                have p9 : 0 ≤ (x7_1 : Int) := of_decide_eq_true (by first | (with_reducible assumption) | assumption)
                have q9 : x7_1 < (a0.size : Int) := of_decide_eq_true (by first | (with_reducible assumption) | assumption)
                have hx9 := bt_at a0 x7_1
                replace p9 := eq_true p9
                replace q9 := eq_true q9
                go_wp2
                go_ret2
                exact ⟨by first | rfl | (simp; done) | (simp [*]; done), by repeat (first | exact Drawn0.refl _ | apply Drawn0.step)⟩
              · rw [if_neg c10] at H
                have c10b0 : decide (((9223372036854775807 - (((bt a0 x7_1) - 48) % 256)) / 10) < x6_1) = false := decide_eq_false c10
                clear c10
                have H' := Aside0.mk H
                clear H
                have p5 : 0 ≤ (x7_1 : Int) := of_decide_eq_true (by first | (with_reducible assumption) | assumption)
                have q5 : x7_1 < (a0.size : Int) := of_decide_eq_true (by first | (with_reducible assumption) | assumption)
                have hx5 := bt_at a0 x7_1
                replace p5 := eq_true p5
                replace q5 := eq_true q5
                have p7 : 0 ≤ (x7_1 : Int) := of_decide_eq_true (by first | (with_reducible assumption) | assumption)
                have q7 : x7_1 < (a0.size : Int) := of_decide_eq_true (by first | (with_reducible assumption) | assumption)
                have hx7 := bt_at a0 x7_1
                replace p7 := eq_true p7
                replace q7 := eq_true q7
                have p9 : 0 ≤ (x7_1 : Int) := of_decide_eq_true (by first | (with_reducible assumption) | assumption)
                have q9 : x7_1 < (a0.size : Int) := of_decide_eq_true (by first | (with_reducible assumption) | assumption)
                have hx9 := bt_at a0 x7_1
                replace p9 := eq_true p9
                replace q9 := eq_true q9
                have p11 : 0 ≤ (x7_1 : Int) := of_decide_eq_true (by first | (with_reducible assumption) | assumption)
                have q11 : x7_1 < (a0.size : Int) := of_decide_eq_true (by first | (with_reducible assumption) | assumption)
                have hx11 := bt_at a0 x7_1
                replace p11 := eq_true p11
                replace q11 := eq_true q11
                go_wp2
                go_roundg k1
                case measure => have := HK1.out; omega
                case rel => exact ⟨(wrap64 ((wrap64 (x6_1 * 10)) + (((bt a0 x7_1) - 48) % 256))), (wrap64 (x7_1 + 1)), (by first | rfl | (simp; done) | (simp [*]; done) | (simp [bne]; done) | (simp [*, bne]; done)), (by first | rfl | (simp; done) | (simp [*]; done) | (simp [bne]; done) | (simp [*, bne]; done)), H', ⟨by have := HK1.out; omega⟩, by repeat (first | exact Drawn0.refl _ | apply Drawn0.step)⟩
        · rw [if_neg c4] at H
          exact absurd H (by simp)
      · rw [if_neg c3] at H
        have c3b0 : decide (x7_1 < (a0.size : Int)) = false := decide_eq_false c3
        clear c3
        by_cases c12 : a0.toList = ([] : List UInt8)
        · rw [if_pos c12] at H
          have c12b0 : (a0.toList == ([] : List UInt8)) = true := beq_iff_eq.mpr c12
          have c12b1 : (a0.toList != ([] : List UInt8)) = false := bne_eq_false_iff_eq.mpr c12
          clear c12
          simp only [Option.some.injEq, Prod.mk.injEq] at H
          obtain ⟨rfl, rfl⟩ := H
          go_wp2
          go_ret2
          exact ⟨by first | rfl | (simp; done) | (simp [*]; done), by repeat (first | exact Drawn0.refl _ | apply Drawn0.step)⟩
        · rw [if_neg c12] at H
          have c12b0 : (a0.toList == ([] : List UInt8)) = false := beq_eq_false_iff_ne.mpr c12
          have c12b1 : (a0.toList != ([] : List UInt8)) = true := bne_iff_ne.mpr c12
          by_cases c13 : (a0.size : Int) > 1
          · rw [if_pos c13] at H
            have c13b0 : decide (1 < (a0.size : Int)) = true := decide_eq_true c13
            have c13b1 : decide (1 < a0.size) = true := decide_eq_true (by omega)
            clear c13
            by_cases c14 : 0 < (a0.size : Int)
            · rw [if_pos c14] at H
              have c14b0 : decide (0 < (a0.size : Int)) = true := decide_eq_true c14
              have c14b1 : decide (0 < a0.size) = true := decide_eq_true (by omega)
              clear c14
              by_cases c16 : (bt a0 0) = 48
              · rw [if_pos c16] at H
                have c16b0 : ((bt a0 0) == 48) = true := beq_iff_eq.mpr c16
                have c16b1 : ((bt a0 0) != 48) = false := bne_eq_false_iff_eq.mpr c16
                clear c16
                simp only [Option.some.injEq, Prod.mk.injEq] at H
                obtain ⟨rfl, rfl⟩ := H
                have p15 : 0 ≤ (0 : Int) := (by omega)
                have q15 : 0 < a0.size := (by have : (0 : Int) < (a0.size : Int) := of_decide_eq_true (by first | (with_reducible assumption) | assumption); omega)
                have hx15 : ∀ h : 0 < a0.size, ((a0[0]'h).toNat : Int) = bt a0 0 := bt_at a0 0
                clear p15
                have qi15 : (0 < (a0.size : Int)) = True := eq_true (of_decide_eq_true (by first | (with_reducible assumption) | assumption))
                replace q15 := eq_true q15
                go_wp2
                go_ret2
                exact ⟨by first | rfl | (simp; done) | (simp [*]; done), by repeat (first | exact Drawn0.refl _ | apply Drawn0.step)⟩
              · rw [if_neg c16] at H
                have c16b0 : ((bt a0 0) == 48) = false := beq_eq_false_iff_ne.mpr c16
                have c16b1 : ((bt a0 0) != 48) = true := bne_iff_ne.mpr c16
                by_cases c17 : x6_1 > a1
                · rw [if_pos c17] at H
                  have c17b0 : decide (a1 < x6_1) = true := decide_eq_true c17
                  clear c17
                  simp only [Option.some.injEq, Prod.mk.injEq] at H
                  obtain ⟨rfl, rfl⟩ := H
                  have p15 : 0 ≤ (0 : Int) := (by omega)
                  have q15 : 0 < a0.size := (by have : (0 : Int) < (a0.size : Int) := of_decide_eq_true (by first | (with_reducible assumption) | assumption); omega)
                  have hx15 : ∀ h : 0 < a0.size, ((a0[0]'h).toNat : Int) = bt a0 0 := bt_at a0 0
                  clear p15
                  have qi15 : (0 < (a0.size : Int)) = True := eq_true (of_decide_eq_true (by first | (with_reducible assumption) | assumption))
                  replace q15 := eq_true q15
                  go_wp2
                  go_ret2
                  exact ⟨by first | rfl | (simp; done) | (simp [*]; done), by repeat (first | exact Drawn0.refl _ | apply Drawn0.step)⟩
                · rw [if_neg c17] at H
                  have c17b0 : decide (a1 < x6_1) = false := decide_eq_false c17
                  clear c17
                  simp only [Option.some.injEq, Prod.mk.injEq] at H
                  obtain ⟨rfl, rfl⟩ := H
                  have p15 : 0 ≤ (0 : Int) := (by omega)
                  have q15 : 0 < a0.size := (by have : (0 : Int) < (a0.size : Int) := of_decide_eq_true (by first | (with_reducible assumption) | assumption); omega)
                  have hx15 : ∀ h : 0 < a0.size, ((a0[0]'h).toNat : Int) = bt a0 0 := bt_at a0 0
                  clear p15
                  have qi15 : (0 < (a0.size : Int)) = True := eq_true (of_decide_eq_true (by first | (with_reducible assumption) | assumption))
                  replace q15 := eq_true q15
                  go_wp2
                  go_ret2
                  exact ⟨by first | rfl | (simp; done) | (simp [*]; done), by repeat (first | exact Drawn0.refl _ | apply Drawn0.step)⟩
            · rw [if_neg c14] at H
              exact absurd H (by simp)
          · rw [if_neg c13] at H
            have c13b0 : decide (1 < (a0.size : Int)) = false := decide_eq_false c13
            have c13b1 : decide (1 < a0.size) = false := decide_eq_false (by omega)
            clear c13
            by_cases c18 : x6_1 > a1
            · rw [if_pos c18] at H
              have c18b0 : decide (a1 < x6_1) = true := decide_eq_true c18
              clear c18
              simp only [Option.some.injEq, Prod.mk.injEq] at H
              obtain ⟨rfl, rfl⟩ := H
              go_wp2
              go_ret2
              exact ⟨by first | rfl | (simp; done) | (simp [*]; done), by repeat (first | exact Drawn0.refl _ | apply Drawn0.step)⟩
            · rw [if_neg c18] at H
              have c18b0 : decide (a1 < x6_1) = false := decide_eq_false c18
              clear c18
              simp only [Option.some.injEq, Prod.mk.injEq] at H
              obtain ⟨rfl, rfl⟩ := H
              go_wp2
              go_ret2
              exact ⟨by first | rfl | (simp; done) | (simp [*]; done), by repeat (first | exact Drawn0.refl _ | apply Drawn0.step)⟩

end Go.Proofs.YtobbliglnjgbaaaGreatDoor.Pg
