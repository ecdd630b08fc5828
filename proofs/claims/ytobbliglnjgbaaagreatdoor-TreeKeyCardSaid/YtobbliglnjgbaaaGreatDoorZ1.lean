/-
  (Pa) printed by the kit's print for this seat; what is not reached is left out.
  The library contracts of the shelf, laid at this seat: tables of numbers and the kernel's comparisons, in plain words (printed by the shelf's tools).
  path.bad and path.May answer 'bad' and 'may' of the name's bytes, at every string; what was there stays.
  Functions of Go's library in the form in which the print asks for a callee: a Lean function on bytes and the contract; strings.Split at a separator of one byte, strings.Cut, strings.Join, strconv.Itoa.
  slices.DeleteFunc at []string over a row of the call's own: the row keeps what the predicate doesn't hold of; nothing but that row is written.
  (Pb) printed by the kit's print for this seat; what is not reached is left out.
  path.May and path.Join: 'may' and 'join' of the bytes.
  slices.Clone at []string; path.Join: 'join' of the parts' bytes.
  mint.GetNumber and mint.Put on bytes: a number that is read, the key of some parts.
  mint.Put on bytes: each part with its length ahead of it, written into a strings.Builder.
  Source trees as sorted lists of names and bytes; a tree in memory; what New, Len, Read, Write, Erase do to it.
  Trees: Write and Erase.
  Trees: New and Clone.
-/
import Derived.Test.YtobbliglnjgbaaaGreatDoorProg
import Derived.Below
import Derived.Deep.Draws
import Derived.Deep.AppendLies
import Derived.Maps.AppendAt
import Derived.OwnWalk
import Derived.Laws.BytesArg
import Derived.Laws.MakeOwn
import Derived.Laws.OwnMore
import Derived.Deep.OwnRows
import Derived.Tactics
import Derived.Lib.ConvBytes
import Derived.Laws.Slices
import Derived.WalkKit
import Derived.KernelRfl
import Derived.RowKit3
import Derived.Deep.LoopGhost
import Derived.Deep.QuietTactic
import Derived.BigQuiet
import Derived.WideLaws
import Derived.Deep.DeepCutAuto
import Derived.Deep.CutBlock
import Derived.Deep.RegionHeld3
import Derived.Laws.Rows
import Derived.Lib.AppendStr
import Derived.ArgAppend
import Derived.Laws.IdiomCopy
import Derived.OrdersHeld
import Derived.Laws.BitsLemmas
import Derived.RowKit
import Derived.Shelf.SlGeneric
import Derived.Shelf.Strings.Split
import Derived.Shelf.Strings.Cut
import Derived.Shelf.Strings.OnBuilder
import Derived.Shelf.LaysM
import Derived.Shelf.LaysC
import Derived.Shelf.GgClosure.StringsRunes
import Derived.Shelf.SlicesE.DeleteFunc
import Derived.Shelf.SlicesE.IndexFunc
import Derived.Shelf.Slices.Clone
import Derived.Shelf.Strconv.Itoa3
import Derived.Shelf.Strconv.AtoiAll
import Derived.Ground.NamesProg
import Derived.Ground.SlgfProg
import Derived.Ground.GgwProg
import Derived.Ground.Names2Prog
import Derived.Ground.SlmcProg
import Derived.Shelf.SlMaps.Clone
import Derived.Shelf.SlIter.Nil
import Derived.Shelf.SortM.Plain
import Derived.Shelf.SortM.SortNone
import Derived.Ground.GgzProg
import Derived.Ground.SlgmProg
import Derived.Laws.RangeAny
import Derived.Shelf.GgClosure.Gives
import Derived.Sort.Grow
import Derived.Lib.AtoiAllCases
import Derived.Lib.SmallJoins
import Derived.Maps.OwnSet
import Derived.Maps.StringElems
import Derived.WalkSpells
import Derived.ChangeMaps5
import Derived.Test.YtobbliglnjgbaaaGreatDoorZ0
namespace Go.Proofs.YtobbliglnjgbaaaGreatDoor.Pa
open Go.Proofs.YtobbliglnjgbaaaGreatDoor.X
open Go.RowKit Go.Proofs.YtobbliglnjgbaaaGreatDoorW.PrintWords Go.Proofs.YtobbliglnjgbaaaGreatDoorW.PrintLast Go.Proofs.YtobbliglnjgbaaaGreatDoorW.PrintMore
attribute [local go_sem] max2_int min2_int max_two min_two max_three min_three max_four min_four   -- for this text's walks alone
set_option linter.unusedVariables false
set_option linter.unusedSimpArgs false



def errW : Option Int → Value
  | none => .nilIface
  | some c => .iface 0 (.int .i64 c)
theorem errW_none : errW none = .nilIface := rfl
theorem errW_some (c : Int) : errW (some c) = .iface 0 (.int .i64 c) := rfl

-- the values' own types

end Go.Proofs.YtobbliglnjgbaaaGreatDoor.Pa
namespace Go.Proofs.YtobbliglnjgbaaaGreatDoor.Pa
open Go.Proofs.YtobbliglnjgbaaaGreatDoor.X
open Go.RowKit Go.Proofs.YtobbliglnjgbaaaGreatDoorW.PrintWords Go.Proofs.YtobbliglnjgbaaaGreatDoorW.PrintLast Go.Proofs.YtobbliglnjgbaaaGreatDoorW.PrintMore
attribute [local go_sem] max2_int min2_int max_two min_two max_three min_three max_four min_four   -- for this text's walks alone
set_option linter.unusedVariables false
set_option linter.unusedSimpArgs false

def path_sign.f (a0 : Int) : Option (Bool) := if a0 ≥ 97 then (if a0 ≤ 122 then (some true) else (if a0 ≥ 65 then (if a0 ≤ 90 then (some true) else (if a0 ≥ 48 then (if a0 ≤ 57 then (some true) else (if a0 = 46 then (some true) else (if a0 = 95 then (some true) else (some (a0 == 45))))) else (if a0 = 46 then (some true) else (if a0 = 95 then (some true) else (some (a0 == 45)))))) else (if a0 ≥ 48 then (if a0 ≤ 57 then (some true) else (if a0 = 46 then (some true) else (if a0 = 95 then (some true) else (some (a0 == 45))))) else (if a0 = 46 then (some true) else (if a0 = 95 then (some true) else (some (a0 == 45))))))) else (if a0 ≥ 65 then (if a0 ≤ 90 then (some true) else (if a0 ≥ 48 then (if a0 ≤ 57 then (some true) else (if a0 = 46 then (some true) else (if a0 = 95 then (some true) else (some (a0 == 45))))) else (if a0 = 46 then (some true) else (if a0 = 95 then (some true) else (some (a0 == 45)))))) else (if a0 ≥ 48 then (if a0 ≤ 57 then (some true) else (if a0 = 46 then (some true) else (if a0 = 95 then (some true) else (some (a0 == 45))))) else (if a0 = 46 then (some true) else (if a0 = 95 then (some true) else (some (a0 == 45))))))
set_option maxHeartbeats 8000000 in
set_option maxRecDepth 100000 in
theorem path_sign.calls (a0 : Int) (r : Bool) (w : World) (hG : GOK w) (h : path_sign.f a0 = some r) :
    Calls Tryz.prog 65 #[.int .i32 a0] w fun e w' => e = .returned (.bool r) ∧ Drawn0 w w' := by
  have HG := Aside0.mk hG
  clear hG
  have H : (if a0 ≥ 97 then (if a0 ≤ 122 then (some true) else (if a0 ≥ 65 then (if a0 ≤ 90 then (some true) else (if a0 ≥ 48 then (if a0 ≤ 57 then (some true) else (if a0 = 46 then (some true) else (if a0 = 95 then (some true) else (some (a0 == 45))))) else (if a0 = 46 then (some true) else (if a0 = 95 then (some true) else (some (a0 == 45)))))) else (if a0 ≥ 48 then (if a0 ≤ 57 then (some true) else (if a0 = 46 then (some true) else (if a0 = 95 then (some true) else (some (a0 == 45))))) else (if a0 = 46 then (some true) else (if a0 = 95 then (some true) else (some (a0 == 45))))))) else (if a0 ≥ 65 then (if a0 ≤ 90 then (some true) else (if a0 ≥ 48 then (if a0 ≤ 57 then (some true) else (if a0 = 46 then (some true) else (if a0 = 95 then (some true) else (some (a0 == 45))))) else (if a0 = 46 then (some true) else (if a0 = 95 then (some true) else (some (a0 == 45)))))) else (if a0 ≥ 48 then (if a0 ≤ 57 then (some true) else (if a0 = 46 then (some true) else (if a0 = 95 then (some true) else (some (a0 == 45))))) else (if a0 = 46 then (some true) else (if a0 = 95 then (some true) else (some (a0 == 45))))))) = some r := h
  clear h
  by_cases c2 : a0 ≥ 97
  · rw [if_pos c2] at H
    have c2b0 : decide (97 ≤ a0) = true := decide_eq_true c2
    clear c2
    by_cases c3 : a0 ≤ 122
    · rw [if_pos c3] at H
      have c3b0 : decide (a0 ≤ 122) = true := decide_eq_true c3
      clear c3
      obtain rfl := Option.some.inj H
      go_enter Tryz.func65, Tryz.ntmps65
      go_wp2
      go_ret
      exact ⟨by first | rfl | (simp; done) | (simp [*]; done), by repeat (first | exact Drawn0.refl _ | apply Drawn0.step)⟩
    · rw [if_neg c3] at H
      have c3b0 : decide (a0 ≤ 122) = false := decide_eq_false c3
      clear c3
      by_cases c4 : a0 ≥ 65
      · rw [if_pos c4] at H
        have c4b0 : decide (65 ≤ a0) = true := decide_eq_true c4
        clear c4
        by_cases c5 : a0 ≤ 90
        · rw [if_pos c5] at H
          have c5b0 : decide (a0 ≤ 90) = true := decide_eq_true c5
          clear c5
          obtain rfl := Option.some.inj H
          go_enter Tryz.func65, Tryz.ntmps65
          go_wp2
          go_ret
          exact ⟨by first | rfl | (simp; done) | (simp [*]; done), by repeat (first | exact Drawn0.refl _ | apply Drawn0.step)⟩
        · rw [if_neg c5] at H
          have c5b0 : decide (a0 ≤ 90) = false := decide_eq_false c5
          clear c5
          by_cases c6 : a0 ≥ 48
          · rw [if_pos c6] at H
            have c6b0 : decide (48 ≤ a0) = true := decide_eq_true c6
            clear c6
            by_cases c7 : a0 ≤ 57
            · rw [if_pos c7] at H
              have c7b0 : decide (a0 ≤ 57) = true := decide_eq_true c7
              clear c7
              obtain rfl := Option.some.inj H
              go_enter Tryz.func65, Tryz.ntmps65
              go_wp2
              go_ret
              exact ⟨by first | rfl | (simp; done) | (simp [*]; done), by repeat (first | exact Drawn0.refl _ | apply Drawn0.step)⟩
            · rw [if_neg c7] at H
              have c7b0 : decide (a0 ≤ 57) = false := decide_eq_false c7
              clear c7
              by_cases c8 : a0 = 46
              · rw [if_pos c8] at H
                have c8b0 : (a0 == 46) = true := beq_iff_eq.mpr c8
                have c8b1 : (a0 != 46) = false := bne_eq_false_iff_eq.mpr c8
                clear c8
                obtain rfl := Option.some.inj H
                go_enter Tryz.func65, Tryz.ntmps65
                go_wp2
                go_ret
                exact ⟨by first | rfl | (simp; done) | (simp [*]; done), by repeat (first | exact Drawn0.refl _ | apply Drawn0.step)⟩
              · rw [if_neg c8] at H
                have c8b0 : (a0 == 46) = false := beq_eq_false_iff_ne.mpr c8
                have c8b1 : (a0 != 46) = true := bne_iff_ne.mpr c8
                by_cases c9 : a0 = 95
                · rw [if_pos c9] at H
                  have c9b0 : (a0 == 95) = true := beq_iff_eq.mpr c9
                  have c9b1 : (a0 != 95) = false := bne_eq_false_iff_eq.mpr c9
                  clear c9
                  obtain rfl := Option.some.inj H
                  go_enter Tryz.func65, Tryz.ntmps65
                  go_wp2
                  go_ret
                  exact ⟨by first | rfl | (simp; done) | (simp [*]; done), by repeat (first | exact Drawn0.refl _ | apply Drawn0.step)⟩
                · rw [if_neg c9] at H
                  have c9b0 : (a0 == 95) = false := beq_eq_false_iff_ne.mpr c9
                  have c9b1 : (a0 != 95) = true := bne_iff_ne.mpr c9
                  obtain rfl := Option.some.inj H
                  go_enter Tryz.func65, Tryz.ntmps65
                  go_wp2
                  go_ret
                  exact ⟨by first | rfl | (simp; done) | (simp [*]; done), by repeat (first | exact Drawn0.refl _ | apply Drawn0.step)⟩
          · rw [if_neg c6] at H
            have c6b0 : decide (48 ≤ a0) = false := decide_eq_false c6
            clear c6
            by_cases c10 : a0 = 46
            · rw [if_pos c10] at H
              have c10b0 : (a0 == 46) = true := beq_iff_eq.mpr c10
              have c10b1 : (a0 != 46) = false := bne_eq_false_iff_eq.mpr c10
              clear c10
              obtain rfl := Option.some.inj H
              go_enter Tryz.func65, Tryz.ntmps65
              go_wp2
              go_ret
              exact ⟨by first | rfl | (simp; done) | (simp [*]; done), by repeat (first | exact Drawn0.refl _ | apply Drawn0.step)⟩
            · rw [if_neg c10] at H
              have c10b0 : (a0 == 46) = false := beq_eq_false_iff_ne.mpr c10
              have c10b1 : (a0 != 46) = true := bne_iff_ne.mpr c10
              by_cases c11 : a0 = 95
              · rw [if_pos c11] at H
                have c11b0 : (a0 == 95) = true := beq_iff_eq.mpr c11
                have c11b1 : (a0 != 95) = false := bne_eq_false_iff_eq.mpr c11
                clear c11
                obtain rfl := Option.some.inj H
                go_enter Tryz.func65, Tryz.ntmps65
                go_wp2
                go_ret
                exact ⟨by first | rfl | (simp; done) | (simp [*]; done), by repeat (first | exact Drawn0.refl _ | apply Drawn0.step)⟩
              · rw [if_neg c11] at H
                have c11b0 : (a0 == 95) = false := beq_eq_false_iff_ne.mpr c11
                have c11b1 : (a0 != 95) = true := bne_iff_ne.mpr c11
                obtain rfl := Option.some.inj H
                go_enter Tryz.func65, Tryz.ntmps65
                go_wp2
                go_ret
                exact ⟨by first | rfl | (simp; done) | (simp [*]; done), by repeat (first | exact Drawn0.refl _ | apply Drawn0.step)⟩
      · rw [if_neg c4] at H
        have c4b0 : decide (65 ≤ a0) = false := decide_eq_false c4
        clear c4
        by_cases c12 : a0 ≥ 48
        · rw [if_pos c12] at H
          have c12b0 : decide (48 ≤ a0) = true := decide_eq_true c12
          clear c12
          by_cases c13 : a0 ≤ 57
          · rw [if_pos c13] at H
            have c13b0 : decide (a0 ≤ 57) = true := decide_eq_true c13
            clear c13
            obtain rfl := Option.some.inj H
            go_enter Tryz.func65, Tryz.ntmps65
            go_wp2
            go_ret
            exact ⟨by first | rfl | (simp; done) | (simp [*]; done), by repeat (first | exact Drawn0.refl _ | apply Drawn0.step)⟩
          · rw [if_neg c13] at H
            have c13b0 : decide (a0 ≤ 57) = false := decide_eq_false c13
            clear c13
            by_cases c14 : a0 = 46
            · rw [if_pos c14] at H
              have c14b0 : (a0 == 46) = true := beq_iff_eq.mpr c14
              have c14b1 : (a0 != 46) = false := bne_eq_false_iff_eq.mpr c14
              clear c14
              obtain rfl := Option.some.inj H
              go_enter Tryz.func65, Tryz.ntmps65
              go_wp2
              go_ret
              exact ⟨by first | rfl | (simp; done) | (simp [*]; done), by repeat (first | exact Drawn0.refl _ | apply Drawn0.step)⟩
            · rw [if_neg c14] at H
              have c14b0 : (a0 == 46) = false := beq_eq_false_iff_ne.mpr c14
              have c14b1 : (a0 != 46) = true := bne_iff_ne.mpr c14
              by_cases c15 : a0 = 95
              · rw [if_pos c15] at H
                have c15b0 : (a0 == 95) = true := beq_iff_eq.mpr c15
                have c15b1 : (a0 != 95) = false := bne_eq_false_iff_eq.mpr c15
                clear c15
                obtain rfl := Option.some.inj H
                go_enter Tryz.func65, Tryz.ntmps65
                go_wp2
                go_ret
                exact ⟨by first | rfl | (simp; done) | (simp [*]; done), by repeat (first | exact Drawn0.refl _ | apply Drawn0.step)⟩
              · rw [if_neg c15] at H
                have c15b0 : (a0 == 95) = false := beq_eq_false_iff_ne.mpr c15
                have c15b1 : (a0 != 95) = true := bne_iff_ne.mpr c15
                obtain rfl := Option.some.inj H
                go_enter Tryz.func65, Tryz.ntmps65
                go_wp2
                go_ret
                exact ⟨by first | rfl | (simp; done) | (simp [*]; done), by repeat (first | exact Drawn0.refl _ | apply Drawn0.step)⟩
        · rw [if_neg c12] at H
          have c12b0 : decide (48 ≤ a0) = false := decide_eq_false c12
          clear c12
          by_cases c16 : a0 = 46
          · rw [if_pos c16] at H
            have c16b0 : (a0 == 46) = true := beq_iff_eq.mpr c16
            have c16b1 : (a0 != 46) = false := bne_eq_false_iff_eq.mpr c16
            clear c16
            obtain rfl := Option.some.inj H
            go_enter Tryz.func65, Tryz.ntmps65
            go_wp2
            go_ret
            exact ⟨by first | rfl | (simp; done) | (simp [*]; done), by repeat (first | exact Drawn0.refl _ | apply Drawn0.step)⟩
          · rw [if_neg c16] at H
            have c16b0 : (a0 == 46) = false := beq_eq_false_iff_ne.mpr c16
            have c16b1 : (a0 != 46) = true := bne_iff_ne.mpr c16
            by_cases c17 : a0 = 95
            · rw [if_pos c17] at H
              have c17b0 : (a0 == 95) = true := beq_iff_eq.mpr c17
              have c17b1 : (a0 != 95) = false := bne_eq_false_iff_eq.mpr c17
              clear c17
              obtain rfl := Option.some.inj H
              go_enter Tryz.func65, Tryz.ntmps65
              go_wp2
              go_ret
              exact ⟨by first | rfl | (simp; done) | (simp [*]; done), by repeat (first | exact Drawn0.refl _ | apply Drawn0.step)⟩
            · rw [if_neg c17] at H
              have c17b0 : (a0 == 95) = false := beq_eq_false_iff_ne.mpr c17
              have c17b1 : (a0 != 95) = true := bne_iff_ne.mpr c17
              obtain rfl := Option.some.inj H
              go_enter Tryz.func65, Tryz.ntmps65
              go_wp2
              go_ret
              exact ⟨by first | rfl | (simp; done) | (simp [*]; done), by repeat (first | exact Drawn0.refl _ | apply Drawn0.step)⟩
  · rw [if_neg c2] at H
    have c2b0 : decide (97 ≤ a0) = false := decide_eq_false c2
    clear c2
    by_cases c18 : a0 ≥ 65
    · rw [if_pos c18] at H
      have c18b0 : decide (65 ≤ a0) = true := decide_eq_true c18
      clear c18
      by_cases c19 : a0 ≤ 90
      · rw [if_pos c19] at H
        have c19b0 : decide (a0 ≤ 90) = true := decide_eq_true c19
        clear c19
        obtain rfl := Option.some.inj H
        go_enter Tryz.func65, Tryz.ntmps65
        go_wp2
        go_ret
        exact ⟨by first | rfl | (simp; done) | (simp [*]; done), by repeat (first | exact Drawn0.refl _ | apply Drawn0.step)⟩
      · rw [if_neg c19] at H
        have c19b0 : decide (a0 ≤ 90) = false := decide_eq_false c19
        clear c19
        by_cases c20 : a0 ≥ 48
        · rw [if_pos c20] at H
          have c20b0 : decide (48 ≤ a0) = true := decide_eq_true c20
          clear c20
          by_cases c21 : a0 ≤ 57
          · rw [if_pos c21] at H
            have c21b0 : decide (a0 ≤ 57) = true := decide_eq_true c21
            clear c21
            obtain rfl := Option.some.inj H
            go_enter Tryz.func65, Tryz.ntmps65
            go_wp2
            go_ret
            exact ⟨by first | rfl | (simp; done) | (simp [*]; done), by repeat (first | exact Drawn0.refl _ | apply Drawn0.step)⟩
          · rw [if_neg c21] at H
            have c21b0 : decide (a0 ≤ 57) = false := decide_eq_false c21
            clear c21
            by_cases c22 : a0 = 46
            · rw [if_pos c22] at H
              have c22b0 : (a0 == 46) = true := beq_iff_eq.mpr c22
              have c22b1 : (a0 != 46) = false := bne_eq_false_iff_eq.mpr c22
              clear c22
              obtain rfl := Option.some.inj H
              go_enter Tryz.func65, Tryz.ntmps65
              go_wp2
              go_ret
              exact ⟨by first | rfl | (simp; done) | (simp [*]; done), by repeat (first | exact Drawn0.refl _ | apply Drawn0.step)⟩
            · rw [if_neg c22] at H
              have c22b0 : (a0 == 46) = false := beq_eq_false_iff_ne.mpr c22
              have c22b1 : (a0 != 46) = true := bne_iff_ne.mpr c22
              by_cases c23 : a0 = 95
              · rw [if_pos c23] at H
                have c23b0 : (a0 == 95) = true := beq_iff_eq.mpr c23
                have c23b1 : (a0 != 95) = false := bne_eq_false_iff_eq.mpr c23
                clear c23
                obtain rfl := Option.some.inj H
                go_enter Tryz.func65, Tryz.ntmps65
                go_wp2
                go_ret
                exact ⟨by first | rfl | (simp; done) | (simp [*]; done), by repeat (first | exact Drawn0.refl _ | apply Drawn0.step)⟩
              · rw [if_neg c23] at H
                have c23b0 : (a0 == 95) = false := beq_eq_false_iff_ne.mpr c23
                have c23b1 : (a0 != 95) = true := bne_iff_ne.mpr c23
                obtain rfl := Option.some.inj H
                go_enter Tryz.func65, Tryz.ntmps65
                go_wp2
                go_ret
                exact ⟨by first | rfl | (simp; done) | (simp [*]; done), by repeat (first | exact Drawn0.refl _ | apply Drawn0.step)⟩
        · rw [if_neg c20] at H
          have c20b0 : decide (48 ≤ a0) = false := decide_eq_false c20
          clear c20
          by_cases c24 : a0 = 46
          · rw [if_pos c24] at H
            have c24b0 : (a0 == 46) = true := beq_iff_eq.mpr c24
            have c24b1 : (a0 != 46) = false := bne_eq_false_iff_eq.mpr c24
            clear c24
            obtain rfl := Option.some.inj H
            go_enter Tryz.func65, Tryz.ntmps65
            go_wp2
            go_ret
            exact ⟨by first | rfl | (simp; done) | (simp [*]; done), by repeat (first | exact Drawn0.refl _ | apply Drawn0.step)⟩
          · rw [if_neg c24] at H
            have c24b0 : (a0 == 46) = false := beq_eq_false_iff_ne.mpr c24
            have c24b1 : (a0 != 46) = true := bne_iff_ne.mpr c24
            by_cases c25 : a0 = 95
            · rw [if_pos c25] at H
              have c25b0 : (a0 == 95) = true := beq_iff_eq.mpr c25
              have c25b1 : (a0 != 95) = false := bne_eq_false_iff_eq.mpr c25
              clear c25
              obtain rfl := Option.some.inj H
              go_enter Tryz.func65, Tryz.ntmps65
              go_wp2
              go_ret
              exact ⟨by first | rfl | (simp; done) | (simp [*]; done), by repeat (first | exact Drawn0.refl _ | apply Drawn0.step)⟩
            · rw [if_neg c25] at H
              have c25b0 : (a0 == 95) = false := beq_eq_false_iff_ne.mpr c25
              have c25b1 : (a0 != 95) = true := bne_iff_ne.mpr c25
              obtain rfl := Option.some.inj H
              go_enter Tryz.func65, Tryz.ntmps65
              go_wp2
              go_ret
              exact ⟨by first | rfl | (simp; done) | (simp [*]; done), by repeat (first | exact Drawn0.refl _ | apply Drawn0.step)⟩
    · rw [if_neg c18] at H
      have c18b0 : decide (65 ≤ a0) = false := decide_eq_false c18
      clear c18
      by_cases c26 : a0 ≥ 48
      · rw [if_pos c26] at H
        have c26b0 : decide (48 ≤ a0) = true := decide_eq_true c26
        clear c26
        by_cases c27 : a0 ≤ 57
        · rw [if_pos c27] at H
          have c27b0 : decide (a0 ≤ 57) = true := decide_eq_true c27
          clear c27
          obtain rfl := Option.some.inj H
          go_enter Tryz.func65, Tryz.ntmps65
          go_wp2
          go_ret
          exact ⟨by first | rfl | (simp; done) | (simp [*]; done), by repeat (first | exact Drawn0.refl _ | apply Drawn0.step)⟩
        · rw [if_neg c27] at H
          have c27b0 : decide (a0 ≤ 57) = false := decide_eq_false c27
          clear c27
          by_cases c28 : a0 = 46
          · rw [if_pos c28] at H
            have c28b0 : (a0 == 46) = true := beq_iff_eq.mpr c28
            have c28b1 : (a0 != 46) = false := bne_eq_false_iff_eq.mpr c28
            clear c28
            obtain rfl := Option.some.inj H
            go_enter Tryz.func65, Tryz.ntmps65
            go_wp2
            go_ret
            exact ⟨by first | rfl | (simp; done) | (simp [*]; done), by repeat (first | exact Drawn0.refl _ | apply Drawn0.step)⟩
          · rw [if_neg c28] at H
            have c28b0 : (a0 == 46) = false := beq_eq_false_iff_ne.mpr c28
            have c28b1 : (a0 != 46) = true := bne_iff_ne.mpr c28
            by_cases c29 : a0 = 95
            · rw [if_pos c29] at H
              have c29b0 : (a0 == 95) = true := beq_iff_eq.mpr c29
              have c29b1 : (a0 != 95) = false := bne_eq_false_iff_eq.mpr c29
              clear c29
              obtain rfl := Option.some.inj H
              go_enter Tryz.func65, Tryz.ntmps65
              go_wp2
              go_ret
              exact ⟨by first | rfl | (simp; done) | (simp [*]; done), by repeat (first | exact Drawn0.refl _ | apply Drawn0.step)⟩
            · rw [if_neg c29] at H
              have c29b0 : (a0 == 95) = false := beq_eq_false_iff_ne.mpr c29
              have c29b1 : (a0 != 95) = true := bne_iff_ne.mpr c29
              obtain rfl := Option.some.inj H
              go_enter Tryz.func65, Tryz.ntmps65
              go_wp2
              go_ret
              exact ⟨by first | rfl | (simp; done) | (simp [*]; done), by repeat (first | exact Drawn0.refl _ | apply Drawn0.step)⟩
      · rw [if_neg c26] at H
        have c26b0 : decide (48 ≤ a0) = false := decide_eq_false c26
        clear c26
        by_cases c30 : a0 = 46
        · rw [if_pos c30] at H
          have c30b0 : (a0 == 46) = true := beq_iff_eq.mpr c30
          have c30b1 : (a0 != 46) = false := bne_eq_false_iff_eq.mpr c30
          clear c30
          obtain rfl := Option.some.inj H
          go_enter Tryz.func65, Tryz.ntmps65
          go_wp2
          go_ret
          exact ⟨by first | rfl | (simp; done) | (simp [*]; done), by repeat (first | exact Drawn0.refl _ | apply Drawn0.step)⟩
        · rw [if_neg c30] at H
          have c30b0 : (a0 == 46) = false := beq_eq_false_iff_ne.mpr c30
          have c30b1 : (a0 != 46) = true := bne_iff_ne.mpr c30
          by_cases c31 : a0 = 95
          · rw [if_pos c31] at H
            have c31b0 : (a0 == 95) = true := beq_iff_eq.mpr c31
            have c31b1 : (a0 != 95) = false := bne_eq_false_iff_eq.mpr c31
            clear c31
            obtain rfl := Option.some.inj H
            go_enter Tryz.func65, Tryz.ntmps65
            go_wp2
            go_ret
            exact ⟨by first | rfl | (simp; done) | (simp [*]; done), by repeat (first | exact Drawn0.refl _ | apply Drawn0.step)⟩
          · rw [if_neg c31] at H
            have c31b0 : (a0 == 95) = false := beq_eq_false_iff_ne.mpr c31
            have c31b1 : (a0 != 95) = true := bne_iff_ne.mpr c31
            obtain rfl := Option.some.inj H
            go_enter Tryz.func65, Tryz.ntmps65
            go_wp2
            go_ret
            exact ⟨by first | rfl | (simp; done) | (simp [*]; done), by repeat (first | exact Drawn0.refl _ | apply Drawn0.step)⟩

def path_bad_1.f (a0 : Int) : Option (Bool) := (path_sign.f a0).bind fun t101 => (some (!t101))
set_option maxHeartbeats 8000000 in
set_option maxRecDepth 100000 in
theorem path_bad_1.calls (a0 : Int) (r : Bool) (w : World) (hG : GOK w) (h : path_bad_1.f a0 = some r) :
    Calls Tryz.prog 64 #[.int .i32 a0] w fun e w' => e = .returned (.bool r) ∧ Drawn0 w w' := by
  have HG := Aside0.mk hG
  clear hG
  have H : ((path_sign.f a0).bind fun t101 => (some (!t101))) = some r := h
  clear h
  replace H := Option.bind_eq_some_iff.mp H
  obtain ⟨t101, A20, H⟩ := H
  replace H : (some (!t101)) = some r := H
  have A2 := Aside0.mk A20
  clear A20
  obtain rfl := Option.some.inj H
  go_enter Tryz.func64, Tryz.ntmps64
  go_wp2_with (first | ((with_reducible refine gate_callee (f := 65) rfl ?_); refine goesL_ (some 4) rfl rfl Tryz.func65 (by kernel_rfl) rfl #[.int .i32 a0] rfl (by (try simp only [List.map_toArray, List.map_cons, List.map_nil]); first | done | rfl | (simp only [List.length_drop, List.length_take]; rfl)) ?_; (with_reducible refine (path_sign.calls a0 t101 _ ?side99 A2.out).mono ?_); (case side99 => first | exact HG.out | exact GOK.drewN HG.out _); rintro e w' ⟨rfl, ⟨nd, rfl⟩⟩; refine ⟨_, rfl, ?_⟩))
  go_ret
  exact ⟨by first | rfl | (simp; done) | (simp [*]; done), by repeat (first | exact Drawn0.refl _ | apply Drawn0.step)⟩

def path_Join_1.f (a0 : ByteArray) : Option (Bool) := some (a0.toList == ([] : List UInt8))
set_option maxHeartbeats 8000000 in
set_option maxRecDepth 100000 in
theorem path_Join_1.calls (a0 : ByteArray) (r : Bool) (w : World) (hG : GOK w) (h : path_Join_1.f a0 = some r) :
    Calls Tryz.prog 46 #[.string a0] w fun e w' => e = .returned (.bool r) ∧ Drawn0 w w' := by
  have HG := Aside0.mk hG
  clear hG
  have H : (some (a0.toList == ([] : List UInt8))) = some r := h
  clear h
  obtain rfl := Option.some.inj H
  go_enter Tryz.func46, Tryz.ntmps46
  go_wp2
  go_ret
  exact ⟨by first | rfl | (simp; done) | (simp [*]; done), by repeat (first | exact Drawn0.refl _ | apply Drawn0.step)⟩

end Go.Proofs.YtobbliglnjgbaaaGreatDoor.Pa

namespace Go.Proofs
open Go.Shelf
def Tryz.laysM146_ren : Go.Shelf.Ren := ⟨fun | 146 => 45 | 221 => 66 | 268 => 79 | 138 => 80 | 143 => 81 | 195 => 95 | 197 => 96 | 218 => 97 | 219 => 85 | 260 => 118 | 217 => 100 | 225 => 101 | 224 => 102 | 267 => 103 | 266 => 123 | 314 => 124 | n => n, fun | 9 => 9 | 31 => 28 | 3 => 3 | 4 => 4 | 0 => 0 | 105 => 121 | 21 => 21 | 5 => 5 | 46 => 112 | 119 => 160 | 139 => 163 | 138 => 162 | 146 => 148 | 51 => 135 | n => n, fun | 1 => 0 | 3 => 3 | 4 => 4 | n => n⟩
theorem Tryz.laysM146 : Go.Proofs.LaysM.n146 Tryz.prog Tryz.laysM146_ren := {
  mixed := by kernel_rfl
  f138 := Tryz.func80.trans (congrArg some (by kernel_rfl))
  f143 := Tryz.func81.trans (congrArg some (by kernel_rfl))
  f146 := Tryz.func45.trans (congrArg some (by kernel_rfl))
  f195 := Tryz.func95.trans (congrArg some (by kernel_rfl))
  f197 := Tryz.func96.trans (congrArg some (by kernel_rfl))
  f217 := Tryz.func100.trans (congrArg some (by kernel_rfl))
  f218 := Tryz.func97.trans (congrArg some (by kernel_rfl))
  f219 := Tryz.func85.trans (congrArg some (by kernel_rfl))
  f221 := Tryz.func66.trans (congrArg some (by kernel_rfl))
  f224 := Tryz.func102.trans (congrArg some (by kernel_rfl))
  f225 := Tryz.func101.trans (congrArg some (by kernel_rfl))
  f260 := Tryz.func118.trans (congrArg some (by kernel_rfl))
  f266 := Tryz.func123.trans (congrArg some (by kernel_rfl))
  f267 := Tryz.func103.trans (congrArg some (by kernel_rfl))
  f268 := Tryz.func79.trans (congrArg some (by kernel_rfl))
  f314 := Tryz.func124.trans (congrArg some (by kernel_rfl))
  t0 := Tryz.underlying0
  a0 := Tryz.isAgg0
  z0 := Tryz.sizeOf0
  v0 := Tryz.zeroValue0
  t3 := Tryz.underlying3
  a3 := Tryz.isAgg3
  z3 := Tryz.sizeOf3
  v3 := Tryz.zeroValue3
  t4 := Tryz.underlying4
  a4 := Tryz.isAgg4
  z4 := Tryz.sizeOf4
  v4 := Tryz.zeroValue4
  t5 := Tryz.underlying5
  a5 := Tryz.isAgg5
  z5 := Tryz.sizeOf5
  v5 := Tryz.zeroValue5
  t9 := Tryz.underlying9
  a9 := Tryz.isAgg9
  z9 := Tryz.sizeOf9
  v9 := Tryz.zeroValue9
  t21 := Tryz.underlying21
  a21 := Tryz.isAgg21
  z21 := Tryz.sizeOf21
  v21 := Tryz.zeroValue21
  t31 := Tryz.underlying28
  a31 := Tryz.isAgg28
  z31 := Tryz.sizeOf28
  v31 := Tryz.zeroValue28
  t46 := Tryz.underlying112
  a46 := Tryz.isAgg112
  z46 := Tryz.sizeOf112
  v46 := Tryz.zeroValue112
  t51 := Tryz.underlying135
  a51 := Tryz.isAgg135
  z51 := Tryz.sizeOf135
  v51 := Tryz.zeroValue135
  t105 := Tryz.underlying121
  a105 := Tryz.isAgg121
  z105 := Tryz.sizeOf121
  v105 := Tryz.zeroValue121
  t119 := Tryz.underlying160
  a119 := Tryz.isAgg160
  z119 := Tryz.sizeOf160
  t138 := Tryz.underlying162
  a138 := Tryz.isAgg162
  z138 := Tryz.sizeOf162
  v138 := Tryz.zeroValue162
  t139 := Tryz.underlying163
  a139 := Tryz.isAgg163
  z139 := Tryz.sizeOf163
  v139 := Tryz.zeroValue163
  t146 := Tryz.underlying148
  a146 := Tryz.isAgg148
  z146 := Tryz.sizeOf148
  v146 := Tryz.zeroValue148
  g1 := by kernel_rfl
  g3 := by kernel_rfl
  g4 := by kernel_rfl
  i0 := by kernel_rfl
  i3 := by kernel_rfl
  i4 := by kernel_rfl
  i5 := by kernel_rfl
  i9 := by kernel_rfl
  i21 := by kernel_rfl
  i31 := by kernel_rfl
  i46 := by kernel_rfl
  i51 := by kernel_rfl
  i105 := by kernel_rfl
  i138 := by kernel_rfl
  i139 := by kernel_rfl
  i146 := by kernel_rfl
  m1 := by kernel_rfl
  s1_3 := fun w h => Go.Proofs.cell_of_shapedOpen_int (zero := #[.int .i64 0]) (t := 3) h (of_decide_eq_true (by kernel_rfl)) (by kernel_rfl) rfl (by kernel_rfl) (by kernel_rfl) Tryz.underlying3
  m3 := by kernel_rfl
  m4 := by kernel_rfl }
def Tryz.lays145_ren : Go.Shelf.Ren := ⟨fun | 145 => 54 | 220 => 70 | 219 => 85 | 217 => 100 | 225 => 101 | 224 => 102 | 267 => 103 | 266 => 123 | 314 => 124 | n => n, fun | 9 => 9 | 4 => 4 | 59 => 87 | 3 => 3 | 5 => 5 | 46 => 112 | 146 => 148 | 51 => 135 | n => n, fun | 1 => 0 | n => n⟩
theorem Tryz.lays145 : Go.Proofs.Lays.n145 Tryz.prog Tryz.lays145_ren := {
  mixed := by kernel_rfl
  f145 := Tryz.func54.trans (congrArg some (by kernel_rfl))
  f217 := Tryz.func100.trans (congrArg some (by kernel_rfl))
  f219 := Tryz.func85.trans (congrArg some (by kernel_rfl))
  f220 := Tryz.func70.trans (congrArg some (by kernel_rfl))
  f224 := Tryz.func102.trans (congrArg some (by kernel_rfl))
  f225 := Tryz.func101.trans (congrArg some (by kernel_rfl))
  f266 := Tryz.func123.trans (congrArg some (by kernel_rfl))
  f267 := Tryz.func103.trans (congrArg some (by kernel_rfl))
  f314 := Tryz.func124.trans (congrArg some (by kernel_rfl))
  t3 := Tryz.underlying3
  a3 := Tryz.isAgg3
  z3 := Tryz.sizeOf3
  v3 := Tryz.zeroValue3
  t4 := Tryz.underlying4
  a4 := Tryz.isAgg4
  z4 := Tryz.sizeOf4
  v4 := Tryz.zeroValue4
  t5 := Tryz.underlying5
  a5 := Tryz.isAgg5
  z5 := Tryz.sizeOf5
  v5 := Tryz.zeroValue5
  t9 := Tryz.underlying9
  a9 := Tryz.isAgg9
  z9 := Tryz.sizeOf9
  v9 := Tryz.zeroValue9
  t46 := Tryz.underlying112
  a46 := Tryz.isAgg112
  z46 := Tryz.sizeOf112
  v46 := Tryz.zeroValue112
  t51 := Tryz.underlying135
  a51 := Tryz.isAgg135
  z51 := Tryz.sizeOf135
  v51 := Tryz.zeroValue135
  t59 := Tryz.underlying87
  a59 := Tryz.isAgg87
  z59 := Tryz.sizeOf87
  v59 := Tryz.zeroValue87
  t146 := Tryz.underlying148
  a146 := Tryz.isAgg148
  z146 := Tryz.sizeOf148
  v146 := Tryz.zeroValue148
  g1 := by kernel_rfl }
def Tryz.lays156_ren : Go.Shelf.Ren := ⟨fun | 156 => 47 | 165 => 67 | 166 => 51 | 169 => 53 | 240 => 68 | 241 => 82 | 276 => 83 | 277 => 98 | n => n, fun | 31 => 28 | 9 => 9 | 3 => 3 | 4 => 4 | 0 => 0 | 20 => 20 | 72 => 82 | 76 => 85 | 70 => 80 | 37 => 43 | 75 => 84 | 127 => 100 | 164 => 107 | 5 => 5 | 80 => 51 | n => n, fun | n => n⟩
theorem Tryz.lays156 : Go.Proofs.Lays.n156 Tryz.prog Tryz.lays156_ren := {
  mixed := by kernel_rfl
  f156 := Tryz.func47.trans (congrArg some (by kernel_rfl))
  f165 := Tryz.func67.trans (congrArg some (by kernel_rfl))
  f166 := Tryz.func51.trans (congrArg some (by kernel_rfl))
  f169 := Tryz.func53.trans (congrArg some (by kernel_rfl))
  f240 := Tryz.func68.trans (congrArg some (by kernel_rfl))
  f241 := Tryz.func82.trans (congrArg some (by kernel_rfl))
  f276 := Tryz.func83.trans (congrArg some (by kernel_rfl))
  f277 := Tryz.func98.trans (congrArg some (by kernel_rfl))
  t0 := Tryz.underlying0
  a0 := Tryz.isAgg0
  z0 := Tryz.sizeOf0
  v0 := Tryz.zeroValue0
  t3 := Tryz.underlying3
  a3 := Tryz.isAgg3
  z3 := Tryz.sizeOf3
  v3 := Tryz.zeroValue3
  t4 := Tryz.underlying4
  a4 := Tryz.isAgg4
  z4 := Tryz.sizeOf4
  v4 := Tryz.zeroValue4
  t9 := Tryz.underlying9
  a9 := Tryz.isAgg9
  z9 := Tryz.sizeOf9
  v9 := Tryz.zeroValue9
  t20 := Tryz.underlying20
  a20 := Tryz.isAgg20
  z20 := Tryz.sizeOf20
  v20 := Tryz.zeroValue20
  t31 := Tryz.underlying28
  a31 := Tryz.isAgg28
  z31 := Tryz.sizeOf28
  v31 := Tryz.zeroValue28
  t37 := Tryz.underlying43
  a37 := Tryz.isAgg43
  z37 := Tryz.sizeOf43
  v37 := Tryz.zeroValue43
  t70 := Tryz.underlying80
  a70 := Tryz.isAgg80
  z70 := Tryz.sizeOf80
  v70 := Tryz.zeroValue80
  t72 := Tryz.underlying82
  a72 := Tryz.isAgg82
  z72 := Tryz.sizeOf82
  v72 := Tryz.zeroValue82
  t75 := Tryz.underlying84
  a75 := Tryz.isAgg84
  z75 := Tryz.sizeOf84
  v75 := Tryz.zeroValue84
  t76 := Tryz.underlying85
  a76 := Tryz.isAgg85
  z76 := Tryz.sizeOf85
  v76 := Tryz.zeroValue85
  t127 := Tryz.underlying100
  a127 := Tryz.isAgg100
  z127 := Tryz.sizeOf100
  v127 := Tryz.zeroValue100
  t164 := Tryz.underlying107
  a164 := Tryz.isAgg107
  z164 := Tryz.sizeOf107
  v164 := Tryz.zeroValue107 }
def Tryz.laysM171_ren : Go.Shelf.Ren := ⟨fun | 171 => 69 | 243 => 84 | 246 => 99 | 283 => 119 | 284 => 120 | 285 => 121 | 286 => 122 | 129 => 114 | 317 => 133 | 318 => 134 | 319 => 135 | 320 => 136 | 337 => 138 | 338 => 139 | n => n, fun | 3 => 3 | 9 => 9 | 2 => 2 | 4 => 4 | 171 => 144 | 0 => 0 | 53 => 137 | 37 => 43 | 5 => 5 | 173 => 146 | 212 => 165 | 51 => 135 | 20 => 20 | 213 => 166 | 46 => 112 | 232 => 171 | 233 => 172 | n => n, fun | 17 => 5 | 18 => 6 | 19 => 7 | n => n⟩
theorem Tryz.laysM171 : Go.Proofs.LaysM.n171 Tryz.prog Tryz.laysM171_ren := {
  mixed := by kernel_rfl
  f129 := Tryz.func114.trans (congrArg some (by kernel_rfl))
  f171 := Tryz.func69.trans (congrArg some (by kernel_rfl))
  f243 := Tryz.func84.trans (congrArg some (by kernel_rfl))
  f246 := Tryz.func99.trans (congrArg some (by kernel_rfl))
  f283 := Tryz.func119.trans (congrArg some (by kernel_rfl))
  f284 := Tryz.func120.trans (congrArg some (by kernel_rfl))
  f285 := Tryz.func121.trans (congrArg some (by kernel_rfl))
  f286 := Tryz.func122.trans (congrArg some (by kernel_rfl))
  f317 := Tryz.func133.trans (congrArg some (by kernel_rfl))
  f318 := Tryz.func134.trans (congrArg some (by kernel_rfl))
  f319 := Tryz.func135.trans (congrArg some (by kernel_rfl))
  f320 := Tryz.func136.trans (congrArg some (by kernel_rfl))
  f337 := Tryz.func138.trans (congrArg some (by kernel_rfl))
  f338 := Tryz.func139.trans (congrArg some (by kernel_rfl))
  t0 := Tryz.underlying0
  a0 := Tryz.isAgg0
  z0 := Tryz.sizeOf0
  v0 := Tryz.zeroValue0
  t2 := Tryz.underlying2
  a2 := Tryz.isAgg2
  z2 := Tryz.sizeOf2
  v2 := Tryz.zeroValue2
  t3 := Tryz.underlying3
  a3 := Tryz.isAgg3
  z3 := Tryz.sizeOf3
  v3 := Tryz.zeroValue3
  t4 := Tryz.underlying4
  a4 := Tryz.isAgg4
  z4 := Tryz.sizeOf4
  v4 := Tryz.zeroValue4
  t5 := Tryz.underlying5
  a5 := Tryz.isAgg5
  z5 := Tryz.sizeOf5
  v5 := Tryz.zeroValue5
  t9 := Tryz.underlying9
  a9 := Tryz.isAgg9
  z9 := Tryz.sizeOf9
  v9 := Tryz.zeroValue9
  t20 := Tryz.underlying20
  a20 := Tryz.isAgg20
  z20 := Tryz.sizeOf20
  v20 := Tryz.zeroValue20
  t37 := Tryz.underlying43
  a37 := Tryz.isAgg43
  z37 := Tryz.sizeOf43
  v37 := Tryz.zeroValue43
  t46 := Tryz.underlying112
  a46 := Tryz.isAgg112
  z46 := Tryz.sizeOf112
  v46 := Tryz.zeroValue112
  t51 := Tryz.underlying135
  a51 := Tryz.isAgg135
  z51 := Tryz.sizeOf135
  v51 := Tryz.zeroValue135
  t53 := Tryz.underlying137
  a53 := Tryz.isAgg137
  z53 := Tryz.sizeOf137
  v53 := Tryz.zeroValue137
  t171 := Tryz.underlying144
  a171 := Tryz.isAgg144
  z171 := Tryz.sizeOf144
  v171 := Tryz.zeroValue144
  t173 := Tryz.underlying146
  a173 := Tryz.isAgg146
  z173 := Tryz.sizeOf146
  v173 := Tryz.zeroValue146
  t212 := Tryz.underlying165
  a212 := Tryz.isAgg165
  z212 := Tryz.sizeOf165
  v212 := Tryz.zeroValue165
  t213 := Tryz.underlying166
  a213 := Tryz.isAgg166
  z213 := Tryz.sizeOf166
  t232 := Tryz.underlying171
  a232 := Tryz.isAgg171
  z232 := Tryz.sizeOf171
  v232 := Tryz.zeroValue171
  t233 := Tryz.underlying172
  a233 := Tryz.isAgg172
  z233 := Tryz.sizeOf172
  v233 := Tryz.zeroValue172
  g17 := by kernel_rfl
  g18 := by kernel_rfl
  g19 := by kernel_rfl
  i0 := by kernel_rfl
  i2 := by kernel_rfl
  i3 := by kernel_rfl
  i4 := by kernel_rfl
  i5 := by kernel_rfl
  i9 := by kernel_rfl
  i20 := by kernel_rfl
  i37 := by kernel_rfl
  i46 := by kernel_rfl
  i51 := by kernel_rfl
  i53 := by kernel_rfl
  i171 := by kernel_rfl
  i173 := by kernel_rfl
  i212 := by kernel_rfl
  i232 := by kernel_rfl
  i233 := by kernel_rfl
  m17 := by kernel_rfl
  m18 := by kernel_rfl
  m19 := by kernel_rfl }
def Tryz.laysC172_ren : Go.Shelf.Ren := ⟨fun | 172 => 61 | 244 => 76 | 245 => 77 | 247 => 89 | 279 => 90 | 280 => 91 | 281 => 92 | 282 => 93 | 287 => 115 | 316 => 116 | 171 => 69 | 205 => 117 | 321 => 131 | 322 => 132 | 243 => 84 | 246 => 99 | 283 => 119 | 284 => 120 | 285 => 121 | 286 => 122 | 129 => 114 | 317 => 133 | 318 => 134 | 319 => 135 | 320 => 136 | 337 => 138 | 338 => 139 | n => n, fun | 9 => 9 | 3 => 3 | 75 => 84 | 76 => 85 | 4 => 4 | 5 => 5 | 167 => 113 | 37 => 43 | 0 => 0 | 85 => 114 | 2 => 2 | 168 => 116 | 53 => 137 | 175 => 138 | 46 => 112 | 210 => 142 | 127 => 100 | 145 => 159 | 143 => 157 | 21 => 21 | 171 => 144 | 173 => 146 | 212 => 165 | 51 => 135 | 20 => 20 | 213 => 166 | 232 => 171 | 233 => 172 | 80 => 51 | n => n, fun | 15 => 1 | 16 => 2 | 17 => 5 | 18 => 6 | 19 => 7 | n => n⟩
theorem Tryz.laysC172 : Go.Proofs.LaysC.n172 Tryz.prog Tryz.laysC172_ren := {
  mixed := by kernel_rfl
  f129 := Tryz.func114.trans (congrArg some (by kernel_rfl))
  f171 := Tryz.func69.trans (congrArg some (by kernel_rfl))
  f172 := Tryz.func61.trans (congrArg some (by kernel_rfl))
  f205 := Tryz.func117.trans (congrArg some (by kernel_rfl))
  f243 := Tryz.func84.trans (congrArg some (by kernel_rfl))
  f244 := Tryz.func76.trans (congrArg some (by kernel_rfl))
  f245 := Tryz.func77.trans (congrArg some (by kernel_rfl))
  f246 := Tryz.func99.trans (congrArg some (by kernel_rfl))
  f247 := Tryz.func89.trans (congrArg some (by kernel_rfl))
  f279 := Tryz.func90.trans (congrArg some (by kernel_rfl))
  f280 := Tryz.func91.trans (congrArg some (by kernel_rfl))
  f281 := Tryz.func92.trans (congrArg some (by kernel_rfl))
  f282 := Tryz.func93.trans (congrArg some (by kernel_rfl))
  f283 := Tryz.func119.trans (congrArg some (by kernel_rfl))
  f284 := Tryz.func120.trans (congrArg some (by kernel_rfl))
  f285 := Tryz.func121.trans (congrArg some (by kernel_rfl))
  f286 := Tryz.func122.trans (congrArg some (by kernel_rfl))
  f287 := Tryz.func115.trans (congrArg some (by kernel_rfl))
  f316 := Tryz.func116.trans (congrArg some (by kernel_rfl))
  f317 := Tryz.func133.trans (congrArg some (by kernel_rfl))
  f318 := Tryz.func134.trans (congrArg some (by kernel_rfl))
  f319 := Tryz.func135.trans (congrArg some (by kernel_rfl))
  f320 := Tryz.func136.trans (congrArg some (by kernel_rfl))
  f321 := Tryz.func131.trans (congrArg some (by kernel_rfl))
  f322 := Tryz.func132.trans (congrArg some (by kernel_rfl))
  f337 := Tryz.func138.trans (congrArg some (by kernel_rfl))
  f338 := Tryz.func139.trans (congrArg some (by kernel_rfl))
  t0 := Tryz.underlying0
  a0 := Tryz.isAgg0
  z0 := Tryz.sizeOf0
  v0 := Tryz.zeroValue0
  t2 := Tryz.underlying2
  a2 := Tryz.isAgg2
  z2 := Tryz.sizeOf2
  v2 := Tryz.zeroValue2
  t3 := Tryz.underlying3
  a3 := Tryz.isAgg3
  z3 := Tryz.sizeOf3
  v3 := Tryz.zeroValue3
  t4 := Tryz.underlying4
  a4 := Tryz.isAgg4
  z4 := Tryz.sizeOf4
  v4 := Tryz.zeroValue4
  t5 := Tryz.underlying5
  a5 := Tryz.isAgg5
  z5 := Tryz.sizeOf5
  v5 := Tryz.zeroValue5
  t9 := Tryz.underlying9
  a9 := Tryz.isAgg9
  z9 := Tryz.sizeOf9
  v9 := Tryz.zeroValue9
  t20 := Tryz.underlying20
  a20 := Tryz.isAgg20
  z20 := Tryz.sizeOf20
  v20 := Tryz.zeroValue20
  t21 := Tryz.underlying21
  a21 := Tryz.isAgg21
  z21 := Tryz.sizeOf21
  v21 := Tryz.zeroValue21
  t37 := Tryz.underlying43
  a37 := Tryz.isAgg43
  z37 := Tryz.sizeOf43
  v37 := Tryz.zeroValue43
  t46 := Tryz.underlying112
  a46 := Tryz.isAgg112
  z46 := Tryz.sizeOf112
  v46 := Tryz.zeroValue112
  t51 := Tryz.underlying135
  a51 := Tryz.isAgg135
  z51 := Tryz.sizeOf135
  v51 := Tryz.zeroValue135
  t53 := Tryz.underlying137
  a53 := Tryz.isAgg137
  z53 := Tryz.sizeOf137
  v53 := Tryz.zeroValue137
  t75 := Tryz.underlying84
  a75 := Tryz.isAgg84
  z75 := Tryz.sizeOf84
  v75 := Tryz.zeroValue84
  t76 := Tryz.underlying85
  a76 := Tryz.isAgg85
  z76 := Tryz.sizeOf85
  v76 := Tryz.zeroValue85
  t85 := Tryz.underlying114
  a85 := Tryz.isAgg114
  z85 := Tryz.sizeOf114
  v85 := Tryz.zeroValue114
  t127 := Tryz.underlying100
  a127 := Tryz.isAgg100
  z127 := Tryz.sizeOf100
  v127 := Tryz.zeroValue100
  t143 := Tryz.underlying157
  a143 := Tryz.isAgg157
  z143 := Tryz.sizeOf157
  v143 := Tryz.zeroValue157
  t145 := Tryz.underlying159
  a145 := Tryz.isAgg159
  z145 := Tryz.sizeOf159
  v145 := Tryz.zeroValue159
  t167 := Tryz.underlying113
  a167 := Tryz.isAgg113
  z167 := Tryz.sizeOf113
  v167 := Tryz.zeroValue113
  t168 := Tryz.underlying116
  a168 := Tryz.isAgg116
  z168 := Tryz.sizeOf116
  v168 := Tryz.zeroValue116
  t171 := Tryz.underlying144
  a171 := Tryz.isAgg144
  z171 := Tryz.sizeOf144
  v171 := Tryz.zeroValue144
  t173 := Tryz.underlying146
  a173 := Tryz.isAgg146
  z173 := Tryz.sizeOf146
  v173 := Tryz.zeroValue146
  t175 := Tryz.underlying138
  a175 := Tryz.isAgg138
  z175 := Tryz.sizeOf138
  v175 := Tryz.zeroValue138
  t210 := Tryz.underlying142
  a210 := Tryz.isAgg142
  z210 := Tryz.sizeOf142
  v210 := Tryz.zeroValue142
  t212 := Tryz.underlying165
  a212 := Tryz.isAgg165
  z212 := Tryz.sizeOf165
  v212 := Tryz.zeroValue165
  t213 := Tryz.underlying166
  a213 := Tryz.isAgg166
  z213 := Tryz.sizeOf166
  t232 := Tryz.underlying171
  a232 := Tryz.isAgg171
  z232 := Tryz.sizeOf171
  v232 := Tryz.zeroValue171
  t233 := Tryz.underlying172
  a233 := Tryz.isAgg172
  z233 := Tryz.sizeOf172
  v233 := Tryz.zeroValue172
  g15 := by kernel_rfl
  g16 := by kernel_rfl
  g17 := by kernel_rfl
  g18 := by kernel_rfl
  g19 := by kernel_rfl
  t80 := Tryz.underlying51
  a80 := Tryz.isAgg51
  z80 := Tryz.sizeOf51
  v80 := Tryz.zeroValue51
  i0 := by kernel_rfl
  i2 := by kernel_rfl
  i3 := by kernel_rfl
  i4 := by kernel_rfl
  i5 := by kernel_rfl
  i9 := by kernel_rfl
  i20 := by kernel_rfl
  i21 := by kernel_rfl
  i37 := by kernel_rfl
  i46 := by kernel_rfl
  i51 := by kernel_rfl
  i53 := by kernel_rfl
  i75 := by kernel_rfl
  i76 := by kernel_rfl
  i80 := by kernel_rfl
  i85 := by kernel_rfl
  i127 := by kernel_rfl
  i143 := by kernel_rfl
  i145 := by kernel_rfl
  i167 := by kernel_rfl
  i168 := by kernel_rfl
  i171 := by kernel_rfl
  i173 := by kernel_rfl
  i175 := by kernel_rfl
  i210 := by kernel_rfl
  i212 := by kernel_rfl
  i232 := by kernel_rfl
  i233 := by kernel_rfl
  m15 := by kernel_rfl
  m16 := by kernel_rfl
  m17 := by kernel_rfl
  m18 := by kernel_rfl
  m19 := by kernel_rfl
  c0 := by kernel_rfl
  c2 := by kernel_rfl
  c3 := by kernel_rfl
  c4 := by kernel_rfl
  c5 := by kernel_rfl
  c9 := by kernel_rfl
  c20 := by kernel_rfl
  c21 := by kernel_rfl
  c37 := by kernel_rfl
  c46 := by kernel_rfl
  c51 := by kernel_rfl
  c53 := by kernel_rfl
  c75 := by kernel_rfl
  c76 := by kernel_rfl
  c80 := by kernel_rfl
  c85 := by kernel_rfl
  c127 := by kernel_rfl
  c143 := by kernel_rfl
  c145 := by kernel_rfl
  c167 := by kernel_rfl
  c168 := by kernel_rfl
  c171 := by kernel_rfl
  c173 := by kernel_rfl
  c175 := by kernel_rfl
  c210 := by kernel_rfl
  c212 := by kernel_rfl
  c213 := by kernel_rfl
  c232 := by kernel_rfl
  c233 := by kernel_rfl }
def Tryz.laysGw17_ren : Go.Shelf.Ren := ⟨fun | 17 => 63 | 15 => 78 | 20 => 94 | n => n, fun | 9 => 9 | 23 => 97 | 4 => 4 | 3 => 3 | 0 => 0 | 21 => 21 | n => n, fun | n => n⟩
theorem Tryz.laysGw17 : Go.Proofs.LaysGw.n17 Tryz.prog Tryz.laysGw17_ren := {
  mixed := by kernel_rfl
  f15 := Tryz.func78.trans (congrArg some (by kernel_rfl))
  f17 := Tryz.func63.trans (congrArg some (by kernel_rfl))
  f20 := Tryz.func94.trans (congrArg some (by kernel_rfl))
  t0 := Tryz.underlying0
  a0 := Tryz.isAgg0
  z0 := Tryz.sizeOf0
  v0 := Tryz.zeroValue0
  i0 := by kernel_rfl
  t3 := Tryz.underlying3
  a3 := Tryz.isAgg3
  z3 := Tryz.sizeOf3
  v3 := Tryz.zeroValue3
  i3 := by kernel_rfl
  t4 := Tryz.underlying4
  a4 := Tryz.isAgg4
  z4 := Tryz.sizeOf4
  v4 := Tryz.zeroValue4
  i4 := by kernel_rfl
  t9 := Tryz.underlying9
  a9 := Tryz.isAgg9
  z9 := Tryz.sizeOf9
  v9 := Tryz.zeroValue9
  i9 := by kernel_rfl
  t21 := Tryz.underlying21
  a21 := Tryz.isAgg21
  z21 := Tryz.sizeOf21
  v21 := Tryz.zeroValue21
  i21 := by kernel_rfl
  t23 := Tryz.underlying97
  a23 := Tryz.isAgg97
  z23 := Tryz.sizeOf97
  v23 := Tryz.zeroValue97
  i23 := by kernel_rfl }
def Tryz.laysDel_ren : Go.Shelf.Ren := ⟨fun | 10 => 48 | 6 => 62 | n => n, fun | 22 => 28 | 23 => 9 | 25 => 26 | 3 => 3 | 4 => 4 | 0 => 0 | n => n, fun | n => n⟩
theorem Tryz.laysDel : Go.Proofs.SlLaysH.n10 Tryz.prog Tryz.laysDel_ren := {
  mixed := by kernel_rfl
  f6 := ⟨Tryz.f62.name, by decide, Tryz.func62.trans (congrArg some (by kernel_rfl))⟩
  f10 := ⟨Tryz.f48.name, by decide, Tryz.func48.trans (congrArg some (by kernel_rfl))⟩
  t0 := Tryz.underlying0
  a0 := Tryz.isAgg0
  z0 := Tryz.sizeOf0
  v0 := Tryz.zeroValue0
  t3 := Tryz.underlying3
  a3 := Tryz.isAgg3
  z3 := Tryz.sizeOf3
  v3 := Tryz.zeroValue3
  t4 := Tryz.underlying4
  a4 := Tryz.isAgg4
  z4 := Tryz.sizeOf4
  v4 := Tryz.zeroValue4
  t22 := Tryz.underlying28
  a22 := Tryz.isAgg28
  z22 := Tryz.sizeOf28
  v22 := Tryz.zeroValue28
  a23 := Tryz.isAgg9
  z23 := Tryz.sizeOf9
  t25 := Tryz.underlying26
  a25 := Tryz.isAgg26
  z25 := Tryz.sizeOf26
  v25 := Tryz.zeroValue26 }
def Tryz.laysClone_ren : Go.Shelf.Ren := ⟨fun | 16 => 49 | n => n, fun | 24 => 28 | 9 => 9 | 4 => 4 | n => n, fun | n => n⟩
theorem Tryz.laysClone : Go.Proofs.Lays2.n16 Tryz.prog Tryz.laysClone_ren := {
  mixed := by kernel_rfl
  f16 := Tryz.func49.trans (congrArg some (by kernel_rfl))
  t4 := Tryz.underlying4
  a4 := Tryz.isAgg4
  z4 := Tryz.sizeOf4
  v4 := Tryz.zeroValue4
  t9 := Tryz.underlying9
  a9 := Tryz.isAgg9
  z9 := Tryz.sizeOf9
  v9 := Tryz.zeroValue9
  t24 := Tryz.underlying28
  a24 := Tryz.isAgg28
  z24 := Tryz.sizeOf28
  v24 := Tryz.zeroValue28
  i9 := by kernel_rfl }
def Tryz.laysKeys_ren : Go.Shelf.Ren := ⟨fun | 7 => 60 | 10 => 75 | n => n, fun | 23 => 77 | 26 => 9 | 3 => 9 | 28 => 93 | 0 => 0 | 27 => 92 | 33 => 26 | 4 => 4 | n => n, fun | n => n⟩
theorem Tryz.laysKeys : Go.Proofs.SlLaysZ.n7 Tryz.prog Tryz.laysKeys_ren := {
  mixed := by kernel_rfl
  f7 := ⟨Tryz.f60.name, by decide, Tryz.func60.trans (congrArg some (by kernel_rfl))⟩
  f10 := ⟨Tryz.f75.name, by decide, Tryz.func75.trans (congrArg some (by kernel_rfl))⟩
  t0 := Tryz.underlying0
  a0 := Tryz.isAgg0
  z0 := Tryz.sizeOf0
  v0 := Tryz.zeroValue0
  t4 := Tryz.underlying4
  a4 := Tryz.isAgg4
  z4 := Tryz.sizeOf4
  v4 := Tryz.zeroValue4
  t23 := Tryz.underlying77
  a23 := Tryz.isAgg77
  z23 := Tryz.sizeOf77
  v23 := Tryz.zeroValue77
  t26 := Tryz.underlying9
  a26 := Tryz.isAgg9
  z26 := Tryz.sizeOf9
  v26 := Tryz.zeroValue9
  t27 := Tryz.underlying92
  a27 := Tryz.isAgg92
  z27 := Tryz.sizeOf92
  v27 := Tryz.zeroValue92
  t28 := Tryz.underlying93
  a28 := Tryz.isAgg93
  z28 := Tryz.sizeOf93
  v28 := Tryz.zeroValue93
  t33 := Tryz.underlying26
  a33 := Tryz.isAgg26
  z33 := Tryz.sizeOf26
  v33 := Tryz.zeroValue26 }
def Tryz.laysSorted_ren : Go.Shelf.Ren := ⟨fun | 6 => 59 | 8 => 73 | 9 => 74 | 11 => 86 | 13 => 88 | 12 => 87 | 23 => 113 | 24 => 114 | 14 => 104 | 15 => 105 | 16 => 106 | 17 => 107 | 18 => 108 | 19 => 109 | 20 => 110 | 21 => 111 | 22 => 112 | 25 => 125 | 26 => 126 | 27 => 127 | 28 => 128 | 29 => 129 | 30 => 130 | 31 => 137 | n => n, fun | 26 => 9 | 28 => 93 | 24 => 28 | 0 => 0 | 3 => 3 | 37 => 112 | 48 => 135 | 50 => 137 | 4 => 4 | 40 => 129 | 39 => 128 | 45 => 69 | 5 => 5 | 9 => 9 | 51 => 150 | 55 => 154 | 57 => 168 | 58 => 169 | 33 => 26 | n => n, fun | n => n⟩
theorem Tryz.laysSorted : Go.Proofs.SlLaysZ.n6 Tryz.prog Tryz.laysSorted_ren := {
  mixed := by kernel_rfl
  f6 := ⟨Tryz.f59.name, by decide, Tryz.func59.trans (congrArg some (by kernel_rfl))⟩
  f8 := ⟨Tryz.f73.name, by decide, Tryz.func73.trans (congrArg some (by kernel_rfl))⟩
  f11 := ⟨Tryz.f86.name, by decide, Tryz.func86.trans (congrArg some (by kernel_rfl))⟩
  t0 := Tryz.underlying0
  a0 := Tryz.isAgg0
  z0 := Tryz.sizeOf0
  v0 := Tryz.zeroValue0
  t24 := Tryz.underlying28
  a24 := Tryz.isAgg28
  z24 := Tryz.sizeOf28
  v24 := Tryz.zeroValue28
  t26 := Tryz.underlying9
  a26 := Tryz.isAgg9
  z26 := Tryz.sizeOf9
  v26 := Tryz.zeroValue9
  t28 := Tryz.underlying93
  a28 := Tryz.isAgg93
  z28 := Tryz.sizeOf93
  v28 := Tryz.zeroValue93
  i26 := by kernel_rfl }
def Tryz.laysSort_ren : Go.Shelf.Ren := ⟨fun | 6 => 74 | 8 => 88 | 9 => 87 | 19 => 113 | 20 => 114 | 21 => 104 | 22 => 105 | 23 => 106 | 24 => 107 | 25 => 108 | 26 => 109 | 27 => 110 | 28 => 111 | 29 => 112 | 36 => 125 | 31 => 126 | 32 => 127 | 37 => 128 | 38 => 129 | 39 => 130 | 41 => 137 | n => n, fun | 27 => 28 | 29 => 9 | 3 => 3 | 32 => 112 | 26 => 28 | 0 => 0 | 44 => 135 | 46 => 137 | 4 => 4 | 36 => 129 | 35 => 128 | 41 => 69 | 5 => 5 | 9 => 9 | 53 => 150 | 57 => 154 | 63 => 168 | 64 => 169 | n => n, fun | n => n⟩
theorem Tryz.laysSort : Go.Proofs.SlLaysM.n6 Tryz.prog Tryz.laysSort_ren := {
  mixed := by kernel_rfl
  f6 := ⟨Tryz.f74.name, by decide, Tryz.func74.trans (congrArg some (by kernel_rfl))⟩
  f8 := Tryz.func88.trans (congrArg some (by kernel_rfl))
  f9 := ⟨Tryz.f87.name, by decide, Tryz.func87.trans (congrArg some (by kernel_rfl))⟩
  f19 := Tryz.func113.trans (congrArg some (by kernel_rfl))
  f20 := Tryz.func114.trans (congrArg some (by kernel_rfl))
  f21 := ⟨Tryz.f104.name, by decide, Tryz.func104.trans (congrArg some (by kernel_rfl))⟩
  f22 := ⟨Tryz.f105.name, by decide, Tryz.func105.trans (congrArg some (by kernel_rfl))⟩
  f23 := ⟨Tryz.f106.name, by decide, Tryz.func106.trans (congrArg some (by kernel_rfl))⟩
  f24 := ⟨Tryz.f107.name, by decide, Tryz.func107.trans (congrArg some (by kernel_rfl))⟩
  f25 := ⟨Tryz.f108.name, by decide, Tryz.func108.trans (congrArg some (by kernel_rfl))⟩
  f26 := ⟨Tryz.f109.name, by decide, Tryz.func109.trans (congrArg some (by kernel_rfl))⟩
  f27 := ⟨Tryz.f110.name, by decide, Tryz.func110.trans (congrArg some (by kernel_rfl))⟩
  f28 := ⟨Tryz.f111.name, by decide, Tryz.func111.trans (congrArg some (by kernel_rfl))⟩
  f29 := ⟨Tryz.f112.name, by decide, Tryz.func112.trans (congrArg some (by kernel_rfl))⟩
  f31 := Tryz.func126.trans (congrArg some (by kernel_rfl))
  f32 := Tryz.func127.trans (congrArg some (by kernel_rfl))
  f36 := ⟨Tryz.f125.name, by decide, Tryz.func125.trans (congrArg some (by kernel_rfl))⟩
  f37 := ⟨Tryz.f128.name, by decide, Tryz.func128.trans (congrArg some (by kernel_rfl))⟩
  f38 := ⟨Tryz.f129.name, by decide, Tryz.func129.trans (congrArg some (by kernel_rfl))⟩
  f39 := ⟨Tryz.f130.name, by decide, Tryz.func130.trans (congrArg some (by kernel_rfl))⟩
  f41 := ⟨Tryz.f137.name, by decide, Tryz.func137.trans (congrArg some (by kernel_rfl))⟩
  t0 := Tryz.underlying0
  a0 := Tryz.isAgg0
  z0 := Tryz.sizeOf0
  v0 := Tryz.zeroValue0
  t3 := Tryz.underlying3
  a3 := Tryz.isAgg3
  z3 := Tryz.sizeOf3
  v3 := Tryz.zeroValue3
  t4 := Tryz.underlying4
  a4 := Tryz.isAgg4
  z4 := Tryz.sizeOf4
  v4 := Tryz.zeroValue4
  t5 := Tryz.underlying5
  a5 := Tryz.isAgg5
  z5 := Tryz.sizeOf5
  v5 := Tryz.zeroValue5
  t9 := Tryz.underlying9
  a9 := Tryz.isAgg9
  z9 := Tryz.sizeOf9
  v9 := Tryz.zeroValue9
  t26 := Tryz.underlying28
  a26 := Tryz.isAgg28
  z26 := Tryz.sizeOf28
  v26 := Tryz.zeroValue28
  t27 := Tryz.underlying28
  a27 := Tryz.isAgg28
  z27 := Tryz.sizeOf28
  v27 := Tryz.zeroValue28
  t29 := Tryz.underlying9
  a29 := Tryz.isAgg9
  z29 := Tryz.sizeOf9
  v29 := Tryz.zeroValue9
  t32 := Tryz.underlying112
  a32 := Tryz.isAgg112
  z32 := Tryz.sizeOf112
  v32 := Tryz.zeroValue112
  t35 := Tryz.underlying128
  a35 := Tryz.isAgg128
  z35 := Tryz.sizeOf128
  v35 := Tryz.zeroValue128
  t36 := Tryz.underlying129
  a36 := Tryz.isAgg129
  z36 := Tryz.sizeOf129
  v36 := Tryz.zeroValue129
  t41 := Tryz.underlying69
  a41 := Tryz.isAgg69
  z41 := Tryz.sizeOf69
  v41 := Tryz.zeroValue69
  t44 := Tryz.underlying135
  a44 := Tryz.isAgg135
  z44 := Tryz.sizeOf135
  v44 := Tryz.zeroValue135
  t46 := Tryz.underlying137
  a46 := Tryz.isAgg137
  z46 := Tryz.sizeOf137
  v46 := Tryz.zeroValue137
  t53 := Tryz.underlying150
  a53 := Tryz.isAgg150
  z53 := Tryz.sizeOf150
  v53 := Tryz.zeroValue150
  t57 := Tryz.underlying154
  a57 := Tryz.isAgg154
  z57 := Tryz.sizeOf154
  v57 := Tryz.zeroValue154
  t63 := Tryz.underlying168
  a63 := Tryz.isAgg168
  z63 := Tryz.sizeOf168
  v63 := Tryz.zeroValue168
  t64 := Tryz.underlying169
  a64 := Tryz.isAgg169
  z64 := Tryz.sizeOf169
  v64 := Tryz.zeroValue169 }
end Go.Proofs

namespace Go.Proofs.YtobbliglnjgbaaaGreatDoor.X
open Go.RowKit Go.Proofs.YtobbliglnjgbaaaGreatDoorW.PrintWords

def signN (n : Nat) : Bool := decide (97 ≤ n ∧ n ≤ 122 ∨ 65 ≤ n ∧ n ≤ 90 ∨ 48 ≤ n ∧ n ≤ 57 ∨ n = 46 ∨ n = 95 ∨ n = 45)
theorem signN_byte (c : UInt8) : signN c.toNat = sign c := by
  unfold signN sign
  rw [Bool.eq_iff_iff]
  simp only [decide_eq_true_eq, Bool.or_eq_true, Bool.and_eq_true, beq_iff_eq, UInt8.le_iff_toNat_le, ← UInt8.toNat_inj]
  simp
  omega
theorem signN_high (n : Nat) (h : 128 ≤ n) : signN n = false := by
  unfold signN
  simp
  omega
theorem path_sign_is (n : Nat) : Pa.path_sign.f (n : Int) = some (signN n) := by
  unfold Pa.path_sign.f signN
  repeat' split
  all_goals (simp only [Option.some.injEq]; rw [Bool.eq_iff_iff]; simp only [decide_eq_true_eq, beq_iff_eq, true_iff]; omega)
theorem idxFuncFrom_any (p : Nat → Bool) (hp : ∀ x, 128 ≤ x → p x = true) (s : ByteArray) : ∀ (f pos : Nat), s.size ≤ pos + f →
    decide (0 ≤ Lib.idxFuncFrom p true s f pos) = (s.data.toList.drop pos).any (fun c => p c.toNat)
  | 0, pos, h => by
    have : s.data.toList.drop pos = [] := List.drop_eq_nil_of_le (by rw [← Lib.size_eq]; omega)
    rw [this]
    rfl
  | f + 1, pos, h => by
    unfold Lib.idxFuncFrom
    by_cases hps : pos < s.size
    · rw [if_pos hps]
      have hl : pos < s.data.toList.length := by rw [← Lib.size_eq]; exact hps
      have hd : s.data.toList.drop pos = s.data.toList[pos] :: s.data.toList.drop (pos + 1) := (List.drop_eq_getElem_cons hl)
      have hb : s.data.toList[pos] = s[pos]'hps := rfl
      rw [hd, hb, List.any_cons]
      by_cases ha : (s[pos]'hps).toNat < 128
      · rw [decode_ascii s pos hps ha]
        by_cases hq : p (s[pos]'hps).toNat = true
        · rw [if_pos hq, hq]
          simp
        · rw [if_neg hq, idxFuncFrom_any p hp s f (pos + 1) (by omega)]
          simp only [Bool.not_eq_true] at hq
          rw [hq]
          simp
      · obtain ⟨h1, _⟩ := decode_high s pos hps (by omega)
        rw [if_pos (hp _ h1), hp _ (by omega)]
        simp
    · rw [if_neg hps]
      have : s.data.toList.drop pos = [] := List.drop_eq_nil_of_le (by rw [← Lib.size_eq]; omega)
      rw [this]
      rfl
theorem idxFunc_any (p : Nat → Bool) (hp : ∀ x, 128 ≤ x → p x = true) (s : ByteArray) : decide (0 ≤ Lib.idxFunc p true s) = s.data.toList.any (fun c => p c.toNat) := by
  unfold Lib.idxFunc
  rw [idxFuncFrom_any p hp s s.size 0 (by omega)]
  rfl

theorem eg64 : ∀ args w, (callFunc 64 args).run Tryz.prog w = .ok (.enter 64 args) w := Go.Proofs.enters_of Tryz.func64 (by kernel_rfl) rfl
theorem contains_bad (s : ByteArray) (w : World) (hG : GOK w) :
    Calls Tryz.prog 63 #[.string s, .func (.func 64) #[] #[]] w fun e w' => e = .returned (.bool (s.data.toList.any (fun c => !sign c))) ∧ Below w.heap.size w w' := by
  have hp : Go.Proofs.PredAtRunes Tryz.prog 64 #[] (fun n => !signN n) w := by
    intro W x _ hb
    refine (Pa.path_bad_1.calls (x : Int) (!signN x) W (hG.below hb) ?_).mono fun e w' ⟨he, hd⟩ => ⟨he, hd.out⟩
    unfold Pa.path_bad_1.f
    rw [path_sign_is]
    rfl
  have h := Go.Proofs.Any.strings_ContainsFunc_runes Go.Proofs.Tryz.laysGw17 64 #[] eg64 (fun n => !signN n) s w hp
  refine h.mono fun e w' ⟨he, hb⟩ => ⟨?_, hb⟩
  rw [he, idxFunc_any _ (fun x hx => by rw [signN_high x hx]; rfl)]
  simp only [signN_byte]

def path_bad.f (a0 : ByteArray) : Option Bool := some (bad a0.data.toList)
set_option maxHeartbeats 1000000 in
theorem path_bad.calls (a0 : ByteArray) (r : Bool) (w : World) (hG : GOK w) (h : path_bad.f a0 = some r) :
    Calls Tryz.prog 44 #[.string a0] w fun e w' => e = .returned (.bool r) ∧ Below w.heap.size w w' := by
  unfold path_bad.f bad at h
  have hc := contains_bad a0 w hG
  generalize (a0.data.toList.any fun c => !sign c) = q at hc h
  rw [← toList_eq] at h
  by_cases h1 : a0.toList = []
  · have e1 : (a0.toList == []) = true := by simp [h1]
    have hr : r = true := by rw [h1] at h; simpa using h.symm
    subst hr
    clear h hc h1
    go_enter Tryz.func44, Tryz.ntmps44
    go_wp2
    go_ret
    exact ⟨rfl, Below.refl _ _⟩
  · have e1 : (a0.toList == []) = false := by simp [h1]
    by_cases h2 : a0.toList = [46]
    · have e2 : (a0.toList == [46]) = true := by simp [h2]
      have hr : r = true := by rw [h2] at h; simpa using h.symm
      subst hr
      clear h hc h1 h2
      go_enter Tryz.func44, Tryz.ntmps44
      go_wp2
      go_ret
      exact ⟨rfl, Below.refl _ _⟩
    · have e2 : (a0.toList == [46]) = false := by simp [h2]
      by_cases h3 : a0.toList = [46, 46]
      · have e3 : (a0.toList == [46, 46]) = true := by simp [h3]
        have hr : r = true := by rw [h3] at h; simpa using h.symm
        subst hr
        clear h hc h1 h2 h3
        go_enter Tryz.func44, Tryz.ntmps44
        go_wp2
        go_ret
        exact ⟨rfl, Below.refl _ _⟩
      · have e3 : (a0.toList == [46, 46]) = false := by simp [h3]
        have hr : r = q := by rw [e1, e2, e3] at h; simpa using h.symm
        subst hr
        clear h h1 h2 h3
        go_enter Tryz.func44, Tryz.ntmps44
        go_wp2_with (go_at_call 63; refine hc.mono ?_; rintro e w2 ⟨rfl, hb2⟩)
        go_ret
        exact ⟨rfl, hb2⟩

end Go.Proofs.YtobbliglnjgbaaaGreatDoor.X

namespace Go.Proofs.YtobbliglnjgbaaaGreatDoor.X
open Go.RowKit Go.Proofs.YtobbliglnjgbaaaGreatDoorW.PrintWords

def strings_Split.f (a0 a1 : ByteArray) : Option (List ByteArray) :=
  match a1.data.toList with
  | [c] => if a0.size < 4294967281 then some ((cutAt c a0.data.toList).map mk) else none
  | _ => none
theorem strings_Split.one (s : ByteArray) (c : UInt8) (hs : s.size < 4294967281) : strings_Split.f s (⟨#[c]⟩ : ByteArray) = some ((cutAt c s.data.toList).map mk) := by
  unfold strings_Split.f
  show (if s.size < 4294967281 then some _ else none) = _
  rw [if_pos hs]
theorem cutAt_length_le (c : UInt8) : ∀ l, (cutAt c l).length ≤ l.length + 1
  | [] => by simp [cutAt]
  | x :: r => by
    have := cutAt_length_le c r
    unfold cutAt
    split
    · simp; omega
    · split
      · simp
      · rename_i h; rw [h] at this; simp at this ⊢; omega
set_option maxHeartbeats 1000000 in
theorem strings_Split.calls (a0 a1 : ByteArray) (r : List ByteArray) (w : World) (hG : GOK w) (h : strings_Split.f a0 a1 = some r) :
    Calls Tryz.prog 45 #[.string a0, .string a1] w fun e w' => ∃ v0_ : Value, e = .returned v0_ ∧ Kd.R Kd.string 9 w' w.heap.size (fun _ => True) v0_ r ∧ Below w.heap.size w w' := by
  unfold strings_Split.f at h
  split at h
  · rename_i c hc
    have hs : a0.size < 4294967281 := by
      by_cases hs : a0.size < 4294967281
      · exact hs
      · rw [if_neg hs] at h; cases h
    rw [if_pos hs] at h
    have hr := Option.some.inj h
    have ha1 : a1 = mk [c] := by rw [← data_mk a1, hc]
    subst ha1
    obtain ⟨m, hm⟩ := hG.maxLen
    have L := Go.Proofs.Tryz.laysM146
    have hcall := Go.Proofs.Any.strings_Split { L with } L.i9 a0 (mk [c]) m w hs hm (by rw [mk_size]; simp)
    change Calls Tryz.prog 45 _ _ _ at hcall
    refine hcall.mono fun e w' ⟨he, hw⟩ => ?_
    rw [split_one] at hw
    have hlen : Lib.countB a0 (mk [c]) + 1 = r.length := by
      rw [← hr, List.length_map, ← Lib.splitB_all (mk [c]) (by rw [mk_size]; simp) 0 _ a0 rfl, split_one, List.length_map]
    have hle : r.length ≤ a0.size + 1 := by rw [← hr, List.length_map, Lib.size_eq]; exact cutAt_length_le c _
    rw [hr] at hw
    subst hw
    refine ⟨_, he, ?_, (Below.refl _ _).alloc (Nat.le_refl _) _⟩
    rw [hlen]
    exact Kd.R_of_own (own_lit_of (enc := Value.string) w w.heap.size 9 r (Nat.le_refl _) (by omega)) (fun _ _ => trivial)
  · cases h

def strings_Cut.f (a0 a1 : ByteArray) : Option (ByteArray × ByteArray × Bool) :=
  if a0.size < 4294967281 then some (mk (Lib.cut a0.data.toList a1.data.toList).1, mk (Lib.cut a0.data.toList a1.data.toList).2.1, (Lib.cut a0.data.toList a1.data.toList).2.2) else none
theorem strings_Cut.calls (a0 a1 r1 r2 : ByteArray) (r3 : Bool) (w : World) (hG : GOK w) (h : strings_Cut.f a0 a1 = some (r1, r2, r3)) :
    Calls Tryz.prog 54 #[.string a0, .string a1] w fun e w' => e = .returned (.tuple #[.string r1, .string r2, .bool r3]) ∧ Below w.heap.size w w' := by
  unfold strings_Cut.f at h
  split at h
  · rename_i hs
    have h' := Option.some.inj h
    simp only [Prod.mk.injEq] at h'
    obtain ⟨rfl, rfl, rfl⟩ := h'
    obtain ⟨m, hm⟩ := hG.maxLen
    have hcall := Go.Proofs.Any.strings_Cut Go.Proofs.Tryz.lays145 a0 a1 m w hs hm
    change Calls Tryz.prog 54 _ _ _ at hcall
    refine hcall.mono fun e w' ⟨he, n, hw⟩ => ⟨he, ?_⟩
    subst hw
    exact pw_below_drewN (Below.refl _ _) n
  · cases h

theorem builderExtra : Go.Proofs.Builder.Extra Tryz.prog Go.Proofs.Tryz.lays156_ren := {
  sizeBuilder := by kernel_rfl
  liesBuilder := by kernel_rfl
  t5 := Tryz.underlying5
  a5 := Tryz.isAgg5
  z5 := Tryz.sizeOf5
  v5 := Tryz.zeroValue5
  infoByte := by kernel_rfl
  cellsByte := by kernel_rfl
  sizeByte := by kernel_rfl
  neB5 := by decide }
def strings_Join.f (l0 : List ByteArray) (a1 : ByteArray) : Option ByteArray :=
  if l0.length ≤ 140737488355328 ∧ (Lib.join (l0.map (·.data.toList)) a1.data.toList).length ≤ 140737488355328 then some (mk (Lib.join (l0.map (·.data.toList)) a1.data.toList)) else none
theorem strings_Join.calls (A0 : Option Addr) (c0 : Nat) (l0 : List ByteArray) (a1 : ByteArray) (r : ByteArray) (w : World) (_hG : GOK w) (hr0 : Kd.C Kd.string w A0 l0.length l0) (hc0 : l0.length ≤ c0) (h : strings_Join.f l0 a1 = some r) :
    Calls Tryz.prog 47 #[.slice A0 l0.length c0, .string a1] w fun e w' => e = .returned (.string r) ∧ Below w.heap.size w w' := by
  unfold strings_Join.f at h
  split at h
  · rename_i hs
    have hr := Option.some.inj h
    rcases row_open hr0 with rfl | ⟨b, o, rfl, hb, hcell⟩
    · have hcall := Go.Proofs.Any.strings_Join_none Go.Proofs.Tryz.lays156 builderExtra A0 c0 a1 w
      change Calls Tryz.prog 47 _ _ _ at hcall
      refine hcall.mono fun e w' ⟨he, hw⟩ => ?_
      subst hw
      refine ⟨?_, Below.refl _ _⟩
      rw [he, ← hr]
      rfl
    · have hcall := Go.Proofs.Any.strings_Join Go.Proofs.Tryz.lays156 builderExtra b o c0 l0 a1 w (fun j x hx => by
        obtain ⟨hj, he⟩ := List.getElem?_eq_some_iff.1 hx
        have := hcell j hj
        rwa [show l0.getD j ByteArray.empty = x by simp [List.getD_eq_getElem?_getD, hx]] at this) hb hs.1 hc0 hs.2
      change Calls Tryz.prog 47 _ _ _ at hcall
      refine hcall.mono fun e w' ⟨he, hw⟩ => ⟨?_, hw⟩
      rw [he, ← hr]
      rfl
  · cases h

def strconv_Itoa.f (a0 : Int) : Option ByteArray := if -9223372036854775808 ≤ a0 ∧ a0 ≤ 9223372036854775807 then some (mk (Lib.itoa a0)) else none
theorem strconv_Itoa.calls (a0 : Int) (r : ByteArray) (w : World) (hG : GOK w) (h : strconv_Itoa.f a0 = some r) :
    Calls Tryz.prog 69 #[.int .i64 a0] w fun e w' => e = .returned (.string r) ∧ Below w.heap.size w w' := by
  unfold strconv_Itoa.f at h
  split at h
  · rename_i hs
    have hr := Option.some.inj h
    have hcall := Go.Proofs.Any.strconv_Itoa Go.Proofs.Tryz.laysM171 a0 hs.1 hs.2 w hG.pow10
    change Calls Tryz.prog 69 _ _ _ at hcall
    refine hcall.mono fun e w' ⟨he, k, os, hw⟩ => ⟨?_, ?_⟩
    · rw [he, ← hr]; rfl
    · subst hw
      exact Go.Proofs.below_grown w k os
  · cases h

end Go.Proofs.YtobbliglnjgbaaaGreatDoor.X

namespace Go.Proofs.YtobbliglnjgbaaaGreatDoor.X
open Go.RowKit Go.Sort Go.Proofs.YtobbliglnjgbaaaGreatDoorW.PrintWords

theorem heap_put {w : World} {g n : Nat} {os : Array Obj} {cur : Array Value} {e : TypeId} {fr : Nat × Nat} (d : Array ByteArray) (hb : w.heap[g]? = some (.cells cur e fr)) :
    (grow (putRow Value.string (Sort.ahead w n) g 0 d) os).heap[g]? = some (.cells (putCells Value.string 0 d cur) e fr) := by
  have hg : g < w.heap.size := (Array.getElem?_eq_some_iff.1 hb).1
  rw [heap_grow_old _ _ (by simpa using hg)]
  simp [putRow, mapBlock, Sort.ahead, Array.getElem?_modify, hb, onCells]
theorem grownBy_put {w : World} {g n : Nat} {os : Array Obj} (d : Array ByteArray) : w.grownBy (grow (putRow Value.string (Sort.ahead w n) g 0 d) os) (some g) := by
  refine ⟨rfl, rfl, rfl, by simp, fun k hk hne => ?_⟩
  rw [heap_grow_old _ _ (by simpa using hk)]
  have : g ≠ k := fun e => hne (by rw [e])
  simp [putRow, mapBlock, Sort.ahead, Array.getElem?_modify, this]
theorem take_put (cur : Array Value) (ts rest : List ByteArray) (h : ts.length + rest.length ≤ cur.size) : (putCells Value.string 0 (ts ++ rest).toArray cur).toList.take ts.length = ts.map Value.string := by
  apply List.ext_getElem?
  intro j
  by_cases hj : j < ts.length
  · rw [List.getElem?_take_of_lt hj, Array.getElem?_toList]
    simp [putCells, hj, show j < cur.size by omega, show j < ts.length + rest.length by omega, List.getElem_append_left]
  · rw [List.getElem?_take_eq_none (by omega), List.getElem?_eq_none (by simp; omega)]
theorem below_of_grown {B : Nat} {w w1 : World} {g : Nat} (hg : w.grownBy w1 (some g)) (hB : B ≤ w.heap.size) (hBg : B ≤ g) : Below B w w1 := (Below.refl B w).grown hg hB (fun k hk => by cases hk; exact hBg)
theorem holds_of_row {w : World} {g : Nat} {cur : Array Value} {e : TypeId} {ss : List ByteArray} (hb : w.heap[g]? = some (.cells cur e (0, 0))) (ht : cur.toList.take ss.length = ss.map Value.string) : Holds Value.string w g 0 ss.toArray := by
  intro j hj
  have hj' : j < ss.length := by simpa using hj
  refine ⟨?_, by simp [World.frozen?, hb]⟩
  have h1 : (cur.toList.take ss.length)[j]? = (ss.map Value.string)[j]? := by rw [ht]
  rw [List.getElem?_take_of_lt hj'] at h1
  simp only [World.cell?, hb, Nat.zero_add]
  simp only [Option.isSome_none, Bool.false_eq_true, if_false]
  rw [← Array.getElem?_toList, h1]
  simp [hj']

set_option maxHeartbeats 1000000 in
theorem deleteFunc_own (B base g : Nat) (lb : Array Value) (eg : ∀ args w, (callFunc g args).run Tryz.prog w = .ok (.enter g args) w) (p : ByteArray → Bool) (v : Value) (l : List ByteArray) (w : World)
    (hown : w.ownsRow base 9 1 v l.length (encs Value.string l)) (hB : B ≤ base) (hBw : B ≤ w.heap.size) (hp : ∀ (W : World) (x : ByteArray), Below B w W → Go.Proofs.FnGives Tryz.prog g lb #[.string x] (.bool (p x)) W) :
    Calls Tryz.prog 48 #[v, .func (.func g) #[] lb] w fun e w' => ∃ v', e = .returned v' ∧ w'.ownsRow base 9 1 v' (l.filter fun x => !p x).length (encs Value.string (l.filter fun x => !p x)) ∧ v'.ownBlock = v.ownBlock ∧ w.grownBy w' v.ownBlock := by
  have hlen : l.length ≤ 9223372036854775807 := by
    rcases hown.2 with ⟨_, h0⟩ | ⟨_, cap, cur, _, _, _, h1, h2, _⟩
    · omega
    · simp only [maxLen] at h2; omega
  rcases hown.2 with ⟨rfl, h0⟩ | ⟨gb, cap, cur, rfl, hbase, hb, h1, h2, h3, h4⟩
  · obtain rfl : l = [] := List.eq_nil_of_length_eq_zero h0
    have hI := indexFunc_calls g lb eg p none 0 [] w ⟨rfl, by simp, fun h => absurd h (by simp)⟩ (fun W x hb => (hp W x (hb.mono hBw)).mono fun e w' ⟨he, q, hw⟩ => ⟨he, by subst hw; exact pw_below_drewN (Below.refl _ _) q⟩)
    clear hp hown h0
    go_enter Tryz.func48, Tryz.ntmps48
    go_wp2_with fail
    refine hI.mono ?_
    rintro e w2 ⟨i, rfl, hq, hi, hb2⟩
    have hi' : i = -1 := by
      rcases hi with hi | hi
      · exact hi
      · simp [hi] at hq
    subst hi'
    clear hq hi hI
    go_wp2
    go_ret
    exact ⟨.slice none 0 0, rfl, own_nil _ _ _ _, rfl, grown_of_below hb2 _⟩
  · have hH : Holds Value.string w gb 0 l.toArray := holds_of_row hb (by simpa [encs] using h4)
    have hcall := Go.Proofs.AnyE.slices_DeleteFunc Go.Proofs.Tryz.laysDel Value.string (fun _ => rfl) p g lb eg ByteArray.empty Tryz.zeroValue9 gb 0 cap l.toArray w
      (fun W x hb => hp W x (hb.mono hBw))
      (fun n os dk x _ => hp _ x (below_of_grown (grownBy_put dk) hBw (by omega))) hH (by simpa using hlen) (by simpa using h1)
    change Calls Tryz.prog 48 _ _ _ at hcall
    refine hcall.mono fun e w' ⟨he, q, hw⟩ => ?_
    have hf : (l.filter fun x => !p x).length ≤ l.length := List.length_filter_le _ _
    have hg0 : w' = grow (putRow Value.string (Sort.ahead w q) gb 0 ((l.filter fun x => !p x) ++ List.replicate (l.length - (l.filter fun x => !p x).length) ByteArray.empty).toArray) #[] := by rw [hw]; simp
    refine ⟨_, he, ?_, rfl, ?_⟩
    · refine ⟨by simp [encs], .inr ⟨gb, cap, _, rfl, hbase, by rw [hg0]; exact heap_put _ hb, by simpa using Nat.le_trans hf h1, h2, by simp [putCells, h3], ?_⟩⟩
      simp only [Nat.mul_one]
      exact take_put cur _ _ (by rw [List.length_replicate]; omega)
    · rw [hg0]; exact grownBy_put _

end Go.Proofs.YtobbliglnjgbaaaGreatDoor.X

namespace Go.Proofs.YtobbliglnjgbaaaGreatDoor.Pb
open Go.Proofs.YtobbliglnjgbaaaGreatDoor.X
open Go.RowKit Go.Proofs.YtobbliglnjgbaaaGreatDoorW.PrintWords Go.Proofs.YtobbliglnjgbaaaGreatDoorW.PrintLast Go.Proofs.YtobbliglnjgbaaaGreatDoorW.PrintMore
attribute [local go_sem] max2_int min2_int max_two min_two max_three min_three max_four min_four   -- for this text's walks alone
set_option linter.unusedVariables false
set_option linter.unusedSimpArgs false



def errW : Option Int → Value
  | none => .nilIface
  | some c => .iface 0 (.int .i64 c)
theorem errW_none : errW none = .nilIface := rfl
theorem errW_some (c : Int) : errW (some c) = .iface 0 (.int .i64 c) := rfl

-- the values' own types

end Go.Proofs.YtobbliglnjgbaaaGreatDoor.Pb
namespace Go.Proofs.YtobbliglnjgbaaaGreatDoor.Pb
open Go.Proofs.YtobbliglnjgbaaaGreatDoor.X
open Go.RowKit Go.Proofs.YtobbliglnjgbaaaGreatDoorW.PrintWords Go.Proofs.YtobbliglnjgbaaaGreatDoorW.PrintLast Go.Proofs.YtobbliglnjgbaaaGreatDoorW.PrintMore
attribute [local go_sem] max2_int min2_int max_two min_two max_three min_three max_four min_four   -- for this text's walks alone
set_option linter.unusedVariables false
set_option linter.unusedSimpArgs false

-- EXT: function 45 (strings_Split)

def path_Parts.f (a0 : ByteArray) : Option (List ByteArray) := (strings_Split.f a0 (⟨#[47]⟩ : ByteArray)).bind fun t101 => (some t101)
set_option maxHeartbeats 8000000 in
set_option maxRecDepth 100000 in
theorem path_Parts.calls (a0 : ByteArray) (r : List ByteArray) (w : World) (hG : GOK w) (h : path_Parts.f a0 = some r) :
    Calls Tryz.prog 20 #[.string a0] w fun e w' => ∃ v0_ : Value, e = .returned (v0_) ∧ Kd.R Kd.string 9 w' w.heap.size (fun _ => True) v0_ r ∧ Below w.heap.size w w' := by
  have HB := Aside0.mk (Below.refl w.heap.size w)
  have HG := Aside0.mk hG
  clear hG
  have H : ((strings_Split.f a0 (⟨#[47]⟩ : ByteArray)).bind fun t101 => (some t101)) = some r := h
  clear h
  replace H := Option.bind_eq_some_iff.mp H
  obtain ⟨t101, A20, H⟩ := H
  replace H : (some t101) = some r := H
  have A2 := Aside0.mk A20
  clear A20
  obtain rfl := Option.some.inj H
  go_enter Tryz.func20, Tryz.ntmps20
  go_wp2_with (first | ((with_reducible refine gate_callee (f := 45) rfl ?_); refine goesL_ (some 4) rfl rfl Tryz.func45 (by kernel_rfl) rfl #[.string a0, .string (⟨#[47]⟩ : ByteArray)] rfl (by (try simp only [List.map_toArray, List.map_cons, List.map_nil]); first | done | rfl | (simp only [List.length_drop, List.length_take]; rfl)) ?_; (with_reducible refine (strings_Split.calls a0 (⟨#[47]⟩ : ByteArray) t101 _ ?side99 A2.out).mono ?_); (case side99 => exact GOK.below HG.out (by repeat (first | (with_reducible first | exact HB.out | apply below_alloc | apply pw_below_drewN | apply below_drew1) | exact HB.out))); rintro e w3 ⟨v102, rfl, ho0, hb⟩; refine ⟨_, rfl, ?_⟩; have n0_ := Aside0.mk (Kd.R_lower ho0 (below_size (by repeat (first | (with_reducible first | exact HB.out | apply below_alloc | apply pw_below_drewN | apply below_drew1) | exact HB.out)))); have n1_ := Aside0.mk (below_step (by repeat (first | (with_reducible first | exact HB.out | apply below_alloc | apply pw_below_drewN | apply below_drew1) | exact HB.out)) hb); clear HB; have HO103 := n0_; have HB := n1_; clear n0_ n1_; (try clear hb); (try clear hb2); (try clear hk); (try clear hi); (try clear ho0)))
  go_ret
  exact ⟨_, by first | rfl | (simp [errW_none, errW_some] <;> rfl) | (simp [*, errW_none, errW_some] <;> rfl), by (with_reducible repeat (first | apply Kd.R_alloc | apply Kd.R_drewN | apply Kd.R_drew)); exact HO103.out, by repeat (first | (with_reducible first | exact HB.out | apply below_alloc | apply pw_below_drewN | apply below_drew1) | exact HB.out)⟩

-- EXT: function 69 (strconv_Itoa)

def mint_Number.f (a0 : Int) : Option (ByteArray) := (strconv_Itoa.f (mx a0 0)).bind fun t104 => (some t104)
set_option maxHeartbeats 8000000 in
set_option maxRecDepth 100000 in
theorem mint_Number.calls (a0 : Int) (r : ByteArray) (w : World) (hG : GOK w) (h : mint_Number.f a0 = some r) :
    Calls Tryz.prog 52 #[.int .i64 a0] w fun e w' => e = .returned (.string r) ∧ Below w.heap.size w w' := by
  have HB := Aside0.mk (Below.refl w.heap.size w)
  have HG := Aside0.mk hG
  clear hG
  have H : ((strconv_Itoa.f (mx a0 0)).bind fun t104 => (some t104)) = some r := h
  clear h
  obtain ⟨ji2, hji2⟩ : ∃ j_ : Int, (mx a0 0) = j_ := ⟨_, rfl⟩
  replace H : ((strconv_Itoa.f (ji2)).bind fun t104 => (some t104)) = some r := by first | (rw [hji2] at H; exact H) | (simp only [hji2] at H ⊢; exact H)
  (try (have hji2l : 0 ≤ ji2 := by (rw [← hji2]; unfold mx; (repeat' split) <;> omega)))
  (try (have hji2m : 0 ≤ ji2 := by omega))
  have hji2_ : (if a0 < 0 then 0 else a0) = ji2 := hji2
  replace H := Option.bind_eq_some_iff.mp H
  obtain ⟨t104, A30, H⟩ := H
  replace H : (some t104) = some r := H
  have A3 := Aside0.mk A30
  clear A30
  obtain rfl := Option.some.inj H
  go_enter Tryz.func52, Tryz.ntmps52
  go_wp2_with (first | ((with_reducible refine gate_callee (f := 69) rfl ?_); refine goesL_ (some 5) rfl rfl Tryz.func69 (by kernel_rfl) rfl #[.int .i64 ji2] rfl (by (try simp only [List.map_toArray, List.map_cons, List.map_nil]); first | done | (simp only [hji2]; rfl) | rfl | (simp only [List.length_drop, List.length_take]; rfl)) ?_; (with_reducible refine (strconv_Itoa.calls ji2 t104 _ ?side99 A3.out).mono ?_); (case side99 => exact GOK.below HG.out (by repeat (first | (with_reducible first | exact HB.out | apply below_alloc | apply pw_below_drewN | apply below_drew1) | exact HB.out))); rintro e w4 ⟨rfl, hb⟩; refine ⟨_, rfl, ?_⟩; have n0_ := Aside0.mk (below_step (by repeat (first | (with_reducible first | exact HB.out | apply below_alloc | apply pw_below_drewN | apply below_drew1) | exact HB.out)) hb); clear HB; have HB := n0_; clear n0_; (try clear hb); (try clear hb2); (try clear hk); (try clear hi)))
  go_ret
  exact ⟨by first | rfl | (simp [errW_none, errW_some] <;> rfl) | (simp only [← hji2]; first | rfl | (simp [errW_none, errW_some] <;> rfl)) | (simp [*, errW_none, errW_some] <;> rfl), by repeat (first | (with_reducible first | exact HB.out | apply below_alloc | apply pw_below_drewN | apply below_drew1) | exact HB.out)⟩

def shipwrightlaw1_Short.f (a0 : ByteArray) (a1 : Int) : Option (ByteArray) := if 0 ≤ (mn (a0.size : Int) a1) then (if (mn (a0.size : Int) a1) ≤ (a0.size : Int) then (some (a0.extract 0 ((mn (a0.size : Int) a1) : Int).toNat)) else (none)) else (none)
mutual
def shipwrightlaw1_Vals.l0 : Nat → List (S34) → List (S34) → Int → Option ((List (S34)))
  | 0, _, _, _ => none
  | k + 1, x0, x3, x4 => if x4 < (x0.length : Int) then (shipwrightlaw1_Vals.j1 k x0 x3 x4 (decide (x4 < 10))) else (shipwrightlaw1_Vals.j1 k x0 x3 x4 false)
def shipwrightlaw1_Vals.j1 : Nat → List (S34) → List (S34) → Int → Bool → Option ((List (S34)))
  | 0, _, _, _, _ => none
  | k + 1, x0, x3, x4, x13 => if x13 = true then (if 0 ≤ x4 then (if x4 < (x0.length : Int) then (if ((rd_T34 x0 x4).f0 = true) then (if x3.length < 5864062014805 then (shipwrightlaw1_Vals.l0 k x0 (x3 ++ [(⟨(rd_T34 x0 x4).f0, (rd_T34 x0 x4).f1⟩ : S34)]) (wrap64 (x4 + 1))) else (none)) else (if x3.length < 5864062014805 then (shipwrightlaw1_Vals.l0 k x0 (x3 ++ [(⟨(rd_T34 x0 x4).f0, (⟨#[]⟩ : ByteArray)⟩ : S34)]) (wrap64 (x4 + 1))) else (none))) else (none)) else (none)) else (some x3)
end
def shipwrightlaw1_Vals.f (k : Nat) (l0 : List (S34)) : Option ((List (S34))) := shipwrightlaw1_Vals.l0 k l0 ([] : List (S34)) 0
theorem shipwrightlaw1_Vals.mono_l : ∀ k, (∀ y0 y1 y2, LeO (shipwrightlaw1_Vals.l0 k y0 y1 y2) (shipwrightlaw1_Vals.l0 (k + 1) y0 y1 y2)) ∧ (∀ y0 y1 y2 y3, LeO (shipwrightlaw1_Vals.j1 k y0 y1 y2 y3) (shipwrightlaw1_Vals.j1 (k + 1) y0 y1 y2 y3))
  | 0 => ⟨fun _ _ _ r h => by simp [shipwrightlaw1_Vals.l0] at h, fun _ _ _ _ r h => by simp [shipwrightlaw1_Vals.j1] at h⟩
  | k + 1 => by
    obtain ⟨ih0, ih1⟩ := shipwrightlaw1_Vals.mono_l k
    refine ⟨?_, ?_⟩
    · intro y0 y1 y2
      unfold shipwrightlaw1_Vals.l0
      repeat' first
      | (with_reducible exact ih0 _ _ _)
      | (with_reducible exact ih1 _ _ _ _)
      | (with_reducible exact LeO.refl _)
      | (with_reducible exact LeO.none _)
      | (with_reducible refine LeO.ite ?_ ?_)
      | (with_reducible refine LeO.bind ?_ (fun _ => ?_))
      | exact ih0 _ _ _
      | exact ih1 _ _ _ _
      | exact LeO.none _
      | refine LeO.ite ?_ ?_
      | refine LeO.bind ?_ (fun _ => ?_)
    · intro y0 y1 y2 y3
      unfold shipwrightlaw1_Vals.j1
      repeat' first
      | (with_reducible exact ih0 _ _ _)
      | (with_reducible exact ih1 _ _ _ _)
      | (with_reducible exact LeO.refl _)
      | (with_reducible exact LeO.none _)
      | (with_reducible refine LeO.ite ?_ ?_)
      | (with_reducible refine LeO.bind ?_ (fun _ => ?_))
      | exact ih0 _ _ _
      | exact ih1 _ _ _ _
      | exact LeO.none _
      | refine LeO.ite ?_ ?_
      | refine LeO.bind ?_ (fun _ => ?_)
theorem shipwrightlaw1_Vals.mono : ∀ a0 k, LeO (shipwrightlaw1_Vals.f k a0) (shipwrightlaw1_Vals.f (k + 1) a0) := by
  intro a0 k
  obtain ⟨ih0, ih1⟩ := shipwrightlaw1_Vals.mono_l k
  unfold shipwrightlaw1_Vals.f
  repeat' first
      | (with_reducible exact ih0 _ _ _)
      | (with_reducible exact ih1 _ _ _ _)
      | (with_reducible exact LeO.refl _)
      | (with_reducible exact LeO.none _)
      | (with_reducible refine LeO.ite ?_ ?_)
      | (with_reducible refine LeO.bind ?_ (fun _ => ?_))
      | exact ih0 _ _ _
      | exact ih1 _ _ _ _
      | exact LeO.none _
      | refine LeO.ite ?_ ?_
      | refine LeO.bind ?_ (fun _ => ?_)
end Go.Proofs.YtobbliglnjgbaaaGreatDoor.Pb

namespace Go.Proofs.YtobbliglnjgbaaaGreatDoor.X
open Go.RowKit Go.Proofs.YtobbliglnjgbaaaGreatDoorW.PrintWords

theorem eg44 : ∀ args w, (callFunc 44 args).run Tryz.prog w = .ok (.enter 44 args) w := Go.Proofs.enters_of Tryz.func44 (by kernel_rfl) rfl
theorem predB_bad (w : World) (hG : GOK w) : PredB 44 #[] (fun x => bad x.data.toList) w := fun W x hb => path_bad.calls x _ W (hG.below hb) rfl
theorem parts_calls (s : ByteArray) (w : World) (hG : GOK w) (hs : s.size < 4294967281) :
    Calls Tryz.prog 20 #[.string s] w fun e w' => ∃ v : Value, e = .returned v ∧ Kd.R Kd.string 9 w' w.heap.size (fun _ => True) v ((parts s.data.toList).map mk) ∧ Below w.heap.size w w' :=
  Pb.path_Parts.calls s _ w hG (by unfold Pb.path_Parts.f; rw [strings_Split.one s 47 hs]; rfl)

def path_May.f (a0 : ByteArray) : Option Bool := some (may a0.data.toList)
set_option maxHeartbeats 2000000 in
theorem path_May.calls (a0 : ByteArray) (r : Bool) (w : World) (hG : GOK w) (h : path_May.f a0 = some r) :
    Calls Tryz.prog 19 #[.string a0] w fun e w' => e = .returned (.bool r) ∧ Below w.heap.size w w' := by
  have hr : may a0.data.toList = r := Option.some.inj h
  clear h
  unfold may at hr
  rw [← Lib.size_eq, ← toList_eq] at hr
  by_cases h1 : a0.toList = [114, 117, 108, 101]
  · have e1 : (a0.toList == [114, 117, 108, 101]) = true := by simp [h1]
    rw [e1] at hr
    have hr' : r = false := by simpa using hr.symm
    subst hr'
    clear hr h1
    go_enter Tryz.func19, Tryz.ntmps19
    go_wp2
    go_ret
    exact ⟨rfl, Below.refl _ _⟩
  have e1 : (a0.toList == [114, 117, 108, 101]) = false := by simp [h1]
  by_cases h2 : a0.toList = [105, 110]
  · have e2 : (a0.toList == [105, 110]) = true := by simp [h2]
    rw [e2] at hr
    have hr' : r = false := by simpa using hr.symm
    subst hr'
    clear hr h1 h2
    go_enter Tryz.func19, Tryz.ntmps19
    go_wp2
    go_ret
    exact ⟨rfl, Below.refl _ _⟩
  have e2 : (a0.toList == [105, 110]) = false := by simp [h2]
  by_cases h3 : a0.toList = [111, 117, 116]
  · have e3 : (a0.toList == [111, 117, 116]) = true := by simp [h3]
    rw [e3] at hr
    have hr' : r = false := by simpa using hr.symm
    subst hr'
    clear hr h1 h2 h3
    go_enter Tryz.func19, Tryz.ntmps19
    go_wp2
    go_ret
    exact ⟨rfl, Below.refl _ _⟩
  have e3 : (a0.toList == [111, 117, 116]) = false := by simp [h3]
  by_cases h4 : a0.toList = [97, 102, 116, 101, 114]
  · have e4 : (a0.toList == [97, 102, 116, 101, 114]) = true := by simp [h4]
    rw [e4] at hr
    have hr' : r = false := by simpa using hr.symm
    subst hr'
    clear hr h1 h2 h3 h4
    go_enter Tryz.func19, Tryz.ntmps19
    go_wp2
    go_ret
    exact ⟨rfl, Below.refl _ _⟩
  have e4 : (a0.toList == [97, 102, 116, 101, 114]) = false := by simp [h4]
  rw [e1, e2, e3, e4] at hr
  clear h1 h2 h3 h4
  by_cases hl : a0.size ≤ 40
  · have hl1 : decide ((a0.size : Int) ≤ 40) = true := by simp; omega
    have hl2 : decide (a0.size ≤ 40) = true := by simp [hl]
    have hr' : r = !(parts a0.toList).any bad := by rw [hl2] at hr; simpa using hr.symm
    clear hr hl2
    have hP := parts_calls a0 w hG (by omega)
    rw [← toList_eq] at hP
    generalize hps : (parts a0.toList).map mk = ps at hP
    have HPS := Lib.hid hps
    clear hps
    have HG := Lib.hid hG
    clear hG
    have HR := Lib.hid hr'
    clear hr'
    go_enter Tryz.func19, Tryz.ntmps19
    go_wp2_with fail
    refine hP.mono ?_
    rintro e w2 ⟨v, rfl, hv, hb2⟩
    obtain ⟨A, c, rfl, hc, hrd⟩ := Kd.R_reads hv
    have hC := containsFunc_calls 44 #[] eg44 (fun x => bad x.data.toList) A c _ w2 hrd (predB_bad w2 (HG.out.below hb2))
    have ea : ps.any (fun x => bad x.data.toList) = (parts a0.toList).any bad := by
      rw [← HPS.out]
      simp only [List.any_map, Function.comp_def, mk_data]
    rw [ea] at hC
    clear hv hrd hc ea hP HPS
    generalize (parts a0.toList).any bad = q at hC HR
    go_wp2_with fail
    refine hC.mono ?_
    rintro e w3 ⟨rfl, hb3⟩
    go_wp2
    go_ret
    exact ⟨by rw [HR.out]; rfl, below_then hb2 hb2.size hb3⟩
  · have hl1 : decide ((a0.size : Int) ≤ 40) = false := by simp; omega
    have hl2 : decide (a0.size ≤ 40) = false := by simp [hl]
    have hr' : r = false := by rw [hl2] at hr; simpa using hr.symm
    subst hr'
    clear hr hl2
    go_enter Tryz.func19, Tryz.ntmps19
    go_wp2
    go_ret
    exact ⟨rfl, Below.refl _ _⟩

end Go.Proofs.YtobbliglnjgbaaaGreatDoor.X

namespace Go.Proofs.YtobbliglnjgbaaaGreatDoor.X
open Go.RowKit Go.Proofs.YtobbliglnjgbaaaGreatDoorW.PrintWords

theorem own_below_grown {B : Nat} {w w1 w2 : World} {v : Value} (h : Below B w w1) (hB : B ≤ w1.heap.size) (hg : w1.grownBy w2 v.ownBlock) (hv : ∀ k, v.ownBlock = some k → B ≤ k) : Below B w w2 := h.grown hg hB hv

theorem clone_calls (A : Option Addr) (c : Nat) (l : List ByteArray) (w : World) (hr : Kd.C Kd.string w A l.length l) (hl : l.length * 16 ≤ 140737488355328) :
    Calls Tryz.prog 49 #[.slice A l.length c] w fun e w' => ∃ v', e = .returned v' ∧ w'.ownsRow w.heap.size 9 1 v' l.length (encs Value.string l) ∧ Below w.heap.size w w' := by
  rcases row_open hr with rfl | ⟨b, o, rfl, _, hcell⟩
  · cases A with
    | none =>
      have h := Go.Proofs.Any.slices_Clone_string_nil Go.Proofs.Tryz.laysClone 0 c w
      change Calls Tryz.prog 49 _ _ _ at h
      exact h.mono fun e w' ⟨he, hw⟩ => ⟨_, he, own_nil _ _ _ _, by subst hw; exact Below.refl _ _⟩
    | some a =>
      have h := Go.Proofs.Any.slices_Clone_string_zero Go.Proofs.Tryz.laysClone a c w
      change Calls Tryz.prog 49 _ _ _ at h
      exact h.mono fun e w' ⟨v', he, ho, _, hb⟩ => ⟨v', he, ho, hb⟩
  · have h := Go.Proofs.Any.slices_Clone_string Go.Proofs.Tryz.laysClone b o l.length c l w (Nat.le_refl _) hl hcell
    change Calls Tryz.prog 49 _ _ _ at h
    exact h.mono fun e w' ⟨v', he, ho, _, hb⟩ => ⟨v', he, by rw [List.take_length] at ho; exact ho, hb⟩

theorem eg46 : ∀ args w, (callFunc 46 args).run Tryz.prog w = .ok (.enter 46 args) w := Go.Proofs.enters_of Tryz.func46 (by kernel_rfl) rfl
def path_Join.f (l0 : List ByteArray) : Option ByteArray :=
  if l0.length * 16 ≤ 140737488355328 ∧ (join (l0.map (·.data.toList))).length ≤ 140737488355328 then some (mk (join (l0.map (·.data.toList)))) else none
theorem join_filter (l : List ByteArray) : ((l.filter fun x => !(x.toList == [])).map (·.data.toList)) = (l.map (·.data.toList)).filter fun s => !(s == []) := by
  rw [List.filter_map]
  congr 1
  simp only [toList_eq]
  rfl
set_option maxHeartbeats 2000000 in
theorem path_Join.calls (A0 : Option Addr) (c0 : Nat) (l0 : List ByteArray) (r : ByteArray) (w : World) (hG : GOK w) (hr0 : Kd.C Kd.string w A0 l0.length l0) (_hc0 : l0.length ≤ c0) (h : path_Join.f l0 = some r) :
    Calls Tryz.prog 21 #[.slice A0 l0.length c0] w fun e w' => e = .returned (.string r) ∧ Below w.heap.size w w' := by
  unfold path_Join.f at h
  split at h
  · rename_i hs
    have hr := Option.some.inj h
    have h1 := clone_calls A0 c0 l0 w hr0 hs.1
    have hjoin : strings_Join.f (l0.filter fun x => !(x.toList == [])) (⟨#[47]⟩ : ByteArray) = some r := by
      unfold strings_Join.f
      rw [join_filter]
      have hlen : (l0.filter fun x => !(x.toList == [])).length ≤ l0.length := List.length_filter_le _ _
      rw [if_pos ⟨by omega, hs.2⟩, ← hr]
      rfl
    clear h hr hr0
    generalize hf : (l0.filter fun x => !(x.toList == [])) = lf at hjoin
    have HF := Lib.hid hf
    clear hf
    have HJ := Lib.hid hjoin
    clear hjoin
    have HG := Lib.hid hG
    clear hG hs
    go_enter Tryz.func21, Tryz.ntmps21
    go_wp2_with fail
    refine h1.mono ?_
    rintro e w1 ⟨v1, rfl, ho1, hb1⟩
    have h2 := deleteFunc_own w.heap.size w.heap.size 46 #[] eg46 (fun x => x.toList == []) v1 l0 w1 ho1 (Nat.le_refl _) hb1.size (fun W x hb => by
      refine (Pa.path_Join_1.calls x (x.toList == []) W (HG.out.below (hb1.trans hb)) rfl).mono fun e w' ⟨he, hd⟩ => ⟨he, hd.out⟩)
    rw [HF.out] at h2
    have HB1 := Lib.hid hb1
    have HV1 : Hid (∀ k, v1.ownBlock = some k → w.heap.size ≤ k) := own_base ho1
    clear hb1 ho1 h1
    go_wp2_with fail
    refine h2.mono ?_
    rintro e w2 ⟨v2, rfl, ho2, _, hg2⟩
    have hb2 : Below w.heap.size w w2 := own_below_grown HB1.out HB1.out.size hg2 HV1.out
    obtain ⟨A, c, rfl, hc, hrd⟩ := Kd.R_reads (Kd.R_of_own (h1 := fun _ => rfl) (ok := fun _ => True) ho2 (fun _ _ => trivial))
    have h3 := strings_Join.calls A c lf (⟨#[47]⟩ : ByteArray) r w2 (HG.out.below hb2) hrd hc HJ.out
    clear ho2 hg2 hc hrd h2
    go_wp2_with fail
    refine h3.mono ?_
    rintro e w3 ⟨rfl, hb3⟩
    go_wp2
    go_ret
    exact ⟨rfl, below_then hb2 hb2.size hb3⟩
  · cases h

end Go.Proofs.YtobbliglnjgbaaaGreatDoor.X

namespace Go.Proofs.YtobbliglnjgbaaaGreatDoor.X
open Go.RowKit Go.Proofs.YtobbliglnjgbaaaGreatDoorW.PrintWords

theorem itoa_number (n : Int) (h : 0 ≤ n) : Lib.itoa n = number n := by
  unfold Lib.itoa number
  rw [if_neg (by omega)]
theorem number_calls (n : Int) (h0 : 0 ≤ n) (h1 : n ≤ 9223372036854775807) (w : World) (hG : GOK w) :
    Calls Tryz.prog 52 #[.int .i64 n] w fun e w' => e = .returned (.string (mk (number n))) ∧ Below w.heap.size w w' := by
  refine Pb.mint_Number.calls n _ w hG ?_
  unfold Pb.mint_Number.f
  have e : mx n 0 = n := by unfold mx; omega
  rw [e]
  unfold strconv_Itoa.f
  rw [if_pos ⟨by omega, h1⟩, itoa_number n h0]
  rfl

/-- A number that is read: what it is, if it is written as numbers are and at most so great. -/
def getNumber (s : Bytes) (most : Int) : Int × Bool :=
  match Lib.atoiAll s with
  | .ok v => if v < 0 then (0, false) else if most < v then (0, false) else if number v == s then (v, true) else (0, false)
  | _ => (0, false)
def mint_GetNumber.f (a0 : ByteArray) (a1 : Int) : Option (Int × Bool) := if a0.size ≤ 281474976710656 then some (getNumber a0.data.toList a1) else none
set_option maxHeartbeats 2000000 in
theorem mint_GetNumber.calls (a0 : ByteArray) (a1 : Int) (r1 : Int) (r2 : Bool) (w : World) (hG : GOK w) (h : mint_GetNumber.f a0 a1 = some (r1, r2)) :
    Calls Tryz.prog 42 #[.string a0, .int .i64 a1] w fun e w' => e = .returned (.tuple #[.int .i64 r1, .bool r2]) ∧ Below w.heap.size w w' := by
  unfold mint_GetNumber.f at h
  split at h
  · rename_i hs
    have hr := Option.some.inj h
    clear h
    unfold getNumber at hr
    cases ha : Lib.atoiAll a0.data.toList
    · rename_i v
      rw [ha] at hr
      dsimp only at hr
      obtain ⟨hv0, hv1⟩ := Lib.atoiAll_bounds ha
      have hA := Go.Proofs.Any.strconv_Atoi_ok Go.Proofs.Tryz.laysC172 a0 (by omega) v ha w
      change Calls Tryz.prog 61 _ _ _ at hA
      have hA' : Calls Tryz.prog 61 #[.string a0] w fun e w' => e = .returned (.tuple #[.int .i64 v, .nilIface]) ∧ Below w.heap.size w w' := hA.mono fun e w' ⟨he, hw⟩ => ⟨he, by
        rcases hw with hw | ⟨t, hw⟩
        · subst hw; exact Below.refl _ _
        · subst hw; exact Go.Joins.below_bytesWorld _ _ _ _ (Nat.le_refl _)⟩
      clear hA ha
      by_cases hn : v < 0
      · have hd : decide (v < 0) = true := by simp [hn]
        rw [if_pos hn] at hr
        cases hr
        clear hG
        go_enter Tryz.func42, Tryz.ntmps42
        go_wp2_with (go_at_call 61; refine hA'.mono ?_; rintro e w2 ⟨rfl, hb2⟩)
        go_ret2
        exact ⟨rfl, hb2⟩
      have hd : decide (v < 0) = false := by simp; omega
      rw [if_neg hn] at hr
      by_cases hm : a1 < v
      · have hd2 : decide (a1 < v) = true := by simp [hm]
        rw [if_pos hm] at hr
        cases hr
        clear hG
        go_enter Tryz.func42, Tryz.ntmps42
        go_wp2_with (go_at_call 61; refine hA'.mono ?_; rintro e w2 ⟨rfl, hb2⟩)
        go_ret2
        exact ⟨rfl, hb2⟩
      have hd2 : decide (a1 < v) = false := by simp; omega
      rw [if_neg hm, ← toList_eq] at hr
      have HG := Lib.hid hG
      clear hG
      have hN := fun W (h : GOK W) => number_calls v (by omega) hv1 W h
      have et : (mk (number v)).toList = number v := mk_toList _
      generalize mk (number v) = nv at hN et
      rw [← et] at hr
      clear et
      by_cases hq : nv.toList = a0.toList
      · have e1 : (nv.toList != a0.toList) = false := by simp [hq]
        have e2 : (nv.toList == a0.toList) = true := by simp [hq]
        rw [e2] at hr
        cases hr
        clear hq
        have HN := Lib.hid hN
        clear hN
        go_enter Tryz.func42, Tryz.ntmps42
        go_wp2_with fail
        refine hA'.mono ?_
        rintro e w2 ⟨rfl, hb2⟩
        go_wp2_with (go_at_call 52; refine (HN.out _ (HG.out.below hb2)).mono ?_; rintro e w3 ⟨rfl, hb3⟩)
        go_ret2
        exact ⟨rfl, below_then hb2 hb2.size hb3⟩
      · have e1 : (nv.toList != a0.toList) = true := by simp [hq]
        have e2 : (nv.toList == a0.toList) = false := by simp [hq]
        rw [e2] at hr
        cases hr
        clear hq
        have HN := Lib.hid hN
        clear hN
        go_enter Tryz.func42, Tryz.ntmps42
        go_wp2_with fail
        refine hA'.mono ?_
        rintro e w2 ⟨rfl, hb2⟩
        go_wp2_with (go_at_call 52; refine (HN.out _ (HG.out.below hb2)).mono ?_; rintro e w3 ⟨rfl, hb3⟩)
        go_ret2
        exact ⟨rfl, below_then hb2 hb2.size hb3⟩
    · rw [ha] at hr
      cases hr
      obtain ⟨te, pe, hev⟩ := hG.errS
      have hA := Go.Proofs.Any.strconv_Atoi_syntax Go.Proofs.Tryz.laysC172 a0 hs ha _ w hev (.inr ⟨te, pe, rfl⟩)
      change Calls Tryz.prog 61 _ _ fun e w' => ∃ N, e = .returned (.tuple #[_, .iface 116 _]) ∧ _ at hA
      clear hG hev ha
      go_enter Tryz.func42, Tryz.ntmps42
      go_wp2_with (go_at_call 61; refine hA.mono ?_; rintro e w2 ⟨N, rfl, _, _, hb2⟩)
      go_ret2
      exact ⟨rfl, hb2⟩
    · rw [ha] at hr
      cases hr
      obtain ⟨te, pe, hev⟩ := hG.errR
      have hA := Go.Proofs.Any.strconv_Atoi_range Go.Proofs.Tryz.laysC172 a0 hs ha _ w hev (.inr ⟨te, pe, rfl⟩)
      change Calls Tryz.prog 61 _ _ fun e w' => ∃ N, e = .returned (.tuple #[_, .iface 116 _]) ∧ _ at hA
      clear hG hev ha
      generalize Lib.atoiSat a0.data.toList = sat at hA
      go_enter Tryz.func42, Tryz.ntmps42
      go_wp2_with (go_at_call 61; refine hA.mono ?_; rintro e w2 ⟨N, rfl, _, _, hb2⟩)
      go_ret2
      exact ⟨rfl, hb2⟩
  · cases h

end Go.Proofs.YtobbliglnjgbaaaGreatDoor.X

namespace Go.Proofs.YtobbliglnjgbaaaGreatDoor.X
open Go.RowKit Go.Proofs.YtobbliglnjgbaaaGreatDoorW.PrintWords

theorem builder_below {T e : TypeId} {B b : Nat} {bs : List Value} {w w1 : World} (h : Lib.IsBuilder T e B b bs w) (hb : Below w.heap.size w w1) : Lib.IsBuilder T e B b bs w1 := by
  have one : ∀ p, Lib.BuilderAt T e B b p bs w → Lib.BuilderAt T e B b p bs w1 := by
    rintro p ⟨hB, v, hh, ho, hne⟩
    exact ⟨hB, v, (hb.block b (Array.getElem?_eq_some_iff.1 hh).1).trans hh, pw_own_below ho hb, hne⟩
  rcases h with h | h
  · exact .inl (one _ h)
  · exact .inr (one _ h)
theorem byteCells_snoc (l m : Bytes) (s : ByteArray) (h : s.data.toList = m) : Lib.byteCells l ++ Lib.strCells s = Lib.byteCells (l ++ m) := by
  subst h
  unfold Lib.byteCells Lib.strCells
  rw [List.map_append]
theorem byteCells_length (l : Bytes) : (Lib.byteCells l).length = l.length := by simp [Lib.byteCells]
theorem put_take (l : List Bytes) (k : Nat) (h : k < l.length) : put (l.take (k + 1)) = put (l.take k) ++ (number (l[k].length) ++ [58] ++ l[k]) := by
  unfold put
  rw [List.take_succ_eq_append_getElem h, List.map_append, List.flatten_append]
  simp
theorem put_take_le (l : List Bytes) (k : Nat) : (put (l.take k)).length ≤ (put l).length := by
  have : put l = put (l.take k) ++ put (l.drop k) := by
    unfold put
    rw [← List.flatten_append, ← List.map_append, List.take_append_drop]
  rw [this, List.length_append]
  omega

theorem writeString_calls (B b : Nat) (l : Bytes) (s : ByteArray) (w : World) (h : Lib.IsBuilder 82 5 B b (Lib.byteCells l) w) (hlen : l.length + s.size ≤ 140737488355328) (hBw : B ≤ w.heap.size) :
    Calls Tryz.prog 51 #[.pointer (some ⟨b, 0, none⟩), .string s] w fun e w' => e = .returned (.tuple #[.int .i64 s.size, .nilIface]) ∧ Lib.IsBuilder 82 5 B b (Lib.byteCells (l ++ s.data.toList)) w' ∧ Below B w w' := by
  have hcall := Go.Proofs.Any.Builder_WriteString { Go.Proofs.Tryz.lays156 with } builderExtra B b (Lib.byteCells l) s w h (by rw [byteCells_length]; exact hlen) hBw
  change Calls Tryz.prog 51 _ _ _ at hcall
  refine hcall.mono fun e w' ⟨he, hb, hB⟩ => ⟨he, .inr ?_, hB⟩
  rw [byteCells_snoc l s.data.toList s rfl] at hb
  exact hb
theorem builderString_calls (B b : Nat) (l : Bytes) (w : World) (h : Lib.IsBuilder 82 5 B b (Lib.byteCells l) w) (hBw : B ≤ w.heap.size) :
    Calls Tryz.prog 53 #[.pointer (some ⟨b, 0, none⟩)] w fun e w' => e = .returned (.string (mk l)) ∧ Below B w w' := by
  have hcall := Go.Proofs.Any.Builder_String_any { Go.Proofs.Tryz.lays156 with } builderExtra B b l w h hBw
  change Calls Tryz.prog 53 _ _ _ at hcall
  exact hcall

def mint_Put.f (l0 : List ByteArray) : Option ByteArray := if (put (l0.map (·.data.toList))).length ≤ 140737488355328 then some (mk (put (l0.map (·.data.toList)))) else none
set_option maxHeartbeats 4000000 in
theorem mint_Put.calls (A0 : Option Addr) (c0 : Nat) (l0 : List ByteArray) (r : ByteArray) (w : World) (hG : GOK w) (hr0 : Kd.C Kd.string w A0 l0.length l0) (_hc0 : l0.length ≤ c0) (h : mint_Put.f l0 = some r) :
    Calls Tryz.prog 32 #[.slice A0 l0.length c0] w fun e w' => e = .returned (.string r) ∧ Below w.heap.size w w' := by
  unfold mint_Put.f at h
  split at h
  · rename_i hs
    have hr : mk (put (l0.map (·.data.toList))) = r := Option.some.inj h
    clear h
    have hlen : l0.length ≤ 9223372036854775807 := hr0.2.1
    have HS : Hid ((put (l0.map (·.data.toList))).length ≤ 140737488355328) := hs
    have HR := Lib.hid hr
    have HG := Lib.hid hG
    have HC : Hid (l0 = [] ∨ ∃ b o, A0 = some ⟨b, o, none⟩ ∧ b < w.heap.size ∧ ∀ j, j < l0.length → w.cell? ⟨b, o + j, none⟩ = some (.string (l0.getD j ByteArray.empty))) := row_open hr0
    clear hs hr hG hr0
    go_enter Tryz.func32, Tryz.ntmps32
    go_wp2_with fail
    go_loopg [5, 8] l0.length (fun gg _ s8 wr => ∃ kk : Nat, kk ≤ l0.length ∧ l0.length - kk ≤ gg ∧ s8 = .int .i64 kk ∧ Aside0 (Lib.IsBuilder 82 5 w.heap.size w.heap.size (Lib.byteCells (put ((l0.map (·.data.toList)).take kk))) wr) ∧ Aside0 (Below w.heap.size w wr))
    case atStart =>
      refine ⟨0, Nat.zero_le _, by omega, rfl, ⟨.inl ⟨Nat.le_refl _, .slice none 0 0, heap_alloc_new w _, own_nil _ _ _ _, by simp [Value.ownBlock]⟩⟩, ⟨(Below.refl _ _).alloc (Nat.le_refl _) _⟩⟩
    case round =>
      obtain ⟨kk, hkk, hgk, rfl, HB, HW⟩ := hrel
      by_cases hlt : kk < l0.length
      · have hltz : (kk : Int) < (l0.length : Int) := by omega
        obtain ⟨y, hy⟩ : ∃ y, y = l0.getD kk ByteArray.empty := ⟨_, rfl⟩
        rcases HC.out with h0 | ⟨b, o, rfl, hb, hcell⟩
        · exfalso; rw [h0] at hlt; simp at hlt
        have hx : wr.cell? ⟨b, o + kk, none⟩ = some (.string y) := by rw [hy]; exact cell_keeps HW.out (hcell kk hlt)
        have hk : kk < (l0.map (·.data.toList)).length := by simpa using hlt
        have hyk : (l0.map (·.data.toList))[kk] = y.data.toList := by rw [hy]; simp [List.getD_eq_getElem?_getD, List.getElem?_eq_getElem hlt]
        have hput : put ((l0.map (·.data.toList)).take (kk + 1)) = put ((l0.map (·.data.toList)).take kk) ++ (number (y.size) ++ [58] ++ y.data.toList) := by
          rw [put_take _ kk hk, hyk, ← Lib.size_eq]
        have hle : (put ((l0.map (·.data.toList)).take kk)).length + (number y.size ++ [58] ++ y.data.toList).length ≤ 140737488355328 := by
          have := put_take_le (l0.map (·.data.toList)) (kk + 1)
          rw [hput, List.length_append] at this
          exact Nat.le_trans this HS.out
        have hsz : y.size ≤ 140737488355328 := by
          have e := Lib.size_eq y
          simp only [List.length_append] at hle
          omega
        have hnl : (number y.size).length ≤ 140737488355328 := by simp only [List.length_append] at hle; omega
        clear hcell hb
        have HP := Lib.hid hput
        have HL : Hid ((put ((l0.map (·.data.toList)).take kk)).length + (number y.size ++ [58] ++ y.data.toList).length ≤ 140737488355328) := hle
        have HN := number_calls (y.size : Int) (by omega) (by omega) wr (HG.out.below HW.out)
        have ens : (mk (number y.size)).size = (number (y.size : Int)).length := mk_size _
        have end_ : (mk (number y.size)).data.toList = number (y.size : Int) := mk_data _
        generalize mk (number (y.size : Int)) = nv at HN ens end_
        have hnv : nv.size ≤ 140737488355328 := by omega
        have END := Lib.hid end_
        clear hy hput hle hyk hk ens end_ hnl
        have hd1 : nv.size + 1 ≤ 9223372036854775807 := by omega
        go_wp2_with fail
        refine HN.mono ?_
        rintro e w1 ⟨rfl, hb1⟩
        go_wp2_with fail
        refine (writeString_calls w.heap.size w.heap.size _ _ _ (builder_below HB.out hb1) ?_ (Nat.le_trans HW.out.size hb1.size)).mono ?_
        · have h1 := HL.out
          have e3 := congrArg List.length END.out
          rw [← Lib.size_eq] at e3
          have e4 := Lib.size_eq y
          simp only [List.length_append, List.length_singleton] at h1
          simp only [ByteArray.size_append]
          show _ + (nv.size + 1 + y.size) ≤ _
          omega
        rintro e w2 ⟨rfl, hB2, hb2⟩
        go_wp2
        go_roundg (l0.length - (kk + 1))
        case measure => omega
        case rel =>
          refine ⟨kk + 1, by omega, by omega, by go_num, ⟨?_⟩, ⟨(HW.out.trans (hb1.mono HW.out.size)).trans hb2⟩⟩
          rw [HP.out]
          have e5 : (nv ++ (⟨#[58]⟩ : ByteArray) ++ y).data.toList = number y.size ++ [58] ++ y.data.toList := by
            rw [data_append, data_append, END.out]
          rw [← e5]
          exact hB2
      · have hltz : ¬ (kk : Int) < (l0.length : Int) := by omega
        obtain rfl : kk = l0.length := by omega
        have hB := HB.out
        rw [List.take_of_length_le (by simp)] at hB
        clear HB
        go_wp2_with (go_at_call 53; refine (builderString_calls w.heap.size w.heap.size _ _ hB HW.out.size).mono ?_; rintro e w2 ⟨rfl, hb2⟩)
        go_ret
        exact ⟨by rw [← HR.out]; rfl, HW.out.trans hb2⟩
  · cases h

end Go.Proofs.YtobbliglnjgbaaaGreatDoor.X

namespace Go.Proofs.YtobbliglnjgbaaaGreatDoor.X
open Go.RowKit Go.Maps Go.Proofs.YtobbliglnjgbaaaGreatDoorW.PrintWords

abbrev TM := List (Bytes × Bytes)
def encT (m : TM) : DataW Unit := .map (m.map fun p => (.string p.1, .lit (.string p.2)))
def insT (x : Bytes × Bytes) : TM → TM
  | [] => [x]
  | y :: r => if bytesBefore x.1 y.1 then x :: y :: r else y :: insT x r
def delT (m : TM) (k : Bytes) : TM := m.filter fun p => !(p.1 == k)
def putT (m : TM) (k v : Bytes) : TM := insT (k, v) (delT m k)
def getT (m : TM) (k : Bytes) : Option Bytes := (m.find? fun p => p.1 == k).map (·.2)
def keyT (m : TM) : Bytes := put (m.flatMap fun p => [p.1, p.2])
def writeT (m : TM) (k v : Bytes) : TM × Int := if may k = false then (m, 1) else if 2000 < v.length ∨ getT m k = none ∧ 60 ≤ m.length then (m, 4) else (putT m k v, 0)
def eraseT (m : TM) (k : Bytes) : TM × Int := if getT m k = none then (m, 6) else (delT m k, 0)

theorem encT_del (m : TM) (k : Bytes) : (encT m).del (.string k) = encT (delT m k) := by
  unfold encT delT DataW.del
  simp only [List.filter_map]
  rfl
theorem encT_ins (x : Bytes × Bytes) : ∀ m : TM, DataW.insert (H := Unit) (.string x.1, .lit (.string x.2)) (m.map fun p => (.string p.1, .lit (.string p.2))) = (insT x m).map fun p => (.string p.1, .lit (.string p.2))
  | [] => rfl
  | y :: r => by
    simp only [List.map_cons, DataW.insert, insT]
    show (if bytesBefore x.1 y.1 = true then _ else _) = _
    split
    · rfl
    · rw [encT_ins x r]; rfl
theorem encT_put (m : TM) (k v : Bytes) : (encT m).put (.string k) (.lit (.string v)) = encT (putT m k v) := by
  have h := encT_del m k
  unfold encT DataW.del at h
  unfold DataW.put encT putT
  simp only [DataW.map.injEq] at h ⊢
  rw [h]
  exact encT_ins (k, v) _
theorem encT_find (m : TM) (k : Bytes) : ((m.map fun p => ((.string p.1 : Lit), (.lit (.string p.2) : DataW Unit))).find? fun p => p.1.sameKey (.string k)) = (m.find? fun p => p.1 == k).map fun p => (.string p.1, .lit (.string p.2)) := by
  rw [List.find?_map]
  rfl
theorem encT_has (m : TM) (k : Bytes) : Maps.has (encT m) (.string k) = (getT m k).isSome := by
  unfold encT getT
  rw [Maps.has_eq, List.any_map]
  rw [Option.isSome_map, List.isSome_find?]
  rfl
theorem encT_at (m : TM) (k : Bytes) : (encT m).atKey (.string k) (.lit (.string [])) = .lit (.string ((getT m k).getD [])) := by
  unfold encT getT DataW.atKey
  simp only [encT_find]
  cases m.find? fun p => p.1 == k <;> rfl
theorem encT_size (m : TM) : Maps.size (encT m) = m.length := by
  unfold encT
  rw [Maps.size_eq, List.length_map]

/-- A tree in memory: its struct is block g, its map block b. -/
structure IsTree (w : World) (g b : Nat) (m : TM) : Prop where
  cell : w.heap[g]? = some (.cells #[.map (some b)] 79 (0, 0))
  map : w.ownsMap Tryz.prog 9 (plainElem Tryz.prog 9) b m.length (encT m)
theorem ownsMap_tight {w : World} {b n : Nat} {m : TM} (h : w.ownsMap Tryz.prog 9 (plainElem Tryz.prog 9) b n (encT m)) : w.ownsMap Tryz.prog 9 (plainElem Tryz.prog 9) b m.length (encT m) := by
  obtain ⟨es, clock, hb, F, _, hD⟩ := h
  refine ⟨es, clock, hb, F, ?_, hD⟩
  have := encT_size m
  rw [hD] at this
  simp only [Maps.size, length_sorted, List.length_map, Array.length_toList] at this
  omega
theorem IsTree.c {w : World} {g b : Nat} {m : TM} (h : IsTree w g b m) : w.cell? ⟨g, 0, none⟩ = some (.map (some b)) := by
  simp [World.cell?, h.cell]
theorem IsTree.lt {w : World} {g b : Nat} {m : TM} (h : IsTree w g b m) : g < w.heap.size ∧ b < w.heap.size := ⟨(Array.getElem?_eq_some_iff.1 h.cell).1, h.map.lt⟩
theorem IsTree.ne {w : World} {g b : Nat} {m : TM} (h : IsTree w g b m) : g ≠ b := by
  rintro rfl
  obtain ⟨es, clock, hb, _⟩ := h.map
  rw [h.cell] at hb
  cases hb
theorem IsTree.kept {w w1 : World} {g b : Nat} {m : TM} (h : IsTree w g b m) (hg : w1.heap[g]? = w.heap[g]?) (hb : w1.heap[b]? = w.heap[b]?) : IsTree w1 g b m := by
  refine ⟨hg.trans h.cell, ?_⟩
  obtain ⟨es, clock, h1, r⟩ := h.map
  exact ⟨es, clock, hb.trans h1, r⟩
theorem IsTree.below {w w1 : World} {g b : Nat} {m : TM} (h : IsTree w g b m) (hb : Below w.heap.size w w1) : IsTree w1 g b m := h.kept (hb.block g h.lt.1) (hb.block b h.lt.2)
theorem kS : Keyed Tryz.prog 9 := string_keyed Tryz.underlying9
theorem zS (w : World) : (zeroValue 9).run Tryz.prog w = .ok (.string ⟨#[]⟩) w := Tryz.zeroValue9 w
theorem pS : plainElem (H := Unit) Tryz.prog 9 (.string ⟨#[]⟩) = some (.lit (.string []), []) := plainElem_string Tryz.underlying9 (by simp [ByteArray.size, maxLen])

/-- v, ok := m[k] and m[k]. -/
theorem IsTree.look {w : World} {g b : Nat} {m : TM} (h : IsTree w g b m) (k : ByteArray) (hk : k.size ≤ maxLen) :
    (Instr.lookup 77 (.map (some b)) (.string k) true).run Tryz.prog w = .ok (.tuple #[(.string (X.mk ((getT m k.data.toList).getD []))), .bool (getT m k.data.toList).isSome]) w := by
  obtain ⟨v, ps, hrun, hR⟩ := h.map.look_ok kS Tryz.underlying77 (zS w) pS (Go.WideMaps.keyOf_string_mk Tryz.underlying9 hk)
  rw [encT_at] at hR
  obtain ⟨s, rfl, hs, _⟩ := plainElem_string_inv Tryz.underlying9 hR
  rw [hrun, encT_has]
  have : s = X.mk ((getT m k.data.toList).getD []) := by
    have h0 := (Prod.mk.inj hs).1
    simp only [DataW.lit.injEq, Lit.string.injEq] at h0
    rw [← data_mk s, ← h0]
  rw [this]
theorem IsTree.len {w : World} {g b : Nat} {m : TM} (h : IsTree w g b m) (ty : TypeId) :
    (Builtin.len_ #[77] ty #[.map (some b)]).run Tryz.prog w = .ok (.int .i64 m.length) w := by
  have := h.map.len Tryz.underlying77 ty
  rwa [encT_size] at this
theorem IsTree.store {w : World} {g b : Nat} {m : TM} (h : IsTree w g b m) (k v : ByteArray) (hk : k.size ≤ maxLen) (hv : v.size ≤ maxLen) (hm : m.length < maxLen) :
    ∃ w', (Instr.mapUpdate 77 (.map (some b)) (.string k) (.string v)).run Tryz.prog w = .ok () w' ∧ IsTree w' g b (putT m k.data.toList v.data.toList) ∧ w.grownBy w' (some b) := by
  obtain ⟨w', hrun, ho, ht⟩ := h.map.store kS Tryz.underlying77 hm (Go.WideMaps.keyOf_string_mk Tryz.underlying9 hk) (plainElem_string Tryz.underlying9 hv)
  rw [encT_put] at ho
  have hg := ht.grown
  exact ⟨w', hrun, ⟨(hg.block g h.lt.1 (by have := h.ne; intro e; injection e; omega)).trans h.cell, ownsMap_tight ho⟩, hg⟩
theorem IsTree.drop {w : World} {g b : Nat} {m : TM} (h : IsTree w g b m) (k : ByteArray) (hk : k.size ≤ maxLen) (ty : TypeId) :
    ∃ w', (Builtin.delete_ #[77, 9] ty #[.map (some b), .string k]).run Tryz.prog w = .ok (.tuple #[]) w' ∧ IsTree w' g b (delT m k.data.toList) ∧ w.grownBy w' (some b) := by
  obtain ⟨w', hrun, ho, ht⟩ := h.map.drop kS Tryz.underlying77 (Go.WideMaps.keyOf_string_mk Tryz.underlying9 hk) ty
  rw [encT_del] at ho
  have hg := ht.grown
  exact ⟨w', hrun, ⟨(hg.block g h.lt.1 (by have := h.ne; intro e; injection e; omega)).trans h.cell, ownsMap_tight ho⟩, hg⟩

set_option maxHeartbeats 1000000 in
theorem tree_Len.calls (w : World) (g b : Nat) (m : TM) (h : IsTree w g b m) :
    Calls Tryz.prog 28 #[.pointer (some ⟨g, 0, none⟩)] w fun e w' => e = .returned (.int .i64 m.length) ∧ Drawn0 w w' := by
  have hc := h.c
  have hl := h.len
  clear h
  go_enter Tryz.func28, Tryz.ntmps28
  go_wp2
  go_ret
  exact ⟨rfl, Drawn0.refl _⟩
set_option maxHeartbeats 1000000 in
theorem tree_Len.none (w : World) : Calls Tryz.prog 28 #[.pointer none] w fun e w' => e = .returned (.int .i64 0) ∧ Drawn0 w w' := by
  go_enter Tryz.func28, Tryz.ntmps28
  go_wp2
  go_ret
  exact ⟨rfl, Drawn0.refl _⟩
set_option maxHeartbeats 1000000 in
theorem tree_Read.calls (w : World) (g b : Nat) (m : TM) (h : IsTree w g b m) (k : ByteArray) (hk : k.size ≤ maxLen) :
    Calls Tryz.prog 30 #[.pointer (some ⟨g, 0, none⟩), .string k] w fun e w' => e = .returned (.tuple #[.string (mk ((getT m k.data.toList).getD [])), .bool (getT m k.data.toList).isSome]) ∧ Drawn0 w w' := by
  have hc := h.c
  have hl := h.look k hk
  clear h
  generalize mk ((getT m k.data.toList).getD []) = v at hl ⊢
  generalize (getT m k.data.toList).isSome = is at hl ⊢
  go_enter Tryz.func30, Tryz.ntmps30
  go_wp2
  go_ret2
  exact ⟨rfl, Drawn0.refl _⟩

end Go.Proofs.YtobbliglnjgbaaaGreatDoor.X

namespace Go.Proofs.YtobbliglnjgbaaaGreatDoor.X
open Go.RowKit Go.Maps Go.Proofs.YtobbliglnjgbaaaGreatDoorW.PrintWords

theorem grown_then {w w1 w2 : World} {row : Option Nat} (h : Below w.heap.size w w1) (hg : w1.grownBy w2 row) : w.grownBy w2 row :=
  ⟨hg.os.trans h.os, hg.tape.trans h.tape, hg.output.trans h.output, Nat.le_trans h.size hg.size, fun i hi hne => (hg.block i (Nat.lt_of_lt_of_le hi h.size) hne).trans (h.block i hi)⟩

set_option maxHeartbeats 4000000 in
set_option maxRecDepth 100000 in
theorem tree_Write.calls (w : World) (hG : GOK w) (g b : Nat) (m : TM) (h : IsTree w g b m) (k v : ByteArray) (hk : k.size ≤ maxLen) (hv : v.size ≤ maxLen) (hm : m.length ≤ 60) :
    Calls Tryz.prog 26 #[.pointer (some ⟨g, 0, none⟩), .string k, .string v] w fun e w' => e = .returned (.int .i64 (writeT m k.data.toList v.data.toList).2) ∧ IsTree w' g b (writeT m k.data.toList v.data.toList).1 ∧ w.grownBy w' (some b) := by
  have hM := path_May.calls k (may k.data.toList) w hG rfl
  have HT : Hid (IsTree w g b m) := h
  have hc := h.c
  have hl := h.look k hk
  unfold writeT
  rw [← Lib.size_eq]
  cases hmay : may k.data.toList with
  | false =>
    rw [if_pos rfl]
    rw [hmay] at hM
    clear hG h hk hv hm hmay
    generalize X.mk ((getT m k.data.toList).getD []) = v0 at hl
    generalize (getT m k.data.toList).isSome = is at hl
    go_enter Tryz.func26, Tryz.ntmps26
    go_wp2_with (go_at_call 19; refine hM.mono ?_; rintro e w2 ⟨rfl, hb2⟩)
    go_ret
    exact ⟨rfl, HT.out.below hb2, grown_of_below hb2 _⟩
  | true =>
    rw [if_neg (by simp)]
    rw [hmay] at hM
    clear hmay hG
    by_cases hv2 : 2000 < v.size
    · rw [if_pos (.inl hv2)]
      clear h hk hv hm
      generalize X.mk ((getT m k.data.toList).getD []) = v0 at hl
      generalize (getT m k.data.toList).isSome = is at hl
      go_enter Tryz.func26, Tryz.ntmps26
      go_wp2_with (go_at_call 19; refine hM.mono ?_; rintro e w2 ⟨rfl, hb2⟩)
      go_ret
      exact ⟨rfl, HT.out.below hb2, grown_of_below hb2 _⟩
    · cases hget : getT m k.data.toList with
      | none =>
        rw [hget] at hl
        simp only [Option.isSome_none, Option.getD_none] at hl
        by_cases h60 : 60 ≤ m.length
        · rw [if_pos (.inr ⟨rfl, h60⟩)]
          clear h hk hv hm hget
          generalize X.mk [] = v0 at hl
          go_enter Tryz.func26, Tryz.ntmps26
          go_wp2_with fail
          refine hM.mono ?_
          rintro e w2 ⟨rfl, hb2⟩
          have hc2 := (HT.out.below hb2).c
          have hl2 := (HT.out.below hb2).len
          go_wp2
          go_ret
          exact ⟨rfl, HT.out.below hb2, grown_of_below hb2 _⟩
        · rw [if_neg (by omega)]
          generalize X.mk [] = v0 at hl
          have HK : Hid (k.size ≤ maxLen) := hk
          have HV : Hid (v.size ≤ maxLen) := hv
          have hm2 : m.length < 60 := by omega
          clear h hget hk hv h60 hm
          go_enter Tryz.func26, Tryz.ntmps26
          go_wp2_with fail
          refine hM.mono ?_
          rintro e w2 ⟨rfl, hb2⟩
          have hc2 := (HT.out.below hb2).c
          have hl2 := (HT.out.below hb2).len
          obtain ⟨w3, hrun, hT3, hg3⟩ := (HT.out.below hb2).store k v HK.out HV.out (by unfold maxLen; omega)
          have HT3 : Hid (IsTree w3 g b (putT m k.data.toList v.data.toList)) := hT3
          have HG3 : Hid (w2.grownBy w3 (some b)) := hg3
          clear hT3 hg3
          go_wp2
          go_ret
          exact ⟨rfl, HT3.out, grown_then hb2 HG3.out⟩
      | some x =>
        rw [hget] at hl
        simp only [Option.isSome_some, Option.getD_some] at hl
        rw [if_neg (by simp; omega)]
        generalize X.mk x = v0 at hl
        have HK : Hid (k.size ≤ maxLen) := hk
        have HV : Hid (v.size ≤ maxLen) := hv
        clear h hget hk hv
        go_enter Tryz.func26, Tryz.ntmps26
        go_wp2_with fail
        refine hM.mono ?_
        rintro e w2 ⟨rfl, hb2⟩
        have hc2 := (HT.out.below hb2).c
        obtain ⟨w3, hrun, hT3, hg3⟩ := (HT.out.below hb2).store k v HK.out HV.out (by unfold maxLen; omega)
        have HT3 : Hid (IsTree w3 g b (putT m k.data.toList v.data.toList)) := hT3
        have HG3 : Hid (w2.grownBy w3 (some b)) := hg3
        clear hT3 hg3
        go_wp2
        go_ret
        exact ⟨rfl, HT3.out, grown_then hb2 HG3.out⟩

set_option maxHeartbeats 4000000 in
set_option maxRecDepth 100000 in
theorem tree_Erase.calls (w : World) (g b : Nat) (m : TM) (h : IsTree w g b m) (k : ByteArray) (hk : k.size ≤ maxLen) :
    Calls Tryz.prog 35 #[.pointer (some ⟨g, 0, none⟩), .string k] w fun e w' => e = .returned (.int .i64 (eraseT m k.data.toList).2) ∧ IsTree w' g b (eraseT m k.data.toList).1 ∧ w.grownBy w' (some b) := by
  have HT : Hid (IsTree w g b m) := h
  have hc := h.c
  have hl := h.look k hk
  unfold eraseT
  cases hget : getT m k.data.toList with
  | none =>
    rw [hget] at hl
    simp only [Option.isSome_none, Option.getD_none] at hl
    rw [if_pos rfl]
    generalize X.mk [] = v0 at hl
    clear h hk hget
    go_enter Tryz.func35, Tryz.ntmps35
    go_wp2
    go_ret
    exact ⟨rfl, HT.out, World.grownBy.refl _ _⟩
  | some x =>
    rw [hget] at hl
    simp only [Option.isSome_some, Option.getD_some] at hl
    rw [if_neg (by simp)]
    generalize X.mk x = v0 at hl
    have hd : ∀ ty, ∃ w', (Builtin.delete_ #[77, 9] ty #[.map (some b), .string k]).run Tryz.prog w = .ok (.tuple #[]) w' ∧ IsTree w' g b (delT m k.data.toList) ∧ w.grownBy w' (some b) := fun ty => h.drop k hk ty
    clear h hk hget
    go_enter Tryz.func35, Tryz.ntmps35
    obtain ⟨w3, hrun, hT3, hg3⟩ := hd 0
    have HT3 : Hid (IsTree w3 g b (delT m k.data.toList)) := hT3
    have HG3 : Hid (w.grownBy w3 (some b)) := hg3
    clear hT3 hg3 hd
    go_wp2
    go_ret
    exact ⟨rfl, HT3.out, HG3.out⟩

end Go.Proofs.YtobbliglnjgbaaaGreatDoor.X

namespace Go.Proofs.YtobbliglnjgbaaaGreatDoor.X
open Go.RowKit Go.Maps Go.Proofs.YtobbliglnjgbaaaGreatDoorW.PrintWords Go.Proofs.YtobbliglnjgbaaaGreatDoorW.PrintLast

theorem insT_length (x : Bytes × Bytes) : ∀ m : TM, (insT x m).length = m.length + 1
  | [] => rfl
  | y :: r => by
    unfold insT
    split
    · rfl
    · rw [List.length_cons, insT_length x r, List.length_cons]
theorem delT_length (m : TM) (k : Bytes) : (delT m k).length ≤ m.length := List.length_filter_le _ _
theorem delT_less (m : TM) (k v : Bytes) (h : getT m k = some v) : (delT m k).length + 1 ≤ m.length := by
  unfold getT at h
  cases hf : m.find? (fun p => p.1 == k) with
  | none => rw [hf] at h; cases h
  | some p =>
    have hp := List.find?_some hf
    have hm := List.mem_of_find?_eq_some hf
    have : (delT m k).length < m.length := by
      rcases Nat.lt_or_ge (delT m k).length m.length with hl | hl
      · exact hl
      · have e := List.length_filter_eq_length_iff.1 (Nat.le_antisymm (delT_length m k) hl) p hm
        simp at hp e
        exact absurd hp e
    omega
theorem writeT_length (m : TM) (k v : Bytes) (h : m.length ≤ 60) : (writeT m k v).1.length ≤ 60 := by
  unfold writeT
  split
  · exact h
  · split
    · exact h
    · rename_i h2
      show (putT m k v).length ≤ 60
      unfold putT
      rw [insT_length]
      cases hg : getT m k with
      | none =>
        have := delT_length m k
        have h3 : ¬ 60 ≤ m.length := fun h4 => h2 (.inr ⟨hg, h4⟩)
        omega
      | some x =>
        have := delT_less m k x hg
        omega
def newT (l : List (Bytes × Bytes)) : TM := l.foldl (fun m f => (writeT m f.1 f.2).1) []
theorem newT_snoc (l : List (Bytes × Bytes)) (f : Bytes × Bytes) : newT (l ++ [f]) = (writeT (newT l) f.1 f.2).1 := by
  unfold newT
  rw [List.foldl_append]
  rfl
theorem foldT_length (l : List (Bytes × Bytes)) : ∀ m : TM, m.length ≤ 60 → (l.foldl (fun m f => (writeT m f.1 f.2).1) m).length ≤ 60 := by
  induction l with
  | nil => exact fun _ h => h
  | cons f r ih => exact fun m h => ih _ (writeT_length m _ _ h)
theorem newT_length (l : List (Bytes × Bytes)) : (newT l).length ≤ 60 := foldT_length l [] (by simp)
/-- A tree that was made: new memory. -/
def Made (w : World) (m : TM) (e : Ending) (w' : World) : Prop := ∃ g b, e = .returned (.pointer (some ⟨g, 0, none⟩)) ∧ IsTree w' g b m ∧ w.heap.size ≤ g ∧ w.heap.size ≤ b ∧ Below w.heap.size w w'
def fileOf (f : S50) : Bytes × Bytes := (f.f0.data.toList, f.f1.data.toList)

set_option maxHeartbeats 4000000 in
set_option maxRecDepth 100000 in
theorem tree_New.calls (A : Option Addr) (c : Nat) (l : List S50) (w : World) (hG : GOK w) (hr : Kd.C k50 w A l.length l) (hsz : ∀ f ∈ l, f.f0.size ≤ maxLen ∧ f.f1.size ≤ maxLen) :
    Calls Tryz.prog 25 #[.slice A l.length c] w (Made w (newT (l.map fileOf))) := by
  have hlen : l.length ≤ 9223372036854775807 := hr.2.1
  have HG := Lib.hid hG
  have HR := Lib.hid hr
  have HZ := Lib.hid hsz
  clear hG hr hsz
  have hmm := @run_makeMap Tryz.prog
  go_enter Tryz.func25, Tryz.ntmps25
  go_wp2_with fail
  go_loopg [5, 11] l.length (fun gg _ s11 wr => ∃ kk : Nat, kk ≤ l.length ∧ l.length - kk ≤ gg ∧ s11 = .int .i64 kk ∧ Aside0 (IsTree wr (w.heap.size + 1) w.heap.size (newT ((l.take kk).map fileOf))) ∧ Aside0 (Below w.heap.size w wr))
  case atStart =>
    refine ⟨0, Nat.zero_le _, by omega, rfl, ⟨⟨?_, ?_⟩⟩, ⟨((Below.refl _ _).alloc (Nat.le_refl _) _).alloc (by simp) _⟩⟩
    · have := heap_alloc_new (w.alloc (.map #[] 0)) (.cells #[.map (some w.heap.size)] 79)
      simpa using this
    · exact ((World.ownsMap_made w Tryz.prog 9 _).alloc _)
  case round =>
    obtain ⟨kk, hkk, hgk, rfl, HT, HW⟩ := hrel
    by_cases hlt : kk < l.length
    · have hltz : (kk : Int) < (l.length : Int) := by omega
      have hx := at_T50 HR.out (kk : Int) (by omega) hltz
      obtain ⟨ad, rfl, hx0, hx1⟩ := hx
      simp only [Int.toNat_natCast] at hx0 hx1
      obtain ⟨y, hy⟩ : ∃ y, y = rd_T50 l (kk : Int) := ⟨_, rfl⟩
      rw [← hy] at hx0 hx1
      have hym : y = l[kk] := by rw [hy]; unfold rd_T50; simp [List.getD_eq_getElem?_getD, List.getElem?_eq_getElem hlt]
      have HY : Hid (y = l[kk]) := hym
      clear hy hym
      replace hx0 := cell_keeps HW.out hx0
      replace hx1 := cell_keeps HW.out hx1
      have HN : Hid (newT ((l.take (kk + 1)).map fileOf) = (writeT (newT ((l.take kk).map fileOf)) y.f0.data.toList y.f1.data.toList).1) := by
        show _ = _
        rw [List.take_succ_eq_append_getElem hlt, List.map_append, List.map_cons, List.map_nil, newT_snoc, HY.out]
        rfl
      have HL : Hid ((newT ((l.take kk).map fileOf)).length ≤ 60) := newT_length _
      have HZ1 : Hid (y.f0.size ≤ maxLen ∧ y.f1.size ≤ maxLen) := by rw [HY.out]; exact HZ.out _ (List.getElem_mem hlt)
      go_wp2_with fail
      have hb1 : ∀ o, Below wr.heap.size wr (wr.alloc o) := fun o => (Below.refl _ _).alloc (Nat.le_refl _) o
      refine (tree_Write.calls _ (HG.out.below (below_then HW.out HW.out.size (hb1 _))) _ _ _ (HT.out.below (hb1 _)) y.f0 y.f1 HZ1.out.1 HZ1.out.2 HL.out).mono ?_
      rintro e w2 ⟨rfl, hT2, hg2⟩
      rw [← HN.out] at hT2
      have HT2 : Hid (IsTree w2 (w.heap.size + 1) w.heap.size (newT ((l.take (kk + 1)).map fileOf))) := hT2
      have HW2 : Hid (Below w.heap.size w w2) := (below_then HW.out HW.out.size (hb1 _)).grown hg2 (Nat.le_trans HW.out.size (hb1 _).size) (fun k hk => by cases hk; exact Nat.le_refl _)
      clear hT2 hg2 hb1 hx0 hx1 HN HL HZ1 HY
      go_wp2
      go_roundg (l.length - (kk + 1))
      case measure => omega
      case rel => exact ⟨kk + 1, by omega, by omega, by go_num, ⟨HT2.out⟩, ⟨HW2.out⟩⟩
    · have hltz : ¬ (kk : Int) < (l.length : Int) := by omega
      obtain rfl : kk = l.length := by omega
      have hT := HT.out
      rw [List.take_length] at hT
      have HT' : Hid (IsTree wr (w.heap.size + 1) w.heap.size (newT (l.map fileOf))) := hT
      clear HT hT
      go_wp2
      go_ret
      exact ⟨w.heap.size + 1, w.heap.size, rfl, HT'.out, by omega, Nat.le_refl _, HW.out⟩

end Go.Proofs.YtobbliglnjgbaaaGreatDoor.X
