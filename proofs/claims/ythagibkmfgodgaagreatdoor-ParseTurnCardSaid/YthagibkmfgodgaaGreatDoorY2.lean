/-
  (Pa) printed by the kit's print for this seat; what is not reached is left out.
  The library contracts of the shelf, laid at this seat: tables of numbers and the kernel's comparisons, in plain words (printed by the shelf's tools).
  Functions of Go's library in the form in which the print asks for a callee: a Lean function on bytes and the contract; strings.Split at a separator of one byte, strings.Cut, strings.Join, strconv.Itoa.
  (Pb) printed by the kit's print for this seat; what is not reached is left out.
-/
import Derived.Test.YthagibkmfgodgaaGreatDoorProg
import Derived.Below
import Derived.Deep.Draws
import Derived.Deep.AppendLies
import Derived.Maps.AppendAt
import Derived.OwnWalk
import Derived.Laws.BytesArg
import Derived.Laws.MakeOwn
import Derived.Laws.OwnMore
import Derived.Deep.OwnRows
import Derived.Tactics
import Derived.Lib.ConvBytes
import Derived.Laws.Slices
import Derived.WalkKit
import Derived.KernelRfl
import Derived.RowKit3
import Derived.Deep.LoopGhost
import Derived.Deep.QuietTactic
import Derived.BigQuiet
import Derived.WideLaws
import Derived.Deep.DeepCutAuto
import Derived.Deep.CutBlock
import Derived.Deep.RegionHeld3
import Derived.Laws.Rows
import Derived.Lib.AppendStr
import Derived.ArgAppend
import Derived.Laws.IdiomCopy
import Derived.OrdersHeld
import Derived.Laws.BitsLemmas
import Derived.RowKit
import Derived.Shelf.SlGeneric
import Derived.Shelf.Strings.Split
import Derived.Shelf.Strings.Cut
import Derived.Shelf.Strings.OnBuilder
import Derived.Shelf.LaysM
import Derived.Shelf.LaysC
import Derived.Shelf.GgClosure.StringsRunes
import Derived.Shelf.SlicesE.DeleteFunc
import Derived.Shelf.SlicesE.IndexFunc
import Derived.Shelf.Slices.Clone
import Derived.Shelf.Strconv.Itoa3
import Derived.Shelf.Strconv.AtoiAll
import Derived.Ground.NamesProg
import Derived.Ground.SlgfProg
import Derived.Ground.GgwProg
import Derived.Ground.Names2Prog
import Derived.Ground.SlmcProg
import Derived.Shelf.SlMaps.Clone
import Derived.Shelf.SlIter.Nil
import Derived.Shelf.SortM.Plain
import Derived.Shelf.SortM.SortNone
import Derived.Ground.GgzProg
import Derived.Ground.SlgmProg
import Derived.Shelf.GgClosure.Gives
import Derived.Test.YthagibkmfgodgaaGreatDoorY0
import Derived.Test.YthagibkmfgodgaaGreatDoorY1
namespace Go.Proofs.YthagibkmfgodgaaGreatDoor.Pa
open Go.Proofs.YthagibkmfgodgaaGreatDoor.X
open Go.RowKit Go.Proofs.YthagibkmfgodgaaGreatDoorW.PrintWords Go.Proofs.YthagibkmfgodgaaGreatDoorW.PrintLast Go.Proofs.YthagibkmfgodgaaGreatDoorW.PrintMore
attribute [local go_sem] max2_int min2_int max_two min_two max_three min_three max_four min_four   -- for this text's walks alone
set_option linter.unusedVariables false
set_option linter.unusedSimpArgs false



def errW : Option Int → Value
 | none => .nilIface
 | some c => .iface 0 (.int .i64 c)
theorem errW_none : errW none = .nilIface := rfl
theorem errW_some (c : Int) : errW (some c) = .iface 0 (.int .i64 c) := rfl

-- the values' own types

end Go.Proofs.YthagibkmfgodgaaGreatDoor.Pa
namespace Go.Proofs.YthagibkmfgodgaaGreatDoor.Pa
open Go.Proofs.YthagibkmfgodgaaGreatDoor.X
open Go.RowKit Go.Proofs.YthagibkmfgodgaaGreatDoorW.PrintWords Go.Proofs.YthagibkmfgodgaaGreatDoorW.PrintLast Go.Proofs.YthagibkmfgodgaaGreatDoorW.PrintMore
attribute [local go_sem] max2_int min2_int max_two min_two max_three min_three max_four min_four   -- for this text's walks alone
set_option linter.unusedVariables false
set_option linter.unusedSimpArgs false

def path_sign.f (a0 : Int) : Option (Bool) := if a0 ≥ 97 then (if a0 ≤ 122 then (some true) else (if a0 ≥ 65 then (if a0 ≤ 90 then (some true) else (if a0 ≥ 48 then (if a0 ≤ 57 then (some true) else (if a0 = 46 then (some true) else (if a0 = 95 then (some true) else (some (a0 == 45))))) else (if a0 = 46 then (some true) else (if a0 = 95 then (some true) else (some (a0 == 45)))))) else (if a0 ≥ 48 then (if a0 ≤ 57 then (some true) else (if a0 = 46 then (some true) else (if a0 = 95 then (some true) else (some (a0 == 45))))) else (if a0 = 46 then (some true) else (if a0 = 95 then (some true) else (some (a0 == 45))))))) else (if a0 ≥ 65 then (if a0 ≤ 90 then (some true) else (if a0 ≥ 48 then (if a0 ≤ 57 then (some true) else (if a0 = 46 then (some true) else (if a0 = 95 then (some true) else (some (a0 == 45))))) else (if a0 = 46 then (some true) else (if a0 = 95 then (some true) else (some (a0 == 45)))))) else (if a0 ≥ 48 then (if a0 ≤ 57 then (some true) else (if a0 = 46 then (some true) else (if a0 = 95 then (some true) else (some (a0 == 45))))) else (if a0 = 46 then (some true) else (if a0 = 95 then (some true) else (some (a0 == 45))))))
set_option maxHeartbeats 8000000 in
set_option maxRecDepth 100000 in
theorem path_sign.calls (a0 : Int) (r : Bool) (w : World) (hG : GOK w) (h : path_sign.f a0 = some r) :
 Calls Tryz.prog 163 #[.int .i32 a0] w fun e w' => e = .returned (.bool r) ∧ Drawn0 w w' := by
 have HG := Aside0.mk hG
 clear hG
 have H : (if a0 ≥ 97 then (if a0 ≤ 122 then (some true) else (if a0 ≥ 65 then (if a0 ≤ 90 then (some true) else (if a0 ≥ 48 then (if a0 ≤ 57 then (some true) else (if a0 = 46 then (some true) else (if a0 = 95 then (some true) else (some (a0 == 45))))) else (if a0 = 46 then (some true) else (if a0 = 95 then (some true) else (some (a0 == 45)))))) else (if a0 ≥ 48 then (if a0 ≤ 57 then (some true) else (if a0 = 46 then (some true) else (if a0 = 95 then (some true) else (some (a0 == 45))))) else (if a0 = 46 then (some true) else (if a0 = 95 then (some true) else (some (a0 == 45))))))) else (if a0 ≥ 65 then (if a0 ≤ 90 then (some true) else (if a0 ≥ 48 then (if a0 ≤ 57 then (some true) else (if a0 = 46 then (some true) else (if a0 = 95 then (some true) else (some (a0 == 45))))) else (if a0 = 46 then (some true) else (if a0 = 95 then (some true) else (some (a0 == 45)))))) else (if a0 ≥ 48 then (if a0 ≤ 57 then (some true) else (if a0 = 46 then (some true) else (if a0 = 95 then (some true) else (some (a0 == 45))))) else (if a0 = 46 then (some true) else (if a0 = 95 then (some true) else (some (a0 == 45))))))) = some r := h
 clear h
 by_cases c2 : a0 ≥ 97
 · rw [if_pos c2] at H
   have c2b0 : decide (97 ≤ a0) = true := decide_eq_true c2
   clear c2
   by_cases c3 : a0 ≤ 122
   · rw [if_pos c3] at H
     have c3b0 : decide (a0 ≤ 122) = true := decide_eq_true c3
     clear c3
     obtain rfl := Option.some.inj H
     go_enter Tryz.func163, Tryz.ntmps163
     go_wp2
     go_ret
     exact ⟨by first | rfl | (simp; done) | (simp [*]; done), by repeat (first | exact Drawn0.refl _ | apply Drawn0.step)⟩
   · rw [if_neg c3] at H
     have c3b0 : decide (a0 ≤ 122) = false := decide_eq_false c3
     clear c3
     by_cases c4 : a0 ≥ 65
     · rw [if_pos c4] at H
       have c4b0 : decide (65 ≤ a0) = true := decide_eq_true c4
       clear c4
       by_cases c5 : a0 ≤ 90
       · rw [if_pos c5] at H
         have c5b0 : decide (a0 ≤ 90) = true := decide_eq_true c5
         clear c5
         obtain rfl := Option.some.inj H
         go_enter Tryz.func163, Tryz.ntmps163
         go_wp2
         go_ret
         exact ⟨by first | rfl | (simp; done) | (simp [*]; done), by repeat (first | exact Drawn0.refl _ | apply Drawn0.step)⟩
       · rw [if_neg c5] at H
         have c5b0 : decide (a0 ≤ 90) = false := decide_eq_false c5
         clear c5
         by_cases c6 : a0 ≥ 48
         · rw [if_pos c6] at H
           have c6b0 : decide (48 ≤ a0) = true := decide_eq_true c6
           clear c6
           by_cases c7 : a0 ≤ 57
           · rw [if_pos c7] at H
             have c7b0 : decide (a0 ≤ 57) = true := decide_eq_true c7
             clear c7
             obtain rfl := Option.some.inj H
             go_enter Tryz.func163, Tryz.ntmps163
             go_wp2
             go_ret
             exact ⟨by first | rfl | (simp; done) | (simp [*]; done), by repeat (first | exact Drawn0.refl _ | apply Drawn0.step)⟩
           · rw [if_neg c7] at H
             have c7b0 : decide (a0 ≤ 57) = false := decide_eq_false c7
             clear c7
             by_cases c8 : a0 = 46
             · rw [if_pos c8] at H
               have c8b0 : (a0 == 46) = true := beq_iff_eq.mpr c8
               have c8b1 : (a0 != 46) = false := bne_eq_false_iff_eq.mpr c8
               clear c8
               obtain rfl := Option.some.inj H
               go_enter Tryz.func163, Tryz.ntmps163
               go_wp2
               go_ret
               exact ⟨by first | rfl | (simp; done) | (simp [*]; done), by repeat (first | exact Drawn0.refl _ | apply Drawn0.step)⟩
             · rw [if_neg c8] at H
               have c8b0 : (a0 == 46) = false := beq_eq_false_iff_ne.mpr c8
               have c8b1 : (a0 != 46) = true := bne_iff_ne.mpr c8
               by_cases c9 : a0 = 95
               · rw [if_pos c9] at H
                 have c9b0 : (a0 == 95) = true := beq_iff_eq.mpr c9
                 have c9b1 : (a0 != 95) = false := bne_eq_false_iff_eq.mpr c9
                 clear c9
                 obtain rfl := Option.some.inj H
                 go_enter Tryz.func163, Tryz.ntmps163
                 go_wp2
                 go_ret
                 exact ⟨by first | rfl | (simp; done) | (simp [*]; done), by repeat (first | exact Drawn0.refl _ | apply Drawn0.step)⟩
               · rw [if_neg c9] at H
                 have c9b0 : (a0 == 95) = false := beq_eq_false_iff_ne.mpr c9
                 have c9b1 : (a0 != 95) = true := bne_iff_ne.mpr c9
                 obtain rfl := Option.some.inj H
                 go_enter Tryz.func163, Tryz.ntmps163
                 go_wp2
                 go_ret
                 exact ⟨by first | rfl | (simp; done) | (simp [*]; done), by repeat (first | exact Drawn0.refl _ | apply Drawn0.step)⟩
         · rw [if_neg c6] at H
           have c6b0 : decide (48 ≤ a0) = false := decide_eq_false c6
           clear c6
           by_cases c10 : a0 = 46
           · rw [if_pos c10] at H
             have c10b0 : (a0 == 46) = true := beq_iff_eq.mpr c10
             have c10b1 : (a0 != 46) = false := bne_eq_false_iff_eq.mpr c10
             clear c10
             obtain rfl := Option.some.inj H
             go_enter Tryz.func163, Tryz.ntmps163
             go_wp2
             go_ret
             exact ⟨by first | rfl | (simp; done) | (simp [*]; done), by repeat (first | exact Drawn0.refl _ | apply Drawn0.step)⟩
           · rw [if_neg c10] at H
             have c10b0 : (a0 == 46) = false := beq_eq_false_iff_ne.mpr c10
             have c10b1 : (a0 != 46) = true := bne_iff_ne.mpr c10
             by_cases c11 : a0 = 95
             · rw [if_pos c11] at H
               have c11b0 : (a0 == 95) = true := beq_iff_eq.mpr c11
               have c11b1 : (a0 != 95) = false := bne_eq_false_iff_eq.mpr c11
               clear c11
               obtain rfl := Option.some.inj H
               go_enter Tryz.func163, Tryz.ntmps163
               go_wp2
               go_ret
               exact ⟨by first | rfl | (simp; done) | (simp [*]; done), by repeat (first | exact Drawn0.refl _ | apply Drawn0.step)⟩
             · rw [if_neg c11] at H
               have c11b0 : (a0 == 95) = false := beq_eq_false_iff_ne.mpr c11
               have c11b1 : (a0 != 95) = true := bne_iff_ne.mpr c11
               obtain rfl := Option.some.inj H
               go_enter Tryz.func163, Tryz.ntmps163
               go_wp2
               go_ret
               exact ⟨by first | rfl | (simp; done) | (simp [*]; done), by repeat (first | exact Drawn0.refl _ | apply Drawn0.step)⟩
     · rw [if_neg c4] at H
       have c4b0 : decide (65 ≤ a0) = false := decide_eq_false c4
       clear c4
       by_cases c12 : a0 ≥ 48
       · rw [if_pos c12] at H
         have c12b0 : decide (48 ≤ a0) = true := decide_eq_true c12
         clear c12
         by_cases c13 : a0 ≤ 57
         · rw [if_pos c13] at H
           have c13b0 : decide (a0 ≤ 57) = true := decide_eq_true c13
           clear c13
           obtain rfl := Option.some.inj H
           go_enter Tryz.func163, Tryz.ntmps163
           go_wp2
           go_ret
           exact ⟨by first | rfl | (simp; done) | (simp [*]; done), by repeat (first | exact Drawn0.refl _ | apply Drawn0.step)⟩
         · rw [if_neg c13] at H
           have c13b0 : decide (a0 ≤ 57) = false := decide_eq_false c13
           clear c13
           by_cases c14 : a0 = 46
           · rw [if_pos c14] at H
             have c14b0 : (a0 == 46) = true := beq_iff_eq.mpr c14
             have c14b1 : (a0 != 46) = false := bne_eq_false_iff_eq.mpr c14
             clear c14
             obtain rfl := Option.some.inj H
             go_enter Tryz.func163, Tryz.ntmps163
             go_wp2
             go_ret
             exact ⟨by first | rfl | (simp; done) | (simp [*]; done), by repeat (first | exact Drawn0.refl _ | apply Drawn0.step)⟩
           · rw [if_neg c14] at H
             have c14b0 : (a0 == 46) = false := beq_eq_false_iff_ne.mpr c14
             have c14b1 : (a0 != 46) = true := bne_iff_ne.mpr c14
             by_cases c15 : a0 = 95
             · rw [if_pos c15] at H
               have c15b0 : (a0 == 95) = true := beq_iff_eq.mpr c15
               have c15b1 : (a0 != 95) = false := bne_eq_false_iff_eq.mpr c15
               clear c15
               obtain rfl := Option.some.inj H
               go_enter Tryz.func163, Tryz.ntmps163
               go_wp2
               go_ret
               exact ⟨by first | rfl | (simp; done) | (simp [*]; done), by repeat (first | exact Drawn0.refl _ | apply Drawn0.step)⟩
             · rw [if_neg c15] at H
               have c15b0 : (a0 == 95) = false := beq_eq_false_iff_ne.mpr c15
               have c15b1 : (a0 != 95) = true := bne_iff_ne.mpr c15
               obtain rfl := Option.some.inj H
               go_enter Tryz.func163, Tryz.ntmps163
               go_wp2
               go_ret
               exact ⟨by first | rfl | (simp; done) | (simp [*]; done), by repeat (first | exact Drawn0.refl _ | apply Drawn0.step)⟩
       · rw [if_neg c12] at H
         have c12b0 : decide (48 ≤ a0) = false := decide_eq_false c12
         clear c12
         by_cases c16 : a0 = 46
         · rw [if_pos c16] at H
           have c16b0 : (a0 == 46) = true := beq_iff_eq.mpr c16
           have c16b1 : (a0 != 46) = false := bne_eq_false_iff_eq.mpr c16
           clear c16
           obtain rfl := Option.some.inj H
           go_enter Tryz.func163, Tryz.ntmps163
           go_wp2
           go_ret
           exact ⟨by first | rfl | (simp; done) | (simp [*]; done), by repeat (first | exact Drawn0.refl _ | apply Drawn0.step)⟩
         · rw [if_neg c16] at H
           have c16b0 : (a0 == 46) = false := beq_eq_false_iff_ne.mpr c16
           have c16b1 : (a0 != 46) = true := bne_iff_ne.mpr c16
           by_cases c17 : a0 = 95
           · rw [if_pos c17] at H
             have c17b0 : (a0 == 95) = true := beq_iff_eq.mpr c17
             have c17b1 : (a0 != 95) = false := bne_eq_false_iff_eq.mpr c17
             clear c17
             obtain rfl := Option.some.inj H
             go_enter Tryz.func163, Tryz.ntmps163
             go_wp2
             go_ret
             exact ⟨by first | rfl | (simp; done) | (simp [*]; done), by repeat (first | exact Drawn0.refl _ | apply Drawn0.step)⟩
           · rw [if_neg c17] at H
             have c17b0 : (a0 == 95) = false := beq_eq_false_iff_ne.mpr c17
             have c17b1 : (a0 != 95) = true := bne_iff_ne.mpr c17
             obtain rfl := Option.some.inj H
             go_enter Tryz.func163, Tryz.ntmps163
             go_wp2
             go_ret
             exact ⟨by first | rfl | (simp; done) | (simp [*]; done), by repeat (first | exact Drawn0.refl _ | apply Drawn0.step)⟩
 · rw [if_neg c2] at H
   have c2b0 : decide (97 ≤ a0) = false := decide_eq_false c2
   clear c2
   by_cases c18 : a0 ≥ 65
   · rw [if_pos c18] at H
     have c18b0 : decide (65 ≤ a0) = true := decide_eq_true c18
     clear c18
     by_cases c19 : a0 ≤ 90
     · rw [if_pos c19] at H
       have c19b0 : decide (a0 ≤ 90) = true := decide_eq_true c19
       clear c19
       obtain rfl := Option.some.inj H
       go_enter Tryz.func163, Tryz.ntmps163
       go_wp2
       go_ret
       exact ⟨by first | rfl | (simp; done) | (simp [*]; done), by repeat (first | exact Drawn0.refl _ | apply Drawn0.step)⟩
     · rw [if_neg c19] at H
       have c19b0 : decide (a0 ≤ 90) = false := decide_eq_false c19
       clear c19
       by_cases c20 : a0 ≥ 48
       · rw [if_pos c20] at H
         have c20b0 : decide (48 ≤ a0) = true := decide_eq_true c20
         clear c20
         by_cases c21 : a0 ≤ 57
         · rw [if_pos c21] at H
           have c21b0 : decide (a0 ≤ 57) = true := decide_eq_true c21
           clear c21
           obtain rfl := Option.some.inj H
           go_enter Tryz.func163, Tryz.ntmps163
           go_wp2
           go_ret
           exact ⟨by first | rfl | (simp; done) | (simp [*]; done), by repeat (first | exact Drawn0.refl _ | apply Drawn0.step)⟩
         · rw [if_neg c21] at H
           have c21b0 : decide (a0 ≤ 57) = false := decide_eq_false c21
           clear c21
           by_cases c22 : a0 = 46
           · rw [if_pos c22] at H
             have c22b0 : (a0 == 46) = true := beq_iff_eq.mpr c22
             have c22b1 : (a0 != 46) = false := bne_eq_false_iff_eq.mpr c22
             clear c22
             obtain rfl := Option.some.inj H
             go_enter Tryz.func163, Tryz.ntmps163
             go_wp2
             go_ret
             exact ⟨by first | rfl | (simp; done) | (simp [*]; done), by repeat (first | exact Drawn0.refl _ | apply Drawn0.step)⟩
           · rw [if_neg c22] at H
             have c22b0 : (a0 == 46) = false := beq_eq_false_iff_ne.mpr c22
             have c22b1 : (a0 != 46) = true := bne_iff_ne.mpr c22
             by_cases c23 : a0 = 95
             · rw [if_pos c23] at H
               have c23b0 : (a0 == 95) = true := beq_iff_eq.mpr c23
               have c23b1 : (a0 != 95) = false := bne_eq_false_iff_eq.mpr c23
               clear c23
               obtain rfl := Option.some.inj H
               go_enter Tryz.func163, Tryz.ntmps163
               go_wp2
               go_ret
               exact ⟨by first | rfl | (simp; done) | (simp [*]; done), by repeat (first | exact Drawn0.refl _ | apply Drawn0.step)⟩
             · rw [if_neg c23] at H
               have c23b0 : (a0 == 95) = false := beq_eq_false_iff_ne.mpr c23
               have c23b1 : (a0 != 95) = true := bne_iff_ne.mpr c23
               obtain rfl := Option.some.inj H
               go_enter Tryz.func163, Tryz.ntmps163
               go_wp2
               go_ret
               exact ⟨by first | rfl | (simp; done) | (simp [*]; done), by repeat (first | exact Drawn0.refl _ | apply Drawn0.step)⟩
       · rw [if_neg c20] at H
         have c20b0 : decide (48 ≤ a0) = false := decide_eq_false c20
         clear c20
         by_cases c24 : a0 = 46
         · rw [if_pos c24] at H
           have c24b0 : (a0 == 46) = true := beq_iff_eq.mpr c24
           have c24b1 : (a0 != 46) = false := bne_eq_false_iff_eq.mpr c24
           clear c24
           obtain rfl := Option.some.inj H
           go_enter Tryz.func163, Tryz.ntmps163
           go_wp2
           go_ret
           exact ⟨by first | rfl | (simp; done) | (simp [*]; done), by repeat (first | exact Drawn0.refl _ | apply Drawn0.step)⟩
         · rw [if_neg c24] at H
           have c24b0 : (a0 == 46) = false := beq_eq_false_iff_ne.mpr c24
           have c24b1 : (a0 != 46) = true := bne_iff_ne.mpr c24
           by_cases c25 : a0 = 95
           · rw [if_pos c25] at H
             have c25b0 : (a0 == 95) = true := beq_iff_eq.mpr c25
             have c25b1 : (a0 != 95) = false := bne_eq_false_iff_eq.mpr c25
             clear c25
             obtain rfl := Option.some.inj H
             go_enter Tryz.func163, Tryz.ntmps163
             go_wp2
             go_ret
             exact ⟨by first | rfl | (simp; done) | (simp [*]; done), by repeat (first | exact Drawn0.refl _ | apply Drawn0.step)⟩
           · rw [if_neg c25] at H
             have c25b0 : (a0 == 95) = false := beq_eq_false_iff_ne.mpr c25
             have c25b1 : (a0 != 95) = true := bne_iff_ne.mpr c25
             obtain rfl := Option.some.inj H
             go_enter Tryz.func163, Tryz.ntmps163
             go_wp2
             go_ret
             exact ⟨by first | rfl | (simp; done) | (simp [*]; done), by repeat (first | exact Drawn0.refl _ | apply Drawn0.step)⟩
   · rw [if_neg c18] at H
     have c18b0 : decide (65 ≤ a0) = false := decide_eq_false c18
     clear c18
     by_cases c26 : a0 ≥ 48
     · rw [if_pos c26] at H
       have c26b0 : decide (48 ≤ a0) = true := decide_eq_true c26
       clear c26
       by_cases c27 : a0 ≤ 57
       · rw [if_pos c27] at H
         have c27b0 : decide (a0 ≤ 57) = true := decide_eq_true c27
         clear c27
         obtain rfl := Option.some.inj H
         go_enter Tryz.func163, Tryz.ntmps163
         go_wp2
         go_ret
         exact ⟨by first | rfl | (simp; done) | (simp [*]; done), by repeat (first | exact Drawn0.refl _ | apply Drawn0.step)⟩
       · rw [if_neg c27] at H
         have c27b0 : decide (a0 ≤ 57) = false := decide_eq_false c27
         clear c27
         by_cases c28 : a0 = 46
         · rw [if_pos c28] at H
           have c28b0 : (a0 == 46) = true := beq_iff_eq.mpr c28
           have c28b1 : (a0 != 46) = false := bne_eq_false_iff_eq.mpr c28
           clear c28
           obtain rfl := Option.some.inj H
           go_enter Tryz.func163, Tryz.ntmps163
           go_wp2
           go_ret
           exact ⟨by first | rfl | (simp; done) | (simp [*]; done), by repeat (first | exact Drawn0.refl _ | apply Drawn0.step)⟩
         · rw [if_neg c28] at H
           have c28b0 : (a0 == 46) = false := beq_eq_false_iff_ne.mpr c28
           have c28b1 : (a0 != 46) = true := bne_iff_ne.mpr c28
           by_cases c29 : a0 = 95
           · rw [if_pos c29] at H
             have c29b0 : (a0 == 95) = true := beq_iff_eq.mpr c29
             have c29b1 : (a0 != 95) = false := bne_eq_false_iff_eq.mpr c29
             clear c29
             obtain rfl := Option.some.inj H
             go_enter Tryz.func163, Tryz.ntmps163
             go_wp2
             go_ret
             exact ⟨by first | rfl | (simp; done) | (simp [*]; done), by repeat (first | exact Drawn0.refl _ | apply Drawn0.step)⟩
           · rw [if_neg c29] at H
             have c29b0 : (a0 == 95) = false := beq_eq_false_iff_ne.mpr c29
             have c29b1 : (a0 != 95) = true := bne_iff_ne.mpr c29
             obtain rfl := Option.some.inj H
             go_enter Tryz.func163, Tryz.ntmps163
             go_wp2
             go_ret
             exact ⟨by first | rfl | (simp; done) | (simp [*]; done), by repeat (first | exact Drawn0.refl _ | apply Drawn0.step)⟩
     · rw [if_neg c26] at H
       have c26b0 : decide (48 ≤ a0) = false := decide_eq_false c26
       clear c26
       by_cases c30 : a0 = 46
       · rw [if_pos c30] at H
         have c30b0 : (a0 == 46) = true := beq_iff_eq.mpr c30
         have c30b1 : (a0 != 46) = false := bne_eq_false_iff_eq.mpr c30
         clear c30
         obtain rfl := Option.some.inj H
         go_enter Tryz.func163, Tryz.ntmps163
         go_wp2
         go_ret
         exact ⟨by first | rfl | (simp; done) | (simp [*]; done), by repeat (first | exact Drawn0.refl _ | apply Drawn0.step)⟩
       · rw [if_neg c30] at H
         have c30b0 : (a0 == 46) = false := beq_eq_false_iff_ne.mpr c30
         have c30b1 : (a0 != 46) = true := bne_iff_ne.mpr c30
         by_cases c31 : a0 = 95
         · rw [if_pos c31] at H
           have c31b0 : (a0 == 95) = true := beq_iff_eq.mpr c31
           have c31b1 : (a0 != 95) = false := bne_eq_false_iff_eq.mpr c31
           clear c31
           obtain rfl := Option.some.inj H
           go_enter Tryz.func163, Tryz.ntmps163
           go_wp2
           go_ret
           exact ⟨by first | rfl | (simp; done) | (simp [*]; done), by repeat (first | exact Drawn0.refl _ | apply Drawn0.step)⟩
         · rw [if_neg c31] at H
           have c31b0 : (a0 == 95) = false := beq_eq_false_iff_ne.mpr c31
           have c31b1 : (a0 != 95) = true := bne_iff_ne.mpr c31
           obtain rfl := Option.some.inj H
           go_enter Tryz.func163, Tryz.ntmps163
           go_wp2
           go_ret
           exact ⟨by first | rfl | (simp; done) | (simp [*]; done), by repeat (first | exact Drawn0.refl _ | apply Drawn0.step)⟩

def path_bad_1.f (a0 : Int) : Option (Bool) := (path_sign.f a0).bind fun t101 => (some (!t101))
set_option maxHeartbeats 8000000 in
set_option maxRecDepth 100000 in
theorem path_bad_1.calls (a0 : Int) (r : Bool) (w : World) (hG : GOK w) (h : path_bad_1.f a0 = some r) :
 Calls Tryz.prog 162 #[.int .i32 a0] w fun e w' => e = .returned (.bool r) ∧ Drawn0 w w' := by
 have HG := Aside0.mk hG
 clear hG
 have H : ((path_sign.f a0).bind fun t101 => (some (!t101))) = some r := h
 clear h
 replace H := Option.bind_eq_some_iff.mp H
 obtain ⟨t101, A20, H⟩ := H
 replace H : (some (!t101)) = some r := H
 have A2 := Aside0.mk A20
 clear A20
 obtain rfl := Option.some.inj H
 go_enter Tryz.func162, Tryz.ntmps162
 go_wp2_with (first | ((with_reducible refine gate_callee (f := 163) rfl ?_); refine goesL_ (some 4) rfl rfl Tryz.func163 (by kernel_rfl) rfl #[.int .i32 a0] rfl (by (try simp only [List.map_toArray, List.map_cons, List.map_nil]); first | done | rfl | (simp only [List.length_drop, List.length_take]; rfl)) ?_; (with_reducible refine (path_sign.calls a0 t101 _ ?side99 A2.out).mono ?_); (case side99 => first | exact HG.out | exact GOK.drewN HG.out _); rintro e w' ⟨rfl, ⟨nd, rfl⟩⟩; refine ⟨_, rfl, ?_⟩))
 go_ret
 exact ⟨by first | rfl | (simp; done) | (simp [*]; done), by repeat (first | exact Drawn0.refl _ | apply Drawn0.step)⟩

def path_Join_1.f (a0 : ByteArray) : Option (Bool) := some (a0.toList == ([] : List UInt8))
set_option maxHeartbeats 8000000 in
set_option maxRecDepth 100000 in
theorem path_Join_1.calls (a0 : ByteArray) (r : Bool) (w : World) (hG : GOK w) (h : path_Join_1.f a0 = some r) :
 Calls Tryz.prog 139 #[.string a0] w fun e w' => e = .returned (.bool r) ∧ Drawn0 w w' := by
 have HG := Aside0.mk hG
 clear hG
 have H : (some (a0.toList == ([] : List UInt8))) = some r := h
 clear h
 obtain rfl := Option.some.inj H
 go_enter Tryz.func139, Tryz.ntmps139
 go_wp2
 go_ret
 exact ⟨by first | rfl | (simp; done) | (simp [*]; done), by repeat (first | exact Drawn0.refl _ | apply Drawn0.step)⟩

end Go.Proofs.YthagibkmfgodgaaGreatDoor.Pa

namespace Go.Proofs
open Go.Shelf
def Tryz.laysM146_ren : Go.Shelf.Ren := ⟨fun | 146 => 141 | 221 => 164 | 268 => 180 | 138 => 181 | 143 => 182 | 195 => 205 | 197 => 206 | 218 => 207 | 219 => 173 | 260 => 220 | 217 => 115 | 225 => 198 | 224 => 199 | 267 => 200 | 266 => 146 | 314 => 217 | n => n, fun | 9 => 9 | 31 => 46 | 3 => 3 | 4 => 4 | 0 => 0 | 105 => 200 | 21 => 21 | 5 => 5 | 46 => 157 | 119 => 221 | 139 => 224 | 138 => 223 | 146 => 212 | 51 => 192 | n => n, fun | 1 => 0 | 3 => 4 | 4 => 5 | n => n⟩
theorem Tryz.laysM146 : Go.Proofs.LaysM.n146 Tryz.prog Tryz.laysM146_ren := {
 mixed := by kernel_rfl
 f138 := Tryz.func181.trans (congrArg some (by kernel_rfl))
 f143 := Tryz.func182.trans (congrArg some (by kernel_rfl))
 f146 := Tryz.func141.trans (congrArg some (by kernel_rfl))
 f195 := Tryz.func205.trans (congrArg some (by kernel_rfl))
 f197 := Tryz.func206.trans (congrArg some (by kernel_rfl))
 f217 := Tryz.func115.trans (congrArg some (by kernel_rfl))
 f218 := Tryz.func207.trans (congrArg some (by kernel_rfl))
 f219 := Tryz.func173.trans (congrArg some (by kernel_rfl))
 f221 := Tryz.func164.trans (congrArg some (by kernel_rfl))
 f224 := Tryz.func199.trans (congrArg some (by kernel_rfl))
 f225 := Tryz.func198.trans (congrArg some (by kernel_rfl))
 f260 := Tryz.func220.trans (congrArg some (by kernel_rfl))
 f266 := Tryz.func146.trans (congrArg some (by kernel_rfl))
 f267 := Tryz.func200.trans (congrArg some (by kernel_rfl))
 f268 := Tryz.func180.trans (congrArg some (by kernel_rfl))
 f314 := Tryz.func217.trans (congrArg some (by kernel_rfl))
 t0 := Tryz.underlying0
 a0 := Tryz.isAgg0
 z0 := Tryz.sizeOf0
 v0 := Tryz.zeroValue0
 t3 := Tryz.underlying3
 a3 := Tryz.isAgg3
 z3 := Tryz.sizeOf3
 v3 := Tryz.zeroValue3
 t4 := Tryz.underlying4
 a4 := Tryz.isAgg4
 z4 := Tryz.sizeOf4
 v4 := Tryz.zeroValue4
 t5 := Tryz.underlying5
 a5 := Tryz.isAgg5
 z5 := Tryz.sizeOf5
 v5 := Tryz.zeroValue5
 t9 := Tryz.underlying9
 a9 := Tryz.isAgg9
 z9 := Tryz.sizeOf9
 v9 := Tryz.zeroValue9
 t21 := Tryz.underlying21
 a21 := Tryz.isAgg21
 z21 := Tryz.sizeOf21
 v21 := Tryz.zeroValue21
 t31 := Tryz.underlying46
 a31 := Tryz.isAgg46
 z31 := Tryz.sizeOf46
 v31 := Tryz.zeroValue46
 t46 := Tryz.underlying157
 a46 := Tryz.isAgg157
 z46 := Tryz.sizeOf157
 v46 := Tryz.zeroValue157
 t51 := Tryz.underlying192
 a51 := Tryz.isAgg192
 z51 := Tryz.sizeOf192
 v51 := Tryz.zeroValue192
 t105 := Tryz.underlying200
 a105 := Tryz.isAgg200
 z105 := Tryz.sizeOf200
 v105 := Tryz.zeroValue200
 t119 := Tryz.underlying221
 a119 := Tryz.isAgg221
 z119 := Tryz.sizeOf221
 t138 := Tryz.underlying223
 a138 := Tryz.isAgg223
 z138 := Tryz.sizeOf223
 v138 := Tryz.zeroValue223
 t139 := Tryz.underlying224
 a139 := Tryz.isAgg224
 z139 := Tryz.sizeOf224
 v139 := Tryz.zeroValue224
 t146 := Tryz.underlying212
 a146 := Tryz.isAgg212
 z146 := Tryz.sizeOf212
 v146 := Tryz.zeroValue212
 g1 := by kernel_rfl
 g3 := by kernel_rfl
 g4 := by kernel_rfl
 i0 := by kernel_rfl
 i3 := by kernel_rfl
 i4 := by kernel_rfl
 i5 := by kernel_rfl
 i9 := by kernel_rfl
 i21 := by kernel_rfl
 i31 := by kernel_rfl
 i46 := by kernel_rfl
 i51 := by kernel_rfl
 i105 := by kernel_rfl
 i138 := by kernel_rfl
 i139 := by kernel_rfl
 i146 := by kernel_rfl
 m1 := by kernel_rfl
 s1_3 := fun w h => Go.Proofs.cell_of_shapedOpen_int (zero := #[.int .i64 0]) (t := 3) h (of_decide_eq_true (by kernel_rfl)) (by kernel_rfl) rfl (by kernel_rfl) (by kernel_rfl) Tryz.underlying3
 m3 := by kernel_rfl
 m4 := by kernel_rfl }
def Tryz.lays145_ren : Go.Shelf.Ren := ⟨fun | 145 => 134 | 220 => 157 | 219 => 173 | 217 => 115 | 225 => 198 | 224 => 199 | 267 => 200 | 266 => 146 | 314 => 217 | n => n, fun | 9 => 9 | 4 => 4 | 59 => 144 | 3 => 3 | 5 => 5 | 46 => 157 | 146 => 212 | 51 => 192 | n => n, fun | 1 => 0 | n => n⟩
theorem Tryz.lays145 : Go.Proofs.Lays.n145 Tryz.prog Tryz.lays145_ren := {
 mixed := by kernel_rfl
 f145 := Tryz.func134.trans (congrArg some (by kernel_rfl))
 f217 := Tryz.func115.trans (congrArg some (by kernel_rfl))
 f219 := Tryz.func173.trans (congrArg some (by kernel_rfl))
 f220 := Tryz.func157.trans (congrArg some (by kernel_rfl))
 f224 := Tryz.func199.trans (congrArg some (by kernel_rfl))
 f225 := Tryz.func198.trans (congrArg some (by kernel_rfl))
 f266 := Tryz.func146.trans (congrArg some (by kernel_rfl))
 f267 := Tryz.func200.trans (congrArg some (by kernel_rfl))
 f314 := Tryz.func217.trans (congrArg some (by kernel_rfl))
 t3 := Tryz.underlying3
 a3 := Tryz.isAgg3
 z3 := Tryz.sizeOf3
 v3 := Tryz.zeroValue3
 t4 := Tryz.underlying4
 a4 := Tryz.isAgg4
 z4 := Tryz.sizeOf4
 v4 := Tryz.zeroValue4
 t5 := Tryz.underlying5
 a5 := Tryz.isAgg5
 z5 := Tryz.sizeOf5
 v5 := Tryz.zeroValue5
 t9 := Tryz.underlying9
 a9 := Tryz.isAgg9
 z9 := Tryz.sizeOf9
 v9 := Tryz.zeroValue9
 t46 := Tryz.underlying157
 a46 := Tryz.isAgg157
 z46 := Tryz.sizeOf157
 v46 := Tryz.zeroValue157
 t51 := Tryz.underlying192
 a51 := Tryz.isAgg192
 z51 := Tryz.sizeOf192
 v51 := Tryz.zeroValue192
 t59 := Tryz.underlying144
 a59 := Tryz.isAgg144
 z59 := Tryz.sizeOf144
 v59 := Tryz.zeroValue144
 t146 := Tryz.underlying212
 a146 := Tryz.isAgg212
 z146 := Tryz.sizeOf212
 v146 := Tryz.zeroValue212
 g1 := by kernel_rfl }
def Tryz.lays156_ren : Go.Shelf.Ren := ⟨fun | 156 => 68 | 165 => 112 | 166 => 113 | 169 => 114 | 240 => 144 | 241 => 145 | 276 => 167 | 277 => 168 | n => n, fun | 31 => 46 | 9 => 9 | 3 => 3 | 4 => 4 | 0 => 0 | 20 => 20 | 72 => 128 | 76 => 132 | 70 => 126 | 37 => 38 | 75 => 131 | 127 => 156 | 164 => 164 | 5 => 5 | 80 => 103 | n => n, fun | n => n⟩
theorem Tryz.lays156 : Go.Proofs.Lays.n156 Tryz.prog Tryz.lays156_ren := {
 mixed := by kernel_rfl
 f156 := Tryz.func68.trans (congrArg some (by kernel_rfl))
 f165 := Tryz.func112.trans (congrArg some (by kernel_rfl))
 f166 := Tryz.func113.trans (congrArg some (by kernel_rfl))
 f169 := Tryz.func114.trans (congrArg some (by kernel_rfl))
 f240 := Tryz.func144.trans (congrArg some (by kernel_rfl))
 f241 := Tryz.func145.trans (congrArg some (by kernel_rfl))
 f276 := Tryz.func167.trans (congrArg some (by kernel_rfl))
 f277 := Tryz.func168.trans (congrArg some (by kernel_rfl))
 t0 := Tryz.underlying0
 a0 := Tryz.isAgg0
 z0 := Tryz.sizeOf0
 v0 := Tryz.zeroValue0
 t3 := Tryz.underlying3
 a3 := Tryz.isAgg3
 z3 := Tryz.sizeOf3
 v3 := Tryz.zeroValue3
 t4 := Tryz.underlying4
 a4 := Tryz.isAgg4
 z4 := Tryz.sizeOf4
 v4 := Tryz.zeroValue4
 t9 := Tryz.underlying9
 a9 := Tryz.isAgg9
 z9 := Tryz.sizeOf9
 v9 := Tryz.zeroValue9
 t20 := Tryz.underlying20
 a20 := Tryz.isAgg20
 z20 := Tryz.sizeOf20
 v20 := Tryz.zeroValue20
 t31 := Tryz.underlying46
 a31 := Tryz.isAgg46
 z31 := Tryz.sizeOf46
 v31 := Tryz.zeroValue46
 t37 := Tryz.underlying38
 a37 := Tryz.isAgg38
 z37 := Tryz.sizeOf38
 v37 := Tryz.zeroValue38
 t70 := Tryz.underlying126
 a70 := Tryz.isAgg126
 z70 := Tryz.sizeOf126
 v70 := Tryz.zeroValue126
 t72 := Tryz.underlying128
 a72 := Tryz.isAgg128
 z72 := Tryz.sizeOf128
 v72 := Tryz.zeroValue128
 t75 := Tryz.underlying131
 a75 := Tryz.isAgg131
 z75 := Tryz.sizeOf131
 v75 := Tryz.zeroValue131
 t76 := Tryz.underlying132
 a76 := Tryz.isAgg132
 z76 := Tryz.sizeOf132
 v76 := Tryz.zeroValue132
 t127 := Tryz.underlying156
 a127 := Tryz.isAgg156
 z127 := Tryz.sizeOf156
 v127 := Tryz.zeroValue156
 t164 := Tryz.underlying164
 a164 := Tryz.isAgg164
 z164 := Tryz.sizeOf164
 v164 := Tryz.zeroValue164 }
def Tryz.laysM171_ren : Go.Shelf.Ren := ⟨fun | 171 => 111 | 243 => 143 | 246 => 166 | 283 => 183 | 284 => 184 | 285 => 185 | 286 => 186 | 129 => 197 | 317 => 208 | 318 => 209 | 319 => 210 | 320 => 211 | 337 => 221 | 338 => 222 | n => n, fun | 3 => 3 | 9 => 9 | 2 => 2 | 4 => 4 | 171 => 178 | 0 => 0 | 53 => 179 | 37 => 38 | 5 => 5 | 173 => 182 | 212 => 203 | 51 => 192 | 20 => 20 | 213 => 204 | 46 => 157 | 232 => 225 | 233 => 226 | n => n, fun | 17 => 3 | 18 => 6 | 19 => 7 | n => n⟩
theorem Tryz.laysM171 : Go.Proofs.LaysM.n171 Tryz.prog Tryz.laysM171_ren := {
 mixed := by kernel_rfl
 f129 := Tryz.func197.trans (congrArg some (by kernel_rfl))
 f171 := Tryz.func111.trans (congrArg some (by kernel_rfl))
 f243 := Tryz.func143.trans (congrArg some (by kernel_rfl))
 f246 := Tryz.func166.trans (congrArg some (by kernel_rfl))
 f283 := Tryz.func183.trans (congrArg some (by kernel_rfl))
 f284 := Tryz.func184.trans (congrArg some (by kernel_rfl))
 f285 := Tryz.func185.trans (congrArg some (by kernel_rfl))
 f286 := Tryz.func186.trans (congrArg some (by kernel_rfl))
 f317 := Tryz.func208.trans (congrArg some (by kernel_rfl))
 f318 := Tryz.func209.trans (congrArg some (by kernel_rfl))
 f319 := Tryz.func210.trans (congrArg some (by kernel_rfl))
 f320 := Tryz.func211.trans (congrArg some (by kernel_rfl))
 f337 := Tryz.func221.trans (congrArg some (by kernel_rfl))
 f338 := Tryz.func222.trans (congrArg some (by kernel_rfl))
 t0 := Tryz.underlying0
 a0 := Tryz.isAgg0
 z0 := Tryz.sizeOf0
 v0 := Tryz.zeroValue0
 t2 := Tryz.underlying2
 a2 := Tryz.isAgg2
 z2 := Tryz.sizeOf2
 v2 := Tryz.zeroValue2
 t3 := Tryz.underlying3
 a3 := Tryz.isAgg3
 z3 := Tryz.sizeOf3
 v3 := Tryz.zeroValue3
 t4 := Tryz.underlying4
 a4 := Tryz.isAgg4
 z4 := Tryz.sizeOf4
 v4 := Tryz.zeroValue4
 t5 := Tryz.underlying5
 a5 := Tryz.isAgg5
 z5 := Tryz.sizeOf5
 v5 := Tryz.zeroValue5
 t9 := Tryz.underlying9
 a9 := Tryz.isAgg9
 z9 := Tryz.sizeOf9
 v9 := Tryz.zeroValue9
 t20 := Tryz.underlying20
 a20 := Tryz.isAgg20
 z20 := Tryz.sizeOf20
 v20 := Tryz.zeroValue20
 t37 := Tryz.underlying38
 a37 := Tryz.isAgg38
 z37 := Tryz.sizeOf38
 v37 := Tryz.zeroValue38
 t46 := Tryz.underlying157
 a46 := Tryz.isAgg157
 z46 := Tryz.sizeOf157
 v46 := Tryz.zeroValue157
 t51 := Tryz.underlying192
 a51 := Tryz.isAgg192
 z51 := Tryz.sizeOf192
 v51 := Tryz.zeroValue192
 t53 := Tryz.underlying179
 a53 := Tryz.isAgg179
 z53 := Tryz.sizeOf179
 v53 := Tryz.zeroValue179
 t171 := Tryz.underlying178
 a171 := Tryz.isAgg178
 z171 := Tryz.sizeOf178
 v171 := Tryz.zeroValue178
 t173 := Tryz.underlying182
 a173 := Tryz.isAgg182
 z173 := Tryz.sizeOf182
 v173 := Tryz.zeroValue182
 t212 := Tryz.underlying203
 a212 := Tryz.isAgg203
 z212 := Tryz.sizeOf203
 v212 := Tryz.zeroValue203
 t213 := Tryz.underlying204
 a213 := Tryz.isAgg204
 z213 := Tryz.sizeOf204
 t232 := Tryz.underlying225
 a232 := Tryz.isAgg225
 z232 := Tryz.sizeOf225
 v232 := Tryz.zeroValue225
 t233 := Tryz.underlying226
 a233 := Tryz.isAgg226
 z233 := Tryz.sizeOf226
 v233 := Tryz.zeroValue226
 g17 := by kernel_rfl
 g18 := by kernel_rfl
 g19 := by kernel_rfl
 i0 := by kernel_rfl
 i2 := by kernel_rfl
 i3 := by kernel_rfl
 i4 := by kernel_rfl
 i5 := by kernel_rfl
 i9 := by kernel_rfl
 i20 := by kernel_rfl
 i37 := by kernel_rfl
 i46 := by kernel_rfl
 i51 := by kernel_rfl
 i53 := by kernel_rfl
 i171 := by kernel_rfl
 i173 := by kernel_rfl
 i212 := by kernel_rfl
 i232 := by kernel_rfl
 i233 := by kernel_rfl
 m17 := by kernel_rfl
 m18 := by kernel_rfl
 m19 := by kernel_rfl }
def Tryz.laysC172_ren : Go.Shelf.Ren := ⟨fun | 172 => 135 | 244 => 158 | 245 => 159 | 247 => 174 | 279 => 175 | 280 => 176 | 281 => 177 | 282 => 178 | 287 => 201 | 316 => 202 | 171 => 111 | 205 => 203 | 321 => 218 | 322 => 219 | 243 => 143 | 246 => 166 | 283 => 183 | 284 => 184 | 285 => 185 | 286 => 186 | 129 => 197 | 317 => 208 | 318 => 209 | 319 => 210 | 320 => 211 | 337 => 221 | 338 => 222 | n => n, fun | 9 => 9 | 3 => 3 | 75 => 131 | 76 => 132 | 4 => 4 | 5 => 5 | 167 => 170 | 37 => 38 | 0 => 0 | 85 => 171 | 2 => 2 | 168 => 173 | 53 => 179 | 175 => 194 | 46 => 157 | 210 => 197 | 127 => 156 | 145 => 217 | 143 => 215 | 21 => 21 | 171 => 178 | 173 => 182 | 212 => 203 | 51 => 192 | 20 => 20 | 213 => 204 | 232 => 225 | 233 => 226 | 80 => 103 | n => n, fun | 15 => 1 | 16 => 2 | 17 => 3 | 18 => 6 | 19 => 7 | n => n⟩
theorem Tryz.laysC172 : Go.Proofs.LaysC.n172 Tryz.prog Tryz.laysC172_ren := {
 mixed := by kernel_rfl
 f129 := Tryz.func197.trans (congrArg some (by kernel_rfl))
 f171 := Tryz.func111.trans (congrArg some (by kernel_rfl))
 f172 := Tryz.func135.trans (congrArg some (by kernel_rfl))
 f205 := Tryz.func203.trans (congrArg some (by kernel_rfl))
 f243 := Tryz.func143.trans (congrArg some (by kernel_rfl))
 f244 := Tryz.func158.trans (congrArg some (by kernel_rfl))
 f245 := Tryz.func159.trans (congrArg some (by kernel_rfl))
 f246 := Tryz.func166.trans (congrArg some (by kernel_rfl))
 f247 := Tryz.func174.trans (congrArg some (by kernel_rfl))
 f279 := Tryz.func175.trans (congrArg some (by kernel_rfl))
 f280 := Tryz.func176.trans (congrArg some (by kernel_rfl))
 f281 := Tryz.func177.trans (congrArg some (by kernel_rfl))
 f282 := Tryz.func178.trans (congrArg some (by kernel_rfl))
 f283 := Tryz.func183.trans (congrArg some (by kernel_rfl))
 f284 := Tryz.func184.trans (congrArg some (by kernel_rfl))
 f285 := Tryz.func185.trans (congrArg some (by kernel_rfl))
 f286 := Tryz.func186.trans (congrArg some (by kernel_rfl))
 f287 := Tryz.func201.trans (congrArg some (by kernel_rfl))
 f316 := Tryz.func202.trans (congrArg some (by kernel_rfl))
 f317 := Tryz.func208.trans (congrArg some (by kernel_rfl))
 f318 := Tryz.func209.trans (congrArg some (by kernel_rfl))
 f319 := Tryz.func210.trans (congrArg some (by kernel_rfl))
 f320 := Tryz.func211.trans (congrArg some (by kernel_rfl))
 f321 := Tryz.func218.trans (congrArg some (by kernel_rfl))
 f322 := Tryz.func219.trans (congrArg some (by kernel_rfl))
 f337 := Tryz.func221.trans (congrArg some (by kernel_rfl))
 f338 := Tryz.func222.trans (congrArg some (by kernel_rfl))
 t0 := Tryz.underlying0
 a0 := Tryz.isAgg0
 z0 := Tryz.sizeOf0
 v0 := Tryz.zeroValue0
 t2 := Tryz.underlying2
 a2 := Tryz.isAgg2
 z2 := Tryz.sizeOf2
 v2 := Tryz.zeroValue2
 t3 := Tryz.underlying3
 a3 := Tryz.isAgg3
 z3 := Tryz.sizeOf3
 v3 := Tryz.zeroValue3
 t4 := Tryz.underlying4
 a4 := Tryz.isAgg4
 z4 := Tryz.sizeOf4
 v4 := Tryz.zeroValue4
 t5 := Tryz.underlying5
 a5 := Tryz.isAgg5
 z5 := Tryz.sizeOf5
 v5 := Tryz.zeroValue5
 t9 := Tryz.underlying9
 a9 := Tryz.isAgg9
 z9 := Tryz.sizeOf9
 v9 := Tryz.zeroValue9
 t20 := Tryz.underlying20
 a20 := Tryz.isAgg20
 z20 := Tryz.sizeOf20
 v20 := Tryz.zeroValue20
 t21 := Tryz.underlying21
 a21 := Tryz.isAgg21
 z21 := Tryz.sizeOf21
 v21 := Tryz.zeroValue21
 t37 := Tryz.underlying38
 a37 := Tryz.isAgg38
 z37 := Tryz.sizeOf38
 v37 := Tryz.zeroValue38
 t46 := Tryz.underlying157
 a46 := Tryz.isAgg157
 z46 := Tryz.sizeOf157
 v46 := Tryz.zeroValue157
 t51 := Tryz.underlying192
 a51 := Tryz.isAgg192
 z51 := Tryz.sizeOf192
 v51 := Tryz.zeroValue192
 t53 := Tryz.underlying179
 a53 := Tryz.isAgg179
 z53 := Tryz.sizeOf179
 v53 := Tryz.zeroValue179
 t75 := Tryz.underlying131
 a75 := Tryz.isAgg131
 z75 := Tryz.sizeOf131
 v75 := Tryz.zeroValue131
 t76 := Tryz.underlying132
 a76 := Tryz.isAgg132
 z76 := Tryz.sizeOf132
 v76 := Tryz.zeroValue132
 t85 := Tryz.underlying171
 a85 := Tryz.isAgg171
 z85 := Tryz.sizeOf171
 v85 := Tryz.zeroValue171
 t127 := Tryz.underlying156
 a127 := Tryz.isAgg156
 z127 := Tryz.sizeOf156
 v127 := Tryz.zeroValue156
 t143 := Tryz.underlying215
 a143 := Tryz.isAgg215
 z143 := Tryz.sizeOf215
 v143 := Tryz.zeroValue215
 t145 := Tryz.underlying217
 a145 := Tryz.isAgg217
 z145 := Tryz.sizeOf217
 v145 := Tryz.zeroValue217
 t167 := Tryz.underlying170
 a167 := Tryz.isAgg170
 z167 := Tryz.sizeOf170
 v167 := Tryz.zeroValue170
 t168 := Tryz.underlying173
 a168 := Tryz.isAgg173
 z168 := Tryz.sizeOf173
 v168 := Tryz.zeroValue173
 t171 := Tryz.underlying178
 a171 := Tryz.isAgg178
 z171 := Tryz.sizeOf178
 v171 := Tryz.zeroValue178
 t173 := Tryz.underlying182
 a173 := Tryz.isAgg182
 z173 := Tryz.sizeOf182
 v173 := Tryz.zeroValue182
 t175 := Tryz.underlying194
 a175 := Tryz.isAgg194
 z175 := Tryz.sizeOf194
 v175 := Tryz.zeroValue194
 t210 := Tryz.underlying197
 a210 := Tryz.isAgg197
 z210 := Tryz.sizeOf197
 v210 := Tryz.zeroValue197
 t212 := Tryz.underlying203
 a212 := Tryz.isAgg203
 z212 := Tryz.sizeOf203
 v212 := Tryz.zeroValue203
 t213 := Tryz.underlying204
 a213 := Tryz.isAgg204
 z213 := Tryz.sizeOf204
 t232 := Tryz.underlying225
 a232 := Tryz.isAgg225
 z232 := Tryz.sizeOf225
 v232 := Tryz.zeroValue225
 t233 := Tryz.underlying226
 a233 := Tryz.isAgg226
 z233 := Tryz.sizeOf226
 v233 := Tryz.zeroValue226
 g15 := by kernel_rfl
 g16 := by kernel_rfl
 g17 := by kernel_rfl
 g18 := by kernel_rfl
 g19 := by kernel_rfl
 t80 := Tryz.underlying103
 a80 := Tryz.isAgg103
 z80 := Tryz.sizeOf103
 v80 := Tryz.zeroValue103
 i0 := by kernel_rfl
 i2 := by kernel_rfl
 i3 := by kernel_rfl
 i4 := by kernel_rfl
 i5 := by kernel_rfl
 i9 := by kernel_rfl
 i20 := by kernel_rfl
 i21 := by kernel_rfl
 i37 := by kernel_rfl
 i46 := by kernel_rfl
 i51 := by kernel_rfl
 i53 := by kernel_rfl
 i75 := by kernel_rfl
 i76 := by kernel_rfl
 i80 := by kernel_rfl
 i85 := by kernel_rfl
 i127 := by kernel_rfl
 i143 := by kernel_rfl
 i145 := by kernel_rfl
 i167 := by kernel_rfl
 i168 := by kernel_rfl
 i171 := by kernel_rfl
 i173 := by kernel_rfl
 i175 := by kernel_rfl
 i210 := by kernel_rfl
 i212 := by kernel_rfl
 i232 := by kernel_rfl
 i233 := by kernel_rfl
 m15 := by kernel_rfl
 m16 := by kernel_rfl
 m17 := by kernel_rfl
 m18 := by kernel_rfl
 m19 := by kernel_rfl
 c0 := by kernel_rfl
 c2 := by kernel_rfl
 c3 := by kernel_rfl
 c4 := by kernel_rfl
 c5 := by kernel_rfl
 c9 := by kernel_rfl
 c20 := by kernel_rfl
 c21 := by kernel_rfl
 c37 := by kernel_rfl
 c46 := by kernel_rfl
 c51 := by kernel_rfl
 c53 := by kernel_rfl
 c75 := by kernel_rfl
 c76 := by kernel_rfl
 c80 := by kernel_rfl
 c85 := by kernel_rfl
 c127 := by kernel_rfl
 c143 := by kernel_rfl
 c145 := by kernel_rfl
 c167 := by kernel_rfl
 c168 := by kernel_rfl
 c171 := by kernel_rfl
 c173 := by kernel_rfl
 c175 := by kernel_rfl
 c210 := by kernel_rfl
 c212 := by kernel_rfl
 c213 := by kernel_rfl
 c232 := by kernel_rfl
 c233 := by kernel_rfl }
def Tryz.laysGw17_ren : Go.Shelf.Ren := ⟨fun | 17 => 161 | 15 => 179 | 20 => 204 | n => n, fun | 9 => 9 | 23 => 161 | 4 => 4 | 3 => 3 | 0 => 0 | 21 => 21 | n => n, fun | n => n⟩
theorem Tryz.laysGw17 : Go.Proofs.LaysGw.n17 Tryz.prog Tryz.laysGw17_ren := {
 mixed := by kernel_rfl
 f15 := Tryz.func179.trans (congrArg some (by kernel_rfl))
 f17 := Tryz.func161.trans (congrArg some (by kernel_rfl))
 f20 := Tryz.func204.trans (congrArg some (by kernel_rfl))
 t0 := Tryz.underlying0
 a0 := Tryz.isAgg0
 z0 := Tryz.sizeOf0
 v0 := Tryz.zeroValue0
 i0 := by kernel_rfl
 t3 := Tryz.underlying3
 a3 := Tryz.isAgg3
 z3 := Tryz.sizeOf3
 v3 := Tryz.zeroValue3
 i3 := by kernel_rfl
 t4 := Tryz.underlying4
 a4 := Tryz.isAgg4
 z4 := Tryz.sizeOf4
 v4 := Tryz.zeroValue4
 i4 := by kernel_rfl
 t9 := Tryz.underlying9
 a9 := Tryz.isAgg9
 z9 := Tryz.sizeOf9
 v9 := Tryz.zeroValue9
 i9 := by kernel_rfl
 t21 := Tryz.underlying21
 a21 := Tryz.isAgg21
 z21 := Tryz.sizeOf21
 v21 := Tryz.zeroValue21
 i21 := by kernel_rfl
 t23 := Tryz.underlying161
 a23 := Tryz.isAgg161
 z23 := Tryz.sizeOf161
 v23 := Tryz.zeroValue161
 i23 := by kernel_rfl }
def Tryz.laysDel_ren : Go.Shelf.Ren := ⟨fun | 10 => 140 | 6 => 160 | n => n, fun | 22 => 46 | 23 => 9 | 25 => 31 | 3 => 3 | 4 => 4 | 0 => 0 | n => n, fun | n => n⟩
theorem Tryz.laysDel : Go.Proofs.SlLaysH.n10 Tryz.prog Tryz.laysDel_ren := {
 mixed := by kernel_rfl
 f6 := ⟨Tryz.f160.name, by decide, Tryz.func160.trans (congrArg some (by kernel_rfl))⟩
 f10 := ⟨Tryz.f140.name, by decide, Tryz.func140.trans (congrArg some (by kernel_rfl))⟩
 t0 := Tryz.underlying0
 a0 := Tryz.isAgg0
 z0 := Tryz.sizeOf0
 v0 := Tryz.zeroValue0
 t3 := Tryz.underlying3
 a3 := Tryz.isAgg3
 z3 := Tryz.sizeOf3
 v3 := Tryz.zeroValue3
 t4 := Tryz.underlying4
 a4 := Tryz.isAgg4
 z4 := Tryz.sizeOf4
 v4 := Tryz.zeroValue4
 t22 := Tryz.underlying46
 a22 := Tryz.isAgg46
 z22 := Tryz.sizeOf46
 v22 := Tryz.zeroValue46
 a23 := Tryz.isAgg9
 z23 := Tryz.sizeOf9
 t25 := Tryz.underlying31
 a25 := Tryz.isAgg31
 z25 := Tryz.sizeOf31
 v25 := Tryz.zeroValue31 }
def Tryz.laysClone_ren : Go.Shelf.Ren := ⟨fun | 16 => 94 | n => n, fun | 24 => 46 | 9 => 9 | 4 => 4 | n => n, fun | n => n⟩
theorem Tryz.laysClone : Go.Proofs.Lays2.n16 Tryz.prog Tryz.laysClone_ren := {
 mixed := by kernel_rfl
 f16 := Tryz.func94.trans (congrArg some (by kernel_rfl))
 t4 := Tryz.underlying4
 a4 := Tryz.isAgg4
 z4 := Tryz.sizeOf4
 v4 := Tryz.zeroValue4
 t9 := Tryz.underlying9
 a9 := Tryz.isAgg9
 z9 := Tryz.sizeOf9
 v9 := Tryz.zeroValue9
 t24 := Tryz.underlying46
 a24 := Tryz.isAgg46
 z24 := Tryz.sizeOf46
 v24 := Tryz.zeroValue46
 i9 := by kernel_rfl }
def Tryz.laysKeys_ren : Go.Shelf.Ren := ⟨fun | 7 => 142 | 10 => 165 | n => n, fun | 23 => 147 | 26 => 9 | 3 => 9 | 28 => 140 | 0 => 0 | 27 => 139 | 33 => 31 | 4 => 4 | n => n, fun | n => n⟩
theorem Tryz.laysKeys : Go.Proofs.SlLaysZ.n7 Tryz.prog Tryz.laysKeys_ren := {
 mixed := by kernel_rfl
 f7 := ⟨Tryz.f142.name, by decide, Tryz.func142.trans (congrArg some (by kernel_rfl))⟩
 f10 := ⟨Tryz.f165.name, by decide, Tryz.func165.trans (congrArg some (by kernel_rfl))⟩
 t0 := Tryz.underlying0
 a0 := Tryz.isAgg0
 z0 := Tryz.sizeOf0
 v0 := Tryz.zeroValue0
 t4 := Tryz.underlying4
 a4 := Tryz.isAgg4
 z4 := Tryz.sizeOf4
 v4 := Tryz.zeroValue4
 t23 := Tryz.underlying147
 a23 := Tryz.isAgg147
 z23 := Tryz.sizeOf147
 v23 := Tryz.zeroValue147
 t26 := Tryz.underlying9
 a26 := Tryz.isAgg9
 z26 := Tryz.sizeOf9
 v26 := Tryz.zeroValue9
 t27 := Tryz.underlying139
 a27 := Tryz.isAgg139
 z27 := Tryz.sizeOf139
 v27 := Tryz.zeroValue139
 t28 := Tryz.underlying140
 a28 := Tryz.isAgg140
 z28 := Tryz.sizeOf140
 v28 := Tryz.zeroValue140
 t33 := Tryz.underlying31
 a33 := Tryz.isAgg31
 z33 := Tryz.sizeOf31
 v33 := Tryz.zeroValue31 }
def Tryz.laysSorted_ren : Go.Shelf.Ren := ⟨fun | 6 => 130 | 8 => 153 | 9 => 154 | 11 => 169 | 13 => 171 | 12 => 170 | 23 => 196 | 24 => 197 | 14 => 187 | 15 => 188 | 16 => 189 | 17 => 190 | 18 => 191 | 19 => 192 | 20 => 193 | 21 => 194 | 22 => 195 | 25 => 212 | 26 => 213 | 27 => 214 | 28 => 215 | 29 => 216 | 30 => 96 | 31 => 223 | n => n, fun | 26 => 9 | 28 => 140 | 24 => 46 | 0 => 0 | 3 => 3 | 37 => 157 | 48 => 192 | 50 => 179 | 4 => 4 | 40 => 186 | 39 => 185 | 45 => 113 | 5 => 5 | 9 => 9 | 51 => 206 | 55 => 210 | 57 => 218 | 58 => 219 | 33 => 31 | n => n, fun | n => n⟩
theorem Tryz.laysSorted : Go.Proofs.SlLaysZ.n6 Tryz.prog Tryz.laysSorted_ren := {
 mixed := by kernel_rfl
 f6 := ⟨Tryz.f130.name, by decide, Tryz.func130.trans (congrArg some (by kernel_rfl))⟩
 f8 := ⟨Tryz.f153.name, by decide, Tryz.func153.trans (congrArg some (by kernel_rfl))⟩
 f11 := ⟨Tryz.f169.name, by decide, Tryz.func169.trans (congrArg some (by kernel_rfl))⟩
 t0 := Tryz.underlying0
 a0 := Tryz.isAgg0
 z0 := Tryz.sizeOf0
 v0 := Tryz.zeroValue0
 t24 := Tryz.underlying46
 a24 := Tryz.isAgg46
 z24 := Tryz.sizeOf46
 v24 := Tryz.zeroValue46
 t26 := Tryz.underlying9
 a26 := Tryz.isAgg9
 z26 := Tryz.sizeOf9
 v26 := Tryz.zeroValue9
 t28 := Tryz.underlying140
 a28 := Tryz.isAgg140
 z28 := Tryz.sizeOf140
 v28 := Tryz.zeroValue140
 i26 := by kernel_rfl }
def Tryz.laysSort_ren : Go.Shelf.Ren := ⟨fun | 6 => 154 | 8 => 171 | 9 => 170 | 19 => 196 | 20 => 197 | 21 => 187 | 22 => 188 | 23 => 189 | 24 => 190 | 25 => 191 | 26 => 192 | 27 => 193 | 28 => 194 | 29 => 195 | 36 => 212 | 31 => 213 | 32 => 214 | 37 => 215 | 38 => 216 | 39 => 96 | 41 => 223 | n => n, fun | 27 => 46 | 29 => 9 | 3 => 3 | 32 => 157 | 26 => 46 | 0 => 0 | 44 => 192 | 46 => 179 | 4 => 4 | 36 => 186 | 35 => 185 | 41 => 113 | 5 => 5 | 9 => 9 | 53 => 206 | 57 => 210 | 63 => 218 | 64 => 219 | n => n, fun | n => n⟩
theorem Tryz.laysSort : Go.Proofs.SlLaysM.n6 Tryz.prog Tryz.laysSort_ren := {
 mixed := by kernel_rfl
 f6 := ⟨Tryz.f154.name, by decide, Tryz.func154.trans (congrArg some (by kernel_rfl))⟩
 f8 := Tryz.func171.trans (congrArg some (by kernel_rfl))
 f9 := ⟨Tryz.f170.name, by decide, Tryz.func170.trans (congrArg some (by kernel_rfl))⟩
 f19 := Tryz.func196.trans (congrArg some (by kernel_rfl))
 f20 := Tryz.func197.trans (congrArg some (by kernel_rfl))
 f21 := ⟨Tryz.f187.name, by decide, Tryz.func187.trans (congrArg some (by kernel_rfl))⟩
 f22 := ⟨Tryz.f188.name, by decide, Tryz.func188.trans (congrArg some (by kernel_rfl))⟩
 f23 := ⟨Tryz.f189.name, by decide, Tryz.func189.trans (congrArg some (by kernel_rfl))⟩
 f24 := ⟨Tryz.f190.name, by decide, Tryz.func190.trans (congrArg some (by kernel_rfl))⟩
 f25 := ⟨Tryz.f191.name, by decide, Tryz.func191.trans (congrArg some (by kernel_rfl))⟩
 f26 := ⟨Tryz.f192.name, by decide, Tryz.func192.trans (congrArg some (by kernel_rfl))⟩
 f27 := ⟨Tryz.f193.name, by decide, Tryz.func193.trans (congrArg some (by kernel_rfl))⟩
 f28 := ⟨Tryz.f194.name, by decide, Tryz.func194.trans (congrArg some (by kernel_rfl))⟩
 f29 := ⟨Tryz.f195.name, by decide, Tryz.func195.trans (congrArg some (by kernel_rfl))⟩
 f31 := Tryz.func213.trans (congrArg some (by kernel_rfl))
 f32 := Tryz.func214.trans (congrArg some (by kernel_rfl))
 f36 := ⟨Tryz.f212.name, by decide, Tryz.func212.trans (congrArg some (by kernel_rfl))⟩
 f37 := ⟨Tryz.f215.name, by decide, Tryz.func215.trans (congrArg some (by kernel_rfl))⟩
 f38 := ⟨Tryz.f216.name, by decide, Tryz.func216.trans (congrArg some (by kernel_rfl))⟩
 f39 := ⟨Tryz.f96.name, by decide, Tryz.func96.trans (congrArg some (by kernel_rfl))⟩
 f41 := ⟨Tryz.f223.name, by decide, Tryz.func223.trans (congrArg some (by kernel_rfl))⟩
 t0 := Tryz.underlying0
 a0 := Tryz.isAgg0
 z0 := Tryz.sizeOf0
 v0 := Tryz.zeroValue0
 t3 := Tryz.underlying3
 a3 := Tryz.isAgg3
 z3 := Tryz.sizeOf3
 v3 := Tryz.zeroValue3
 t4 := Tryz.underlying4
 a4 := Tryz.isAgg4
 z4 := Tryz.sizeOf4
 v4 := Tryz.zeroValue4
 t5 := Tryz.underlying5
 a5 := Tryz.isAgg5
 z5 := Tryz.sizeOf5
 v5 := Tryz.zeroValue5
 t9 := Tryz.underlying9
 a9 := Tryz.isAgg9
 z9 := Tryz.sizeOf9
 v9 := Tryz.zeroValue9
 t26 := Tryz.underlying46
 a26 := Tryz.isAgg46
 z26 := Tryz.sizeOf46
 v26 := Tryz.zeroValue46
 t27 := Tryz.underlying46
 a27 := Tryz.isAgg46
 z27 := Tryz.sizeOf46
 v27 := Tryz.zeroValue46
 t29 := Tryz.underlying9
 a29 := Tryz.isAgg9
 z29 := Tryz.sizeOf9
 v29 := Tryz.zeroValue9
 t32 := Tryz.underlying157
 a32 := Tryz.isAgg157
 z32 := Tryz.sizeOf157
 v32 := Tryz.zeroValue157
 t35 := Tryz.underlying185
 a35 := Tryz.isAgg185
 z35 := Tryz.sizeOf185
 v35 := Tryz.zeroValue185
 t36 := Tryz.underlying186
 a36 := Tryz.isAgg186
 z36 := Tryz.sizeOf186
 v36 := Tryz.zeroValue186
 t41 := Tryz.underlying113
 a41 := Tryz.isAgg113
 z41 := Tryz.sizeOf113
 v41 := Tryz.zeroValue113
 t44 := Tryz.underlying192
 a44 := Tryz.isAgg192
 z44 := Tryz.sizeOf192
 v44 := Tryz.zeroValue192
 t46 := Tryz.underlying179
 a46 := Tryz.isAgg179
 z46 := Tryz.sizeOf179
 v46 := Tryz.zeroValue179
 t53 := Tryz.underlying206
 a53 := Tryz.isAgg206
 z53 := Tryz.sizeOf206
 v53 := Tryz.zeroValue206
 t57 := Tryz.underlying210
 a57 := Tryz.isAgg210
 z57 := Tryz.sizeOf210
 v57 := Tryz.zeroValue210
 t63 := Tryz.underlying218
 a63 := Tryz.isAgg218
 z63 := Tryz.sizeOf218
 v63 := Tryz.zeroValue218
 t64 := Tryz.underlying219
 a64 := Tryz.isAgg219
 z64 := Tryz.sizeOf219
 v64 := Tryz.zeroValue219 }
end Go.Proofs

namespace Go.Proofs.YthagibkmfgodgaaGreatDoor.X
open Go.RowKit Go.Proofs.YthagibkmfgodgaaGreatDoorW.PrintWords

def strings_Split.f (a0 a1 : ByteArray) : Option (List ByteArray) :=
 match a1.data.toList with
 | [c] => if a0.size < 4294967281 then some ((cutAt c a0.data.toList).map mk) else none
 | _ => none
theorem strings_Split.one (s : ByteArray) (c : UInt8) (hs : s.size < 4294967281) : strings_Split.f s (⟨#[c]⟩ : ByteArray) = some ((cutAt c s.data.toList).map mk) := by
 unfold strings_Split.f
 show (if s.size < 4294967281 then some _ else none) = _
 rw [if_pos hs]
theorem cutAt_length_le (c : UInt8) : ∀ l, (cutAt c l).length ≤ l.length + 1
 | [] => by simp [cutAt]
 | x :: r => by
  have := cutAt_length_le c r
  unfold cutAt
  split
  · simp; omega
  · split
    · simp
    · rename_i h; rw [h] at this; simp at this ⊢; omega
set_option maxHeartbeats 1000000 in
theorem strings_Split.calls (a0 a1 : ByteArray) (r : List ByteArray) (w : World) (hG : GOK w) (h : strings_Split.f a0 a1 = some r) :
 Calls Tryz.prog 141 #[.string a0, .string a1] w fun e w' => ∃ v0_ : Value, e = .returned v0_ ∧ Kd.R Kd.string 9 w' w.heap.size (fun _ => True) v0_ r ∧ Below w.heap.size w w' := by
 unfold strings_Split.f at h
 split at h
 · rename_i c hc
   have hs : a0.size < 4294967281 := by
    by_cases hs : a0.size < 4294967281
    · exact hs
    · rw [if_neg hs] at h; cases h
   rw [if_pos hs] at h
   have hr := Option.some.inj h
   have ha1 : a1 = mk [c] := by rw [← data_mk a1, hc]
   subst ha1
   obtain ⟨m, hm⟩ := hG.maxLen
   have L := Go.Proofs.Tryz.laysM146
   have hcall := Go.Proofs.Any.strings_Split { L with } L.i9 a0 (mk [c]) m w hs hm (by rw [mk_size]; simp)
   change Calls Tryz.prog 141 _ _ _ at hcall
   refine hcall.mono fun e w' ⟨he, hw⟩ => ?_
   rw [split_one] at hw
   have hlen : Lib.countB a0 (mk [c]) + 1 = r.length := by
    rw [← hr, List.length_map, ← Lib.splitB_all (mk [c]) (by rw [mk_size]; simp) 0 _ a0 rfl, split_one, List.length_map]
   have hle : r.length ≤ a0.size + 1 := by rw [← hr, List.length_map, Lib.size_eq]; exact cutAt_length_le c _
   rw [hr] at hw
   subst hw
   refine ⟨_, he, ?_, (Below.refl _ _).alloc (Nat.le_refl _) _⟩
   rw [hlen]
   exact Kd.R_of_own (own_lit_of (enc := Value.string) w w.heap.size 9 r (Nat.le_refl _) (by omega)) (fun _ _ => trivial)
 · cases h

def strings_Cut.f (a0 a1 : ByteArray) : Option (ByteArray × ByteArray × Bool) :=
 if a0.size < 4294967281 then some (mk (Lib.cut a0.data.toList a1.data.toList).1, mk (Lib.cut a0.data.toList a1.data.toList).2.1, (Lib.cut a0.data.toList a1.data.toList).2.2) else none
theorem strings_Cut.calls (a0 a1 r1 r2 : ByteArray) (r3 : Bool) (w : World) (hG : GOK w) (h : strings_Cut.f a0 a1 = some (r1, r2, r3)) :
 Calls Tryz.prog 134 #[.string a0, .string a1] w fun e w' => e = .returned (.tuple #[.string r1, .string r2, .bool r3]) ∧ Below w.heap.size w w' := by
 unfold strings_Cut.f at h
 split at h
 · rename_i hs
   have h' := Option.some.inj h
   simp only [Prod.mk.injEq] at h'
   obtain ⟨rfl, rfl, rfl⟩ := h'
   obtain ⟨m, hm⟩ := hG.maxLen
   have hcall := Go.Proofs.Any.strings_Cut Go.Proofs.Tryz.lays145 a0 a1 m w hs hm
   change Calls Tryz.prog 134 _ _ _ at hcall
   refine hcall.mono fun e w' ⟨he, n, hw⟩ => ⟨he, ?_⟩
   subst hw
   exact pw_below_drewN (Below.refl _ _) n
 · cases h

theorem builderExtra : Go.Proofs.Builder.Extra Tryz.prog Go.Proofs.Tryz.lays156_ren := {
 sizeBuilder := by kernel_rfl
 liesBuilder := by kernel_rfl
 t5 := Tryz.underlying5
 a5 := Tryz.isAgg5
 z5 := Tryz.sizeOf5
 v5 := Tryz.zeroValue5
 infoByte := by kernel_rfl
 cellsByte := by kernel_rfl
 sizeByte := by kernel_rfl
 neB5 := by decide }
def strings_Join.f (l0 : List ByteArray) (a1 : ByteArray) : Option ByteArray :=
 if l0.length ≤ 140737488355328 ∧ (Lib.join (l0.map (·.data.toList)) a1.data.toList).length ≤ 140737488355328 then some (mk (Lib.join (l0.map (·.data.toList)) a1.data.toList)) else none
theorem strings_Join.calls (A0 : Option Addr) (c0 : Nat) (l0 : List ByteArray) (a1 : ByteArray) (r : ByteArray) (w : World) (_hG : GOK w) (hr0 : Kd.C Kd.string w A0 l0.length l0) (hc0 : l0.length ≤ c0) (h : strings_Join.f l0 a1 = some r) :
 Calls Tryz.prog 68 #[.slice A0 l0.length c0, .string a1] w fun e w' => e = .returned (.string r) ∧ Below w.heap.size w w' := by
 unfold strings_Join.f at h
 split at h
 · rename_i hs
   have hr := Option.some.inj h
   rcases row_open hr0 with rfl | ⟨b, o, rfl, hb, hcell⟩
   · have hcall := Go.Proofs.Any.strings_Join_none Go.Proofs.Tryz.lays156 builderExtra A0 c0 a1 w
     change Calls Tryz.prog 68 _ _ _ at hcall
     refine hcall.mono fun e w' ⟨he, hw⟩ => ?_
     subst hw
     refine ⟨?_, Below.refl _ _⟩
     rw [he, ← hr]
     rfl
   · have hcall := Go.Proofs.Any.strings_Join Go.Proofs.Tryz.lays156 builderExtra b o c0 l0 a1 w (fun j x hx => by
      obtain ⟨hj, he⟩ := List.getElem?_eq_some_iff.1 hx
      have := hcell j hj
      rwa [show l0.getD j ByteArray.empty = x by simp [List.getD_eq_getElem?_getD, hx]] at this) hb hs.1 hc0 hs.2
     change Calls Tryz.prog 68 _ _ _ at hcall
     refine hcall.mono fun e w' ⟨he, hw⟩ => ⟨?_, hw⟩
     rw [he, ← hr]
     rfl
 · cases h

def strconv_Itoa.f (a0 : Int) : Option ByteArray := if -9223372036854775808 ≤ a0 ∧ a0 ≤ 9223372036854775807 then some (mk (Lib.itoa a0)) else none
theorem strconv_Itoa.calls (a0 : Int) (r : ByteArray) (w : World) (hG : GOK w) (h : strconv_Itoa.f a0 = some r) :
 Calls Tryz.prog 111 #[.int .i64 a0] w fun e w' => e = .returned (.string r) ∧ Below w.heap.size w w' := by
 unfold strconv_Itoa.f at h
 split at h
 · rename_i hs
   have hr := Option.some.inj h
   have hcall := Go.Proofs.Any.strconv_Itoa Go.Proofs.Tryz.laysM171 a0 hs.1 hs.2 w hG.pow10
   change Calls Tryz.prog 111 _ _ _ at hcall
   refine hcall.mono fun e w' ⟨he, k, os, hw⟩ => ⟨?_, ?_⟩
   · rw [he, ← hr]; rfl
   · subst hw
     exact Go.Proofs.below_grown w k os
 · cases h

end Go.Proofs.YthagibkmfgodgaaGreatDoor.X

namespace Go.Proofs.YthagibkmfgodgaaGreatDoor.Pb
open Go.Proofs.YthagibkmfgodgaaGreatDoor.X
open Go.RowKit Go.Proofs.YthagibkmfgodgaaGreatDoorW.PrintWords Go.Proofs.YthagibkmfgodgaaGreatDoorW.PrintLast Go.Proofs.YthagibkmfgodgaaGreatDoorW.PrintMore
attribute [local go_sem] max2_int min2_int max_two min_two max_three min_three max_four min_four   -- for this text's walks alone
set_option linter.unusedVariables false
set_option linter.unusedSimpArgs false



def errW : Option Int → Value
 | none => .nilIface
 | some c => .iface 0 (.int .i64 c)
theorem errW_none : errW none = .nilIface := rfl
theorem errW_some (c : Int) : errW (some c) = .iface 0 (.int .i64 c) := rfl

-- the values' own types

end Go.Proofs.YthagibkmfgodgaaGreatDoor.Pb
namespace Go.Proofs.YthagibkmfgodgaaGreatDoor.Pb
open Go.Proofs.YthagibkmfgodgaaGreatDoor.X
open Go.RowKit Go.Proofs.YthagibkmfgodgaaGreatDoorW.PrintWords Go.Proofs.YthagibkmfgodgaaGreatDoorW.PrintLast Go.Proofs.YthagibkmfgodgaaGreatDoorW.PrintMore
attribute [local go_sem] max2_int min2_int max_two min_two max_three min_three max_four min_four   -- for this text's walks alone
set_option linter.unusedVariables false
set_option linter.unusedSimpArgs false

-- EXT: function 141 (strings_Split)

def path_Parts.f (a0 : ByteArray) : Option (List ByteArray) := (strings_Split.f a0 (⟨#[47]⟩ : ByteArray)).bind fun t101 => (some t101)
set_option maxHeartbeats 8000000 in
set_option maxRecDepth 100000 in
theorem path_Parts.calls (a0 : ByteArray) (r : List ByteArray) (w : World) (hG : GOK w) (h : path_Parts.f a0 = some r) :
 Calls Tryz.prog 104 #[.string a0] w fun e w' => ∃ v0_ : Value, e = .returned (v0_) ∧ Kd.R Kd.string 9 w' w.heap.size (fun _ => True) v0_ r ∧ Below w.heap.size w w' := by
 have HB := Aside0.mk (Below.refl w.heap.size w)
 have HG := Aside0.mk hG
 clear hG
 have H : ((strings_Split.f a0 (⟨#[47]⟩ : ByteArray)).bind fun t101 => (some t101)) = some r := h
 clear h
 replace H := Option.bind_eq_some_iff.mp H
 obtain ⟨t101, A20, H⟩ := H
 replace H : (some t101) = some r := H
 have A2 := Aside0.mk A20
 clear A20
 obtain rfl := Option.some.inj H
 go_enter Tryz.func104, Tryz.ntmps104
 go_wp2_with (first | ((with_reducible refine gate_callee (f := 141) rfl ?_); refine goesL_ (some 4) rfl rfl Tryz.func141 (by kernel_rfl) rfl #[.string a0, .string (⟨#[47]⟩ : ByteArray)] rfl (by (try simp only [List.map_toArray, List.map_cons, List.map_nil]); first | done | rfl | (simp only [List.length_drop, List.length_take]; rfl)) ?_; (with_reducible refine (strings_Split.calls a0 (⟨#[47]⟩ : ByteArray) t101 _ ?side99 A2.out).mono ?_); (case side99 => exact GOK.below HG.out (by repeat (first | (with_reducible first | exact HB.out | apply below_alloc | apply pw_below_drewN | apply below_drew1) | exact HB.out))); rintro e w3 ⟨v102, rfl, ho0, hb⟩; refine ⟨_, rfl, ?_⟩; have n0_ := Aside0.mk (Kd.R_lower ho0 (below_size (by repeat (first | (with_reducible first | exact HB.out | apply below_alloc | apply pw_below_drewN | apply below_drew1) | exact HB.out)))); have n1_ := Aside0.mk (below_step (by repeat (first | (with_reducible first | exact HB.out | apply below_alloc | apply pw_below_drewN | apply below_drew1) | exact HB.out)) hb); clear HB; have HO103 := n0_; have HB := n1_; clear n0_ n1_; (try clear hb); (try clear hb2); (try clear hk); (try clear hi); (try clear ho0)))
 go_ret
 exact ⟨_, by first | rfl | (simp [errW_none, errW_some] <;> rfl) | (simp [*, errW_none, errW_some] <;> rfl), by (with_reducible repeat (first | apply Kd.R_alloc | apply Kd.R_drewN | apply Kd.R_drew)); exact HO103.out, by repeat (first | (with_reducible first | exact HB.out | apply below_alloc | apply pw_below_drewN | apply below_drew1) | exact HB.out)⟩

-- EXT: function 111 (strconv_Itoa)

def mint_Number.f (a0 : Int) : Option (ByteArray) := (strconv_Itoa.f (mx a0 0)).bind fun t104 => (some t104)
set_option maxHeartbeats 8000000 in
set_option maxRecDepth 100000 in
theorem mint_Number.calls (a0 : Int) (r : ByteArray) (w : World) (hG : GOK w) (h : mint_Number.f a0 = some r) :
 Calls Tryz.prog 67 #[.int .i64 a0] w fun e w' => e = .returned (.string r) ∧ Below w.heap.size w w' := by
 have HB := Aside0.mk (Below.refl w.heap.size w)
 have HG := Aside0.mk hG
 clear hG
 have H : ((strconv_Itoa.f (mx a0 0)).bind fun t104 => (some t104)) = some r := h
 clear h
 obtain ⟨ji2, hji2⟩ : ∃ j_ : Int, (mx a0 0) = j_ := ⟨_, rfl⟩
 replace H : ((strconv_Itoa.f (ji2)).bind fun t104 => (some t104)) = some r := by first | (rw [hji2] at H; exact H) | (simp only [hji2] at H ⊢; exact H)
 (try (have hji2l : 0 ≤ ji2 := by (rw [← hji2]; unfold mx; (repeat' split) <;> omega)))
 (try (have hji2m : 0 ≤ ji2 := by omega))
 have hji2_ : (if a0 < 0 then 0 else a0) = ji2 := hji2
 replace H := Option.bind_eq_some_iff.mp H
 obtain ⟨t104, A30, H⟩ := H
 replace H : (some t104) = some r := H
 have A3 := Aside0.mk A30
 clear A30
 obtain rfl := Option.some.inj H
 go_enter Tryz.func67, Tryz.ntmps67
 go_wp2_with (first | ((with_reducible refine gate_callee (f := 111) rfl ?_); refine goesL_ (some 5) rfl rfl Tryz.func111 (by kernel_rfl) rfl #[.int .i64 ji2] rfl (by (try simp only [List.map_toArray, List.map_cons, List.map_nil]); first | done | (simp only [hji2]; rfl) | rfl | (simp only [List.length_drop, List.length_take]; rfl)) ?_; (with_reducible refine (strconv_Itoa.calls ji2 t104 _ ?side99 A3.out).mono ?_); (case side99 => exact GOK.below HG.out (by repeat (first | (with_reducible first | exact HB.out | apply below_alloc | apply pw_below_drewN | apply below_drew1) | exact HB.out))); rintro e w4 ⟨rfl, hb⟩; refine ⟨_, rfl, ?_⟩; have n0_ := Aside0.mk (below_step (by repeat (first | (with_reducible first | exact HB.out | apply below_alloc | apply pw_below_drewN | apply below_drew1) | exact HB.out)) hb); clear HB; have HB := n0_; clear n0_; (try clear hb); (try clear hb2); (try clear hk); (try clear hi)))
 go_ret
 exact ⟨by first | rfl | (simp [errW_none, errW_some] <;> rfl) | (simp only [← hji2]; first | rfl | (simp [errW_none, errW_some] <;> rfl)) | (simp [*, errW_none, errW_some] <;> rfl), by repeat (first | (with_reducible first | exact HB.out | apply below_alloc | apply pw_below_drewN | apply below_drew1) | exact HB.out)⟩

def shipwrightlaw1_Short.f (a0 : ByteArray) (a1 : Int) : Option (ByteArray) := if 0 ≤ (mn (a0.size : Int) a1) then (if (mn (a0.size : Int) a1) ≤ (a0.size : Int) then (some (a0.extract 0 ((mn (a0.size : Int) a1) : Int).toNat)) else (none)) else (none)
set_option maxHeartbeats 8000000 in
set_option maxRecDepth 100000 in
theorem shipwrightlaw1_Short.calls (a0 : ByteArray) (a1 : Int) (r : ByteArray) (w : World) (hG : GOK w) (h : shipwrightlaw1_Short.f a0 a1 = some r) :
 Calls Tryz.prog 17 #[.string a0, .int .i64 a1] w fun e w' => e = .returned (.string r) ∧ Below w.heap.size w w' := by
 have HB := Aside0.mk (Below.refl w.heap.size w)
 have HG := Aside0.mk hG
 clear hG
 have H : (if 0 ≤ (mn (a0.size : Int) a1) then (if (mn (a0.size : Int) a1) ≤ (a0.size : Int) then (some (a0.extract 0 ((mn (a0.size : Int) a1) : Int).toNat)) else (none)) else (none)) = some r := h
 clear h
 obtain ⟨ji3, hji3⟩ : ∃ j_ : Int, (mn (a0.size : Int) a1) = j_ := ⟨_, rfl⟩
 replace H : (if 0 ≤ (ji3) then (if (ji3) ≤ (a0.size : Int) then (some (a0.extract 0 ((ji3) : Int).toNat)) else (none)) else (none)) = some r := by first | (rw [hji3] at H; exact H) | (simp only [hji3] at H ⊢; exact H)
 have hji3_ : (if a1 < (a0.size : Int) then a1 else (a0.size : Int)) = ji3 := hji3
 by_cases c4 : 0 ≤ (ji3)
 · rw [if_pos c4] at H
   have c4b0 := eq_true c4
   have c4b1 : decide (0 ≤ (ji3)) = true := decide_eq_true c4
   clear c4
   by_cases c5 : (ji3) ≤ (a0.size : Int)
   · rw [if_pos c5] at H
     have c5b0 := eq_true c5
     have c5b1 : decide ((ji3) ≤ (a0.size : Int)) = true := decide_eq_true c5
     clear c5
     obtain rfl := Option.some.inj H
     go_enter Tryz.func17, Tryz.ntmps17
     go_wp2
     go_ret
     exact ⟨by first | rfl | (simp [errW_none, errW_some] <;> rfl) | (simp only [← hji3]; first | rfl | (simp [errW_none, errW_some] <;> rfl)) | (simp [*, errW_none, errW_some] <;> rfl), by repeat (first | (with_reducible first | exact HB.out | apply below_alloc | apply pw_below_drewN | apply below_drew1) | exact HB.out)⟩
   · rw [if_neg c5] at H
     exact absurd H (by simp)
 · rw [if_neg c4] at H
   exact absurd H (by simp)

end Go.Proofs.YthagibkmfgodgaaGreatDoor.Pb
