-- By xprint.py (this session's driver of the kit's print): out of the translation; Lean checks it.
import Derived.Test.YthagibkmfgodgaaGreatDoorProg
import Derived.Below
import Derived.Deep.Draws
import Derived.Deep.AppendLies
import Derived.Maps.AppendAt
import Derived.OwnWalk
import Derived.Laws.BytesArg
import Derived.Laws.MakeOwn
import Derived.Laws.OwnMore
import Derived.Deep.OwnRows
import Derived.Tactics
import Derived.Lib.ConvBytes
import Derived.Laws.Slices
import Derived.WalkKit
import Derived.KernelRfl
import Derived.RowKit3
import Derived.Deep.LoopGhost
import Derived.Deep.QuietTactic
import Derived.BigQuiet
import Derived.WideLaws
import Derived.Deep.DeepCutAuto
import Derived.Deep.CutBlock
import Derived.Deep.RegionHeld3
import Derived.Laws.Rows
import Derived.Lib.AppendStr
import Derived.ArgAppend
import Derived.Laws.IdiomCopy
import Derived.OrdersHeld
import Derived.Laws.BitsLemmas
import Derived.RowKit
import Derived.Test.YthagibkmfgodgaaGreatDoorLib
import Derived.Test.YthagibkmfgodgaaGreatDoorWWords
import Derived.Test.YthagibkmfgodgaaGreatDoorWLast
import Derived.Test.YthagibkmfgodgaaGreatDoorWTab
import Derived.Test.YthagibkmfgodgaaGreatDoorWFour
import Derived.Test.YthagibkmfgodgaaGreatDoorWQPut
import Derived.Test.YthagibkmfgodgaaGreatDoorWApart
import Derived.Test.YthagibkmfgodgaaGreatDoorWArr
import Derived.Test.YthagibkmfgodgaaGreatDoorWZeros
import Derived.Test.YthagibkmfgodgaaGreatDoorWFoot
import Derived.Test.YthagibkmfgodgaaGreatDoorWKept
import Derived.Test.YthagibkmfgodgaaGreatDoorWShare
import Derived.Test.YthagibkmfgodgaaGreatDoorWN
import Derived.Test.YthagibkmfgodgaaGreatDoorWFootNe
import Derived.Test.YthagibkmfgodgaaGreatDoorWAt
import Derived.Test.YthagibkmfgodgaaGreatDoorWEqStruct
import Derived.Test.YthagibkmfgodgaaGreatDoorWRepsOne
import Derived.Test.YthagibkmfgodgaaGreatDoorWInv
import Derived.Test.YthagibkmfgodgaaGreatDoorWInvWords
import Derived.Test.YthagibkmfgodgaaGreatDoorWGuard
import Derived.Test.YthagibkmfgodgaaGreatDoorWNEv
import Derived.Test.YthagibkmfgodgaaGreatDoorWMore
import Derived.Test.YthagibkmfgodgaaGreatDoorWSized
namespace Go.Proofs.YthagibkmfgodgaaGreatDoor.Pb
open Go.Proofs.YthagibkmfgodgaaGreatDoor.X
open Go.RowKit Go.Proofs.YthagibkmfgodgaaGreatDoorW.PrintWords Go.Proofs.YthagibkmfgodgaaGreatDoorW.PrintLast Go.Proofs.YthagibkmfgodgaaGreatDoorW.PrintMore
attribute [local go_sem] max2_int min2_int max_two min_two max_three min_three max_four min_four   -- for this text's walks alone
set_option linter.unusedVariables false
set_option linter.unusedSimpArgs false



def errW : Option Int → Value
  | none => .nilIface
  | some c => .iface 0 (.int .i64 c)
theorem errW_none : errW none = .nilIface := rfl
theorem errW_some (c : Int) : errW (some c) = .iface 0 (.int .i64 c) := rfl

-- the values' own types

end Go.Proofs.YthagibkmfgodgaaGreatDoor.Pb
namespace Go.Proofs.YthagibkmfgodgaaGreatDoor.Pb
open Go.Proofs.YthagibkmfgodgaaGreatDoor.X
open Go.RowKit Go.Proofs.YthagibkmfgodgaaGreatDoorW.PrintWords Go.Proofs.YthagibkmfgodgaaGreatDoorW.PrintLast Go.Proofs.YthagibkmfgodgaaGreatDoorW.PrintMore
attribute [local go_sem] max2_int min2_int max_two min_two max_three min_three max_four min_four   -- for this text's walks alone
set_option linter.unusedVariables false
set_option linter.unusedSimpArgs false

-- EXT: function 141 (strings_Split)

/-! ### path_Parts: function 104 -/
def path_Parts.f (a0 : ByteArray) : Option (List ByteArray) := (strings_Split.f a0 (⟨#[47]⟩ : ByteArray)).bind fun t101 => (some t101)
set_option maxHeartbeats 8000000 in
set_option maxRecDepth 100000 in
theorem path_Parts.calls (a0 : ByteArray) (r : List ByteArray) (w : World) (hG : GOK w) (h : path_Parts.f a0 = some r) :
    Calls Tryz.prog 104 #[.string a0] w fun e w' => ∃ v0_ : Value, e = .returned (v0_) ∧ Kd.R Kd.string 9 w' w.heap.size (fun _ => True) v0_ r ∧ Below w.heap.size w w' := by
  have HB := Aside0.mk (Below.refl w.heap.size w)
  have HG := Aside0.mk hG
  clear hG
  have H : ((strings_Split.f a0 (⟨#[47]⟩ : ByteArray)).bind fun t101 => (some t101)) = some r := h
  clear h
  replace H := Option.bind_eq_some_iff.mp H
  obtain ⟨t101, A20, H⟩ := H
  replace H : (some t101) = some r := H
  have A2 := Aside0.mk A20
  clear A20
  obtain rfl := Option.some.inj H
  go_enter Tryz.func104, Tryz.ntmps104
  go_wp2_with (first | ((with_reducible refine gate_callee (f := 141) rfl ?_); refine goesL_ (some 4) rfl rfl Tryz.func141 (by kernel_rfl) rfl #[.string a0, .string (⟨#[47]⟩ : ByteArray)] rfl (by (try simp only [List.map_toArray, List.map_cons, List.map_nil]); first | done | rfl | (simp only [List.length_drop, List.length_take]; rfl)) ?_; (with_reducible refine (strings_Split.calls a0 (⟨#[47]⟩ : ByteArray) t101 _ ?side99 A2.out).mono ?_); (case side99 => exact GOK.below HG.out (by repeat (first | (with_reducible first | exact HB.out | apply below_alloc | apply pw_below_drewN | apply below_drew1) | exact HB.out))); rintro e w3 ⟨v102, rfl, ho0, hb⟩; refine ⟨_, rfl, ?_⟩; have n0_ := Aside0.mk (Kd.R_lower ho0 (below_size (by repeat (first | (with_reducible first | exact HB.out | apply below_alloc | apply pw_below_drewN | apply below_drew1) | exact HB.out)))); have n1_ := Aside0.mk (below_step (by repeat (first | (with_reducible first | exact HB.out | apply below_alloc | apply pw_below_drewN | apply below_drew1) | exact HB.out)) hb); clear HB; have HO103 := n0_; have HB := n1_; clear n0_ n1_; (try clear hb); (try clear hb2); (try clear hk); (try clear hi); (try clear ho0)))
  go_ret
  exact ⟨_, by first | rfl | (simp [errW_none, errW_some] <;> rfl) | (simp [*, errW_none, errW_some] <;> rfl), by (with_reducible repeat (first | apply Kd.R_alloc | apply Kd.R_drewN | apply Kd.R_drew)); exact HO103.out, by repeat (first | (with_reducible first | exact HB.out | apply below_alloc | apply pw_below_drewN | apply below_drew1) | exact HB.out)⟩

-- EXT: function 111 (strconv_Itoa)

/-! ### mint_Number: function 67 -/
def mint_Number.f (a0 : Int) : Option (ByteArray) := (strconv_Itoa.f (mx a0 0)).bind fun t104 => (some t104)
set_option maxHeartbeats 8000000 in
set_option maxRecDepth 100000 in
theorem mint_Number.calls (a0 : Int) (r : ByteArray) (w : World) (hG : GOK w) (h : mint_Number.f a0 = some r) :
    Calls Tryz.prog 67 #[.int .i64 a0] w fun e w' => e = .returned (.string r) ∧ Below w.heap.size w w' := by
  have HB := Aside0.mk (Below.refl w.heap.size w)
  have HG := Aside0.mk hG
  clear hG
  have H : ((strconv_Itoa.f (mx a0 0)).bind fun t104 => (some t104)) = some r := h
  clear h
  obtain ⟨ji2, hji2⟩ : ∃ j_ : Int, (mx a0 0) = j_ := ⟨_, rfl⟩
  replace H : ((strconv_Itoa.f (ji2)).bind fun t104 => (some t104)) = some r := by first | (rw [hji2] at H; exact H) | (simp only [hji2] at H ⊢; exact H)
  (try (have hji2l : 0 ≤ ji2 := by (rw [← hji2]; unfold mx; (repeat' split) <;> omega)))
  (try (have hji2m : 0 ≤ ji2 := by omega))
  have hji2_ : (if a0 < 0 then 0 else a0) = ji2 := hji2
  replace H := Option.bind_eq_some_iff.mp H
  obtain ⟨t104, A30, H⟩ := H
  replace H : (some t104) = some r := H
  have A3 := Aside0.mk A30
  clear A30
  obtain rfl := Option.some.inj H
  go_enter Tryz.func67, Tryz.ntmps67
  go_wp2_with (first | ((with_reducible refine gate_callee (f := 111) rfl ?_); refine goesL_ (some 5) rfl rfl Tryz.func111 (by kernel_rfl) rfl #[.int .i64 ji2] rfl (by (try simp only [List.map_toArray, List.map_cons, List.map_nil]); first | done | (simp only [hji2]; rfl) | rfl | (simp only [List.length_drop, List.length_take]; rfl)) ?_; (with_reducible refine (strconv_Itoa.calls ji2 t104 _ ?side99 A3.out).mono ?_); (case side99 => exact GOK.below HG.out (by repeat (first | (with_reducible first | exact HB.out | apply below_alloc | apply pw_below_drewN | apply below_drew1) | exact HB.out))); rintro e w4 ⟨rfl, hb⟩; refine ⟨_, rfl, ?_⟩; have n0_ := Aside0.mk (below_step (by repeat (first | (with_reducible first | exact HB.out | apply below_alloc | apply pw_below_drewN | apply below_drew1) | exact HB.out)) hb); clear HB; have HB := n0_; clear n0_; (try clear hb); (try clear hb2); (try clear hk); (try clear hi)))
  go_ret
  exact ⟨by first | rfl | (simp [errW_none, errW_some] <;> rfl) | (simp only [← hji2]; first | rfl | (simp [errW_none, errW_some] <;> rfl)) | (simp [*, errW_none, errW_some] <;> rfl), by repeat (first | (with_reducible first | exact HB.out | apply below_alloc | apply pw_below_drewN | apply below_drew1) | exact HB.out)⟩

/-! ### shipwrightlaw1_Short: function 17 -/
def shipwrightlaw1_Short.f (a0 : ByteArray) (a1 : Int) : Option (ByteArray) := if 0 ≤ (mn (a0.size : Int) a1) then (if (mn (a0.size : Int) a1) ≤ (a0.size : Int) then (some (a0.extract 0 ((mn (a0.size : Int) a1) : Int).toNat)) else (none)) else (none)
set_option maxHeartbeats 8000000 in
set_option maxRecDepth 100000 in
theorem shipwrightlaw1_Short.calls (a0 : ByteArray) (a1 : Int) (r : ByteArray) (w : World) (hG : GOK w) (h : shipwrightlaw1_Short.f a0 a1 = some r) :
    Calls Tryz.prog 17 #[.string a0, .int .i64 a1] w fun e w' => e = .returned (.string r) ∧ Below w.heap.size w w' := by
  have HB := Aside0.mk (Below.refl w.heap.size w)
  have HG := Aside0.mk hG
  clear hG
  have H : (if 0 ≤ (mn (a0.size : Int) a1) then (if (mn (a0.size : Int) a1) ≤ (a0.size : Int) then (some (a0.extract 0 ((mn (a0.size : Int) a1) : Int).toNat)) else (none)) else (none)) = some r := h
  clear h
  obtain ⟨ji3, hji3⟩ : ∃ j_ : Int, (mn (a0.size : Int) a1) = j_ := ⟨_, rfl⟩
  replace H : (if 0 ≤ (ji3) then (if (ji3) ≤ (a0.size : Int) then (some (a0.extract 0 ((ji3) : Int).toNat)) else (none)) else (none)) = some r := by first | (rw [hji3] at H; exact H) | (simp only [hji3] at H ⊢; exact H)
  have hji3_ : (if a1 < (a0.size : Int) then a1 else (a0.size : Int)) = ji3 := hji3
  by_cases c4 : 0 ≤ (ji3)
  · rw [if_pos c4] at H
    have c4b0 := eq_true c4
    have c4b1 : decide (0 ≤ (ji3)) = true := decide_eq_true c4
    clear c4
    by_cases c5 : (ji3) ≤ (a0.size : Int)
    · rw [if_pos c5] at H
      have c5b0 := eq_true c5
      have c5b1 : decide ((ji3) ≤ (a0.size : Int)) = true := decide_eq_true c5
      clear c5
      obtain rfl := Option.some.inj H
      go_enter Tryz.func17, Tryz.ntmps17
      go_wp2
      go_ret
      exact ⟨by first | rfl | (simp [errW_none, errW_some] <;> rfl) | (simp only [← hji3]; first | rfl | (simp [errW_none, errW_some] <;> rfl)) | (simp [*, errW_none, errW_some] <;> rfl), by repeat (first | (with_reducible first | exact HB.out | apply below_alloc | apply pw_below_drewN | apply below_drew1) | exact HB.out)⟩
    · rw [if_neg c5] at H
      exact absurd H (by simp)
  · rw [if_neg c4] at H
    exact absurd H (by simp)

end Go.Proofs.YthagibkmfgodgaaGreatDoor.Pb
