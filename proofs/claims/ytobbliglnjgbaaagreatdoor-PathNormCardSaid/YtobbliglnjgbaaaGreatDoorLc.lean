-- By xprint.py (this session's driver of the kit's print): out of the translation; Lean checks it.
import Derived.Test.YtobbliglnjgbaaaGreatDoorProg
import Derived.Below
import Derived.Deep.Draws
import Derived.Deep.AppendLies
import Derived.Maps.AppendAt
import Derived.OwnWalk
import Derived.Laws.BytesArg
import Derived.Laws.MakeOwn
import Derived.Laws.OwnMore
import Derived.Deep.OwnRows
import Derived.Tactics
import Derived.Lib.ConvBytes
import Derived.Laws.Slices
import Derived.WalkKit
import Derived.KernelRfl
import Derived.RowKit3
import Derived.Deep.LoopGhost
import Derived.Deep.QuietTactic
import Derived.BigQuiet
import Derived.WideLaws
import Derived.Deep.DeepCutAuto
import Derived.Deep.CutBlock
import Derived.Deep.RegionHeld3
import Derived.Laws.Rows
import Derived.Lib.AppendStr
import Derived.ArgAppend
import Derived.Laws.IdiomCopy
import Derived.OrdersHeld
import Derived.Laws.BitsLemmas
import Derived.RowKit
import Derived.Test.YtobbliglnjgbaaaGreatDoorBegun
import Derived.Test.YtobbliglnjgbaaaGreatDoorWWords
import Derived.Test.YtobbliglnjgbaaaGreatDoorWLast
import Derived.Test.YtobbliglnjgbaaaGreatDoorWTab
import Derived.Test.YtobbliglnjgbaaaGreatDoorWFour
import Derived.Test.YtobbliglnjgbaaaGreatDoorWQPut
import Derived.Test.YtobbliglnjgbaaaGreatDoorWApart
import Derived.Test.YtobbliglnjgbaaaGreatDoorWArr
import Derived.Test.YtobbliglnjgbaaaGreatDoorWZeros
import Derived.Test.YtobbliglnjgbaaaGreatDoorWFoot
import Derived.Test.YtobbliglnjgbaaaGreatDoorWKept
import Derived.Test.YtobbliglnjgbaaaGreatDoorWShare
import Derived.Test.YtobbliglnjgbaaaGreatDoorWN
import Derived.Test.YtobbliglnjgbaaaGreatDoorWFootNe
import Derived.Test.YtobbliglnjgbaaaGreatDoorWAt
import Derived.Test.YtobbliglnjgbaaaGreatDoorWEqStruct
import Derived.Test.YtobbliglnjgbaaaGreatDoorWRepsOne
import Derived.Test.YtobbliglnjgbaaaGreatDoorWInv
import Derived.Test.YtobbliglnjgbaaaGreatDoorWInvWords
import Derived.Test.YtobbliglnjgbaaaGreatDoorWGuard
import Derived.Test.YtobbliglnjgbaaaGreatDoorWNEv
import Derived.Test.YtobbliglnjgbaaaGreatDoorWMore
import Derived.Test.YtobbliglnjgbaaaGreatDoorWSized
namespace Go.Proofs.YtobbliglnjgbaaaGreatDoor.Lc
open Go.Proofs.YtobbliglnjgbaaaGreatDoor.X Go.Proofs.YtobbliglnjgbaaaGreatDoor.Pb Go.Proofs.YtobbliglnjgbaaaGreatDoor.Pc
open Go.RowKit Go.Proofs.YtobbliglnjgbaaaGreatDoorW.PrintWords Go.Proofs.YtobbliglnjgbaaaGreatDoorW.PrintLast Go.Proofs.YtobbliglnjgbaaaGreatDoorW.PrintMore
attribute [local go_sem] max2_int min2_int max_two min_two max_three min_three max_four min_four   -- for this text's walks alone
set_option linter.unusedVariables false
set_option linter.unusedSimpArgs false



def errW : Option Int → Value
  | none => .nilIface
  | some c => .iface 0 (.int .i64 c)
theorem errW_none : errW none = .nilIface := rfl
theorem errW_some (c : Int) : errW (some c) = .iface 0 (.int .i64 c) := rfl

-- the values' own types

end Go.Proofs.YtobbliglnjgbaaaGreatDoor.Lc
namespace Go.Proofs.YtobbliglnjgbaaaGreatDoor.Lc
open Go.Proofs.YtobbliglnjgbaaaGreatDoor.X Go.Proofs.YtobbliglnjgbaaaGreatDoor.Pb Go.Proofs.YtobbliglnjgbaaaGreatDoor.Pc
open Go.RowKit Go.Proofs.YtobbliglnjgbaaaGreatDoorW.PrintWords Go.Proofs.YtobbliglnjgbaaaGreatDoorW.PrintLast Go.Proofs.YtobbliglnjgbaaaGreatDoorW.PrintMore
attribute [local go_sem] max2_int min2_int max_two min_two max_three min_three max_four min_four   -- for this text's walks alone
set_option linter.unusedVariables false
set_option linter.unusedSimpArgs false
theorem mk_lit_size (a : Array UInt8) : (ByteArray.mk a).size = a.size := rfl

-- EXT: function 16 (shipwrightlaw1_begun)

-- EXT: function 17 (shipwrightlaw1_Short)

-- EXT: function 18 (path_Norm)

-- EXT: function 19 (path_May)

/-! ### shipwrightlaw1_PathNorm: function 3 -/
mutual
def shipwrightlaw1_PathNorm.j0 : Nat → ByteArray → ByteArray → ByteArray → Bool → Bool → Option (Bool)
  | 0, _, _, _, _, _ => none
  | k + 1, x0, x1, x6, x7, x53 => if x53 = true then (some false) else ((path_May.f x0).bind fun t109 => (if t109 = true then (if x7 = true then (shipwrightlaw1_PathNorm.j1 k x0 x1 (x6.toList != x0.toList)) else (shipwrightlaw1_PathNorm.j1 k x0 x1 true)) else (shipwrightlaw1_PathNorm.j1 k x0 x1 false)))
def shipwrightlaw1_PathNorm.j1 : Nat → ByteArray → ByteArray → Bool → Option (Bool)
  | 0, _, _, _ => none
  | k + 1, x0, x1, x64 => if x64 = true then (some false) else (if x0.size + 3 ≤ 9223372036854775807 then (if (x0 ++ (⟨#[47, 46, 47]⟩ : ByteArray)).size + x1.size ≤ 9223372036854775807 then (if ((x0 ++ (⟨#[47, 46, 47]⟩ : ByteArray)) ++ x1).size + 2 ≤ 9223372036854775807 then ((path_Norm.f k (((x0 ++ (⟨#[47, 46, 47]⟩ : ByteArray)) ++ x1) ++ (⟨#[47, 47]⟩ : ByteArray))).bind fun bt110 => (if x0.size + 1 ≤ 9223372036854775807 then (if (x0 ++ (⟨#[47]⟩ : ByteArray)).size + x1.size ≤ 9223372036854775807 then ((path_Norm.f k ((x0 ++ (⟨#[47]⟩ : ByteArray)) ++ x1)).bind fun bt112 => (if bt110.1.toList = bt112.1.toList then (some (bt110.2 == bt112.2)) else (some false))) else (none)) else (none))) else (none)) else (none)) else (none))
end
def shipwrightlaw1_PathNorm.f (k : Nat) (a0 : ByteArray) (a1 : ByteArray) : Option (Bool) := (shipwrightlaw1_begun.f).bind fun t101 => (if t101 = true then ((shipwrightlaw1_Short.f a0 50).bind fun t102 => ((shipwrightlaw1_Short.f a1 50).bind fun t103 => ((path_Norm.f k t102).bind fun bt104 => ((path_Norm.f k bt104.1).bind fun bt106 => (if bt104.2 = true then ((path_May.f bt104.1).bind fun t108 => (if t108 = true then (if bt106.2 = true then (if bt106.1.toList = bt104.1.toList then (shipwrightlaw1_PathNorm.j0 k t102 t103 bt104.1 bt104.2 false) else (shipwrightlaw1_PathNorm.j0 k t102 t103 bt104.1 bt104.2 true)) else (shipwrightlaw1_PathNorm.j0 k t102 t103 bt104.1 bt104.2 true)) else (shipwrightlaw1_PathNorm.j0 k t102 t103 bt104.1 bt104.2 true))) else (shipwrightlaw1_PathNorm.j0 k t102 t103 bt104.1 bt104.2 (bt104.1.toList != ([] : List UInt8)))))))) else (some false))
theorem shipwrightlaw1_PathNorm.mono_l : ∀ k, (∀ y0 y1 y2 y3 y4, LeO (shipwrightlaw1_PathNorm.j0 k y0 y1 y2 y3 y4) (shipwrightlaw1_PathNorm.j0 (k + 1) y0 y1 y2 y3 y4)) ∧ (∀ y0 y1 y2, LeO (shipwrightlaw1_PathNorm.j1 k y0 y1 y2) (shipwrightlaw1_PathNorm.j1 (k + 1) y0 y1 y2))
  | 0 => ⟨fun _ _ _ _ _ r h => by simp [shipwrightlaw1_PathNorm.j0] at h, fun _ _ _ r h => by simp [shipwrightlaw1_PathNorm.j1] at h⟩
  | k + 1 => by
    obtain ⟨ih0, ih1⟩ := shipwrightlaw1_PathNorm.mono_l k
    refine ⟨?_, ?_⟩
    · intro y0 y1 y2 y3 y4
      unfold shipwrightlaw1_PathNorm.j0
      repeat' first
      | (with_reducible exact ih0 _ _ _ _ _)
      | (with_reducible exact ih1 _ _ _)
      | (with_reducible exact path_Norm.mono _ _)
      | (with_reducible exact LeO.refl _)
      | (with_reducible exact LeO.none _)
      | (with_reducible refine LeO.ite ?_ ?_)
      | (with_reducible refine LeO.bind ?_ (fun _ => ?_))
      | exact ih0 _ _ _ _ _
      | exact ih1 _ _ _
      | exact path_Norm.mono _ _
      | exact LeO.none _
      | refine LeO.ite ?_ ?_
      | refine LeO.bind ?_ (fun _ => ?_)
    · intro y0 y1 y2
      unfold shipwrightlaw1_PathNorm.j1
      repeat' first
      | (with_reducible exact ih0 _ _ _ _ _)
      | (with_reducible exact ih1 _ _ _)
      | (with_reducible exact path_Norm.mono _ _)
      | (with_reducible exact LeO.refl _)
      | (with_reducible exact LeO.none _)
      | (with_reducible refine LeO.ite ?_ ?_)
      | (with_reducible refine LeO.bind ?_ (fun _ => ?_))
      | exact ih0 _ _ _ _ _
      | exact ih1 _ _ _
      | exact path_Norm.mono _ _
      | exact LeO.none _
      | refine LeO.ite ?_ ?_
      | refine LeO.bind ?_ (fun _ => ?_)
theorem shipwrightlaw1_PathNorm.mono : ∀ a0 a1 k, LeO (shipwrightlaw1_PathNorm.f k a0 a1) (shipwrightlaw1_PathNorm.f (k + 1) a0 a1) := by
  intro a0 a1 k
  obtain ⟨ih0, ih1⟩ := shipwrightlaw1_PathNorm.mono_l k
  unfold shipwrightlaw1_PathNorm.f
  repeat' first
      | (with_reducible exact ih0 _ _ _ _ _)
      | (with_reducible exact ih1 _ _ _)
      | (with_reducible exact path_Norm.mono _ _)
      | (with_reducible exact LeO.refl _)
      | (with_reducible exact LeO.none _)
      | (with_reducible refine LeO.ite ?_ ?_)
      | (with_reducible refine LeO.bind ?_ (fun _ => ?_))
      | exact ih0 _ _ _ _ _
      | exact ih1 _ _ _
      | exact path_Norm.mono _ _
      | exact LeO.none _
      | refine LeO.ite ?_ ?_
      | refine LeO.bind ?_ (fun _ => ?_)
set_option maxHeartbeats 8000000 in
set_option maxRecDepth 100000 in
theorem shipwrightlaw1_PathNorm.calls (k : Nat) (a0 : ByteArray) (a1 : ByteArray) (r : Bool) (w : World) (hG : GOK w) (h : shipwrightlaw1_PathNorm.f k a0 a1 = some r) :
    Calls Tryz.prog 3 #[.string a0, .string a1] w fun e w' => e = .returned (.bool r) ∧ Below w.heap.size w w' := by
  have HB := Aside0.mk (Below.refl w.heap.size w)
  have HG := Aside0.mk hG
  clear hG
  have H : ((shipwrightlaw1_begun.f).bind fun t101 => (if t101 = true then ((shipwrightlaw1_Short.f a0 50).bind fun t102 => ((shipwrightlaw1_Short.f a1 50).bind fun t103 => ((path_Norm.f k t102).bind fun bt104 => ((path_Norm.f k bt104.1).bind fun bt106 => (if bt104.2 = true then ((path_May.f bt104.1).bind fun t108 => (if t108 = true then (if bt106.2 = true then (if bt106.1.toList = bt104.1.toList then (shipwrightlaw1_PathNorm.j0 k t102 t103 bt104.1 bt104.2 false) else (shipwrightlaw1_PathNorm.j0 k t102 t103 bt104.1 bt104.2 true)) else (shipwrightlaw1_PathNorm.j0 k t102 t103 bt104.1 bt104.2 true)) else (shipwrightlaw1_PathNorm.j0 k t102 t103 bt104.1 bt104.2 true))) else (shipwrightlaw1_PathNorm.j0 k t102 t103 bt104.1 bt104.2 (bt104.1.toList != ([] : List UInt8)))))))) else (some false))) = some r := h
  clear h
  replace H := Option.bind_eq_some_iff.mp H
  obtain ⟨t101, A30, H⟩ := H
  replace H : (if t101 = true then ((shipwrightlaw1_Short.f a0 50).bind fun t102 => ((shipwrightlaw1_Short.f a1 50).bind fun t103 => ((path_Norm.f k t102).bind fun bt104 => ((path_Norm.f k bt104.1).bind fun bt106 => (if bt104.2 = true then ((path_May.f bt104.1).bind fun t108 => (if t108 = true then (if bt106.2 = true then (if bt106.1.toList = bt104.1.toList then (shipwrightlaw1_PathNorm.j0 k t102 t103 bt104.1 bt104.2 false) else (shipwrightlaw1_PathNorm.j0 k t102 t103 bt104.1 bt104.2 true)) else (shipwrightlaw1_PathNorm.j0 k t102 t103 bt104.1 bt104.2 true)) else (shipwrightlaw1_PathNorm.j0 k t102 t103 bt104.1 bt104.2 true))) else (shipwrightlaw1_PathNorm.j0 k t102 t103 bt104.1 bt104.2 (bt104.1.toList != ([] : List UInt8)))))))) else (some false)) = some r := H
  have A3 := Aside0.mk A30
  clear A30
  by_cases c4 : t101 = true
  · subst c4
    have H1 : ((shipwrightlaw1_Short.f a0 50).bind fun t102 => ((shipwrightlaw1_Short.f a1 50).bind fun t103 => ((path_Norm.f k t102).bind fun bt104 => ((path_Norm.f k bt104.1).bind fun bt106 => (if bt104.2 = true then ((path_May.f bt104.1).bind fun t108 => (if t108 = true then (if bt106.2 = true then (if bt106.1.toList = bt104.1.toList then (shipwrightlaw1_PathNorm.j0 k t102 t103 bt104.1 bt104.2 false) else (shipwrightlaw1_PathNorm.j0 k t102 t103 bt104.1 bt104.2 true)) else (shipwrightlaw1_PathNorm.j0 k t102 t103 bt104.1 bt104.2 true)) else (shipwrightlaw1_PathNorm.j0 k t102 t103 bt104.1 bt104.2 true))) else (shipwrightlaw1_PathNorm.j0 k t102 t103 bt104.1 bt104.2 (bt104.1.toList != ([] : List UInt8)))))))) = some r := by rw [if_pos rfl] at H; exact H
    clear H
    have H := H1
    clear H1
    replace H := Option.bind_eq_some_iff.mp H
    obtain ⟨t102, A50, H⟩ := H
    replace H : ((shipwrightlaw1_Short.f a1 50).bind fun t103 => ((path_Norm.f k t102).bind fun bt104 => ((path_Norm.f k bt104.1).bind fun bt106 => (if bt104.2 = true then ((path_May.f bt104.1).bind fun t108 => (if t108 = true then (if bt106.2 = true then (if bt106.1.toList = bt104.1.toList then (shipwrightlaw1_PathNorm.j0 k t102 t103 bt104.1 bt104.2 false) else (shipwrightlaw1_PathNorm.j0 k t102 t103 bt104.1 bt104.2 true)) else (shipwrightlaw1_PathNorm.j0 k t102 t103 bt104.1 bt104.2 true)) else (shipwrightlaw1_PathNorm.j0 k t102 t103 bt104.1 bt104.2 true))) else (shipwrightlaw1_PathNorm.j0 k t102 t103 bt104.1 bt104.2 (bt104.1.toList != ([] : List UInt8))))))) = some r := H
    have A5 := Aside0.mk A50
    clear A50
    replace H := Option.bind_eq_some_iff.mp H
    obtain ⟨t103, A60, H⟩ := H
    replace H : ((path_Norm.f k t102).bind fun bt104 => ((path_Norm.f k bt104.1).bind fun bt106 => (if bt104.2 = true then ((path_May.f bt104.1).bind fun t108 => (if t108 = true then (if bt106.2 = true then (if bt106.1.toList = bt104.1.toList then (shipwrightlaw1_PathNorm.j0 k t102 t103 bt104.1 bt104.2 false) else (shipwrightlaw1_PathNorm.j0 k t102 t103 bt104.1 bt104.2 true)) else (shipwrightlaw1_PathNorm.j0 k t102 t103 bt104.1 bt104.2 true)) else (shipwrightlaw1_PathNorm.j0 k t102 t103 bt104.1 bt104.2 true))) else (shipwrightlaw1_PathNorm.j0 k t102 t103 bt104.1 bt104.2 (bt104.1.toList != ([] : List UInt8)))))) = some r := H
    have A6 := Aside0.mk A60
    clear A60
    replace H := Option.bind_eq_some_iff.mp H
    obtain ⟨⟨t104, t105⟩, A70, H⟩ := H
    replace H : ((path_Norm.f k t104).bind fun bt106 => (if t105 = true then ((path_May.f t104).bind fun t108 => (if t108 = true then (if bt106.2 = true then (if bt106.1.toList = t104.toList then (shipwrightlaw1_PathNorm.j0 k t102 t103 t104 t105 false) else (shipwrightlaw1_PathNorm.j0 k t102 t103 t104 t105 true)) else (shipwrightlaw1_PathNorm.j0 k t102 t103 t104 t105 true)) else (shipwrightlaw1_PathNorm.j0 k t102 t103 t104 t105 true))) else (shipwrightlaw1_PathNorm.j0 k t102 t103 t104 t105 (t104.toList != ([] : List UInt8))))) = some r := H
    have A7 := Aside0.mk A70
    clear A70
    replace H := Option.bind_eq_some_iff.mp H
    obtain ⟨⟨t106, t107⟩, A80, H⟩ := H
    replace H : (if t105 = true then ((path_May.f t104).bind fun t108 => (if t108 = true then (if t107 = true then (if t106.toList = t104.toList then (shipwrightlaw1_PathNorm.j0 k t102 t103 t104 t105 false) else (shipwrightlaw1_PathNorm.j0 k t102 t103 t104 t105 true)) else (shipwrightlaw1_PathNorm.j0 k t102 t103 t104 t105 true)) else (shipwrightlaw1_PathNorm.j0 k t102 t103 t104 t105 true))) else (shipwrightlaw1_PathNorm.j0 k t102 t103 t104 t105 (t104.toList != ([] : List UInt8)))) = some r := H
    have A8 := Aside0.mk A80
    clear A80
    have HC9 := Aside0.mk H
    clear H
    go_enter Tryz.func3, Tryz.ntmps3
    go_upto_region 7 with (first | ((with_reducible refine gate_callee (f := 16) rfl ?_); refine goesL_ (some 14) rfl rfl Tryz.func16 (by kernel_rfl) rfl #[] rfl (by (try simp only [List.map_toArray, List.map_cons, List.map_nil]); first | done | rfl | (simp only [List.length_drop, List.length_take]; rfl)) ?_; (with_reducible refine (shipwrightlaw1_begun.calls  true _ ?side99 A3.out).mono ?_); (case side99 => exact GOK.below HG.out (by repeat (first | (with_reducible first | exact HB.out | apply below_alloc | apply pw_below_drewN | apply below_drew1) | exact HB.out))); rintro e w10 ⟨rfl, hb⟩; refine ⟨_, rfl, ?_⟩; have n0_ := Aside0.mk (below_step (by repeat (first | (with_reducible first | exact HB.out | apply below_alloc | apply pw_below_drewN | apply below_drew1) | exact HB.out)) hb); clear HB; have HB := n0_; clear n0_; (try clear hb); (try clear hb2); (try clear hk); (try clear hi)) | ((with_reducible refine gate_callee (f := 17) rfl ?_); refine goesL_ (some 18) rfl rfl Tryz.func17 (by kernel_rfl) rfl #[.string a0, .int .i64 50] rfl (by (try simp only [List.map_toArray, List.map_cons, List.map_nil]); first | done | rfl | (simp only [List.length_drop, List.length_take]; rfl)) ?_; (with_reducible refine (shipwrightlaw1_Short.calls a0 50 t102 _ ?side99 A5.out).mono ?_); (case side99 => exact GOK.below HG.out (by repeat (first | (with_reducible first | exact HB.out | apply below_alloc | apply pw_below_drewN | apply below_drew1) | exact HB.out))); rintro e w11 ⟨rfl, hb⟩; refine ⟨_, rfl, ?_⟩; have n0_ := Aside0.mk (below_step (by repeat (first | (with_reducible first | exact HB.out | apply below_alloc | apply pw_below_drewN | apply below_drew1) | exact HB.out)) hb); clear HB; have HB := n0_; clear n0_; (try clear hb); (try clear hb2); (try clear hk); (try clear hi)) | ((with_reducible refine gate_callee (f := 17) rfl ?_); refine goesL_ (some 20) rfl rfl Tryz.func17 (by kernel_rfl) rfl #[.string a1, .int .i64 50] rfl (by (try simp only [List.map_toArray, List.map_cons, List.map_nil]); first | done | rfl | (simp only [List.length_drop, List.length_take]; rfl)) ?_; (with_reducible refine (shipwrightlaw1_Short.calls a1 50 t103 _ ?side99 A6.out).mono ?_); (case side99 => exact GOK.below HG.out (by repeat (first | (with_reducible first | exact HB.out | apply below_alloc | apply pw_below_drewN | apply below_drew1) | exact HB.out))); rintro e w12 ⟨rfl, hb⟩; refine ⟨_, rfl, ?_⟩; have n0_ := Aside0.mk (below_step (by repeat (first | (with_reducible first | exact HB.out | apply below_alloc | apply pw_below_drewN | apply below_drew1) | exact HB.out)) hb); clear HB; have HB := n0_; clear n0_; (try clear hb); (try clear hb2); (try clear hk); (try clear hi)) | ((with_reducible refine gate_callee (f := 18) rfl ?_); refine goesL_ (some 23) rfl rfl Tryz.func18 (by kernel_rfl) rfl #[.string t102] rfl (by (try simp only [List.map_toArray, List.map_cons, List.map_nil]); first | done | rfl | (simp only [List.length_drop, List.length_take]; rfl)) ?_; (with_reducible refine (path_Norm.calls k t102 t104 t105 _ ?side99 A7.out).mono ?_); (case side99 => exact GOK.below HG.out (by repeat (first | (with_reducible first | exact HB.out | apply below_alloc | apply pw_below_drewN | apply below_drew1) | exact HB.out))); rintro e w13 ⟨rfl, hb⟩; refine ⟨_, rfl, ?_⟩; have n0_ := Aside0.mk (below_step (by repeat (first | (with_reducible first | exact HB.out | apply below_alloc | apply pw_below_drewN | apply below_drew1) | exact HB.out)) hb); clear HB; have HB := n0_; clear n0_; (try clear hb); (try clear hb2); (try clear hk); (try clear hi)) | ((with_reducible refine gate_callee (f := 18) rfl ?_); refine goesL_ (some 28) rfl rfl Tryz.func18 (by kernel_rfl) rfl #[.string t104] rfl (by (try simp only [List.map_toArray, List.map_cons, List.map_nil]); first | done | rfl | (simp only [List.length_drop, List.length_take]; rfl)) ?_; (with_reducible refine (path_Norm.calls k t104 t106 t107 _ ?side99 A8.out).mono ?_); (case side99 => exact GOK.below HG.out (by repeat (first | (with_reducible first | exact HB.out | apply below_alloc | apply pw_below_drewN | apply below_drew1) | exact HB.out))); rintro e w14 ⟨rfl, hb⟩; refine ⟨_, rfl, ?_⟩; have n0_ := Aside0.mk (below_step (by repeat (first | (with_reducible first | exact HB.out | apply below_alloc | apply pw_below_drewN | apply below_drew1) | exact HB.out)) hb); clear HB; have HB := n0_; clear n0_; (try clear hb); (try clear hb2); (try clear hk); (try clear hi)))
    (try simp only [Act.put, List.setIfInBounds_toArray, List.set_cons_zero, List.set_cons_succ])
    go_cut [53] (fun v53 wc => ∃ (kq : Nat) (x53_8 : Bool), v53 = .bool x53_8 ∧ Aside0 (shipwrightlaw1_PathNorm.j0 kq t102 t103 t104 t105 x53_8 = some r) ∧ Aside0 (kq ≤ k) ∧ Aside0 (Below w.heap.size w wc))
    case first =>
      have H := HC9.out
      clear HC9
      by_cases c15 : t105 = true
      · subst c15
        have H1 : ((path_May.f t104).bind fun t108 => (if t108 = true then (if t107 = true then (if t106.toList = t104.toList then (shipwrightlaw1_PathNorm.j0 k t102 t103 t104 true false) else (shipwrightlaw1_PathNorm.j0 k t102 t103 t104 true true)) else (shipwrightlaw1_PathNorm.j0 k t102 t103 t104 true true)) else (shipwrightlaw1_PathNorm.j0 k t102 t103 t104 true true))) = some r := by rw [if_pos rfl] at H; exact H
        clear H
        have H := H1
        clear H1
        replace H := Option.bind_eq_some_iff.mp H
        obtain ⟨t108, A160, H⟩ := H
        replace H : (if t108 = true then (if t107 = true then (if t106.toList = t104.toList then (shipwrightlaw1_PathNorm.j0 k t102 t103 t104 true false) else (shipwrightlaw1_PathNorm.j0 k t102 t103 t104 true true)) else (shipwrightlaw1_PathNorm.j0 k t102 t103 t104 true true)) else (shipwrightlaw1_PathNorm.j0 k t102 t103 t104 true true)) = some r := H
        have A16 := Aside0.mk A160
        clear A160
        by_cases c17 : t108 = true
        · subst c17
          have H1 : (if t107 = true then (if t106.toList = t104.toList then (shipwrightlaw1_PathNorm.j0 k t102 t103 t104 true false) else (shipwrightlaw1_PathNorm.j0 k t102 t103 t104 true true)) else (shipwrightlaw1_PathNorm.j0 k t102 t103 t104 true true)) = some r := by rw [if_pos rfl] at H; exact H
          clear H
          have H := H1
          clear H1
          by_cases c18 : t107 = true
          · subst c18
            have H1 : (if t106.toList = t104.toList then (shipwrightlaw1_PathNorm.j0 k t102 t103 t104 true false) else (shipwrightlaw1_PathNorm.j0 k t102 t103 t104 true true)) = some r := by rw [if_pos rfl] at H; exact H
            clear H
            have H := H1
            clear H1
            by_cases c19 : t106.toList = t104.toList
            · rw [if_pos c19] at H
              have c19b0 : (t106.toList == t104.toList) = true := beq_iff_eq.mpr c19
              have c19b1 : (t106.toList != t104.toList) = false := bne_eq_false_iff_eq.mpr c19
              clear c19
              (first | rw [c19b0] | (simp only [i64_w, i32_w]; rw [c19b0]) | skip)
              have H' := Aside0.mk H
              clear H
              go_wp2_with (first | (go_at_call 19; (with_reducible refine (path_May.calls t104 true _ ?side99 A16.out).mono ?_); (case side99 => exact GOK.below HG.out (by repeat (first | (with_reducible first | exact HB.out | apply below_alloc | apply pw_below_drewN | apply below_drew1) | exact HB.out))); rintro e w20 ⟨rfl, hb⟩; have n0_ := Aside0.mk (below_step (by repeat (first | (with_reducible first | exact HB.out | apply below_alloc | apply pw_below_drewN | apply below_drew1) | exact HB.out)) hb); clear HB; have HB := n0_; clear n0_; (try clear hb); (try clear hb2); (try clear hk); (try clear hi)))
              go_meet
              case rel => exact ⟨_, (false), (by first | rfl | (simp; done) | (simp [*]; done) | (simp [bne]; done) | (simp [*, bne]; done)), H', ⟨by first | omega | exact Nat.le_refl _⟩, ⟨by repeat (first | (with_reducible first | exact HB.out | apply below_alloc | apply pw_below_drewN | apply below_drew1) | exact HB.out)⟩⟩
            · rw [if_neg c19] at H
              have c19b0 : (t106.toList == t104.toList) = false := beq_eq_false_iff_ne.mpr c19
              have c19b1 : (t106.toList != t104.toList) = true := bne_iff_ne.mpr c19
              (first | rw [c19b0] | (simp only [i64_w, i32_w]; rw [c19b0]) | skip)
              have H' := Aside0.mk H
              clear H
              go_wp2_with (first | (go_at_call 19; (with_reducible refine (path_May.calls t104 true _ ?side99 A16.out).mono ?_); (case side99 => exact GOK.below HG.out (by repeat (first | (with_reducible first | exact HB.out | apply below_alloc | apply pw_below_drewN | apply below_drew1) | exact HB.out))); rintro e w21 ⟨rfl, hb⟩; have n0_ := Aside0.mk (below_step (by repeat (first | (with_reducible first | exact HB.out | apply below_alloc | apply pw_below_drewN | apply below_drew1) | exact HB.out)) hb); clear HB; have HB := n0_; clear n0_; (try clear hb); (try clear hb2); (try clear hk); (try clear hi)))
              go_meet
              case rel => exact ⟨_, (true), (by first | rfl | (simp; done) | (simp [*]; done) | (simp [bne]; done) | (simp [*, bne]; done)), H', ⟨by first | omega | exact Nat.le_refl _⟩, ⟨by repeat (first | (with_reducible first | exact HB.out | apply below_alloc | apply pw_below_drewN | apply below_drew1) | exact HB.out)⟩⟩
          · replace c18 := Bool.eq_false_iff.mpr c18
            subst c18
            have H1 : (shipwrightlaw1_PathNorm.j0 k t102 t103 t104 true true) = some r := by rw [if_neg (show ¬ (false = true) by decide)] at H; exact H
            clear H
            have H := H1
            clear H1
            have H' := Aside0.mk H
            clear H
            go_wp2_with (first | (go_at_call 19; (with_reducible refine (path_May.calls t104 true _ ?side99 A16.out).mono ?_); (case side99 => exact GOK.below HG.out (by repeat (first | (with_reducible first | exact HB.out | apply below_alloc | apply pw_below_drewN | apply below_drew1) | exact HB.out))); rintro e w22 ⟨rfl, hb⟩; have n0_ := Aside0.mk (below_step (by repeat (first | (with_reducible first | exact HB.out | apply below_alloc | apply pw_below_drewN | apply below_drew1) | exact HB.out)) hb); clear HB; have HB := n0_; clear n0_; (try clear hb); (try clear hb2); (try clear hk); (try clear hi)))
            go_meet
            case rel => exact ⟨_, (true), (by first | rfl | (simp; done) | (simp [*]; done) | (simp [bne]; done) | (simp [*, bne]; done)), H', ⟨by first | omega | exact Nat.le_refl _⟩, ⟨by repeat (first | (with_reducible first | exact HB.out | apply below_alloc | apply pw_below_drewN | apply below_drew1) | exact HB.out)⟩⟩
        · replace c17 := Bool.eq_false_iff.mpr c17
          subst c17
          have H1 : (shipwrightlaw1_PathNorm.j0 k t102 t103 t104 true true) = some r := by rw [if_neg (show ¬ (false = true) by decide)] at H; exact H
          clear H
          have H := H1
          clear H1
          have H' := Aside0.mk H
          clear H
          go_wp2_with (first | (go_at_call 19; (with_reducible refine (path_May.calls t104 false _ ?side99 A16.out).mono ?_); (case side99 => exact GOK.below HG.out (by repeat (first | (with_reducible first | exact HB.out | apply below_alloc | apply pw_below_drewN | apply below_drew1) | exact HB.out))); rintro e w23 ⟨rfl, hb⟩; have n0_ := Aside0.mk (below_step (by repeat (first | (with_reducible first | exact HB.out | apply below_alloc | apply pw_below_drewN | apply below_drew1) | exact HB.out)) hb); clear HB; have HB := n0_; clear n0_; (try clear hb); (try clear hb2); (try clear hk); (try clear hi)))
          go_meet
          case rel => exact ⟨_, (true), (by first | rfl | (simp; done) | (simp [*]; done) | (simp [bne]; done) | (simp [*, bne]; done)), H', ⟨by first | omega | exact Nat.le_refl _⟩, ⟨by repeat (first | (with_reducible first | exact HB.out | apply below_alloc | apply pw_below_drewN | apply below_drew1) | exact HB.out)⟩⟩
      · replace c15 := Bool.eq_false_iff.mpr c15
        subst c15
        have H1 : (shipwrightlaw1_PathNorm.j0 k t102 t103 t104 false (t104.toList != ([] : List UInt8))) = some r := by rw [if_neg (show ¬ (false = true) by decide)] at H; exact H
        clear H
        have H := H1
        clear H1
        have H' := Aside0.mk H
        clear H
        go_wp2
        go_meet
        case rel => exact ⟨_, ((t104.toList != ([] : List UInt8))), (by first | rfl | (simp; done) | (simp [*]; done) | (simp [bne]; done) | (simp [*, bne]; done)), H', ⟨by first | omega | exact Nat.le_refl _⟩, ⟨by repeat (first | (with_reducible first | exact HB.out | apply below_alloc | apply pw_below_drewN | apply below_drew1) | exact HB.out)⟩⟩
    case rest =>
      clear HC9
      try clear c1
      try clear p2
      try clear c3
      try clear c4
      try clear c15
      try clear c16
      try clear c17
      try clear c18
      try clear c19
      try clear c19b0
      try clear c19b1
      obtain ⟨kq, x53_8, rfl, HA, HJ8, HB⟩ := hcut
      cases kq with
      | zero => exact absurd HA.out (by simp [shipwrightlaw1_PathNorm.j0])
      | succ kj8 =>
        have H := HA.out
        clear HA
        simp only [shipwrightlaw1_PathNorm.j0] at H
        by_cases c24 : x53_8 = true
        · subst c24
          have H1 : (some false) = some r := by rw [if_pos rfl] at H; exact H
          clear H
          have H := H1
          clear H1
          obtain rfl := Option.some.inj H
          go_wp2
          go_ret
          exact ⟨by first | rfl | (simp [errW_none, errW_some] <;> rfl) | (simp [*, errW_none, errW_some] <;> rfl), by repeat (first | (with_reducible first | exact HB.out | apply below_alloc | apply pw_below_drewN | apply below_drew1) | exact HB.out)⟩
        · replace c24 := Bool.eq_false_iff.mpr c24
          subst c24
          have H1 : ((path_May.f t102).bind fun t109 => (if t109 = true then (if t105 = true then (shipwrightlaw1_PathNorm.j1 kj8 t102 t103 (t104.toList != t102.toList)) else (shipwrightlaw1_PathNorm.j1 kj8 t102 t103 true)) else (shipwrightlaw1_PathNorm.j1 kj8 t102 t103 false))) = some r := by rw [if_neg (show ¬ (false = true) by decide)] at H; exact H
          clear H
          have H := H1
          clear H1
          have HC25 := Aside0.mk H
          clear H
          go_upto_region 9 with (fail)
          go_cut [64] (fun v64 wc => ∃ (kq : Nat) (x64_24 : Bool), v64 = .bool x64_24 ∧ Aside0 (shipwrightlaw1_PathNorm.j1 kq t102 t103 x64_24 = some r) ∧ Aside0 (kq ≤ kj8) ∧ Aside0 (Below w.heap.size w wc))
          case first =>
            have H := HC25.out
            clear HC25
            replace H := Option.bind_eq_some_iff.mp H
            obtain ⟨t109, A260, H⟩ := H
            replace H : (if t109 = true then (if t105 = true then (shipwrightlaw1_PathNorm.j1 kj8 t102 t103 (t104.toList != t102.toList)) else (shipwrightlaw1_PathNorm.j1 kj8 t102 t103 true)) else (shipwrightlaw1_PathNorm.j1 kj8 t102 t103 false)) = some r := H
            have A26 := Aside0.mk A260
            clear A260
            by_cases c27 : t109 = true
            · subst c27
              have H1 : (if t105 = true then (shipwrightlaw1_PathNorm.j1 kj8 t102 t103 (t104.toList != t102.toList)) else (shipwrightlaw1_PathNorm.j1 kj8 t102 t103 true)) = some r := by rw [if_pos rfl] at H; exact H
              clear H
              have H := H1
              clear H1
              by_cases c28 : t105 = true
              · subst c28
                have H1 : (shipwrightlaw1_PathNorm.j1 kj8 t102 t103 (t104.toList != t102.toList)) = some r := by rw [if_pos rfl] at H; exact H
                clear H
                have H := H1
                clear H1
                have H' := Aside0.mk H
                clear H
                go_wp2_with (first | ((with_reducible refine gate_callee (f := 19) rfl ?_); refine goesL_ (some 55) rfl rfl Tryz.func19 (by kernel_rfl) rfl #[.string t102] rfl (by (try simp only [List.map_toArray, List.map_cons, List.map_nil]); first | done | rfl | (simp only [List.length_drop, List.length_take]; rfl)) ?_; (with_reducible refine (path_May.calls t102 true _ ?side99 A26.out).mono ?_); (case side99 => exact GOK.below HG.out (by repeat (first | (with_reducible first | exact HB.out | apply below_alloc | apply pw_below_drewN | apply below_drew1) | exact HB.out))); rintro e w29 ⟨rfl, hb⟩; refine ⟨_, rfl, ?_⟩; have n0_ := Aside0.mk (below_step (by repeat (first | (with_reducible first | exact HB.out | apply below_alloc | apply pw_below_drewN | apply below_drew1) | exact HB.out)) hb); clear HB; have HB := n0_; clear n0_; (try clear hb); (try clear hb2); (try clear hk); (try clear hi)))
                go_meet
                case rel => exact ⟨_, ((t104.toList != t102.toList)), (by first | rfl | (simp; done) | (simp [*]; done) | (simp [bne]; done) | (simp [*, bne]; done)), H', ⟨by have := HJ8.out; first | omega | exact Nat.le_refl _⟩, ⟨by repeat (first | (with_reducible first | exact HB.out | apply below_alloc | apply pw_below_drewN | apply below_drew1) | exact HB.out)⟩⟩
              · replace c28 := Bool.eq_false_iff.mpr c28
                subst c28
                have H1 : (shipwrightlaw1_PathNorm.j1 kj8 t102 t103 true) = some r := by rw [if_neg (show ¬ (false = true) by decide)] at H; exact H
                clear H
                have H := H1
                clear H1
                have H' := Aside0.mk H
                clear H
                go_wp2_with (first | ((with_reducible refine gate_callee (f := 19) rfl ?_); refine goesL_ (some 55) rfl rfl Tryz.func19 (by kernel_rfl) rfl #[.string t102] rfl (by (try simp only [List.map_toArray, List.map_cons, List.map_nil]); first | done | rfl | (simp only [List.length_drop, List.length_take]; rfl)) ?_; (with_reducible refine (path_May.calls t102 true _ ?side99 A26.out).mono ?_); (case side99 => exact GOK.below HG.out (by repeat (first | (with_reducible first | exact HB.out | apply below_alloc | apply pw_below_drewN | apply below_drew1) | exact HB.out))); rintro e w30 ⟨rfl, hb⟩; refine ⟨_, rfl, ?_⟩; have n0_ := Aside0.mk (below_step (by repeat (first | (with_reducible first | exact HB.out | apply below_alloc | apply pw_below_drewN | apply below_drew1) | exact HB.out)) hb); clear HB; have HB := n0_; clear n0_; (try clear hb); (try clear hb2); (try clear hk); (try clear hi)))
                go_meet
                case rel => exact ⟨_, (true), (by first | rfl | (simp; done) | (simp [*]; done) | (simp [bne]; done) | (simp [*, bne]; done)), H', ⟨by have := HJ8.out; first | omega | exact Nat.le_refl _⟩, ⟨by repeat (first | (with_reducible first | exact HB.out | apply below_alloc | apply pw_below_drewN | apply below_drew1) | exact HB.out)⟩⟩
            · replace c27 := Bool.eq_false_iff.mpr c27
              subst c27
              have H1 : (shipwrightlaw1_PathNorm.j1 kj8 t102 t103 false) = some r := by rw [if_neg (show ¬ (false = true) by decide)] at H; exact H
              clear H
              have H := H1
              clear H1
              have H' := Aside0.mk H
              clear H
              go_wp2_with (first | ((with_reducible refine gate_callee (f := 19) rfl ?_); refine goesL_ (some 55) rfl rfl Tryz.func19 (by kernel_rfl) rfl #[.string t102] rfl (by (try simp only [List.map_toArray, List.map_cons, List.map_nil]); first | done | rfl | (simp only [List.length_drop, List.length_take]; rfl)) ?_; (with_reducible refine (path_May.calls t102 false _ ?side99 A26.out).mono ?_); (case side99 => exact GOK.below HG.out (by repeat (first | (with_reducible first | exact HB.out | apply below_alloc | apply pw_below_drewN | apply below_drew1) | exact HB.out))); rintro e w31 ⟨rfl, hb⟩; refine ⟨_, rfl, ?_⟩; have n0_ := Aside0.mk (below_step (by repeat (first | (with_reducible first | exact HB.out | apply below_alloc | apply pw_below_drewN | apply below_drew1) | exact HB.out)) hb); clear HB; have HB := n0_; clear n0_; (try clear hb); (try clear hb2); (try clear hk); (try clear hi)))
              go_meet
              case rel => exact ⟨_, (false), (by first | rfl | (simp; done) | (simp [*]; done) | (simp [bne]; done) | (simp [*, bne]; done)), H', ⟨by have := HJ8.out; first | omega | exact Nat.le_refl _⟩, ⟨by repeat (first | (with_reducible first | exact HB.out | apply below_alloc | apply pw_below_drewN | apply below_drew1) | exact HB.out)⟩⟩
          case rest =>
            clear HC25
            try clear c1
            try clear c2
            try clear p2
            try clear c3
            try clear c4
            try clear c15
            try clear c16
            try clear c17
            try clear c18
            try clear c19
            try clear c19b0
            try clear c19b1
            try clear c24
            try clear c27
            try clear c28
            try clear p2
            obtain ⟨kq, x64_24, rfl, HA, HJ24, HB⟩ := hcut
            cases kq with
            | zero => exact absurd HA.out (by simp [shipwrightlaw1_PathNorm.j1])
            | succ kj24 =>
              have H := HA.out
              clear HA
              simp only [shipwrightlaw1_PathNorm.j1] at H
              by_cases c32 : x64_24 = true
              · subst c32
                have H1 : (some false) = some r := by rw [if_pos rfl] at H; exact H
                clear H
                have H := H1
                clear H1
                obtain rfl := Option.some.inj H
                go_wp2
                go_ret
                exact ⟨by first | rfl | (simp [errW_none, errW_some] <;> rfl) | (simp [*, errW_none, errW_some] <;> rfl), by repeat (first | (with_reducible first | exact HB.out | apply below_alloc | apply pw_below_drewN | apply below_drew1) | exact HB.out)⟩
              · replace c32 := Bool.eq_false_iff.mpr c32
                subst c32
                have H1 : (if t102.size + 3 ≤ 9223372036854775807 then (if (t102 ++ (⟨#[47, 46, 47]⟩ : ByteArray)).size + t103.size ≤ 9223372036854775807 then (if ((t102 ++ (⟨#[47, 46, 47]⟩ : ByteArray)) ++ t103).size + 2 ≤ 9223372036854775807 then ((path_Norm.f kj24 (((t102 ++ (⟨#[47, 46, 47]⟩ : ByteArray)) ++ t103) ++ (⟨#[47, 47]⟩ : ByteArray))).bind fun bt110 => (if t102.size + 1 ≤ 9223372036854775807 then (if (t102 ++ (⟨#[47]⟩ : ByteArray)).size + t103.size ≤ 9223372036854775807 then ((path_Norm.f kj24 ((t102 ++ (⟨#[47]⟩ : ByteArray)) ++ t103)).bind fun bt112 => (if bt110.1.toList = bt112.1.toList then (some (bt110.2 == bt112.2)) else (some false))) else (none)) else (none))) else (none)) else (none)) else (none)) = some r := by rw [if_neg (show ¬ (false = true) by decide)] at H; exact H
                clear H
                have H := H1
                clear H1
                by_cases c33 : t102.size + 3 ≤ 9223372036854775807
                · rw [if_pos c33] at H
                  have c33b0 := eq_true c33
                  have c33b1 : decide (t102.size + 3 ≤ 9223372036854775807) = true := decide_eq_true c33
                  try have c33b2 : (9223372036854775807 < t102.size + 3) = False := eq_false (Nat.not_lt.2 c33)
                  try (have c33b3 := c33b2; simp only [ByteArray.size_append, mk_lit_size, List.size_toArray, List.length_cons, List.length_nil, Nat.reduceAdd, Nat.zero_add] at c33b3)
                  by_cases c34 : (t102 ++ (⟨#[47, 46, 47]⟩ : ByteArray)).size + t103.size ≤ 9223372036854775807
                  · rw [if_pos c34] at H
                    have c34b0 := eq_true c34
                    have c34b1 : decide ((t102 ++ (⟨#[47, 46, 47]⟩ : ByteArray)).size + t103.size ≤ 9223372036854775807) = true := decide_eq_true c34
                    try have c34b2 : (9223372036854775807 < (t102 ++ (⟨#[47, 46, 47]⟩ : ByteArray)).size + t103.size) = False := eq_false (Nat.not_lt.2 c34)
                    try (have c34b3 := c34b2; simp only [ByteArray.size_append, mk_lit_size, List.size_toArray, List.length_cons, List.length_nil, Nat.reduceAdd, Nat.zero_add] at c34b3)
                    by_cases c35 : ((t102 ++ (⟨#[47, 46, 47]⟩ : ByteArray)) ++ t103).size + 2 ≤ 9223372036854775807
                    · rw [if_pos c35] at H
                      have c35b0 := eq_true c35
                      have c35b1 : decide (((t102 ++ (⟨#[47, 46, 47]⟩ : ByteArray)) ++ t103).size + 2 ≤ 9223372036854775807) = true := decide_eq_true c35
                      try have c35b2 : (9223372036854775807 < ((t102 ++ (⟨#[47, 46, 47]⟩ : ByteArray)) ++ t103).size + 2) = False := eq_false (Nat.not_lt.2 c35)
                      try (have c35b3 := c35b2; simp only [ByteArray.size_append, mk_lit_size, List.size_toArray, List.length_cons, List.length_nil, Nat.reduceAdd, Nat.zero_add] at c35b3)
                      replace H := Option.bind_eq_some_iff.mp H
                      obtain ⟨⟨t110, t111⟩, A360, H⟩ := H
                      replace H : (if t102.size + 1 ≤ 9223372036854775807 then (if (t102 ++ (⟨#[47]⟩ : ByteArray)).size + t103.size ≤ 9223372036854775807 then ((path_Norm.f kj24 ((t102 ++ (⟨#[47]⟩ : ByteArray)) ++ t103)).bind fun bt112 => (if t110.toList = bt112.1.toList then (some (t111 == bt112.2)) else (some false))) else (none)) else (none)) = some r := H
                      have A36 := Aside0.mk A360
                      clear A360
                      by_cases c37 : t102.size + 1 ≤ 9223372036854775807
                      · rw [if_pos c37] at H
                        have c37b0 := eq_true c37
                        have c37b1 : decide (t102.size + 1 ≤ 9223372036854775807) = true := decide_eq_true c37
                        try have c37b2 : (9223372036854775807 < t102.size + 1) = False := eq_false (Nat.not_lt.2 c37)
                        try (have c37b3 := c37b2; simp only [ByteArray.size_append, mk_lit_size, List.size_toArray, List.length_cons, List.length_nil, Nat.reduceAdd, Nat.zero_add] at c37b3)
                        by_cases c38 : (t102 ++ (⟨#[47]⟩ : ByteArray)).size + t103.size ≤ 9223372036854775807
                        · rw [if_pos c38] at H
                          have c38b0 := eq_true c38
                          have c38b1 : decide ((t102 ++ (⟨#[47]⟩ : ByteArray)).size + t103.size ≤ 9223372036854775807) = true := decide_eq_true c38
                          try have c38b2 : (9223372036854775807 < (t102 ++ (⟨#[47]⟩ : ByteArray)).size + t103.size) = False := eq_false (Nat.not_lt.2 c38)
                          try (have c38b3 := c38b2; simp only [ByteArray.size_append, mk_lit_size, List.size_toArray, List.length_cons, List.length_nil, Nat.reduceAdd, Nat.zero_add] at c38b3)
                          replace H := Option.bind_eq_some_iff.mp H
                          obtain ⟨⟨t112, t113⟩, A390, H⟩ := H
                          replace H : (if t110.toList = t112.toList then (some (t111 == t113)) else (some false)) = some r := H
                          have A39 := Aside0.mk A390
                          clear A390
                          by_cases c40 : t110.toList = t112.toList
                          · rw [if_pos c40] at H
                            have c40b0 : (t110.toList == t112.toList) = true := beq_iff_eq.mpr c40
                            have c40b1 : (t110.toList != t112.toList) = false := bne_eq_false_iff_eq.mpr c40
                            clear c40
                            obtain rfl := Option.some.inj H
                            go_wp2_with (first | ((with_reducible refine gate_callee (f := 18) rfl ?_); refine goesL_ (some 71) rfl rfl Tryz.func18 (by kernel_rfl) rfl #[.string (((t102 ++ (⟨#[47, 46, 47]⟩ : ByteArray)) ++ t103) ++ (⟨#[47, 47]⟩ : ByteArray))] rfl (by (try simp only [List.map_toArray, List.map_cons, List.map_nil]); first | done | rfl | (simp only [List.length_drop, List.length_take]; rfl)) ?_; (with_reducible refine (path_Norm.calls kj24 (((t102 ++ (⟨#[47, 46, 47]⟩ : ByteArray)) ++ t103) ++ (⟨#[47, 47]⟩ : ByteArray)) t110 t111 _ ?side99 A36.out).mono ?_); (case side99 => exact GOK.below HG.out (by repeat (first | (with_reducible first | exact HB.out | apply below_alloc | apply pw_below_drewN | apply below_drew1) | exact HB.out))); rintro e w41 ⟨rfl, hb⟩; refine ⟨_, rfl, ?_⟩; have n0_ := Aside0.mk (below_step (by repeat (first | (with_reducible first | exact HB.out | apply below_alloc | apply pw_below_drewN | apply below_drew1) | exact HB.out)) hb); clear HB; have HB := n0_; clear n0_; (try clear hb); (try clear hb2); (try clear hk); (try clear hi)) | ((with_reducible refine gate_callee (f := 18) rfl ?_); refine goesL_ (some 79) rfl rfl Tryz.func18 (by kernel_rfl) rfl #[.string ((t102 ++ (⟨#[47]⟩ : ByteArray)) ++ t103)] rfl (by (try simp only [List.map_toArray, List.map_cons, List.map_nil]); first | done | rfl | (simp only [List.length_drop, List.length_take]; rfl)) ?_; (with_reducible refine (path_Norm.calls kj24 ((t102 ++ (⟨#[47]⟩ : ByteArray)) ++ t103) t112 t113 _ ?side99 A39.out).mono ?_); (case side99 => exact GOK.below HG.out (by repeat (first | (with_reducible first | exact HB.out | apply below_alloc | apply pw_below_drewN | apply below_drew1) | exact HB.out))); rintro e w42 ⟨rfl, hb⟩; refine ⟨_, rfl, ?_⟩; have n0_ := Aside0.mk (below_step (by repeat (first | (with_reducible first | exact HB.out | apply below_alloc | apply pw_below_drewN | apply below_drew1) | exact HB.out)) hb); clear HB; have HB := n0_; clear n0_; (try clear hb); (try clear hb2); (try clear hk); (try clear hi)))
                            go_ret
                            exact ⟨by first | rfl | (simp [errW_none, errW_some] <;> rfl) | (simp [*, errW_none, errW_some] <;> rfl), by repeat (first | (with_reducible first | exact HB.out | apply below_alloc | apply pw_below_drewN | apply below_drew1) | exact HB.out)⟩
                          · rw [if_neg c40] at H
                            have c40b0 : (t110.toList == t112.toList) = false := beq_eq_false_iff_ne.mpr c40
                            have c40b1 : (t110.toList != t112.toList) = true := bne_iff_ne.mpr c40
                            obtain rfl := Option.some.inj H
                            go_wp2_with (first | ((with_reducible refine gate_callee (f := 18) rfl ?_); refine goesL_ (some 71) rfl rfl Tryz.func18 (by kernel_rfl) rfl #[.string (((t102 ++ (⟨#[47, 46, 47]⟩ : ByteArray)) ++ t103) ++ (⟨#[47, 47]⟩ : ByteArray))] rfl (by (try simp only [List.map_toArray, List.map_cons, List.map_nil]); first | done | rfl | (simp only [List.length_drop, List.length_take]; rfl)) ?_; (with_reducible refine (path_Norm.calls kj24 (((t102 ++ (⟨#[47, 46, 47]⟩ : ByteArray)) ++ t103) ++ (⟨#[47, 47]⟩ : ByteArray)) t110 t111 _ ?side99 A36.out).mono ?_); (case side99 => exact GOK.below HG.out (by repeat (first | (with_reducible first | exact HB.out | apply below_alloc | apply pw_below_drewN | apply below_drew1) | exact HB.out))); rintro e w43 ⟨rfl, hb⟩; refine ⟨_, rfl, ?_⟩; have n0_ := Aside0.mk (below_step (by repeat (first | (with_reducible first | exact HB.out | apply below_alloc | apply pw_below_drewN | apply below_drew1) | exact HB.out)) hb); clear HB; have HB := n0_; clear n0_; (try clear hb); (try clear hb2); (try clear hk); (try clear hi)) | ((with_reducible refine gate_callee (f := 18) rfl ?_); refine goesL_ (some 79) rfl rfl Tryz.func18 (by kernel_rfl) rfl #[.string ((t102 ++ (⟨#[47]⟩ : ByteArray)) ++ t103)] rfl (by (try simp only [List.map_toArray, List.map_cons, List.map_nil]); first | done | rfl | (simp only [List.length_drop, List.length_take]; rfl)) ?_; (with_reducible refine (path_Norm.calls kj24 ((t102 ++ (⟨#[47]⟩ : ByteArray)) ++ t103) t112 t113 _ ?side99 A39.out).mono ?_); (case side99 => exact GOK.below HG.out (by repeat (first | (with_reducible first | exact HB.out | apply below_alloc | apply pw_below_drewN | apply below_drew1) | exact HB.out))); rintro e w44 ⟨rfl, hb⟩; refine ⟨_, rfl, ?_⟩; have n0_ := Aside0.mk (below_step (by repeat (first | (with_reducible first | exact HB.out | apply below_alloc | apply pw_below_drewN | apply below_drew1) | exact HB.out)) hb); clear HB; have HB := n0_; clear n0_; (try clear hb); (try clear hb2); (try clear hk); (try clear hi)))
                            go_ret
                            exact ⟨by first | rfl | (simp [errW_none, errW_some] <;> rfl) | (simp [*, errW_none, errW_some] <;> rfl), by repeat (first | (with_reducible first | exact HB.out | apply below_alloc | apply pw_below_drewN | apply below_drew1) | exact HB.out)⟩
                        · rw [if_neg c38] at H
                          exact absurd H (by simp)
                      · rw [if_neg c37] at H
                        exact absurd H (by simp)
                    · rw [if_neg c35] at H
                      exact absurd H (by simp)
                  · rw [if_neg c34] at H
                    exact absurd H (by simp)
                · rw [if_neg c33] at H
                  exact absurd H (by simp)
  · replace c4 := Bool.eq_false_iff.mpr c4
    subst c4
    have H1 : (some false) = some r := by rw [if_neg (show ¬ (false = true) by decide)] at H; exact H
    clear H
    have H := H1
    clear H1
    obtain rfl := Option.some.inj H
    go_enter Tryz.func3, Tryz.ntmps3
    go_wp2_with (first | ((with_reducible refine gate_callee (f := 16) rfl ?_); refine goesL_ (some 14) rfl rfl Tryz.func16 (by kernel_rfl) rfl #[] rfl (by (try simp only [List.map_toArray, List.map_cons, List.map_nil]); first | done | rfl | (simp only [List.length_drop, List.length_take]; rfl)) ?_; (with_reducible refine (shipwrightlaw1_begun.calls  false _ ?side99 A3.out).mono ?_); (case side99 => exact GOK.below HG.out (by repeat (first | (with_reducible first | exact HB.out | apply below_alloc | apply pw_below_drewN | apply below_drew1) | exact HB.out))); rintro e w45 ⟨rfl, hb⟩; refine ⟨_, rfl, ?_⟩; have n0_ := Aside0.mk (below_step (by repeat (first | (with_reducible first | exact HB.out | apply below_alloc | apply pw_below_drewN | apply below_drew1) | exact HB.out)) hb); clear HB; have HB := n0_; clear n0_; (try clear hb); (try clear hb2); (try clear hk); (try clear hi)))
    go_ret
    exact ⟨by first | rfl | (simp [errW_none, errW_some] <;> rfl) | (simp [*, errW_none, errW_some] <;> rfl), by repeat (first | (with_reducible first | exact HB.out | apply below_alloc | apply pw_below_drewN | apply below_drew1) | exact HB.out)⟩

end Go.Proofs.YtobbliglnjgbaaaGreatDoor.Lc
