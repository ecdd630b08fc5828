-- By xprint.py (this session's driver of the kit's print): out of the translation; Lean checks it.
import Derived.Test.YtobbliglnjgbaaaGreatDoorProg
import Derived.Below
import Derived.Deep.Draws
import Derived.Deep.AppendLies
import Derived.Maps.AppendAt
import Derived.OwnWalk
import Derived.Laws.BytesArg
import Derived.Laws.MakeOwn
import Derived.Laws.OwnMore
import Derived.Deep.OwnRows
import Derived.Tactics
import Derived.Lib.ConvBytes
import Derived.Laws.Slices
import Derived.WalkKit
import Derived.KernelRfl
import Derived.RowKit3
import Derived.Deep.LoopGhost
import Derived.Deep.QuietTactic
import Derived.BigQuiet
import Derived.WideLaws
import Derived.Deep.DeepCutAuto
import Derived.Deep.CutBlock
import Derived.Deep.RegionHeld3
import Derived.Laws.Rows
import Derived.Lib.AppendStr
import Derived.ArgAppend
import Derived.Laws.IdiomCopy
import Derived.OrdersHeld
import Derived.Laws.BitsLemmas
import Derived.RowKit
import Derived.Test.YtobbliglnjgbaaaGreatDoorBegun
import Derived.Test.YtobbliglnjgbaaaGreatDoorWWords
import Derived.Test.YtobbliglnjgbaaaGreatDoorWLast
import Derived.Test.YtobbliglnjgbaaaGreatDoorWTab
import Derived.Test.YtobbliglnjgbaaaGreatDoorWFour
import Derived.Test.YtobbliglnjgbaaaGreatDoorWQPut
import Derived.Test.YtobbliglnjgbaaaGreatDoorWApart
import Derived.Test.YtobbliglnjgbaaaGreatDoorWArr
import Derived.Test.YtobbliglnjgbaaaGreatDoorWZeros
import Derived.Test.YtobbliglnjgbaaaGreatDoorWFoot
import Derived.Test.YtobbliglnjgbaaaGreatDoorWKept
import Derived.Test.YtobbliglnjgbaaaGreatDoorWShare
import Derived.Test.YtobbliglnjgbaaaGreatDoorWN
import Derived.Test.YtobbliglnjgbaaaGreatDoorWFootNe
import Derived.Test.YtobbliglnjgbaaaGreatDoorWAt
import Derived.Test.YtobbliglnjgbaaaGreatDoorWEqStruct
import Derived.Test.YtobbliglnjgbaaaGreatDoorWRepsOne
import Derived.Test.YtobbliglnjgbaaaGreatDoorWInv
import Derived.Test.YtobbliglnjgbaaaGreatDoorWInvWords
import Derived.Test.YtobbliglnjgbaaaGreatDoorWGuard
import Derived.Test.YtobbliglnjgbaaaGreatDoorWNEv
import Derived.Test.YtobbliglnjgbaaaGreatDoorWMore
import Derived.Test.YtobbliglnjgbaaaGreatDoorWSized
namespace Go.Proofs.YtobbliglnjgbaaaGreatDoor.Pf
open Go.Proofs.YtobbliglnjgbaaaGreatDoor.X Go.Proofs.YtobbliglnjgbaaaGreatDoor.Pb Go.Proofs.YtobbliglnjgbaaaGreatDoor.Pc
open Go.RowKit Go.Proofs.YtobbliglnjgbaaaGreatDoorW.PrintWords Go.Proofs.YtobbliglnjgbaaaGreatDoorW.PrintLast Go.Proofs.YtobbliglnjgbaaaGreatDoorW.PrintMore
attribute [local go_sem] max2_int min2_int max_two min_two max_three min_three max_four min_four   -- for this text's walks alone
set_option linter.unusedVariables false
set_option linter.unusedSimpArgs false



def errW : Option Int → Value
  | none => .nilIface
  | some c => .iface 0 (.int .i64 c)
theorem errW_none : errW none = .nilIface := rfl
theorem errW_some (c : Int) : errW (some c) = .iface 0 (.int .i64 c) := rfl

-- the values' own types

end Go.Proofs.YtobbliglnjgbaaaGreatDoor.Pf
namespace Go.Proofs.YtobbliglnjgbaaaGreatDoor.Pf
open Go.Proofs.YtobbliglnjgbaaaGreatDoor.X Go.Proofs.YtobbliglnjgbaaaGreatDoor.Pb Go.Proofs.YtobbliglnjgbaaaGreatDoor.Pc
open Go.RowKit Go.Proofs.YtobbliglnjgbaaaGreatDoorW.PrintWords Go.Proofs.YtobbliglnjgbaaaGreatDoorW.PrintLast Go.Proofs.YtobbliglnjgbaaaGreatDoorW.PrintMore
attribute [local go_sem] max2_int min2_int max_two min_two max_three min_three max_four min_four   -- for this text's walks alone
set_option linter.unusedVariables false
set_option linter.unusedSimpArgs false
theorem mk_lit_size (a : Array UInt8) : (ByteArray.mk a).size = a.size := rfl

/-! ### shipwrightref1_Number: function 27 -/
def shipwrightref1_Number.f : Nat → Int → Option (ByteArray)
  | 0, _ => none
  | k + 1, a0 => if a0 < 10 then (some (strOfNums (([(wrap64 (48 + (mx a0 0))) % 256] : List Int)))) else ((shipwrightref1_Number.f k (wrap64 (Int.tdiv a0 10))).bind fun t104 => ((shipwrightref1_Number.f k (Int.tmod a0 10)).bind fun t105 => (if t104.size + t105.size ≤ 9223372036854775807 then (some (t104 ++ t105)) else (none))))
theorem shipwrightref1_Number.mono_l : ∀ k, (∀ y0, LeO (shipwrightref1_Number.f k y0) (shipwrightref1_Number.f (k + 1) y0))
  | 0 => fun _ r h => by simp [shipwrightref1_Number.f] at h
  | k + 1 => by
    have ih0 := shipwrightref1_Number.mono_l k
    · intro y0
      unfold shipwrightref1_Number.f
      repeat' first
      | (with_reducible exact ih0 _)
      | (with_reducible exact LeO.refl _)
      | (with_reducible exact LeO.none _)
      | (with_reducible refine LeO.ite ?_ ?_)
      | (with_reducible refine LeO.bind ?_ (fun _ => ?_))
      | exact ih0 _
      | exact LeO.none _
      | refine LeO.ite ?_ ?_
      | refine LeO.bind ?_ (fun _ => ?_)
theorem shipwrightref1_Number.mono : ∀ a0 k, LeO (shipwrightref1_Number.f k a0) (shipwrightref1_Number.f (k + 1) a0) := by
  intro a0 k
  have ih0 := shipwrightref1_Number.mono_l k
  exact ih0 a0
set_option maxHeartbeats 8000000 in
set_option maxRecDepth 100000 in
theorem shipwrightref1_Number.calls (k : Nat) : ∀ (a0 : Int) (r : ByteArray) (w : World) (hG : GOK w) (h : shipwrightref1_Number.f k a0 = some r),
    Calls Tryz.prog 27 #[.int .i64 a0] w fun e w' => e = .returned (.string r) ∧ Below w.heap.size w w' := by
  induction k using Nat.strongRecOn with
  | _ k ih =>
  intro a0 r w hG h
  cases k with
  | zero => exact absurd h (by simp [shipwrightref1_Number.f])
  | succ k =>
  simp only [shipwrightref1_Number.f] at h
  have HB := Aside0.mk (Below.refl w.heap.size w)
  have HG := Aside0.mk hG
  clear hG
  have H : (if a0 < 10 then (some (strOfNums (([(wrap64 (48 + (mx a0 0))) % 256] : List Int)))) else ((shipwrightref1_Number.f k (wrap64 (Int.tdiv a0 10))).bind fun t104 => ((shipwrightref1_Number.f k (Int.tmod a0 10)).bind fun t105 => (if t104.size + t105.size ≤ 9223372036854775807 then (some (t104 ++ t105)) else (none))))) = some r := h
  clear h
  by_cases c2 : a0 < 10
  · rw [if_pos c2] at H
    have c2b0 : decide (a0 < 10) = true := decide_eq_true c2
    clear c2
    obtain ⟨ji3, hji3⟩ : ∃ j_ : Int, (mx a0 0) = j_ := ⟨_, rfl⟩
    replace H : (some (strOfNums (([(wrap64 (48 + (ji3))) % 256] : List Int)))) = some r := by first | (rw [hji3] at H; exact H) | (simp only [hji3] at H ⊢; exact H)
    (try (have hji3l : 0 ≤ ji3 := by (rw [← hji3]; unfold mx; (repeat' split) <;> omega)))
    (try (have hji3m : 0 ≤ ji3 := by omega))
    have hji3_ : (if a0 < 0 then 0 else a0) = ji3 := hji3
    obtain ⟨y101, hy101⟩ : ∃ y_ : List Int, y_ = (([(wrap64 (48 + (ji3))) % 256] : List Int)) := ⟨_, rfl⟩
    replace H : (some (strOfNums y101)) = some r := by first | (rw [hy101]; with_reducible exact H) | (have H2_ := (Option.bind_some _ _).symm.trans H; rw [hy101]; with_reducible exact H2_) | (have H2_ := (Option.bind_some _ _).symm.trans H; with_reducible exact H2_) | with_reducible exact H | (rw [hy101]; exact H) | exact H
    have Ny101 := Aside0.mk hy101
    clear hy101
    obtain rfl := Option.some.inj H
    go_enter Tryz.func27, Tryz.ntmps27
    go_wp2_with (first | ((with_reducible refine gate_dst (N := 9) rfl ?_); refine Kd.R_lit (Kd.int .u8) _ 5 ?hg (N := 9) ?hd (xs := ([(wrap64 (48 + (ji3))) % 256] : List Int)) (inner := [.int .u8 ((wrap64 (48 + (ji3))) % 256)]) (ok := fun _ => True) (okp := fun _ => True) ?hr ?hp (fun _ hk => hk) trivial (Below.refl _ _) (Nat.le_refl _) (by simp) ?_; (case hd => rfl); (case hg => rfl); (case hr => first | (go_simp; done) | (go_simp; rfl)); (case hp => exact (Reps.one (show Kd.M (Kd.int .u8) _ _ _ ((wrap64 (48 + (ji3))) % 256) [.int .u8 ((wrap64 (48 + (ji3))) % 256)] from rfl) (Reps.none _ _))); intro v102 w4 ho5 hb hg_ hnew_; clear hg_ hnew_; (first | rw [← Ny101.out] at ho5 | (simp only [Int.reduceToNat] at ho5; rw [← Ny101.out] at ho5)); have n0_ := Aside0.mk (Kd.R_lower ho5 (below_size (by repeat (first | (with_reducible first | exact HB.out | apply below_alloc | apply pw_below_drewN | apply below_drew1) | exact HB.out)))); have n1_ := Aside0.mk (below_step (by repeat (first | (with_reducible first | exact HB.out | apply below_alloc | apply pw_below_drewN | apply below_drew1) | exact HB.out)) hb); clear HB; have HO103 := n0_; have HB := n1_; clear n0_ n1_; clear hb ho5; have hcv6 := own_string (P := Tryz.prog) Tryz.underlying43 Tryz.underlying5 Tryz.underlying9 (Kd.own_of_R HO103.out)))
    go_ret
    exact ⟨by first | rfl | (simp [errW_none, errW_some] <;> rfl) | (simp only [← hji3]; first | rfl | (simp [errW_none, errW_some] <;> rfl)) | (simp [*, errW_none, errW_some] <;> rfl), by repeat (first | (with_reducible first | exact HB.out | apply below_alloc | apply pw_below_drewN | apply below_drew1) | exact HB.out)⟩
  · rw [if_neg c2] at H
    have c2b0 : decide (a0 < 10) = false := decide_eq_false c2
    clear c2
    replace H := Option.bind_eq_some_iff.mp H
    obtain ⟨t104, A70, H⟩ := H
    replace H : ((shipwrightref1_Number.f k (Int.tmod a0 10)).bind fun t105 => (if t104.size + t105.size ≤ 9223372036854775807 then (some (t104 ++ t105)) else (none))) = some r := H
    have A7 := Aside0.mk A70
    clear A70
    replace H := Option.bind_eq_some_iff.mp H
    obtain ⟨t105, A80, H⟩ := H
    replace H : (if t104.size + t105.size ≤ 9223372036854775807 then (some (t104 ++ t105)) else (none)) = some r := H
    have A8 := Aside0.mk A80
    clear A80
    by_cases c9 : t104.size + t105.size ≤ 9223372036854775807
    · rw [if_pos c9] at H
      have c9b0 := eq_true c9
      have c9b1 : decide (t104.size + t105.size ≤ 9223372036854775807) = true := decide_eq_true c9
      try have c9b2 : (9223372036854775807 < t104.size + t105.size) = False := eq_false (Nat.not_lt.2 c9)
      try (have c9b3 := c9b2; simp only [ByteArray.size_append, mk_lit_size, List.size_toArray, List.length_cons, List.length_nil, Nat.reduceAdd, Nat.zero_add] at c9b3)
      obtain rfl := Option.some.inj H
      go_enter Tryz.func27, Tryz.ntmps27
      go_wp2_with (first | ((with_reducible refine gate_callee (f := 27) rfl ?_); refine goesL_ (some 13) rfl rfl Tryz.func27 (by kernel_rfl) rfl #[.int .i64 (wrap64 (Int.tdiv a0 10))] rfl (by (try simp only [List.map_toArray, List.map_cons, List.map_nil]); first | done | rfl | (simp only [List.length_drop, List.length_take]; rfl)) ?_; (with_reducible refine (ih k (by omega) (wrap64 (Int.tdiv a0 10)) t104 _ ?side99 A7.out).mono ?_); (case side99 => exact GOK.below HG.out (by repeat (first | (with_reducible first | exact HB.out | apply below_alloc | apply pw_below_drewN | apply below_drew1) | exact HB.out))); rintro e w10 ⟨rfl, hb⟩; refine ⟨_, rfl, ?_⟩; have n0_ := Aside0.mk (below_step (by repeat (first | (with_reducible first | exact HB.out | apply below_alloc | apply pw_below_drewN | apply below_drew1) | exact HB.out)) hb); clear HB; have HB := n0_; clear n0_; (try clear hb); (try clear hb2); (try clear hk); (try clear hi)) | ((with_reducible refine gate_callee (f := 27) rfl ?_); refine goesL_ (some 16) rfl rfl Tryz.func27 (by kernel_rfl) rfl #[.int .i64 (Int.tmod a0 10)] rfl (by (try simp only [List.map_toArray, List.map_cons, List.map_nil]); first | done | rfl | (simp only [List.length_drop, List.length_take]; rfl)) ?_; (with_reducible refine (ih k (by omega) (Int.tmod a0 10) t105 _ ?side99 A8.out).mono ?_); (case side99 => exact GOK.below HG.out (by repeat (first | (with_reducible first | exact HB.out | apply below_alloc | apply pw_below_drewN | apply below_drew1) | exact HB.out))); rintro e w11 ⟨rfl, hb⟩; refine ⟨_, rfl, ?_⟩; have n0_ := Aside0.mk (below_step (by repeat (first | (with_reducible first | exact HB.out | apply below_alloc | apply pw_below_drewN | apply below_drew1) | exact HB.out)) hb); clear HB; have HB := n0_; clear n0_; (try clear hb); (try clear hb2); (try clear hk); (try clear hi)))
      go_ret
      exact ⟨by first | rfl | (simp [errW_none, errW_some] <;> rfl) | (simp [*, errW_none, errW_some] <;> rfl), by repeat (first | (with_reducible first | exact HB.out | apply below_alloc | apply pw_below_drewN | apply below_drew1) | exact HB.out)⟩
    · rw [if_neg c9] at H
      exact absurd H (by simp)

end Go.Proofs.YtobbliglnjgbaaaGreatDoor.Pf
