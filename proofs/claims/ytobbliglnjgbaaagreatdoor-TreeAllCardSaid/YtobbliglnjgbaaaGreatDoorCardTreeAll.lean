/-
  The tied card of TreeAll, out of its walk and its plain law. Written by xcard.py.
-/
import Derived.Test.YtobbliglnjgbaaaGreatDoorCards
import Derived.Test.YtobbliglnjgbaaaGreatDoorTie
import Derived.Test.YtobbliglnjgbaaaGreatDoorV5
import Derived.WalkKit
import Derived.ProofKit
import Derived.OpenShut
import Derived.ShutString
import Derived.ChangeOld
import Derived.Below
import Derived.SizedLaws
import Derived.Deep.DeepHandedRow
import Derived.Deep.DeepWitnessRowRef
import Derived.SevenTiedAt
namespace Go.Proofs.YtobbliglnjgbaaaGreatDoor.treeAllCard
open Go.ChangeShapes Go.WideShapes Go.ChangeAt Go.RowKit Go.Proofs.YtobbliglnjgbaaaGreatDoor.X
open Go.ChangeMaps (open_string shut_string)
set_option linter.unusedVariables false
theorem reads (os : Os) {H : Type} (enc : TypeId × Value → H) : ∃ places, DataW.whole enc Tryz.prog ((startW os).forCall (fun _ _ => 0) ⟨#[], #[.slice none 0 0, .slice none 0 0], []⟩).memory Tryz.f13.params.toList Rows.treeAllSpec.vars false #[(.slice none 0 0 : Value), (.slice none 0 0 : Value)].toList 8 = some ([.nil, .nil], [], places) :=
  ⟨[], by kernel_rfl⟩
set_option maxRecDepth 100000 in
theorem lifted (os : Os) (started : os.Started) (H : Type) (enc : TypeId × Value → H) (F : Stop.Interp) :
    ReturnsInHanded {} Tryz.checked os 13 .any ((OpenSpec.ofChange Rows.treeAllSpec).preRow enc Tryz.prog Tryz.f13 Rows.treeAllRow.domain false Rows.treeAllRow.laid) (((OpenSpec.ofChange Rows.treeAllSpec).at F).post enc Tryz.prog Tryz.f13 false true false false) := by
  obtain ⟨places, hx⟩ := reads os enc
  refine returnsInHanded_of_row (C := Tryz.checked) (s := (OpenSpec.ofChange Rows.treeAllSpec)) own started (by kernel_rfl) Tryz.func13
    (witness_row_atRef (enc := enc) (C := Tryz.checked) false (startW os) #[.slice none 0 0, .slice none 0 0] rfl (by kernel_rfl) (by kernel_rfl) (by kernel_rfl)
      (OpenSpec.preRow_of_cond 8 hx (by kernel_rfl) (fun k hk => by cases hk) (by kernel_rfl) (start_met os _))) ?_
  intro W base args ds gs before hval0 hW _ hcnd hsz0 hL hS _
  have hsz : (DataW.weightsEach Tryz.prog (Tryz.f13.params.toList ++ Rows.treeAllSpec.plain.varTypes Tryz.prog) (ds ++ gs)).all (· ≤ reachBytes) = true := hsz0
  have hval : ∀ (j : Nat) t v, Tryz.f13.params[j]? = some t → args[j]? = some v → Value.okWide Tryz.prog W .any base t v := hval0
  have hW' := hW
  obtain ⟨p, q, hA0, hV, rfl, hfz, hnd⟩ := hW
  have hA : DataW.TrodAll enc Tryz.prog W 0 (fun _ => true) true Tryz.f13.params.toList args.toList ds p := hA0
  rw [Tryz.params13] at hA hval hsz
  obtain ⟨v0, vs0, d0, ds0, p0, q0, hargs, rfl, rfl, h0, r0⟩ := trodAll_cons hA
  obtain ⟨v1, vs1, d1, ds1, p1, q1, rfl, rfl, rfl, h1, r1⟩ := trodAll_cons r0
  obtain ⟨rfl, rfl, rfl⟩ := trodAll_nil r1
  obtain rfl : args = #[v0, v1] := by cases args; simp_all
  obtain ⟨rfl, rfl⟩ := trodVars_none hV
  have k0 := h0
  have lt0 : ∀ x ∈ p0, x.block < W.heap.size := by obtain ⟨m, hm⟩ := k0; exact DataW.trod_lt m _ _ _ hm
  obtain ⟨a0, l0, c0, rfl, hr0, hc0, hd0, hg0⟩ := open_files (okWide_slice Tryz.underlying46 (hval 0 46 v0 rfl rfl)) h0
  have y0 := sized_row (j := 0) (B := 32) hsz rfl hd0 rfl Tryz.underlying46 (by kernel_rfl)
  have k1 := h1
  have lt1 : ∀ x ∈ p1, x.block < W.heap.size := by obtain ⟨m, hm⟩ := k1; exact DataW.trod_lt m _ _ _ hm
  obtain ⟨a1, l1, c1, rfl, hr1, hc1, hd1, hg1⟩ := open_ops (okWide_slice Tryz.underlying59 (hval 1 59 v1 rfl rfl)) h1
  have y1 := sized_row (j := 1) (B := 40) hsz rfl hd1 rfl Tryz.underlying59 (by kernel_rfl)
  clear hA0 hval0 hsz0 hsz
  have hpure := pure_TreeAll l0 l1 y0 hg0 y1 hg1
  refine (shipwrightlaw1_TreeAll.calls a0 c0 l0 a1 c1 l1 true W (gok hL hS) hr0 hc0 hr1 hc1 hpure).mono fun e W' ⟨he, bel⟩ => ?_
  subst he
  exact ⟨_, rfl, _, _, _, [], _, [], hW', trodAll_mk1 (shut_bool Tryz.underlying4 _), (trodAll_cons_mk (Below.trod laidOut (by kernel_rfl) (of_decide_eq_true (by kernel_rfl)) k0 bel lt0) (trodAll_cons_mk (Below.trod laidOut (by kernel_rfl) (of_decide_eq_true (by kernel_rfl)) k1 bel lt1) trodAll_mk0)), rfl, bel.frame _, fun h => by cases h⟩
theorem said : Rows.TreeAllSaid :=
  OpenClaim.holds_of_cond 13 Tryz.f13 rfl rfl rfl rfl rfl rfl rfl ⟨rfl, rfl, rfl, rfl, rfl⟩ rfl rfl rfl rfl rfl (by kernel_rfl) Tryz.func13 (by kernel_rfl)
    (of_decide_eq_true (by kernel_rfl)) (by unfold Func.isWrapper; first | (rw [if_pos (by decide +kernel)]; kernel_rfl) | (rw [if_neg (by decide +kernel)]; exact ⟨rfl, rfl⟩))
    (fun os started H enc _ F => by rw [OpenClaim.pre_eq_preRow]; exact lifted os started H enc F)
theorem plain (f : FuncId) (fn : Func) (hf : Tryz.pinned.checked.prog.funcNamed "shipwright/shipwrightlaw1.TreeAll" = some f) (hfn : Tryz.pinned.checked.prog.funcs[f]? = some fn) :
    true = Tryz.pinned.checked.prog.looks [] ∧ ∀ (j : Nat) t, fn.params[j]? = some t → Tryz.pinned.checked.prog.wantsStandIn t = false := by
  obtain rfl : f = 13 := Option.some.inj ((show Tryz.prog.funcNamed "shipwright/shipwrightlaw1.TreeAll" = some 13 by kernel_rfl).symm.trans hf) |>.symm
  obtain rfl : fn = Tryz.f13 := (Option.some.inj (Tryz.func13.symm.trans hfn)).symm
  refine ⟨by kernel_rfl, fun j t ht => ?_⟩
  rw [Tryz.params13] at ht
  have hm : t ∈ [46, 59] := by simpa using Array.mem_of_getElem? ht
  have hall : ([46, 59].all fun u => !Tryz.prog.wantsStandIn u) = true := by kernel_rfl
  exact (show Tryz.prog.wantsStandIn t = false by simpa using List.all_eq_true.1 hall t hm)
theorem card : Rows.TreeAllCardSaid :=
  Claim7.holds_tied_plain_at .later [] _ _ _ _ said (fun _ h => by cases h) (by kernel_rfl) (fun _ h => by cases h) treeAll_row_tie rfl ⟨rfl, rfl⟩ (by kernel_rfl) rfl plain (by kernel_rfl)
end Go.Proofs.YtobbliglnjgbaaaGreatDoor.treeAllCard
namespace Go.Proofs.YtobbliglnjgbaaaGreatDoor
theorem treeAll_card_holds : Rows.TreeAllCardSaid := treeAllCard.card
end Go.Proofs.YtobbliglnjgbaaaGreatDoor
