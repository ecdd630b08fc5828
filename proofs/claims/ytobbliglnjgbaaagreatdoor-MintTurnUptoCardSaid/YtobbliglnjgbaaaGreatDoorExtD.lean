/-
  slices.Clone at []string; path.Join: 'join' of the parts' bytes.
-/
import Derived.Test.YtobbliglnjgbaaaGreatDoorExtC
namespace Go.Proofs.YtobbliglnjgbaaaGreatDoor.X
open Go.RowKit Go.Proofs.YtobbliglnjgbaaaGreatDoorW.PrintWords

theorem own_below_grown {B : Nat} {w w1 w2 : World} {v : Value} (h : Below B w w1) (hB : B ≤ w1.heap.size) (hg : w1.grownBy w2 v.ownBlock) (hv : ∀ k, v.ownBlock = some k → B ≤ k) : Below B w w2 := h.grown hg hB hv

theorem clone_calls (A : Option Addr) (c : Nat) (l : List ByteArray) (w : World) (hr : Kd.C Kd.string w A l.length l) (hl : l.length * 16 ≤ 140737488355328) :
    Calls Tryz.prog 49 #[.slice A l.length c] w fun e w' => ∃ v', e = .returned v' ∧ w'.ownsRow w.heap.size 9 1 v' l.length (encs Value.string l) ∧ Below w.heap.size w w' := by
  rcases row_open hr with rfl | ⟨b, o, rfl, _, hcell⟩
  · cases A with
    | none =>
      have h := Go.Proofs.Any.slices_Clone_string_nil Go.Proofs.Tryz.laysClone 0 c w
      change Calls Tryz.prog 49 _ _ _ at h
      exact h.mono fun e w' ⟨he, hw⟩ => ⟨_, he, own_nil _ _ _ _, by subst hw; exact Below.refl _ _⟩
    | some a =>
      have h := Go.Proofs.Any.slices_Clone_string_zero Go.Proofs.Tryz.laysClone a c w
      change Calls Tryz.prog 49 _ _ _ at h
      exact h.mono fun e w' ⟨v', he, ho, _, hb⟩ => ⟨v', he, ho, hb⟩
  · have h := Go.Proofs.Any.slices_Clone_string Go.Proofs.Tryz.laysClone b o l.length c l w (Nat.le_refl _) hl hcell
    change Calls Tryz.prog 49 _ _ _ at h
    exact h.mono fun e w' ⟨v', he, ho, _, hb⟩ => ⟨v', he, by rw [List.take_length] at ho; exact ho, hb⟩

theorem eg46 : ∀ args w, (callFunc 46 args).run Tryz.prog w = .ok (.enter 46 args) w := Go.Proofs.enters_of Tryz.func46 (by kernel_rfl) rfl
def path_Join.f (l0 : List ByteArray) : Option ByteArray :=
  if l0.length * 16 ≤ 140737488355328 ∧ (join (l0.map (·.data.toList))).length ≤ 140737488355328 then some (mk (join (l0.map (·.data.toList)))) else none
theorem join_filter (l : List ByteArray) : ((l.filter fun x => !(x.toList == [])).map (·.data.toList)) = (l.map (·.data.toList)).filter fun s => !(s == []) := by
  rw [List.filter_map]
  congr 1
  simp only [toList_eq]
  rfl
set_option maxHeartbeats 2000000 in
theorem path_Join.calls (A0 : Option Addr) (c0 : Nat) (l0 : List ByteArray) (r : ByteArray) (w : World) (hG : GOK w) (hr0 : Kd.C Kd.string w A0 l0.length l0) (_hc0 : l0.length ≤ c0) (h : path_Join.f l0 = some r) :
    Calls Tryz.prog 21 #[.slice A0 l0.length c0] w fun e w' => e = .returned (.string r) ∧ Below w.heap.size w w' := by
  unfold path_Join.f at h
  split at h
  · rename_i hs
    have hr := Option.some.inj h
    have h1 := clone_calls A0 c0 l0 w hr0 hs.1
    have hjoin : strings_Join.f (l0.filter fun x => !(x.toList == [])) (⟨#[47]⟩ : ByteArray) = some r := by
      unfold strings_Join.f
      rw [join_filter]
      have hlen : (l0.filter fun x => !(x.toList == [])).length ≤ l0.length := List.length_filter_le _ _
      rw [if_pos ⟨by omega, hs.2⟩, ← hr]
      rfl
    clear h hr hr0
    generalize hf : (l0.filter fun x => !(x.toList == [])) = lf at hjoin
    have HF := Lib.hid hf
    clear hf
    have HJ := Lib.hid hjoin
    clear hjoin
    have HG := Lib.hid hG
    clear hG hs
    go_enter Tryz.func21, Tryz.ntmps21
    go_wp2_with fail
    refine h1.mono ?_
    rintro e w1 ⟨v1, rfl, ho1, hb1⟩
    have h2 := deleteFunc_own w.heap.size w.heap.size 46 #[] eg46 (fun x => x.toList == []) v1 l0 w1 ho1 (Nat.le_refl _) hb1.size (fun W x hb => by
      refine (Pa.path_Join_1.calls x (x.toList == []) W (HG.out.below (hb1.trans hb)) rfl).mono fun e w' ⟨he, hd⟩ => ⟨he, hd.out⟩)
    rw [HF.out] at h2
    have HB1 := Lib.hid hb1
    have HV1 : Hid (∀ k, v1.ownBlock = some k → w.heap.size ≤ k) := own_base ho1
    clear hb1 ho1 h1
    go_wp2_with fail
    refine h2.mono ?_
    rintro e w2 ⟨v2, rfl, ho2, _, hg2⟩
    have hb2 : Below w.heap.size w w2 := own_below_grown HB1.out HB1.out.size hg2 HV1.out
    obtain ⟨A, c, rfl, hc, hrd⟩ := Kd.R_reads (Kd.R_of_own (h1 := fun _ => rfl) (ok := fun _ => True) ho2 (fun _ _ => trivial))
    have h3 := strings_Join.calls A c lf (⟨#[47]⟩ : ByteArray) r w2 (HG.out.below hb2) hrd hc HJ.out
    clear ho2 hg2 hc hrd h2
    go_wp2_with fail
    refine h3.mono ?_
    rintro e w3 ⟨rfl, hb3⟩
    go_wp2
    go_ret
    exact ⟨rfl, below_then hb2 hb2.size hb3⟩
  · cases h

end Go.Proofs.YtobbliglnjgbaaaGreatDoor.X
