/-
  Functions of Go's library in the form in which the print asks for a callee: a Lean function on bytes and the contract; strings.Split at a separator of one byte, strings.Cut, strings.Join, strconv.Itoa.
-/
import Derived.Test.YthagibkmfgodgaaGreatDoorSpec
import Derived.Test.YthagibkmfgodgaaGreatDoorExtA
import Derived.Test.YthagibkmfgodgaaGreatDoorShelfA
import Derived.Shelf.GgClosure.Gives
namespace Go.Proofs.YthagibkmfgodgaaGreatDoor.X
open Go.RowKit Go.Proofs.YthagibkmfgodgaaGreatDoorW.PrintWords

def strings_Split.f (a0 a1 : ByteArray) : Option (List ByteArray) :=
  match a1.data.toList with
  | [c] => if a0.size < 4294967281 then some ((cutAt c a0.data.toList).map mk) else none
  | _ => none
theorem strings_Split.one (s : ByteArray) (c : UInt8) (hs : s.size < 4294967281) : strings_Split.f s (⟨#[c]⟩ : ByteArray) = some ((cutAt c s.data.toList).map mk) := by
  unfold strings_Split.f
  show (if s.size < 4294967281 then some _ else none) = _
  rw [if_pos hs]
theorem cutAt_length_le (c : UInt8) : ∀ l, (cutAt c l).length ≤ l.length + 1
  | [] => by simp [cutAt]
  | x :: r => by
    have := cutAt_length_le c r
    unfold cutAt
    split
    · simp; omega
    · split
      · simp
      · rename_i h; rw [h] at this; simp at this ⊢; omega
set_option maxHeartbeats 1000000 in
theorem strings_Split.calls (a0 a1 : ByteArray) (r : List ByteArray) (w : World) (hG : GOK w) (h : strings_Split.f a0 a1 = some r) :
    Calls Tryz.prog 141 #[.string a0, .string a1] w fun e w' => ∃ v0_ : Value, e = .returned v0_ ∧ Kd.R Kd.string 9 w' w.heap.size (fun _ => True) v0_ r ∧ Below w.heap.size w w' := by
  unfold strings_Split.f at h
  split at h
  · rename_i c hc
    have hs : a0.size < 4294967281 := by
      by_cases hs : a0.size < 4294967281
      · exact hs
      · rw [if_neg hs] at h; cases h
    rw [if_pos hs] at h
    have hr := Option.some.inj h
    have ha1 : a1 = mk [c] := by rw [← data_mk a1, hc]
    subst ha1
    obtain ⟨m, hm⟩ := hG.maxLen
    have L := Go.Proofs.Tryz.laysM146
    have hcall := Go.Proofs.Any.strings_Split { L with } L.i9 a0 (mk [c]) m w hs hm (by rw [mk_size]; simp)
    change Calls Tryz.prog 141 _ _ _ at hcall
    refine hcall.mono fun e w' ⟨he, hw⟩ => ?_
    rw [split_one] at hw
    have hlen : Lib.countB a0 (mk [c]) + 1 = r.length := by
      rw [← hr, List.length_map, ← Lib.splitB_all (mk [c]) (by rw [mk_size]; simp) 0 _ a0 rfl, split_one, List.length_map]
    have hle : r.length ≤ a0.size + 1 := by rw [← hr, List.length_map, Lib.size_eq]; exact cutAt_length_le c _
    rw [hr] at hw
    subst hw
    refine ⟨_, he, ?_, (Below.refl _ _).alloc (Nat.le_refl _) _⟩
    rw [hlen]
    exact Kd.R_of_own (own_lit_of (enc := Value.string) w w.heap.size 9 r (Nat.le_refl _) (by omega)) (fun _ _ => trivial)
  · cases h

def strings_Cut.f (a0 a1 : ByteArray) : Option (ByteArray × ByteArray × Bool) :=
  if a0.size < 4294967281 then some (mk (Lib.cut a0.data.toList a1.data.toList).1, mk (Lib.cut a0.data.toList a1.data.toList).2.1, (Lib.cut a0.data.toList a1.data.toList).2.2) else none
theorem strings_Cut.calls (a0 a1 r1 r2 : ByteArray) (r3 : Bool) (w : World) (hG : GOK w) (h : strings_Cut.f a0 a1 = some (r1, r2, r3)) :
    Calls Tryz.prog 134 #[.string a0, .string a1] w fun e w' => e = .returned (.tuple #[.string r1, .string r2, .bool r3]) ∧ Below w.heap.size w w' := by
  unfold strings_Cut.f at h
  split at h
  · rename_i hs
    have h' := Option.some.inj h
    simp only [Prod.mk.injEq] at h'
    obtain ⟨rfl, rfl, rfl⟩ := h'
    obtain ⟨m, hm⟩ := hG.maxLen
    have hcall := Go.Proofs.Any.strings_Cut Go.Proofs.Tryz.lays145 a0 a1 m w hs hm
    change Calls Tryz.prog 134 _ _ _ at hcall
    refine hcall.mono fun e w' ⟨he, n, hw⟩ => ⟨he, ?_⟩
    subst hw
    exact pw_below_drewN (Below.refl _ _) n
  · cases h

theorem builderExtra : Go.Proofs.Builder.Extra Tryz.prog Go.Proofs.Tryz.lays156_ren := {
  sizeBuilder := by kernel_rfl
  liesBuilder := by kernel_rfl
  t5 := Tryz.underlying5
  a5 := Tryz.isAgg5
  z5 := Tryz.sizeOf5
  v5 := Tryz.zeroValue5
  infoByte := by kernel_rfl
  cellsByte := by kernel_rfl
  sizeByte := by kernel_rfl
  neB5 := by decide }
def strings_Join.f (l0 : List ByteArray) (a1 : ByteArray) : Option ByteArray :=
  if l0.length ≤ 140737488355328 ∧ (Lib.join (l0.map (·.data.toList)) a1.data.toList).length ≤ 140737488355328 then some (mk (Lib.join (l0.map (·.data.toList)) a1.data.toList)) else none
theorem strings_Join.calls (A0 : Option Addr) (c0 : Nat) (l0 : List ByteArray) (a1 : ByteArray) (r : ByteArray) (w : World) (_hG : GOK w) (hr0 : Kd.C Kd.string w A0 l0.length l0) (hc0 : l0.length ≤ c0) (h : strings_Join.f l0 a1 = some r) :
    Calls Tryz.prog 68 #[.slice A0 l0.length c0, .string a1] w fun e w' => e = .returned (.string r) ∧ Below w.heap.size w w' := by
  unfold strings_Join.f at h
  split at h
  · rename_i hs
    have hr := Option.some.inj h
    rcases row_open hr0 with rfl | ⟨b, o, rfl, hb, hcell⟩
    · have hcall := Go.Proofs.Any.strings_Join_none Go.Proofs.Tryz.lays156 builderExtra A0 c0 a1 w
      change Calls Tryz.prog 68 _ _ _ at hcall
      refine hcall.mono fun e w' ⟨he, hw⟩ => ?_
      subst hw
      refine ⟨?_, Below.refl _ _⟩
      rw [he, ← hr]
      rfl
    · have hcall := Go.Proofs.Any.strings_Join Go.Proofs.Tryz.lays156 builderExtra b o c0 l0 a1 w (fun j x hx => by
        obtain ⟨hj, he⟩ := List.getElem?_eq_some_iff.1 hx
        have := hcell j hj
        rwa [show l0.getD j ByteArray.empty = x by simp [List.getD_eq_getElem?_getD, hx]] at this) hb hs.1 hc0 hs.2
      change Calls Tryz.prog 68 _ _ _ at hcall
      refine hcall.mono fun e w' ⟨he, hw⟩ => ⟨?_, hw⟩
      rw [he, ← hr]
      rfl
  · cases h

def strconv_Itoa.f (a0 : Int) : Option ByteArray := if -9223372036854775808 ≤ a0 ∧ a0 ≤ 9223372036854775807 then some (mk (Lib.itoa a0)) else none
theorem strconv_Itoa.calls (a0 : Int) (r : ByteArray) (w : World) (hG : GOK w) (h : strconv_Itoa.f a0 = some r) :
    Calls Tryz.prog 111 #[.int .i64 a0] w fun e w' => e = .returned (.string r) ∧ Below w.heap.size w w' := by
  unfold strconv_Itoa.f at h
  split at h
  · rename_i hs
    have hr := Option.some.inj h
    have hcall := Go.Proofs.Any.strconv_Itoa Go.Proofs.Tryz.laysM171 a0 hs.1 hs.2 w hG.pow10
    change Calls Tryz.prog 111 _ _ _ at hcall
    refine hcall.mono fun e w' ⟨he, k, os, hw⟩ => ⟨?_, ?_⟩
    · rw [he, ← hr]; rfl
    · subst hw
      exact Go.Proofs.below_grown w k os
  · cases h

end Go.Proofs.YthagibkmfgodgaaGreatDoor.X
