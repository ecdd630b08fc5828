/-
  Plain laws over what the contracts tell: parts, joined, are the text again; texts that are cut short.
-/
import Derived.Test.YtobbliglnjgbaaaGreatDoorBegun
namespace Go.Proofs.YtobbliglnjgbaaaGreatDoor.X
open Go.RowKit Go.Proofs.YtobbliglnjgbaaaGreatDoorW.PrintWords Go.Proofs.YtobbliglnjgbaaaGreatDoorW.PrintMore Go.Proofs.YtobbliglnjgbaaaGreatDoor.Pb Go.Proofs.YtobbliglnjgbaaaGreatDoor.Pc

theorem join_two (x y : Bytes) (r : List Bytes) (sep : Bytes) : Lib.join (x :: y :: r) sep = x ++ sep ++ Lib.join (y :: r) sep := by
  simp [Lib.join, List.intercalate]
theorem cutAt_cons (c : UInt8) (l : Bytes) : ∃ p q, cutAt c l = p :: q := by
  cases h : cutAt c l with
  | nil => exact absurd h (cutAt_ne c l)
  | cons p q => exact ⟨p, q, rfl⟩
theorem cutAt_join (c : UInt8) : ∀ l, Lib.join (cutAt c l) [c] = l
  | [] => by simp [cutAt, Lib.join_one]
  | x :: r => by
    have ih := cutAt_join c r
    obtain ⟨p, q, h⟩ := cutAt_cons c r
    unfold cutAt
    rw [h] at ih ⊢
    split
    · rename_i hx
      rw [join_two, ih, hx]
      rfl
    · show Lib.join ((x :: p) :: q) [c] = _
      cases q with
      | nil => rw [Lib.join_one] at ih ⊢; rw [ih]
      | cons y z => rw [join_two] at ih ⊢; rw [← ih]; rfl
theorem cutAt_sizes (c : UInt8) : ∀ l, ((cutAt c l).map List.length).sum + (cutAt c l).length = l.length + 1
  | [] => by simp [cutAt]
  | x :: r => by
    have ih := cutAt_sizes c r
    obtain ⟨p, q, h⟩ := cutAt_cons c r
    unfold cutAt
    rw [h] at ih ⊢
    split
    · simp only [List.map_cons, List.sum_cons, List.length_cons, List.length_nil] at ih ⊢; omega
    · simp only [List.map_cons, List.sum_cons, List.length_cons] at ih ⊢; omega
theorem join_full (l : List Bytes) (h : l.any (· == []) = false) : join l = Lib.join l [47] := by
  unfold join
  congr 1
  rw [List.filter_eq_self]
  intro x hx
  have := List.any_eq_false.1 h x hx
  simpa using this
theorem join_length_le (sep : Bytes) : ∀ l : List Bytes, (Lib.join l sep).length ≤ (l.map List.length).sum + l.length * sep.length
  | [] => by simp [Lib.join_nil]
  | [x] => by rw [Lib.join_one]; simp
  | x :: y :: r => by
    have ih := join_length_le sep (y :: r)
    rw [join_two]
    simp only [List.length_append, List.map_cons, List.sum_cons, List.length_cons, Nat.add_mul, Nat.one_mul] at ih ⊢
    omega
theorem filter_sum_le (p : Bytes → Bool) : ∀ l : List Bytes, ((l.filter p).map List.length).sum ≤ (l.map List.length).sum
  | [] => by simp
  | x :: r => by
    have ih := filter_sum_le p r
    rw [List.filter_cons]
    split
    · simp only [List.map_cons, List.sum_cons]; omega
    · simp only [List.map_cons, List.sum_cons]; omega
theorem joinP_length_le (l : List Bytes) : (join l).length ≤ (l.map List.length).sum + l.length := by
  unfold join
  refine Nat.le_trans (join_length_le [47] _) (Nat.add_le_add (filter_sum_le _ l) ?_)
  rw [List.length_singleton, Nat.mul_one]
  exact List.length_filter_le _ l
theorem map_mk_data (l : List Bytes) : (l.map mk).map (·.data.toList) = l := by
  rw [List.map_map]
  have : ((fun x : ByteArray => x.data.toList) ∘ mk) = id := by funext x; exact mk_data x
  rw [this, List.map_id]

/-! ### what the contracts' functions tell, of plain bytes -/
theorem short_f (s : ByteArray) (n : Nat) : shipwrightlaw1_Short.f s (n : Int) = some (mk (s.data.toList.take n)) := by
  unfold shipwrightlaw1_Short.f mn
  have hz := Lib.size_eq s
  have key : ∀ m : Nat, m ≤ s.size → s.data.toList.take m = s.data.toList.take n → (s.extract 0 ((m : Int)).toNat) = mk (s.data.toList.take n) := by
    intro m _ hm
    apply data_inj
    rw [mk_data, ← hm]
    simp [ByteArray.data_extract]
  rcases Nat.lt_or_ge n s.size with h | h
  · rw [if_pos (show (n : Int) < (s.size : Int) by omega), if_pos (show (0 : Int) ≤ (n : Int) by omega), if_pos (show (n : Int) ≤ (s.size : Int) by omega), key n (by omega) rfl]
  · rw [if_neg (show ¬ (n : Int) < (s.size : Int) by omega), if_pos (show (0 : Int) ≤ (s.size : Int) by omega), if_pos (Int.le_refl _), key s.size (Nat.le_refl _) (by rw [List.take_of_length_le (by omega), List.take_of_length_le (by omega)])]
theorem parts_f (l : Bytes) (h : l.length < 4294967281) : path_Parts.f (mk l) = some ((parts l).map mk) := by
  show (strings_Split.f (mk l) (⟨#[47]⟩ : ByteArray)).bind (fun t => some t) = _
  rw [strings_Split.one _ _ (by rw [mk_size]; exact h), mk_data]
  rfl
theorem join_f (l : List Bytes) (h : l.length * 16 ≤ 140737488355328) (h2 : (l.map List.length).sum + l.length ≤ 140737488355328) : path_Join.f (l.map mk) = some (mk (join l)) := by
  unfold path_Join.f
  rw [map_mk_data, List.length_map, if_pos ⟨h, Nat.le_trans (joinP_length_le l) h2⟩]
theorem may_f (l : Bytes) : path_May.f (mk l) = some (may l) := by
  unfold path_May.f
  rw [mk_data]
theorem rdOf_mk (l : List Bytes) (i : Nat) (h : i < l.length) : rdOf ByteArray.empty (l.map mk) (i : Int) = mk l[i] := by
  unfold rdOf
  simp [List.getD_eq_getElem?_getD, h]

end Go.Proofs.YtobbliglnjgbaaaGreatDoor.X
