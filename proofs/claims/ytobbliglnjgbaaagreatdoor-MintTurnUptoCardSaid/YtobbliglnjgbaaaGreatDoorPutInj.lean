/-
  Unlike parts have unlike keys: put tells its parts.
-/
import Derived.Test.YtobbliglnjgbaaaGreatDoorSpec
namespace Go.Proofs.YtobbliglnjgbaaaGreatDoor.X
theorem digits_ne : ∀ u c, c ∈ Lib.decDigits u → c ≠ 58 := by
  intro u
  induction u using Nat.strongRecOn with
  | _ u ih =>
    intro c hc
    have one : ∀ d, d < 10 → UInt8.ofNat (48 + d) ≠ 58 := by decide
    rw [Lib.decDigits] at hc
    split at hc
    · rename_i h
      rw [List.mem_singleton] at hc
      rw [hc]
      exact one u h
    · rcases List.mem_append.1 hc with h | h
      · exact ih (u / 10) (by omega) c h
      · rw [List.mem_singleton] at h
        rw [h]
        exact one _ (by omega)
def digVal (l : Bytes) : Nat := l.foldl (fun a c => a * 10 + (c.toNat - 48)) 0
theorem digVal_digits : ∀ u, digVal (Lib.decDigits u) = u := by
  intro u
  induction u using Nat.strongRecOn with
  | _ u ih =>
    have one : ∀ d, d < 10 → (UInt8.ofNat (48 + d)).toNat - 48 = d := by decide
    rw [Lib.decDigits]
    split
    · rename_i h
      show 0 * 10 + ((UInt8.ofNat (48 + u)).toNat - 48) = u
      rw [one u h]
      omega
    · rename_i h
      have := ih (u / 10) (by omega)
      unfold digVal at this ⊢
      rw [List.foldl_append, this, List.foldl_cons, List.foldl_nil, one (u % 10) (by omega)]
      omega
theorem cut_58 : ∀ (a b x y : Bytes), (∀ c ∈ a, c ≠ 58) → (∀ c ∈ b, c ≠ 58) → a ++ 58 :: x = b ++ 58 :: y → a = b ∧ x = y
  | [], [], x, y, _, _, h => by simpa using h
  | [], c :: b, x, y, _, hb, h => by
    simp only [List.nil_append, List.cons_append, List.cons.injEq] at h
    exact absurd h.1.symm (hb c List.mem_cons_self)
  | c :: a, [], x, y, ha, _, h => by
    simp only [List.nil_append, List.cons_append, List.cons.injEq] at h
    exact absurd h.1 (ha c List.mem_cons_self)
  | c :: a, d :: b, x, y, ha, hb, h => by
    simp only [List.cons_append, List.cons.injEq] at h
    obtain ⟨rfl, h⟩ := h
    obtain ⟨rfl, e⟩ := cut_58 a b x y (fun c hc => ha c (List.mem_cons_of_mem _ hc)) (fun c hc => hb c (List.mem_cons_of_mem _ hc)) h
    exact ⟨rfl, e⟩
theorem put_cons (x : Bytes) (l : List Bytes) : put (x :: l) = Lib.decDigits x.length ++ 58 :: (x ++ put l) := by
  simp [put, number]
theorem put_nil : put [] = [] := rfl
theorem put_inj : ∀ l m : List Bytes, put l = put m → l = m
  | [], [], _ => rfl
  | [], y :: m, h => by rw [put_cons, put_nil] at h; have := congrArg List.length h; simp at this
  | x :: l, [], h => by rw [put_cons, put_nil] at h; have := congrArg List.length h; simp at this
  | x :: l, y :: m, h => by
    rw [put_cons, put_cons] at h
    obtain ⟨h1, h2⟩ := cut_58 _ _ _ _ (digits_ne x.length) (digits_ne y.length) h
    have hl : x.length = y.length := by rw [← digVal_digits x.length, h1, digVal_digits]
    obtain ⟨rfl, h3⟩ := List.append_inj h2 hl
    rw [put_inj l m h3]
theorem put_inj_iff (l m : List Bytes) : put l = put m ↔ l = m := ⟨put_inj l m, fun h => by rw [h]⟩
theorem digits_length_le (u : Nat) : (Lib.decDigits u).length ≤ u + 1 := by
  induction u using Nat.strongRecOn with
  | _ u ih =>
    rw [Lib.decDigits]
    split
    · simp
    · rw [List.length_append]
      have := ih (u / 10) (by omega)
      simp only [List.length_singleton]
      omega
theorem put_length_le : ∀ l : List Bytes, (put l).length ≤ 2 * (l.map List.length).sum + 2 * l.length
  | [] => by simp [put_nil]
  | x :: l => by
    have ih := put_length_le l
    have h1 := digits_length_le x.length
    rw [put_cons]
    simp only [List.length_append, List.length_cons, List.map_cons, List.sum_cons]
    omega
theorem put_ge : ∀ l : List Bytes, l.length ≤ (put l).length
  | [] => by simp
  | x :: l => by
    have ih := put_ge l
    rw [put_cons]
    simp only [List.length_append, List.length_cons]
    omega
theorem put_append (l m : List Bytes) : put (l ++ m) = put l ++ put m := by simp [put]

end Go.Proofs.YtobbliglnjgbaaaGreatDoor.X
