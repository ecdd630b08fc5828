/-
  The reference's Number and Put: the same texts as mint's.
-/
import Derived.Test.YtobbliglnjgbaaaGreatDoorBegun
import Derived.Test.YtobbliglnjgbaaaGreatDoorPf
namespace Go.Proofs.YtobbliglnjgbaaaGreatDoor.X
open Go.RowKit Go.Maps Go.Proofs.YtobbliglnjgbaaaGreatDoorW.PrintWords Go.Proofs.YtobbliglnjgbaaaGreatDoorW.PrintMore Go.Proofs.YtobbliglnjgbaaaGreatDoor.Pf

theorem refNumber : ∀ (k n : Nat), n < 10 ^ (k + 1) → n ≤ 9223372036854775807 → shipwrightref1_Number.f (k + 1) (n : Int) = some (mk (Lib.decDigits n)) ∧ (Lib.decDigits n).length ≤ k + 1 := by
  have one : ∀ (k n : Nat), n < 10 → shipwrightref1_Number.f (k + 1) (n : Int) = some (mk (Lib.decDigits n)) := by
    intro k n h
    have e1 : wrap64 (48 + mx (n : Int) 0) % 256 = ((48 + n : Nat) : Int) := by unfold wrap64 mx; split <;> omega
    rw [shipwrightref1_Number.f, if_pos (by omega), Lib.decDigits_one h, e1]
    congr 1
  intro k
  induction k with
  | zero =>
    intro n h _
    have h' : n < 10 := by simpa using h
    exact ⟨one 0 n h', by rw [Lib.decDigits_one h']; simp⟩
  | succ k ih =>
    intro n h hn
    by_cases h10 : n < 10
    · exact ⟨one (k + 1) n h10, by rw [Lib.decDigits_one h10]; simp⟩
    · have hq : n / 10 < 10 ^ (k + 1) := by
        rw [Nat.div_lt_iff_lt_mul (by decide)]
        rw [Nat.pow_succ] at h
        exact h
      obtain ⟨i1, i2⟩ := ih (n / 10) hq (by omega)
      have i3 := one k (n % 10) (by omega)
      have e1 : Int.tdiv (n : Int) 10 = ((n / 10 : Nat) : Int) := by rw [Int.tdiv_eq_ediv_of_nonneg (by omega)]; rfl
      have e2 : Int.tmod (n : Int) 10 = ((n % 10 : Nat) : Int) := by rw [Int.tmod_eq_emod_of_nonneg (by omega)]; rfl
      have e3 : wrap64 ((n / 10 : Nat) : Int) = ((n / 10 : Nat) : Int) := by unfold wrap64; omega
      have hd : Lib.decDigits n = Lib.decDigits (n / 10) ++ Lib.decDigits (n % 10) := by
        rw [Lib.decDigits, dif_neg h10, Lib.decDigits_one (i := n % 10) (by omega)]
      have hk : k + 1 ≤ 9223372036854775806 ∨ ¬ (k + 1 ≤ 9223372036854775806) := Decidable.em _
      have hl : (Lib.decDigits (n / 10)).length ≤ 9223372036854775806 := by
        have : (Lib.decDigits (n / 10)).length ≤ n / 10 + 1 := by
          have : ∀ u, (Lib.decDigits u).length ≤ u + 1 := by
            intro u
            induction u using Nat.strongRecOn with
            | _ u ihu =>
              rw [Lib.decDigits]
              split
              · simp
              · rw [List.length_append]
                have := ihu (u / 10) (by omega)
                simp only [List.length_singleton]
                omega
          exact this _
        omega
      rw [hd]
      refine ⟨?_, ?_⟩
      · rw [shipwrightref1_Number.f, if_neg (by omega), e1, e2, e3, i1, i3]
        simp only [Option.bind_some]
        rw [mk_size, mk_size, Lib.decDigits_one (i := n % 10) (by omega), List.length_singleton, if_pos (by omega), mk_append]
      · rw [List.length_append, Lib.decDigits_one (i := n % 10) (by omega), List.length_singleton]
        omega
theorem refNumber20 (n : Nat) (h : n ≤ 9223372036854775807) : shipwrightref1_Number.f 20 (n : Int) = some (mk (number (n : Int))) := by
  exact (refNumber 19 n (by omega) h).1

end Go.Proofs.YtobbliglnjgbaaaGreatDoor.X
