/-
  What is read of a tree behind a write and an erasing.
-/
import Derived.Test.YtobbliglnjgbaaaGreatDoorTreeC
namespace Go.Proofs.YtobbliglnjgbaaaGreatDoor.X
open Go.RowKit

theorem getT_nil (x : Bytes) : getT [] x = none := rfl
theorem getT_cons (p : Bytes × Bytes) (m : TM) (x : Bytes) : getT (p :: m) x = if p.1 = x then some p.2 else getT m x := by
  unfold getT
  rw [List.find?_cons]
  by_cases h : p.1 = x
  · rw [if_pos h, show (p.1 == x) = true by simp [h]]; rfl
  · rw [if_neg h, show (p.1 == x) = false by simp [h]]
theorem getT_del (m : TM) (k x : Bytes) : getT (delT m k) x = if k = x then none else getT m x := by
  induction m with
  | nil => simp [delT, getT_nil]
  | cons p m ih =>
    unfold delT at ih ⊢
    rw [List.filter_cons]
    by_cases hp : p.1 = k
    · rw [show (!(p.1 == k)) = false by simp [hp], if_neg (by simp), ih, getT_cons, hp]
      split <;> rfl
    · rw [show (!(p.1 == k)) = true by simp [hp], if_pos rfl, getT_cons, ih, getT_cons]
      by_cases hx : p.1 = x
      · rw [if_pos hx, if_pos hx, if_neg (by rw [← hx]; exact Ne.symm hp)]
      · rw [if_neg hx, if_neg hx]
theorem getT_ins (p : Bytes × Bytes) (x : Bytes) : ∀ m : TM, getT m p.1 = none → getT (insT p m) x = if p.1 = x then some p.2 else getT m x
  | [], _ => by simp only [insT]; rw [getT_cons]
  | q :: m, h => by
    rw [getT_cons] at h
    have hq : ¬ q.1 = p.1 := by
      intro e
      rw [if_pos e] at h
      cases h
    rw [if_neg hq] at h
    simp only [insT]
    split
    · rw [getT_cons]
    · rw [getT_cons, getT_ins p x m h, getT_cons]
      by_cases hx : q.1 = x
      · rw [if_pos hx, if_pos hx, if_neg (by rw [← hx]; exact fun e => hq e.symm)]
      · rw [if_neg hx, if_neg hx]
theorem getT_put (m : TM) (k v x : Bytes) : getT (putT m k v) x = if k = x then some v else getT m x := by
  unfold putT
  rw [getT_ins (k, v) x _ (by rw [getT_del, if_pos rfl]), getT_del]
  by_cases h : k = x
  · rw [if_pos h, if_pos h]
  · rw [if_neg h, if_neg h, if_neg h]
theorem getT_write (m : TM) (k v x : Bytes) : getT (writeT m k v).1 x = if (writeT m k v).2 = 0 ∧ k = x then some v else getT m x := by
  unfold writeT
  split
  · rw [if_neg (by rintro ⟨h, _⟩; exact absurd (show (1 : Int) = 0 from h) (by decide))]
  · split
    · rw [if_neg (by rintro ⟨h, _⟩; exact absurd (show (4 : Int) = 0 from h) (by decide))]
    · rw [getT_put]
      by_cases h : k = x
      · rw [if_pos h, if_pos ⟨rfl, h⟩]
      · rw [if_neg h, if_neg (fun e => h e.2)]
theorem getT_erase (m : TM) (k x : Bytes) : getT (eraseT m k).1 x = if k = x then none else getT m x := by
  unfold eraseT
  split
  · rename_i hn
    by_cases h : k = x
    · rw [if_pos h, ← h, hn]
    · rw [if_neg h]
  · exact getT_del m k x
theorem erase_len (m : TM) (k : Bytes) (h : m.length ≤ 60) : (eraseT m k).1.length ≤ 60 := by
  unfold eraseT
  split
  · exact h
  · exact Nat.le_trans (delT_length m k) h

end Go.Proofs.YtobbliglnjgbaaaGreatDoor.X
