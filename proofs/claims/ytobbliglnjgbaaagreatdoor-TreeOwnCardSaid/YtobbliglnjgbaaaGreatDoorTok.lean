/-
  Trees that were written by Write are small: their keys are short.
-/
import Derived.Test.YtobbliglnjgbaaaGreatDoorTreeC
import Derived.Test.YtobbliglnjgbaaaGreatDoorNames
import Derived.Test.YtobbliglnjgbaaaGreatDoorPutInj
namespace Go.Proofs.YtobbliglnjgbaaaGreatDoor.X
open Go.RowKit

def SmallT (m : TM) : Prop := ∀ p ∈ m, p.1.length ≤ 40 ∧ p.2.length ≤ 2000
theorem SmallT.nil : SmallT [] := fun _ h => by cases h
theorem SmallT.del {m : TM} (h : SmallT m) (k : Bytes) : SmallT (delT m k) := fun p hp => h p (List.mem_filter.1 hp).1
theorem SmallT.write {m : TM} (h : SmallT m) (k v : Bytes) : SmallT (writeT m k v).1 := by
  unfold writeT
  split
  · exact h
  · rename_i hm
    split
    · exact h
    · rename_i hv
      intro p hp
      rcases (insT_mem (k, v) p _).1 hp with rfl | hp
      · have hm2 : may k = true := by simpa using hm
        unfold may at hm2
        simp only [Bool.and_eq_true, decide_eq_true_eq] at hm2
        refine ⟨hm2.1.2, ?_⟩
        rcases Nat.lt_or_ge 2000 v.length with h2 | h2
        · exact absurd (.inl h2) hv
        · exact h2
      · exact (h.del k) p hp
theorem SmallT.erase {m : TM} (h : SmallT m) (k : Bytes) : SmallT (eraseT m k).1 := by
  unfold eraseT
  split
  · exact h
  · exact h.del k
theorem SmallT.fold (l : List (Bytes × Bytes)) : ∀ m : TM, SmallT m → SmallT (l.foldl (fun m f => (writeT m f.1 f.2).1) m) := by
  induction l with
  | nil => exact fun _ h => h
  | cons f r ih => exact fun m h => ih _ (h.write _ _)
theorem SmallT.new (l : List (Bytes × Bytes)) : SmallT (newT l) := SmallT.fold l [] SmallT.nil
theorem SmallT.key {m : TM} (h : SmallT m) (hl : m.length ≤ 60) : (keyT m).length ≤ 1000000 := by
  have key : ∀ m : TM, SmallT m → ((m.flatMap fun p => [p.1, p.2]).map List.length).sum ≤ 2040 * m.length ∧ (m.flatMap fun p => [p.1, p.2]).length = 2 * m.length := by
    intro m
    induction m with
    | nil => intro _; simp
    | cons p r ih =>
      intro h
      obtain ⟨i1, i2⟩ := ih (fun q hq => h q (List.mem_cons_of_mem _ hq))
      have hp := h p List.mem_cons_self
      simp only [List.flatMap_cons, List.map_append, List.sum_append, List.map_cons, List.map_nil, List.sum_cons, List.sum_nil, List.length_append, List.length_cons, List.length_nil] at i1 i2 ⊢
      omega
  obtain ⟨k1, k2⟩ := key m h
  have := put_length_le (m.flatMap fun p => [p.1, p.2])
  unfold keyT
  omega
theorem SmallT.names {m : TM} (h : SmallT m) : ∀ p ∈ m, p.1.length ≤ maxLen := fun p hp => Nat.le_trans (h p hp).1 (by decide)

end Go.Proofs.YtobbliglnjgbaaaGreatDoor.X
