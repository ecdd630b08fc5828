/-
  Trees: Names and Key, over trees whose names rise.
-/
import Derived.Test.YtobbliglnjgbaaaGreatDoorTreeC
import Derived.Sort.KeysCollected
import Derived.Sort.Walk0
namespace Go.Proofs.YtobbliglnjgbaaaGreatDoor.X
open Go.RowKit Go.Maps Go.Sort Go.Shelf Go.Proofs.YtobbliglnjgbaaaGreatDoorW.PrintWords

/-! ### plain: names rise -/
theorem before_lt : ∀ (x y : Bytes), bytesBefore x y = decide (x < y)
  | [], [] => by simp [bytesBefore]
  | _ :: _, [] => by simp [bytesBefore]
  | [], _ :: _ => by simp [bytesBefore]
  | a :: x, b :: y => by
    rw [bytesBefore, before_lt x y]
    simp only [List.cons_lt_cons_iff]
    by_cases h1 : a < b <;> by_cases h2 : a = b <;> by_cases h3 : x < y <;> simp [h1, h2, h3]
def SortedT (m : TM) : Prop := m.Pairwise fun p q => bytesBefore p.1 q.1 = true
theorem SortedT.del {m : TM} (h : SortedT m) (k : Bytes) : SortedT (delT m k) := List.Pairwise.filter _ h
theorem insT_mem (x : Bytes × Bytes) (p : Bytes × Bytes) : ∀ m : TM, p ∈ insT x m ↔ p = x ∨ p ∈ m
  | [] => by simp [insT]
  | y :: r => by
    unfold insT
    split
    · simp
    · simp only [List.mem_cons, insT_mem x p r]
      constructor
      · rintro (h | h | h)
        · exact .inr (.inl h)
        · exact .inl h
        · exact .inr (.inr h)
      · rintro (h | h | h)
        · exact .inr (.inl h)
        · exact .inl h
        · exact .inr (.inr h)
theorem SortedT.ins (x : Bytes × Bytes) : ∀ m : TM, SortedT m → (∀ p ∈ m, p.1 ≠ x.1) → SortedT (insT x m)
  | [], _, _ => by simp [insT, SortedT]
  | y :: r, h, hne => by
    unfold insT
    have hy := List.pairwise_cons.1 h
    split
    · rename_i hb
      refine List.pairwise_cons.2 ⟨fun p hp => ?_, h⟩
      rcases List.mem_cons.1 hp with rfl | hp
      · exact hb
      · exact WideShapes.bytes_trans _ _ _ hb (hy.1 p hp)
    · rename_i hb
      refine List.pairwise_cons.2 ⟨fun p hp => ?_, SortedT.ins x r hy.2 (fun p hp => hne p (List.mem_cons_of_mem _ hp))⟩
      rcases (insT_mem x p r).1 hp with rfl | hp
      · rcases WideAt.bytes_total y.1 p.1 (hne y List.mem_cons_self) with h1 | h1
        · exact h1
        · exact absurd h1 hb
      · exact hy.1 p hp
theorem SortedT.put {m : TM} (h : SortedT m) (k v : Bytes) : SortedT (putT m k v) := by
  refine SortedT.ins (k, v) _ (h.del k) fun p hp e => ?_
  have := (List.mem_filter.1 hp).2
  simp at this
  exact this e
theorem SortedT.write {m : TM} (h : SortedT m) (k v : Bytes) : SortedT (writeT m k v).1 := by
  unfold writeT
  split
  · exact h
  · split
    · exact h
    · exact h.put k v
theorem SortedT.erase {m : TM} (h : SortedT m) (k : Bytes) : SortedT (eraseT m k).1 := by
  unfold eraseT
  split
  · exact h
  · exact h.del k
theorem SortedT.nil : SortedT [] := List.Pairwise.nil
theorem SortedT.fold (l : List (Bytes × Bytes)) : ∀ m : TM, SortedT m → SortedT (l.foldl (fun m f => (writeT m f.1 f.2).1) m) := by
  induction l with
  | nil => exact fun _ h => h
  | cons f r ih => exact fun m h => ih _ (h.write _ _)
theorem SortedT.new (l : List (Bytes × Bytes)) : SortedT (newT l) := SortedT.fold l [] SortedT.nil
theorem names_sorted {m : TM} (h : SortedT m) : (m.map (·.1)).mergeSort leB = m.map (·.1) := by
  refine List.mergeSort_of_pairwise ?_
  refine List.pairwise_map.2 (h.imp fun {p q} hb => ?_)
  rw [before_lt] at hb
  simp only [leB, decide_eq_true_eq] at hb ⊢
  exact List.le_of_lt hb

/-! ### Names -/
theorem keys_calls (mb : Option Nat) (W : World) : Calls Tryz.prog 60 #[.map mb] W fun e w' => e = .returned (.func (.func 75) #[] #[.pointer (some ⟨W.heap.size, 0, none⟩)]) ∧ w' = W.alloc (.cells #[.map mb] 77) :=
  callsIn_wide.1 (Go.Proofs.AnyZ.keys_in Go.Proofs.Tryz.laysKeys Fence.wide 5 trivial rfl mb W)
theorem sorts (m : Nat) : Go.Proofs.AnyZ.SortsIn Tryz.prog Go.Proofs.Tryz.laysSorted_ren Fence.wide m :=
  ⟨fun blk off cap ss W hH hblk hsz => callsIn_wide.2 (Go.Proofs.AnyM.slices_Sort_string Go.Proofs.Tryz.laysSort blk off cap ss W hH hblk hsz),
   fun p cap W => callsIn_wide.2 (Go.Proofs.AnyM.slices_Sort_string_none Go.Proofs.Tryz.laysSort p cap W)⟩
set_option maxHeartbeats 1000000 in
theorem sortedKeys_calls (b : Nat) (m : TM) (hm : SortedT m) (hl : m.length ≤ 60) (w : World) (hown : w.ownsMap Tryz.prog 9 (plainElem Tryz.prog 9) b m.length (encT m)) :
    Calls Tryz.prog 59 #[.func (.func 75) #[] #[.pointer (some ⟨w.heap.size, 0, none⟩)]] (w.alloc (.cells #[.map (some b)] 77)) fun e w' => ∃ v : Value, e = .returned v ∧
      w'.ownsRow w.heap.size 9 1 v (m.map fun p => mk p.1).length (encs Value.string (m.map fun p => mk p.1)) ∧ Below w.heap.size w w' := by
  have hbl := hown.lt
  have hmax : Maps.size (encT m) ≤ maxLen := by rw [encT_size]; unfold maxLen; omega
  have hbytes : Maps.size (encT m) * 16 ≤ 140737488355328 := by rw [encT_size]; omega
  have hseq : Go.SeqGives Fence.wide 2 Tryz.prog 75 #[.pointer (some ⟨w.heap.size, 0, none⟩)] encStr (fun ss => ss.Perm (strKeys (encT m))) (Maps.size (encT m)) (w.alloc (.cells #[.map (some b)] 77)) :=
    Go.Proofs.AnyZ.keys_gives (ρ := Go.Proofs.Tryz.laysKeys_ren) { Go.Proofs.Tryz.laysKeys with } Fence.wide _ trivial rfl (by omega) w.heap.size b m.length (encT m) _ (by simp) (by simp) (by
      obtain ⟨es, clock, hb, Ft, hs, hD⟩ := hown
      exact ⟨es, clock, (Below.heap_alloc _ _ b hbl).trans hb, Ft, hs, hD⟩)
  have h := Go.Proofs.AnyZ.sorted_in Go.Proofs.Tryz.laysSorted Fence.wide 5 trivial trivial trivial trivial rfl (by omega) (sorts _) (Go.Proofs.enters_of Tryz.func74 (by kernel_rfl) rfl) 75 #[.pointer (some ⟨w.heap.size, 0, none⟩)] trivial (Go.Proofs.enters_of Tryz.func75 (by kernel_rfl) rfl) _ _ hmax hbytes _ hseq
  refine (callsIn_wide.1 h).mono fun e w' ⟨v, ss, he, hS, hrow, _, hb⟩ => ⟨v, he, ?_, ((Below.refl _ w).alloc (Nat.le_refl _) _).trans (hb.mono (by simp))⟩
  have hk : strKeys (encT m) = m.map (·.1) := by
    show (m.map fun p => ((.string p.1 : Lit), (.lit (.string p.2) : DataW Unit))).map (fun p => strOf p.1) = _
    rw [List.map_map]
    rfl
  rw [hk] at hS
  have e1 := mergeSort_of_perm hS
  rw [names_sorted hm] at e1
  have e2 : ss.length = m.length := by rw [hS.length_eq, List.length_map]
  rw [show (fun x y : List UInt8 => decide (x ≤ y)) = leB from rfl, e1, e2, List.map_map] at hrow
  rw [List.length_map]
  have e3 : encs Value.string (m.map fun p => mk p.1) = m.map (encStr ∘ fun x => x.1) := by
    unfold encs
    rw [List.map_map]
    rfl
  rw [e3]
  exact ownsRow_base_a hrow (by simp)

set_option maxHeartbeats 2000000 in
theorem tree_Names.calls (w : World) (g b : Nat) (m : TM) (h : IsTree w g b m) (hm : SortedT m) (hl : m.length ≤ 60) :
    Calls Tryz.prog 41 #[.pointer (some ⟨g, 0, none⟩)] w fun e w' => ∃ v : Value, e = .returned v ∧
      w'.ownsRow w.heap.size 9 1 v (m.map fun p => mk p.1).length (encs Value.string (m.map fun p => mk p.1)) ∧ Below w.heap.size w w' := by
  have hc := h.c
  have hK := keys_calls (some b) w
  have hS := sortedKeys_calls b m hm hl w h.map
  clear h hm hl
  generalize (m.map fun p => mk p.1) = nm at hS ⊢
  go_enter Tryz.func41, Tryz.ntmps41
  go_wp2_with (first
    | (go_at_call 60; refine hK.mono ?_; rintro e w2 ⟨rfl, rfl⟩)
    | (go_at_call 59; refine hS.mono ?_; rintro e w3 ⟨v, rfl, hrow, hb⟩))
  go_ret
  exact ⟨v, rfl, hrow, hb⟩

end Go.Proofs.YtobbliglnjgbaaaGreatDoor.X
