/-
  Trees: New and Clone.
-/
import Derived.Test.YtobbliglnjgbaaaGreatDoorTreeB
namespace Go.Proofs.YtobbliglnjgbaaaGreatDoor.X
open Go.RowKit Go.Maps Go.Proofs.YtobbliglnjgbaaaGreatDoorW.PrintWords Go.Proofs.YtobbliglnjgbaaaGreatDoorW.PrintLast

theorem insT_length (x : Bytes × Bytes) : ∀ m : TM, (insT x m).length = m.length + 1
  | [] => rfl
  | y :: r => by
    unfold insT
    split
    · rfl
    · rw [List.length_cons, insT_length x r, List.length_cons]
theorem delT_length (m : TM) (k : Bytes) : (delT m k).length ≤ m.length := List.length_filter_le _ _
theorem delT_less (m : TM) (k v : Bytes) (h : getT m k = some v) : (delT m k).length + 1 ≤ m.length := by
  unfold getT at h
  cases hf : m.find? (fun p => p.1 == k) with
  | none => rw [hf] at h; cases h
  | some p =>
    have hp := List.find?_some hf
    have hm := List.mem_of_find?_eq_some hf
    have : (delT m k).length < m.length := by
      rcases Nat.lt_or_ge (delT m k).length m.length with hl | hl
      · exact hl
      · have e := List.length_filter_eq_length_iff.1 (Nat.le_antisymm (delT_length m k) hl) p hm
        simp at hp e
        exact absurd hp e
    omega
theorem writeT_length (m : TM) (k v : Bytes) (h : m.length ≤ 60) : (writeT m k v).1.length ≤ 60 := by
  unfold writeT
  split
  · exact h
  · split
    · exact h
    · rename_i h2
      show (putT m k v).length ≤ 60
      unfold putT
      rw [insT_length]
      cases hg : getT m k with
      | none =>
        have := delT_length m k
        have h3 : ¬ 60 ≤ m.length := fun h4 => h2 (.inr ⟨hg, h4⟩)
        omega
      | some x =>
        have := delT_less m k x hg
        omega
def newT (l : List (Bytes × Bytes)) : TM := l.foldl (fun m f => (writeT m f.1 f.2).1) []
theorem newT_snoc (l : List (Bytes × Bytes)) (f : Bytes × Bytes) : newT (l ++ [f]) = (writeT (newT l) f.1 f.2).1 := by
  unfold newT
  rw [List.foldl_append]
  rfl
theorem foldT_length (l : List (Bytes × Bytes)) : ∀ m : TM, m.length ≤ 60 → (l.foldl (fun m f => (writeT m f.1 f.2).1) m).length ≤ 60 := by
  induction l with
  | nil => exact fun _ h => h
  | cons f r ih => exact fun m h => ih _ (writeT_length m _ _ h)
theorem newT_length (l : List (Bytes × Bytes)) : (newT l).length ≤ 60 := foldT_length l [] (by simp)
/-- A tree that was made: new memory. -/
def Made (w : World) (m : TM) (e : Ending) (w' : World) : Prop := ∃ g b, e = .returned (.pointer (some ⟨g, 0, none⟩)) ∧ IsTree w' g b m ∧ w.heap.size ≤ g ∧ w.heap.size ≤ b ∧ Below w.heap.size w w'
def fileOf (f : S50) : Bytes × Bytes := (f.f0.data.toList, f.f1.data.toList)

set_option maxHeartbeats 4000000 in
set_option maxRecDepth 100000 in
theorem tree_New.calls (A : Option Addr) (c : Nat) (l : List S50) (w : World) (hG : GOK w) (hr : Kd.C k50 w A l.length l) (hsz : ∀ f ∈ l, f.f0.size ≤ maxLen ∧ f.f1.size ≤ maxLen) :
    Calls Tryz.prog 25 #[.slice A l.length c] w (Made w (newT (l.map fileOf))) := by
  have hlen : l.length ≤ 9223372036854775807 := hr.2.1
  have HG := Lib.hid hG
  have HR := Lib.hid hr
  have HZ := Lib.hid hsz
  clear hG hr hsz
  have hmm := @run_makeMap Tryz.prog
  go_enter Tryz.func25, Tryz.ntmps25
  go_wp2_with fail
  go_loopg [5, 11] l.length (fun gg _ s11 wr => ∃ kk : Nat, kk ≤ l.length ∧ l.length - kk ≤ gg ∧ s11 = .int .i64 kk ∧ Aside0 (IsTree wr (w.heap.size + 1) w.heap.size (newT ((l.take kk).map fileOf))) ∧ Aside0 (Below w.heap.size w wr))
  case atStart =>
    refine ⟨0, Nat.zero_le _, by omega, rfl, ⟨⟨?_, ?_⟩⟩, ⟨((Below.refl _ _).alloc (Nat.le_refl _) _).alloc (by simp) _⟩⟩
    · have := heap_alloc_new (w.alloc (.map #[] 0)) (.cells #[.map (some w.heap.size)] 79)
      simpa using this
    · exact ((World.ownsMap_made w Tryz.prog 9 _).alloc _)
  case round =>
    obtain ⟨kk, hkk, hgk, rfl, HT, HW⟩ := hrel
    by_cases hlt : kk < l.length
    · have hltz : (kk : Int) < (l.length : Int) := by omega
      have hx := at_T50 HR.out (kk : Int) (by omega) hltz
      obtain ⟨ad, rfl, hx0, hx1⟩ := hx
      simp only [Int.toNat_natCast] at hx0 hx1
      obtain ⟨y, hy⟩ : ∃ y, y = rd_T50 l (kk : Int) := ⟨_, rfl⟩
      rw [← hy] at hx0 hx1
      have hym : y = l[kk] := by rw [hy]; unfold rd_T50; simp [List.getD_eq_getElem?_getD, List.getElem?_eq_getElem hlt]
      have HY : Hid (y = l[kk]) := hym
      clear hy hym
      replace hx0 := cell_keeps HW.out hx0
      replace hx1 := cell_keeps HW.out hx1
      have HN : Hid (newT ((l.take (kk + 1)).map fileOf) = (writeT (newT ((l.take kk).map fileOf)) y.f0.data.toList y.f1.data.toList).1) := by
        show _ = _
        rw [List.take_succ_eq_append_getElem hlt, List.map_append, List.map_cons, List.map_nil, newT_snoc, HY.out]
        rfl
      have HL : Hid ((newT ((l.take kk).map fileOf)).length ≤ 60) := newT_length _
      have HZ1 : Hid (y.f0.size ≤ maxLen ∧ y.f1.size ≤ maxLen) := by rw [HY.out]; exact HZ.out _ (List.getElem_mem hlt)
      go_wp2_with fail
      have hb1 : ∀ o, Below wr.heap.size wr (wr.alloc o) := fun o => (Below.refl _ _).alloc (Nat.le_refl _) o
      refine (tree_Write.calls _ (HG.out.below (below_then HW.out HW.out.size (hb1 _))) _ _ _ (HT.out.below (hb1 _)) y.f0 y.f1 HZ1.out.1 HZ1.out.2 HL.out).mono ?_
      rintro e w2 ⟨rfl, hT2, hg2⟩
      rw [← HN.out] at hT2
      have HT2 : Hid (IsTree w2 (w.heap.size + 1) w.heap.size (newT ((l.take (kk + 1)).map fileOf))) := hT2
      have HW2 : Hid (Below w.heap.size w w2) := (below_then HW.out HW.out.size (hb1 _)).grown hg2 (Nat.le_trans HW.out.size (hb1 _).size) (fun k hk => by cases hk; exact Nat.le_refl _)
      clear hT2 hg2 hb1 hx0 hx1 HN HL HZ1 HY
      go_wp2
      go_roundg (l.length - (kk + 1))
      case measure => omega
      case rel => exact ⟨kk + 1, by omega, by omega, by go_num, ⟨HT2.out⟩, ⟨HW2.out⟩⟩
    · have hltz : ¬ (kk : Int) < (l.length : Int) := by omega
      obtain rfl : kk = l.length := by omega
      have hT := HT.out
      rw [List.take_length] at hT
      have HT' : Hid (IsTree wr (w.heap.size + 1) w.heap.size (newT (l.map fileOf))) := hT
      clear HT hT
      go_wp2
      go_ret
      exact ⟨w.heap.size + 1, w.heap.size, rfl, HT'.out, by omega, Nat.le_refl _, HW.out⟩

set_option maxHeartbeats 4000000 in
theorem tree_Clone.calls (w : World) (g b : Nat) (m : TM) (h : IsTree w g b m) :
    Calls Tryz.prog 37 #[.pointer (some ⟨g, 0, none⟩)] w (Made w m) := by
  have hc := h.c
  have HT := Lib.hid h
  have hC := Go.Proofs.AnyW.maps_Clone_owns Go.Proofs.Tryz.laysMClone 9 (plainElem Tryz.prog 9) b m.length (encT m) w h.map
  change Calls Tryz.prog 58 _ _ _ at hC
  clear h
  go_enter Tryz.func37, Tryz.ntmps37
  go_wp2_with (go_at_call 58; refine hC.mono ?_; rintro e w2 ⟨rfl, ho, _, hb2⟩)
  go_ret
  have hlt := HT.out.lt
  have hs : w.heap.size < w2.heap.size := ho.lt
  refine ⟨w2.heap.size, w.heap.size, rfl, ⟨heap_alloc_new w2 _, ho.alloc _⟩, hb2.size, Nat.le_refl _, hb2.trans ((Below.refl _ _).alloc hb2.size _)⟩

end Go.Proofs.YtobbliglnjgbaaaGreatDoor.X
