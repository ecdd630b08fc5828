/-
  slices.DeleteFunc at []string over a row of the call's own: the row keeps what the predicate doesn't hold of; nothing but that row is written.
-/
import Derived.Test.YtobbliglnjgbaaaGreatDoorExtA
import Derived.Test.YtobbliglnjgbaaaGreatDoorShelfA
import Derived.Sort.Grow
namespace Go.Proofs.YtobbliglnjgbaaaGreatDoor.X
open Go.RowKit Go.Sort Go.Proofs.YtobbliglnjgbaaaGreatDoorW.PrintWords

theorem heap_put {w : World} {g n : Nat} {os : Array Obj} {cur : Array Value} {e : TypeId} {fr : Nat × Nat} (d : Array ByteArray) (hb : w.heap[g]? = some (.cells cur e fr)) :
    (grow (putRow Value.string (Sort.ahead w n) g 0 d) os).heap[g]? = some (.cells (putCells Value.string 0 d cur) e fr) := by
  have hg : g < w.heap.size := (Array.getElem?_eq_some_iff.1 hb).1
  rw [heap_grow_old _ _ (by simpa using hg)]
  simp [putRow, mapBlock, Sort.ahead, Array.getElem?_modify, hb, onCells]
theorem grownBy_put {w : World} {g n : Nat} {os : Array Obj} (d : Array ByteArray) : w.grownBy (grow (putRow Value.string (Sort.ahead w n) g 0 d) os) (some g) := by
  refine ⟨rfl, rfl, rfl, by simp, fun k hk hne => ?_⟩
  rw [heap_grow_old _ _ (by simpa using hk)]
  have : g ≠ k := fun e => hne (by rw [e])
  simp [putRow, mapBlock, Sort.ahead, Array.getElem?_modify, this]
theorem take_put (cur : Array Value) (ts rest : List ByteArray) (h : ts.length + rest.length ≤ cur.size) : (putCells Value.string 0 (ts ++ rest).toArray cur).toList.take ts.length = ts.map Value.string := by
  apply List.ext_getElem?
  intro j
  by_cases hj : j < ts.length
  · rw [List.getElem?_take_of_lt hj, Array.getElem?_toList]
    simp [putCells, hj, show j < cur.size by omega, show j < ts.length + rest.length by omega, List.getElem_append_left]
  · rw [List.getElem?_take_eq_none (by omega), List.getElem?_eq_none (by simp; omega)]
theorem below_of_grown {B : Nat} {w w1 : World} {g : Nat} (hg : w.grownBy w1 (some g)) (hB : B ≤ w.heap.size) (hBg : B ≤ g) : Below B w w1 := (Below.refl B w).grown hg hB (fun k hk => by cases hk; exact hBg)
theorem holds_of_row {w : World} {g : Nat} {cur : Array Value} {e : TypeId} {ss : List ByteArray} (hb : w.heap[g]? = some (.cells cur e (0, 0))) (ht : cur.toList.take ss.length = ss.map Value.string) : Holds Value.string w g 0 ss.toArray := by
  intro j hj
  have hj' : j < ss.length := by simpa using hj
  refine ⟨?_, by simp [World.frozen?, hb]⟩
  have h1 : (cur.toList.take ss.length)[j]? = (ss.map Value.string)[j]? := by rw [ht]
  rw [List.getElem?_take_of_lt hj'] at h1
  simp only [World.cell?, hb, Nat.zero_add]
  simp only [Option.isSome_none, Bool.false_eq_true, if_false]
  rw [← Array.getElem?_toList, h1]
  simp [hj']

set_option maxHeartbeats 1000000 in
theorem deleteFunc_own (B base g : Nat) (lb : Array Value) (eg : ∀ args w, (callFunc g args).run Tryz.prog w = .ok (.enter g args) w) (p : ByteArray → Bool) (v : Value) (l : List ByteArray) (w : World)
    (hown : w.ownsRow base 9 1 v l.length (encs Value.string l)) (hB : B ≤ base) (hBw : B ≤ w.heap.size) (hp : ∀ (W : World) (x : ByteArray), Below B w W → Go.Proofs.FnGives Tryz.prog g lb #[.string x] (.bool (p x)) W) :
    Calls Tryz.prog 48 #[v, .func (.func g) #[] lb] w fun e w' => ∃ v', e = .returned v' ∧ w'.ownsRow base 9 1 v' (l.filter fun x => !p x).length (encs Value.string (l.filter fun x => !p x)) ∧ v'.ownBlock = v.ownBlock ∧ w.grownBy w' v.ownBlock := by
  have hlen : l.length ≤ 9223372036854775807 := by
    rcases hown.2 with ⟨_, h0⟩ | ⟨_, cap, cur, _, _, _, h1, h2, _⟩
    · omega
    · simp only [maxLen] at h2; omega
  rcases hown.2 with ⟨rfl, h0⟩ | ⟨gb, cap, cur, rfl, hbase, hb, h1, h2, h3, h4⟩
  · obtain rfl : l = [] := List.eq_nil_of_length_eq_zero h0
    have hI := indexFunc_calls g lb eg p none 0 [] w ⟨rfl, by simp, fun h => absurd h (by simp)⟩ (fun W x hb => (hp W x (hb.mono hBw)).mono fun e w' ⟨he, q, hw⟩ => ⟨he, by subst hw; exact pw_below_drewN (Below.refl _ _) q⟩)
    clear hp hown h0
    go_enter Tryz.func48, Tryz.ntmps48
    go_wp2_with fail
    refine hI.mono ?_
    rintro e w2 ⟨i, rfl, hq, hi, hb2⟩
    have hi' : i = -1 := by
      rcases hi with hi | hi
      · exact hi
      · simp [hi] at hq
    subst hi'
    clear hq hi hI
    go_wp2
    go_ret
    exact ⟨.slice none 0 0, rfl, own_nil _ _ _ _, rfl, grown_of_below hb2 _⟩
  · have hH : Holds Value.string w gb 0 l.toArray := holds_of_row hb (by simpa [encs] using h4)
    have hcall := Go.Proofs.AnyE.slices_DeleteFunc Go.Proofs.Tryz.laysDel Value.string (fun _ => rfl) p g lb eg ByteArray.empty Tryz.zeroValue9 gb 0 cap l.toArray w
      (fun W x hb => hp W x (hb.mono hBw))
      (fun n os dk x _ => hp _ x (below_of_grown (grownBy_put dk) hBw (by omega))) hH (by simpa using hlen) (by simpa using h1)
    change Calls Tryz.prog 48 _ _ _ at hcall
    refine hcall.mono fun e w' ⟨he, q, hw⟩ => ?_
    have hf : (l.filter fun x => !p x).length ≤ l.length := List.length_filter_le _ _
    have hg0 : w' = grow (putRow Value.string (Sort.ahead w q) gb 0 ((l.filter fun x => !p x) ++ List.replicate (l.length - (l.filter fun x => !p x).length) ByteArray.empty).toArray) #[] := by rw [hw]; simp
    refine ⟨_, he, ?_, rfl, ?_⟩
    · refine ⟨by simp [encs], .inr ⟨gb, cap, _, rfl, hbase, by rw [hg0]; exact heap_put _ hb, by simpa using Nat.le_trans hf h1, h2, by simp [putCells, h3], ?_⟩⟩
      simp only [Nat.mul_one]
      exact take_put cur _ _ (by rw [List.length_replicate]; omega)
    · rw [hg0]; exact grownBy_put _

end Go.Proofs.YtobbliglnjgbaaaGreatDoor.X
