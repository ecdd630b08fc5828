/-
  A row of strings that is read; a predicate over strings that is handed over as a function value; slices.IndexFunc and slices.ContainsFunc at []string for such a predicate, whatever memory it makes.
-/
import Derived.Test.YthagibkmfgodgaaGreatDoorSpec
import Derived.Test.YthagibkmfgodgaaGreatDoorGok
import Derived.Test.YthagibkmfgodgaaGreatDoorWMore
import Derived.Test.YthagibkmfgodgaaGreatDoorK0
import Derived.WalkLawsBesides
import Derived.Lib.Hide
import Derived.Shelf.Abstract
namespace Go.Proofs.YthagibkmfgodgaaGreatDoor.X
open Go.RowKit Go.Proofs.YthagibkmfgodgaaGreatDoorW.PrintWords

theorem cell_set (w : World) (b o : Nat) (v : Value) : (w.setCell ⟨b, o, none⟩ v).cell? ⟨b, o, none⟩ = (w.cell? ⟨b, o, none⟩).map fun _ => v := by
  cases h : w.cell? ⟨b, o, none⟩ with
  | some u => exact World.cell?_setCell_same w ⟨b, o, none⟩ v h
  | none =>
    unfold World.setCell World.cell? at *
    simp only [Array.getElem?_modify, if_true]
    cases hb : w.heap[b]? with
    | none => rfl
    | some ob =>
      rw [hb] at h
      cases ob with
      | cells c e f =>
        simp only [Option.isSome_none, Bool.false_eq_true, if_false] at h
        have hc : c.size ≤ o := by
          rcases Nat.lt_or_ge o c.size with hl | hl
          · rw [Array.getElem?_eq_getElem hl] at h; cases h
          · exact hl
        simp [hc]
      | _ => rfl

theorem row_open {w : World} {A : Option Addr} {l : List ByteArray} (h : Kd.C Kd.string w A l.length l) :
    l = [] ∨ ∃ b o, A = some ⟨b, o, none⟩ ∧ b < w.heap.size ∧ ∀ j, j < l.length → w.cell? ⟨b, o + j, none⟩ = some (.string (l.getD j ByteArray.empty)) := by
  rcases Nat.eq_zero_or_pos l.length with h0 | h0
  · exact .inl (List.eq_nil_of_length_eq_zero h0)
  · obtain ⟨ad, rfl, hc⟩ := h.2.2 h0
    have hx : ∀ j, j < l.length → w.cell? (ad.add j) = some (.string (l.getD j ByteArray.empty)) := by
      intro j hj
      obtain ⟨c, _, hk, hcell⟩ := hc j _ (List.getElem?_eq_getElem hj)
      have hk' : c = [.string l[j]] := hk
      subst hk'
      have := hcell 0 _ rfl
      have e : l.getD j ByteArray.empty = l[j] := by simp [List.getD_eq_getElem?_getD, List.getElem?_eq_getElem hj]
      rw [e]
      simpa [show Kd.string.sz = 1 from rfl] using this
    obtain ⟨b, o, sp⟩ := ad
    have h00 := hx 0 h0
    have hs : sp = none := by
      cases sp with
      | none => rfl
      | some s =>
        exfalso
        unfold Addr.add at h00
        simp [World.cell?] at h00
        split at h00 <;> simp at h00
    subst hs
    refine .inr ⟨b, o, rfl, ?_, fun j hj => ?_⟩
    · have := World.block_lt_of_cell? w _ h00
      unfold Addr.add at this
      simpa using this
    · have := hx j hj
      unfold Addr.add at this
      by_cases e : j = 0
      · subst e; simpa using this
      · rwa [if_neg e] at this

/-- A predicate handed over as a function value: it answers p; what was there stays. -/
def PredB (g : Nat) (lb : Array Value) (p : ByteArray → Bool) (w : World) : Prop :=
  ∀ (W : World) (x : ByteArray), Below w.heap.size w W → Calls Tryz.prog g (#[.string x] ++ lb) W fun e w' => e = .returned (.bool (p x)) ∧ Below W.heap.size W w'

set_option maxHeartbeats 2000000 in
theorem indexFunc_calls (g : Nat) (lb : Array Value) (eg : ∀ args w, (callFunc g args).run Tryz.prog w = .ok (.enter g args) w) (p : ByteArray → Bool) (A : Option Addr) (c : Nat) (l : List ByteArray) (w : World)
    (hr : Kd.C Kd.string w A l.length l) (hp : PredB g lb p w) :
    Calls Tryz.prog 160 #[.slice A l.length c, .func (.func g) #[] lb] w fun e w' => ∃ i : Int, e = .returned (.int .i64 i) ∧ decide (0 ≤ i) = l.any p ∧ (i = -1 ∨ 0 ≤ i) ∧ Below w.heap.size w w' := by
  have hlen : l.length ≤ 9223372036854775807 := hr.2.1
  rcases row_open hr with rfl | ⟨b, o, rfl, hb, hcell⟩
  · clear hr hp
    go_enter Tryz.func160, Tryz.ntmps160
    go_wp2
    go_loopg [5, 8] 0 (fun _ _ s8 wr => s8 = .int .i64 0 ∧ wr = w)
    case atStart => exact ⟨rfl, rfl⟩
    case round =>
      obtain ⟨rfl, rfl⟩ := hrel
      go_wp2
      go_ret
      exact ⟨-1, rfl, by simp, .inl rfl, Below.refl _ _⟩
  · clear hr
    have HP := Lib.hid hp
    clear hp
    have HC := Lib.hid hcell
    clear hcell
    go_enter Tryz.func160, Tryz.ntmps160
    go_wp2
    go_loopg [5, 8] l.length (fun gg _ s8 wr => ∃ kk : Nat, kk ≤ l.length ∧ l.length - kk ≤ gg ∧ s8 = .int .i64 kk ∧ Aside0 (Below w.heap.size w wr) ∧ Aside0 (∀ j, j < kk → p (l.getD j ByteArray.empty) = false))
    case atStart => exact ⟨0, Nat.zero_le _, by omega, rfl, ⟨Below.refl _ _⟩, ⟨fun j hj => absurd hj (Nat.not_lt_zero _)⟩⟩
    case round =>
      obtain ⟨kk, hkk, hgk, rfl, HB, HA⟩ := hrel
      by_cases hlt : kk < l.length
      · have hltz : (kk : Int) < (l.length : Int) := by omega
        have hx : wr.cell? ⟨b, o + kk, none⟩ = some (.string (l.getD kk ByteArray.empty)) := cell_keeps HB.out (HC.out kk hlt)
        obtain ⟨y, hy⟩ : ∃ y, y = l.getD kk ByteArray.empty := ⟨_, rfl⟩
        rw [← hy] at hx
        have HY := Lib.hid hy
        clear hy
        have hcall := HP.out wr y HB.out
        cases hq : p y with
        | true =>
          rw [hq] at hcall
          have HQ := Lib.hid hq
          clear hq
          go_wp2_with (go_at_fn g; refine hcall.mono ?_; rintro e w2 ⟨rfl, hb2⟩)
          go_ret
          refine ⟨kk, rfl, ?_, .inr (by omega), below_then HB.out HB.out.size hb2⟩
          have : l.any p = true := List.any_eq_true.2 ⟨y, by rw [HY.out]; simp [List.getD_eq_getElem?_getD, List.getElem?_eq_getElem hlt], HQ.out⟩
          rw [this]
          simp
        | false =>
          rw [hq] at hcall
          have HQ := Lib.hid hq
          clear hq
          go_wp2_with (go_at_fn g; refine hcall.mono ?_; rintro e w2 ⟨rfl, hb2⟩)
          go_roundg (l.length - (kk + 1))
          case measure => omega
          case rel =>
            refine ⟨kk + 1, by omega, by omega, by go_num, ⟨below_then HB.out HB.out.size hb2⟩, ⟨fun j hj => ?_⟩⟩
            by_cases e : j = kk
            · subst e
              rw [← HY.out]; exact HQ.out
            · exact HA.out j (by omega)
      · have hltz : ¬ (kk : Int) < (l.length : Int) := by omega
        have : kk = l.length := by omega
        subst this
        go_wp2
        go_ret
        refine ⟨-1, rfl, ?_, .inl rfl, HB.out⟩
        have : l.any p = false := by
          rw [Bool.eq_false_iff]
          intro h
          obtain ⟨x, hx, hpx⟩ := List.any_eq_true.1 h
          obtain ⟨j, hj, rfl⟩ := List.getElem_of_mem hx
          have := HA.out j hj
          simp [List.getD_eq_getElem?_getD, List.getElem?_eq_getElem hj] at this
          rw [this] at hpx
          cases hpx
        rw [this]
        simp

set_option maxHeartbeats 1000000 in
theorem containsFunc_calls (g : Nat) (lb : Array Value) (eg : ∀ args w, (callFunc g args).run Tryz.prog w = .ok (.enter g args) w) (p : ByteArray → Bool) (A : Option Addr) (c : Nat) (l : List ByteArray) (w : World)
    (hr : Kd.C Kd.string w A l.length l) (hp : PredB g lb p w) :
    Calls Tryz.prog 137 #[.slice A l.length c, .func (.func g) #[] lb] w fun e w' => e = .returned (.bool (l.any p)) ∧ Below w.heap.size w w' := by
  have hI := indexFunc_calls g lb eg p A c l w hr hp
  clear hr hp
  generalize l.any p = q at *
  go_enter Tryz.func137, Tryz.ntmps137
  go_wp2_with (go_at_call 160; refine hI.mono ?_; rintro e w2 ⟨i, rfl, hq, _, hb2⟩)
  go_ret
  exact ⟨by rw [← hq]; rfl, hb2⟩

end Go.Proofs.YthagibkmfgodgaaGreatDoor.X
