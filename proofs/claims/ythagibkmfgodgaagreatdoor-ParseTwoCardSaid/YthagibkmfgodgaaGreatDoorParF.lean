/-
  The parser, walked by hand: list.
-/
import Derived.Test.YthagibkmfgodgaaGreatDoorParA
namespace Go.Proofs.YthagibkmfgodgaaGreatDoor.X
open Go.RowKit Go.Maps Go.Proofs.YthagibkmfgodgaaGreatDoorW.PrintWords Go.Proofs.YthagibkmfgodgaaGreatDoorW.PrintMore Go.Proofs.YthagibkmfgodgaaGreatDoorW.PrintLast

/-- Words in a block, from a cell on. -/
def WordsAt (cur : Array Value) (o : Nat) (l : List SWord) : Prop := ∀ j x, l[j]? = some x → cur[o + 3 * j]? = some (.int .i64 x.f0) ∧ cur[o + 3 * j + 1]? = some (.int .i64 x.f1) ∧ cur[o + 3 * j + 2]? = some (.string x.f2)
theorem WordsAt.tail {cur : Array Value} {o : Nat} {x : SWord} {r : List SWord} (h : WordsAt cur o (x :: r)) : WordsAt cur (o + 3) r := fun j y hy => by
  have := h (j + 1) y (by simpa using hy)
  rw [show o + 3 * (j + 1) = o + 3 + 3 * j by omega] at this
  exact this
theorem WordsAt.drop {cur : Array Value} {o : Nat} {l : List SWord} (h : WordsAt cur o l) (k : Nat) : WordsAt cur (o + 3 * k) (l.drop k) := fun j y hy => by
  have := h (k + j) y (by rw [List.getElem?_drop] at hy; exact hy)
  rw [show o + 3 * (k + j) = o + 3 * k + 3 * j by omega] at this
  exact this
/-- The parser in block g: its words lie in another block. -/
structure IsP (w : World) (g : Nat) (s : PS) (b o c : Nat) (cur : Array Value) : Prop where
  own : w.heap[g]? = some (.cells #[.slice (some ⟨b, o, none⟩) s.1.length c, .int .i64 s.2] 74 (0, 0))
  cap : s.1.length ≤ c
  row : w.heap[b]? = some (.cells cur 34 (0, 0))
  words : WordsAt cur o s.1
def HasP (w : World) (g : Nat) (s : PS) : Prop := ∃ b o c cur, IsP w g s b o c cur
theorem IsP.grown {w w1 : World} {g : Nat} {s : PS} {b o c : Nat} {cur : Array Value} (h : IsP w g s b o c cur) {row : Option Nat} (hg : w.grownBy w1 row) (h1 : some g ≠ row) (h2 : some b ≠ row) : IsP w1 g s b o c cur :=
  ⟨blk_grown h.own hg h1, h.cap, blk_grown h.row hg h2, h.words⟩
theorem HasP.below {w w1 : World} {g : Nat} {s : PS} (h : HasP w g s) (hb : Below w.heap.size w w1) : HasP w1 g s := by
  obtain ⟨b, o, c, cur, h⟩ := h
  exact ⟨b, o, c, cur, blk_below h.own hb, h.cap, blk_below h.row hb, h.words⟩
theorem HasP.lt {w : World} {g : Nat} {s : PS} (h : HasP w g s) : g < w.heap.size := by
  obtain ⟨b, o, c, cur, h⟩ := h
  exact blk_lt h.own
/-- Blocks of other types are written. -/
theorem HasP.step {w w1 : World} {g : Nat} {s : PS} (h : HasP w g s) (hs : ∀ (k t : Nat) (cs : Array Value), (t = 74 ∨ t = 34) → w.heap[k]? = some (.cells cs t (0, 0)) → w1.heap[k]? = w.heap[k]?) : HasP w1 g s := by
  obtain ⟨b, o, c, cur, h⟩ := h
  exact ⟨b, o, c, cur, (hs _ _ _ (.inl rfl) h.own).trans h.own, h.cap, (hs _ _ _ (.inr rfl) h.row).trans h.row, h.words⟩
theorem HasP.set {w : World} {g g' : Nat} {s : PS} (h : HasP w g s) {cs : Array Value} {t : Nat} (hb : w.heap[g']? = some (.cells cs t (0, 0))) (h1 : 74 ≠ t) (h2 : 34 ≠ t) (j : Nat) (u : Value) : HasP (w.setCell ⟨g', j, none⟩ u) g s :=
  h.step fun k t' cs' ht hk => Below.heap_setCell w ⟨g', j, none⟩ u k (blk_ne hk hb (by rcases ht with rfl | rfl <;> assumption))
/-- The first word, cell by cell. -/
theorem IsP.first {w : World} {g : Nat} {s : PS} {b o c : Nat} {cur : Array Value} (h : IsP w g s b o c cur) (hn : s.1 ≠ []) :
    w.cell? ⟨b, o, none⟩ = some (.int .i64 (headW s.1).f0) ∧ w.cell? ⟨b, o + 1, none⟩ = some (.int .i64 (headW s.1).f1) ∧ w.cell? ⟨b, o + 2, none⟩ = some (.string (headW s.1).f2) := by
  obtain ⟨l, d⟩ := s
  match l, hn with
  | x :: r, _ =>
    have := h.words 0 x rfl
    exact ⟨(blk_cell h.row o).trans this.1, (blk_cell h.row (o + 1)).trans this.2.1, (blk_cell h.row (o + 2)).trans this.2.2⟩
/-- The first word is taken. -/
theorem IsP.taken {w : World} {g : Nat} {s : PS} {b o c : Nat} {cur : Array Value} (h : IsP w g s b o c cur) {x : SWord} {r : List SWord} (hs : s.1 = x :: r) :
    IsP (w.setCell ⟨g, 0, none⟩ (.slice (some ⟨b, o + 3, none⟩) r.length (c - 1))) g (r, s.2) b (o + 3) (c - 1) cur := by
  have hc := h.cap
  have hw := h.words
  rw [hs] at hc hw
  exact ⟨blk_put h.own 0 _ rfl, by simp only [List.length_cons] at hc; show r.length ≤ c - 1; omega, blk_far h.row (blk_ne h.row h.own (by decide)) _, hw.tail⟩
theorem IsP.marked {w : World} {g : Nat} {s : PS} {b o c : Nat} {cur : Array Value} (h : IsP w g s b o c cur) (u : Int) : IsP (w.setCell ⟨g, 1, none⟩ (.int .i64 u)) g (s.1, u) b o c cur :=
  ⟨blk_put h.own 1 _ rfl, h.cap, blk_far h.row (blk_ne h.row h.own (by decide)) _, h.words⟩
theorem grown_set (w : World) (g j : Nat) (u : Value) : w.grownBy (w.setCell ⟨g, j, none⟩ u) (some g) :=
  ⟨rfl, rfl, rfl, by simp [World.setCell], fun k _ hk => Below.heap_setCell w ⟨g, j, none⟩ u k (fun e => hk (by rw [e]))⟩

end Go.Proofs.YthagibkmfgodgaaGreatDoor.X

namespace Go.Proofs.YthagibkmfgodgaaGreatDoor.X
open Go.RowKit Go.Maps Go.Proofs.YthagibkmfgodgaaGreatDoorW.PrintWords Go.Proofs.YthagibkmfgodgaaGreatDoorW.PrintMore Go.Proofs.YthagibkmfgodgaaGreatDoorW.PrintLast

set_option maxHeartbeats 1000000 in
theorem ok_calls (g : Nat) (s : PS) (w : World) (h : HasP w g s) :
    Calls Tryz.prog 51 #[.pointer (some ⟨g, 0, none⟩)] w fun e w' => e = .returned (.bool (decide (s.2 < 0))) ∧ w = w' := by
  obtain ⟨b, o, c, cur, hp⟩ := h
  have h1 : w.cell? ⟨g, 1, none⟩ = some (.int .i64 s.2) := (blk_cell hp.own 1).trans rfl
  clear hp
  go_enter Tryz.func51, Tryz.ntmps51
  go_wp2
  go_ret
  exact ⟨rfl, rfl⟩

set_option maxHeartbeats 1000000 in
theorem fails_calls (g : Nat) (s : PS) (w : World) (h : HasP w g s) (hg : GoodW s.1) :
    Calls Tryz.prog 124 #[.pointer (some ⟨g, 0, none⟩)] w fun e w' => e = .returned (.tuple #[]) ∧ HasP w' g (failsP s) ∧ w.grownBy w' (some g) := by
  obtain ⟨b, o, c, cur, hp⟩ := h
  have h0 : w.cell? ⟨g, 0, none⟩ = some (.slice (some ⟨b, o, none⟩) s.1.length c) := (blk_cell hp.own 0).trans rfl
  have h1 : w.cell? ⟨g, 1, none⟩ = some (.int .i64 s.2) := (blk_cell hp.own 1).trans rfl
  have hf1 := blk_frozen hp.own 1
  obtain ⟨k0, k1, k2⟩ := hp.first hg.ne
  have hpos : 0 < s.1.length := List.length_pos_iff.2 hg.ne
  have HP := Lib.hid hp
  by_cases hb : s.2 < 0
  · have hd : decide (s.2 < 0) = true := by simpa using hb
    have HF : Hid (failsP s = (s.1, (headW s.1).f1)) := by show _ = _; unfold failsP; rw [if_pos hb]
    clear hp
    go_enter Tryz.func124, Tryz.ntmps124
    go_wp2
    go_end0
    rw [HF.out]
    exact ⟨rfl, ⟨b, o, c, cur, HP.out.marked _⟩, grown_set _ _ _ _⟩
  · have hd : decide (s.2 < 0) = false := by simpa using hb
    have HF : Hid (failsP s = s) := by show _ = _; unfold failsP; rw [if_neg hb]
    clear hp
    go_enter Tryz.func124, Tryz.ntmps124
    go_wp2
    go_end0
    rw [HF.out]
    exact ⟨rfl, ⟨b, o, c, cur, HP.out⟩, World.grownBy.refl _ _⟩

theorem str_eq (x y : ByteArray) : (x.toList == y.toList) = decide (x = y) := by
  rw [toList_eq, toList_eq, Bool.eq_iff_iff]
  simp only [beq_iff_eq, decide_eq_true_eq]
  exact ⟨fun h => data_inj h, fun h => by rw [h]⟩
set_option maxHeartbeats 2000000 in
theorem is_calls (g : Nat) (k : Int) (t : ByteArray) (s : PS) (w : World) (h : HasP w g s) (hn : s.1 ≠ []) :
    Calls Tryz.prog 85 #[.pointer (some ⟨g, 0, none⟩), .int .i64 k, .string t] w fun e w' => e = .returned (.bool (isP k t s)) ∧ w = w' := by
  have hO := fun W hW => ok_calls g s W hW
  obtain ⟨b, o, c, cur, hp⟩ := id h
  have h0 : w.cell? ⟨g, 0, none⟩ = some (.slice (some ⟨b, o, none⟩) s.1.length c) := (blk_cell hp.own 0).trans rfl
  obtain ⟨k0, k1, k2⟩ := hp.first hn
  have hpos : 0 < s.1.length := List.length_pos_iff.2 hn
  have HH := Lib.hid h
  clear hp h
  by_cases hb : s.2 < 0
  · have hd : decide (s.2 < 0) = true := by simpa using hb
    rw [hd] at hO
    by_cases hk : (headW s.1).f0 = k
    · have hkd : ((headW s.1).f0 == k) = true := by simpa using hk
      have HE : Hid (isP k t s = ((headW s.1).f2.toList == t.toList)) := by show _ = _; rw [str_eq]; unfold isP atP; rw [hd, decide_eq_true hk]; rfl
      clear hb hk hd
      go_enter Tryz.func85, Tryz.ntmps85
      go_wp2_with (go_at_call 51; refine (hO _ HH.out).mono ?_; rintro e w' ⟨rfl, rfl⟩)
      go_ret
      rw [HE.out]
      exact ⟨rfl, rfl⟩
    · have hkd : ((headW s.1).f0 == k) = false := by simpa using hk
      have HE : Hid (isP k t s = false) := by show _ = _; unfold isP atP; rw [decide_eq_false hk]; simp
      clear hb hk hd
      go_enter Tryz.func85, Tryz.ntmps85
      go_wp2_with (go_at_call 51; refine (hO _ HH.out).mono ?_; rintro e w' ⟨rfl, rfl⟩)
      go_ret
      rw [HE.out]
      exact ⟨rfl, rfl⟩
  · have hd : decide (s.2 < 0) = false := by simpa using hb
    rw [hd] at hO
    have HE : Hid (isP k t s = false) := by show _ = _; unfold isP; rw [hd]; rfl
    clear hb hd
    go_enter Tryz.func85, Tryz.ntmps85
    go_wp2_with (go_at_call 51; refine (hO _ HH.out).mono ?_; rintro e w' ⟨rfl, rfl⟩)
    go_ret
    rw [HE.out]
    exact ⟨rfl, rfl⟩

theorem slice_tail (b o n c : Nat) (W : World) (hn : 0 < n) (_hc : n ≤ c) (h2 : 2 ≤ c) : (Instr.slice 24 (.slice (some ⟨b, o, none⟩) n c) (some (.int .i64 1)) none none).run Tryz.prog W = .ok (.slice (some ⟨b, o + 3, none⟩) (n - 1) (c - 1)) W := by
  obtain ⟨i0, hi, hz⟩ := Option.map_eq_some_iff.1 infoW
  simp only [Prod.mk.injEq] at hz
  have hel : Program.elem Tryz.prog 24 = 34 := by simp [Program.elem, Tryz.underlying24]
  have hu : Tryz.prog.underlying 24 = some (.slice (Program.elem Tryz.prog 24)) := by rw [hel]; exact Tryz.underlying24
  rw [run_slice_l W 24 (some ⟨b, o, none⟩) n c hu .i64 1 (by omega) (by omega), hel]
  simp [sizeOf, typeInfo, hi, hz.2.1, sliced, Result.andThen, Addr.add]
  omega

end Go.Proofs.YthagibkmfgodgaaGreatDoor.X

namespace Go.Proofs.YthagibkmfgodgaaGreatDoor.X
open Go.RowKit Go.Maps Go.Proofs.YthagibkmfgodgaaGreatDoorW.PrintWords Go.Proofs.YthagibkmfgodgaaGreatDoorW.PrintMore Go.Proofs.YthagibkmfgodgaaGreatDoorW.PrintLast

/-- The words are two at least, where the first one is no end. -/
theorem two_words {l : List SWord} (hg : GoodW l) (hk : (headW l).f0 ≠ 4) : ∃ x y r, l = x :: y :: r := by
  have h2 := hg.tail hk
  match l, hg.ne, h2.ne with
  | x :: y :: r, _, _ => exact ⟨x, y, r, rfl⟩
set_option maxHeartbeats 2000000 in
theorem take_calls (g : Nat) (k : Int) (hk4 : k ≠ 4) (t : ByteArray) (s : PS) (w : World) (h : HasP w g s) (hg : GoodW s.1) :
    Calls Tryz.prog 83 #[.pointer (some ⟨g, 0, none⟩), .int .i64 k, .string t] w fun e w' => e = .returned (.bool (takeP k t s).1) ∧ HasP w' g (takeP k t s).2 ∧ w.grownBy w' (some g) := by
  have hI := fun W hW => is_calls g k t s W hW hg.ne
  have HH := Lib.hid h
  by_cases hi : isP k t s = true
  · have HE : Hid (takeP k t s = (true, (s.1.tail, s.2))) := by show _ = _; unfold takeP; rw [if_pos hi]
    rw [hi] at hI
    obtain ⟨x, y, r, hs⟩ := two_words hg (by rw [(isP_at hi).2.1]; exact hk4)
    obtain ⟨b, o, c, cur, hp⟩ := id h
    have hc2 := hp.cap
    have ht := hp.taken hs
    have h0 : w.cell? ⟨g, 0, none⟩ = some (.slice (some ⟨b, o, none⟩) s.1.length c) := (blk_cell hp.own 0).trans rfl
    have hf0 := blk_frozen hp.own 0
    have hlen : s.1.length = r.length + 2 := by rw [hs]; rfl
    have hst := fun W => slice_tail b o s.1.length c W (by omega) hc2 (by omega)
    rw [show s.1.length - 1 = (y :: r).length by rw [hlen]; rfl] at hst
    have HT := Lib.hid ht
    have HS := Lib.hid hs
    clear hp h hi ht hs hc2 hlen
    go_enter Tryz.func83, Tryz.ntmps83
    go_wp2_with (go_at_call 85; refine (hI _ HH.out).mono ?_; rintro e w' ⟨rfl, rfl⟩)
    go_ret
    rw [HE.out]
    refine ⟨rfl, ?_, grown_set _ _ _ _⟩
    have := HT.out
    rw [HS.out]
    exact ⟨b, o + 3, c - 1, cur, this⟩
  · have hi' : isP k t s = false := by simpa using hi
    have HE : Hid (takeP k t s = (false, s)) := by show _ = _; unfold takeP; rw [if_neg hi]
    rw [hi'] at hI
    clear h hi hi'
    go_enter Tryz.func83, Tryz.ntmps83
    go_wp2_with (go_at_call 85; refine (hI _ HH.out).mono ?_; rintro e w' ⟨rfl, rfl⟩)
    go_ret
    rw [HE.out]
    exact ⟨rfl, HH.out, World.grownBy.refl _ _⟩
theorem grown_trans {w w1 w2 : World} {row : Option Nat} (h : w.grownBy w1 row) (h2 : w1.grownBy w2 row) : w.grownBy w2 row :=
  ⟨h2.os.trans h.os, h2.tape.trans h.tape, h2.output.trans h.output, Nat.le_trans h.size h2.size, fun k hk hne => (h2.block k (Nat.lt_of_lt_of_le hk h.size) hne).trans (h.block k hk hne)⟩
set_option maxHeartbeats 2000000 in
theorem must_calls (g : Nat) (k : Int) (hk4 : k ≠ 4) (t : ByteArray) (s : PS) (w : World) (h : HasP w g s) (hg : GoodW s.1) :
    Calls Tryz.prog 81 #[.pointer (some ⟨g, 0, none⟩), .int .i64 k, .string t] w fun e w' => e = .returned (.tuple #[]) ∧ HasP w' g (mustP k t s) ∧ w.grownBy w' (some g) := by
  have hT := take_calls g k hk4 t s w h hg
  by_cases hi : isP k t s = true
  · have HE : Hid (mustP k t s = (s.1.tail, s.2)) := by show _ = _; unfold mustP; rw [if_pos hi]
    rw [show takeP k t s = (true, (s.1.tail, s.2)) by unfold takeP; rw [if_pos hi]] at hT
    clear h hi
    go_enter Tryz.func81, Tryz.ntmps81
    go_wp2_with (go_at_call 83; refine hT.mono ?_; rintro e w2 ⟨rfl, h2, hgr2⟩)
    go_end0
    rw [HE.out]
    exact ⟨rfl, h2, hgr2⟩
  · have HE : Hid (mustP k t s = failsP s) := by show _ = _; unfold mustP; rw [if_neg hi]
    rw [show takeP k t s = (false, s) by unfold takeP; rw [if_neg hi]] at hT
    have hF := fun W hW => fails_calls g s W hW hg
    clear h hi
    go_enter Tryz.func81, Tryz.ntmps81
    go_wp2_with fail
    refine hT.mono ?_
    rintro e w2 ⟨rfl, h2, hgr2⟩
    have HG2 := Lib.hid hgr2
    clear hT hgr2
    go_wp2_with fail
    refine (hF _ h2).mono ?_
    rintro e w3 ⟨rfl, h3, hgr3⟩
    have HG3 := Lib.hid (grown_trans HG2.out hgr3)
    clear hgr3 hF
    go_wp2
    go_end0
    rw [HE.out]
    exact ⟨rfl, h3, HG3.out⟩

set_option maxHeartbeats 4000000 in
theorem next_calls (g q : Nat) (eg : ∀ args w, (callFunc q args).run Tryz.prog w = .ok (.enter q args) w) (p : ByteArray → Bool) (k : Int) (hk4 : k ≠ 4) (s : PS) (w : World) (h : HasP w g s) (hg : GoodW s.1)
    (hp : Calls Tryz.prog q #[.string (headW s.1).f2] w fun e w' => e = .returned (.bool (p (headW s.1).f2)) ∧ Below w.heap.size w w') :
    Calls Tryz.prog 125 #[.pointer (some ⟨g, 0, none⟩), .int .i64 k, .func (.func q) #[] #[]] w fun e w' => e = .returned (.string (nextP k p s).1) ∧ HasP w' g (nextP k p s).2 ∧ w.grownBy w' (some g) := by
  have hO := fun W hW => ok_calls g s W hW
  have hF := fun W hW => fails_calls g s W hW hg
  obtain ⟨b, o, c, cur, hq⟩ := id h
  have h0 : w.cell? ⟨g, 0, none⟩ = some (.slice (some ⟨b, o, none⟩) s.1.length c) := (blk_cell hq.own 0).trans rfl
  obtain ⟨k0, k1, k2⟩ := hq.first hg.ne
  have hpos : 0 < s.1.length := List.length_pos_iff.2 hg.ne
  have HH := Lib.hid h
  by_cases hm : mayP k p s = true
  · have HE : Hid (nextP k p s = ((headW s.1).f2, (s.1.tail, s.2))) := by show _ = _; unfold nextP; rw [if_pos hm]
    obtain ⟨m1, m2, m3⟩ := mayP_at hm
    have hd : decide (s.2 < 0) = true := by simpa using m1
    rw [hd] at hO
    rw [m3] at hp
    have hkd : ((headW s.1).f0 != k) = false := by simpa using m2
    obtain ⟨x, y, r, hs⟩ := two_words hg (by rw [m2]; exact hk4)
    have hc2 := hq.cap
    have hlen : s.1.length = r.length + 2 := by rw [hs]; rfl
    have hst := fun W => slice_tail b o s.1.length c W (by omega) hc2 (by omega)
    rw [show s.1.length - 1 = (y :: r).length by rw [hlen]; rfl] at hst
    have HQ := Lib.hid hq
    have HS := Lib.hid hs
    clear h hm m1 m2 m3 hd hF hq hs hc2 hlen
    go_enter Tryz.func125, Tryz.ntmps125
    go_wp2_with (first | (go_at_call 51; refine (hO _ HH.out).mono ?_; rintro e w' ⟨rfl, rfl⟩) | (go_at_fn q; refine hp.mono ?_; rintro e w2 ⟨rfl, hb2⟩; have HP2 := Lib.hid (show IsP w2 g s b o c cur from ⟨blk_below HQ.out.own hb2, HQ.out.cap, blk_below HQ.out.row hb2, HQ.out.words⟩); have HB2 := Lib.hid hb2; have h02 : w2.cell? ⟨g, 0, none⟩ = some (.slice (some ⟨b, o, none⟩) s.1.length c) := pw_cell_below hb2 h0; have k02 := pw_cell_below hb2 k0; have k12 := pw_cell_below hb2 k1; have k22 := pw_cell_below hb2 k2; have hf02 := blk_frozen HP2.out.own 0; have hA0 : ∀ ob : Obj, (w2.alloc ob).cell? ⟨g, 0, none⟩ = some (.slice (some ⟨b, o, none⟩) s.1.length c) := fun ob => (blk_cell (blk_alloc HP2.out.own ob) 0).trans rfl; have hA1 : ∀ ob : Obj, (w2.alloc ob).frozen? ⟨g, 0, none⟩ = false := fun ob => blk_frozen (blk_alloc HP2.out.own ob) 0; clear hb2 h0 k0 k1 k2))
    go_ret
    rw [HE.out]
    have hq3 := HP2.out.grown (grown_of_below (below_alloc (Below.refl _ _) (.cells #[.int .i64 (headW s.1).f0, .int .i64 (headW s.1).f1, .string (headW s.1).f2] 34)) none) (by simp) (by simp)
    have ht := hq3.taken HS.out
    have htl : s.1.tail = y :: r := by rw [HS.out]; rfl
    rw [htl]
    exact ⟨rfl, ⟨b, o + 3, c - 1, cur, ht⟩, grown_trans (grown_of_below (below_alloc HB2.out _) _) (grown_set _ _ _ _)⟩
  · have HE : Hid (nextP k p s = (⟨#[]⟩, failsP s)) := by show _ = _; unfold nextP; rw [if_neg hm]
    by_cases m1 : s.2 < 0
    · have hd : decide (s.2 < 0) = true := by simpa using m1
      rw [hd] at hO
      by_cases m2 : (headW s.1).f0 = k
      · have hkd : ((headW s.1).f0 != k) = false := by simpa using m2
        have m3 : p (headW s.1).f2 = false := by
          cases hpp : p (headW s.1).f2 with
          | false => rfl
          | true => exact absurd (by unfold mayP; simp [m1, m2, hpp]) hm
        rw [m3] at hp
        clear h hm m1 m2 m3 hd hq
        go_enter Tryz.func125, Tryz.ntmps125
        go_wp2_with (first | (go_at_call 51; refine (hO _ HH.out).mono ?_; rintro e w' ⟨rfl, rfl⟩) | (go_at_fn q; refine hp.mono ?_; rintro e w2 ⟨rfl, hb2⟩; have HB2 := Lib.hid hb2) | (go_at_call 124; refine (hF _ (HH.out.below HB2.out)).mono ?_; rintro e w3 ⟨rfl, h3, hg3⟩; have HG3 := Lib.hid hg3; clear hg3))
        go_ret
        rw [HE.out]
        exact ⟨rfl, h3, grown_trans (grown_of_below HB2.out _) HG3.out⟩
      · have hkd : ((headW s.1).f0 != k) = true := by simpa using m2
        clear h hm m1 m2 hd hq hp
        go_enter Tryz.func125, Tryz.ntmps125
        go_wp2_with (first | (go_at_call 51; refine (hO _ HH.out).mono ?_; rintro e w' ⟨rfl, rfl⟩) | (go_at_call 124; refine (hF _ HH.out).mono ?_; rintro e w3 ⟨rfl, h3, hg3⟩; have HG3 := Lib.hid hg3; clear hg3))
        go_ret
        rw [HE.out]
        exact ⟨rfl, h3, HG3.out⟩
    · have hd : decide (s.2 < 0) = false := by simpa using m1
      rw [hd] at hO
      clear h hm m1 hd hq hp
      go_enter Tryz.func125, Tryz.ntmps125
      go_wp2_with (first | (go_at_call 51; refine (hO _ HH.out).mono ?_; rintro e w' ⟨rfl, rfl⟩) | (go_at_call 124; refine (hF _ HH.out).mono ?_; rintro e w3 ⟨rfl, h3, hg3⟩; have HG3 := Lib.hid hg3; clear hg3))
      go_ret
      rw [HE.out]
      exact ⟨rfl, h3, HG3.out⟩

end Go.Proofs.YthagibkmfgodgaaGreatDoor.X

namespace Go.Proofs.YthagibkmfgodgaaGreatDoor.X
open Go.RowKit Go.Maps Go.Proofs.YthagibkmfgodgaaGreatDoorW.PrintWords Go.Proofs.YthagibkmfgodgaaGreatDoorW.PrintMore Go.Proofs.YthagibkmfgodgaaGreatDoorW.PrintLast

/-! ### slices.Index over strings; the commands -/
theorem idxF_hit {l : List ByteArray} {t : ByteArray} {k : Nat} (hk : k < l.length) (h : l.getD k ByteArray.empty = t) (h0 : ∀ j, j < k → l.getD j ByteArray.empty ≠ t) : idxF l t = k := by
  unfold idxF
  have : l.findIdx? (fun x => decide (x = t)) = some k := by
    rw [List.findIdx?_eq_some_iff_getElem]
    refine ⟨hk, ?_, fun j hj => ?_⟩
    · simp [List.getD_eq_getElem?_getD, List.getElem?_eq_getElem hk] at h
      simpa using h
    · have := h0 j hj
      simp [List.getD_eq_getElem?_getD, List.getElem?_eq_getElem (show j < l.length by omega)] at this
      simpa using this
  rw [this]
theorem idxF_miss {l : List ByteArray} {t : ByteArray} (h0 : ∀ j, j < l.length → l.getD j ByteArray.empty ≠ t) : idxF l t = -1 := by
  unfold idxF
  have : l.findIdx? (fun x => decide (x = t)) = none := by
    rw [List.findIdx?_eq_none_iff]
    intro x hx
    obtain ⟨j, hj, rfl⟩ := List.getElem_of_mem hx
    have := h0 j hj
    simp [List.getD_eq_getElem?_getD, List.getElem?_eq_getElem hj] at this
    simpa using this
  rw [this]
set_option maxHeartbeats 2000000 in
theorem index_calls (A : Option Addr) (c : Nat) (l : List ByteArray) (t : ByteArray) (w : World) (hr : Kd.C Kd.string w A l.length l) (hn : 0 < l.length) :
    Calls Tryz.prog 58 #[.slice A l.length c, .string t] w fun e w' => e = .returned (.int .i64 (idxF l t)) ∧ w = w' := by
  have hlen : l.length ≤ 9223372036854775807 := hr.2.1
  rcases row_open hr with rfl | ⟨b, o, rfl, hb, hcell⟩
  · simp at hn
  · clear hr
    have HC := Lib.hid hcell
    clear hcell
    go_enter Tryz.func58, Tryz.ntmps58
    go_wp2
    go_loopg [5, 8] l.length (fun gg _ s8 wr => ∃ kk : Nat, kk ≤ l.length ∧ l.length - kk ≤ gg ∧ s8 = .int .i64 kk ∧ wr = w ∧ Aside0 (∀ j, j < kk → l.getD j ByteArray.empty ≠ t))
    case atStart => exact ⟨0, Nat.zero_le _, by omega, rfl, rfl, ⟨fun j hj => absurd hj (Nat.not_lt_zero _)⟩⟩
    case round =>
      obtain ⟨kk, hkk, hgk, rfl, rfl, HA⟩ := hrel
      by_cases hlt : kk < l.length
      · have hltz : (kk : Int) < (l.length : Int) := by omega
        have hx : wr.cell? ⟨b, o + kk, none⟩ = some (.string (l.getD kk ByteArray.empty)) := HC.out kk hlt
        obtain ⟨y, hy⟩ : ∃ y, y = l.getD kk ByteArray.empty := ⟨_, rfl⟩
        rw [← hy] at hx
        have HY := Lib.hid hy
        clear hy
        by_cases hyt : t = y
        · have he : (t.toList == y.toList) = true := by rw [str_eq]; simpa using hyt
          have HE : Hid (idxF l t = kk) := idxF_hit hlt (by rw [← HY.out, hyt]) HA.out
          clear hyt
          go_wp2
          go_ret
          exact ⟨by rw [HE.out]; rfl, rfl⟩
        · have he : (t.toList == y.toList) = false := by rw [str_eq]; simpa using hyt
          have HE : Hid (∀ j, j < kk + 1 → l.getD j ByteArray.empty ≠ t) := by
            intro j hj
            by_cases e : j = kk
            · subst e; rw [← HY.out]; exact fun e => hyt e.symm
            · exact HA.out j (by omega)
          clear hyt
          go_wp2
          go_roundg (l.length - (kk + 1))
          case measure => omega
          case rel => exact ⟨kk + 1, by omega, by omega, by go_num, rfl, ⟨HE.out⟩⟩
      · have hltz : ¬ (kk : Int) < (l.length : Int) := by omega
        have HE : Hid (idxF l t = -1) := idxF_miss (fun j hj => HA.out j (by omega))
        go_wp2
        go_ret
        exact ⟨by rw [HE.out]; rfl, rfl⟩
def opsC : Array Value := #[.string ⟨#[]⟩, .string ⟨#[99, 111, 112, 121]⟩, .string ⟨#[110, 101, 101, 100]⟩, .string ⟨#[115, 111, 114, 116]⟩, .string ⟨#[99, 111, 117, 110, 116]⟩, .string ⟨#[99, 111, 110, 99, 97, 116]⟩, .string ⟨#[108, 105, 116, 101, 114, 97, 108]⟩, .string ⟨#[115, 101, 108, 101, 99, 116]⟩, .string ⟨#[114, 101, 112, 108, 97, 99, 101]⟩, .string ⟨#[112, 114, 101, 102, 105, 120]⟩]
set_option maxHeartbeats 1000000 in
theorem ops_calls (w : World) : Calls Tryz.prog 59 #[] w fun e w' => e = .returned (.slice (some ⟨w.heap.size, 0, none⟩) 10 10) ∧ w' = w.alloc (.cells opsC 9) := by
  go_enter Tryz.func59, Tryz.ntmps59
  go_wp2
  go_ret
  exact ⟨rfl, rfl⟩
theorem ops_row (W : World) : Kd.C Kd.string (W.alloc (.cells opsC 9)) (some ⟨W.heap.size, 0, none⟩) opsL.length opsL :=
  lit_C Kd.string W 9 opsL (encs Value.string opsL) (Kd.reps_scalar _) (by decide)
set_option maxHeartbeats 1000000 in
theorem op_calls (t : ByteArray) (w : World) : Calls Tryz.prog 34 #[.string t] w fun e w' => e = .returned (.int .i64 (opF t)) ∧ w' = w.alloc (.cells opsC 9) := by
  have hI := index_calls _ 10 opsL t _ (ops_row w) (by decide)
  have HE : Hid (opF t = max (idxF opsL t) 0) := rfl
  generalize idxF opsL t = i at hI HE
  go_enter Tryz.func34, Tryz.ntmps34
  go_wp2_with (first | (go_at_call 59; refine (ops_calls _).mono ?_; rintro e w' ⟨rfl, rfl⟩) | (go_at_call 58; refine hI.mono ?_; rintro e w' ⟨rfl, rfl⟩))
  all_goals
    go_ret
    refine ⟨?_, rfl⟩
    rw [HE.out]
    first | rfl | (congr 2; omega)

def opNameF (op : Int) : ByteArray := if 1 ≤ op ∧ op ≤ 9 then opsL.getD op.toNat ByteArray.empty else ⟨#[]⟩
set_option maxHeartbeats 1000000 in
theorem opName_calls (op : Int) (w : World) : Calls Tryz.prog 35 #[.int .i64 op] w fun e w' => e = .returned (.string (opNameF op)) ∧ Below w.heap.size w w' := by
  by_cases h1 : op < 1
  · have d1 : decide (op < 1) = true := by simpa using h1
    have HE : Hid (opNameF op = ⟨#[]⟩) := by show _ = _; unfold opNameF; rw [if_neg (by omega)]
    clear h1
    go_enter Tryz.func35, Tryz.ntmps35
    go_wp2
    go_ret
    exact ⟨by rw [HE.out]; rfl, Below.refl _ _⟩
  · have d1 : decide (op < 1) = false := by simpa using h1
    by_cases h2 : 9 < op
    · have d2 : decide ((9 : Int) < op) = true := by simpa using h2
      have HE : Hid (opNameF op = ⟨#[]⟩) := by show _ = _; unfold opNameF; rw [if_neg (by omega)]
      clear h1 h2
      go_enter Tryz.func35, Tryz.ntmps35
      go_wp2
      go_ret
      exact ⟨by rw [HE.out]; rfl, Below.refl _ _⟩
    · have d2 : decide ((9 : Int) < op) = false := by simpa using h2
      obtain ⟨n, rfl⟩ := Int.eq_ofNat_of_zero_le (show 0 ≤ op by omega)
      have hn : n < 10 := by omega
      have hc : (w.alloc (.cells opsC 9)).cell? ⟨w.heap.size, n, none⟩ = some (.string (opNameF n)) := by
        rw [blk_cell (blk_new w _) n]
        have : ∀ n : Nat, n < 10 → 1 ≤ n → opsC[n]? = some (.string (opNameF n)) := by
          intro n h h1
          match n, h, h1 with
          | 1, _, _ => rfl
          | 2, _, _ => rfl
          | 3, _, _ => rfl
          | 4, _, _ => rfl
          | 5, _, _ => rfl
          | 6, _, _ => rfl
          | 7, _, _ => rfl
          | 8, _, _ => rfl
          | 9, _, _ => rfl
        exact this n hn (by omega)
      have hnz : (n : Int) < 10 := by omega
      clear h1 h2
      go_enter Tryz.func35, Tryz.ntmps35
      go_wp2_with (go_at_call 59; refine (ops_calls _).mono ?_; rintro e w' ⟨rfl, rfl⟩)
      go_ret
      exact ⟨rfl, (Below.refl _ _).alloc (Nat.le_refl _) _⟩

/-! ### the parser with all that it keeps -/
def GOKg (w : World) (g : Nat) : Prop := ∃ w0 : World, GOK w0 ∧ w0.heap.size ≤ g ∧ Below w0.heap.size w0 w
structure PAR (w : World) (g : Nat) (s : PS) : Prop where
  has : HasP w g s
  gok : GOKg w g
  good : GoodW s.1
  len : s.1.length ≤ 100000
theorem PAR.gk {w : World} {g : Nat} {s : PS} (h : PAR w g s) : GOK w := by
  obtain ⟨w0, h0, _, hb⟩ := h.gok
  exact h0.below hb
theorem GOKg.grown {w w1 : World} {g : Nat} (h : GOKg w g) (hg : w.grownBy w1 (some g)) : GOKg w1 g := by
  obtain ⟨w0, h0, h1, hb⟩ := h
  exact ⟨w0, h0, h1, hb.grown hg hb.size (fun k hk => by injection hk with hk; omega)⟩
theorem PAR.to {w w1 : World} {g : Nat} {s s1 : PS} (h : PAR w g s) (hI : ∀ I, InvP I → I s → I s1) (hp : HasP w1 g s1) (hg : w.grownBy w1 (some g)) : PAR w1 g s1 :=
  ⟨hp, h.gok.grown hg, hI _ inv_good h.good, hI _ (inv_len 100000) h.len⟩
theorem PAR.keep {w w1 : World} {g : Nat} {s : PS} (h : PAR w g s) (hp : HasP w1 g s) (hg : w.grownBy w1 (some g)) : PAR w1 g s := ⟨hp, h.gok.grown hg, h.good, h.len⟩
theorem PAR.below {w w1 : World} {g : Nat} {s : PS} (h : PAR w g s) (hb : Below w.heap.size w w1) : PAR w1 g s := h.keep (h.has.below hb) (grown_of_below hb _)
theorem grown_below {w W w1 : World} {g : Nat} (h : w.grownBy W (some g)) (hb : Below w.heap.size W w1) : w.grownBy w1 (some g) :=
  ⟨hb.os.trans h.os, hb.tape.trans h.tape, hb.output.trans h.output, Nat.le_trans h.size hb.size, fun k hk hne => (hb.block k hk).trans (h.block k hk hne)⟩
/-- A row of the call's own keeps, while the parser is turned. -/
theorem row_keep {α : Type} {d : Kd α} {e : Nat} {w w1 : World} {base g : Nat} {v : Value} {xs : List α} (h : d.R e w base (fun _ => True) v xs) (hg : w.grownBy w1 (some g)) (hlt : g < base) : d.R e w1 base (fun _ => True) v xs :=
  Kd.R_mono (Kd.R_grown (Kd.R_bound h) hg (fun k hk e => by injection e with e; have := hk.2.1; omega)) (fun _ _ => trivial)
/-- The parser keeps, while a row of another type is written. -/
theorem HasP.row {w w1 : World} {g : Nat} {s : PS} (h : HasP w g s) {base e size n : Nat} {v : Value} {xs : List Value} (ho : w.ownsRow base e size v n xs) (h1 : e ≠ 74) (h2 : e ≠ 34) (hg : w.grownBy w1 v.ownBlock) : HasP w1 g s := by
  obtain ⟨b, o, c, cur, h⟩ := h
  exact ⟨b, o, c, cur, h.grown hg (own_ne ho h.own h1) (own_ne ho h.row h2)⟩

/-! ### what a word may be -/
theorem eg_may : ∀ args w, (callFunc 102 args).run Tryz.prog w = .ok (.enter 102 args) w := Go.Proofs.enters_of Tryz.func102 (by kernel_rfl) rfl
theorem eg_text : ∀ args w, (callFunc 152 args).run Tryz.prog w = .ok (.enter 152 args) w := Go.Proofs.enters_of Tryz.func152 (by kernel_rfl) rfl
theorem eg_op : ∀ args w, (callFunc 126 args).run Tryz.prog w = .ok (.enter 126 args) w := Go.Proofs.enters_of Tryz.func126 (by kernel_rfl) rfl
theorem eg_num : ∀ args w, (callFunc 128 args).run Tryz.prog w = .ok (.enter 128 args) w := Go.Proofs.enters_of Tryz.func128 (by kernel_rfl) rfl
set_option maxHeartbeats 1000000 in
theorem text1_calls (t : ByteArray) (w : World) : Calls Tryz.prog 152 #[.string t] w fun e w' => e = .returned (.bool true) ∧ Below w.heap.size w w' := by
  go_enter Tryz.func152, Tryz.ntmps152
  go_wp2
  go_ret
  exact ⟨rfl, Below.refl _ _⟩
set_option maxHeartbeats 1000000 in
theorem step1_calls (t : ByteArray) (w : World) : Calls Tryz.prog 126 #[.string t] w fun e w' => e = .returned (.bool (opB t)) ∧ Below w.heap.size w w' := by
  go_enter Tryz.func126, Tryz.ntmps126
  go_wp2_with (go_at_call 34; refine (op_calls t _).mono ?_; rintro e w' ⟨rfl, rfl⟩)
  go_ret
  exact ⟨rfl, (Below.refl _ _).alloc (Nat.le_refl _) _⟩
set_option maxHeartbeats 1000000 in
theorem step2_calls (t : ByteArray) (ht : t.size ≤ 100000) (w : World) (hG : GOK w) : Calls Tryz.prog 128 #[.string t] w fun e w' => e = .returned (.bool (numB t)) ∧ Below w.heap.size w w' := by
  have hN := mint_GetNumber.calls t 2000 (numV t) (numB t) w hG (by unfold mint_GetNumber.f; rw [if_pos (by omega)]; rfl)
  go_enter Tryz.func128, Tryz.ntmps128
  go_wp2_with (go_at_call 99; refine hN.mono ?_; rintro e w' ⟨rfl, hb⟩)
  go_ret
  exact ⟨rfl, hb⟩

/-! ### words taken -/
set_option maxHeartbeats 1000000 in
theorem name_calls (g : Nat) (s : PS) (w : World) (h : PAR w g s) :
    Calls Tryz.prog 82 #[.pointer (some ⟨g, 0, none⟩)] w fun e w' => e = .returned (.string (nameP s).1) ∧ PAR w' g (nameP s).2 ∧ w.grownBy w' (some g) := by
  have hN := next_calls g 102 eg_may nameB 1 (by decide) s w h.has h.good (path_May.calls _ _ w h.gk rfl)
  have HH := Lib.hid h
  clear h
  go_enter Tryz.func82, Tryz.ntmps82
  go_wp2_with (go_at_call 125; refine hN.mono ?_; rintro e w' ⟨rfl, hp, hg⟩)
  go_ret
  exact ⟨rfl, HH.out.to (fun _ hI hi => hI.name hi) hp hg, hg⟩
set_option maxHeartbeats 1000000 in
theorem text_calls' (g : Nat) (s : PS) (w : World) (h : PAR w g s) :
    Calls Tryz.prog 127 #[.pointer (some ⟨g, 0, none⟩)] w fun e w' => e = .returned (.string (textP s).1) ∧ PAR w' g (textP s).2 ∧ w.grownBy w' (some g) := by
  have hN := next_calls g 152 eg_text (fun _ => true) 2 (by decide) s w h.has h.good (text1_calls _ w)
  have HH := Lib.hid h
  clear h
  go_enter Tryz.func127, Tryz.ntmps127
  go_wp2_with (go_at_call 125; refine hN.mono ?_; rintro e w' ⟨rfl, hp, hg⟩)
  go_ret
  exact ⟨rfl, HH.out.to (fun _ hI hi => hI.text hi) hp hg, hg⟩
theorem must_par (g : Nat) (k : Int) (hk4 : k ≠ 4) (t : ByteArray) (s : PS) (w : World) (h : PAR w g s) :
    Calls Tryz.prog 81 #[.pointer (some ⟨g, 0, none⟩), .int .i64 k, .string t] w fun e w' => e = .returned (.tuple #[]) ∧ PAR w' g (mustP k t s) ∧ w.grownBy w' (some g) :=
  (must_calls g k hk4 t s w h.has h.good).mono fun _ _ ⟨he, hp, hg⟩ => ⟨he, h.to (fun _ hI hi => hI.must hi hk4 t) hp hg, hg⟩
theorem take_par (g : Nat) (k : Int) (hk4 : k ≠ 4) (t : ByteArray) (s : PS) (w : World) (h : PAR w g s) :
    Calls Tryz.prog 83 #[.pointer (some ⟨g, 0, none⟩), .int .i64 k, .string t] w fun e w' => e = .returned (.bool (isP k t s)) ∧ PAR w' g (takeP k t s).2 ∧ w.grownBy w' (some g) :=
  (take_calls g k hk4 t s w h.has h.good).mono fun _ _ ⟨he, hp, hg⟩ => ⟨by
    rw [he]
    unfold takeP
    by_cases hi : isP k t s = true
    · rw [if_pos hi, hi]
    · rw [if_neg hi]
      simp at hi
      rw [hi], h.to (fun _ hI hi => by
    unfold takeP
    split
    · next hc => exact hI.adv s hi (isP_at hc).1 (by rw [(isP_at hc).2.1]; exact hk4)
    · exact hi) hp hg, hg⟩
theorem next_par (g q : Nat) (eg : ∀ args w, (callFunc q args).run Tryz.prog w = .ok (.enter q args) w) (p : ByteArray → Bool) (k : Int) (hk4 : k ≠ 4) (s : PS) (w : World) (h : PAR w g s)
    (hp : Calls Tryz.prog q #[.string (headW s.1).f2] w fun e w' => e = .returned (.bool (p (headW s.1).f2)) ∧ Below w.heap.size w w') :
    Calls Tryz.prog 125 #[.pointer (some ⟨g, 0, none⟩), .int .i64 k, .func (.func q) #[] #[]] w fun e w' => e = .returned (.string (nextP k p s).1) ∧ PAR w' g (nextP k p s).2 ∧ w.grownBy w' (some g) :=
  (next_calls g q eg p k hk4 s w h.has h.good hp).mono fun _ _ ⟨he, hp, hg⟩ => ⟨he, h.to (fun _ hI hi => hI.next hi hk4 p) hp hg, hg⟩

end Go.Proofs.YthagibkmfgodgaaGreatDoor.X

namespace Go.Proofs.YthagibkmfgodgaaGreatDoor.X
open Go.RowKit Go.Maps Go.Proofs.YthagibkmfgodgaaGreatDoorW.PrintWords Go.Proofs.YthagibkmfgodgaaGreatDoorW.PrintMore Go.Proofs.YthagibkmfgodgaaGreatDoorW.PrintLast

theorem infoStr : (Tryz.prog.info? 9).map (fun i => (i.zero, i.size, i.bytes)) = some (some (.string ⟨#[]⟩), 1, 16) := by kernel_rfl
abbrev RS (w : World) (base : Nat) (v : Value) (l : List ByteArray) : Prop := Kd.R Kd.string 9 w base (fun _ => True) v l
theorem RS.par {w w1 : World} {base g : Nat} {v : Value} {l : List ByteArray} {s : PS} (h : RS w base v l) (hp : PAR w g s) (hb : Below base w w1) (hlt : g < base) (hg : w.grownBy w1 v.ownBlock) : PAR w1 g s := by
  obtain ⟨inner, ho⟩ := Kd.R_own h
  refine ⟨hp.has.row ho (by decide) (by decide) hg, ?_, hp.good, hp.len⟩
  obtain ⟨w0, h0, h1, hb0⟩ := hp.gok
  exact ⟨w0, h0, h1, hb0.trans (hb.mono (by omega))⟩
theorem rs_one (W : World) (base : Nat) (x : ByteArray) (hb : base ≤ W.heap.size) : RS (W.alloc (.cells #[.string x] 9)) base (.slice (some ⟨W.heap.size, 0, none⟩) 1 1) [x] :=
  Kd.R_of_own (h1 := fun _ => rfl) (own_lit_of (enc := Value.string) W base 9 [x] hb (by simp)) (fun _ _ => trivial)
theorem moreP_len : ∀ (n : Nat) (s : PS), (moreP n s).1.length + (moreP n s).2.1.length ≤ s.1.length
  | 0, s => by simp [moreP]
  | n + 1, s => by
    unfold moreP
    split
    · next hi =>
      have h1 := moreP_len n (nameP (s.1.tail, s.2)).2
      have h2 := nextP_len 1 nameB (s.1.tail, s.2)
      have h3 : 0 < s.1.length := by
        rcases Nat.eq_zero_or_pos s.1.length with h | h
        · exfalso
          have hnil : s.1 = [] := List.eq_nil_of_length_eq_zero h
          have := (isP_at hi).2.1
          rw [hnil] at this
          exact absurd this (by decide)
        · exact h
      have h4 : (nameP (s.1.tail, s.2)).2.1.length ≤ s.1.length - 1 := by
        have : (nameP (s.1.tail, s.2)).2.1.length ≤ s.1.tail.length := h2
        simpa using this
      simp only [List.length_cons]
      omega
    · simp
theorem grown_refl (w : World) (g : Nat) : w.grownBy w (some g) := World.grownBy.refl _ _
set_option maxHeartbeats 2000000 in
theorem list_calls (g : Nat) (s : PS) (w : World) (h : PAR w g s) :
    Calls Tryz.prog 84 #[.pointer (some ⟨g, 0, none⟩)] w fun e w' => ∃ v, e = .returned v ∧ RS w' w.heap.size v (listP s).1 ∧ PAR w' g (listP s).2 ∧ w.grownBy w' (some g) := by
  have hN := name_calls g s w h
  have hlt := h.has.lt
  have HL := Lib.hid hlt
  have hT : ∃ T, listP s = T := ⟨_, rfl⟩
  obtain ⟨T, hT⟩ := hT
  have HT : Hid ((nameP s).1 :: (moreP (nameP s).2.1.length (nameP s).2).1 = T.1 ∧ mustP 3 semi (moreP (nameP s).2.1.length (nameP s).2).2 = T.2) := ⟨by rw [← hT]; rfl, by rw [← hT]; rfl⟩
  rw [hT]
  have hln : (nameP s).2.1.length ≤ s.1.length := nextP_len 1 nameB s
  have hle := h.len
  clear h hlt hT
  go_enter Tryz.func84, Tryz.ntmps84
  go_wp2_with fail
  refine hN.mono ?_
  rintro e w1 ⟨rfl, hp1, hg1⟩
  generalize hx : (nameP s).1 = x at HT ⊢
  generalize hs1 : (nameP s).2 = s1 at HT hp1 hln
  have HP1 := Lib.hid hp1
  have HG1 := Lib.hid hg1
  clear hN hx hs1 hp1 hg1
  go_wp2_with fail
  go_loopg [3] s1.1.length (fun gg s3 wr => ∃ (acc : List ByteArray) (s2 : PS), s2.1.length ≤ gg ∧ acc.length + s2.1.length ≤ s1.1.length + 1 ∧ Aside0 (acc ++ (moreP s2.1.length s2).1 = T.1 ∧ mustP 3 semi (moreP s2.1.length s2).2 = T.2) ∧
    Aside0 (RS wr w.heap.size s3 acc) ∧ Aside0 (PAR wr g s2) ∧ Aside0 (w.grownBy wr (some g)))
  case atStart =>
    refine ⟨[x], s1, Nat.le_refl _, by simp; omega, ⟨HT.out⟩, ⟨rs_one _ _ _ HG1.out.size⟩, ⟨HP1.out.below ((Below.refl _ _).alloc (Nat.le_refl _) _)⟩, ⟨grown_below HG1.out ((Below.refl _ _).alloc HG1.out.size _)⟩⟩
  case round =>
    obtain ⟨acc, s2, hgk, hal, HK, HO, HP, HG⟩ := hrel
    have hTk := take_par g 3 (by decide) comma s2 wr HP.out
    by_cases hi : isP 3 comma s2 = true
    · have htk : takeP 3 comma s2 = (true, (s2.1.tail, s2.2)) := by unfold takeP; rw [if_pos hi]
      rw [hi, htk] at hTk
      have h3 : 0 < s2.1.length := List.length_pos_iff.2 HP.out.good.ne
      have hnl : (nameP (s2.1.tail, s2.2)).2.1.length ≤ s2.1.length - 1 := by
        have := nextP_len 1 nameB (s2.1.tail, s2.2)
        have h5 : (nameP (s2.1.tail, s2.2)).2.1.length ≤ s2.1.tail.length := this
        simpa using h5
      have HK2 : Hid (∀ n m : Nat, ∀ s3 : PS, s3.1.length ≤ n → s3.1.length ≤ m → moreP n s3 = moreP m s3) := by
        intro n
        induction n with
        | zero => 
          intro m s3 h1 h2
          have : s3.1 = [] := List.eq_nil_of_length_eq_zero (by omega)
          cases m with
          | zero => rfl
          | succ m =>
            unfold moreP
            rw [if_neg]
            intro hi
            have := (isP_at hi).2.1
            rw [‹s3.1 = []›] at this
            exact absurd this (by decide)
        | succ n ih =>
          intro m s3 h1 h2
          cases m with
          | zero =>
            have : s3.1 = [] := List.eq_nil_of_length_eq_zero (by omega)
            unfold moreP
            rw [if_neg]
            intro hi
            have := (isP_at hi).2.1
            rw [‹s3.1 = []›] at this
            exact absurd this (by decide)
          | succ m =>
            unfold moreP
            split
            · next hi =>
              have h5 : (nameP (s3.1.tail, s3.2)).2.1.length ≤ s3.1.tail.length := nextP_len 1 nameB (s3.1.tail, s3.2)
              rw [List.length_tail] at h5
              rw [ih m _ (by omega) (by omega)]
            · rfl
      have HM : Hid ((acc ++ [(nameP (s2.1.tail, s2.2)).1]) ++ (moreP (nameP (s2.1.tail, s2.2)).2.1.length (nameP (s2.1.tail, s2.2)).2).1 = T.1 ∧ mustP 3 semi (moreP (nameP (s2.1.tail, s2.2)).2.1.length (nameP (s2.1.tail, s2.2)).2).2 = T.2) := by
        have hK := HK.out
        obtain ⟨n, hn⟩ : ∃ n, s2.1.length = n + 1 := ⟨s2.1.length - 1, by omega⟩
        rw [hn, moreP, if_pos hi, HK2.out n (nameP (s2.1.tail, s2.2)).2.1.length _ (by omega) (Nat.le_refl _)] at hK
        exact ⟨by rw [← hK.1]; simp, hK.2⟩
      clear HK2 hi htk
      have hnm := fun W hW => name_calls g (s2.1.tail, s2.2) W hW
      generalize hx2 : (nameP (s2.1.tail, s2.2)).1 = x2 at HM hnm
      generalize hs3 : (nameP (s2.1.tail, s2.2)).2 = s3 at HM hnm hnl
      clear hx2 hs3
      go_wp2_with fail
      refine hTk.mono ?_
      rintro e w2 ⟨rfl, hp2, hg2⟩
      have HO2 := Lib.hid (row_keep HO.out hg2 HL.out)
      have HG2 := Lib.hid (grown_trans HG.out hg2)
      have HP2 := Lib.hid hp2
      clear hTk hp2 hg2
      go_wp2_with fail
      refine (hnm _ HP2.out).mono ?_
      rintro e w3 ⟨rfl, hp3, hg3⟩
      have HO3 := Lib.hid (row_keep HO2.out hg3 HL.out)
      have HG3 := Lib.hid (grown_trans HG2.out hg3)
      have HP3 := Lib.hid hp3
      have HS3 : Hid (w.heap.size ≤ w3.heap.size) := HG3.out.size
      have hal2 : acc.length ≤ 200000 := by omega
      clear hnm hp3 hg3
      go_wp2_with (first | ((with_reducible refine gate_builtin (b := .append) (xs := #[.tmp 9, .tmp 12]) rfl ?_); at_builtin; refine Kd.R_append Kd.string (w0 := w3) w.heap.size rfl (.tmp 9) (.tmp 12) 46 9 (.string ⟨#[]⟩) 16 rfl Tryz.underlying46 infoStr rfl (by decide) (by decide) u3 acc x2 [.string x2] (fun _ => True) (fun k_ => True ∧ some k_ ≠ u3.ownBlock) rfl rfl rfl (fun _ hk => hk) (fun _ _ => trivial) HO3.out (Below.refl _ _) HS3.out ?aL ?_; (case aL => omega); intro v1 w4 ho hb hg hat; have HO4 := Lib.hid ho; have HP4 := Lib.hid (RS.par HO3.out HP3.out hb HL.out hg); have HG4 := Lib.hid (grown_below HG3.out hb); clear ho hb hg hat))
      go_roundg s3.1.length
      case measure => omega
      case rel => exact ⟨acc ++ [x2], s3, Nat.le_refl _, by simp; omega, ⟨HM.out⟩, ⟨HO4.out⟩, ⟨HP4.out⟩, ⟨HG4.out⟩⟩
    · have hi' : isP 3 comma s2 = false := by simpa using hi
      have htk : takeP 3 comma s2 = (false, s2) := by unfold takeP; rw [if_neg hi]
      rw [hi', htk] at hTk
      have HM : Hid (acc = T.1 ∧ mustP 3 semi s2 = T.2) := by
        have hK := HK.out
        have hm0 : moreP s2.1.length s2 = ([], s2) := by
          generalize s2.1.length = n
          cases n with
          | zero => rfl
          | succ n => unfold moreP; rw [if_neg hi]
        rw [hm0] at hK
        exact ⟨by rw [← hK.1]; simp, hK.2⟩
      have hmu := fun W hW => must_par g 3 (by decide) semi s2 W hW
      clear hi htk hi'
      go_wp2_with fail
      refine hTk.mono ?_
      rintro e w2 ⟨rfl, hp2, hg2⟩
      have HO2 := Lib.hid (row_keep HO.out hg2 HL.out)
      have HG2 := Lib.hid (grown_trans HG.out hg2)
      have HP2 := Lib.hid hp2
      clear hTk hp2 hg2
      go_wp2_with fail
      refine (hmu _ HP2.out).mono ?_
      rintro e w3 ⟨rfl, hp3, hg3⟩
      have HO3 := Lib.hid (row_keep HO2.out hg3 HL.out)
      have HG3 := Lib.hid (grown_trans HG2.out hg3)
      have HP3 := Lib.hid hp3
      clear hmu hp3 hg3
      go_wp2
      go_ret
      refine ⟨_, rfl, ?_, ?_, HG3.out⟩
      · rw [← HM.out.1]; exact HO3.out
      · rw [← HM.out.2]; exact HP3.out

end Go.Proofs.YthagibkmfgodgaaGreatDoor.X
