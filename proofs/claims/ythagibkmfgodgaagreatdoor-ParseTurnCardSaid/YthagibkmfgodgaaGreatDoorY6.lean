/-
  The reference's reader in memory; walked by hand: fail, ok, is, want.
  The reference's lexer, walked by hand: str.
  The reference's names, walked by hand: Parts tells a name's parts, May whether a name may be.
  Unlike parts have unlike keys: put tells its parts.
  (Pg) printed by the kit's print for this seat; what is not reached is left out.
  Numbers that are read: mint's GetNumber and the reference's tell the same: a text is a number's if it is written as numbers are.
  A text as a string, plain: what is quoted is read again.
  Rule files, plain law: one rule file behind another.
  The reference's reader, walked by hand: Op, name, str, list.
-/
import Derived.BigQuiet
import Derived.BigRegion
import Derived.Deep.RegionWith
import Derived.IntWalk
import Derived.Test.YthagibkmfgodgaaGreatDoorProg
import Derived.Below
import Derived.Deep.Draws
import Derived.Deep.AppendLies
import Derived.Maps.AppendAt
import Derived.OwnWalk
import Derived.Laws.BytesArg
import Derived.Laws.MakeOwn
import Derived.Laws.OwnMore
import Derived.Deep.OwnRows
import Derived.Tactics
import Derived.Lib.ConvBytes
import Derived.Laws.Slices
import Derived.WalkKit
import Derived.KernelRfl
import Derived.RowKit3
import Derived.Deep.LoopGhost
import Derived.Deep.QuietTactic
import Derived.WideLaws
import Derived.Deep.DeepCutAuto
import Derived.Deep.CutBlock
import Derived.Deep.RegionHeld3
import Derived.Laws.Rows
import Derived.Lib.AppendStr
import Derived.ArgAppend
import Derived.Laws.IdiomCopy
import Derived.OrdersHeld
import Derived.Laws.BitsLemmas
import Derived.RowKit
import Derived.Test.YthagibkmfgodgaaGreatDoorY5
import Derived.Test.YthagibkmfgodgaaGreatDoorY0
import Derived.Test.YthagibkmfgodgaaGreatDoorY1
import Derived.Test.YthagibkmfgodgaaGreatDoorY3
namespace Go.Proofs.YthagibkmfgodgaaGreatDoor.X
open Go.RowKit Go.Maps Go.Proofs.YthagibkmfgodgaaGreatDoorW.PrintWords Go.Proofs.YthagibkmfgodgaaGreatDoorW.PrintMore Go.Proofs.YthagibkmfgodgaaGreatDoorW.PrintLast
theorem bdq {B : Nat} {w W : World} (h : Below B w W) (n : Nat) : Below B w (W.drewN n) := by
 induction n with
 | zero => exact h
 | succ n ih => exact below_drew ih

structure IsQ (w : World) (g : Nat) (s : PS) (b n c k : Nat) (cur : Array Value) : Prop where
 own : w.heap[g]? = some (.cells #[.slice (some ⟨b, 0, none⟩) n c, .int .i64 (k : Nat), .int .i64 s.2] 94 (0, 0))
 cap : n ≤ c
 at_ : k + s.1.length = n
 big : n ≤ 200000
 row : w.heap[b]? = some (.cells cur 34 (0, 0))
 words : WordsAt cur (3 * k) s.1
def HasQ (w : World) (g : Nat) (s : PS) : Prop := ∃ b n c k cur, IsQ w g s b n c k cur
theorem IsQ.grown {w w1 : World} {g : Nat} {s : PS} {b n c k : Nat} {cur : Array Value} (h : IsQ w g s b n c k cur) {row : Option Nat} (hg : w.grownBy w1 row) (h1 : some g ≠ row) (h2 : some b ≠ row) : IsQ w1 g s b n c k cur :=
 ⟨blk_grown h.own hg h1, h.cap, h.at_, h.big, blk_grown h.row hg h2, h.words⟩
theorem IsQ.below {w w1 : World} {g : Nat} {s : PS} {b n c k : Nat} {cur : Array Value} (h : IsQ w g s b n c k cur) (hb : Below w.heap.size w w1) : IsQ w1 g s b n c k cur :=
 ⟨blk_below h.own hb, h.cap, h.at_, h.big, blk_below h.row hb, h.words⟩
theorem HasQ.below {w w1 : World} {g : Nat} {s : PS} (h : HasQ w g s) (hb : Below w.heap.size w w1) : HasQ w1 g s := by
 obtain ⟨b, n, c, k, cur, h⟩ := h
 exact ⟨b, n, c, k, cur, h.below hb⟩
theorem HasQ.lt {w : World} {g : Nat} {s : PS} (h : HasQ w g s) : g < w.heap.size := by
 obtain ⟨b, n, c, k, cur, h⟩ := h
 exact blk_lt h.own
theorem HasQ.step {w w1 : World} {g : Nat} {s : PS} (h : HasQ w g s) (hs : ∀ (k t : Nat) (cs : Array Value), (t = 94 ∨ t = 34) → w.heap[k]? = some (.cells cs t (0, 0)) → w1.heap[k]? = w.heap[k]?) : HasQ w1 g s := by
 obtain ⟨b, n, c, k, cur, h⟩ := h
 exact ⟨b, n, c, k, cur, (hs _ _ _ (.inl rfl) h.own).trans h.own, h.cap, h.at_, h.big, (hs _ _ _ (.inr rfl) h.row).trans h.row, h.words⟩
theorem HasQ.set {w : World} {g g' : Nat} {s : PS} (h : HasQ w g s) {cs : Array Value} {t : Nat} (hb : w.heap[g']? = some (.cells cs t (0, 0))) (h1 : 94 ≠ t) (h2 : 34 ≠ t) (j : Nat) (u : Value) : HasQ (w.setCell ⟨g', j, none⟩ u) g s :=
 h.step fun k t' cs' ht hk => Below.heap_setCell w ⟨g', j, none⟩ u k (blk_ne hk hb (by rcases ht with rfl | rfl <;> assumption))
theorem IsQ.first {w : World} {g : Nat} {s : PS} {b n c k : Nat} {cur : Array Value} (h : IsQ w g s b n c k cur) (hn : s.1 ≠ []) :
 w.cell? ⟨b, k * 3, none⟩ = some (.int .i64 (headW s.1).f0) ∧ w.cell? ⟨b, k * 3 + 1, none⟩ = some (.int .i64 (headW s.1).f1) ∧ w.cell? ⟨b, k * 3 + 2, none⟩ = some (.string (headW s.1).f2) := by
 obtain ⟨l, d⟩ := s
 match l, hn with
 | x :: r, _ =>
  have := h.words 0 x rfl
  rw [Nat.mul_zero, Nat.add_zero, Nat.mul_comm] at this
  exact ⟨(blk_cell h.row _).trans this.1, (blk_cell h.row _).trans this.2.1, (blk_cell h.row _).trans this.2.2⟩
theorem IsQ.taken {w : World} {g : Nat} {s : PS} {b n c k : Nat} {cur : Array Value} (h : IsQ w g s b n c k cur) {x : SWord} {r : List SWord} (hs : s.1 = x :: r) :
 IsQ (w.setCell ⟨g, 1, none⟩ (.int .i64 ((k : Int) + 1))) g (r, s.2) b n c (k + 1) cur := by
 have hw := h.words
 have ha := h.at_
 rw [hs] at hw ha
 exact ⟨blk_put h.own 1 _ rfl, h.cap, by simp only [List.length_cons] at ha; show k + 1 + r.length = n; omega, h.big, blk_far h.row (blk_ne h.row h.own (by decide)) _, hw.tail⟩
theorem IsQ.marked {w : World} {g : Nat} {s : PS} {b n c k : Nat} {cur : Array Value} (h : IsQ w g s b n c k cur) (u : Int) : IsQ (w.setCell ⟨g, 2, none⟩ (.int .i64 u)) g (s.1, u) b n c k cur :=
 ⟨blk_put h.own 2 _ rfl, h.cap, h.at_, h.big, blk_far h.row (blk_ne h.row h.own (by decide)) _, h.words⟩

set_option maxHeartbeats 1000000 in
theorem qok_calls (g : Nat) (s : PS) (w : World) (h : HasQ w g s) :
 Calls Tryz.prog 73 #[.pointer (some ⟨g, 0, none⟩)] w fun e w' => e = .returned (.bool (decide (s.2 < 0))) ∧ w = w' := by
 obtain ⟨b, n, c, k, cur, hp⟩ := h
 have h1 : w.cell? ⟨g, 2, none⟩ = some (.int .i64 s.2) := (blk_cell hp.own 2).trans rfl
 clear hp
 go_enter Tryz.func73, Tryz.ntmps73
 go_wp2
 go_ret
 exact ⟨rfl, rfl⟩

set_option maxHeartbeats 4000000 in
theorem qfail_calls (g : Nat) (s : PS) (w : World) (h : HasQ w g s) (hg : GoodW s.1) :
 Calls Tryz.prog 147 #[.pointer (some ⟨g, 0, none⟩)] w fun e w' => e = .returned (.tuple #[]) ∧ HasQ w' g (failsP s) ∧ w.grownBy w' (some g) := by
 obtain ⟨b, n, c, k, cur, hp⟩ := h
 have h0 : w.cell? ⟨g, 0, none⟩ = some (.slice (some ⟨b, 0, none⟩) n c) := (blk_cell hp.own 0).trans rfl
 have h1 : w.cell? ⟨g, 1, none⟩ = some (.int .i64 (k : Nat)) := (blk_cell hp.own 1).trans rfl
 have h2 : w.cell? ⟨g, 2, none⟩ = some (.int .i64 s.2) := (blk_cell hp.own 2).trans rfl
 have hf2 := blk_frozen hp.own 2
 obtain ⟨k0, k1, k2⟩ := hp.first hg.ne
 have hpos : 0 < s.1.length := List.length_pos_iff.2 hg.ne
 have hkn : k < n := by have := hp.at_; omega
 have hkz : (k : Int) < (n : Int) := by omega
 have HP := Lib.hid hp
 by_cases hb : s.2 < 0
 · have hd : decide (s.2 < 0) = true := by simpa using hb
   have HF : Hid (failsP s = (s.1, (headW s.1).f1)) := by show _ = _; unfold failsP; rw [if_pos hb]
   clear hp k0 k2 hb hpos
   go_enter Tryz.func147, Tryz.ntmps147
   go_wp2_with fail
   go_region
   all_goals
    go_wp2
    go_end0
    rw [HF.out]
    refine ⟨rfl, ⟨b, n, c, k, cur, ?_⟩, ?_⟩
    · exact (HP.out.marked _).below (by first | exact bdq (Below.refl _ _) _ | exact below_drew (Below.refl _ _))
    · exact grown_below (grown_set _ _ _ _) (by first | exact bdq (Below.refl _ _) _ | exact below_drew (Below.refl _ _))
 · have hd : decide (s.2 < 0) = false := by simpa using hb
   have HF : Hid (failsP s = s) := by show _ = _; unfold failsP; rw [if_neg hb]
   clear hp k0 k1 k2 hb hpos
   go_enter Tryz.func147, Tryz.ntmps147
   go_wp2
   go_end0
   rw [HF.out]
   exact ⟨rfl, ⟨b, n, c, k, cur, HP.out⟩, World.grownBy.refl _ _⟩

set_option maxHeartbeats 4000000 in
theorem qis_calls (g : Nat) (kd : Int) (t : ByteArray) (s : PS) (w : World) (h : HasQ w g s) (hn : s.1 ≠ []) :
 Calls Tryz.prog 119 #[.pointer (some ⟨g, 0, none⟩), .int .i64 kd, .string t] w fun e w' => e = .returned (.bool (atP kd t s)) ∧ Below w.heap.size w w' := by
 obtain ⟨b, n, c, k, cur, hp⟩ := h
 have h0 : w.cell? ⟨g, 0, none⟩ = some (.slice (some ⟨b, 0, none⟩) n c) := (blk_cell hp.own 0).trans rfl
 have h1 : w.cell? ⟨g, 1, none⟩ = some (.int .i64 (k : Nat)) := (blk_cell hp.own 1).trans rfl
 obtain ⟨k0, k1, k2⟩ := hp.first hn
 have hkn : k < n := by have := hp.at_; have := List.length_pos_iff.2 hn; omega
 have hkz : (k : Int) < (n : Int) := by omega
 by_cases hk : (headW s.1).f0 = kd
 · have hkd : ((headW s.1).f0 == kd) = true := by simpa using hk
   have HE : Hid (atP kd t s = ((headW s.1).f2.toList == t.toList)) := by show _ = _; rw [str_eq]; unfold atP; rw [decide_eq_true hk]; rfl
   clear hp hk k1
   go_enter Tryz.func119, Tryz.ntmps119
   go_wp2_with fail
   go_quiet (fail)
   go_wp2
   go_ret
   rw [HE.out]
   exact ⟨rfl, bdq (Below.refl _ _) _⟩
 · have hkd : ((headW s.1).f0 == kd) = false := by simpa using hk
   have HE : Hid (atP kd t s = false) := by show _ = _; unfold atP; rw [decide_eq_false hk]; rfl
   clear hp hk k1 k2
   go_enter Tryz.func119, Tryz.ntmps119
   go_wp2_with fail
   go_quiet (fail)
   go_wp2
   go_ret
   rw [HE.out]
   exact ⟨rfl, bdq (Below.refl _ _) _⟩

set_option maxHeartbeats 4000000 in
theorem qwant_calls (g : Nat) (kd : Int) (hk4 : kd ≠ 4) (t : ByteArray) (s : PS) (w : World) (h : HasQ w g s) (hg : GoodW s.1) :
 Calls Tryz.prog 117 #[.pointer (some ⟨g, 0, none⟩), .int .i64 kd, .string t] w fun e w' => e = .returned (.tuple #[]) ∧ HasQ w' g (mustP kd t s) ∧ w.grownBy w' (some g) := by
 have hO := qok_calls g s w h
 have hI := qis_calls g kd t s w h hg.ne
 have HH := Lib.hid h
 by_cases hb : s.2 < 0
 · have hd : decide (s.2 < 0) = true := by simpa using hb
   rw [hd] at hO
   cases hi : atP kd t s with
   | true =>
    have hip : isP kd t s = true := by unfold isP; rw [hd, hi]; rfl
    have HE : Hid (mustP kd t s = (s.1.tail, s.2)) := by show _ = _; unfold mustP; rw [if_pos hip]
    rw [hi] at hI
    obtain ⟨x, y, r, hs⟩ := two_words hg (by rw [(isP_at hip).2.1]; exact hk4)
    have HS := Lib.hid hs
    clear h hb hd hi hip hs
    go_enter Tryz.func117, Tryz.ntmps117
    go_wp2_with fail
    refine hO.mono ?_
    rintro e w' ⟨rfl, rfl⟩
    clear hO
    go_wp2_with fail
    refine hI.mono ?_
    rintro e w2 ⟨rfl, hb2⟩
    obtain ⟨b, n, c, k, cur, hp⟩ := HH.out.below hb2
    have h1 : w2.cell? ⟨g, 1, none⟩ = some (.int .i64 (k : Nat)) := (blk_cell hp.own 1).trans rfl
    have hf1 := blk_frozen hp.own 1
    have hkb : (k : Int) ≤ 200000 := by have := hp.at_; have := hp.big; omega
    have hT := hp.taken HS.out
    have HT := Lib.hid hT
    have HB2 := Lib.hid hb2
    clear hI hp hb2 hT
    go_wp2_with fail
    refine bodyPost_ret (results_none rfl _ _ _) rfl ?_
    rw [HE.out, HS.out]
    exact ⟨rfl, ⟨b, n, c, k + 1, cur, HT.out⟩, grown_trans (grown_of_below HB2.out _) (grown_set _ _ _ _)⟩
   | false =>
    have hip : ¬ isP kd t s = true := by unfold isP; rw [hi]; simp
    have HE : Hid (mustP kd t s = failsP s) := by show _ = _; unfold mustP; rw [if_neg hip]
    rw [hi] at hI
    have hF := fun W hW => qfail_calls g s W hW hg
    clear h hb hd hi hip
    go_enter Tryz.func117, Tryz.ntmps117
    go_wp2_with fail
    refine hO.mono ?_
    rintro e w' ⟨rfl, rfl⟩
    clear hO
    go_wp2_with fail
    refine hI.mono ?_
    rintro e w2 ⟨rfl, hb2⟩
    have HB2 := Lib.hid hb2
    clear hI hb2
    go_wp2_with fail
    refine (hF _ (HH.out.below HB2.out)).mono ?_
    rintro e w3 ⟨rfl, h3, hg3⟩
    have HG3 := Lib.hid hg3
    clear hF hg3
    go_wp2
    go_end0
    rw [HE.out]
    exact ⟨rfl, h3, grown_trans (grown_of_below HB2.out _) HG3.out⟩
 · have hd : decide (s.2 < 0) = false := by simpa using hb
   rw [hd] at hO
   have hip : ¬ isP kd t s = true := by unfold isP; rw [hd]; simp
   have HE : Hid (mustP kd t s = failsP s) := by show _ = _; unfold mustP; rw [if_neg hip]
   have hF := fun W hW => qfail_calls g s W hW hg
   clear h hb hd hip hI
   go_enter Tryz.func117, Tryz.ntmps117
   go_wp2_with fail
   refine hO.mono ?_
   rintro e w' ⟨rfl, rfl⟩
   clear hO
   go_wp2_with fail
   refine (hF _ HH.out).mono ?_
   rintro e w3 ⟨rfl, h3, hg3⟩
   have HG3 := Lib.hid hg3
   clear hF hg3
   go_wp2
   go_end0
   rw [HE.out]
   exact ⟨rfl, h3, HG3.out⟩

end Go.Proofs.YthagibkmfgodgaaGreatDoor.X

namespace Go.Proofs.YthagibkmfgodgaaGreatDoor.X
open Go.RowKit Go.Maps Go.Proofs.YthagibkmfgodgaaGreatDoorW.PrintWords Go.Proofs.YthagibkmfgodgaaGreatDoorW.PrintMore Go.Proofs.YthagibkmfgodgaaGreatDoorW.PrintLast

def sigB (c : Int) : Bool := (97 ≤ c && c ≤ 122) || (65 ≤ c && c ≤ 90) || (48 ≤ c && c ≤ 57) || c == 46 || c == 95 || c == 45
set_option maxHeartbeats 1000000 in
theorem sign_calls (c : Int) (w : World) :
 Calls Tryz.prog 42 #[.int .u8 c] w fun e w' => e = .returned (.bool (sigB c)) ∧ w = w' := by
 go_enter Tryz.func42, Tryz.ntmps42
 go_wp2
 all_goals
  go_ret
  exact ⟨ret_bool (by unfold sigB; rw [Bool.eq_iff_iff]; simp <;> omega), rfl⟩
theorem hexV_tells : ∀ c : Nat, c < 256 → hexV (UInt8.ofNat c) = if 48 ≤ c ∧ c ≤ 57 then (c : Int) - 48 else if 97 ≤ c ∧ c ≤ 102 then (c : Int) - 87 else -1 := by decide +kernel
set_option maxHeartbeats 1000000 in
theorem hex_calls (c : UInt8) (w : World) :
 Calls Tryz.prog 72 #[.int .u8 c.toNat] w fun e w' => e = .returned (.int .i64 (hexV c)) ∧ w = w' := by
 have hT := hexV_tells c.toNat (UInt8.toNat_lt _)
 rw [show UInt8.ofNat c.toNat = c by simp] at hT
 have HT := Lib.hid hT
 have hlt := UInt8.toNat_lt c
 clear hT
 go_enter Tryz.func72, Tryz.ntmps72
 go_wp2
 all_goals
  go_ret
  refine ⟨ret_int ?_, rfl⟩
  rw [HT.out]
  first | (rw [if_pos (by omega)]; done) | (rw [if_pos (by omega)]; omega) | (rw [if_neg (by omega), if_pos (by omega)]; omega) | (rw [if_neg (by omega), if_neg (by omega)]; done) | (rw [if_neg (by omega), if_neg (by omega)]; omega)

end Go.Proofs.YthagibkmfgodgaaGreatDoor.X

namespace Go.Proofs.YthagibkmfgodgaaGreatDoor.X
open Go.RowKit Go.Maps Go.Proofs.YthagibkmfgodgaaGreatDoorW.PrintWords Go.Proofs.YthagibkmfgodgaaGreatDoorW.PrintMore Go.Proofs.YthagibkmfgodgaaGreatDoorW.PrintLast

def strR (o : Option (Bytes × Nat)) : Value := match o with
 | some p => .tuple #[.string (mk p.1), .int .i64 (p.2 : Nat), .bool true]
 | none => .tuple #[.string ⟨#[]⟩, .int .i64 0, .bool false]
theorem drop_at (s : ByteArray) (k : Nat) (h : k < s.size) : s.data.toList.drop k = s[k] :: s.data.toList.drop (k + 1) := by
 rw [List.drop_eq_getElem_cons (by rw [← Lib.size_eq]; exact h)]
 rfl
theorem byte_iff (c : UInt8) (m : Nat) (k : UInt8) (hk : k.toNat = m) : c = k ↔ c.toNat = m := by rw [← UInt8.toNat_inj, hk]
theorem one_byte (W : World) (v : Int) : (convert 38 9 (.slice (some ⟨W.heap.size, 0, none⟩) 1 1)).run Tryz.prog ((W.alloc (.cells #[.int .u8 v] 5)).drew) = .ok (.string (mk [UInt8.ofNat v.toNat])) ((W.alloc (.cells #[.int .u8 v] 5)).drew) := by
 have h : ReadsInt ((W.alloc (.cells #[.int .u8 v] 5)).drew) .u8 (some ⟨W.heap.size, 0, none⟩) 1 [v] := by
  refine ⟨rfl, by decide, fun _ => ⟨_, rfl, fun j hj => ?_⟩⟩
  obtain rfl : j = 0 := by omega
  rw [add_plain]
  show (W.alloc (.cells #[.int .u8 v] 5)).cell? ⟨W.heap.size, 0, none⟩ = some (.int .u8 v)
  exact (blk_cell (heap_alloc_new W (.cells #[.int .u8 v] 5)) 0).trans rfl
 exact string_of_reads Tryz.underlying38 Tryz.underlying5 Tryz.underlying9 h

set_option maxHeartbeats 4000000 in
set_option maxRecDepth 100000 in
theorem str_calls (s : ByteArray) (a : Nat) (ha : a ≤ s.size) (hs : s.size ≤ 100000) (w : World) :
 Calls Tryz.prog 43 #[.string s, .int .i64 a] w fun e w' => e = .returned (strR ((textF (s.size - a + 1) (s.data.toList.drop a)).map fun p => (p.1, a + p.2))) ∧ Below w.heap.size w w' := by
 generalize hT : ((textF (s.size - a + 1) (s.data.toList.drop a)).map fun p => (p.1, a + p.2)) = T
 have HT := Lib.hid hT
 clear hT
 go_enter Tryz.func43, Tryz.ntmps43
 go_wp2_with fail
 go_loopg [7, 8, 9] s.size (fun gg s7 s8 _ wr => ∃ (kk : Nat) (acc : Bytes), kk ≤ s.size ∧ s.size - kk ≤ gg ∧ s7 = .string (mk acc) ∧ s8 = .int .i64 kk ∧ acc.length ≤ kk ∧ Aside0 ((textF (s.size - kk + 1) (s.data.toList.drop kk)).map (fun p => (acc ++ p.1, kk + p.2)) = T) ∧ Aside0 (Below w.heap.size w wr))
 case atStart => exact ⟨a, [], ha, by omega, rfl, rfl, by simp, ⟨by simpa using HT.out⟩, ⟨Below.refl _ _⟩⟩
 case round =>
  obtain ⟨kk, acc, hkk, hgk, rfl, rfl, hacc, HK, HB⟩ := hrel
  by_cases hlt : kk < s.size
  · have hltz : (kk : Int) < (s.size : Int) := by omega
    have hK := HK.out
    rw [drop_at s kk hlt, textF] at hK
    have HK2 := Lib.hid hK
    have H34 := Lib.hid (byte_iff s[kk] 34 34 rfl)
    have H92 := Lib.hid (byte_iff s[kk] 92 92 rfl)
    have hms : (mk acc).size = acc.length := mk_size acc
    have HMS := Lib.hid hms
    clear hK hms
    by_cases c1 : s[kk].toNat = 34
    · have e1 : ((s[kk].toNat : Int) == 34) = true := by simp; omega
      have HV : Hid (T = some (acc, kk + 1)) := by
       show T = _
       rw [← HK2.out, if_pos (H34.out.2 c1)]
       simp
      clear c1
      go_wp2
      go_ret3
      exact ⟨by rw [HV.out]; rfl, HB.out⟩
    have e1 : ((s[kk].toNat : Int) == 34) = false := by simp; omega
    have HN34 : Hid (s[kk] ≠ 34) := fun h => c1 (H34.out.1 h)
    clear c1
    by_cases c3 : s[kk].toNat < 32 ∨ 126 < s[kk].toNat
    · have c2 : s[kk].toNat ≠ 92 := by omega
      have HV : Hid (T = none) := by
       show T = none
       rw [← HK2.out, if_neg HN34.out, if_neg (fun h => c2 (H92.out.1 h)), if_pos c3]
       rfl
      by_cases c4 : s[kk].toNat < 32
      · have e4 : decide ((s[kk].toNat : Int) < 32) = true := by simp; omega
        clear c3 c4 c2
        go_wp2
        go_ret3
        exact ⟨by rw [HV.out]; rfl, HB.out⟩
      · have e4 : decide ((s[kk].toNat : Int) < 32) = false := by simp; omega
        have e5 : decide (126 < (s[kk].toNat : Int)) = true := by simp; omega
        clear c3 c4 c2
        go_wp2
        go_ret3
        exact ⟨by rw [HV.out]; rfl, HB.out⟩
    have e4 : decide ((s[kk].toNat : Int) < 32) = false := by simp; omega
    have e5 : decide (126 < (s[kk].toNat : Int)) = false := by simp; omega
    by_cases c2 : s[kk].toNat ≠ 92
    · have e2 : ((s[kk].toNat : Int) != 92) = true := by simp; omega
      have HV2 : Hid (Option.map (fun p => (acc ++ [s[kk]] ++ p.1, (kk + 1) + p.2)) (textF (s.size - (kk + 1) + 1) (s.data.toList.drop (kk + 1))) = T) := by
       show _ = T
       rw [← HK2.out, if_neg HN34.out, if_neg (fun h => c2 (H92.out.1 h)), if_neg c3, show s.size - (kk + 1) + 1 = s.size - kk by omega, Option.map_map]
       congr 1
       funext p
       simp only [Function.comp, List.append_assoc, List.cons_append, List.nil_append, Prod.mk.injEq, true_and]
       omega
      have hx : s.extract kk (kk + 1) = mk [s[kk]] := by rw [extract_mk, show kk + 1 - kk = 1 by omega, drop_at s kk hlt]; rfl
      have HX := Lib.hid hx
      have hov : ¬ 9223372036854775807 < (mk acc).size + (min (kk + 1) s.size - kk) := by rw [HMS.out]; omega
      clear c3 c2 hx
      go_wp2
      go_roundg (s.size - (kk + 1))
      case measure => omega
      case rel => exact ⟨kk + 1, acc ++ [s[kk]], by omega, by omega, by rw [HX.out, mk_append], by go_num, by simp; omega, ⟨HV2.out⟩, ⟨HB.out⟩⟩
    · have c2' : s[kk].toNat = 92 := by omega
      have e2 : ((s[kk].toNat : Int) != 92) = false := by simp; omega
      have HV : Hid (T = Option.map (fun p => (acc ++ p.1, kk + p.2)) (if (escF (s.data.toList.drop (kk + 1))).2 = 0 then none else (textF (s.size - kk) ((s.data.toList.drop (kk + 1)).drop (escF (s.data.toList.drop (kk + 1))).2)).map fun p => (UInt8.ofNat (escF (s.data.toList.drop (kk + 1))).1 :: p.1, p.2 + (escF (s.data.toList.drop (kk + 1))).2 + 1))) := by
       show T = _
       rw [← HK2.out, if_neg HN34.out, if_pos (H92.out.2 c2')]
      clear c2 c2' c3 HK2
      by_cases hl1 : kk + 1 < s.size
      · have hl1z : (kk : Int) + 1 < (s.size : Int) := by omega
        have d1 : decide ((s.size : Int) ≤ (kk : Int) + 1) = false := by simp; omega
        have HD := Lib.hid (drop_at s (kk + 1) hl1)
        -- one more of textF behind what stands for x in n bytes
        have next : ∀ (x : Nat) (n : Nat), escF (s.data.toList.drop (kk + 1)) = (x, n) → 0 < n → kk + 1 + n ≤ s.size → Option.map (fun p => (acc ++ [UInt8.ofNat x] ++ p.1, (kk + n + 1) + p.2)) (textF (s.size - (kk + n + 1) + 1) (s.data.toList.drop (kk + n + 1))) = T := by
         intro x n he hn hle
         rw [HV.out, he]
         simp only
         rw [if_neg (by omega), List.drop_drop, textF_fuel (s.size - kk) (s.size - (kk + n + 1) + 1) _ (by rw [List.length_drop, ← Lib.size_eq]; omega) (by rw [List.length_drop, ← Lib.size_eq]; omega), show kk + 1 + n = kk + n + 1 by omega, Option.map_map]
         congr 1
         funext p
         simp only [Function.comp, List.append_assoc, List.cons_append, List.nil_append, Prod.mk.injEq, true_and]
         omega
        have NX := Lib.hid next
        have hov1 : ¬ 9223372036854775807 < (mk acc).size + 1 := by rw [HMS.out]; omega
        have hov2 : ¬ 9223372036854775807 < (mk acc).size + (min (kk + 1 + 1) s.size - (kk + 1)) := by rw [HMS.out]; omega
        have J110 := Lib.hid (byte_iff s[kk + 1] 110 110 rfl)
        have J116 := Lib.hid (byte_iff s[kk + 1] 116 116 rfl)
        have J92 := Lib.hid (byte_iff s[kk + 1] 92 92 rfl)
        have J34 := Lib.hid (byte_iff s[kk + 1] 34 34 rfl)
        have J120 := Lib.hid (byte_iff s[kk + 1] 120 120 rfl)
        clear next
        by_cases f1 : s[kk + 1].toNat = 110
        · have g1 : ((s[kk + 1].toNat : Int) == 110) = true := by simp; omega
          have HE : Hid (escF (s.data.toList.drop (kk + 1)) = (10, 1)) := by show _ = _; rw [HD.out, escF, if_pos (J110.out.2 f1)]
          clear f1
          go_wp2
          go_roundg (s.size - (kk + 2))
          case measure => omega
          case rel => exact ⟨kk + 2, acc ++ [10], by omega, by omega, by rw [← mk_append]; rfl, by go_num, by simp; omega, ⟨NX.out 10 1 HE.out (by omega) (by omega)⟩, ⟨HB.out⟩⟩
        have g1 : ((s[kk + 1].toNat : Int) == 110) = false := by simp; omega
        by_cases f2 : s[kk + 1].toNat = 116
        · have g2 : ((s[kk + 1].toNat : Int) == 116) = true := by simp; omega
          have HE : Hid (escF (s.data.toList.drop (kk + 1)) = (9, 1)) := by show _ = _; rw [HD.out, escF, if_neg (fun h => f1 (J110.out.1 h)), if_pos (J116.out.2 f2)]
          clear f1 f2
          go_wp2
          go_roundg (s.size - (kk + 2))
          case measure => omega
          case rel => exact ⟨kk + 2, acc ++ [9], by omega, by omega, by rw [← mk_append]; rfl, by go_num, by simp; omega, ⟨NX.out 9 1 HE.out (by omega) (by omega)⟩, ⟨HB.out⟩⟩
        have g2 : ((s[kk + 1].toNat : Int) == 116) = false := by simp; omega
        have hx1 : s.extract (kk + 1) (kk + 1 + 1) = mk [s[kk + 1]] := by rw [extract_mk, show kk + 1 + 1 - (kk + 1) = 1 by omega, HD.out]; rfl
        have HX1 := Lib.hid hx1
        clear hx1
        by_cases f3 : s[kk + 1].toNat = 92 ∨ s[kk + 1].toNat = 34
        · have HE : Hid (escF (s.data.toList.drop (kk + 1)) = (s[kk + 1].toNat, 1)) := by show _ = _; rw [HD.out, escF, if_neg (fun h => f1 (J110.out.1 h)), if_neg (fun h => f2 (J116.out.1 h)), if_pos (f3.imp J92.out.2 J34.out.2)]
          have HN : Hid (Option.map (fun p => (acc ++ [s[kk + 1]] ++ p.1, (kk + 1 + 1) + p.2)) (textF (s.size - (kk + 1 + 1) + 1) (s.data.toList.drop (kk + 1 + 1))) = T) := by
           have h := NX.out _ 1 HE.out (by omega) (by omega)
           rw [show UInt8.ofNat s[kk + 1].toNat = s[kk + 1] by simp] at h
           exact h
          by_cases f4 : s[kk + 1].toNat = 92
          · have g4 : ((s[kk + 1].toNat : Int) == 92) = true := by simp; omega
            clear f1 f2 f3 f4
            go_wp2
            go_roundg (s.size - (kk + 2))
            case measure => omega
            case rel => exact ⟨kk + 2, acc ++ [s[kk + 1]], by omega, by omega, by rw [← mk_append, ← HX1.out], by go_num, by simp; omega, ⟨HN.out⟩, ⟨HB.out⟩⟩
          · have g4 : ((s[kk + 1].toNat : Int) == 92) = false := by simp; omega
            have g5 : ((s[kk + 1].toNat : Int) == 34) = true := by simp; omega
            clear f1 f2 f3 f4
            go_wp2
            go_roundg (s.size - (kk + 2))
            case measure => omega
            case rel => exact ⟨kk + 2, acc ++ [s[kk + 1]], by omega, by omega, by rw [← mk_append, ← HX1.out], by go_num, by simp; omega, ⟨HN.out⟩, ⟨HB.out⟩⟩
        have g4 : ((s[kk + 1].toNat : Int) == 92) = false := by simp; omega
        have g5 : ((s[kk + 1].toNat : Int) == 34) = false := by simp; omega
        have HR : Hid (escF (s.data.toList.drop (kk + 1)) = if s[kk + 1] = 120 then hexF (s.data.toList.drop (kk + 1 + 1)) else (0, 0)) := by
         show _ = _
         rw [HD.out, escF, if_neg (fun h => f1 (J110.out.1 h)), if_neg (fun h => f2 (J116.out.1 h)), if_neg (fun h => f3 (h.imp J92.out.1 J34.out.1))]
        clear f1 f2 f3
        by_cases f6 : s[kk + 1].toNat = 120
        · have g6 : ((s[kk + 1].toNat : Int) == 120) = true := by simp; omega
          have H6 : Hid (s[kk + 1] = 120) := J120.out.2 f6
          clear f6
          by_cases h3 : kk + 3 < s.size
          · have d3 : decide ((s.size : Int) ≤ (kk : Int) + 1 + 2) = false := by simp; omega
            have d3b : decide ((s.size : Int) ≤ (kk : Int) + 3) = false := by simp; omega
            have h2 : kk + 2 < s.size := by omega
            have HE : Hid (escF (s.data.toList.drop (kk + 1)) = if 0 ≤ hexV s[kk + 2] ∧ 0 ≤ hexV s[kk + 3] then ((16 * hexV s[kk + 2] + hexV s[kk + 3]).toNat, 3) else (0, 0)) := by
             show _ = _
             rw [HR.out, if_pos H6.out, drop_at s (kk + 2) h2, drop_at s (kk + 3) h3]
             rfl
            have r1 := hexV_range s[kk + 2].toNat (UInt8.toNat_lt _)
            have r2 := hexV_range s[kk + 3].toNat (UInt8.toNat_lt _)
            rw [show UInt8.ofNat s[kk + 2].toNat = s[kk + 2] by simp] at r1
            rw [show UInt8.ofNat s[kk + 3].toNat = s[kk + 3] by simp] at r2
            have hi1 := fun W => hex_calls s[kk + 2] W
            have hi2 := fun W => hex_calls s[kk + 3] W
            obtain ⟨x1, hx1⟩ : ∃ x, x = hexV s[kk + 2] := ⟨_, rfl⟩
            obtain ⟨x2, hx2⟩ : ∃ x, x = hexV s[kk + 3] := ⟨_, rfl⟩
            rw [← hx1] at HE r1 hi1
            rw [← hx2] at HE r2 hi2
            clear hx1 hx2
            by_cases b1 : 0 ≤ x1
            · by_cases b2 : 0 ≤ x2
              · have q1 : decide (x1 < 0) = false := by simp; omega
                have q2 : decide (x2 < 0) = false := by simp; omega
                go_wp2_with (first | (go_at_call 72; (with_reducible refine (hi1 _).mono ?_); rintro e w' ⟨rfl, rfl⟩) | (go_at_call 72; (with_reducible refine (hi2 _).mono ?_); rintro e w' ⟨rfl, rfl⟩))
                have w1 : IntKind.i64.wrap ((kk : Int) + 1 + 1) = (kk : Int) + 1 + 1 := IntWalk.i64_in _ (by omega)
                have w2 : IntKind.i64.wrap ((kk : Int) + 1 + 2) = (kk : Int) + 1 + 2 := IntWalk.i64_in _ (by omega)
                have w3 : IntKind.i64.wrap (x1 * 16) = x1 * 16 := IntWalk.i64_in _ (by omega)
                have w4 : IntKind.i64.wrap (x1 * 16 + x2) = x1 * 16 + x2 := IntWalk.i64_in _ (by omega)
                have t1 : ((kk : Int) + 1 + 1).toNat = kk + 2 := by omega
                have t2 : ((kk : Int) + 1 + 2).toNat = kk + 3 := by omega
                have wu : IntKind.u8.wrap (x1 * 16 + x2) = x1 * 16 + x2 := by rw [show x1 * 16 + x2 = (((x1 * 16 + x2).toNat : Nat) : Int) by omega]; simp [IntKind.wrap, IntKind.bits, IntKind.signed]; omega
                have hcv := one_byte wr (x1 * 16 + x2)
                have htt : (mk [UInt8.ofNat (x1 * 16 + x2).toNat]).size = 1 := mk_size _
                have HTT : Hid (mk [UInt8.ofNat (x1 * 16 + x2).toNat] = mk [UInt8.ofNat (x1 * 16 + x2).toNat]) := rfl
                obtain ⟨tt, htt2⟩ : ∃ tt, tt = mk [UInt8.ofNat (x1 * 16 + x2).toNat] := ⟨_, rfl⟩
                rw [← htt2] at hcv htt
                have hov3 : ¬ 9223372036854775807 < (mk acc).size + tt.size := by rw [HMS.out, htt]; omega
                have HT2 := Lib.hid htt2
                clear htt2 htt HTT
                go_region_with ((go_at_call 72; first | ((with_reducible refine (hi1 _).mono ?_); rintro e w' ⟨rfl, rfl⟩) | ((with_reducible refine (hi2 _).mono ?_); rintro e w' ⟨rfl, rfl⟩)))
                all_goals
                 clear w1 w2 w3 w4 wu hcv
                 have HN : Hid (Option.map (fun p => (acc ++ [UInt8.ofNat (x1 * 16 + x2).toNat] ++ p.1, (kk + 4) + p.2)) (textF (s.size - (kk + 4) + 1) (s.data.toList.drop (kk + 4))) = T) := by
                  have h := NX.out _ 3 (HE.out.trans (if_pos ⟨b1, b2⟩)) (by omega) (by omega)
                  rw [show 16 * x1 + x2 = x1 * 16 + x2 by omega] at h
                  exact h
                 have HB9 : Hid (Below w.heap.size w (wr.alloc (.cells #[.int .u8 (x1 * 16 + x2)] 5)).drew) := (HB.out.alloc HB.out.size _).drew
                 go_wp2
                 go_roundg (s.size - (kk + 4))
                 case measure => omega
                 case rel => exact ⟨kk + 4, acc ++ [UInt8.ofNat (x1 * 16 + x2).toNat], by omega, by omega, by rw [HT2.out, mk_append], by go_num, by simp; omega, ⟨HN.out⟩, ⟨HB9.out⟩⟩
              · have q1 : decide (x1 < 0) = false := by simp; omega
                have q2 : decide (x2 < 0) = true := by simp; omega
                have HV2 : Hid (T = none) := by
                 show T = none
                 rw [HV.out, HE.out.trans (if_neg (fun h => b2 h.2))]
                 rfl
                go_wp2_with (first | (go_at_call 72; (with_reducible refine (hi1 _).mono ?_); rintro e w' ⟨rfl, rfl⟩) | (go_at_call 72; (with_reducible refine (hi2 _).mono ?_); rintro e w' ⟨rfl, rfl⟩))
                go_ret3
                exact ⟨by rw [HV2.out]; rfl, HB.out⟩
            · have q1 : decide (x1 < 0) = true := by simp; omega
              have HV2 : Hid (T = none) := by
               show T = none
               rw [HV.out, HE.out.trans (if_neg (fun h => b1 h.1))]
               rfl
              go_wp2_with (go_at_call 72; (with_reducible refine (hi1 _).mono ?_); rintro e w' ⟨rfl, rfl⟩)
              go_ret3
              exact ⟨by rw [HV2.out]; rfl, HB.out⟩
          · have d3 : decide ((s.size : Int) ≤ (kk : Int) + 1 + 2) = true := by simp; omega
            have d3b : decide ((s.size : Int) ≤ (kk : Int) + 3) = true := by simp; omega
            have HV2 : Hid (T = none) := by
             show T = none
             have hlen : (s.data.toList.drop (kk + 1 + 1)).length < 2 := by rw [List.length_drop, ← Lib.size_eq]; omega
             rw [HV.out, HR.out, if_pos H6.out]
             have hh : hexF (s.data.toList.drop (kk + 1 + 1)) = (0, 0) := by
              match hm : s.data.toList.drop (kk + 1 + 1) with
              | [] => rfl
              | [_] => rfl
              | _ :: _ :: _ => rw [hm] at hlen; simp at hlen; omega
             rw [hh]
             rfl
            go_wp2
            go_ret3
            exact ⟨by rw [HV2.out]; rfl, HB.out⟩
        · have g6 : ((s[kk + 1].toNat : Int) == 120) = false := by simp; omega
          have HV2 : Hid (T = none) := by
           show T = none
           rw [HV.out, HR.out, if_neg (fun h => f6 (J120.out.1 h))]
           rfl
          clear f6
          go_wp2
          go_ret3
          exact ⟨by rw [HV2.out]; rfl, HB.out⟩
      · have d1 : decide ((s.size : Int) ≤ (kk : Int) + 1) = true := by simp; omega
        have HV2 : Hid (T = none) := by
         show T = none
         rw [HV.out, List.drop_of_length_le (i := kk + 1) (by rw [← Lib.size_eq]; omega)]
         rfl
        go_wp2
        go_ret3
        exact ⟨by rw [HV2.out]; rfl, HB.out⟩
  · have hltz : ¬ (kk : Int) < (s.size : Int) := by omega
    have HN : Hid (T = none) := by
     show T = none
     rw [← HK.out, List.drop_of_length_le (by rw [← Lib.size_eq]; omega)]
     rfl
    go_wp2
    go_ret3
    exact ⟨by rw [HN.out]; rfl, HB.out⟩

end Go.Proofs.YthagibkmfgodgaaGreatDoor.X

namespace Go.Proofs.YthagibkmfgodgaaGreatDoor.X
open Go.RowKit Go.Maps Go.Shelf Go.Proofs.YthagibkmfgodgaaGreatDoorW.PrintWords Go.Proofs.YthagibkmfgodgaaGreatDoorW.PrintMore Go.Proofs.YthagibkmfgodgaaGreatDoorW.PrintLast

def gluH (cur : Bytes) : List Bytes → List Bytes
 | [] => [cur]
 | p :: q => (cur ++ p) :: q
theorem gluH_nil (l : List Bytes) (h : l ≠ []) : gluH [] l = l := by
 cases l with
 | nil => exact absurd rfl h
 | cons p q => rfl
theorem cut_eq (r : Bytes) : cutAt 47 (47 :: r) = [] :: cutAt 47 r := by simp [cutAt]
theorem cut_ne {c : UInt8} (h : c ≠ 47) (r : Bytes) : cutAt 47 (c :: r) = gluH [c] (cutAt 47 r) := by
 conv => lhs; rw [cutAt, if_neg h]
 cases hc : cutAt 47 r with
 | nil => rfl
 | cons p q => rfl
theorem gluH_gluH (a b : Bytes) (l : List Bytes) : gluH a (gluH b l) = gluH (a ++ b) l := by
 cases l with
 | nil => rfl
 | cons p q => simp [gluH]
theorem cut_size (s : Bytes) : (cutAt 47 s).length ≤ s.length + 1 ∧ ∀ p ∈ cutAt 47 s, p.length ≤ s.length := by
 induction s with
 | nil => simp [cutAt]
 | cons c r ih =>
  obtain ⟨i1, i2⟩ := ih
  by_cases h : c = 47
  · subst h
    rw [cut_eq]
    refine ⟨by simp at i1 ⊢; omega, fun p hp => ?_⟩
    rcases List.mem_cons.1 hp with rfl | hp
    · simp
    · have := i2 p hp
      simp
      omega
  · rw [cut_ne h]
    cases hc : cutAt 47 r with
    | nil => exact absurd hc (cutAt_ne _ _)
    | cons q t =>
     rw [hc] at i1 i2
     refine ⟨by simp [gluH] at i1 ⊢; omega, fun p hp => ?_⟩
     unfold gluH at hp
     rcases List.mem_cons.1 hp with rfl | hp
     · have := i2 q List.mem_cons_self
       simp
       omega
     · have := i2 p (List.mem_cons_of_mem _ hp)
       simp
       omega

set_option maxHeartbeats 4000000 in
set_option maxRecDepth 100000 in
theorem rparts_calls (s : ByteArray) (hs : s.size ≤ 100000) (w : World) :
 Calls Tryz.prog 151 #[.string s] w fun e w' => ∃ v, e = .returned v ∧ RS w' w.heap.size v ((cutAt 47 s.data.toList).map mk) ∧ Below w.heap.size w w' := by
 generalize hT : cutAt 47 s.data.toList = T
 have HT := Lib.hid hT
 clear hT
 have HR0 : Hid (RS (w.alloc (.cells #[.string ⟨#[]⟩] 9)) w.heap.size (.slice (some ⟨w.heap.size, 0, none⟩) 1 1) (([[]] : List Bytes).map mk)) := rs_one w w.heap.size ⟨#[]⟩ (Nat.le_refl _)
 go_enter Tryz.func151, Tryz.ntmps151
 go_wp2_with fail
 go_loopg [3, 4] s.size (fun gg s3 s4 wr => ∃ (kk : Nat) (done : List Bytes) (cur : Bytes), kk ≤ s.size ∧ s.size - kk ≤ gg ∧ s4 = .int .i64 kk ∧ done.length ≤ kk ∧ cur.length ≤ kk ∧ Aside0 (done ++ gluH cur (cutAt 47 (s.data.toList.drop kk)) = T) ∧
  Aside0 (RS wr w.heap.size s3 ((done ++ [cur]).map mk)) ∧ Aside0 (Below w.heap.size w wr))
 case atStart => exact ⟨0, [], [], Nat.zero_le _, by omega, rfl, by simp, by simp, ⟨by rw [List.drop_zero, gluH_nil _ (cutAt_ne _ _)]; exact HT.out⟩, ⟨HR0.out⟩, ⟨(Below.refl _ _).alloc (Nat.le_refl _) _⟩⟩
 case round =>
  obtain ⟨kk, done, cur, hkk, hgk, rfl, hdl, hcl, HK, HO, HB⟩ := hrel
  by_cases hlt : kk < s.size
  · have hltz : (kk : Int) < (s.size : Int) := by omega
    have HD : Hid (s.data.toList.drop kk = s[kk] :: s.data.toList.drop (kk + 1)) := drop_at s kk hlt
    have hx : s.extract kk (kk + 1) = mk [s[kk]] := by rw [extract_mk, show kk + 1 - kk = 1 by omega, drop_at s kk hlt]; rfl
    have HX := Lib.hid hx
    clear hx
    by_cases c47 : s[kk].toNat = 47
    · have e47 : ((s[kk].toNat : Int) == 47) = true := by simp; omega
      have HN : Hid ((done ++ [cur]) ++ gluH [] (cutAt 47 (s.data.toList.drop (kk + 1))) = T) := by
       show _ = _
       rw [← HK.out, HD.out, show s[kk] = 47 from (byte_iff s[kk] 47 47 rfl).2 c47, cut_eq, gluH_nil _ (cutAt_ne _ _)]
       simp [gluH]
      have hal : ((done ++ [cur]).map mk).length ≤ 200000 := by simp; omega
      have HWB := Lib.hid HB.out.size
      have HM : Hid ((done ++ [cur]).map mk ++ [⟨#[]⟩] = (done ++ [cur] ++ [[]]).map mk) := by show _ = _; rw [List.map_append (l₁ := done ++ [cur])]; rfl
      clear c47
      go_wp2_with (first | ((with_reducible refine gate_builtin (b := .append) (xs := #[.tmp 16, .tmp 17]) rfl ?_); at_builtin; refine Kd.R_append Kd.string (w0 := w) w.heap.size rfl (.tmp 16) (.tmp 17) 46 9 (.string ⟨#[]⟩) 16 rfl Tryz.underlying46 infoStr rfl (by decide) (by decide) u3 ((done ++ [cur]).map mk) ⟨#[]⟩ [.string ⟨#[]⟩] (fun _ => True) (fun k_ => True ∧ some k_ ≠ u3.ownBlock) rfl rfl rfl (fun _ hk => hk) (fun _ _ => trivial) HO.out HB.out HWB.out ?aL ?_; (case aL => omega); intro v1 w4 ho hb hg hat; have HO4 : Hid (RS w4 w.heap.size v1 ((done ++ [cur] ++ [[]]).map mk)) := (by rw [← HM.out]; exact ho); have HB4 := Lib.hid hb; clear ho hb hg hat))
      go_roundg (s.size - (kk + 1))
      case measure => omega
      case rel => exact ⟨kk + 1, done ++ [cur], [], by omega, by omega, by first | rfl | go_num, by simp; omega, by simp, ⟨HN.out⟩, ⟨HO4.out⟩, ⟨HB4.out⟩⟩
    · have e47 : ((s[kk].toNat : Int) == 47) = false := by simp; omega
      have HN : Hid (done ++ gluH (cur ++ [s[kk]]) (cutAt 47 (s.data.toList.drop (kk + 1))) = T) := by
       show _ = _
       rw [← HK.out, HD.out, cut_ne (fun h => c47 ((byte_iff s[kk] 47 47 rfl).1 h)), gluH_gluH]
      have hlen : ((done ++ [cur]).map mk).length = done.length + 1 := by simp
      obtain ⟨g, cp, hv, hbg, _, _⟩ := Kd.R_form HO.out (by rw [hlen]; omega)
      rw [hlen] at hv
      subst hv
      obtain ⟨hc0, hf0⟩ := Kd.R_celln (⟨#[]⟩ : ByteArray) HO.out (done.length : Int) (by omega) (by omega)
      have hP := Kd.R_putn HO.out (done.length : Int) (mk (cur ++ [s[kk]]))
      rw [Int.toNat_natCast] at hc0 hf0 hP
      rw [show rdOf (⟨#[]⟩ : ByteArray) ((done ++ [cur]).map mk) (done.length : Int) = mk cur by unfold rdOf; simp [List.getD_eq_getElem?_getD]] at hc0
      rw [show ((done ++ [cur]).map mk).set done.length (mk (cur ++ [s[kk]])) = (done ++ [cur ++ [s[kk]]]).map mk by simp] at hP
      have hms : (mk cur).size = cur.length := mk_size cur
      have HMS := Lib.hid hms
      have hov : ¬ 9223372036854775807 < (mk cur).size + (min (kk + 1) s.size - kk) := by rw [hms]; omega
      have hov2 : ¬ 9223372036854775807 < (mk cur).size + (s.extract kk (kk + 1)).size := by rw [HX.out, hms, mk_size]; simp; omega
      have w1 : IntKind.i64.wrap ((kk : Int) + 1) = (kk : Int) + 1 := IntWalk.i64_in _ (by omega)
      have w2 : IntKind.i64.wrap (((done.length : Int) + 1) - 1) = (done.length : Int) := by rw [IntWalk.i64_in _ (by omega)]; omega
      have HP := Lib.hid hP
      have HBG : Hid (w.heap.size ≤ g) := hbg
      clear c47 hP hlen hms hbg
      go_wp2_with fail
      go_region
      have HP2 : Hid (RS (wr.setCell ⟨g, done.length, none⟩ (.string (mk cur ++ s.extract kk (kk + 1)))).drew w.heap.size (.slice (some ⟨g, 0, none⟩) (done.length + 1) cp) ((done ++ [cur ++ [s[kk]]]).map mk)) := by
       have h := HP.out
       rw [← mk_append, ← HX.out] at h
       exact Kd.R_drew h
      have HB2 : Hid (Below w.heap.size w (wr.setCell ⟨g, done.length, none⟩ (.string (mk cur ++ s.extract kk (kk + 1)))).drew) := (HB.out.setCell (p := ⟨g, done.length, none⟩) HBG.out _).drew
      clear w1 w2 hc0 hf0 HP
      go_wp2
      go_roundg (s.size - (kk + 1))
      case measure => omega
      case rel => exact ⟨kk + 1, done, cur ++ [s[kk]], by omega, by omega, by first | rfl | go_num, by omega, by simp; omega, ⟨HN.out⟩, ⟨HP2.out⟩, ⟨HB2.out⟩⟩
  · have hltz : ¬ (kk : Int) < (s.size : Int) := by omega
    have HV : Hid (done ++ [cur] = T) := by
     show _ = _
     rw [← HK.out, List.drop_of_length_le (by rw [← Lib.size_eq]; omega)]
     simp [cutAt, gluH]
    go_wp2
    go_ret
    exact ⟨_, rfl, by rw [← HV.out]; exact HO.out, HB.out⟩

theorem sig_sign (c : UInt8) : sigB (c.toNat : Int) = sign c := by
 have key : ∀ n : Nat, n < 256 → sigB (n : Int) = sign (UInt8.ofNat n) := by decide +kernel
 have := key c.toNat (UInt8.toNat_lt c)
 rwa [show UInt8.ofNat c.toNat = c by simp] at this
theorem txt_eq (s : ByteArray) (l : Bytes) : (s.toList == l) = (s.data.toList == l) := by rw [toList_eq]
set_option maxHeartbeats 8000000 in
set_option maxRecDepth 100000 in
theorem rmay_calls (s : ByteArray) (w : World) :
 Calls Tryz.prog 123 #[.string s] w fun e w' => e = .returned (.bool (may s.data.toList)) ∧ Below w.heap.size w w' := by
 have hM : may s.data.toList = (!(s.data.toList == [114, 117, 108, 101] || s.data.toList == [105, 110] || s.data.toList == [111, 117, 116] || s.data.toList == [97, 102, 116, 101, 114]) && decide (s.data.toList.length ≤ 40) && !(cutAt 47 s.data.toList).any bad) := rfl
 have f1 := txt_eq s [114, 117, 108, 101]
 have f2 := txt_eq s [105, 110]
 have f3 := txt_eq s [111, 117, 116]
 have f4 := txt_eq s [97, 102, 116, 101, 114]
 by_cases h1 : s.size < 1
 · have d1 : decide ((s.size : Int) < 1) = true := by simp; omega
   have hV : may s.data.toList = false := by
    have : s.data.toList = [] := List.eq_nil_of_length_eq_zero (by rw [← Lib.size_eq]; omega)
    rw [this]
    decide
   rw [hV]
   clear h1 hM hV f1 f2 f3 f4
   go_enter Tryz.func123, Tryz.ntmps123
   go_wp2_with fail
   go_ret
   exact ⟨rfl, Below.refl _ _⟩
 have d1 : decide ((s.size : Int) < 1) = false := by simp; omega
 by_cases h2 : 40 < s.size
 · have d2 : decide ((40 : Int) < (s.size : Int)) = true := by simp; omega
   have hV : may s.data.toList = false := by rw [hM, show decide (s.data.toList.length ≤ 40) = false by rw [← Lib.size_eq]; simp; omega]; simp
   rw [hV]
   clear h1 h2 hM hV f1 f2 f3 f4
   go_enter Tryz.func123, Tryz.ntmps123
   go_wp2_with fail
   go_ret
   exact ⟨rfl, Below.refl _ _⟩
 have d2 : decide ((40 : Int) < (s.size : Int)) = false := by simp; omega
 by_cases hw : (s.data.toList == [114, 117, 108, 101] || s.data.toList == [105, 110] || s.data.toList == [111, 117, 116] || s.data.toList == [97, 102, 116, 101, 114]) = true
 · have hV : may s.data.toList = false := by rw [hM, hw]; simp
   rw [hV]
   clear hM hV
   cases g1 : (s.data.toList == [114, 117, 108, 101]) with
   | true =>
    rw [g1] at f1
    clear hw g1 f2 f3 f4 h1 h2
    go_enter Tryz.func123, Tryz.ntmps123
    go_wp2_with fail
    go_ret
    exact ⟨rfl, Below.refl _ _⟩
   | false =>
   rw [g1] at f1 hw
   cases g2 : (s.data.toList == [105, 110]) with
   | true =>
    rw [g2] at f2
    clear hw g1 g2 f3 f4 h1 h2
    go_enter Tryz.func123, Tryz.ntmps123
    go_wp2_with fail
    go_ret
    exact ⟨rfl, Below.refl _ _⟩
   | false =>
   rw [g2] at f2 hw
   cases g3 : (s.data.toList == [111, 117, 116]) with
   | true =>
    rw [g3] at f3
    clear hw g1 g2 g3 f4 h1 h2
    go_enter Tryz.func123, Tryz.ntmps123
    go_wp2_with fail
    go_ret
    exact ⟨rfl, Below.refl _ _⟩
   | false =>
   rw [g3] at f3 hw
   have g4 : (s.data.toList == [97, 102, 116, 101, 114]) = true := by simpa using hw
   rw [g4] at f4
   clear hw g1 g2 g3 g4 h1 h2
   go_enter Tryz.func123, Tryz.ntmps123
   go_wp2_with fail
   go_ret
   exact ⟨rfl, Below.refl _ _⟩
 have hw' : (s.data.toList == [114, 117, 108, 101] || s.data.toList == [105, 110] || s.data.toList == [111, 117, 116] || s.data.toList == [97, 102, 116, 101, 114]) = false := by simpa using hw
 have HV : Hid (may s.data.toList = !(cutAt 47 s.data.toList).any bad) := by show _ = _; rw [hM, hw', show decide (s.data.toList.length ≤ 40) = true by rw [← Lib.size_eq]; simp; omega]; simp
 simp only [Bool.or_eq_false_iff] at hw'
 rw [hw'.1.1.1] at f1
 rw [hw'.1.1.2] at f2
 rw [hw'.1.2] at f3
 rw [hw'.2] at f4
 have hP := rparts_calls s (by omega) w
 have hcs := cut_size s.data.toList
 rw [← Lib.size_eq] at hcs
 generalize cutAt 47 s.data.toList = L at HV hP hcs
 have HSz : Hid (∀ p ∈ L, p.length ≤ s.size) := hcs.2
 have hLl : L.length ≤ 41 := by have := hcs.1; omega
 clear hM hw hw' hcs h1
 go_enter Tryz.func123, Tryz.ntmps123
 go_wp2_with fail
 refine hP.mono ?_
 rintro e w1 ⟨v, rfl, hR, hb1⟩
 obtain ⟨A, c, rfl, _, hC⟩ := Kd.R_reads hR
 rw [List.length_map] at hC
 have HC := Lib.hid hC
 have HB1 := Lib.hid hb1
 have hmm : (L.map mk).length = L.length := List.length_map mk
 rw [hmm]
 clear hP hR hC hb1 f1 f2 f3 f4 d1 d2 hmm
 go_wp2_with fail
 go_loopg [4, 5] L.length (fun gg s4 _ wr => ∃ ii : Nat, ii ≤ L.length ∧ L.length - ii ≤ gg ∧ s4 = .int .i64 ii ∧ wr = w1 ∧ Aside0 ((L.take ii).any bad = false))
 case atStart => exact ⟨0, Nat.zero_le _, by omega, rfl, rfl, ⟨rfl⟩⟩
 case round =>
  obtain ⟨ii, hii, hgi, rfl, hwr, HA⟩ := hrel
  obtain ⟨wo, hwo⟩ : ∃ v, v = wr := ⟨_, rfl⟩
  subst hwo
  subst hwr
  by_cases hlt : ii < L.length
  · have hltz : (ii : Int) < (L.length : Int) := by omega
    rcases row_open (show Kd.C Kd.string wo A (L.map mk).length (L.map mk) by rw [List.length_map]; exact HC.out) with h0 | ⟨b, o, rfl, _, hcell⟩
    · rw [List.map_eq_nil_iff] at h0; rw [h0] at hlt; simp at hlt
    have hx := hcell ii (by simpa using hlt)
    rw [show (L.map mk).getD ii ByteArray.empty = mk L[ii] by simp [List.getD_eq_getElem?_getD, List.getElem?_eq_getElem hlt]] at hx
    have HPl : Hid (L[ii].length ≤ s.size) := HSz.out _ (List.getElem_mem hlt)
    have HT : Hid (L.take (ii + 1) = L.take ii ++ [L[ii]]) := by show _ = _; rw [List.take_succ_eq_append_getElem hlt]
    obtain ⟨y, hy⟩ : ∃ y, y = mk L[ii] := ⟨_, rfl⟩
    rw [← hy] at hx
    have hyd : y.data.toList = L[ii] := by rw [hy, mk_data]
    have e1 := txt_eq y []
    have e2 := txt_eq y [46]
    have e3 := txt_eq y [46, 46]
    rw [hyd] at e1 e2 e3
    have HYd := Lib.hid hyd
    have hys : y.size ≤ 100000 := by rw [Lib.size_eq, hyd]; have := HPl.out; omega
    clear hcell hy hyd
    have hbd : bad L[ii] = (L[ii] == [] || L[ii] == [46] || L[ii] == [46, 46] || L[ii].any (fun c => !sign c)) := rfl
    have HBd := Lib.hid hbd
    clear hbd
    cases q1 : (L[ii] == []) with
    | true =>
     have HF : Hid (may s.data.toList = false) := by show _ = _; rw [HV.out, List.any_eq_true.2 ⟨L[ii], List.getElem_mem hlt, by rw [HBd.out, q1]; rfl⟩]; rfl
     rw [q1] at e1
     clear q1 e2 e3 hys
     go_wp2_with fail
     go_ret
     rw [HF.out]
     exact ⟨rfl, HB1.out⟩
    | false =>
    rw [q1] at e1
    cases q2 : (L[ii] == [46]) with
    | true =>
     have HF : Hid (may s.data.toList = false) := by show _ = _; rw [HV.out, List.any_eq_true.2 ⟨L[ii], List.getElem_mem hlt, by rw [HBd.out, q2]; simp⟩]; rfl
     rw [q2] at e2
     clear q1 q2 e3 hys
     go_wp2_with fail
     go_ret
     rw [HF.out]
     exact ⟨rfl, HB1.out⟩
    | false =>
    rw [q2] at e2
    cases q3 : (L[ii] == [46, 46]) with
    | true =>
     have HF : Hid (may s.data.toList = false) := by show _ = _; rw [HV.out, List.any_eq_true.2 ⟨L[ii], List.getElem_mem hlt, by rw [HBd.out, q3]; simp⟩]; rfl
     rw [q3] at e3
     clear q1 q2 q3 hys
     go_wp2_with fail
     go_ret
     rw [HF.out]
     exact ⟨rfl, HB1.out⟩
    | false =>
    rw [q3] at e3
    have HBe : Hid (bad L[ii] = y.data.toList.any (fun c => !sign c)) := by show _ = _; rw [HBd.out, q1, q2, q3, HYd.out]; rfl
    clear q1 q2 q3 HBd
    go_wp2_with fail
    clear e1 e2 e3
    go_loopg [5] y.size (fun gj s5 wr => ∃ jj : Nat, jj ≤ y.size ∧ y.size - jj ≤ gj ∧ s5 = .int .i64 jj ∧ wr = wo ∧ Aside0 ((y.data.toList.take jj).any (fun c => !sign c) = false))
    case atStart => exact ⟨0, Nat.zero_le _, by omega, rfl, rfl, ⟨rfl⟩⟩
    case round =>
     obtain ⟨jj, hjj, hgj, rfl, hwr, HJ⟩ := hrel
     subst hwr
     by_cases hlj : jj < y.size
     · have hljz : (jj : Int) < (y.size : Int) := by omega
       have hsd := fun W => sign_calls (y[jj].toNat : Int) W
       rw [sig_sign] at hsd
       have hjl : jj < y.data.toList.length := by rw [← Lib.size_eq]; exact hlj
       have HJt : Hid (y.data.toList.take (jj + 1) = y.data.toList.take jj ++ [y[jj]]) := by show _ = _; rw [List.take_succ_eq_append_getElem hjl]; rfl
       cases hsg : sign y[jj] with
       | false =>
        rw [hsg] at hsd
        have HF : Hid (may s.data.toList = false) := by show _ = _; rw [HV.out, List.any_eq_true.2 ⟨L[ii], List.getElem_mem hlt, by rw [HBe.out]; exact List.any_eq_true.2 ⟨y[jj], List.getElem_mem (h := hjl), by rw [hsg]; rfl⟩⟩]; rfl
        clear hsg
        go_wp2_with (go_at_call 42; refine (hsd _).mono ?_; rintro e w' ⟨rfl, rfl⟩)
        go_ret
        rw [HF.out]
        exact ⟨rfl, HB1.out⟩
       | true =>
        rw [hsg] at hsd
        have HN : Hid ((y.data.toList.take (jj + 1)).any (fun c => !sign c) = false) := by show _ = _; rw [HJt.out, List.any_append, HJ.out]; simp [hsg]
        clear hsg
        go_wp2_with (go_at_call 42; refine (hsd _).mono ?_; rintro e w' ⟨rfl, rfl⟩)
        go_roundg (y.size - (jj + 1))
        case measure => omega
        case rel => exact ⟨jj + 1, by omega, by omega, by first | rfl | go_num, rfl, ⟨HN.out⟩⟩
     · have hljz : ¬ (jj : Int) < (y.size : Int) := by omega
       have HN : Hid ((L.take (ii + 1)).any bad = false) := by
        show _ = _
        have := HJ.out
        rw [List.take_of_length_le (by rw [← Lib.size_eq]; omega)] at this
        rw [HT.out, List.any_append, HA.out, Bool.false_or]
        simp only [List.any_cons, List.any_nil, Bool.or_false]
        rw [HBe.out, this]
       go_wp2
       go_roundg (L.length - (ii + 1))
       case measure => omega
       case rel => exact ⟨ii + 1, by omega, by omega, by first | rfl | go_num, rfl, ⟨HN.out⟩⟩
  · have hltz : ¬ (ii : Int) < (L.length : Int) := by omega
    have HF : Hid (may s.data.toList = true) := by show _ = _; have := HA.out; rw [List.take_of_length_le (by omega)] at this; rw [HV.out, this]; rfl
    go_wp2
    go_ret
    rw [HF.out]
    exact ⟨rfl, HB1.out⟩

end Go.Proofs.YthagibkmfgodgaaGreatDoor.X

namespace Go.Proofs.YthagibkmfgodgaaGreatDoor.X
theorem digits_ne : ∀ u c, c ∈ Lib.decDigits u → c ≠ 58 := by
 intro u
 induction u using Nat.strongRecOn with
 | _ u ih =>
  intro c hc
  have one : ∀ d, d < 10 → UInt8.ofNat (48 + d) ≠ 58 := by decide
  rw [Lib.decDigits] at hc
  split at hc
  · rename_i h
    rw [List.mem_singleton] at hc
    rw [hc]
    exact one u h
  · rcases List.mem_append.1 hc with h | h
    · exact ih (u / 10) (by omega) c h
    · rw [List.mem_singleton] at h
      rw [h]
      exact one _ (by omega)
def digVal (l : Bytes) : Nat := l.foldl (fun a c => a * 10 + (c.toNat - 48)) 0
theorem digVal_digits : ∀ u, digVal (Lib.decDigits u) = u := by
 intro u
 induction u using Nat.strongRecOn with
 | _ u ih =>
  have one : ∀ d, d < 10 → (UInt8.ofNat (48 + d)).toNat - 48 = d := by decide
  rw [Lib.decDigits]
  split
  · rename_i h
    show 0 * 10 + ((UInt8.ofNat (48 + u)).toNat - 48) = u
    rw [one u h]
    omega
  · rename_i h
    have := ih (u / 10) (by omega)
    unfold digVal at this ⊢
    rw [List.foldl_append, this, List.foldl_cons, List.foldl_nil, one (u % 10) (by omega)]
    omega
end Go.Proofs.YthagibkmfgodgaaGreatDoor.X

namespace Go.Proofs.YthagibkmfgodgaaGreatDoor.Pg
open Go.Proofs.YthagibkmfgodgaaGreatDoor.X Go.Proofs.YthagibkmfgodgaaGreatDoor.Pb Go.Proofs.YthagibkmfgodgaaGreatDoor.Pc
open Go.RowKit Go.Proofs.YthagibkmfgodgaaGreatDoorW.PrintWords Go.Proofs.YthagibkmfgodgaaGreatDoorW.PrintLast Go.Proofs.YthagibkmfgodgaaGreatDoorW.PrintMore
attribute [local go_sem] max2_int min2_int max_two min_two max_three min_three max_four min_four   -- for this text's walks alone
set_option linter.unusedVariables false
set_option linter.unusedSimpArgs false



def errW : Option Int → Value
 | none => .nilIface
 | some c => .iface 0 (.int .i64 c)
theorem errW_none : errW none = .nilIface := rfl
theorem errW_some (c : Int) : errW (some c) = .iface 0 (.int .i64 c) := rfl

-- the values' own types

end Go.Proofs.YthagibkmfgodgaaGreatDoor.Pg
namespace Go.Proofs.YthagibkmfgodgaaGreatDoor.Pg
open Go.Proofs.YthagibkmfgodgaaGreatDoor.X Go.Proofs.YthagibkmfgodgaaGreatDoor.Pb Go.Proofs.YthagibkmfgodgaaGreatDoor.Pc
open Go.RowKit Go.Proofs.YthagibkmfgodgaaGreatDoorW.PrintWords Go.Proofs.YthagibkmfgodgaaGreatDoorW.PrintLast Go.Proofs.YthagibkmfgodgaaGreatDoorW.PrintMore
attribute [local go_sem] max2_int min2_int max_two min_two max_three min_three max_four min_four   -- for this text's walks alone
set_option linter.unusedVariables false
set_option linter.unusedSimpArgs false

def shipwrightref1_GetNumber.l0 : Nat → ByteArray → Int → Int → Int → Option (Int × Bool)
 | 0, _, _, _, _ => none
 | k + 1, x0, x1, x6, x7 => if x7 < (x0.size : Int) then (if 0 ≤ x7 then (if (bt x0 x7) < 48 then (some (0, false)) else (if (bt x0 x7) > 57 then (some (0, false)) else (if x6 > ((9223372036854775807 - (((bt x0 x7) - 48) % 256)) / 10) then (some (0, false)) else (shipwrightref1_GetNumber.l0 k x0 x1 (wrap64 ((wrap64 (x6 * 10)) + (((bt x0 x7) - 48) % 256))) (wrap64 (x7 + 1)))))) else (none)) else (if x0.toList = ([] : List UInt8) then (some (0, false)) else (if (x0.size : Int) > 1 then (if 0 < (x0.size : Int) then (if (bt x0 0) = 48 then (some (0, false)) else (if x6 > x1 then (some (0, false)) else (some (x6, true)))) else (none)) else (if x6 > x1 then (some (0, false)) else (some (x6, true)))))
def shipwrightref1_GetNumber.f (k : Nat) (a0 : ByteArray) (a1 : Int) : Option (Int × Bool) := shipwrightref1_GetNumber.l0 k a0 a1 0 0
theorem shipwrightref1_GetNumber.mono_l : ∀ k, (∀ y0 y1 y2 y3, LeO (shipwrightref1_GetNumber.l0 k y0 y1 y2 y3) (shipwrightref1_GetNumber.l0 (k + 1) y0 y1 y2 y3))
 | 0 => fun _ _ _ _ r h => by simp [shipwrightref1_GetNumber.l0] at h
 | k + 1 => by
  have ih0 := shipwrightref1_GetNumber.mono_l k
  · intro y0 y1 y2 y3
    unfold shipwrightref1_GetNumber.l0
    repeat' first
    | (with_reducible exact ih0 _ _ _ _)
    | (with_reducible exact LeO.refl _)
    | (with_reducible exact LeO.none _)
    | (with_reducible refine LeO.ite ?_ ?_)
    | (with_reducible refine LeO.bind ?_ (fun _ => ?_))
    | exact ih0 _ _ _ _
    | exact LeO.none _
    | refine LeO.ite ?_ ?_
    | refine LeO.bind ?_ (fun _ => ?_)
theorem shipwrightref1_GetNumber.mono : ∀ a0 a1 k, LeO (shipwrightref1_GetNumber.f k a0 a1) (shipwrightref1_GetNumber.f (k + 1) a0 a1) := by
 intro a0 a1 k
 have ih0 := shipwrightref1_GetNumber.mono_l k
 unfold shipwrightref1_GetNumber.f
 repeat' first
  | (with_reducible exact ih0 _ _ _ _)
  | (with_reducible exact LeO.refl _)
  | (with_reducible exact LeO.none _)
  | (with_reducible refine LeO.ite ?_ ?_)
  | (with_reducible refine LeO.bind ?_ (fun _ => ?_))
  | exact ih0 _ _ _ _
  | exact LeO.none _
  | refine LeO.ite ?_ ?_
  | refine LeO.bind ?_ (fun _ => ?_)
set_option maxHeartbeats 8000000 in
set_option maxRecDepth 100000 in
theorem shipwrightref1_GetNumber.calls (k : Nat) (a0 : ByteArray) (a1 : Int) (r1 : Int) (r2 : Bool) (w : World) (hG : GOK w) (h : shipwrightref1_GetNumber.f k a0 a1 = some (r1, r2)) :
 Calls Tryz.prog 150 #[.string a0, .int .i64 a1] w fun e w' => e = .returned (.tuple #[.int .i64 r1, .bool r2]) ∧ Drawn0 w w' := by
 have HG := Aside0.mk hG
 clear hG
 have H : (shipwrightref1_GetNumber.l0 k a0 a1 0 0) = some (r1, r2) := h
 clear h
 have H' := Aside0.mk H
 clear H
 go_enter Tryz.func150, Tryz.ntmps150
 go_wp2
 go_loopg [6, 7] k (fun kq v6 v7 w' => ∃ (x6_1 : Int) (x7_1 : Int), v6 = .int .i64 x6_1 ∧ v7 = .int .i64 x7_1 ∧ Aside0 (shipwrightref1_GetNumber.l0 kq a0 a1 x6_1 x7_1 = some (r1, r2)) ∧ Aside0 (kq ≤ k) ∧ Drawn0 w w')
 case atStart => exact ⟨(0), (0), (by first | rfl | (simp; done) | (simp [*]; done) | (simp [bne]; done) | (simp [*, bne]; done)), (by first | rfl | (simp; done) | (simp [*]; done) | (simp [bne]; done) | (simp [*, bne]; done)), H', ⟨Nat.le_refl _⟩, by repeat (first | exact Drawn0.refl _ | apply Drawn0.step)⟩
 case round =>
  clear H'
  try clear c1
  try clear p2
  obtain ⟨x6_1, x7_1, rfl, rfl, HA, HK1, ⟨m1, rfl⟩⟩ := hrel
  cases gk with
  | zero => exact absurd HA.out (by simp [shipwrightref1_GetNumber.l0])
  | succ k1 =>
   have H := HA.out
   clear HA
   simp only [shipwrightref1_GetNumber.l0] at H
   by_cases c3 : x7_1 < (a0.size : Int)
   · rw [if_pos c3] at H
     have c3b0 : decide (x7_1 < (a0.size : Int)) = true := decide_eq_true c3
     clear c3
     by_cases c4 : 0 ≤ x7_1
     · rw [if_pos c4] at H
       have c4b0 : decide (0 ≤ x7_1) = true := decide_eq_true c4
       clear c4
       by_cases c6 : (bt a0 x7_1) < 48
       · rw [if_pos c6] at H
         have c6b0 : decide ((bt a0 x7_1) < 48) = true := decide_eq_true c6
         clear c6
         simp only [Option.some.injEq, Prod.mk.injEq] at H
         obtain ⟨rfl, rfl⟩ := H
         have p5 : 0 ≤ (x7_1 : Int) := of_decide_eq_true (by first | (with_reducible assumption) | assumption)
         have q5 : x7_1 < (a0.size : Int) := of_decide_eq_true (by first | (with_reducible assumption) | assumption)
         have hx5 := bt_at a0 x7_1
         replace p5 := eq_true p5
         replace q5 := eq_true q5
         go_wp2
         go_ret2
         exact ⟨by first | rfl | (simp; done) | (simp [*]; done), by repeat (first | exact Drawn0.refl _ | apply Drawn0.step)⟩
       · rw [if_neg c6] at H
         have c6b0 : decide ((bt a0 x7_1) < 48) = false := decide_eq_false c6
         clear c6
         by_cases c8 : (bt a0 x7_1) > 57
         · rw [if_pos c8] at H
           have c8b0 : decide (57 < (bt a0 x7_1)) = true := decide_eq_true c8
           clear c8
           simp only [Option.some.injEq, Prod.mk.injEq] at H
           obtain ⟨rfl, rfl⟩ := H
           have p5 : 0 ≤ (x7_1 : Int) := of_decide_eq_true (by first | (with_reducible assumption) | assumption)
           have q5 : x7_1 < (a0.size : Int) := of_decide_eq_true (by first | (with_reducible assumption) | assumption)
           have hx5 := bt_at a0 x7_1
           replace p5 := eq_true p5
           replace q5 := eq_true q5
           have p7 : 0 ≤ (x7_1 : Int) := of_decide_eq_true (by first | (with_reducible assumption) | assumption)
           have q7 : x7_1 < (a0.size : Int) := of_decide_eq_true (by first | (with_reducible assumption) | assumption)
           have hx7 := bt_at a0 x7_1
           replace p7 := eq_true p7
           replace q7 := eq_true q7
           go_wp2
           go_ret2
           exact ⟨by first | rfl | (simp; done) | (simp [*]; done), by repeat (first | exact Drawn0.refl _ | apply Drawn0.step)⟩
         · rw [if_neg c8] at H
           have c8b0 : decide (57 < (bt a0 x7_1)) = false := decide_eq_false c8
           clear c8
           by_cases c10 : x6_1 > ((9223372036854775807 - (((bt a0 x7_1) - 48) % 256)) / 10)
           · rw [if_pos c10] at H
             have c10b0 : decide (((9223372036854775807 - (((bt a0 x7_1) - 48) % 256)) / 10) < x6_1) = true := decide_eq_true c10
             clear c10
             simp only [Option.some.injEq, Prod.mk.injEq] at H
             obtain ⟨rfl, rfl⟩ := H
             have p5 : 0 ≤ (x7_1 : Int) := of_decide_eq_true (by first | (with_reducible assumption) | assumption)
             have q5 : x7_1 < (a0.size : Int) := of_decide_eq_true (by first | (with_reducible assumption) | assumption)
             have hx5 := bt_at a0 x7_1
             replace p5 := eq_true p5
             replace q5 := eq_true q5
             have p7 : 0 ≤ (x7_1 : Int) := of_decide_eq_true (by first | (with_reducible assumption) | assumption)
             have q7 : x7_1 < (a0.size : Int) := of_decide_eq_true (by first | (with_reducible assumption) | assumption)
             have hx7 := bt_at a0 x7_1
             replace p7 := eq_true p7
             replace q7 := eq_true q7
             have p9 : 0 ≤ (x7_1 : Int) := of_decide_eq_true (by first | (with_reducible assumption) | assumption)
             have q9 : x7_1 < (a0.size : Int) := of_decide_eq_true (by first | (with_reducible assumption) | assumption)
             have hx9 := bt_at a0 x7_1
             replace p9 := eq_true p9
             replace q9 := eq_true q9
             go_wp2
             go_ret2
             exact ⟨by first | rfl | (simp; done) | (simp [*]; done), by repeat (first | exact Drawn0.refl _ | apply Drawn0.step)⟩
           · rw [if_neg c10] at H
             have c10b0 : decide (((9223372036854775807 - (((bt a0 x7_1) - 48) % 256)) / 10) < x6_1) = false := decide_eq_false c10
             clear c10
             have H' := Aside0.mk H
             clear H
             have p5 : 0 ≤ (x7_1 : Int) := of_decide_eq_true (by first | (with_reducible assumption) | assumption)
             have q5 : x7_1 < (a0.size : Int) := of_decide_eq_true (by first | (with_reducible assumption) | assumption)
             have hx5 := bt_at a0 x7_1
             replace p5 := eq_true p5
             replace q5 := eq_true q5
             have p7 : 0 ≤ (x7_1 : Int) := of_decide_eq_true (by first | (with_reducible assumption) | assumption)
             have q7 : x7_1 < (a0.size : Int) := of_decide_eq_true (by first | (with_reducible assumption) | assumption)
             have hx7 := bt_at a0 x7_1
             replace p7 := eq_true p7
             replace q7 := eq_true q7
             have p9 : 0 ≤ (x7_1 : Int) := of_decide_eq_true (by first | (with_reducible assumption) | assumption)
             have q9 : x7_1 < (a0.size : Int) := of_decide_eq_true (by first | (with_reducible assumption) | assumption)
             have hx9 := bt_at a0 x7_1
             replace p9 := eq_true p9
             replace q9 := eq_true q9
             have p11 : 0 ≤ (x7_1 : Int) := of_decide_eq_true (by first | (with_reducible assumption) | assumption)
             have q11 : x7_1 < (a0.size : Int) := of_decide_eq_true (by first | (with_reducible assumption) | assumption)
             have hx11 := bt_at a0 x7_1
             replace p11 := eq_true p11
             replace q11 := eq_true q11
             go_wp2
             go_roundg k1
             case measure => have := HK1.out; omega
             case rel => exact ⟨(wrap64 ((wrap64 (x6_1 * 10)) + (((bt a0 x7_1) - 48) % 256))), (wrap64 (x7_1 + 1)), (by first | rfl | (simp; done) | (simp [*]; done) | (simp [bne]; done) | (simp [*, bne]; done)), (by first | rfl | (simp; done) | (simp [*]; done) | (simp [bne]; done) | (simp [*, bne]; done)), H', ⟨by have := HK1.out; omega⟩, by repeat (first | exact Drawn0.refl _ | apply Drawn0.step)⟩
     · rw [if_neg c4] at H
       exact absurd H (by simp)
   · rw [if_neg c3] at H
     have c3b0 : decide (x7_1 < (a0.size : Int)) = false := decide_eq_false c3
     clear c3
     by_cases c12 : a0.toList = ([] : List UInt8)
     · rw [if_pos c12] at H
       have c12b0 : (a0.toList == ([] : List UInt8)) = true := beq_iff_eq.mpr c12
       have c12b1 : (a0.toList != ([] : List UInt8)) = false := bne_eq_false_iff_eq.mpr c12
       clear c12
       simp only [Option.some.injEq, Prod.mk.injEq] at H
       obtain ⟨rfl, rfl⟩ := H
       go_wp2
       go_ret2
       exact ⟨by first | rfl | (simp; done) | (simp [*]; done), by repeat (first | exact Drawn0.refl _ | apply Drawn0.step)⟩
     · rw [if_neg c12] at H
       have c12b0 : (a0.toList == ([] : List UInt8)) = false := beq_eq_false_iff_ne.mpr c12
       have c12b1 : (a0.toList != ([] : List UInt8)) = true := bne_iff_ne.mpr c12
       by_cases c13 : (a0.size : Int) > 1
       · rw [if_pos c13] at H
         have c13b0 : decide (1 < (a0.size : Int)) = true := decide_eq_true c13
         have c13b1 : decide (1 < a0.size) = true := decide_eq_true (by omega)
         clear c13
         by_cases c14 : 0 < (a0.size : Int)
         · rw [if_pos c14] at H
           have c14b0 : decide (0 < (a0.size : Int)) = true := decide_eq_true c14
           have c14b1 : decide (0 < a0.size) = true := decide_eq_true (by omega)
           clear c14
           by_cases c16 : (bt a0 0) = 48
           · rw [if_pos c16] at H
             have c16b0 : ((bt a0 0) == 48) = true := beq_iff_eq.mpr c16
             have c16b1 : ((bt a0 0) != 48) = false := bne_eq_false_iff_eq.mpr c16
             clear c16
             simp only [Option.some.injEq, Prod.mk.injEq] at H
             obtain ⟨rfl, rfl⟩ := H
             have p15 : 0 ≤ (0 : Int) := (by omega)
             have q15 : 0 < a0.size := (by have : (0 : Int) < (a0.size : Int) := of_decide_eq_true (by first | (with_reducible assumption) | assumption); omega)
             have hx15 : ∀ h : 0 < a0.size, ((a0[0]'h).toNat : Int) = bt a0 0 := bt_at a0 0
             clear p15
             have qi15 : (0 < (a0.size : Int)) = True := eq_true (of_decide_eq_true (by first | (with_reducible assumption) | assumption))
             replace q15 := eq_true q15
             go_wp2
             go_ret2
             exact ⟨by first | rfl | (simp; done) | (simp [*]; done), by repeat (first | exact Drawn0.refl _ | apply Drawn0.step)⟩
           · rw [if_neg c16] at H
             have c16b0 : ((bt a0 0) == 48) = false := beq_eq_false_iff_ne.mpr c16
             have c16b1 : ((bt a0 0) != 48) = true := bne_iff_ne.mpr c16
             by_cases c17 : x6_1 > a1
             · rw [if_pos c17] at H
               have c17b0 : decide (a1 < x6_1) = true := decide_eq_true c17
               clear c17
               simp only [Option.some.injEq, Prod.mk.injEq] at H
               obtain ⟨rfl, rfl⟩ := H
               have p15 : 0 ≤ (0 : Int) := (by omega)
               have q15 : 0 < a0.size := (by have : (0 : Int) < (a0.size : Int) := of_decide_eq_true (by first | (with_reducible assumption) | assumption); omega)
               have hx15 : ∀ h : 0 < a0.size, ((a0[0]'h).toNat : Int) = bt a0 0 := bt_at a0 0
               clear p15
               have qi15 : (0 < (a0.size : Int)) = True := eq_true (of_decide_eq_true (by first | (with_reducible assumption) | assumption))
               replace q15 := eq_true q15
               go_wp2
               go_ret2
               exact ⟨by first | rfl | (simp; done) | (simp [*]; done), by repeat (first | exact Drawn0.refl _ | apply Drawn0.step)⟩
             · rw [if_neg c17] at H
               have c17b0 : decide (a1 < x6_1) = false := decide_eq_false c17
               clear c17
               simp only [Option.some.injEq, Prod.mk.injEq] at H
               obtain ⟨rfl, rfl⟩ := H
               have p15 : 0 ≤ (0 : Int) := (by omega)
               have q15 : 0 < a0.size := (by have : (0 : Int) < (a0.size : Int) := of_decide_eq_true (by first | (with_reducible assumption) | assumption); omega)
               have hx15 : ∀ h : 0 < a0.size, ((a0[0]'h).toNat : Int) = bt a0 0 := bt_at a0 0
               clear p15
               have qi15 : (0 < (a0.size : Int)) = True := eq_true (of_decide_eq_true (by first | (with_reducible assumption) | assumption))
               replace q15 := eq_true q15
               go_wp2
               go_ret2
               exact ⟨by first | rfl | (simp; done) | (simp [*]; done), by repeat (first | exact Drawn0.refl _ | apply Drawn0.step)⟩
         · rw [if_neg c14] at H
           exact absurd H (by simp)
       · rw [if_neg c13] at H
         have c13b0 : decide (1 < (a0.size : Int)) = false := decide_eq_false c13
         have c13b1 : decide (1 < a0.size) = false := decide_eq_false (by omega)
         clear c13
         by_cases c18 : x6_1 > a1
         · rw [if_pos c18] at H
           have c18b0 : decide (a1 < x6_1) = true := decide_eq_true c18
           clear c18
           simp only [Option.some.injEq, Prod.mk.injEq] at H
           obtain ⟨rfl, rfl⟩ := H
           go_wp2
           go_ret2
           exact ⟨by first | rfl | (simp; done) | (simp [*]; done), by repeat (first | exact Drawn0.refl _ | apply Drawn0.step)⟩
         · rw [if_neg c18] at H
           have c18b0 : decide (a1 < x6_1) = false := decide_eq_false c18
           clear c18
           simp only [Option.some.injEq, Prod.mk.injEq] at H
           obtain ⟨rfl, rfl⟩ := H
           go_wp2
           go_ret2
           exact ⟨by first | rfl | (simp; done) | (simp [*]; done), by repeat (first | exact Drawn0.refl _ | apply Drawn0.step)⟩

end Go.Proofs.YthagibkmfgodgaaGreatDoor.Pg

namespace Go.Proofs.YthagibkmfgodgaaGreatDoor.X
open Go.RowKit Go.Proofs.YthagibkmfgodgaaGreatDoorW.PrintWords Go.Proofs.YthagibkmfgodgaaGreatDoor.Pg

theorem dec_lt {u : Nat} (h : u < 10) : Lib.decDigits u = [UInt8.ofNat (48 + u)] := by rw [Lib.decDigits, dif_pos h]
theorem dec_ge {u : Nat} (h : ¬ u < 10) : Lib.decDigits u = Lib.decDigits (u / 10) ++ [UInt8.ofNat (48 + u % 10)] := by rw [Lib.decDigits, dif_neg h]
def num (l : Bytes) (most : Nat) : Option Nat := if l = Lib.decDigits (digVal l) ∧ digVal l ≤ most then some (digVal l) else none
def numR (l : Bytes) (most : Nat) : Int × Bool := match num l most with | some n => (n, true) | none => (0, false)
theorem num_dec (n most : Nat) (h : n ≤ most) : num (Lib.decDigits n) most = some n := by
 unfold num
 rw [digVal_digits, if_pos ⟨rfl, h⟩]
theorem num_some {l : Bytes} {most n : Nat} (h : num l most = some n) : l = Lib.decDigits n ∧ n ≤ most := by
 unfold num at h
 split at h
 · rename_i hc
   obtain rfl := Option.some.inj h
   exact hc
 · cases h
theorem num_none {l : Bytes} {most : Nat} (h : num l most = none) (n : Nat) (hn : n ≤ most) : l ≠ Lib.decDigits n := by
 rintro rfl
 rw [num_dec n most hn] at h
 cases h

def digB (c : UInt8) : Bool := decide (48 ≤ c.toNat) && decide (c.toNat ≤ 57)
theorem digVal_snoc (l : Bytes) (c : UInt8) : digVal (l ++ [c]) = digVal l * 10 + (c.toNat - 48) := by
 unfold digVal
 rw [List.foldl_append]
 rfl
theorem dec_digB : ∀ u c, c ∈ Lib.decDigits u → digB c = true := by
 intro u
 induction u using Nat.strongRecOn with
 | _ u ih =>
  intro c hc
  have one : ∀ d, d < 10 → digB (UInt8.ofNat (48 + d)) = true := by decide
  rw [Lib.decDigits] at hc
  split at hc
  · rw [List.mem_singleton] at hc
    rw [hc]
    exact one u (by assumption)
  · rcases List.mem_append.1 hc with h | h
    · exact ih (u / 10) (by omega) c h
    · rw [List.mem_singleton] at h
      rw [h]
      exact one _ (by omega)
theorem fold_ge : ∀ (l : Bytes) (acc : Nat), acc ≤ l.foldl (fun a c => a * 10 + (c.toNat - 48)) acc
 | [], acc => Nat.le_refl _
 | c :: r, acc => by
  have := fold_ge r (acc * 10 + (c.toNat - 48))
  rw [List.foldl_cons]
  omega
theorem parse10 : ∀ (l : Bytes) (acc : Nat), (∀ c ∈ l, digB c = true) → l.foldl (fun a c => a * 10 + (c.toNat - 48)) acc ≤ 1000000000000000000 → Lib.parseUint10 acc l = .ok (l.foldl (fun a c => a * 10 + (c.toNat - 48)) acc)
 | [], acc, _, _ => rfl
 | c :: r, acc, ha, h => by
  have hc := ha c List.mem_cons_self
  unfold digB at hc
  simp only [Bool.and_eq_true, decide_eq_true_eq] at hc
  rw [List.foldl_cons] at h ⊢
  have h2 := fold_ge r (acc * 10 + (c.toNat - 48))
  rw [Lib.parseUint10, if_pos hc, if_neg (by omega), if_neg (by omega)]
  exact parse10 r _ (fun x hx => ha x (List.mem_cons_of_mem _ hx)) h
theorem dec_ne (u : Nat) : Lib.decDigits u ≠ [] := by
 rw [Lib.decDigits]
 split <;> simp
theorem atoi_dec (n : Nat) (h : n ≤ 1000000000000000000) : Lib.atoiAll (Lib.decDigits n) = .ok n := by
 have hv := digVal_digits n
 have hd := dec_digB n
 have hne := dec_ne n
 cases hl : Lib.decDigits n with
 | nil => exact absurd hl hne
 | cons c r =>
  rw [hl] at hv hd
  have hc := hd c List.mem_cons_self
  unfold digB at hc
  simp only [Bool.and_eq_true, decide_eq_true_eq] at hc
  rw [Lib.atoiAll_plain c r (by omega) (by omega)]
  unfold Lib.parseMag
  unfold digVal at hv
  rw [if_neg (by simp), parse10 _ _ hd (by rw [hv]; exact h), hv]
  unfold Lib.signless
  simp only
  rw [if_neg (by omega)]
theorem getNumber_num (l : Bytes) (most : Nat) (hm : most ≤ 1000000000000000000) : getNumber l most = numR l most := by
 unfold numR
 cases hn : num l most with
 | some n =>
  obtain ⟨rfl, h⟩ := num_some hn
  have hA := atoi_dec n (by omega)
  unfold getNumber
  rw [hA]
  simp only
  rw [if_neg (by omega), if_neg (by omega)]
  unfold number
  simp
 | none =>
  unfold getNumber
  split
  · rename_i v hv
    split
    · rfl
    · split
      · rfl
      · split
        · rename_i h1 h2 h3
          exfalso
          have e : number v = l := by simpa using h3
          exact num_none hn v.toNat (by omega) e.symm
        · rfl
  · rfl

theorem dec_head : ∀ u, 10 ≤ u → ∀ c r, Lib.decDigits u = c :: r → c ≠ 48 := by
 intro u
 induction u using Nat.strongRecOn with
 | _ u ih =>
  intro hu c r hc
  have one : ∀ d, d < 10 → 0 < d → UInt8.ofNat (48 + d) ≠ 48 := by decide
  rw [dec_ge (by omega)] at hc
  by_cases h1 : u / 10 < 10
  · rw [dec_lt h1] at hc
    simp only [List.cons_append, List.nil_append, List.cons.injEq] at hc
    rw [← hc.1]
    exact one _ h1 (by omega)
  · cases hd : Lib.decDigits (u / 10) with
    | nil => exact absurd hd (by rw [dec_ge h1]; simp)
    | cons d q =>
     rw [hd] at hc
     simp only [List.cons_append, List.cons.injEq] at hc
     rw [← hc.1]
     exact ih (u / 10) (by omega) (by omega) d q hd
theorem dec_long (u : Nat) (h : 1 < (Lib.decDigits u).length) : 10 ≤ u := by
 rcases Nat.lt_or_ge u 10 with h1 | h1
 · rw [dec_lt h1] at h
   simp at h
 · exact h1
theorem dec_of_digits : ∀ (n : Nat) (l : Bytes), l.length = n → l ≠ [] → (∀ c ∈ l, digB c = true) → (1 < l.length → l.head? ≠ some 48) → l = Lib.decDigits (digVal l) := by
 intro n
 induction n with
 | zero => intro l h1 h2; exact absurd (List.eq_nil_of_length_eq_zero h1) h2
 | succ n ih =>
  intro l h1 h2 h3 h4
  have hsn := List.dropLast_concat_getLast h2
  obtain ⟨c, hc⟩ : ∃ c, c = l.getLast h2 := ⟨_, rfl⟩
  obtain ⟨q, hq⟩ : ∃ q, q = l.dropLast := ⟨_, rfl⟩
  rw [← hc, ← hq] at hsn
  subst hsn
  clear hc hq
  have hdc := h3 c (by simp)
  unfold digB at hdc
  simp only [Bool.and_eq_true, decide_eq_true_eq] at hdc
  have hcc : UInt8.ofNat (48 + (c.toNat - 48)) = c := by
   rw [show 48 + (c.toNat - 48) = c.toNat by omega]
   simp
  rw [digVal_snoc]
  by_cases he : q = []
  · subst he
    show [c] = _
    have h0 : digVal [] = 0 := rfl
    rw [h0, Nat.zero_mul, Nat.zero_add, dec_lt (by omega), hcc]
  · have hl : 0 < q.length := List.length_pos_iff.2 he
    have hh : (q ++ [c]).head? = q.head? := by
     cases q with
     | nil => exact absurd rfl he
     | cons a r => rfl
    have h48 : q.head? ≠ some 48 := by
     rw [← hh]
     exact h4 (by simp; omega)
    have iq := ih q (by simpa using h1) he (fun x hx => h3 x (by simp [hx])) (fun _ => h48)
    have hpos : digVal q ≠ 0 := by
     intro h0
     rw [h0] at iq
     rw [iq] at h48
     exact h48 (by decide +kernel)
    rw [dec_ge (by omega), show (digVal q * 10 + (c.toNat - 48)) / 10 = digVal q by omega, show (digVal q * 10 + (c.toNat - 48)) % 10 = c.toNat - 48 by omega, hcc, ← iq]

theorem w64 {x : Int} (h0 : 0 ≤ x) (h1 : x ≤ 9223372036854775807) : wrap64 x = x := by unfold wrap64; omega
theorem bt_list (s : ByteArray) (i : Nat) (h : i < s.data.toList.length) : bt s (i : Int) = ((s.data.toList[i]).toNat : Int) := by
 have h' : i < s.size := by rw [Lib.size_eq]; exact h
 have := bt_at s (i : Int) (by simpa using h')
 rw [← this]
 simp
 rfl
theorem refNumber_loop (s : ByteArray) (most : Nat) (hm : most ≤ 4611686018427387904) (hs : s.data.toList.length ≤ 4611686018427387904) : ∀ d k i, s.data.toList.length - i = d → d < k → i ≤ s.data.toList.length → (∀ c ∈ s.data.toList.take i, digB c = true) → digVal (s.data.toList.take i) ≤ 9223372036854775807 →
 shipwrightref1_GetNumber.l0 k s most (digVal (s.data.toList.take i)) i = some (numR s.data.toList most) := by
 intro d
 induction d with
 | zero =>
  intro k i hd hk hi ha hv
  obtain ⟨k, rfl⟩ : ∃ m, k = m + 1 := ⟨k - 1, by omega⟩
  have hil : i = s.data.toList.length := by omega
  subst hil
  rw [List.take_length] at ha hv ⊢
  have hsz : (s.size : Int) = (s.data.toList.length : Int) := by rw [Lib.size_eq]
  simp only [shipwrightref1_GetNumber.l0]
  rw [hsz, if_neg (by omega), toList_eq]
  unfold numR num
  by_cases h0 : s.data.toList = []
  · rw [if_pos h0, if_neg (by rw [h0]; rintro ⟨h, _⟩; exact absurd h (by decide +kernel))]
  · rw [if_neg h0]
    have hlen : 0 < s.data.toList.length := List.length_pos_iff.2 h0
    by_cases h1 : (s.data.toList.length : Int) > 1
    · rw [if_pos h1, if_pos (by omega)]
      have hb := bt_list s 0 hlen
      rw [show ((0 : Nat) : Int) = 0 from rfl] at hb
      by_cases h48 : bt s 0 = 48
      · rw [if_pos h48, if_neg]
        rintro ⟨h, _⟩
        have hlong : 10 ≤ digVal s.data.toList := dec_long _ (by rw [← h]; omega)
        obtain ⟨c, r, hcr⟩ : ∃ c r, s.data.toList = c :: r := by
         cases hx : s.data.toList with
         | nil => exact absurd hx h0
         | cons c r => exact ⟨c, r, rfl⟩
        have hc : s.data.toList[0] = c := by simp [hcr]
        refine dec_head _ hlong c r (by rw [← h]; exact hcr) ?_
        rw [hb, hc] at h48
        have : c.toNat = 48 := by omega
        rw [← UInt8.toNat_inj]
        exact this
      · rw [if_neg h48]
        have hcan := dec_of_digits _ _ rfl h0 ha (fun _ => by
         rw [List.head?_eq_getElem?, List.getElem?_eq_getElem hlen]
         intro e
         have e2 := Option.some.inj e
         rw [hb, e2] at h48
         exact h48 rfl)
        by_cases hle : digVal s.data.toList ≤ most
        · rw [if_neg (by omega), if_pos ⟨hcan, hle⟩]
        · rw [if_pos (by omega), if_neg (fun h => hle h.2)]
    · rw [if_neg h1]
      have hcan := dec_of_digits _ _ rfl h0 ha (fun h => by omega)
      by_cases hle : digVal s.data.toList ≤ most
      · rw [if_neg (by omega), if_pos ⟨hcan, hle⟩]
      · rw [if_pos (by omega), if_neg (fun h => hle h.2)]
 | succ d ih =>
  intro k i hd hk hi ha hv
  obtain ⟨k, rfl⟩ : ∃ m, k = m + 1 := ⟨k - 1, by omega⟩
  have hlt : i < s.data.toList.length := by omega
  have a1 : s.data.toList.length - (i + 1) = d := by omega
  have a2 : d < k := by omega
  have a3 : i + 1 ≤ s.data.toList.length := by omega
  have hsz : (s.size : Int) = (s.data.toList.length : Int) := by rw [Lib.size_eq]
  have hb := bt_list s i hlt
  have hts := List.take_succ_eq_append_getElem hlt
  have hmem : s.data.toList[i] ∈ s.data.toList := List.getElem_mem hlt
  obtain ⟨c, hc⟩ : ∃ c, c = s.data.toList[i] := ⟨_, rfl⟩
  rw [← hc] at hb hts hmem
  simp only [shipwrightref1_GetNumber.l0]
  rw [hsz, if_pos (by omega), if_pos (by omega), hb]
  have bad : digB c = false → numR s.data.toList most = (0, false) := by
   intro hbad
   unfold numR num
   rw [if_neg]
   rintro ⟨h, _⟩
   have := dec_digB (digVal s.data.toList) c (by rw [← h]; exact hmem)
   rw [hbad] at this
   cases this
  by_cases h1 : (c.toNat : Int) < 48
  · rw [if_pos h1, bad (by unfold digB; simp; omega)]
  · rw [if_neg h1]
    by_cases h2 : (c.toNat : Int) > 57
    · rw [if_pos h2, bad (by unfold digB; simp; omega)]
    · rw [if_neg h2]
      have e : ((c.toNat : Int) - 48) % 256 = ((c.toNat - 48 : Nat) : Int) := by omega
      rw [e]
      by_cases h3 : (digVal (s.data.toList.take i) : Int) > ((9223372036854775807 - ((c.toNat - 48 : Nat) : Int)) / 10)
      · rw [if_pos h3]
        have hbig : most < digVal (s.data.toList.take (i + 1)) := by
         rw [hts, digVal_snoc]
         omega
        have mono : ∀ (y x : Bytes), digVal x ≤ digVal (x ++ y) := by
         intro y
         induction y with
         | nil => intro x; simp
         | cons a y ih2 =>
          intro x
          have h5 := ih2 (x ++ [a])
          rw [digVal_snoc] at h5
          rw [show x ++ a :: y = x ++ [a] ++ y by simp]
          omega
        have h6 := mono (s.data.toList.drop (i + 1)) (s.data.toList.take (i + 1))
        rw [List.take_append_drop] at h6
        unfold numR num
        rw [if_neg (fun h => by omega)]
      · rw [if_neg h3]
        have hV : digVal (s.data.toList.take (i + 1)) = digVal (s.data.toList.take i) * 10 + (c.toNat - 48) := by rw [hts, digVal_snoc]
        generalize digVal (s.data.toList.take i) = V at *
        generalize c.toNat - 48 = D at *
        have hVD : V * 10 + D ≤ 9223372036854775807 := by omega
        have hv2 : digVal (s.data.toList.take (i + 1)) ≤ 9223372036854775807 := by rw [hV]; exact hVD
        have hw : wrap64 (wrap64 ((V : Int) * 10) + (D : Int)) = ((digVal (s.data.toList.take (i + 1)) : Nat) : Int) := by
         rw [hV, w64 (x := (V : Int) * 10) (by omega) (by omega), w64 (by omega) (by omega)]
         omega
        have hw2 : wrap64 ((i : Int) + 1) = ((i + 1 : Nat) : Int) := by rw [w64 (by omega) (by omega)]; omega
        rw [hw, hw2]
        clear hw hw2 hV hVD h3
        refine ih k (i + 1) a1 a2 a3 ?_ hv2
        rw [hts]
        intro x hx
        rcases List.mem_append.1 hx with hx | hx
        · exact ha x hx
        · rw [List.mem_singleton] at hx
          subst hx
          unfold digB
          simp
          omega
theorem refGetNumber (s : ByteArray) (most : Nat) (hm : most ≤ 4611686018427387904) (hs : s.data.toList.length ≤ 4611686018427387904) (k : Nat) (hk : s.data.toList.length < k) : shipwrightref1_GetNumber.f k s most = some (numR s.data.toList most) := by
 have := refNumber_loop s most hm hs s.data.toList.length k 0 (by simp) hk (by simp) (by simp) (by simp [digVal])
 show shipwrightref1_GetNumber.l0 k s most 0 0 = _
 simpa [digVal] using this

end Go.Proofs.YthagibkmfgodgaaGreatDoor.X

namespace Go.Proofs.YthagibkmfgodgaaGreatDoor.X
open Go.RowKit Go.Maps Go.Proofs.YthagibkmfgodgaaGreatDoorW.PrintWords Go.Proofs.YthagibkmfgodgaaGreatDoorW.PrintMore

--BEGIN
def hexD (n : Nat) : UInt8 := UInt8.ofNat (if n < 10 then 48 + n else 87 + n)
def quoteC (c : UInt8) : Bytes :=
 if c = 34 ∨ c = 92 then [92, c] else if c = 10 then [92, 110] else if c = 9 then [92, 116]
 else if c.toNat < 32 ∨ 126 < c.toNat then [92, 120, hexD (c.toNat / 16), hexD (c.toNat % 16)] else [c]
def quoteL : Bytes → Bytes
 | [] => []
 | c :: r => quoteC c ++ quoteL r
def quoteF (s : Bytes) : Bytes := 34 :: (quoteL s ++ [34])
--END

end Go.Proofs.YthagibkmfgodgaaGreatDoor.X

namespace Go.Proofs.YthagibkmfgodgaaGreatDoor.X
open Go.RowKit Go.Maps Go.Proofs.YthagibkmfgodgaaGreatDoorW.PrintWords Go.Proofs.YthagibkmfgodgaaGreatDoorW.PrintMore

--BEGIN
def lexM (b : Bool) (s : Bytes) (p : Nat) : Except Nat (List SWord) := lexL (s.length + 1) (p + skipN b s) (s.drop (skipN b s))
theorem allF_lexM (s : Bytes) : allF s = (lexM false s 0).map (· ++ [⟨4, (s.length : Nat), ⟨#[]⟩⟩]) := by
 unfold allF lexM
 rw [Nat.zero_add]
theorem lexM_nil (b : Bool) (p : Nat) : lexM b [] p = .ok [] := by cases b <;> rfl
theorem lexM_step (b b' : Bool) (c : UInt8) (r : Bytes) (p : Nat) (h : skipN b (c :: r) = 1 + skipN b' r) : lexM b (c :: r) p = lexM b' r (p + 1) := by
 unfold lexM
 rw [h, Nat.add_comm 1, List.drop_succ_cons, show p + (skipN b' r + 1) = p + 1 + skipN b' r by omega]
 exact lexL_fuel _ _ _ _ (by rw [List.length_drop, List.length_cons]; omega) (by rw [List.length_drop]; omega)
theorem lexM_blank {c : UInt8} (h : blankB c = true) (r : Bytes) (p : Nat) : lexM false (c :: r) p = lexM false r (p + 1) := lexM_step _ _ _ _ _ (by rw [skipN, if_pos h])
theorem lexM_hash (r : Bytes) (p : Nat) : lexM false (35 :: r) p = lexM true r (p + 1) := lexM_step _ _ _ _ _ (by rw [skipN, if_neg (by decide), if_pos rfl])
theorem lexM_nl (r : Bytes) (p : Nat) : lexM true (10 :: r) p = lexM false r (p + 1) := lexM_step _ _ _ _ _ (by rw [skipN, if_pos rfl])
theorem lexM_com {c : UInt8} (h : c ≠ 10) (r : Bytes) (p : Nat) : lexM true (c :: r) p = lexM true r (p + 1) := lexM_step _ _ _ _ _ (by rw [skipN, if_neg h])
theorem head_tells : ∀ c : Nat, c < 256 → blankB (UInt8.ofNat c) = true ∨ UInt8.ofNat c = 35 → letU (UInt8.ofNat c) = false ∧ UInt8.ofNat c ≠ 34 ∧ punctB (UInt8.ofNat c) = false := by decide +kernel
theorem word_head {c : UInt8} {r : Bytes} {q : Nat × Bytes × Nat} (h : wordF (c :: r) = some q) : blankB c = false ∧ c ≠ 35 := by
 have key : ¬ (blankB c = true ∨ c = 35) := by
  intro hc
  have := head_tells c.toNat (UInt8.toNat_lt c)
  rw [show UInt8.ofNat c.toNat = c by simp] at this
  obtain ⟨h1, h2, h3⟩ := this hc
  unfold wordF at h
  rw [if_neg (by rw [runL_cons, h1]; simp)] at h
  simp [h2, h3] at h
 exact ⟨by cases hb : blankB c with
  | false => rfl
  | true => exact absurd (.inl hb) key, fun e => key (.inr e)⟩
theorem wordF_nil : wordF [] = none := by simp [wordF, runL]
theorem skip_word {s : Bytes} {q : Nat × Bytes × Nat} (h : wordF s = some q) : skipN false s = 0 := by
 match s, h with
 | [], h => rw [wordF_nil] at h; cases h
 | c :: r, h =>
  obtain ⟨h1, h2⟩ := word_head h
  rw [skipN, if_neg (by rw [h1]; simp), if_neg h2]
theorem lexM_word {s : Bytes} {q : Nat × Bytes × Nat} (h : wordF s = some q) (p : Nat) : lexM false s p = (lexM false (s.drop q.2.2) (p + q.2.2)).map (⟨(q.1 : Nat), (p : Nat), mk q.2.1⟩ :: ·) := by
 have hp := word_pos h
 have hsk := skip_word h
 unfold lexM
 rw [hsk, List.drop_zero, lexL, if_neg (fun e => by rw [e] at hp; simp at hp; omega), h]
 simp only [Nat.add_zero]
 rw [lexL_fuel s.length ((s.drop q.2.2).length + 1) _ _ (by have := skipN_le false (s.drop q.2.2); rw [List.length_drop, List.length_drop] at *; omega) (by have := skipN_le false (s.drop q.2.2); rw [List.length_drop, List.length_drop] at *; omega)]
theorem lexM_none {c : UInt8} {r : Bytes} (h : wordF (c :: r) = none) (h1 : blankB c = false) (h2 : c ≠ 35) (p : Nat) : lexM false (c :: r) p = .error p := by
 have hsk : skipN false (c :: r) = 0 := by rw [skipN, if_neg (by rw [h1]; simp), if_neg h2]
 unfold lexM
 rw [hsk, List.drop_zero, lexL, if_neg (by simp), h]
 simp only [Nat.add_zero]
theorem lex_cases {P : Bool → Bytes → Nat → Prop} (nil : ∀ b p, P b [] p)
 (blank : ∀ c r p, blankB c = true → P false r (p + 1) → P false (c :: r) p) (hash : ∀ r p, P true r (p + 1) → P false (35 :: r) p) (nl : ∀ r p, P false r (p + 1) → P true (10 :: r) p) (com : ∀ c r p, c ≠ 10 → P true r (p + 1) → P true (c :: r) p)
 (word : ∀ s p q, wordF s = some q → P false (s.drop q.2.2) (p + q.2.2) → P false s p) (bad : ∀ c r p, wordF (c :: r) = none → blankB c = false → c ≠ 35 → P false (c :: r) p) : ∀ b s p, P b s p := by
 have key : ∀ n b s p, s.length < n → P b s p := by
  intro n
  induction n with
  | zero => exact fun b s p h => absurd h (Nat.not_lt_zero _)
  | succ n ih =>
   intro b s p h
   match b, s, h with
   | b, [], _ => exact nil b p
   | true, c :: r, h =>
    by_cases hc : c = 10
    · subst hc; exact nl r p (ih _ _ _ (by simp at h; omega))
    · exact com c r p hc (ih _ _ _ (by simp at h; omega))
   | false, c :: r, h =>
    by_cases hb : blankB c = true
    · exact blank c r p hb (ih _ _ _ (by simp at h; omega))
    · by_cases h35 : c = 35
      · subst h35; exact hash r p (ih _ _ _ (by simp at h; omega))
      · cases hw : wordF (c :: r) with
        | none => exact bad c r p hw (by simpa using hb) h35
        | some q =>
         have hp := word_pos hw
         exact word _ p q hw (ih _ _ _ (by rw [List.length_drop]; omega))
 exact fun b s p => key (s.length + 1) b s p (by omega)
theorem runL_next (l : Bytes) : ∀ c ∈ (l.drop (runL l)).head?, letU c = false := by
 induction l with
 | nil => simp [runL]
 | cons c r ih =>
  rw [runL_cons]
  by_cases hc : letU c = true
  · rw [if_pos hc, Nat.add_comm, List.drop_succ_cons]; exact ih
  · rw [if_neg hc]; simpa using hc
theorem word_next {s : Bytes} {q : Nat × Bytes × Nat} (h : wordF s = some q) (h1 : q.1 = 1) : ∀ c ∈ (s.drop q.2.2).head?, letU c = false := by
 unfold wordF at h
 by_cases h0 : 0 < runL s
 · rw [if_pos h0] at h
   cases h
   exact runL_next s
 · rw [if_neg h0] at h
   match s, h with
   | c :: r, h =>
    dsimp only at h
    split at h
    · obtain ⟨p, hp, rfl⟩ := Option.map_eq_some_iff.1 h
      simp at h1
    · split at h
      · cases h; simp at h1
      · cases h
   | [], h => cases h
--END

end Go.Proofs.YthagibkmfgodgaaGreatDoor.X

namespace Go.Proofs.YthagibkmfgodgaaGreatDoor.X
open Go.RowKit Go.Maps Go.Proofs.YthagibkmfgodgaaGreatDoorW.PrintWords Go.Proofs.YthagibkmfgodgaaGreatDoorW.PrintMore

--BEGIN
theorem map_ok {α β : Type} {f : α → β} {r : Except Nat α} {b : β} (h : r.map f = .ok b) : ∃ a, r = .ok a ∧ f a = b := by
 cases r with
 | error e => cases h
 | ok a => exact ⟨a, rfl, by injection h⟩
theorem lexM_err : ∀ b s p, ∀ e, lexM b s p = .error e → p ≤ e ∧ e < p + s.length := by
 apply lex_cases
 · intro b p e h; rw [lexM_nil] at h; cases h
 · intro c r p hc ih e h; rw [lexM_blank hc] at h; have := ih e h; simp; omega
 · intro r p ih e h; rw [lexM_hash] at h; have := ih e h; simp; omega
 · intro r p ih e h; rw [lexM_nl] at h; have := ih e h; simp; omega
 · intro c r p hc ih e h; rw [lexM_com hc] at h; have := ih e h; simp; omega
 · intro s p q hq ih e h
   have hp := word_pos hq
   rw [lexM_word hq] at h
   cases hr : lexM false (s.drop q.2.2) (p + q.2.2) with
   | ok a => rw [hr] at h; cases h
   | error e' =>
    rw [hr] at h
    cases h
    have := ih _ hr
    rw [List.length_drop] at this
    omega
 · intro c r p hq h1 h2 e h; rw [lexM_none hq h1 h2] at h; cases h; simp

def Ends (b : Bool) (s : Bytes) : Prop := (s = [] ∧ b = false) ∨ ∃ a, s = a ++ [10]
theorem Ends.cons {b b' : Bool} {c : UInt8} {r : Bytes} (h : Ends b (c :: r)) (hb : c = 10 → b' = false) : Ends b' r := by
 rcases h with ⟨h, _⟩ | ⟨a, h⟩
 · cases h
 · match a, h with
   | [], h =>
    simp at h
    exact .inl ⟨h.2, hb h.1⟩
   | d :: a, h =>
    simp at h
    exact .inr ⟨a, h.2⟩
def Chain (t : Bytes) : Nat → List SWord → Prop
 | _, [] => True
 | lo, x :: r => ∃ a n : Nat, x.f1 = a ∧ lo ≤ a ∧ 0 < n ∧ a + n ≤ t.length ∧ (x.f0 = 2 ∨ (x.f0 = 1 ∨ x.f0 = 3) ∧ x.f2 = mk ((t.drop a).take n)) ∧ Chain t (a + n) r
theorem Chain.low {t : Bytes} {lo lo' : Nat} {l : List SWord} (h : Chain t lo l) (hl : lo' ≤ lo) : Chain t lo' l := by
 match l, h with
 | [], _ => exact trivial
 | x :: r, ⟨a, n, h1, h2, h3⟩ => exact ⟨a, n, h1, by omega, h3⟩
theorem word_said {s : Bytes} {q : Nat × Bytes × Nat} (h : wordF s = some q) : q.1 = 2 ∨ (q.1 = 1 ∨ q.1 = 3) ∧ q.2.1 = s.take q.2.2 := by
 unfold wordF at h
 by_cases h0 : 0 < runL s
 · rw [if_pos h0] at h
   cases h
   exact .inr ⟨.inl rfl, rfl⟩
 · rw [if_neg h0] at h
   match s, h with
   | d :: r, h =>
    dsimp only at h
    split at h
    · obtain ⟨x, _, rfl⟩ := Option.map_eq_some_iff.1 h
      exact .inl rfl
    · split at h
      · cases h; exact .inr ⟨.inr rfl, rfl⟩
      · cases h
   | [], h => cases h
theorem lexM_chain (t : Bytes) : ∀ b s p, p ≤ t.length → t.drop p = s → ∀ ws, lexM b s p = .ok ws → Chain t p ws := by
 have tl : ∀ {c : UInt8} {r : Bytes} {p : Nat}, p ≤ t.length → t.drop p = c :: r → p + 1 ≤ t.length ∧ t.drop (p + 1) = r := by
  intro c r p hp h
  have := congrArg List.length h
  rw [List.length_drop, List.length_cons] at this
  refine ⟨by omega, ?_⟩
  rw [← List.drop_drop, h, List.drop_succ_cons, List.drop_zero]
 apply lex_cases
 · intro b p _ _ ws h; rw [lexM_nil] at h; cases h; trivial
 · intro c r p hc ih hp hd ws h; rw [lexM_blank hc] at h; exact (ih (tl hp hd).1 (tl hp hd).2 ws h).low (by omega)
 · intro r p ih hp hd ws h; rw [lexM_hash] at h; exact (ih (tl hp hd).1 (tl hp hd).2 ws h).low (by omega)
 · intro r p ih hp hd ws h; rw [lexM_nl] at h; exact (ih (tl hp hd).1 (tl hp hd).2 ws h).low (by omega)
 · intro c r p hc ih hp hd ws h; rw [lexM_com hc] at h; exact (ih (tl hp hd).1 (tl hp hd).2 ws h).low (by omega)
 · intro s p q hq ih hp hd ws h
   have hpos := word_pos hq
   rw [lexM_word hq] at h
   obtain ⟨a, ha, rfl⟩ := map_ok h
   have hlen : s.length = t.length - p := by rw [← hd, List.length_drop]
   refine ⟨p, q.2.2, rfl, Nat.le_refl _, hpos.1, by omega, ?_, ih (by omega) (by rw [← hd, List.drop_drop]) a ha⟩
   rcases word_said hq with h2 | ⟨h13, hs⟩
   · exact .inl (by show ((q.1 : Nat) : Int) = 2; omega)
   · refine .inr ⟨?_, ?_⟩
     · show ((q.1 : Nat) : Int) = 1 ∨ ((q.1 : Nat) : Int) = 3
       omega
     · show mk q.2.1 = _
       rw [hs, hd]
 · intro c r p hq h1 h2 _ _ ws h; rw [lexM_none hq h1 h2] at h; cases h
--END

end Go.Proofs.YthagibkmfgodgaaGreatDoor.X

namespace Go.Proofs.YthagibkmfgodgaaGreatDoor.X
open Go.RowKit Go.Maps Go.Proofs.YthagibkmfgodgaaGreatDoorW.PrintWords Go.Proofs.YthagibkmfgodgaaGreatDoorW.PrintMore

--BEGIN
theorem failsP_stop {s : PS} (hg : GoodW s.1) (hs : s.2 < 0) : ¬ (failsP s).2 < 0 := by
 unfold failsP
 rw [if_pos hs]
 obtain ⟨l, d⟩ := s
 match l, hg.ne, hg with
 | x :: r, _, hg => have := (hg.2 x (by simp)).1; show ¬ x.f1 < 0; omega
theorem nextP_no {k : Int} {p : ByteArray → Bool} {s : PS} (h : ¬ mayP k p s = true) : nextP k p s = (⟨#[]⟩, failsP s) := by
 unfold nextP
 rw [if_neg h]
theorem nextP_yes {k : Int} {p : ByteArray → Bool} {s : PS} (h : mayP k p s = true) : nextP k p s = ((headW s.1).f2, (s.1.tail, s.2)) := by
 unfold nextP
 rw [if_pos h]
theorem mayP_iff {k : Int} {p : ByteArray → Bool} {s : PS} : mayP k p s = true ↔ s.2 < 0 ∧ (headW s.1).f0 = k ∧ p (headW s.1).f2 = true := by
 unfold mayP
 simp
theorem step_agree (s : PS) (hg : GoodW s.1) : (stepR s).2 = (stepP s).2 ∧ ((stepP s).2.2 < 0 → stepR s = stepP s) := by
 have hg1 : GoodW (mustP 3 equals (nameP s).2).1 := inv_good.must (inv_good.name hg) (by decide) _
 unfold stepR stepP
 dsimp only
 generalize (nameP s).1 = a
 generalize mustP 3 equals (nameP s).2 = s1 at hg1 ⊢
 by_cases h1 : s1.2 < 0
 · rw [if_pos h1]
   by_cases h2 : (headW s1.1).f0 = 1 ∧ opB (headW s1.1).f2 = true
   · rw [if_pos h2, nextP_yes (mayP_iff.2 ⟨h1, h2⟩)]
     have hg2 : GoodW s1.1.tail := hg1.tail (by rw [h2.1]; decide)
     by_cases h3 : opF (headW s1.1).f2 = 9 ∧ ¬ ((headW s1.1.tail).f0 = 1 ∧ numB (headW s1.1.tail).f2 = true)
     · rw [if_pos h3]
       have hst := failsP_stop (s := (s1.1.tail, s1.2)) hg2 h1
       have hl : (litsP (opF (headW s1.1).f2) (s1.1.tail, s1.2)).2 = failsP (s1.1.tail, s1.2) := by
        rw [h3.1]
        unfold litsP
        rw [if_neg (by decide), if_neg (by decide), if_pos rfl, nextP_no (fun h => h3.2 (mayP_iff.1 h).2)]
       have hend : (tailP a (headW s1.1).f2 (s1.1.tail, s1.2)).2 = failsP (s1.1.tail, s1.2) :=
        (inv_stuck _ hst).must ((inv_stuck _ hst).arg _ hl) (by decide) _
       exact ⟨hend.symm, fun h => absurd (hend ▸ h) hst⟩
     · rw [if_neg h3]
       exact ⟨rfl, fun _ => rfl⟩
   · rw [if_neg h2, nextP_no (fun h => h2 (mayP_iff.1 h).2)]
     have hst := failsP_stop hg1 h1
     have hend : (tailP a ⟨#[]⟩ (failsP s1)).2 = failsP s1 := (inv_stuck _ hst).tail _ _ rfl
     exact ⟨hend.symm, fun h => absurd (hend ▸ h) hst⟩
 · rw [if_neg h1]
   have hend : (tailP a (nextP 1 opB s1).1 (nextP 1 opB s1).2).2 = s1 := (inv_stuck _ h1).tail _ _ ((inv_stuck _ h1).next rfl (by decide) _)
   exact ⟨hend.symm, fun h => absurd (hend ▸ h) h1⟩
theorem went {s : PS} {s' : PS} (hI : ∀ I, InvP I → I s → I s') (h : s'.2 < 0) : s.2 < 0 := by
 by_cases h0 : s.2 < 0
 · exact h0
 · have := hI _ (inv_stuck s h0) rfl
   rw [this] at h
   exact absurd h h0
theorem steps_agree : ∀ (n : Nat) (s : PS), GoodW s.1 → (stepsR n s).2 = (stepsP n s).2 ∧ ((stepsP n s).2.2 < 0 → stepsR n s = stepsP n s)
 | 0, _, _ => ⟨rfl, fun _ => rfl⟩
 | n + 1, s, hg => by
  obtain ⟨h1, h2⟩ := step_agree s hg
  obtain ⟨h3, h4⟩ := steps_agree n (stepP s).2 (inv_good.step hg)
  unfold stepsR stepsP
  by_cases hc : s.2 < 0 ∧ atP 3 brace s = false
  · rw [if_pos hc, if_pos hc, h1]
    refine ⟨h3, fun h => ?_⟩
    have h5 : (stepP s).2.2 < 0 := went (fun I hI hi => hI.steps n hi) h
    rw [h4 h, h2 h5]
  · rw [if_neg hc, if_neg hc]
    exact ⟨rfl, fun _ => rfl⟩
theorem rule_agree (s : PS) (hg : GoodW s.1) : (ruleR s).2 = (ruleP s).2 ∧ ((ruleP s).2.2 < 0 → ruleR s = ruleP s) := by
 unfold ruleR ruleP
 dsimp only
 have ha := inv_good.name (inv_good.must (k := 1) hg (by decide) ⟨#[114, 117, 108, 101]⟩)
 generalize nameP (mustP 1 ⟨#[114, 117, 108, 101]⟩ s) = a at ha ⊢
 have hi := inv_good.if_ ⟨#[105, 110]⟩ (inv_good.must (k := 3) ha (by decide) ⟨#[123]⟩)
 generalize ifP ⟨#[105, 110]⟩ (mustP 3 ⟨#[123]⟩ a.2) = i at hi ⊢
 have hm := inv_good.must (k := 1) hi (by decide) ⟨#[111, 117, 116]⟩
 generalize mustP 1 ⟨#[111, 117, 116]⟩ i.2 = m at hm ⊢
 by_cases hok : m.2 < 0
 · have ho : okP m = listP m := by unfold okP; rw [if_pos hok]
   rw [ho]
   have hl := inv_good.list hm
   generalize listP m = o at hl ⊢
   have hf := inv_good.if_ ⟨#[97, 102, 116, 101, 114]⟩ hl
   generalize ifP ⟨#[97, 102, 116, 101, 114]⟩ o.2 = f at hf ⊢
   obtain ⟨h1, h2⟩ := steps_agree (f.2.1.length + 1) f.2 hf
   rw [h1]
   refine ⟨rfl, fun h => ?_⟩
   rw [h2 (went (fun I hI hi => hI.must hi (by decide) _) h)]
 · have ho : okP m = ([], m) := by unfold okP; rw [if_neg hok]
   have hst := inv_stuck m hok
   have hl : (listP m).2 = m := hst.list rfl
   have hend : ∀ X : List ByteArray × PS, X.2 = m → (mustP 3 brace (stepsP ((ifP ⟨#[97, 102, 116, 101, 114]⟩ X.2).2.1.length + 1) (ifP ⟨#[97, 102, 116, 101, 114]⟩ X.2).2).2) = m :=
    fun X hX => hst.must (hst.steps _ (hst.if_ _ hX)) (by decide) _
   have hfm : (ifP ⟨#[97, 102, 116, 101, 114]⟩ m).2 = m := hst.if_ _ rfl
   have hsr : (stepsR (m.1.length + 1) m).2 = m := by
    rw [(steps_agree _ m hm).1]
    exact hst.steps _ rfl
   rw [ho, hl]
   dsimp only
   rw [hfm, hsr, hst.steps _ rfl]
   refine ⟨rfl, fun h => ?_⟩
   rw [hst.must rfl (by decide)] at h
   exact absurd h hok
theorem rules_agree : ∀ (n : Nat) (s : PS), GoodW s.1 → (rulesR n s).2 = (rulesP n s).2 ∧ ((rulesP n s).2.2 < 0 → rulesR n s = rulesP n s)
 | 0, _, _ => ⟨rfl, fun _ => rfl⟩
 | n + 1, s, hg => by
  obtain ⟨h1, h2⟩ := rule_agree s hg
  obtain ⟨h3, h4⟩ := rules_agree n (ruleP s).2 (inv_good.rule hg)
  unfold rulesR rulesP
  by_cases hc : s.2 < 0 ∧ (headW s.1).f0 ≠ 4
  · rw [if_pos hc, if_pos hc, h1]
    refine ⟨h3, fun h => ?_⟩
    have h5 : (ruleP s).2.2 < 0 := went (fun I hI hi => hI.rules n hi) h
    rw [h4 h, h2 h5]
  · rw [if_neg hc, if_neg hc]
    exact ⟨rfl, fun _ => rfl⟩
theorem file_agree (l : List SWord) (hg : GoodW l) : fileR l = fileP l := by
 obtain ⟨h1, h2⟩ := rules_agree (l.length + 1) (l, -1) hg
 unfold fileR fileP
 rw [h1]
 split
 · next h => rw [h2 h]
 · rfl

--END

end Go.Proofs.YthagibkmfgodgaaGreatDoor.X

namespace Go.Proofs.YthagibkmfgodgaaGreatDoor.X
open Go.RowKit Go.Maps Go.Proofs.YthagibkmfgodgaaGreatDoorW.PrintWords Go.Proofs.YthagibkmfgodgaaGreatDoorW.PrintMore

--BEGIN
section
variable {e : SWord} {t : List SWord}
end

theorem textF_size : ∀ (k : Nat) (l : Bytes) (p : Bytes × Nat), textF k l = some p → p.1.length ≤ p.2
 | 0, _, _, h => by cases h
 | k + 1, [], _, h => by cases h
 | k + 1, c :: r, p, h => by
  unfold textF at h
  split at h
  · cases h; simp
  · split at h
    · split at h
      · cases h
      · obtain ⟨q, hq, rfl⟩ := Option.map_eq_some_iff.1 h
        have := textF_size k _ q hq
        simp only [List.length_cons]
        omega
    · split at h
      · cases h
      · obtain ⟨q, hq, rfl⟩ := Option.map_eq_some_iff.1 h
        have := textF_size k _ q hq
        simp only [List.length_cons]
        omega
theorem word_size {s : Bytes} {q : Nat × Bytes × Nat} (h : wordF s = some q) : q.2.1.length ≤ q.2.2 := by
 unfold wordF at h
 by_cases h0 : 0 < runL s
 · rw [if_pos h0] at h
   cases h
   show (s.take (runL s)).length ≤ runL s
   rw [List.length_take]
   omega
 · rw [if_neg h0] at h
   match s, h with
   | d :: r, h =>
    dsimp only at h
    split at h
    · obtain ⟨x, hx, rfl⟩ := Option.map_eq_some_iff.1 h
      have := textF_size _ _ x hx
      dsimp only
      omega
    · split at h
      · cases h; simp
      · cases h
   | [], h => cases h
theorem lexM_sizes : ∀ b s p, ∀ ws, lexM b s p = .ok ws → ∀ x ∈ ws, x.f2.size ≤ s.length := by
 apply lex_cases
 · intro b p ws h x hx; rw [lexM_nil] at h; cases h; cases hx
 · intro c r p hc ih ws h x hx; rw [lexM_blank hc] at h; have := ih ws h x hx; simp; omega
 · intro r p ih ws h x hx; rw [lexM_hash] at h; have := ih ws h x hx; simp; omega
 · intro r p ih ws h x hx; rw [lexM_nl] at h; have := ih ws h x hx; simp; omega
 · intro c r p hc ih ws h x hx; rw [lexM_com hc] at h; have := ih ws h x hx; simp; omega
 · intro s p q hq ih ws h x hx
   have hp := word_pos hq
   rw [lexM_word hq] at h
   obtain ⟨a, ha, rfl⟩ := map_ok h
   rcases List.mem_cons.1 hx with rfl | hx
   · have := word_size hq
     show (mk q.2.1).size ≤ _
     rw [Lib.size_eq, mk_data]
     omega
   · have := ih a ha x hx; rw [List.length_drop] at this; omega
 · intro c r p hq h1 h2 ws h; rw [lexM_none hq h1 h2] at h; cases h
theorem lexM_good {s : Bytes} {ws : List SWord} (hs : s.length ≤ 100000) (h : lexM false s 0 = .ok ws) : (∀ x ∈ ws, x.f0 ≠ 4) ∧ GoodW (ws ++ [⟨4, (s.length : Nat), ⟨#[]⟩⟩]) := by
 have hch := lexM_chain s false s 0 (Nat.zero_le _) List.drop_zero ws h
 have key : ∀ (ws : List SWord) lo, Chain s lo ws → ∀ x ∈ ws, x.f0 ≠ 4 ∧ 0 ≤ x.f1 ∧ x.f1 ≤ 100000 := by
  intro ws
  induction ws with
  | nil => exact fun _ _ x hx => by cases hx
  | cons y r ih =>
   rintro lo ⟨a, n, h1, h2, h3, h4, h5, h6⟩ x hx
   rcases List.mem_cons.1 hx with rfl | hx
   · refine ⟨?_, by omega, by omega⟩
     rcases h5 with h5 | ⟨h5 | h5, _⟩ <;> rw [h5] <;> decide
   · exact ih _ h6 x hx
 refine ⟨fun x hx => (key ws 0 hch x hx).1, ⟨⟨4, (s.length : Nat), ⟨#[]⟩⟩, by simp, rfl⟩, fun x hx => ?_⟩
 rcases List.mem_append.1 hx with hx | hx
 · exact ⟨(key ws 0 hch x hx).2.1, (key ws 0 hch x hx).2.2, Nat.le_trans (lexM_sizes false s 0 ws h x hx) hs⟩
 · rw [List.mem_singleton.1 hx]
   exact ⟨by simp, by simp; omega, show (0 : Nat) ≤ 100000 by omega⟩
theorem allF_good {s : Bytes} {l : List SWord} (hs : s.length ≤ 100000) (h : allF s = .ok l) : GoodW l := by
 rw [allF_lexM] at h
 obtain ⟨ws, h1, rfl⟩ := map_ok h
 exact (lexM_good hs h1).2
def fileE (s : Bytes) (r : Except Nat (List SWord)) : List SRule × Int × Int := match r.map (· ++ [(⟨4, (s.length : Nat), ⟨#[]⟩⟩ : SWord)]) with
 | .error p => ([], 1, (p : Nat))
 | .ok l => fileP l
theorem fileT_of {s : Bytes} (h : s.length ≤ 20000) : fileT s = fileE s (lexM false s 0) := by
 unfold fileT fileE
 rw [if_neg (by omega), allF_lexM]
 rfl
theorem fileP_of (l : List SWord) : fileP l = if (rulesP (l.length + 1) (l, -1)).2.2 < 0 then ((rulesP (l.length + 1) (l, -1)).1, 0, 0) else ([], 1, (rulesP (l.length + 1) (l, -1)).2.2) := rfl
--END

end Go.Proofs.YthagibkmfgodgaaGreatDoor.X

namespace Go.Proofs.YthagibkmfgodgaaGreatDoor.X
open Go.RowKit Go.Maps Go.Proofs.YthagibkmfgodgaaGreatDoorW.PrintWords Go.Proofs.YthagibkmfgodgaaGreatDoorW.PrintMore Go.Proofs.YthagibkmfgodgaaGreatDoorW.PrintLast

set_option maxHeartbeats 1000000 in
theorem names_calls (w : World) : Calls Tryz.prog 129 #[] w fun e w' => e = .returned (.slice (some ⟨w.heap.size, 0, none⟩) 10 10) ∧ w' = w.alloc (.cells opsC 9) := by
 go_enter Tryz.func129, Tryz.ntmps129
 go_wp2
 go_ret
 exact ⟨rfl, rfl⟩
theorem opF_lt (t : ByteArray) : 0 ≤ opF t := by unfold opF; omega
theorem opF_hit {t : ByteArray} {k : Nat} (h1 : 1 ≤ k) (hk : k < 10) (h : opsL.getD k ByteArray.empty = t) (h0 : ∀ j, 1 ≤ j → j < k → opsL.getD j ByteArray.empty ≠ t) : opF t = k := by
 unfold opF
 rw [idxF_hit (k := k) (show k < opsL.length from hk) h ?_]
 · omega
 · intro j hj
   rcases Nat.eq_zero_or_pos j with rfl | hj0
   · intro e
     have : ∀ k : Nat, k < 10 → 1 ≤ k → (opsL.getD k ByteArray.empty).size ≠ 0 := by decide
     exact this k hk h1 (by rw [h, ← e]; rfl)
   · exact h0 j hj0 hj
theorem opF_miss {t : ByteArray} (h0 : ∀ j, 1 ≤ j → j < 10 → opsL.getD j ByteArray.empty ≠ t) : opF t = 0 := by
 unfold opF
 by_cases e : opsL.getD 0 ByteArray.empty = t
 · rw [idxF_hit (k := 0) (by decide) e (fun j hj => absurd hj (Nat.not_lt_zero _))]
   rfl
 · rw [idxF_miss (fun j hj => by
    rcases Nat.eq_zero_or_pos j with rfl | hj0
    · exact e
    · exact h0 j hj0 hj)]
   rfl
set_option maxHeartbeats 2000000 in
theorem rop_calls (t : ByteArray) (w : World) : Calls Tryz.prog 148 #[.string t] w fun e w' => e = .returned (.int .i64 (opF t)) ∧ Below w.heap.size w w' := by
 have HC : Hid (∀ kk : Nat, kk < 10 → (w.alloc (.cells opsC 9)).cell? ⟨w.heap.size, kk, none⟩ = some (.string (opsL.getD kk ByteArray.empty))) := by
  intro kk hkk
  rw [blk_cell (blk_new w _) kk]
  have : ∀ n : Nat, n < 10 → opsC[n]? = some (.string (opsL.getD n ByteArray.empty)) := by
   intro n h
   match n, h with
   | 0, _ => rfl
   | 1, _ => rfl
   | 2, _ => rfl
   | 3, _ => rfl
   | 4, _ => rfl
   | 5, _ => rfl
   | 6, _ => rfl
   | 7, _ => rfl
   | 8, _ => rfl
   | 9, _ => rfl
  exact this kk hkk
 go_enter Tryz.func148, Tryz.ntmps148
 go_wp2_with (go_at_call 129; refine (names_calls _).mono ?_; rintro e w' ⟨rfl, rfl⟩)
 generalize hW : w.alloc (.cells opsC 9) = W at HC ⊢
 have HB : Hid (Below w.heap.size w W) := by show Below _ _ _; rw [← hW]; exact (Below.refl _ _).alloc (Nat.le_refl _) _
 clear hW
 go_loopg [4] 10 (fun gg s4 wr => ∃ kk : Nat, 1 ≤ kk ∧ kk ≤ 10 ∧ 10 - kk ≤ gg ∧ s4 = .int .i64 kk ∧ wr = W ∧ Aside0 (∀ j, 1 ≤ j → j < kk → opsL.getD j ByteArray.empty ≠ t))
 case atStart => exact ⟨1, Nat.le_refl _, by omega, by omega, rfl, rfl, ⟨fun j h1 h2 => by omega⟩⟩
 case round =>
  obtain ⟨kk, hk1, hkk, hgk, rfl, rfl, HA⟩ := hrel
  by_cases hlt : kk < 10
  · have hltz : (kk : Int) < 10 := by omega
    have hx := HC.out kk hlt
    obtain ⟨y, hy⟩ : ∃ y, y = opsL.getD kk ByteArray.empty := ⟨_, rfl⟩
    rw [← hy] at hx
    have HY := Lib.hid hy
    clear hy
    by_cases hyt : y = t
    · have he : (y.toList == t.toList) = true := by rw [str_eq]; simpa using hyt
      have HE : Hid (opF t = kk) := opF_hit hk1 hlt (by rw [← HY.out, hyt]) HA.out
      clear hyt
      go_wp2
      go_ret
      exact ⟨by rw [HE.out]; rfl, HB.out⟩
    · have he : (y.toList == t.toList) = false := by rw [str_eq]; simpa using hyt
      have HE : Hid (∀ j, 1 ≤ j → j < kk + 1 → opsL.getD j ByteArray.empty ≠ t) := by
       intro j h1 hj
       by_cases e : j = kk
       · subst e; rw [← HY.out]; exact hyt
       · exact HA.out j h1 (by omega)
      clear hyt
      go_wp2
      go_roundg (10 - (kk + 1))
      case measure => omega
      case rel => exact ⟨kk + 1, by omega, by omega, by omega, by go_num, rfl, ⟨HE.out⟩⟩
  · have hltz : ¬ (kk : Int) < 10 := by omega
    have HE : Hid (opF t = 0) := opF_miss (fun j h1 hj => HA.out j h1 (by omega))
    go_wp2
    go_ret
    exact ⟨by rw [HE.out]; rfl, HB.out⟩

structure PAQ (w : World) (g : Nat) (s : PS) : Prop where
 has : HasQ w g s
 gok : GOKg w g
 good : GoodW s.1
 len : s.1.length ≤ 100000
theorem PAQ.gk {w : World} {g : Nat} {s : PS} (h : PAQ w g s) : GOK w := by
 obtain ⟨w0, h0, _, hb⟩ := h.gok
 exact h0.below hb
theorem PAQ.to {w w1 : World} {g : Nat} {s s1 : PS} (h : PAQ w g s) (hI : ∀ I, InvP I → I s → I s1) (hp : HasQ w1 g s1) (hg : w.grownBy w1 (some g)) : PAQ w1 g s1 :=
 ⟨hp, h.gok.grown hg, hI _ inv_good h.good, hI _ (inv_len 100000) h.len⟩
theorem PAQ.keep {w w1 : World} {g : Nat} {s : PS} (h : PAQ w g s) (hp : HasQ w1 g s) (hg : w.grownBy w1 (some g)) : PAQ w1 g s := ⟨hp, h.gok.grown hg, h.good, h.len⟩
theorem PAQ.below {w w1 : World} {g : Nat} {s : PS} (h : PAQ w g s) (hb : Below w.heap.size w w1) : PAQ w1 g s := h.keep (h.has.below hb) (grown_of_below hb _)
theorem HasQ.row {w w1 : World} {g : Nat} {s : PS} (h : HasQ w g s) {base e size n : Nat} {v : Value} {xs : List Value} (ho : w.ownsRow base e size v n xs) (h1 : e ≠ 94) (h2 : e ≠ 34) (hg : w.grownBy w1 v.ownBlock) : HasQ w1 g s := by
 obtain ⟨b, n, c, k, cur, h⟩ := h
 exact ⟨b, n, c, k, cur, h.grown hg (own_ne ho h.own h1) (own_ne ho h.row h2)⟩
theorem qwant_par (g : Nat) (k : Int) (hk4 : k ≠ 4) (t : ByteArray) (s : PS) (w : World) (h : PAQ w g s) :
 Calls Tryz.prog 117 #[.pointer (some ⟨g, 0, none⟩), .int .i64 k, .string t] w fun e w' => e = .returned (.tuple #[]) ∧ PAQ w' g (mustP k t s) ∧ w.grownBy w' (some g) :=
 (qwant_calls g k hk4 t s w h.has h.good).mono fun _ _ ⟨he, hp, hg⟩ => ⟨he, h.to (fun _ hI hi => hI.must hi hk4 t) hp hg, hg⟩
theorem qfail_par (g : Nat) (s : PS) (w : World) (h : PAQ w g s) :
 Calls Tryz.prog 147 #[.pointer (some ⟨g, 0, none⟩)] w fun e w' => e = .returned (.tuple #[]) ∧ PAQ w' g (failsP s) ∧ w.grownBy w' (some g) :=
 (qfail_calls g s w h.has h.good).mono fun _ _ ⟨he, hp, hg⟩ => ⟨he, h.to (fun _ hI hi => hI.fails _ hi) hp hg, hg⟩
theorem PAQ.adv {w : World} {g : Nat} {s : PS} (h : PAQ w g s) (_ : s.2 < 0) (hk : (headW s.1).f0 ≠ 4) {b n c k : Nat} {cur : Array Value} (hq : IsQ w g s b n c k cur) :
 PAQ (w.setCell ⟨g, 1, none⟩ (.int .i64 ((k : Int) + 1))) g (s.1.tail, s.2) ∧ w.grownBy (w.setCell ⟨g, 1, none⟩ (.int .i64 ((k : Int) + 1))) (some g) := by
 obtain ⟨x, y, r, hs⟩ := two_words h.good hk
 have ht := hq.taken hs
 rw [show s.1.tail = y :: r by rw [hs]; rfl]
 have hg := grown_set w g 1 (.int .i64 ((k : Int) + 1))
 refine ⟨⟨⟨b, n, c, k + 1, cur, ht⟩, h.gok.grown hg, ?_, ?_⟩, hg⟩
 · have := h.good.tail hk; rw [hs] at this; exact this
 · have := h.len; rw [hs] at this; simp only [List.length_cons] at this ⊢; omega

theorem qalloc {w : World} {p : Addr} {v : Value} (h : w.cell? p = some v) (ob : Obj) : (w.alloc ob).cell? p = some v := pw_cell_below (below_alloc (Below.refl w.heap.size w) ob) h
theorem word_take {w : World} {g : Nat} {s : PS} {b n c k : Nat} {cur : Array Value} (hq : IsQ w g s b n c k cur) (hn : s.1 ≠ []) : k < n := by
 have := hq.at_; have := List.length_pos_iff.2 hn; omega
theorem rmay_name (t : ByteArray) (w : World) : Calls Tryz.prog 123 #[.string t] w fun e w' => e = .returned (.bool (nameB t)) ∧ Below w.heap.size w w' := rmay_calls t w
structure BoxQ (W : World) (N : Nat) (x : SWord) : Prop where
 blk : W.heap[N]? = some (.cells #[.int .i64 x.f0, .int .i64 x.f1, .string x.f2] 34 (0, 0))
theorem BoxQ.below {W W1 : World} {N : Nat} {x : SWord} (h : BoxQ W N x) (hb : Below W.heap.size W W1) : BoxQ W1 N x := ⟨blk_below h.blk hb⟩
theorem BoxQ.c0 {W : World} {N : Nat} {x : SWord} (h : BoxQ W N x) : W.cell? ⟨N, 0, none⟩ = some (.int .i64 x.f0) := (blk_cell h.blk 0).trans rfl
theorem BoxQ.c2 {W : World} {N : Nat} {x : SWord} (h : BoxQ W N x) : W.cell? ⟨N, 2, none⟩ = some (.string x.f2) := (blk_cell h.blk 2).trans rfl
theorem BoxQ.s2 {W : World} {N : Nat} {x : SWord} (h : BoxQ W N x) {g : Nat} (hg : g < N) (j : Nat) (v : Value) : (W.setCell ⟨g, j, none⟩ v).cell? ⟨N, 2, none⟩ = some (.string x.f2) := (blk_cell (blk_far h.blk (p := ⟨g, j, none⟩) (Nat.ne_of_gt hg) v) 2).trans rfl
set_option maxHeartbeats 4000000 in
theorem qname_calls (g : Nat) (s : PS) (w : World) (h : PAQ w g s) :
 Calls Tryz.prog 118 #[.pointer (some ⟨g, 0, none⟩)] w fun e w' => e = .returned (.string (nameP s).1) ∧ PAQ w' g (nameP s).2 ∧ w.grownBy w' (some g) := by
 obtain ⟨b, n, c, k, cur, hp⟩ := h.has
 have h0 : w.cell? ⟨g, 0, none⟩ = some (.slice (some ⟨b, 0, none⟩) n c) := (blk_cell hp.own 0).trans rfl
 have h1 : w.cell? ⟨g, 1, none⟩ = some (.int .i64 (k : Nat)) := (blk_cell hp.own 1).trans rfl
 obtain ⟨k0, k1, k2⟩ := hp.first h.good.ne
 have hkn := word_take hp h.good.ne
 have hkz : (k : Int) < (n : Int) := by omega
 have hkb : (k : Int) ≤ 200000 := by have := hp.big; omega
 have a0 := qalloc h0
 have a1 := qalloc h1
 have a2 := qalloc k0
 have a3 := qalloc k1
 have a4 := qalloc k2
 have HH := Lib.hid h
 have HGN := Lib.hid h.has.lt
 clear h hp
 go_enter Tryz.func118, Tryz.ntmps118
 go_wp2_with fail
 go_region
 have hb1 := below_drew ((Below.refl w.heap.size w).alloc (Nat.le_refl _) (.cells #[.int .i64 (headW s.1).f0, .int .i64 (headW s.1).f1, .string (headW s.1).f2] 34))
 have hN : BoxQ _ _ (headW s.1) := ⟨blk_drew (blk_new w (.cells #[.int .i64 (headW s.1).f0, .int .i64 (headW s.1).f1, .string (headW s.1).f2] 34))⟩
 generalize (w.alloc (.cells #[.int .i64 (headW s.1).f0, .int .i64 (headW s.1).f1, .string (headW s.1).f2] 34)).drew = W at hb1 hN ⊢
 generalize w.heap.size = N at HGN hN ⊢
 have HW := Lib.hid (HH.out.below hb1)
 have HB1 := Lib.hid (grown_of_below hb1 (some g))
 have HN := Lib.hid hN
 have n0 := hN.c0
 have n2 := hN.c2
 clear hb1 hN h0 h1 k0 k1 k2 a0 a1 a2 a3 a4 hkz hkb hkn
 have hO := qok_calls g s W HW.out.has
 have hM := rmay_name (headW s.1).f2 W
 by_cases hm : mayP 1 nameB s = true
 · have HE : Hid (nameP s = ((headW s.1).f2, (s.1.tail, s.2))) := by show nextP _ _ _ = _; unfold nextP; rw [if_pos hm]
   obtain ⟨m1, m2, m3⟩ := mayP_at hm
   have hd : decide (s.2 < 0) = true := by simpa using m1
   rw [hd] at hO
   have hkd : ((headW s.1).f0 != 1) = false := by simpa using m2
   have HM1 := Lib.hid m1
   have HM2 : Hid ((headW s.1).f0 ≠ 4) := by show _ ≠ _; rw [m2]; decide
   rw [m3] at hM
   clear hm m1 m2 m3 hd
   go_wp2_with fail
   refine hO.mono ?_
   rintro e w' ⟨rfl, rfl⟩
   clear hO
   go_wp2_with fail
   refine hM.mono ?_
   rintro e W2 ⟨rfl, hb2⟩
   have HW2 := Lib.hid (HW.out.below hb2)
   have HN2 := Lib.hid (HN.out.below hb2)
   have HB2 := Lib.hid (grown_trans HB1.out (grown_of_below hb2 _))
   clear hb2 hM HW HN HB1 n0 n2
   obtain ⟨b, n, c, k, cur, hq⟩ := HW2.out.has
   have h1 : W2.cell? ⟨g, 1, none⟩ = some (.int .i64 (k : Nat)) := (blk_cell hq.own 1).trans rfl
   have hf1 := blk_frozen hq.own 1
   have hkb : (k : Int) ≤ 200000 := by have := hq.at_; have := hq.big; omega
   have hs2 := HN2.out.s2 HGN.out 1 (.int .i64 ((k : Int) + 1))
   have HA := Lib.hid (HW2.out.adv HM1.out HM2.out hq)
   clear hq
   go_wp2_with fail
   go_ret
   rw [HE.out]
   exact ⟨rfl, HA.out.1, grown_trans HB2.out HA.out.2⟩
 · have HE : Hid (nameP s = (⟨#[]⟩, failsP s)) := nextP_no hm
   have hF := fun W' h' => qfail_par g s W' h'
   by_cases m1 : s.2 < 0
   · have hd : decide (s.2 < 0) = true := by simpa using m1
     rw [hd] at hO
     by_cases m2 : (headW s.1).f0 = 1
     · have hkd : ((headW s.1).f0 != 1) = false := by simpa using m2
       have m3 : nameB (headW s.1).f2 = false := by
        cases hpp : nameB (headW s.1).f2 with
        | false => rfl
        | true => exact absurd (by unfold mayP; simp [m1, m2, hpp]) hm
       rw [m3] at hM
       clear hm m1 m2 m3 hd
       go_wp2_with fail
       refine hO.mono ?_
       rintro e w' ⟨rfl, rfl⟩
       clear hO
       go_wp2_with fail
       refine hM.mono ?_
       rintro e W2 ⟨rfl, hb2⟩
       have HW2 := Lib.hid (HW.out.below hb2)
       have HB2 := Lib.hid (grown_trans HB1.out (grown_of_below hb2 _))
       clear hb2 hM HW HN HB1 n0 n2
       go_wp2_with fail
       refine (hF _ HW2.out).mono ?_
       rintro e w3 ⟨rfl, h3, hg3⟩
       have HG3 := Lib.hid (grown_trans HB2.out hg3)
       clear hg3 hF
       go_wp2_with fail
       go_ret
       rw [HE.out]
       exact ⟨rfl, h3, HG3.out⟩
     · have hkd : ((headW s.1).f0 != 1) = true := by simpa using m2
       clear hm m1 m2 hd hM
       go_wp2_with fail
       refine hO.mono ?_
       rintro e w' ⟨rfl, rfl⟩
       clear hO
       go_wp2_with fail
       refine (hF _ HW.out).mono ?_
       rintro e w3 ⟨rfl, h3, hg3⟩
       have HG3 := Lib.hid (grown_trans HB1.out hg3)
       clear hg3 hF
       go_wp2_with fail
       go_ret
       rw [HE.out]
       exact ⟨rfl, h3, HG3.out⟩
   · have hd : decide (s.2 < 0) = false := by simpa using m1
     rw [hd] at hO
     · clear hm m1 hd hM
       go_wp2_with fail
       refine hO.mono ?_
       rintro e w' ⟨rfl, rfl⟩
       clear hO
       go_wp2_with fail
       refine (hF _ HW.out).mono ?_
       rintro e w3 ⟨rfl, h3, hg3⟩
       have HG3 := Lib.hid (grown_trans HB1.out hg3)
       clear hg3 hF
       go_wp2_with fail
       go_ret
       rw [HE.out]
       exact ⟨rfl, h3, HG3.out⟩
set_option maxHeartbeats 4000000 in
theorem qstr_calls (g : Nat) (s : PS) (w : World) (h : PAQ w g s) :
 Calls Tryz.prog 149 #[.pointer (some ⟨g, 0, none⟩)] w fun e w' => e = .returned (.string (textP s).1) ∧ PAQ w' g (textP s).2 ∧ w.grownBy w' (some g) := by
 obtain ⟨b, n, c, k, cur, hp⟩ := h.has
 have h0 : w.cell? ⟨g, 0, none⟩ = some (.slice (some ⟨b, 0, none⟩) n c) := (blk_cell hp.own 0).trans rfl
 have h1 : w.cell? ⟨g, 1, none⟩ = some (.int .i64 (k : Nat)) := (blk_cell hp.own 1).trans rfl
 obtain ⟨k0, k1, k2⟩ := hp.first h.good.ne
 have hkn := word_take hp h.good.ne
 have hkz : (k : Int) < (n : Int) := by omega
 have hkb : (k : Int) ≤ 200000 := by have := hp.big; omega
 have a0 := qalloc h0
 have a1 := qalloc h1
 have a2 := qalloc k0
 have a3 := qalloc k1
 have a4 := qalloc k2
 have HH := Lib.hid h
 have HGN := Lib.hid h.has.lt
 clear h hp
 go_enter Tryz.func149, Tryz.ntmps149
 go_wp2_with fail
 go_region
 have hb1 := below_drew ((Below.refl w.heap.size w).alloc (Nat.le_refl _) (.cells #[.int .i64 (headW s.1).f0, .int .i64 (headW s.1).f1, .string (headW s.1).f2] 34))
 have hN : BoxQ _ _ (headW s.1) := ⟨blk_drew (blk_new w (.cells #[.int .i64 (headW s.1).f0, .int .i64 (headW s.1).f1, .string (headW s.1).f2] 34))⟩
 generalize (w.alloc (.cells #[.int .i64 (headW s.1).f0, .int .i64 (headW s.1).f1, .string (headW s.1).f2] 34)).drew = W at hb1 hN ⊢
 generalize w.heap.size = N at HGN hN ⊢
 have HW := Lib.hid (HH.out.below hb1)
 have HB1 := Lib.hid (grown_of_below hb1 (some g))
 have HN := Lib.hid hN
 have n0 := hN.c0
 have n2 := hN.c2
 clear hb1 hN h0 h1 k0 k1 k2 a0 a1 a2 a3 a4 hkz hkb hkn
 have hO := qok_calls g s W HW.out.has
 by_cases hm : mayP 2 (fun _ => true) s = true
 · have HE : Hid (textP s = ((headW s.1).f2, (s.1.tail, s.2))) := by show nextP _ _ _ = _; unfold nextP; rw [if_pos hm]
   obtain ⟨m1, m2, m3⟩ := mayP_at hm
   have hd : decide (s.2 < 0) = true := by simpa using m1
   rw [hd] at hO
   have hkd : ((headW s.1).f0 != 2) = false := by simpa using m2
   have HM1 := Lib.hid m1
   have HM2 : Hid ((headW s.1).f0 ≠ 4) := by show _ ≠ _; rw [m2]; decide
   clear hm m1 m2 m3 hd
   go_wp2_with fail
   refine hO.mono ?_
   rintro e w' ⟨rfl, rfl⟩
   clear hO
   have HW2 := HW
   have HN2 := HN
   have HB2 := HB1
   clear HW HN HB1
   generalize W = W2 at HW2 HN2 HB2 n0 n2 ⊢
   obtain ⟨b, n, c, k, cur, hq⟩ := HW2.out.has
   have h1 : W2.cell? ⟨g, 1, none⟩ = some (.int .i64 (k : Nat)) := (blk_cell hq.own 1).trans rfl
   have hf1 := blk_frozen hq.own 1
   have hkb : (k : Int) ≤ 200000 := by have := hq.at_; have := hq.big; omega
   have hs2 := HN2.out.s2 HGN.out 1 (.int .i64 ((k : Int) + 1))
   have HA := Lib.hid (HW2.out.adv HM1.out HM2.out hq)
   clear hq
   go_wp2_with fail
   go_ret
   rw [HE.out]
   exact ⟨rfl, HA.out.1, grown_trans HB2.out HA.out.2⟩
 · have HE : Hid (textP s = (⟨#[]⟩, failsP s)) := nextP_no hm
   have hF := fun W' h' => qfail_par g s W' h'
   by_cases m1 : s.2 < 0
   · have hd : decide (s.2 < 0) = true := by simpa using m1
     rw [hd] at hO
     have m2 : (headW s.1).f0 ≠ 2 := fun m2 => hm (by unfold mayP; simp [m1, m2])
     · have hkd : ((headW s.1).f0 != 2) = true := by simpa using m2
       clear hm m1 m2 hd
       go_wp2_with fail
       refine hO.mono ?_
       rintro e w' ⟨rfl, rfl⟩
       clear hO
       go_wp2_with fail
       refine (hF _ HW.out).mono ?_
       rintro e w3 ⟨rfl, h3, hg3⟩
       have HG3 := Lib.hid (grown_trans HB1.out hg3)
       clear hg3 hF
       go_wp2_with fail
       go_ret
       rw [HE.out]
       exact ⟨rfl, h3, HG3.out⟩
   · have hd : decide (s.2 < 0) = false := by simpa using m1
     rw [hd] at hO
     · clear hm m1 hd
       go_wp2_with fail
       refine hO.mono ?_
       rintro e w' ⟨rfl, rfl⟩
       clear hO
       go_wp2_with fail
       refine (hF _ HW.out).mono ?_
       rintro e w3 ⟨rfl, h3, hg3⟩
       have HG3 := Lib.hid (grown_trans HB1.out hg3)
       clear hg3 hF
       go_wp2_with fail
       go_ret
       rw [HE.out]
       exact ⟨rfl, h3, HG3.out⟩

end Go.Proofs.YthagibkmfgodgaaGreatDoor.X
