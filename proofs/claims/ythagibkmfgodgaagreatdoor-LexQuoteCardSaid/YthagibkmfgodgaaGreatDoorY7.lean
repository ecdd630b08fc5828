/-
  slices.Sorted(slices.Values(l)) at lists of strings: the list, sorted. (The iterator's and the loop's walks after the how-to's worked texts.)
  lex.Quote, walked by hand (texts without signs that are written as numbers).
  print, walked by hand: slices.Clone of steps.
  print, walked by hand: one, for a rule of one step. (The regions' walks printed by gen_one.py.)
-/
import Derived.RangeFuncBox
import Derived.RangeFuncLeaves
import Derived.RangeFuncNested
import Derived.RangeFuncBound
import Derived.RangeFuncCalls
import Derived.Shelf.Abstract
import Derived.OwnWalkIn
import Derived.TacticsInMore
import Derived.LoopNIn
import Derived.LoopIn
import Derived.Maps.AppendAt
import Derived.Sort.OwnSorted
import Derived.Deep.RegionLaw
import Derived.Test.YthagibkmfgodgaaGreatDoorY6
namespace Go.Proofs.YthagibkmfgodgaaGreatDoor.X
open Go.RowKit Go.Maps Go.Sort Go.Proofs.YthagibkmfgodgaaGreatDoorW.PrintWords Go.Proofs.YthagibkmfgodgaaGreatDoorW.PrintMore Go.Proofs.YthagibkmfgodgaaGreatDoorW.PrintLast

attribute [local go_sem] Oper.semAt_some

def uptoS (zs : List ByteArray) (k : Nat) : List ByteArray := (List.range k).map fun j => zs[j]?.getD ByteArray.empty
theorem uptoS_succ (zs : List ByteArray) (k : Nat) : uptoS zs (k + 1) = uptoS zs k ++ [zs[k]?.getD ByteArray.empty] := by simp [uptoS, List.range_succ]
theorem uptoS_length (zs : List ByteArray) (k : Nat) : (uptoS zs k).length = k := by simp [uptoS]
theorem uptoS_take (zs : List ByteArray) {k : Nat} (hk : k ≤ zs.length) : uptoS zs k = zs.take k := by
  apply List.ext_getElem
  · simp [uptoS, hk]
  · intro i h1 h2
    have : i < zs.length := by simp [uptoS] at h1; omega
    simp [uptoS, this]
theorem uptoS_all (zs : List ByteArray) : uptoS zs zs.length = zs := by rw [uptoS_take zs (Nat.le_refl _), List.take_length]

set_option maxRecDepth 100000 in
set_option maxHeartbeats 4000000 in
theorem values1_in (n : Nat) (hn : 1 ≤ n) (l Bs n₀ b off len cap : Nat) (zs : List ByteArray) (hreach : len * 16 ≤ 140737488355328) (hb : b < n₀) (J Jx : List ByteArray → World → Prop)
    (hY : ∀ pre x W, J pre W → pre.length < len → YieldAt Fence.wide (n - 1) Tryz.prog l #[.string x] W fun e W' =>
      (e = .returned (.bool true) ∧ J (pre ++ [x]) W' ∧ Below n₀ W W') ∨ (e = .returned (.bool false) ∧ Jx (pre ++ [x]) W'))
    (W : World) (hBs : W.cell? ⟨Bs, 0, none⟩ = some (.slice (some ⟨b, off, none⟩) len cap)) (hc : ∀ j, j < len → W.cell? ⟨b, off + j, none⟩ = some (.string (zs[j]?.getD ByteArray.empty))) (h0 : J [] W) :
    CallsIn Fence.wide n Tryz.prog 155 #[.func (.yield l) #[] #[], .pointer (some ⟨Bs, 0, none⟩)] W fun e W' => (∃ v, e = .returned v) ∧
      ((∃ ys, ys = uptoS zs len ∧ J ys W') ∨ (∃ pre, (∃ k, k ≤ len ∧ pre = uptoS zs k) ∧ Jx pre W')) := by
  refine callsIn_of_wp Tryz.func155 rfl trivial ?_ rfl
  simp only [Tryz.ntmps155, List.size_toArray, List.length_cons, List.length_nil, Nat.reduceAdd, Nat.reduceSub, Array.replicate_succ, Array.replicate_zero, List.push_toArray, List.append_toArray, List.nil_append, List.cons_append]
  gi_wp2
  gi_loopw [7] (fun i wr => ∃ k : Nat, k ≤ len ∧ i = .int .i64 k ∧ J (uptoS zs k) wr ∧ Below n₀ W wr)
    (fun i _ => len - (intOf i).toNat)
  case atStart => exact ⟨0, Nat.zero_le _, rfl, h0, Below.refl _ _⟩
  case round =>
    obtain ⟨k, hk, rfl, hJs, hnx⟩ := hrel
    have hcx : k < len → wr.cell? ⟨b, off + k, none⟩ = some (.string (zs[k]?.getD ByteArray.empty)) := fun h => (hnx.cell (p := ⟨b, off + k, none⟩) hb).trans (hc k h)
    by_cases hlt : k < len
    · obtain ⟨fn, tmps, assign, body, hy, hR⟩ := hY _ (zs[k]?.getD ByteArray.empty) wr hJs (by rw [uptoS_length]; exact hlt)
      have hcx' := hcx hlt
      gi_wp2
      refine hR.mono ?_
      rintro e W3 (⟨rfl, hJ3, hk3⟩ | ⟨rfl, hJx3⟩)
      · gi_wp2
        go_roundw
        case rel => exact ⟨k + 1, by omega, by simp, by rw [uptoS_succ]; exact hJ3, hnx.trans hk3⟩
        case measure => simp [intOf]; omega
      · gi_wp2
        refine bodyPost_ret (results_none rfl _ _ _) rfl ?_
        exact ⟨⟨_, rfl⟩, .inr ⟨_, ⟨k + 1, by omega, (uptoS_succ _ _).symm⟩, hJx3⟩⟩
    · obtain rfl : k = len := by omega
      gi_wp2
      go_end0
      exact ⟨⟨_, rfl⟩, .inl ⟨_, rfl, hJs⟩⟩
/-- The slice value sv holds the strings zs, in a block below n₀; or it is nil and there are none. -/
def StrsAt (n₀ : Nat) (W : World) (sv : Value) (zs : List ByteArray) : Prop :=
  ((∃ A c, sv = .slice A 0 c) ∧ zs = []) ∨ ∃ b off cap, sv = .slice (some ⟨b, off, none⟩) zs.length cap ∧ b < n₀ ∧ ∀ j, j < zs.length → W.cell? ⟨b, off + j, none⟩ = some (.string (zs[j]?.getD ByteArray.empty))
theorem StrsAt.below {n₀ : Nat} {A B : World} (h : Below n₀ A B) {sv : Value} {zs : List ByteArray} : StrsAt n₀ A sv zs → StrsAt n₀ B sv zs
  | .inl e => .inl e
  | .inr ⟨b, off, cap, e, hb, hc⟩ => .inr ⟨b, off, cap, e, hb, fun j hj => (h.cell (p := ⟨b, off + j, none⟩) hb).trans (hc j hj)⟩
set_option maxRecDepth 100000 in
set_option maxHeartbeats 1000000 in
theorem values1_nil_in (n l Bs : Nat) (A : Option Addr) (c : Nat) (J : List ByteArray → World → Prop) (W : World) (hBs : W.cell? ⟨Bs, 0, none⟩ = some (.slice A 0 c)) (h0 : J [] W) :
    CallsIn Fence.wide n Tryz.prog 155 #[.func (.yield l) #[] #[], .pointer (some ⟨Bs, 0, none⟩)] W fun e W' => (∃ v, e = .returned v) ∧ J [] W' := by
  refine callsIn_of_wp Tryz.func155 rfl trivial ?_ rfl
  simp only [Tryz.ntmps155, List.size_toArray, List.length_cons, List.length_nil, Nat.reduceAdd, Nat.reduceSub, Array.replicate_succ, Array.replicate_zero, List.push_toArray, List.append_toArray, List.nil_append, List.cons_append]
  gi_wp2
  gi_loopw [7] (fun i wr => i = .int .i64 0 ∧ J [] wr) (fun _ _ => 0)
  case atStart => exact ⟨rfl, h0⟩
  case round =>
    obtain ⟨rfl, hJs⟩ := hrel
    gi_wp2
    go_end0
    exact ⟨⟨_, rfl⟩, hJs⟩
theorem values_stops (n : Nat) (hn : 1 ≤ n) (Bs n₀ : Nat) (sv : Value) (zs : List ByteArray) (hreach : zs.length * 16 ≤ 140737488355328) (w : World) (hBs : Bs < w.heap.size) (hn₀ : n₀ ≤ w.heap.size)
    (hc : w.cell? ⟨Bs, 0, none⟩ = some sv) (hI : StrsAt n₀ w sv zs) :
    SeqStopsK Fence.wide n Tryz.prog 155 #[.pointer (some ⟨Bs, 0, none⟩)] (fun x : ByteArray => #[Value.string x]) (Below n₀) (fun ys => ys = zs) (fun pre => pre <+: zs) zs.length w := fun l J Jx W hW _ _ hY h0 => by
  have hc' := (hW.cell (p := ⟨Bs, 0, none⟩) hBs).trans hc
  rcases hI.below (hW.mono hn₀) with ⟨⟨A, c, rfl⟩, rfl⟩ | ⟨b, off, cap, rfl, hb, hcs⟩
  · exact (values1_nil_in n l Bs A c J W hc' h0).mono fun e W' ⟨he, hj⟩ => ⟨he, .inl ⟨_, rfl, hj⟩⟩
  · refine (values1_in n hn l Bs n₀ b off zs.length cap zs hreach hb J Jx hY W hc' hcs h0).mono ?_
    rintro e W' ⟨he, ⟨ys, rfl, hj⟩ | ⟨pre, ⟨k, hk, rfl⟩, hj⟩⟩
    · exact ⟨he, .inl ⟨_, uptoS_all zs, hj⟩⟩
    · exact ⟨he, .inr ⟨_, by rw [uptoS_take zs hk]; exact List.take_prefix _ _, hj⟩⟩
theorem eg_values1 : ∀ args w, (callFunc 155 args).run Tryz.prog w = .ok (.enter 155 args) w := Go.Proofs.enters_of Tryz.func155 (by kernel_rfl) rfl

set_option maxRecDepth 100000 in
set_option maxHeartbeats 4000000 in
theorem appendSeq_in (n : Nat) (hn : 3 ≤ n) (Bs : Nat) (sv : Value) (zs : List ByteArray) (hlen : zs.length ≤ 4611686018427387904) (hbytes : zs.length * 16 ≤ 140737488355328) (w : World) (hBs : Bs < w.heap.size)
    (hc : w.cell? ⟨Bs, 0, none⟩ = some sv) (hI : StrsAt w.heap.size w sv zs) :
    CallsIn Fence.wide n Tryz.prog 169 #[.slice none 0 0, .func (.func 155) #[] #[.pointer (some ⟨Bs, 0, none⟩)]] w fun e W' => ∃ v, e = .returned v ∧
      W'.ownsRow w.heap.size 9 1 v zs.length (zs.map Value.string) ∧ Below w.heap.size w W' := by
  have h1 : 1 ≤ n := by omega
  obtain ⟨i0, hi, hz0, hz1, hz2⟩ := info_parts infoStr
  refine callsIn_of_wp_marks Tryz.func169 rfl trivial ?_ rfl
  simp only [Tryz.ntmps169, List.size_toArray, List.length_cons, List.length_nil, Nat.reduceAdd, Nat.reduceSub, Array.replicate_succ, Array.replicate_zero, List.push_toArray, List.append_toArray, List.nil_append, List.cons_append]
  gi_wp2
  have bO := Boxed.new w 46 (.slice none 0 0)
  have hB0 : Below w.heap.size w (w.alloc (.cells #[.slice none 0 0] 46)) := (Below.refl _ w).alloc (Nat.le_refl _) _
  refine wpIn_rangeFunc_ownG rfl h1 (gf := 155) (lb := #[.pointer (some ⟨Bs, 0, none⟩)]) rfl trivial eg_values1
    (values_stops (n - 1) (by omega) Bs w.heap.size sv zs hbytes _ (by simp; omega) (by simp) ((hB0.cell (p := ⟨Bs, 0, none⟩) hBs).trans hc) (hI.below hB0)) belowK_t (belowK_b (by simp)) (Below.refl _ _) (fun _ => rfl)
    (fun pre W => (∃ v, Boxed W w.heap.size 46 v ∧ W.ownsRow w.heap.size 9 1 v pre.length (pre.map Value.string) ∧ True) ∧ Below w.heap.size w W)
    (fun _ _ _ => False)
    (OwnFrom.and (Own.from (holdsRow_own w.heap.size w.heap.size 46 9 1 (fun pre : List ByteArray => pre.length) (fun pre : List ByteArray => pre.map Value.string) (fun _ _ => True)) _) (ownFrom_below (Nat.le_refl _) (by simp)))
    (fun _ _ _ _ _ hs _ _ => hs)
    ⟨⟨_, bO, World.ownsRow_nil _ _ _ _, trivial⟩, hB0⟩
    (fun x => { tmps := #[.slice none 0 0, .func (.func 155) #[] #[.pointer (some ⟨Bs, 0, none⟩)], .pointer (some ⟨w.heap.size, 0, none⟩), undef, .slice none 0 0, .string x, .func (.func 155) #[] #[.pointer (some ⟨Bs, 0, none⟩)], .string x, undef, undef, undef, undef, undef], defers := [] }) ?assign ?body ?done ?stop
  case assign =>
    intro l x W K hK
    gi_wp2
    exact hK
  case body =>
    rintro l pre x W ⟨⟨v, hv, hrow, _⟩, hB⟩ hlt
    have hc := hv.cell
    gi_wp2_with (gi_at_builtin; refine wpListIn_append_own _ rfl _ _ 46 rfl w.heap.size 9 i0 (.string ⟨#[]⟩) 1 16 Tryz.underlying46 hi hz0 hz1 hz2 rfl (by decide) _ _ _ rfl (hrow.alloc _) ⟨W.heap.size, 0, none⟩ 1 1 [.string x] rfl rfl (cell_one_new _ _ _) (by simp [Value.oneCell']) (by unfold maxLen; omega) (by omega) (by have := hB.size; simp; omega) ?_; intro v' w1 hown' hgrow _; obtain ⟨g', cap', rfl⟩ := ownsRow_succ hown'; obtain ⟨hv1, hv2, hr2, hk2, hb2⟩ := hv.appended (by decide) hrow hB.size (Nat.le_refl _) hown' hgrow; have hc1 := hv1.cell; have hf1 := hv1.frozen)
    exact ⟨hk2.from _, hb2, ⟨_, hv2, by simpa using hr2, trivial⟩, hB.trans hb2⟩
  case done =>
    rintro D ys W hD rfl ⟨⟨v, hv, hrow, _⟩, hB⟩ hK
    have hc := hv.cell
    gi_wp2
    refine ⟨by simp, .inl ⟨_, _, rfl, run_takeDeferred hK, ?_⟩⟩
    exact ⟨_, results_tmp rfl _ _ _, v, rfl, ownsRow_putObj hrow _ hK rfl, hB.trans (belowK_b (w := w) (Nat.le_refl _) W D _ _ (by simp at hD; omega) hK rfl rfl)⟩
  case stop =>
    rintro D c pre W _ _ h _
    exact h.elim

def risingF (zs : List ByteArray) : List ByteArray := ((zs.map fun x => x.data.toList).mergeSort fun x y => decide (x ≤ y)).map mk
theorem encStr_list (zs : List ByteArray) : zs.map Value.string = (zs.map fun x => x.data.toList).map encStr := by
  rw [List.map_map]
  apply List.map_congr_left
  intro x _
  show Value.string x = Value.string (mk x.data.toList)
  rfl
theorem appendSeq_calls (Bs : Nat) (sv : Value) (zs : List ByteArray) (hbytes : zs.length * 16 ≤ 140737488355328) (w : World) (hBs : Bs < w.heap.size)
    (hc : w.cell? ⟨Bs, 0, none⟩ = some sv) (hI : StrsAt w.heap.size w sv zs) :
    Calls Tryz.prog 169 #[.slice none 0 0, .func (.func 155) #[] #[.pointer (some ⟨Bs, 0, none⟩)]] w fun e W' => ∃ v, e = .returned v ∧
      W'.ownsRow w.heap.size 9 1 v zs.length (zs.map Value.string) ∧ Below w.heap.size w W' :=
  callsIn_wide.1 (appendSeq_in 3 (Nat.le_refl _) Bs sv zs (by omega) hbytes w hBs hc hI)
set_option maxHeartbeats 1000000 in
theorem collect_calls (Bs : Nat) (sv : Value) (zs : List ByteArray) (hbytes : zs.length * 16 ≤ 140737488355328) (w : World) (hBs : Bs < w.heap.size)
    (hc : w.cell? ⟨Bs, 0, none⟩ = some sv) (hI : StrsAt w.heap.size w sv zs) :
    Calls Tryz.prog 153 #[.func (.func 155) #[] #[.pointer (some ⟨Bs, 0, none⟩)]] w fun e W' => ∃ v, e = .returned v ∧
      W'.ownsRow w.heap.size 9 1 v zs.length (zs.map Value.string) ∧ Below w.heap.size w W' := by
  have h := appendSeq_calls Bs sv zs hbytes w hBs hc hI
  go_enter Tryz.func153, Tryz.ntmps153
  go_wp2_with (go_at_call 169; refine h.mono ?_; rintro e w2 ⟨v, rfl, ho, hb⟩)
  go_ret
  exact ⟨v, rfl, ho, hb⟩
set_option maxHeartbeats 1000000 in
theorem sorted_calls (Bs : Nat) (sv : Value) (zs : List ByteArray) (hbytes : zs.length * 16 ≤ 140737488355328) (w : World) (hBs : Bs < w.heap.size)
    (hc : w.cell? ⟨Bs, 0, none⟩ = some sv) (hI : StrsAt w.heap.size w sv zs) :
    Calls Tryz.prog 130 #[.func (.func 155) #[] #[.pointer (some ⟨Bs, 0, none⟩)]] w fun e W' => ∃ v, e = .returned v ∧
      RS W' w.heap.size v (risingF zs) ∧ Below w.heap.size w W' := by
  have h := collect_calls Bs sv zs hbytes w hBs hc hI
  have hlen : (risingF zs).length = zs.length := by unfold risingF; rw [List.length_map, List.length_mergeSort, List.length_map]
  have hrs : encs Value.string (risingF zs) = ((zs.map fun x => x.data.toList).mergeSort fun x y => decide (x ≤ y)).map encStr := by
    unfold risingF encs
    rw [List.map_map]
    rfl
  have HLen := Lib.hid hlen
  have HRs := Lib.hid hrs
  clear hlen hrs
  go_enter Tryz.func130, Tryz.ntmps130
  go_wp2_with fail
  refine h.mono ?_
  rintro e W ⟨v, rfl, hrow, hb⟩
  have HB := Lib.hid hb
  clear h hb
  rcases hrow.2 with ⟨rfl, hz⟩ | ⟨gb, cap, cur, rfl, hbase, hgb, r1, r2, r3, r4⟩
  · have hss : zs = [] := List.eq_nil_of_length_eq_zero hz
    subst hss
    have cS := Go.Proofs.AnyM.slices_Sort_string_none Go.Proofs.Tryz.laysSort none 0 W
    change Calls Tryz.prog 154 _ _ _ at cS
    go_wp2_with (go_at_call 154; refine cS.mono ?_; rintro e w' ⟨rfl, rfl⟩)
    go_ret
    exact ⟨.slice none 0 0, rfl, by rw [show risingF [] = [] by simp [risingF]]; exact Kd.R_nil _ _ _ _ _, HB.out⟩
  · rw [encStr_list] at r4
    have hH : Holds encStr W gb 0 (zs.map fun x => x.data.toList).toArray := Go.holds_of_block hgb (by simpa using r4)
    have hgl : gb < W.heap.size := (Array.getElem?_eq_some_iff.1 hgb).1
    have hsz : (zs.map fun x => x.data.toList).length < 4611686018427387904 := by rw [List.length_map]; omega
    have cS := Go.Proofs.AnyM.slices_Sort_string Go.Proofs.Tryz.laysSort gb 0 cap (zs.map fun x => x.data.toList) W hH hgl hsz
    change Calls Tryz.prog 154 _ _ _ at cS
    rw [List.length_map] at cS
    go_wp2_with (go_at_call 154; refine cS.mono ?_; rintro e w' ⟨rfl, nn, os, rfl⟩)
    go_ret
    refine ⟨_, rfl, Kd.R_of_own (h1 := fun _ => rfl) ?_ (fun _ _ => trivial), HB.out.grown (grownBy_sorted _) HB.out.size (fun j hj => by cases hj; exact hbase)⟩
    rw [HRs.out, HLen.out]
    have hos := ownsRow_sorted (n := nn) (os := os) (ss := zs.map fun x => x.data.toList) (ts := (zs.map fun x => x.data.toList).mergeSort fun x y => decide (x ≤ y)) (by simp) hbase hgb (by rw [List.length_map]; exact r1) r2 r3
    rw [List.length_map] at hos
    exact hos
set_option maxHeartbeats 1000000 in
theorem rising_calls (A : Option Addr) (c : Nat) (l : List ByteArray) (w : World) (hr : Kd.C Kd.string w A l.length l) (hbytes : l.length * 16 ≤ 140737488355328) :
    Calls Tryz.prog 92 #[.slice A l.length c] w fun e W' => ∃ v, e = .returned v ∧ RS W' w.heap.size v (risingF l) ∧ Below w.heap.size w W' := by
  have hV : ∀ W, Calls Tryz.prog 131 #[.slice A l.length c] W fun e W' => e = .returned (.func (.func 155) #[] #[.pointer (some ⟨W.heap.size, 0, none⟩)]) ∧ W' = W.alloc (.cells #[.slice A l.length c] 46) := by
    intro W
    go_enter Tryz.func131, Tryz.ntmps131
    go_wp2
    go_ret
    exact ⟨rfl, rfl⟩
  have hS0 : StrsAt w.heap.size w (.slice A l.length c) l := by
    rcases row_open hr with h0 | ⟨b, o, rfl, hb, hcell⟩
    · subst h0
      exact .inl ⟨⟨A, c, rfl⟩, rfl⟩
    · refine .inr ⟨b, o, c, rfl, hb, fun j hj => ?_⟩
      have := hcell j hj
      rwa [List.getD_eq_getElem?_getD] at this
  have hS := hS0.below ((Below.refl w.heap.size w).alloc (Nat.le_refl _) (.cells #[.slice A l.length c] 46))
  have hS1 : StrsAt (w.alloc (.cells #[.slice A l.length c] 46)).heap.size (w.alloc (.cells #[.slice A l.length c] 46)) (.slice A l.length c) l := by
    rcases hS with h | ⟨b, o, cc, h1, hb, h2⟩
    · exact .inl h
    · exact .inr ⟨b, o, cc, h1, by simp; omega, h2⟩
  have h := sorted_calls w.heap.size _ l hbytes (w.alloc (.cells #[.slice A l.length c] 46)) (by simp) ((blk_cell (blk_new w _) 0).trans rfl) hS1
  clear hS hS0 hS1 hr
  go_enter Tryz.func92, Tryz.ntmps92
  go_wp2_with (first | (go_at_call 131; refine (hV _).mono ?_; rintro e w' ⟨rfl, rfl⟩) | (go_at_call 130; refine h.mono ?_; rintro e w2 ⟨v, rfl, ho, hb⟩))
  go_ret
  exact ⟨v, rfl, Kd.R_lower ho (by simp), below_then ((Below.refl w.heap.size w).alloc (Nat.le_refl _) _) (by simp) hb⟩

end Go.Proofs.YthagibkmfgodgaaGreatDoor.X

namespace Go.Proofs.YthagibkmfgodgaaGreatDoor.X
open Go.RowKit Go.Maps Go.Proofs.YthagibkmfgodgaaGreatDoorW.PrintWords Go.Proofs.YthagibkmfgodgaaGreatDoorW.PrintMore Go.Proofs.YthagibkmfgodgaaGreatDoorW.PrintLast

theorem natsB_app (a b : Bytes) : natsB (a ++ b) = natsB a ++ natsB b := by simp [natsB]
theorem lit_bytes (W : World) (l : Bytes) (h : l.length ≤ 100) : Kd.C (Kd.int .u8) (W.alloc (.cells (nums .u8 (natsB l)).toArray 5)) (some ⟨W.heap.size, 0, none⟩) (natsB l).length (natsB l) :=
  lit_C (Kd.int .u8) W 5 (natsB l) (nums .u8 (natsB l)) (Kd.reps_scalar _) (by simp [natsB]; omega)
abbrev RB (w : World) (base : Nat) (v : Value) (l : Bytes) : Prop := Kd.R (Kd.int .u8) 5 w base (fun _ => True) v (natsB l)
theorem RB.str {w : World} {base : Nat} {v : Value} {l : Bytes} (h : RB w base v l) :
    (convert 38 9 v).run Tryz.prog w = .ok (.string (mk l)) w := by
  have := own_string (dst := 9) Tryz.underlying38 Tryz.underlying5 Tryz.underlying9 (Kd.own_of_R h)
  rw [strOf_natsB] at this
  exact this

section
variable {P : Program} {ops : Array Oper} {rest : List Oper} {o : Oper} {a : Act} {Q : Exit → Act → World → Prop}
/-- append(v, some bytes): the bytes' box is new. -/
theorem RB.app {w0 W : World} (base : Nat) (hgd : o.guard = none) (s x : Operand)
    (ho : o.op = .call { callee := .builtin .append, args := #[s, x], argTypes := #[38, 38] })
    (ht : P.underlying 38 = some (.slice 5)) (hinfo : (P.info? 5).map (fun i => (i.zero, i.size, i.bytes)) = some (some (.int .u8 0), 1, 1))
    (v : Value) (acc l : Bytes) (cs : Array Value) (hcs : cs = (nums .u8 (natsB l)).toArray) (hl : l.length ≤ 100) (n : Nat) (hn : n = l.length) (hs : a.eval s = v) (hx : a.eval x = .slice (some ⟨W.heap.size, 0, none⟩) n n)
    (HO : RB W base v acc) (HB : Below base w0 W) (hbase : base ≤ W.heap.size) (hal : acc.length ≤ 5000000000000)
    (h : ∀ v1 w1, RB w1 base v1 (acc ++ l) → Below base w0 w1 → wpList P ops Q rest (a.put o.dst v1) w1) :
    wpList P ops Q (o :: rest) a (W.alloc (.cells cs 5)) := by
  subst hcs
  subst hn
  have hC := lit_bytes W l hl
  rw [show (natsB l).length = l.length by simp [natsB]] at hC
  refine Kd.R_append_rows (Kd.int .u8) (Rr := (Kd.int .u8).K (W.alloc (.cells (nums .u8 (natsB l)).toArray 5))) (w0 := w0) base hgd s x 38 5 (.int .u8 0) 1 ho ht hinfo rfl (by decide) (by decide) v (natsB acc) (natsB l) (some ⟨W.heap.size, 0, none⟩) l.length l.length (fun _ => True) (fun k_ => True ∧ some k_ ≠ v.ownBlock) hs hx (Kd.R_alloc HO _) hC (fun _ _ h => h) (fun _ hk => hk) (fun _ _ => trivial) (HB.alloc hbase _) (by rw [World.size_alloc]; omega) (by simp only [natsB, List.length_map]; omega) ?_
  intro v1 w1 ho1 hb1 _ _
  rw [← natsB_app] at ho1
  exact h v1 w1 ho1 hb1
/-- append(v, "..."...). -/
theorem RB.str_app {w0 W : World} (base : Nat) (hgd : o.guard = none) (s x : Operand)
    (ho : o.op = .call { callee := .builtin .append, args := #[s, x], argTypes := #[38, 9] })
    (ht : P.underlying 38 = some (.slice 5)) (hu : P.underlying 9 = some .string) (hinfo : (P.info? 5).map (fun i => (i.zero, i.size, i.bytes)) = some (some (.int .u8 0), 1, 1))
    (v : Value) (acc l : Bytes) (hs : a.eval s = v) (hx : a.eval x = .string (mk l)) (hl : l.length ≤ 100)
    (HO : RB W base v acc) (HB : Below base w0 W) (hbase : base ≤ W.heap.size) (hal : acc.length ≤ 5000000000000)
    (h : ∀ v1 w1, RB w1 base v1 (acc ++ l) → Below base w0 w1 → wpList P ops Q rest (a.put o.dst v1) w1) :
    wpList P ops Q (o :: rest) a W := by
  refine print_append_str base hgd s x 38 9 5 ho ht hu hinfo v (natsB acc) (mk l) hs hx (Kd.own_of_R HO) HB hbase (by rw [Lib.size_eq, mk_data]; simp only [natsB, List.length_map]; omega) ?_
  intro v1 w1 ho1 hb1 _
  have hbl : bytesOf (mk l) = natsB l := by unfold bytesOf; rw [mk_data]; rfl
  rw [hbl, ← natsB_app] at ho1
  exact h v1 w1 (Kd.R_of_own (h1 := fun _ => rfl) ho1 (fun _ _ => trivial)) hb1
end
set_option maxHeartbeats 4000000 in
set_option maxRecDepth 100000 in
theorem quote_calls (s : ByteArray) (hs : s.size ≤ 1099511627776) (hpr : ∀ c ∈ s.data.toList, c = 10 ∨ c = 9 ∨ ¬ (c.toNat < 32 ∨ 126 < c.toNat)) (w : World) :
    Calls Tryz.prog 21 #[.string s] w fun e w' => e = .returned (.string (mk (quoteF s.data.toList))) ∧ Below w.heap.size w w' := by
  have HPr := Lib.hid hpr
  clear hpr
  generalize hT : quoteF s.data.toList = T
  have HT := Lib.hid hT
  clear hT
  have hR0 : RB (w.alloc (.cells #[.int .u8 34] 5)) w.heap.size (.slice (some ⟨w.heap.size, 0, none⟩) 1 1) [34] := by
    refine Kd.R_of_own (h1 := fun _ => rfl) ?_ (fun _ _ => trivial)
    exact own_lit w w.heap.size 5 .u8 [34] (Nat.le_refl _) (by simp)
  have HR0 := Lib.hid hR0
  clear hR0
  go_enter Tryz.func21, Tryz.ntmps21
  go_wp2_with fail
  go_loopg [3, 4, 5, 9] s.size (fun gg s3 _ _ s9 wr => ∃ (kk : Nat) (acc : Bytes), kk ≤ s.size ∧ s.size - kk ≤ gg ∧ s9 = .int .i64 kk ∧ acc.length ≤ 1 + 4 * kk ∧ Aside0 (acc ++ (quoteL (s.data.toList.drop kk) ++ [34]) = T) ∧
    Aside0 (RB wr w.heap.size s3 acc) ∧ Aside0 (Below w.heap.size w wr))
  case atStart => exact ⟨0, [34], Nat.zero_le _, by omega, rfl, by simp, ⟨by rw [← HT.out]; rfl⟩, ⟨HR0.out⟩, ⟨(Below.refl _ _).alloc (Nat.le_refl _) _⟩⟩
  case round =>
    obtain ⟨kk, acc, hkk, hgk, rfl, hacc, HK, HO, HB⟩ := hrel
    by_cases hlt : kk < s.size
    · have hltz : (kk : Int) < (s.size : Int) := by omega
      have hdr : s.data.toList.drop kk = s[kk] :: s.data.toList.drop (kk + 1) := by
        rw [List.drop_eq_getElem_cons (by rw [← Lib.size_eq]; exact hlt)]
        rfl
      have hK := HK.out
      rw [hdr, quoteL] at hK
      have HK2 := Lib.hid hK
      clear hK hdr
      have n8 : ∀ (m : Nat) (k : UInt8), k.toNat = m → (s[kk] = k ↔ s[kk].toNat = m) := fun m k hk => by rw [← UInt8.toNat_inj, hk]
      have H34 := Lib.hid (n8 34 34 rfl)
      have H92 := Lib.hid (n8 92 92 rfl)
      have H10 := Lib.hid (n8 10 10 rfl)
      have H9 := Lib.hid (n8 9 9 rfl)
      clear n8
      have HWB := Lib.hid HB.out.size
      have hal2 : acc.length ≤ 5000000000000 := by omega
      have next : ∀ l : Bytes, quoteC s[kk] = l → acc ++ l ++ (quoteL (s.data.toList.drop (kk + 1)) ++ [34]) = T := fun l hl => by
        rw [← HK2.out, hl]
        simp
      have HN := Lib.hid next
      clear next
      obtain ⟨L1, hL1⟩ : ∃ l : Bytes, l = [s[kk]] := ⟨_, rfl⟩
      obtain ⟨L2, hL2⟩ : ∃ l : Bytes, l = [92, s[kk]] := ⟨_, rfl⟩
      have HC1 : Hid (#[Value.int .u8 s[kk].toNat] = (nums .u8 (natsB L1)).toArray) := by show _ = _; rw [hL1]; rfl
      have HC2 : Hid (#[Value.int .u8 92, .int .u8 s[kk].toNat] = (nums .u8 (natsB L2)).toArray) := by show _ = _; rw [hL2]; rfl
      have HL1 := Lib.hid hL1
      have HL2 := Lib.hid hL2
      have hl1 : L1.length = 1 := by rw [hL1]; rfl
      have hl2 : L2.length = 2 := by rw [hL2]; rfl
      have HM1 : Hid (1 = L1.length) := hl1.symm
      have HM2 : Hid (2 = L2.length) := hl2.symm
      have HX1 : Hid (L1.length ≤ 100) := by show _ ≤ _; omega
      have HX2 : Hid (L2.length ≤ 100) := by show _ ≤ _; omega
      clear hL1 hL2
      by_cases c1 : s[kk].toNat = 34
      · have e1 : ((s[kk].toNat : Int) == 34) = true := by simp; omega
        have HV := Lib.hid (HN.out L2 (by unfold quoteC; rw [if_pos (.inl (H34.out.2 c1)), HL2.out]))
        clear c1
        go_wp2_with (first | ((with_reducible refine gate_builtin (b := .append) (xs := #[.tmp 26, .tmp 28]) rfl ?_); at_builtin; refine RB.app (w0 := w) w.heap.size rfl (.tmp 26) (.tmp 28) rfl Tryz.underlying38 infoU u3 acc L2 _ HC2.out HX2.out 2 HM2.out rfl rfl HO.out HB.out HWB.out hal2 ?_; intro v1 w4 ho hb; have HO4 := Lib.hid ho; have HB4 := Lib.hid hb; clear ho hb))
        go_roundg (s.size - (kk + 1))
        case measure => omega
        case rel => exact ⟨kk + 1, acc ++ L2, by omega, by omega, by first | rfl | go_num, by simp only [List.length_append]; omega, ⟨HV.out⟩, ⟨HO4.out⟩, ⟨HB4.out⟩⟩
      have e1 : ((s[kk].toNat : Int) == 34) = false := by simp; omega
      by_cases c2 : s[kk].toNat = 92
      · have e2 : ((s[kk].toNat : Int) == 92) = true := by simp; omega
        have HV := Lib.hid (HN.out L2 (by unfold quoteC; rw [if_pos (.inr (H92.out.2 c2)), HL2.out]))
        clear c1 c2
        go_wp2_with (first | ((with_reducible refine gate_builtin (b := .append) (xs := #[.tmp 26, .tmp 28]) rfl ?_); at_builtin; refine RB.app (w0 := w) w.heap.size rfl (.tmp 26) (.tmp 28) rfl Tryz.underlying38 infoU u3 acc L2 _ HC2.out HX2.out 2 HM2.out rfl rfl HO.out HB.out HWB.out hal2 ?_; intro v1 w4 ho hb; have HO4 := Lib.hid ho; have HB4 := Lib.hid hb; clear ho hb))
        go_roundg (s.size - (kk + 1))
        case measure => omega
        case rel => exact ⟨kk + 1, acc ++ L2, by omega, by omega, by first | rfl | go_num, by simp only [List.length_append]; omega, ⟨HV.out⟩, ⟨HO4.out⟩, ⟨HB4.out⟩⟩
      have e2 : ((s[kk].toNat : Int) == 92) = false := by simp; omega
      have HQ1 : Hid (¬ (s[kk] = 34 ∨ s[kk] = 92)) := fun h => h.elim (fun h => c1 (H34.out.1 h)) (fun h => c2 (H92.out.1 h))
      clear c1 c2
      by_cases c3 : s[kk].toNat = 10
      · have e3 : ((s[kk].toNat : Int) == 10) = true := by simp; omega
        have HV := Lib.hid (HN.out [92, 110] (by unfold quoteC; rw [if_neg HQ1.out, if_pos (H10.out.2 c3)]))
        clear c3
        go_wp2_with (first | ((with_reducible refine gate_builtin (b := .append) (xs := #[.tmp 33, .const (.string ⟨#[92, 110]⟩)]) rfl ?_); at_builtin; refine RB.str_app (w0 := w) w.heap.size rfl (.tmp 33) (.const (.string ⟨#[92, 110]⟩)) rfl Tryz.underlying38 Tryz.underlying9 infoU u3 acc [92, 110] rfl rfl (by decide) HO.out HB.out HWB.out hal2 ?_; intro v1 w4 ho hb; have HO4 := Lib.hid ho; have HB4 := Lib.hid hb; clear ho hb))
        go_roundg (s.size - (kk + 1))
        case measure => omega
        case rel => exact ⟨kk + 1, acc ++ [92, 110], by omega, by omega, by first | rfl | go_num, by simp; omega, ⟨HV.out⟩, ⟨HO4.out⟩, ⟨HB4.out⟩⟩
      have e3 : ((s[kk].toNat : Int) == 10) = false := by simp; omega
      by_cases c4 : s[kk].toNat = 9
      · have e4 : ((s[kk].toNat : Int) == 9) = true := by simp; omega
        have HV := Lib.hid (HN.out [92, 116] (by unfold quoteC; rw [if_neg HQ1.out, if_neg (fun h => c3 (H10.out.1 h)), if_pos (H9.out.2 c4)]))
        clear c3 c4
        go_wp2_with (first | ((with_reducible refine gate_builtin (b := .append) (xs := #[.tmp 38, .const (.string ⟨#[92, 116]⟩)]) rfl ?_); at_builtin; refine RB.str_app (w0 := w) w.heap.size rfl (.tmp 38) (.const (.string ⟨#[92, 116]⟩)) rfl Tryz.underlying38 Tryz.underlying9 infoU u3 acc [92, 116] rfl rfl (by decide) HO.out HB.out HWB.out hal2 ?_; intro v1 w4 ho hb; have HO4 := Lib.hid ho; have HB4 := Lib.hid hb; clear ho hb))
        go_roundg (s.size - (kk + 1))
        case measure => omega
        case rel => exact ⟨kk + 1, acc ++ [92, 116], by omega, by omega, by first | rfl | go_num, by simp; omega, ⟨HV.out⟩, ⟨HO4.out⟩, ⟨HB4.out⟩⟩
      have e4 : ((s[kk].toNat : Int) == 9) = false := by simp; omega
      have HQ2 : Hid (¬ s[kk] = 10) := fun h => c3 (H10.out.1 h)
      have HQ3 : Hid (¬ s[kk] = 9) := fun h => c4 (H9.out.1 h)
      clear c3 c4
      by_cases c5 : s[kk].toNat < 32 ∨ 126 < s[kk].toNat
      · exfalso
        rcases HPr.out s[kk] (List.getElem_mem (h := by rw [← Lib.size_eq]; exact hlt)) with h | h | h
        · exact HQ2.out h
        · exact HQ3.out h
        · exact h c5
      · have HV := Lib.hid (HN.out L1 (by unfold quoteC; rw [if_neg HQ1.out, if_neg HQ2.out, if_neg HQ3.out, if_neg c5, HL1.out]))
        have e5 : decide ((s[kk].toNat : Int) < 32) = false := by simp; omega
        have e6 : decide ((126 : Int) < (s[kk].toNat : Int)) = false := by simp; omega
        clear c5
        go_wp2_with (first | ((with_reducible refine gate_builtin (b := .append) (xs := #[.tmp 15, .tmp 17]) rfl ?_); at_builtin; refine RB.app (w0 := w) w.heap.size rfl (.tmp 15) (.tmp 17) rfl Tryz.underlying38 infoU u3 acc L1 _ HC1.out HX1.out 1 HM1.out rfl rfl HO.out HB.out HWB.out hal2 ?_; intro v1 w4 ho hb; have HO4 := Lib.hid ho; have HB4 := Lib.hid hb; clear ho hb))
        go_roundg (s.size - (kk + 1))
        case measure => omega
        case rel => exact ⟨kk + 1, acc ++ L1, by omega, by omega, by first | rfl | go_num, by simp only [List.length_append]; omega, ⟨HV.out⟩, ⟨HO4.out⟩, ⟨HB4.out⟩⟩
    · have hltz : ¬ (kk : Int) < (s.size : Int) := by omega
      have HWB := Lib.hid HB.out.size
      have hal : acc.length ≤ 4398046511105 := by omega
      have HV : Hid (T = acc ++ [34]) := by
        show T = _
        rw [← HK.out, List.drop_of_length_le (by rw [← Lib.size_eq]; omega)]
        rfl
      have hal2 : acc.length ≤ 5000000000000 := by omega
      go_wp2_with (first | ((with_reducible refine gate_builtin (b := .append) (xs := #[.tmp 57, .tmp 58]) rfl ?_); at_builtin; refine RB.app (w0 := w) w.heap.size rfl (.tmp 57) (.tmp 58) rfl Tryz.underlying38 infoU u3 acc [34] #[.int .u8 34] rfl (by decide) 1 rfl rfl rfl HO.out HB.out HWB.out hal2 ?_; intro v1 w4 ho hb; have hcv := RB.str ho; have HB4 := Lib.hid hb; clear ho hb))
      go_ret
      rw [HV.out]
      exact ⟨rfl, HB4.out⟩

end Go.Proofs.YthagibkmfgodgaaGreatDoor.X

namespace Go.Proofs.YthagibkmfgodgaaGreatDoor.X
open Go.RowKit Go.Maps Go.Proofs.YthagibkmfgodgaaGreatDoorW.PrintWords Go.Proofs.YthagibkmfgodgaaGreatDoorW.PrintMore Go.Proofs.YthagibkmfgodgaaGreatDoorW.PrintLast

theorem app_mk (a b : Bytes) : mk a ++ mk b = mk (a ++ b) := by
  apply data_inj
  rw [mk_data, ByteArray.data_append, Array.toList_append, mk_data, mk_data]
abbrev datas (l : List ByteArray) : List Bytes := l.map fun x => x.data.toList
theorem join_f {l : List ByteArray} {sep : Bytes} (hl : l.length * 16 ≤ 140737488355328) (hsum : (Lib.join (datas l) sep).length ≤ 70368744177664) : strings_Join.f l (mk sep) = some (mk (Lib.join (datas l) sep)) := by
  unfold strings_Join.f
  rw [mk_data, if_pos ⟨by omega, Nat.le_trans hsum (by omega)⟩]
def clauseF (word : Bytes) (l : List ByteArray) : Bytes := if l = [] then [] else [32, 32] ++ word ++ [32] ++ Lib.join (datas l) [44, 32] ++ [59, 10]
set_option maxHeartbeats 2000000 in
theorem clause_calls (word : Bytes) (A : Option Addr) (c : Nat) (l : List ByteArray) (w : World) (hG : GOK w) (hr : Kd.C Kd.string w A l.length l) (hc : l.length ≤ c) (hw : word.length ≤ 100) (hl : l.length * 16 ≤ 140737488355328) (hsum : (Lib.join (datas l) [44, 32]).length ≤ 70368744177664) :
    Calls Tryz.prog 80 #[.string (mk word), .slice A l.length c] w fun e w' => e = .returned (.string (mk (clauseF word l))) ∧ Below w.heap.size w w' := by
  by_cases h0 : l = []
  · have hd : ((l.length : Int) == 0) = true := by rw [h0]; rfl
    have HE : Hid (clauseF word l = []) := by show _ = _; unfold clauseF; rw [if_pos h0]
    clear h0 hr
    go_enter Tryz.func80, Tryz.ntmps80
    go_wp2
    go_ret
    exact ⟨by rw [HE.out]; rfl, Below.refl _ _⟩
  · have hpos : 0 < l.length := List.length_pos_iff.2 h0
    have hd : ((l.length : Int) == 0) = false := by simp; exact h0
    have HE : Hid (clauseF word l = [32, 32] ++ word ++ [32] ++ Lib.join (datas l) [44, 32] ++ [59, 10]) := by show _ = _; unfold clauseF; rw [if_neg h0]
    have hJ := strings_Join.calls A c l (mk [44, 32]) (mk (Lib.join (datas l) [44, 32])) w hG hr hc (join_f hl hsum)
    generalize Lib.join (datas l) [44, 32] = J at HE hJ hsum
    have n1 : ¬ 9223372036854775807 < 2 + (mk word).size := by rw [mk_size]; omega
    have n2 : ¬ 9223372036854775807 < 2 + (mk word).size + 1 := by rw [mk_size]; omega
    have n3 : ¬ 9223372036854775807 < 2 + (mk word).size + 1 + (mk J).size := by rw [mk_size, mk_size]; omega
    have n4 : ¬ 9223372036854775807 < 2 + (mk word).size + 1 + (mk J).size + 2 := by rw [mk_size, mk_size]; omega
    clear h0 hr
    go_enter Tryz.func80, Tryz.ntmps80
    go_wp2_with (go_at_call 68; refine hJ.mono ?_; rintro e w2 ⟨rfl, hb2⟩)
    go_ret
    refine ⟨?_, hb2⟩
    rw [HE.out, ← app_mk, ← app_mk, ← app_mk, ← app_mk]
    rfl

def quoteS (x : ByteArray) : ByteArray := mk (quoteF x.data.toList)
def PlainB (x : ByteArray) : Prop := x.size ≤ 1099511627776 ∧ ∀ c ∈ x.data.toList, c = 10 ∨ c = 9 ∨ ¬ (c.toNat < 32 ∨ 126 < c.toNat)
def stepL (s : SStep) : List ByteArray := [s.f0, ⟨#[61]⟩, opNameF s.f1] ++ s.f3.map quoteS ++ s.f2
def stepT (s : SStep) : Bytes := Lib.join (datas (stepL s)) [32] ++ [59]
set_option maxHeartbeats 4000000 in
set_option maxRecDepth 100000 in
theorem pstep_calls (s : SStep) (A2 : Option Addr) (c2 : Nat) (A3 : Option Addr) (c3 : Nat) (w : World) (hG : GOK w) (h2 : Kd.C Kd.string w A2 s.f2.length s.f2) (h3 : Kd.C Kd.string w A3 s.f3.length s.f3)
    (h9 : s.f1 ≠ 9) (hpr : ∀ x ∈ s.f3, PlainB x) (hl2 : s.f2.length ≤ 1000) (hl3 : s.f3.length ≤ 1000) (hsum : (Lib.join (datas (stepL s)) [32]).length ≤ 70368744177664) :
    Calls Tryz.prog 39 #[.agg #[.string s.f0, .int .i64 s.f1, .slice A2 s.f2.length c2, .slice A3 s.f3.length c3, .int .i64 s.f4]] w fun e w' => e = .returned (.string (mk (stepT s))) ∧ Below w.heap.size w w' := by
  have hB0 := (Below.refl w.heap.size w).alloc (Nat.le_refl _) (.cells #[.string s.f0, .int .i64 s.f1, .slice A2 s.f2.length c2, .slice A3 s.f3.length c3, .int .i64 s.f4] 62)
  have hb0 := blk_new w (.cells #[.string s.f0, .int .i64 s.f1, .slice A2 s.f2.length c2, .slice A3 s.f3.length c3, .int .i64 s.f4] 62)
  have HB0 := Lib.hid hB0
  have HBlk := Lib.hid hb0
  have HG := Lib.hid hG
  have HPr := Lib.hid hpr
  have HSum := Lib.hid hsum
  have H2 := Lib.hid h2
  have H3 := Lib.hid h3
  have e9 : (s.f1 == 9) = false := by simpa using h9
  clear hB0 hb0 hG hpr hsum h9
  go_enter Tryz.func39, Tryz.ntmps39
  go_wp2
  generalize w.alloc (.cells #[.string s.f0, .int .i64 s.f1, .slice A2 s.f2.length c2, .slice A3 s.f3.length c3, .int .i64 s.f4] 62) = w1 at HB0 HBlk ⊢
  have k0 : w1.cell? ⟨w.heap.size, 0, none⟩ = some (.string s.f0) := (blk_cell HBlk.out 0).trans rfl
  have k1 : w1.cell? ⟨w.heap.size, 1, none⟩ = some (.int .i64 s.f1) := (blk_cell HBlk.out 1).trans rfl
  have hOp := opName_calls s.f1 w1.drew
  have HB0d := Lib.hid (below_drew HB0.out)
  have HBd := Lib.hid (blk_drew HBlk.out)
  go_region_law (first | (go_simp; go_at_call 35; refine hOp.mono ?_; rintro e w2 ⟨rfl, hb2⟩; have HB2 := Lib.hid (below_then HB0d.out HB0d.out.size hb2); have HBlk2 := Lib.hid (blk_below HBd.out hb2); have k02 : w2.cell? ⟨w.heap.size, 0, none⟩ = some (.string s.f0) := (blk_cell HBlk2.out 0).trans rfl; clear hb2))
  all_goals
    have k13 : ∀ ob : Obj, (w2.alloc ob).cell? ⟨w.heap.size, 1, none⟩ = some (.int .i64 s.f1) := fun ob => (blk_cell (blk_alloc HBlk2.out ob) 1).trans rfl
    have k33 : ∀ ob : Obj, (w2.alloc ob).cell? ⟨w.heap.size, 3, none⟩ = some (.slice A3 s.f3.length c3) := fun ob => (blk_cell (blk_alloc HBlk2.out ob) 3).trans rfl
    have HB3 := Lib.hid (HB2.out.alloc HB2.out.size (.cells #[.string s.f0, .string ⟨#[61]⟩, .string (opNameF s.f1)] 9))
    have HBlk3 := Lib.hid (blk_alloc HBlk2.out (.cells #[.string s.f0, .string ⟨#[61]⟩, .string (opNameF s.f1)] 9))
    have HL3 : Hid (RS (w2.alloc (.cells #[.string s.f0, .string ⟨#[61]⟩, .string (opNameF s.f1)] 9)) w.heap.size (.slice (some ⟨w2.heap.size, 0, none⟩) 3 3) [s.f0, ⟨#[61]⟩, opNameF s.f1]) := rs_lit w2 w.heap.size [s.f0, ⟨#[61]⟩, opNameF s.f1] HB2.out.size (by simp)
    go_wp2_with fail
    generalize w2.alloc (.cells #[.string s.f0, .string ⟨#[61]⟩, .string (opNameF s.f1)] 9) = w3 at HB3 HBlk3 HL3 ⊢
    generalize (some (⟨w2.heap.size, 0, none⟩ : Addr)) = AL at HL3 ⊢
    clear k02 HBlk2 HB2 k13 k33
    go_loopg [3, 5, 24] s.f3.length (fun gg s3 _ s24 wr => ∃ (kk : Nat) (A : Option Addr) (c : Nat), kk ≤ s.f3.length ∧ s.f3.length - kk ≤ gg ∧ s24 = .int .i64 kk ∧ s3 = .slice A (3 + kk) c ∧ 3 + kk ≤ c ∧
      Aside0 (RS wr w.heap.size (.slice A (3 + kk) c) ([s.f0, ⟨#[61]⟩, opNameF s.f1] ++ (s.f3.take kk).map quoteS)) ∧ Aside0 (Below w.heap.size w wr) ∧
      Aside0 (wr.heap[w.heap.size]? = some (.cells #[.string s.f0, .int .i64 s.f1, .slice A2 s.f2.length c2, .slice A3 s.f3.length c3, .int .i64 s.f4] 62 (0, 0))))
    case atStart => exact ⟨0, AL, 3, Nat.zero_le _, by omega, rfl, rfl, by omega, ⟨by simpa using HL3.out⟩, ⟨HB3.out⟩, ⟨HBlk3.out⟩⟩
    case round =>
      obtain ⟨kk, A, c, hkk, hgk, rfl, rfl, hcc, HO, HB, HBk⟩ := hrel
      by_cases hlt : kk < s.f3.length
      · have hltz : (kk : Int) < (s.f3.length : Int) := by omega
        rcases row_open (Kd.C_below H3.out HB.out) with h0 | ⟨b, o, rfl, _, hcell⟩
        · rw [h0] at hlt; simp at hlt
        · have hx : wr.cell? ⟨b, o + kk, none⟩ = some (.string (s.f3.getD kk ByteArray.empty)) := hcell kk hlt
          obtain ⟨y, hy⟩ : ∃ y, y = s.f3.getD kk ByteArray.empty := ⟨_, rfl⟩
          rw [← hy] at hx
          have hym : y = s.f3[kk] := by rw [hy]; simp [List.getD_eq_getElem?_getD, List.getElem?_eq_getElem hlt]
          have hyP := HPr.out y (by rw [hym]; exact List.getElem_mem _)
          have hq := fun W => quote_calls y hyP.1 hyP.2 W
          have HN : Hid ((s.f3.take kk).map quoteS ++ [quoteS y] = (s.f3.take (kk + 1)).map quoteS) := by
            show _ = _
            rw [List.take_succ_eq_append_getElem hlt, List.map_append, hym]
            rfl
          have HNl : Hid (([s.f0, (⟨#[61]⟩ : ByteArray), opNameF s.f1] ++ (s.f3.take kk).map quoteS).length = 3 + kk) := by
            show _ = _
            simp only [List.length_append, List.length_map, List.length_take, List.length_cons, List.length_nil]
            omega
          clear hcell hy hym hyP
          go_wp2_with (first | (go_at_call 21; refine (hq _).mono ?_; rintro e w4 ⟨rfl, hb4⟩; have HB4 := Lib.hid (below_then HB.out HB.out.size hb4); have HO4 := Lib.hid (Kd.R_below HO.out hb4); have HBk4 := Lib.hid (blk_below HBk.out hb4); have HS4 : Hid (w.heap.size ≤ w4.heap.size) := HB4.out.size; clear hb4) | ((with_reducible refine gate_builtin (b := .append) (xs := #[.tmp 28, .tmp 31]) rfl ?_); at_builtin; refine Kd.R_append Kd.string (w0 := w) w.heap.size rfl (.tmp 28) (.tmp 31) 46 9 (.string ⟨#[]⟩) 16 rfl Tryz.underlying46 infoStr rfl (by decide) (by decide) (.slice A (3 + kk) c) ([s.f0, ⟨#[61]⟩, opNameF s.f1] ++ (s.f3.take kk).map quoteS) (quoteS y) [.string (quoteS y)] (fun _ => True) (fun k_ => True ∧ some k_ ≠ (Value.slice A (3 + kk) c).ownBlock) rfl rfl rfl (fun _ hk => hk) (fun _ _ => trivial) HO4.out HB4.out HS4.out ?aL ?_; (case aL => rw [HNl.out]; omega); intro v1 w5 ho hb hg hat; obtain ⟨AN, cN, rfl, hcN, _⟩ := Kd.R_reads ho; have HO5 := Lib.hid ho; have HB5 := Lib.hid hb; have HBk5 := Lib.hid (blk_grown HBk4.out hg (Kd.R_ne HO4.out HBk4.out (by decide))); have HcN := Lib.hid hcN; clear ho hb hg hat hcN))
          have hLn : ([s.f0, (⟨#[61]⟩ : ByteArray), opNameF s.f1] ++ (s.f3.take kk).map quoteS ++ [quoteS y]).length = 3 + (kk + 1) := by rw [List.length_append, HNl.out]; rfl
          have hO5 := HO5.out
          have hcN := HcN.out
          rw [hLn] at hO5 hcN
          rw [List.append_assoc, HN.out] at hO5
          go_roundg (s.f3.length - (kk + 1))
          case measure => omega
          case rel =>
            exact ⟨kk + 1, AN, cN, by omega, by omega, by go_num, by first | rfl | (congr 1; omega) | (simp; omega), hcN, ⟨hO5⟩, ⟨HB5.out⟩, ⟨HBk5.out⟩⟩
      · have hltz : ¬ (kk : Int) < (s.f3.length : Int) := by omega
        obtain rfl : kk = s.f3.length := by omega
        have hLL : [s.f0, (⟨#[61]⟩ : ByteArray), opNameF s.f1] ++ (s.f3.take s.f3.length).map quoteS ++ s.f2 = stepL s := by rw [List.take_length]; rfl
        have hLn : ([s.f0, (⟨#[61]⟩ : ByteArray), opNameF s.f1] ++ (s.f3.take s.f3.length).map quoteS).length = 3 + s.f3.length := by
          simp only [List.length_append, List.length_map, List.length_take, List.length_cons, List.length_nil, Nat.min_self]
        have HLL := Lib.hid hLL
        have HLn := Lib.hid hLn
        have HWB := Lib.hid HB.out.size
        have H2r := Lib.hid (Kd.C_below H2.out HB.out)
        have k2 : wr.cell? ⟨w.heap.size, 2, none⟩ = some (.slice A2 s.f2.length c2) := (blk_cell HBk.out 2).trans rfl
        have hlS : (stepL s).length = 3 + s.f3.length + s.f2.length := by rw [← hLL, List.length_append, hLn]
        have HlS : Hid ((stepL s).length * 16 ≤ 140737488355328) := by show _ ≤ _; rw [hlS]; omega
        clear hLL hLn hlS
        go_wp2_with (first | ((with_reducible refine gate_builtin (b := .append) (xs := #[.tmp 34, .tmp 36]) rfl ?_); at_builtin; refine Kd.R_append_rows Kd.string (Rr := Kd.string.K wr) (w0 := w) w.heap.size rfl (.tmp 34) (.tmp 36) 46 9 (.string ⟨#[]⟩) 16 rfl Tryz.underlying46 infoStr rfl (by decide) (by decide) (.slice A (3 + s.f3.length) c) ([s.f0, ⟨#[61]⟩, opNameF s.f1] ++ (s.f3.take s.f3.length).map quoteS) s.f2 A2 s.f2.length c2 (fun _ => True) (fun k_ => True ∧ some k_ ≠ (Value.slice A (3 + s.f3.length) c).ownBlock) rfl rfl HO.out H2r.out (fun _ _ h => h) (fun _ hk => hk) (fun _ _ => trivial) HB.out HWB.out ?aL ?_; (case aL => rw [HLn.out]; omega); intro v1 w5 ho hb hg hat; rw [HLL.out] at ho; obtain ⟨AN, cN, rfl, hcN, hrN⟩ := Kd.R_reads ho; have HB5 := Lib.hid hb; have HcN := Lib.hid hcN; have HrN := Lib.hid hrN; have hJ := strings_Join.calls AN cN (stepL s) (mk [32]) (mk (Lib.join (datas (stepL s)) [32])) w5 (HG.out.below hb) hrN hcN (join_f HlS.out HSum.out); have hn1 : ¬ 9223372036854775807 < (mk (Lib.join (datas (stepL s)) [32])).size + 1 := (by rw [mk_size]; have := HSum.out; omega); clear ho hb hg hat hcN hrN) | (go_at_call 68; refine hJ.mono ?_; rintro e w6 ⟨rfl, hb6⟩; have HB6 := Lib.hid (below_then HB5.out HB5.out.size hb6); clear hb6))
        go_ret
        refine ⟨?_, HB6.out⟩
        unfold stepT
        rw [← app_mk]
        rfl

end Go.Proofs.YthagibkmfgodgaaGreatDoor.X

namespace Go.Proofs.YthagibkmfgodgaaGreatDoor.X
open Go.RowKit Go.Maps Go.Proofs.YthagibkmfgodgaaGreatDoorW.PrintWords Go.Proofs.YthagibkmfgodgaaGreatDoorW.PrintMore Go.Proofs.YthagibkmfgodgaaGreatDoorW.PrintLast

/-- A slice as it lies in a cell. -/
structure Sl where
  a : Option Addr
  n : Nat
  c : Nat
def Sl.v (s : Sl) : Value := .slice s.a s.n s.c
def kSl : Kd Sl := Kd.scalar Sl.v (fun _ => rfl)
abbrev Sh := ByteArray × Int × Sl × Sl × Int
def kSh : Kd Sh := Kd.pair Kd.string (Kd.pair (Kd.int .i64) (Kd.pair kSl (Kd.pair kSl (Kd.int .i64))))
theorem sh_K {w : World} (x : Sh) {cs : List Value} : kSh.K w x cs ↔ cs = [.string x.1, .int .i64 x.2.1, x.2.2.1.v, x.2.2.2.1.v, .int .i64 x.2.2.2.2] := by
  constructor
  · rintro ⟨_, _, rfl, rfl, _, _, rfl, rfl, _, _, rfl, rfl, _, _, rfl, rfl, rfl⟩
    rfl
  · rintro rfl
    exact ⟨[_], [_, _, _, _], rfl, rfl, [_], [_, _, _], rfl, rfl, [_], [_, _], rfl, rfl, [_], [_], rfl, rfl, rfl⟩
theorem sh_M {w : World} {base : Nat} {ok : Nat → Prop} (x : Sh) {cs : List Value} : kSh.M w base ok x cs ↔ cs = [.string x.1, .int .i64 x.2.1, x.2.2.1.v, x.2.2.2.1.v, .int .i64 x.2.2.2.2] := by
  constructor
  · rintro ⟨_, _, rfl, rfl, _, _, rfl, rfl, _, _, rfl, rfl, _, _, rfl, rfl, rfl⟩
    rfl
  · rintro rfl
    exact ⟨[_], [_, _, _, _], rfl, rfl, [_], [_, _, _], rfl, rfl, [_], [_, _], rfl, rfl, [_], [_], rfl, rfl, rfl⟩
set_option maxHeartbeats 4000000 in
set_option maxRecDepth 100000 in
theorem cloneS_calls (ad : Addr) (c : Nat) (l : List Sh) (w : World) (hr : Kd.C kSh w (some ad) l.length l) (hl : l.length ≤ 1000) :
    Calls Tryz.prog 93 #[.slice (some ad) l.length c] w fun e w' => ∃ v, e = .returned v ∧ Kd.R kSh 62 w' w.heap.size (fun _ => True) v l ∧ Below w.heap.size w w' := by
  have HO : Hid (Kd.R kSh 62 (w.alloc (.cells #[] 62)) w.heap.size (fun _ => True) (.slice (some ⟨w.heap.size, 0, none⟩) 0 0) []) :=
    ⟨fun _ _ => trivial, OwnRow.lit (ps := []) (inner := []) w w.heap.size (Reps.none _ _) (Nat.le_refl _) (by simp)⟩
  have HC := Lib.hid (Kd.C_below hr ((Below.refl w.heap.size w).alloc (Nat.le_refl _) (.cells #[] 62)))
  have HB := Lib.hid ((Below.refl w.heap.size w).alloc (Nat.le_refl _) (.cells #[] 62))
  have hnil : ∀ W, (binOp .eql 47 (.slice (some ad) l.length c) (.slice none 0 0)).run Tryz.prog W = .ok (.bool false) W := fun _ => rfl
  clear hr
  go_enter Tryz.func93, Tryz.ntmps93
  go_wp2_with (first | ((with_reducible refine gate_builtin (b := .append) (xs := #[.tmp 5, .tmp 6]) rfl ?_); at_builtin; refine Kd.R_append_rows kSh (Rr := kSh.K (w.alloc (.cells #[] 62))) (w0 := w) w.heap.size rfl (.tmp 5) (.tmp 6) 47 62 (.agg #[.string ⟨#[]⟩, .int .i64 0, .slice none 0 0, .slice none 0 0, .int .i64 0]) 80 rfl Tryz.underlying47 info62 rfl (by decide) (by decide) (.slice (some ⟨w.heap.size, 0, none⟩) 0 0) [] l (some ad) l.length c (fun _ => True) (fun k_ => True ∧ some k_ ≠ (Value.slice (some (⟨w.heap.size, 0, none⟩ : Addr)) 0 0).ownBlock) rfl rfl HO.out HC.out (fun x cs h => (sh_M x).2 ((sh_K x).1 h)) (fun _ hk => hk) (fun _ _ => trivial) HB.out HB.out.size ?aL ?_; (case aL => simp; omega); intro v1 w4 ho hb hg hat; have HO4 := Lib.hid ho; have HB4 := Lib.hid hb; clear ho hb hg hat))
  go_ret
  exact ⟨v1, rfl, HO4.out, HB4.out⟩

end Go.Proofs.YthagibkmfgodgaaGreatDoor.X

namespace Go.Proofs.YthagibkmfgodgaaGreatDoor.X
open Go.RowKit Go.Maps Go.Proofs.YthagibkmfgodgaaGreatDoorW.PrintWords Go.Proofs.YthagibkmfgodgaaGreatDoorW.PrintMore Go.Proofs.YthagibkmfgodgaaGreatDoorW.PrintLast
set_option linter.unusedSimpArgs false

theorem not_blk {α : Type} {d : Kd α} {e base : Nat} {v : Value} {xs : List α} {W W0 : World} {G : Nat} (h : d.R e W W0.heap.size (fun _ => True) v xs) (hG : G < W0.heap.size) (hb : base ≤ W0.heap.size) : d.R e W base (fun k => k ≠ G) v xs :=
  Kd.R_lower (Kd.R_mono (Kd.R_bound h) (fun k hk e => by have := hk.2.1; omega)) hb
theorem cur_set {cur : Array Value} {i j : Nat} {u v : Value} (h : cur[j]? = some v) (_ : u = u) (hij : i ≠ j) : (cur.setIfInBounds i u)[j]? = some v := by
  rw [Array.getElem?_setIfInBounds, if_neg hij]; exact h
theorem rising_len (l : List ByteArray) : (risingF l).length = l.length := by unfold risingF; rw [List.length_map, List.length_mergeSort, List.length_map]
/-- What one answers, for a rule of one step. -/
def IsOne (f0 : ByteArray) (l1 l2 l3 : List ByteArray) (x : SStep) (w : World) (e : Ending) (w' : World) : Prop :=
  ∃ X1 d1 X2 d2 X3 d3 X4 d4, e = .returned (.agg #[.string f0, .slice X1 l1.length d1, .slice X2 l2.length d2, .slice X3 l3.length d3, .slice X4 1 d4]) ∧
    RS w' w.heap.size (.slice X1 l1.length d1) l1 ∧ RS w' w.heap.size (.slice X2 l2.length d2) l2 ∧ RS w' w.heap.size (.slice X3 l3.length d3) l3 ∧ Kd.R k62 62 w' w.heap.size (fun _ => True) (.slice X4 1 d4) [x] ∧ Below w.heap.size w w'
set_option maxHeartbeats 8000000 in
set_option maxRecDepth 100000 in
theorem one_calls (f0 : ByteArray) (l1 l2 l3 : List ByteArray) (x : SStep) (A1 : Option Addr) (c1 : Nat) (A2 : Option Addr) (c2 : Nat) (A3 : Option Addr) (c3 : Nat) (A4 : Option Addr) (c4 : Nat) (w : World)
    (h1 : Kd.C Kd.string w A1 l1.length l1) (h2 : Kd.C Kd.string w A2 l2.length l2) (h3 : Kd.C Kd.string w A3 l3.length l3) (h4 : Kd.C k62 w A4 1 [x])
    (hl1 : l1.length * 16 ≤ 140737488355328) (hl2 : l2.length * 16 ≤ 140737488355328) (hl3 : l3.length * 16 ≤ 140737488355328) (hl5 : x.f2.length * 16 ≤ 140737488355328) (hl6 : x.f3.length * 16 ≤ 140737488355328) :
    Calls Tryz.prog 62 #[.agg #[.string f0, .slice A1 l1.length c1, .slice A2 l2.length c2, .slice A3 l3.length c3, .slice A4 1 c4]] w (IsOne f0 (risingF l1) (risingF l2) (risingF l3) x w) := by
  obtain ⟨ad, cs, rfl, hcl, hK, hcell⟩ := Kd.C_get h4 x 0 (by decide) (by decide)
  obtain ⟨A5, c5, A6, c6, hcs, hc5, h5, hc6, h6⟩ := k62_open hK
  subst hcs
  have hsh : Kd.C kSh w (some ad) [((x.f0, x.f1, ⟨A5, x.f2.length, c5⟩, ⟨A6, x.f3.length, c6⟩, x.f4) : Sh)].length [((x.f0, x.f1, ⟨A5, x.f2.length, c5⟩, ⟨A6, x.f3.length, c6⟩, x.f4) : Sh)] := by
    refine ⟨rfl, by simp, fun _ => ⟨ad, rfl, fun j p hj => ?_⟩⟩
    match j, hj with
    | 0, hj =>
      simp at hj
      subst hj
      exact ⟨_, rfl, (sh_K _).2 rfl, hcell⟩
    | j + 1, hj => simp at hj
  have hb1 := (Below.refl w.heap.size w).alloc (Nat.le_refl _) (.cells #[.string f0, .slice A1 l1.length c1, .slice A2 l2.length c2, .slice A3 l3.length c3, .slice (some ad) 1 c4] 49)
  have hb2 := hb1.alloc hb1.size (.cells RUz 49)
  have hk := blk_alloc (blk_new w (.cells #[.string f0, .slice A1 l1.length c1, .slice A2 l2.length c2, .slice A3 l3.length c3, .slice (some ad) 1 c4] 49)) (.cells RUz 49)
  have hz := blk_new (w.alloc (.cells #[.string f0, .slice A1 l1.length c1, .slice A2 l2.length c2, .slice A3 l3.length c3, .slice (some ad) 1 c4] 49)) (.cells RUz 49)
  rw [World.size_alloc] at hz
  have HB2 := Lib.hid hb2
  have HK2 := Lib.hid hk
  have HZ2 := Lib.hid hz
  have H1 := Lib.hid h1
  have H2 := Lib.hid h2
  have H3 := Lib.hid h3
  have H4 := Lib.hid hsh
  have H5 := Lib.hid h5
  have H6 := Lib.hid h6
  have HL1 := Lib.hid hl1
  have HL2 := Lib.hid hl2
  have HL3 := Lib.hid hl3
  have HL5 := Lib.hid hl5
  have HL6 := Lib.hid hl6
  clear hb1 hb2 hk hz h1 h2 h3 h4 hl1 hl2 hl3 hl5 hl6 hcl hK hcell hc5 h5 hc6 h6 hsh
  go_enter Tryz.func62, Tryz.ntmps62
  go_wp2
  generalize (w.alloc (.cells #[.string f0, .slice A1 l1.length c1, .slice A2 l2.length c2, .slice A3 l3.length c3, .slice (some ad) 1 c4] 49)).alloc (.cells RUz 49) = w2 at HB2 HK2 HZ2 ⊢
  have HBwd := Lib.hid (below_drew HB2.out)
  have HKwd := Lib.hid (blk_drew HK2.out)
  have HZwd := Lib.hid (blk_drew HZ2.out)
  have HC1wd := Lib.hid (Kd.C_below H1.out HBwd.out)
  have HC2wd := Lib.hid (Kd.C_below H2.out HBwd.out)
  have HC3wd := Lib.hid (Kd.C_below H3.out HBwd.out)
  have k1wd : w2.drew.cell? ⟨w.heap.size, 1, none⟩ = some (.slice A1 l1.length c1) := (blk_cell HKwd.out 1).trans rfl
  have k2wd : w2.drew.cell? ⟨w.heap.size, 2, none⟩ = some (.slice A2 l2.length c2) := (blk_cell HKwd.out 2).trans rfl
  have k3wd : w2.drew.cell? ⟨w.heap.size, 3, none⟩ = some (.slice A3 l3.length c3) := (blk_cell HKwd.out 3).trans rfl
  clear HB2 HK2 HZ2 H1 H2 H3
--REG1
  refine start_ (n := 15) (S := fun w' => w'.cell? ⟨w.heap.size, 1, none⟩ = some (.slice A1 l1.length c1) ∧ w'.cell? ⟨w.heap.size, 2, none⟩ = some (.slice A2 l2.length c2) ∧ w'.cell? ⟨w.heap.size, 3, none⟩ = some (.slice A3 l3.length c3)) (ds := [10, 12, 14]) #[false, false, false, false, false, false, false, false, false, false, false, false, false, false, false] (by kernel_rfl) rfl rfl ⟨k1wd, k2wd, k3wd⟩ (fun hHeld => ?_)
  refine pure_ (i := 0) (N := some 4) (v := ?_) (a' := ?_) #[true, false, false, false, false, false, false, false, false, false, false, false, false, false, false] rfl rfl (by kernel_rfl) (fun _ _ _ h => h) (Or.inl ⟨by rfl, ?_⟩) ?_ ?_
  rotate_left
  · intro w'
    go_simp
    with_reducible rfl
  rotate_left
  · simp only [Act.put, List.setIfInBounds_toArray, List.set_cons_zero, List.set_cons_succ, i64_w, i32_w]
    rfl
  refine pure_ (i := 3) (N := some 7) (v := ?_) (a' := ?_) #[true, false, false, true, false, false, false, false, false, false, false, false, false, false, false] rfl rfl (by kernel_rfl) (fun _ _ _ h => h) (Or.inl ⟨by rfl, ?_⟩) ?_ ?_
  rotate_left
  · intro w'
    go_simp
    with_reducible rfl
  rotate_left
  · simp only [Act.put, List.setIfInBounds_toArray, List.set_cons_zero, List.set_cons_succ, i64_w, i32_w]
    rfl
  refine pure_ (i := 6) (N := some 10) (v := ?_) (a' := ?_) #[true, false, false, true, false, false, true, false, false, false, false, false, false, false, false] rfl rfl (by kernel_rfl) (fun _ _ _ h => h) (Or.inl ⟨by rfl, ?_⟩) ?_ ?_
  rotate_left
  · intro w'
    go_simp
    with_reducible rfl
  rotate_left
  · simp only [Act.put, List.setIfInBounds_toArray, List.set_cons_zero, List.set_cons_succ, i64_w, i32_w]
    rfl
  refine take_ (i := 1) (N := some 5) (v := ?_) (a' := ?_) #[true, true, false, true, false, false, true, false, false, false, false, false, false, false, false] rfl rfl (by kernel_rfl) (fun _ _ _ h => h) (Or.inl ⟨by rfl, ?_⟩) hHeld ?_ ?_
  rotate_left
  · rintro w' ⟨s0, s1, s2⟩
    go_simp
    with_reducible rfl
  rotate_left
  · simp only [Act.put, List.setIfInBounds_toArray, List.set_cons_zero, List.set_cons_succ, i64_w, i32_w]
    rfl
  refine take_ (i := 4) (N := some 8) (v := ?_) (a' := ?_) #[true, true, false, true, true, false, true, false, false, false, false, false, false, false, false] rfl rfl (by kernel_rfl) (fun _ _ _ h => h) (Or.inl ⟨by rfl, ?_⟩) hHeld ?_ ?_
  rotate_left
  · rintro w' ⟨s0, s1, s2⟩
    go_simp
    with_reducible rfl
  rotate_left
  · simp only [Act.put, List.setIfInBounds_toArray, List.set_cons_zero, List.set_cons_succ, i64_w, i32_w]
    rfl
  refine take_ (i := 7) (N := some 11) (v := ?_) (a' := ?_) #[true, true, false, true, true, false, true, true, false, false, false, false, false, false, false] rfl rfl (by kernel_rfl) (fun _ _ _ h => h) (Or.inl ⟨by rfl, ?_⟩) hHeld ?_ ?_
  rotate_left
  · rintro w' ⟨s0, s1, s2⟩
    go_simp
    with_reducible rfl
  rotate_left
  · simp only [Act.put, List.setIfInBounds_toArray, List.set_cons_zero, List.set_cons_succ, i64_w, i32_w]
    rfl
  refine one_ (i := 2) (N := some 6) #[true, true, true, true, true, false, true, true, false, false, false, false, false, false, false] rfl rfl (by kernel_rfl) (by decide) (fun K hK => ?_)
  refine goes_ Tryz.func92 (by kernel_rfl) rfl #[.slice A1 l1.length c1] (by rfl) rfl rfl (by simp only [List.map_toArray, List.map_cons, List.map_nil]; rfl) ?_
  with_reducible refine (rising_calls A1 c1 l1 _ HC1wd.out HL1.out).mono ?_
  rintro e wa ⟨v1, rfl, ho1, hb1⟩
  obtain ⟨X1, d1, rfl, _, _⟩ := Kd.R_reads ho1
  refine ⟨_, rfl, ?_⟩
  have HBwa := Lib.hid (below_then HBwd.out HBwd.out.size hb1)
  have HKwa := Lib.hid (blk_below HKwd.out hb1)
  have HZwa := Lib.hid (blk_below HZwd.out hb1)
  have HC2wa := Lib.hid (Kd.C_below HC2wd.out hb1)
  have HC3wa := Lib.hid (Kd.C_below HC3wd.out hb1)
  have HO1wa := Lib.hid (Kd.R_lower ho1 HBwd.out.size)
  have k1wa : wa.cell? ⟨w.heap.size, 1, none⟩ = some (.slice A1 l1.length c1) := (blk_cell HKwa.out 1).trans rfl
  have k2wa : wa.cell? ⟨w.heap.size, 2, none⟩ = some (.slice A2 l2.length c2) := (blk_cell HKwa.out 2).trans rfl
  have k3wa : wa.cell? ⟨w.heap.size, 3, none⟩ = some (.slice A3 l3.length c3) := (blk_cell HKwa.out 3).trans rfl
  clear ho1 hb1
  refine hK.out _ _ ⟨k1wa, k2wa, k3wa⟩ (fun hHeld => ?_)
  clear hK K
  refine norm_ (a' := ?_) ?_ ?_
  rotate_left
  · show Act.put _ (some 6) _ = _
    simp only [Act.put, List.setIfInBounds_toArray, List.set_cons_zero, List.set_cons_succ, i64_w, i32_w]
    rfl
  refine pure_ (i := 9) (N := some 13) (v := ?_) (a' := ?_) #[true, true, true, true, true, false, true, true, false, true, false, false, false, false, false] rfl rfl (by kernel_rfl) (fun _ _ _ h => h) (Or.inl ⟨by rfl, ?_⟩) ?_ ?_
  rotate_left
  · intro w'
    go_simp
    with_reducible rfl
  rotate_left
  · simp only [Act.put, List.setIfInBounds_toArray, List.set_cons_zero, List.set_cons_succ, i64_w, i32_w]
    rfl
  refine one_ (i := 5) (N := some 9) #[true, true, true, true, true, true, true, true, false, true, false, false, false, false, false] rfl rfl (by kernel_rfl) (by decide) (fun K hK => ?_)
  refine goes_ Tryz.func92 (by kernel_rfl) rfl #[.slice A2 l2.length c2] (by rfl) rfl rfl (by simp only [List.map_toArray, List.map_cons, List.map_nil]; rfl) ?_
  with_reducible refine (rising_calls A2 c2 l2 _ HC2wa.out HL2.out).mono ?_
  rintro e wb ⟨v2, rfl, ho2, hb2⟩
  obtain ⟨X2, d2, rfl, _, _⟩ := Kd.R_reads ho2
  refine ⟨_, rfl, ?_⟩
  have HBwb := Lib.hid (below_then HBwa.out HBwa.out.size hb2)
  have HKwb := Lib.hid (blk_below HKwa.out hb2)
  have HZwb := Lib.hid (blk_below HZwa.out hb2)
  have HC3wb := Lib.hid (Kd.C_below HC3wa.out hb2)
  have HO1wb := Lib.hid (Kd.R_below HO1wa.out hb2)
  have HO2wb := Lib.hid (Kd.R_lower ho2 HBwa.out.size)
  have k1wb : wb.cell? ⟨w.heap.size, 1, none⟩ = some (.slice A1 l1.length c1) := (blk_cell HKwb.out 1).trans rfl
  have k2wb : wb.cell? ⟨w.heap.size, 2, none⟩ = some (.slice A2 l2.length c2) := (blk_cell HKwb.out 2).trans rfl
  have k3wb : wb.cell? ⟨w.heap.size, 3, none⟩ = some (.slice A3 l3.length c3) := (blk_cell HKwb.out 3).trans rfl
  clear ho2 hb2
  refine hK.out _ _ ⟨k1wb, k2wb, k3wb⟩ (fun hHeld => ?_)
  clear hK K
  refine norm_ (a' := ?_) ?_ ?_
  rotate_left
  · show Act.put _ (some 9) _ = _
    simp only [Act.put, List.setIfInBounds_toArray, List.set_cons_zero, List.set_cons_succ, i64_w, i32_w]
    rfl
  refine one_ (i := 8) (N := some 12) #[true, true, true, true, true, true, true, true, true, true, false, false, false, false, false] rfl rfl (by kernel_rfl) (by decide) (fun K hK => ?_)
  refine goes_ Tryz.func92 (by kernel_rfl) rfl #[.slice A3 l3.length c3] (by rfl) rfl rfl (by simp only [List.map_toArray, List.map_cons, List.map_nil]; rfl) ?_
  with_reducible refine (rising_calls A3 c3 l3 _ HC3wb.out HL3.out).mono ?_
  rintro e wc ⟨v3, rfl, ho3, hb3⟩
  obtain ⟨X3, d3, rfl, _, _⟩ := Kd.R_reads ho3
  refine ⟨_, rfl, ?_⟩
  have HBwc := Lib.hid (below_then HBwb.out HBwb.out.size hb3)
  have HKwc := Lib.hid (blk_below HKwb.out hb3)
  have HZwc := Lib.hid (blk_below HZwb.out hb3)
  have HO1wc := Lib.hid (Kd.R_below HO1wb.out hb3)
  have HO2wc := Lib.hid (Kd.R_below HO2wb.out hb3)
  have HO3wc := Lib.hid (Kd.R_lower ho3 HBwb.out.size)
  have k1wc : wc.cell? ⟨w.heap.size, 1, none⟩ = some (.slice A1 l1.length c1) := (blk_cell HKwc.out 1).trans rfl
  have k2wc : wc.cell? ⟨w.heap.size, 2, none⟩ = some (.slice A2 l2.length c2) := (blk_cell HKwc.out 2).trans rfl
  have k3wc : wc.cell? ⟨w.heap.size, 3, none⟩ = some (.slice A3 l3.length c3) := (blk_cell HKwc.out 3).trans rfl
  clear ho3 hb3
  refine hK.out _ _ ⟨k1wc, k2wc, k3wc⟩ (fun hHeld => ?_)
  clear hK K
  refine norm_ (a' := ?_) ?_ ?_
  rotate_left
  · show Act.put _ (some 12) _ = _
    simp only [Act.put, List.setIfInBounds_toArray, List.set_cons_zero, List.set_cons_succ, i64_w, i32_w]
    rfl
  refine last_ (i := 10) (N := none) #[true, true, true, true, true, true, true, true, true, true, true, false, false, false, false] rfl rfl (by kernel_rfl) (by decide) (fun K hK => ?_)
  have hs1 := HKwc.out
  have hs2 := blk_set hs1 1 (.slice X1 (risingF l1).length d1)
  have hs3 := blk_set hs2 2 (.slice X2 (risingF l2).length d2)
  have cs1 : (wc).cell? ⟨w.heap.size, 1, none⟩ = some (.slice A1 l1.length c1) := (blk_cell hs1 1).trans rfl
  have fs1 := blk_frozen hs1 1
  refine skip_ (w1 := ?_) (by rfl) rfl ?_ ?_
  rotate_left
  · go_simp
    rfl
  refine hK.out _ _ ?_
  clear hK K
  refine pure_ (i := 11) (N := some 14) (v := ?_) (a' := ?_) #[true, true, true, true, true, true, true, true, true, true, true, true, false, false, false] rfl rfl (by kernel_rfl) (fun _ _ _ h => h) (Or.inl ⟨by rfl, ?_⟩) ?_ ?_
  rotate_left
  · intro w'
    go_simp
    with_reducible rfl
  rotate_left
  · simp only [Act.put, List.setIfInBounds_toArray, List.set_cons_zero, List.set_cons_succ, i64_w, i32_w]
    rfl
  refine last_ (i := 12) (N := none) #[true, true, true, true, true, true, true, true, true, true, true, true, true, false, false] rfl rfl (by kernel_rfl) (by decide) (fun K hK => ?_)
  have cs2 : (wc.setCell ⟨w.heap.size, 1, none⟩ (.slice X1 (risingF l1).length d1)).cell? ⟨w.heap.size, 2, none⟩ = some (.slice A2 l2.length c2) := (blk_cell hs2 2).trans rfl
  have fs2 := blk_frozen hs2 2
  refine skip_ (w1 := ?_) (by rfl) rfl ?_ ?_
  rotate_left
  · go_simp
    rfl
  refine hK.out _ _ ?_
  clear hK K
  refine pure_ (i := 13) (N := some 15) (v := ?_) (a' := ?_) #[true, true, true, true, true, true, true, true, true, true, true, true, true, true, false] rfl rfl (by kernel_rfl) (fun _ _ _ h => h) (Or.inl ⟨by rfl, ?_⟩) ?_ ?_
  rotate_left
  · intro w'
    go_simp
    with_reducible rfl
  rotate_left
  · simp only [Act.put, List.setIfInBounds_toArray, List.set_cons_zero, List.set_cons_succ, i64_w, i32_w]
    rfl
  refine last_ (i := 14) (N := none) #[true, true, true, true, true, true, true, true, true, true, true, true, true, true, true] rfl rfl (by kernel_rfl) (by decide) (fun K hK => ?_)
  have cs3 : ((wc.setCell ⟨w.heap.size, 1, none⟩ (.slice X1 (risingF l1).length d1)).setCell ⟨w.heap.size, 2, none⟩ (.slice X2 (risingF l2).length d2)).cell? ⟨w.heap.size, 3, none⟩ = some (.slice A3 l3.length c3) := (blk_cell hs3 3).trans rfl
  have fs3 := blk_frozen hs3 3
  refine skip_ (w1 := ?_) (by rfl) rfl ?_ ?_
  rotate_left
  · go_simp
    rfl
  refine hK.out _ _ ?_
  clear hK K
  refine done_ (by kernel_rfl) ?_
--REG1E
  have hs4 := blk_set hs3 3 (.slice X3 (risingF l3).length d3)
  have hs4' : (((wc.setCell ⟨w.heap.size, 1, none⟩ (.slice X1 (risingF l1).length d1)).setCell ⟨w.heap.size, 2, none⟩ (.slice X2 (risingF l2).length d2)).setCell ⟨w.heap.size, 3, none⟩ (.slice X3 (risingF l3).length d3)).heap[w.heap.size]? = some (.cells #[.string f0, .slice X1 (risingF l1).length d1, .slice X2 (risingF l2).length d2, .slice X3 (risingF l3).length d3, .slice (some ad) 1 c4] 49 (0, 0)) := hs4
  have HK5 := Lib.hid hs4'
  have HB5 := Lib.hid (((HBwc.out.setCell (p := ⟨w.heap.size, 1, none⟩) (Nat.le_refl _) (.slice X1 (risingF l1).length d1)).setCell (p := ⟨w.heap.size, 2, none⟩) (Nat.le_refl _) (.slice X2 (risingF l2).length d2)).setCell (p := ⟨w.heap.size, 3, none⟩) (Nat.le_refl _) (.slice X3 (risingF l3).length d3))
  have hzn : w.heap.size + 1 ≠ w.heap.size := by omega
  have HZ5 := Lib.hid (blk_far (blk_far (blk_far HZwc.out (p := ⟨w.heap.size, 1, none⟩) hzn (.slice X1 (risingF l1).length d1)) (p := ⟨w.heap.size, 2, none⟩) hzn (.slice X2 (risingF l2).length d2)) (p := ⟨w.heap.size, 3, none⟩) hzn (.slice X3 (risingF l3).length d3))
  have HO15 := Lib.hid (Kd.R_set (Kd.R_set (Kd.R_set HO1wc.out hs1 (by decide) 1 (.slice X1 (risingF l1).length d1)) hs2 (by decide) 2 (.slice X2 (risingF l2).length d2)) hs3 (by decide) 3 (.slice X3 (risingF l3).length d3))
  have HO25 := Lib.hid (Kd.R_set (Kd.R_set (Kd.R_set HO2wc.out hs1 (by decide) 1 (.slice X1 (risingF l1).length d1)) hs2 (by decide) 2 (.slice X2 (risingF l2).length d2)) hs3 (by decide) 3 (.slice X3 (risingF l3).length d3))
  have HO35 := Lib.hid (Kd.R_set (Kd.R_set (Kd.R_set HO3wc.out hs1 (by decide) 1 (.slice X1 (risingF l1).length d1)) hs2 (by decide) 2 (.slice X2 (risingF l2).length d2)) hs3 (by decide) 3 (.slice X3 (risingF l3).length d3))
  have k45 : (((wc.setCell ⟨w.heap.size, 1, none⟩ (.slice X1 (risingF l1).length d1)).setCell ⟨w.heap.size, 2, none⟩ (.slice X2 (risingF l2).length d2)).setCell ⟨w.heap.size, 3, none⟩ (.slice X3 (risingF l3).length d3)).cell? ⟨w.heap.size, 4, none⟩ = some (.slice (some ad) 1 c4) := (blk_cell hs4' 4).trans rfl
  go_wp2_with fail
  generalize ((wc.setCell ⟨w.heap.size, 1, none⟩ (.slice X1 (risingF l1).length d1)).setCell ⟨w.heap.size, 2, none⟩ (.slice X2 (risingF l2).length d2)).setCell ⟨w.heap.size, 3, none⟩ (.slice X3 (risingF l3).length d3) = w5 at HK5 HB5 HZ5 HO15 HO25 HO35 ⊢
  clear hs1 hs2 hs3 hs4 hs4' cs1 cs2 cs3 fs1 fs2 fs3 k45
  have hcl : Calls Tryz.prog 93 #[.slice (some ad) 1 c4] w5 _ := cloneS_calls ad c4 [((x.f0, x.f1, ⟨A5, x.f2.length, c5⟩, ⟨A6, x.f3.length, c6⟩, x.f4) : Sh)] w5 (Kd.C_below H4.out HB5.out) (by simp)
  refine hcl.mono ?_
  rintro e w6 ⟨v6, rfl, hr6, hb6⟩
  obtain ⟨_, inner, ho6, hrep⟩ := hr6
  rcases ho6.2 with ⟨_, hn⟩ | ⟨G, cG, cur, rfl, hbase, hG, q1, q2, q3, q4⟩
  · simp at hn
  have hin : inner = [.string x.f0, .int .i64 x.f1, .slice A5 x.f2.length c5, .slice A6 x.f3.length c6, .int .i64 x.f4] := by
    have h0 := (sh_M _).1 (hrep.2 0 ((x.f0, x.f1, ⟨A5, x.f2.length, c5⟩, ⟨A6, x.f3.length, c6⟩, x.f4) : Sh) rfl)
    have hlen : inner.length = 5 := hrep.1
    rw [Nat.zero_mul, List.drop_zero, show kSh.sz = 5 from rfl, List.take_of_length_le (by omega)] at h0
    exact h0
  have q4' : cur.toList.take 5 = [.string x.f0, .int .i64 x.f1, .slice A5 x.f2.length c5, .slice A6 x.f3.length c6, .int .i64 x.f4] := by rw [← hin]; exact q4
  have hat : ∀ i, i < 5 → cur[i]? = ([.string x.f0, .int .i64 x.f1, .slice A5 x.f2.length c5, .slice A6 x.f3.length c6, .int .i64 x.f4] : List Value)[i]? := fun i hi => by
    rw [← q4', List.getElem?_take_of_lt hi, Array.getElem?_toList]
  have HG2 : Hid (cur[2]? = some (.slice A5 x.f2.length c5)) := (hat 2 (by omega)).trans rfl
  have HG3 : Hid (cur[3]? = some (.slice A6 x.f3.length c6)) := (hat 3 (by omega)).trans rfl
  have HAt := Lib.hid hat
  have HCap : Hid (cur.size = cG * 5 ∧ 1 ≤ cG ∧ cG ≤ maxLen) := ⟨q3, q1, q2⟩
  have hGB : w.heap.size ≠ G := by have := blk_lt HK5.out; omega
  have hGZ : w.heap.size + 1 ≠ G := by have := blk_lt HZ5.out; omega
  have HGb : Hid (w.heap.size ≤ G) := by show _ ≤ _; have := blk_lt HK5.out; omega
  have hK6 := blk_below HK5.out hb6
  have HB7 := Lib.hid ((below_then HB5.out HB5.out.size hb6).setCell (p := ⟨w.heap.size, 4, none⟩) (Nat.le_refl _) (.slice (some ⟨G, 0, none⟩) 1 cG))
  have HK7 : Hid ((w6.setCell ⟨w.heap.size, 4, none⟩ (.slice (some ⟨G, 0, none⟩) 1 cG)).heap[w.heap.size]? = some (.cells #[.string f0, .slice X1 (risingF l1).length d1, .slice X2 (risingF l2).length d2, .slice X3 (risingF l3).length d3, .slice (some ⟨G, 0, none⟩) 1 cG] 49 (0, 0))) := blk_put hK6 4 _ rfl
  have HZ7 := Lib.hid (blk_far (blk_below HZ5.out hb6) (p := ⟨w.heap.size, 4, none⟩) (by show w.heap.size + 1 ≠ w.heap.size; omega) (.slice (some ⟨G, 0, none⟩) 1 cG))
  have HG7 := Lib.hid (blk_far hG (p := ⟨w.heap.size, 4, none⟩) hGB.symm (.slice (some ⟨G, 0, none⟩) 1 cG))
  have HO17 := Lib.hid (Kd.R_set (Kd.R_below HO15.out hb6) hK6 (by decide) 4 (.slice (some ⟨G, 0, none⟩) 1 cG))
  have HO27 := Lib.hid (Kd.R_set (Kd.R_below HO25.out hb6) hK6 (by decide) 4 (.slice (some ⟨G, 0, none⟩) 1 cG))
  have HO37 := Lib.hid (Kd.R_set (Kd.R_below HO35.out hb6) hK6 (by decide) 4 (.slice (some ⟨G, 0, none⟩) 1 cG))
  have c46 : w6.cell? ⟨w.heap.size, 4, none⟩ = some (.slice (some ad) 1 c4) := (blk_cell hK6 4).trans rfl
  have f46 : w6.frozen? ⟨w.heap.size, 4, none⟩ = false := blk_frozen hK6 4
  have k47 : ∀ v, (w6.setCell ⟨w.heap.size, 4, none⟩ v).cell? ⟨w.heap.size, 4, none⟩ = some v := fun v => (blk_cell (blk_set hK6 4 v) 4).trans rfl
  clear hcl hb6 hrep ho6 hbase hG q1 q2 q3 q4 hin q4' hat hK6 HO15 HO25 HO35 HZ5 HK5 HB5
  go_wp2_with fail
  generalize w6.setCell ⟨w.heap.size, 4, none⟩ (.slice (some ⟨G, 0, none⟩) 1 cG) = w7 at HB7 HK7 HZ7 HG7 HO17 HO27 HO37 ⊢
  clear c46 f46 k47
  go_loopg [3, 23] 1 (fun gg _ s23 wr => ∃ kk : Nat, kk ≤ 1 ∧ 1 - kk ≤ gg ∧ s23 = .int .i64 kk ∧ Aside0 (Below w.heap.size w wr) ∧ Aside0 (wr.heap[w.heap.size]? = some (.cells #[.string f0, .slice X1 (risingF l1).length d1, .slice X2 (risingF l2).length d2, .slice X3 (risingF l3).length d3, .slice (some ⟨G, 0, none⟩) 1 cG] 49 (0, 0))) ∧ Aside0 (wr.heap[w.heap.size + 1]? = some (.cells RUz 49 (0, 0))) ∧ Aside0 (RS wr w.heap.size (.slice X1 (risingF l1).length d1) (risingF l1)) ∧ Aside0 (RS wr w.heap.size (.slice X2 (risingF l2).length d2) (risingF l2)) ∧ Aside0 (RS wr w.heap.size (.slice X3 (risingF l3).length d3) (risingF l3)) ∧
    Aside0 (kk = 0 → wr.heap[G]? = some (.cells cur 62 (0, 0))) ∧
    Aside0 (kk = 1 → ∃ X5 d5 X6 d6, wr.heap[G]? = some (.cells ((cur.setIfInBounds 2 (.slice X5 x.f2.length d5)).setIfInBounds 3 (.slice X6 x.f3.length d6)) 62 (0, 0)) ∧ Kd.R Kd.string 9 wr w.heap.size (fun k => k ≠ G) (.slice X5 x.f2.length d5) x.f2 ∧ Kd.R Kd.string 9 wr w.heap.size (fun k => k ≠ G) (.slice X6 x.f3.length d6) x.f3))
  case atStart => exact ⟨0, by omega, by omega, rfl, ⟨HB7.out⟩, ⟨HK7.out⟩, ⟨HZ7.out⟩, ⟨HO17.out⟩, ⟨HO27.out⟩, ⟨HO37.out⟩, ⟨fun _ => HG7.out⟩, ⟨fun h => by omega⟩⟩
  case round =>
    obtain ⟨kk, hkk, hgk, rfl, HB8, HK8, HZ8, HO18, HO28, HO38, HP0, HP1⟩ := hrel
    by_cases h0 : kk = 0
    · subst h0
      have HG8 := Lib.hid (HP0.out rfl)
      go_wp2_with fail
      have HBwe := Lib.hid (below_drew HB8.out)
      have HKwe := Lib.hid (blk_drew HK8.out)
      have HZwe := Lib.hid (blk_drew HZ8.out)
      have HGwe := Lib.hid (blk_drew HG8.out)
      have dr : Below wr.heap.size wr wr.drew := ⟨rfl, rfl, rfl, Nat.le_refl _, fun _ _ => rfl⟩
      have HO1we := Lib.hid (Kd.R_below HO18.out dr)
      have HO2we := Lib.hid (Kd.R_below HO28.out dr)
      have HO3we := Lib.hid (Kd.R_below HO38.out dr)
      have HC5we := Lib.hid (Kd.C_below H5.out HBwe.out)
      have HC6we := Lib.hid (Kd.C_below H6.out HBwe.out)
      have k4we : wr.drew.cell? ⟨w.heap.size, 4, none⟩ = some (.slice (some ⟨G, 0, none⟩) 1 cG) := (blk_cell HKwe.out 4).trans rfl
      have k5we : wr.drew.cell? ⟨G, 2, none⟩ = some (.slice A5 x.f2.length c5) := (blk_cell HGwe.out 2).trans HG2.out
      have k6we : wr.drew.cell? ⟨G, 3, none⟩ = some (.slice A6 x.f3.length c6) := (blk_cell HGwe.out 3).trans HG3.out
      clear dr HB8 HK8 HZ8 HG8 HO18 HO28 HO38 HP0 HP1
--REG6
      refine start_ (n := 26) (S := fun w' => w'.cell? ⟨w.heap.size, 4, none⟩ = some (.slice (some ⟨G, 0, none⟩) 1 cG)) (ds := []) #[false, false, false, false, false, false, false, false, false, false, false, false, false, false, false, false, false, false, false, false, false, false, false, false, false, false] (by kernel_rfl) rfl rfl (k4we) (fun hHeld => ?_)
      refine pure_ (i := 0) (N := some 26) (v := ?_) (a' := ?_) #[true, false, false, false, false, false, false, false, false, false, false, false, false, false, false, false, false, false, false, false, false, false, false, false, false, false] rfl rfl (by kernel_rfl) (fun _ _ _ h => h) (Or.inl ⟨by rfl, ?_⟩) ?_ ?_
      rotate_left
      · intro w'
        go_simp
        with_reducible rfl
      rotate_left
      · simp only [Act.put, List.setIfInBounds_toArray, List.set_cons_zero, List.set_cons_succ, i64_w, i32_w]
        rfl
      refine pure_ (i := 2) (N := some 28) (v := ?_) (a' := ?_) #[true, false, true, false, false, false, false, false, false, false, false, false, false, false, false, false, false, false, false, false, false, false, false, false, false, false] rfl rfl (by kernel_rfl) (fun _ _ _ h => h) (Or.inl ⟨by rfl, ?_⟩) ?_ ?_
      rotate_left
      · intro w'
        go_simp
        with_reducible rfl
      rotate_left
      · simp only [Act.put, List.setIfInBounds_toArray, List.set_cons_zero, List.set_cons_succ, i64_w, i32_w]
        rfl
      refine pure_ (i := 3) (N := some 29) (v := ?_) (a' := ?_) #[true, false, true, true, false, false, false, false, false, false, false, false, false, false, false, false, false, false, false, false, false, false, false, false, false, false] rfl rfl (by kernel_rfl) (fun _ _ _ h => h) (Or.inl ⟨by rfl, ?_⟩) ?_ ?_
      rotate_left
      · intro w'
        go_simp
        with_reducible rfl
      rotate_left
      · simp only [Act.put, List.setIfInBounds_toArray, List.set_cons_zero, List.set_cons_succ, i64_w, i32_w]
        rfl
      refine pure_ (i := 5) (N := some 31) (v := ?_) (a' := ?_) #[true, false, true, true, false, true, false, false, false, false, false, false, false, false, false, false, false, false, false, false, false, false, false, false, false, false] rfl rfl (by kernel_rfl) (fun _ _ _ h => h) (Or.inl ⟨by rfl, ?_⟩) ?_ ?_
      rotate_left
      · intro w'
        go_simp
        with_reducible rfl
      rotate_left
      · simp only [Act.put, List.setIfInBounds_toArray, List.set_cons_zero, List.set_cons_succ, i64_w, i32_w]
        rfl
      refine pure_ (i := 6) (N := some 32) (v := ?_) (a' := ?_) #[true, false, true, true, false, true, true, false, false, false, false, false, false, false, false, false, false, false, false, false, false, false, false, false, false, false] rfl rfl (by kernel_rfl) (fun _ _ _ h => h) (Or.inl ⟨by rfl, ?_⟩) ?_ ?_
      rotate_left
      · intro w'
        go_simp
        with_reducible rfl
      rotate_left
      · simp only [Act.put, List.setIfInBounds_toArray, List.set_cons_zero, List.set_cons_succ, i64_w, i32_w]
        rfl
      refine pure_ (i := 8) (N := some 34) (v := ?_) (a' := ?_) #[true, false, true, true, false, true, true, false, true, false, false, false, false, false, false, false, false, false, false, false, false, false, false, false, false, false] rfl rfl (by kernel_rfl) (fun _ _ _ h => h) (Or.inl ⟨by rfl, ?_⟩) ?_ ?_
      rotate_left
      · intro w'
        go_simp
        with_reducible rfl
      rotate_left
      · simp only [Act.put, List.setIfInBounds_toArray, List.set_cons_zero, List.set_cons_succ, i64_w, i32_w]
        rfl
      refine pure_ (i := 13) (N := some 39) (v := ?_) (a' := ?_) #[true, false, true, true, false, true, true, false, true, false, false, false, false, true, false, false, false, false, false, false, false, false, false, false, false, false] rfl rfl (by kernel_rfl) (fun _ _ _ h => h) (Or.inl ⟨by rfl, ?_⟩) ?_ ?_
      rotate_left
      · intro w'
        go_simp
        with_reducible rfl
      rotate_left
      · simp only [Act.put, List.setIfInBounds_toArray, List.set_cons_zero, List.set_cons_succ, i64_w, i32_w]
        rfl
      refine pure_ (i := 15) (N := some 41) (v := ?_) (a' := ?_) #[true, false, true, true, false, true, true, false, true, false, false, false, false, true, false, true, false, false, false, false, false, false, false, false, false, false] rfl rfl (by kernel_rfl) (fun _ _ _ h => h) (Or.inl ⟨by rfl, ?_⟩) ?_ ?_
      rotate_left
      · intro w'
        go_simp
        with_reducible rfl
      rotate_left
      · simp only [Act.put, List.setIfInBounds_toArray, List.set_cons_zero, List.set_cons_succ, i64_w, i32_w]
        rfl
      refine take_ (i := 1) (N := some 27) (v := ?_) (a' := ?_) #[true, true, true, true, false, true, true, false, true, false, false, false, false, true, false, true, false, false, false, false, false, false, false, false, false, false] rfl rfl (by kernel_rfl) (fun _ _ _ h => h) (Or.inl ⟨by rfl, ?_⟩) hHeld ?_ ?_
      rotate_left
      · intro w' s0
        go_simp
        with_reducible rfl
      rotate_left
      · simp only [Act.put, List.setIfInBounds_toArray, List.set_cons_zero, List.set_cons_succ, i64_w, i32_w]
        rfl
      refine take_ (i := 4) (N := some 30) (v := ?_) (a' := ?_) #[true, true, true, true, true, true, true, false, true, false, false, false, false, true, false, true, false, false, false, false, false, false, false, false, false, false] rfl rfl (by kernel_rfl) (fun _ _ _ h => h) (Or.inl ⟨by rfl, ?_⟩) hHeld ?_ ?_
      rotate_left
      · intro w' s0
        go_simp
        with_reducible rfl
      rotate_left
      · simp only [Act.put, List.setIfInBounds_toArray, List.set_cons_zero, List.set_cons_succ, i64_w, i32_w]
        rfl
      refine take_ (i := 7) (N := some 33) (v := ?_) (a' := ?_) #[true, true, true, true, true, true, true, true, true, false, false, false, false, true, false, true, false, false, false, false, false, false, false, false, false, false] rfl rfl (by kernel_rfl) (fun _ _ _ h => h) (Or.inl ⟨by rfl, ?_⟩) hHeld ?_ ?_
      rotate_left
      · intro w' s0
        go_simp
        with_reducible rfl
      rotate_left
      · simp only [Act.put, List.setIfInBounds_toArray, List.set_cons_zero, List.set_cons_succ, i64_w, i32_w]
        rfl
      refine pure_ (i := 9) (N := some 35) (v := ?_) (a' := ?_) #[true, true, true, true, true, true, true, true, true, true, false, false, false, true, false, true, false, false, false, false, false, false, false, false, false, false] rfl rfl (by kernel_rfl) (fun _ _ _ h => h) (Or.inl ⟨by rfl, ?_⟩) ?_ ?_
      rotate_left
      · intro w'
        go_simp
        with_reducible rfl
      rotate_left
      · simp only [Act.put, List.setIfInBounds_toArray, List.set_cons_zero, List.set_cons_succ, i64_w, i32_w]
        rfl
      refine pure_ (i := 10) (N := some 36) (v := ?_) (a' := ?_) #[true, true, true, true, true, true, true, true, true, true, true, false, false, true, false, true, false, false, false, false, false, false, false, false, false, false] rfl rfl (by kernel_rfl) (fun _ _ _ h => h) (Or.inl ⟨by rfl, ?_⟩) ?_ ?_
      rotate_left
      · intro w'
        go_simp
        with_reducible rfl
      rotate_left
      · simp only [Act.put, List.setIfInBounds_toArray, List.set_cons_zero, List.set_cons_succ, i64_w, i32_w]
        rfl
      refine take_ (i := 14) (N := some 40) (v := ?_) (a' := ?_) #[true, true, true, true, true, true, true, true, true, true, true, false, false, true, true, true, false, false, false, false, false, false, false, false, false, false] rfl rfl (by kernel_rfl) (fun _ _ _ h => h) (Or.inl ⟨by rfl, ?_⟩) hHeld ?_ ?_
      rotate_left
      · intro w' s0
        go_simp
        with_reducible rfl
      rotate_left
      · simp only [Act.put, List.setIfInBounds_toArray, List.set_cons_zero, List.set_cons_succ, i64_w, i32_w]
        rfl
      refine pure_ (i := 16) (N := some 42) (v := ?_) (a' := ?_) #[true, true, true, true, true, true, true, true, true, true, true, false, false, true, true, true, true, false, false, false, false, false, false, false, false, false] rfl rfl (by kernel_rfl) (fun _ _ _ h => h) (Or.inl ⟨by rfl, ?_⟩) ?_ ?_
      rotate_left
      · intro w'
        go_simp
        with_reducible rfl
      rotate_left
      · simp only [Act.put, List.setIfInBounds_toArray, List.set_cons_zero, List.set_cons_succ, i64_w, i32_w]
        rfl
      refine pure_ (i := 17) (N := some 43) (v := ?_) (a' := ?_) #[true, true, true, true, true, true, true, true, true, true, true, false, false, true, true, true, true, true, false, false, false, false, false, false, false, false] rfl rfl (by kernel_rfl) (fun _ _ _ h => h) (Or.inl ⟨by rfl, ?_⟩) ?_ ?_
      rotate_left
      · intro w'
        go_simp
        with_reducible rfl
      rotate_left
      · simp only [Act.put, List.setIfInBounds_toArray, List.set_cons_zero, List.set_cons_succ, i64_w, i32_w]
        rfl
      refine join_ (σ := Option Addr × Nat) 7 #[true, true, true, true, true, true, true, true, true, true, true, true, true, true, true, true, true, true, true, false, false, false, false, false, false, false] (fun s => [(37, .slice A5 x.f2.length c5), (38, .slice s.1 x.f2.length s.2), (44, .slice A6 x.f3.length c6)]) (fun s w' => Below w.heap.size w w' ∧ w'.heap[w.heap.size]? = some (.cells #[.string f0, .slice X1 (risingF l1).length d1, .slice X2 (risingF l2).length d2, .slice X3 (risingF l3).length d3, .slice (some ⟨G, 0, none⟩) 1 cG] 49 (0, 0)) ∧ w'.heap[w.heap.size + 1]? = some (.cells RUz 49 (0, 0)) ∧ w'.heap[G]? = some (.cells cur 62 (0, 0)) ∧ RS w' w.heap.size (.slice X1 (risingF l1).length d1) (risingF l1) ∧ RS w' w.heap.size (.slice X2 (risingF l2).length d2) (risingF l2) ∧ RS w' w.heap.size (.slice X3 (risingF l3).length d3) (risingF l3) ∧ Kd.C Kd.string w' A6 x.f3.length x.f3 ∧ Kd.R Kd.string 9 w' w.heap.size (fun k => k ≠ G) (.slice s.1 x.f2.length s.2) x.f2) ?_ ?_
      rotate_left
      · intro hCont
        refine two_ (i := 11) (j := 18) (Ni := some 37) (Nj := some 44) #[true, true, true, true, true, true, true, true, true, true, true, true, false, true, true, true, true, true, false, false, false, false, false, false, false, false] #[true, true, true, true, true, true, true, true, true, true, true, false, false, true, true, true, true, true, true, false, false, false, false, false, false, false] rfl rfl rfl rfl (by kernel_rfl) (by decide) (by decide) (fun K hK => ?_) (fun K hK => ?_)
        · skip
          refine value_ (w1 := ?_) (v := ?_) (by rfl) rfl ?_ ?_
          rotate_left 2
          · go_simp
            constructor
            · rfl
            · rfl
          refine hK.out _ _ (k4we) (fun hHeld => ?_)
          clear hK K
          refine norm_ (a' := ?_) ?_ ?_
          rotate_left
          · show Act.put _ (some 37) _ = _
            simp only [Act.put, List.setIfInBounds_toArray, List.set_cons_zero, List.set_cons_succ, i64_w, i32_w]
            rfl
          refine two_ (i := 12) (j := 18) (Ni := some 38) (Nj := some 44) #[true, true, true, true, true, true, true, true, true, true, true, true, true, true, true, true, true, true, false, false, false, false, false, false, false, false] #[true, true, true, true, true, true, true, true, true, true, true, true, false, true, true, true, true, true, true, false, false, false, false, false, false, false] rfl rfl rfl rfl (by kernel_rfl) (by decide) (by decide) (fun K hK => ?_) (fun K hK => ?_)
          · skip
            refine goes_ Tryz.func94 (by kernel_rfl) rfl #[.slice A5 x.f2.length c5] (by rfl) rfl rfl (by simp only [List.map_toArray, List.map_cons, List.map_nil]; rfl) ?_
            with_reducible refine (clone_calls A5 c5 x.f2 _ HC5we.out HL5.out).mono ?_
            rintro e wf ⟨v5, rfl, ho5, hb5⟩
            have hp5 : RS wf wr.drew.heap.size v5 x.f2 := Kd.R_of_own (h1 := fun _ => rfl) ho5 (fun _ _ => trivial)
            obtain ⟨X5, d5, rfl, _, _⟩ := Kd.R_reads hp5
            refine ⟨_, rfl, ?_⟩
            have HBwf := Lib.hid (below_then HBwe.out HBwe.out.size hb5)
            have HKwf := Lib.hid (blk_below HKwe.out hb5)
            have HZwf := Lib.hid (blk_below HZwe.out hb5)
            have HGwf := Lib.hid (blk_below HGwe.out hb5)
            have HO1wf := Lib.hid (Kd.R_below HO1we.out hb5)
            have HO2wf := Lib.hid (Kd.R_below HO2we.out hb5)
            have HO3wf := Lib.hid (Kd.R_below HO3we.out hb5)
            have HC6wf := Lib.hid (Kd.C_below HC6we.out hb5)
            have HO5wf := Lib.hid (not_blk (base := w.heap.size) hp5 (blk_lt HGwe.out) HBwe.out.size)
            have k4wf : wf.cell? ⟨w.heap.size, 4, none⟩ = some (.slice (some ⟨G, 0, none⟩) 1 cG) := (blk_cell HKwf.out 4).trans rfl
            have k6wf : wf.cell? ⟨G, 3, none⟩ = some (.slice A6 x.f3.length c6) := (blk_cell HGwf.out 3).trans HG3.out
            clear ho5 hp5 hb5
            refine hK.out _ _ (k4wf) (fun hHeld => ?_)
            clear hK K
            refine norm_ (a' := ?_) ?_ ?_
            rotate_left
            · show Act.put _ (some 38) _ = _
              simp only [Act.put, List.setIfInBounds_toArray, List.set_cons_zero, List.set_cons_succ, i64_w, i32_w]
              rfl
            refine one_ (i := 18) (N := some 44) #[true, true, true, true, true, true, true, true, true, true, true, true, true, true, true, true, true, true, true, false, false, false, false, false, false, false] rfl rfl (by kernel_rfl) (by decide) (fun K hK => ?_)
            refine value_ (w1 := ?_) (v := ?_) (by rfl) rfl ?_ ?_
            rotate_left 2
            · go_simp
              constructor
              · rfl
              · rfl
            refine hK.out _ _ (k4wf) (fun hHeld => ?_)
            clear hK K
            refine norm_ (a' := ?_) ?_ ?_
            rotate_left
            · show Act.put _ (some 44) _ = _
              simp only [Act.put, List.setIfInBounds_toArray, List.set_cons_zero, List.set_cons_succ, i64_w, i32_w]
              rfl
            exact norm_ (by simp only [putAll, Act.put, List.setIfInBounds_toArray, List.set_cons_zero, List.set_cons_succ]) (hCont (X5, d5) _ ⟨HBwf.out, HKwf.out, HZwf.out, HGwf.out, HO1wf.out, HO2wf.out, HO3wf.out, HC6wf.out, HO5wf.out⟩)
          · skip
            refine value_ (w1 := ?_) (v := ?_) (by rfl) rfl ?_ ?_
            rotate_left 2
            · go_simp
              constructor
              · rfl
              · rfl
            refine hK.out _ _ (k4we) (fun hHeld => ?_)
            clear hK K
            refine norm_ (a' := ?_) ?_ ?_
            rotate_left
            · show Act.put _ (some 44) _ = _
              simp only [Act.put, List.setIfInBounds_toArray, List.set_cons_zero, List.set_cons_succ, i64_w, i32_w]
              rfl
            refine one_ (i := 12) (N := some 38) #[true, true, true, true, true, true, true, true, true, true, true, true, true, true, true, true, true, true, true, false, false, false, false, false, false, false] rfl rfl (by kernel_rfl) (by decide) (fun K hK => ?_)
            refine goes_ Tryz.func94 (by kernel_rfl) rfl #[.slice A5 x.f2.length c5] (by rfl) rfl rfl (by simp only [List.map_toArray, List.map_cons, List.map_nil]; rfl) ?_
            with_reducible refine (clone_calls A5 c5 x.f2 _ HC5we.out HL5.out).mono ?_
            rintro e wf ⟨v5, rfl, ho5, hb5⟩
            have hp5 : RS wf wr.drew.heap.size v5 x.f2 := Kd.R_of_own (h1 := fun _ => rfl) ho5 (fun _ _ => trivial)
            obtain ⟨X5, d5, rfl, _, _⟩ := Kd.R_reads hp5
            refine ⟨_, rfl, ?_⟩
            have HBwf := Lib.hid (below_then HBwe.out HBwe.out.size hb5)
            have HKwf := Lib.hid (blk_below HKwe.out hb5)
            have HZwf := Lib.hid (blk_below HZwe.out hb5)
            have HGwf := Lib.hid (blk_below HGwe.out hb5)
            have HO1wf := Lib.hid (Kd.R_below HO1we.out hb5)
            have HO2wf := Lib.hid (Kd.R_below HO2we.out hb5)
            have HO3wf := Lib.hid (Kd.R_below HO3we.out hb5)
            have HC6wf := Lib.hid (Kd.C_below HC6we.out hb5)
            have HO5wf := Lib.hid (not_blk (base := w.heap.size) hp5 (blk_lt HGwe.out) HBwe.out.size)
            have k4wf : wf.cell? ⟨w.heap.size, 4, none⟩ = some (.slice (some ⟨G, 0, none⟩) 1 cG) := (blk_cell HKwf.out 4).trans rfl
            have k6wf : wf.cell? ⟨G, 3, none⟩ = some (.slice A6 x.f3.length c6) := (blk_cell HGwf.out 3).trans HG3.out
            clear ho5 hp5 hb5
            refine hK.out _ _ (k4wf) (fun hHeld => ?_)
            clear hK K
            refine norm_ (a' := ?_) ?_ ?_
            rotate_left
            · show Act.put _ (some 38) _ = _
              simp only [Act.put, List.setIfInBounds_toArray, List.set_cons_zero, List.set_cons_succ, i64_w, i32_w]
              rfl
            exact norm_ (by simp only [putAll, Act.put, List.setIfInBounds_toArray, List.set_cons_zero, List.set_cons_succ]) (hCont (X5, d5) _ ⟨HBwf.out, HKwf.out, HZwf.out, HGwf.out, HO1wf.out, HO2wf.out, HO3wf.out, HC6wf.out, HO5wf.out⟩)
        · skip
          refine value_ (w1 := ?_) (v := ?_) (by rfl) rfl ?_ ?_
          rotate_left 2
          · go_simp
            constructor
            · rfl
            · rfl
          refine hK.out _ _ (k4we) (fun hHeld => ?_)
          clear hK K
          refine norm_ (a' := ?_) ?_ ?_
          rotate_left
          · show Act.put _ (some 44) _ = _
            simp only [Act.put, List.setIfInBounds_toArray, List.set_cons_zero, List.set_cons_succ, i64_w, i32_w]
            rfl
          refine one_ (i := 11) (N := some 37) #[true, true, true, true, true, true, true, true, true, true, true, true, false, true, true, true, true, true, true, false, false, false, false, false, false, false] rfl rfl (by kernel_rfl) (by decide) (fun K hK => ?_)
          refine value_ (w1 := ?_) (v := ?_) (by rfl) rfl ?_ ?_
          rotate_left 2
          · go_simp
            constructor
            · rfl
            · rfl
          refine hK.out _ _ (k4we) (fun hHeld => ?_)
          clear hK K
          refine norm_ (a' := ?_) ?_ ?_
          rotate_left
          · show Act.put _ (some 37) _ = _
            simp only [Act.put, List.setIfInBounds_toArray, List.set_cons_zero, List.set_cons_succ, i64_w, i32_w]
            rfl
          refine one_ (i := 12) (N := some 38) #[true, true, true, true, true, true, true, true, true, true, true, true, true, true, true, true, true, true, true, false, false, false, false, false, false, false] rfl rfl (by kernel_rfl) (by decide) (fun K hK => ?_)
          refine goes_ Tryz.func94 (by kernel_rfl) rfl #[.slice A5 x.f2.length c5] (by rfl) rfl rfl (by simp only [List.map_toArray, List.map_cons, List.map_nil]; rfl) ?_
          with_reducible refine (clone_calls A5 c5 x.f2 _ HC5we.out HL5.out).mono ?_
          rintro e wf ⟨v5, rfl, ho5, hb5⟩
          have hp5 : RS wf wr.drew.heap.size v5 x.f2 := Kd.R_of_own (h1 := fun _ => rfl) ho5 (fun _ _ => trivial)
          obtain ⟨X5, d5, rfl, _, _⟩ := Kd.R_reads hp5
          refine ⟨_, rfl, ?_⟩
          have HBwf := Lib.hid (below_then HBwe.out HBwe.out.size hb5)
          have HKwf := Lib.hid (blk_below HKwe.out hb5)
          have HZwf := Lib.hid (blk_below HZwe.out hb5)
          have HGwf := Lib.hid (blk_below HGwe.out hb5)
          have HO1wf := Lib.hid (Kd.R_below HO1we.out hb5)
          have HO2wf := Lib.hid (Kd.R_below HO2we.out hb5)
          have HO3wf := Lib.hid (Kd.R_below HO3we.out hb5)
          have HC6wf := Lib.hid (Kd.C_below HC6we.out hb5)
          have HO5wf := Lib.hid (not_blk (base := w.heap.size) hp5 (blk_lt HGwe.out) HBwe.out.size)
          have k4wf : wf.cell? ⟨w.heap.size, 4, none⟩ = some (.slice (some ⟨G, 0, none⟩) 1 cG) := (blk_cell HKwf.out 4).trans rfl
          have k6wf : wf.cell? ⟨G, 3, none⟩ = some (.slice A6 x.f3.length c6) := (blk_cell HGwf.out 3).trans HG3.out
          clear ho5 hp5 hb5
          refine hK.out _ _ (k4wf) (fun hHeld => ?_)
          clear hK K
          refine norm_ (a' := ?_) ?_ ?_
          rotate_left
          · show Act.put _ (some 38) _ = _
            simp only [Act.put, List.setIfInBounds_toArray, List.set_cons_zero, List.set_cons_succ, i64_w, i32_w]
            rfl
          exact norm_ (by simp only [putAll, Act.put, List.setIfInBounds_toArray, List.set_cons_zero, List.set_cons_succ]) (hCont (X5, d5) _ ⟨HBwf.out, HKwf.out, HZwf.out, HGwf.out, HO1wf.out, HO2wf.out, HO3wf.out, HC6wf.out, HO5wf.out⟩)
      rintro ⟨X5, d5⟩ wf ⟨fb, fk, fz, fg, f1, f2, f3, f6, f5⟩
      have HBwf := Lib.hid fb
      have HKwf := Lib.hid fk
      have HZwf := Lib.hid fz
      have HGwf := Lib.hid fg
      have HO1wf := Lib.hid f1
      have HO2wf := Lib.hid f2
      have HO3wf := Lib.hid f3
      have HC6wf := Lib.hid f6
      have HO5wf := Lib.hid f5
      clear fb fk fz fg f1 f2 f3 f6 f5
      have k4wf : wf.cell? ⟨w.heap.size, 4, none⟩ = some (.slice (some ⟨G, 0, none⟩) 1 cG) := (blk_cell HKwf.out 4).trans rfl
      have hHeld : wf.cell? ⟨w.heap.size, 4, none⟩ = some (.slice (some ⟨G, 0, none⟩) 1 cG) := k4wf
      refine norm_ (a' := ?_) ?_ ?_
      rotate_left
      · simp only [putAll, Act.put, List.setIfInBounds_toArray, List.set_cons_zero, List.set_cons_succ]
        rfl
      refine one_ (i := 19) (N := some 45) #[true, true, true, true, true, true, true, true, true, true, true, true, true, true, true, true, true, true, true, true, false, false, false, false, false, false] rfl rfl (by kernel_rfl) (by decide) (fun K hK => ?_)
      refine goes_ Tryz.func94 (by kernel_rfl) rfl #[.slice A6 x.f3.length c6] (by rfl) rfl rfl (by simp only [List.map_toArray, List.map_cons, List.map_nil]; rfl) ?_
      with_reducible refine (clone_calls A6 c6 x.f3 _ HC6wf.out HL6.out).mono ?_
      rintro e wg ⟨v6, rfl, ho6, hb6⟩
      have hp6 : RS wg wf.heap.size v6 x.f3 := Kd.R_of_own (h1 := fun _ => rfl) ho6 (fun _ _ => trivial)
      obtain ⟨X6, d6, rfl, _, _⟩ := Kd.R_reads hp6
      refine ⟨_, rfl, ?_⟩
      have HBwg := Lib.hid (below_then HBwf.out HBwf.out.size hb6)
      have HKwg := Lib.hid (blk_below HKwf.out hb6)
      have HZwg := Lib.hid (blk_below HZwf.out hb6)
      have HGwg := Lib.hid (blk_below HGwf.out hb6)
      have HO1wg := Lib.hid (Kd.R_below HO1wf.out hb6)
      have HO2wg := Lib.hid (Kd.R_below HO2wf.out hb6)
      have HO3wg := Lib.hid (Kd.R_below HO3wf.out hb6)
      have HO5wg := Lib.hid (Kd.R_below HO5wf.out hb6)
      have HO6wg := Lib.hid (not_blk (base := w.heap.size) hp6 (blk_lt HGwf.out) HBwf.out.size)
      have k4wg : wg.cell? ⟨w.heap.size, 4, none⟩ = some (.slice (some ⟨G, 0, none⟩) 1 cG) := (blk_cell HKwg.out 4).trans rfl
      clear ho6 hp6 hb6
      refine hK.out _ _ (k4wg) (fun hHeld => ?_)
      clear hK K
      refine norm_ (a' := ?_) ?_ ?_
      rotate_left
      · show Act.put _ (some 45) _ = _
        simp only [Act.put, List.setIfInBounds_toArray, List.set_cons_zero, List.set_cons_succ, i64_w, i32_w]
        rfl
      refine pure_ (i := 20) (N := some 46) (v := ?_) (a' := ?_) #[true, true, true, true, true, true, true, true, true, true, true, true, true, true, true, true, true, true, true, true, true, false, false, false, false, false] rfl rfl (by kernel_rfl) (fun _ _ _ h => h) (Or.inl ⟨by rfl, ?_⟩) ?_ ?_
      rotate_left
      · intro w'
        go_simp
        with_reducible rfl
      rotate_left
      · simp only [Act.put, List.setIfInBounds_toArray, List.set_cons_zero, List.set_cons_succ, i64_w, i32_w]
        rfl
      refine pure_ (i := 21) (N := some 47) (v := ?_) (a' := ?_) #[true, true, true, true, true, true, true, true, true, true, true, true, true, true, true, true, true, true, true, true, true, true, false, false, false, false] rfl rfl (by kernel_rfl) (fun _ _ _ h => h) (Or.inl ⟨by rfl, ?_⟩) ?_ ?_
      rotate_left
      · intro w'
        go_simp
        with_reducible rfl
      rotate_left
      · simp only [Act.put, List.setIfInBounds_toArray, List.set_cons_zero, List.set_cons_succ, i64_w, i32_w]
        rfl
      refine one_ (i := 22) (N := none) #[true, true, true, true, true, true, true, true, true, true, true, true, true, true, true, true, true, true, true, true, true, true, true, false, false, false] rfl rfl (by kernel_rfl) (by decide) (fun K hK => ?_)
      have hs5 := HGwg.out
      have hs6 := blk_set hs5 2 (.slice X5 x.f2.length d5)
      have cs5 : wg.cell? ⟨G, 2, none⟩ = some (.slice A5 x.f2.length c5) := (blk_cell hs5 2).trans HG2.out
      have fs5 := blk_frozen hs5 2
      have hkb := blk_far HKwg.out (p := ⟨G, 2, none⟩) hGB (.slice X5 x.f2.length d5)
      have k4wh : (wg.setCell ⟨G, 2, none⟩ (.slice X5 x.f2.length d5)).cell? ⟨w.heap.size, 4, none⟩ = some (.slice (some ⟨G, 0, none⟩) 1 cG) := (blk_cell hkb 4).trans rfl
      refine skip_ (w1 := ?_) (by rfl) rfl ?_ ?_
      rotate_left
      · go_simp
        rfl
      refine hK.out _ _ (k4wh) (fun hHeld => ?_)
      clear hK K
      refine pure_ (i := 23) (N := some 48) (v := ?_) (a' := ?_) #[true, true, true, true, true, true, true, true, true, true, true, true, true, true, true, true, true, true, true, true, true, true, true, true, false, false] rfl rfl (by kernel_rfl) (fun _ _ _ h => h) (Or.inl ⟨by rfl, ?_⟩) ?_ ?_
      rotate_left
      · intro w'
        go_simp
        with_reducible rfl
      rotate_left
      · simp only [Act.put, List.setIfInBounds_toArray, List.set_cons_zero, List.set_cons_succ, i64_w, i32_w]
        rfl
      refine pure_ (i := 24) (N := some 49) (v := ?_) (a' := ?_) #[true, true, true, true, true, true, true, true, true, true, true, true, true, true, true, true, true, true, true, true, true, true, true, true, true, false] rfl rfl (by kernel_rfl) (fun _ _ _ h => h) (Or.inl ⟨by rfl, ?_⟩) ?_ ?_
      rotate_left
      · intro w'
        go_simp
        with_reducible rfl
      rotate_left
      · simp only [Act.put, List.setIfInBounds_toArray, List.set_cons_zero, List.set_cons_succ, i64_w, i32_w]
        rfl
      refine one_ (i := 25) (N := none) #[true, true, true, true, true, true, true, true, true, true, true, true, true, true, true, true, true, true, true, true, true, true, true, true, true, true] rfl rfl (by kernel_rfl) (by decide) (fun K hK => ?_)
      have cs6 : (wg.setCell ⟨G, 2, none⟩ (.slice X5 x.f2.length d5)).cell? ⟨G, 3, none⟩ = some (.slice A6 x.f3.length c6) := (blk_cell hs6 3).trans (cur_set HG3.out rfl (by decide))
      have fs6 := blk_frozen hs6 3
      have hkc := blk_far hkb (p := ⟨G, 3, none⟩) hGB (.slice X6 x.f3.length d6)
      have k4wi : ((wg.setCell ⟨G, 2, none⟩ (.slice X5 x.f2.length d5)).setCell ⟨G, 3, none⟩ (.slice X6 x.f3.length d6)).cell? ⟨w.heap.size, 4, none⟩ = some (.slice (some ⟨G, 0, none⟩) 1 cG) := (blk_cell hkc 4).trans rfl
      refine skip_ (w1 := ?_) (by rfl) rfl ?_ ?_
      rotate_left
      · go_simp
        rfl
      refine hK.out _ _ (k4wi) (fun hHeld => ?_)
      clear hK K
      refine done_ (by kernel_rfl) ?_
--REG6E
      go_wp2
      have hB9 := (HBwg.out.setCell (p := ⟨G, 2, none⟩) HGb.out (.slice X5 x.f2.length d5)).setCell (p := ⟨G, 3, none⟩) HGb.out (.slice X6 x.f3.length d6)
      have hZ9 := blk_far (blk_far HZwg.out (p := ⟨G, 2, none⟩) hGZ (.slice X5 x.f2.length d5)) (p := ⟨G, 3, none⟩) hGZ (.slice X6 x.f3.length d6)
      have hG9 := blk_set hs6 3 (.slice X6 x.f3.length d6)
      have hO19 := Kd.R_set (Kd.R_set HO1wg.out hs5 (by decide) 2 (.slice X5 x.f2.length d5)) hs6 (by decide) 3 (.slice X6 x.f3.length d6)
      have hO29 := Kd.R_set (Kd.R_set HO2wg.out hs5 (by decide) 2 (.slice X5 x.f2.length d5)) hs6 (by decide) 3 (.slice X6 x.f3.length d6)
      have hO39 := Kd.R_set (Kd.R_set HO3wg.out hs5 (by decide) 2 (.slice X5 x.f2.length d5)) hs6 (by decide) 3 (.slice X6 x.f3.length d6)
      have hO59 := Kd.R_far (p := ⟨G, 3, none⟩) (Kd.R_far (p := ⟨G, 2, none⟩) HO5wg.out (fun _ h => h) (.slice X5 x.f2.length d5)) (fun _ h => h) (.slice X6 x.f3.length d6)
      have hO69 := Kd.R_far (p := ⟨G, 3, none⟩) (Kd.R_far (p := ⟨G, 2, none⟩) HO6wg.out (fun _ h => h) (.slice X5 x.f2.length d5)) (fun _ h => h) (.slice X6 x.f3.length d6)
      go_roundg 0
      case measure => omega
      case rel => exact ⟨1, by omega, by omega, by first | rfl | go_num, ⟨hB9⟩, ⟨hkc⟩, ⟨hZ9⟩, ⟨hO19⟩, ⟨hO29⟩, ⟨hO39⟩, ⟨fun h => by omega⟩, ⟨fun _ => ⟨X5, d5, X6, d6, hG9, hO59, hO69⟩⟩⟩
    · obtain rfl : kk = 1 := by omega
      obtain ⟨X5, d5, X6, d6, hG1, hr5, hr6⟩ := HP1.out rfl
      have HG1 := Lib.hid hG1
      have HR5 := Lib.hid hr5
      have HR6 := Lib.hid hr6
      have k0 : wr.cell? ⟨w.heap.size, 0, none⟩ = some (.string f0) := (blk_cell HK8.out 0).trans rfl
      have k1 : wr.cell? ⟨w.heap.size, 1, none⟩ = some (.slice X1 (risingF l1).length d1) := (blk_cell HK8.out 1).trans rfl
      have k2 : wr.cell? ⟨w.heap.size, 2, none⟩ = some (.slice X2 (risingF l2).length d2) := (blk_cell HK8.out 2).trans rfl
      have k3 : wr.cell? ⟨w.heap.size, 3, none⟩ = some (.slice X3 (risingF l3).length d3) := (blk_cell HK8.out 3).trans rfl
      have k4 : wr.cell? ⟨w.heap.size, 4, none⟩ = some (.slice (some ⟨G, 0, none⟩) 1 cG) := (blk_cell HK8.out 4).trans rfl
      have r0 : wr.cell? ⟨w.heap.size + 1, 0, none⟩ = some (.string ⟨#[]⟩) := (blk_cell HZ8.out 0).trans rfl
      have r1 : wr.cell? ⟨w.heap.size + 1, 1, none⟩ = some (.slice none 0 0) := (blk_cell HZ8.out 1).trans rfl
      have r2 : wr.cell? ⟨w.heap.size + 1, 2, none⟩ = some (.slice none 0 0) := (blk_cell HZ8.out 2).trans rfl
      have r3 : wr.cell? ⟨w.heap.size + 1, 3, none⟩ = some (.slice none 0 0) := (blk_cell HZ8.out 3).trans rfl
      have r4 : wr.cell? ⟨w.heap.size + 1, 4, none⟩ = some (.slice none 0 0) := (blk_cell HZ8.out 4).trans rfl
      have z0 := blk_frozen HZ8.out 0
      have z1 := blk_frozen HZ8.out 1
      have z2 := blk_frozen HZ8.out 2
      have z3 := blk_frozen HZ8.out 3
      have z4 := blk_frozen HZ8.out 4
      clear hG1 hr5 hr6 HP0 HP1
      go_wp2
      have hs := set5_blk (.string f0) (.slice X1 (risingF l1).length d1) (.slice X2 (risingF l2).length d2) (.slice X3 (risingF l3).length d3) (.slice (some ⟨G, 0, none⟩) 1 cG) HZ8.out
      have hA := RS.set5 HO18.out (.string f0) (.slice X1 (risingF l1).length d1) (.slice X2 (risingF l2).length d2) (.slice X3 (risingF l3).length d3) (.slice (some ⟨G, 0, none⟩) 1 cG) HZ8.out (by decide)
      have hB := RS.set5 HO28.out (.string f0) (.slice X1 (risingF l1).length d1) (.slice X2 (risingF l2).length d2) (.slice X3 (risingF l3).length d3) (.slice (some ⟨G, 0, none⟩) 1 cG) HZ8.out (by decide)
      have hC := RS.set5 HO38.out (.string f0) (.slice X1 (risingF l1).length d1) (.slice X2 (risingF l2).length d2) (.slice X3 (risingF l3).length d3) (.slice (some ⟨G, 0, none⟩) 1 cG) HZ8.out (by decide)
      have hle : w.heap.size ≤ w.heap.size + 1 := Nat.le_succ _
      have hD := ((((HB8.out.setCell (p := ⟨w.heap.size + 1, 0, none⟩) hle (.string f0)).setCell (p := ⟨w.heap.size + 1, 1, none⟩) hle (.slice X1 (risingF l1).length d1)).setCell (p := ⟨w.heap.size + 1, 2, none⟩) hle (.slice X2 (risingF l2).length d2)).setCell (p := ⟨w.heap.size + 1, 3, none⟩) hle (.slice X3 (risingF l3).length d3)).setCell (p := ⟨w.heap.size + 1, 4, none⟩) hle (.slice (some ⟨G, 0, none⟩) 1 cG)
      have mv : ∀ k : Nat, k ≠ w.heap.size + 1 → (set5 wr (w.heap.size + 1) (.string f0) (.slice X1 (risingF l1).length d1) (.slice X2 (risingF l2).length d2) (.slice X3 (risingF l3).length d3) (.slice (some ⟨G, 0, none⟩) 1 cG)).heap[k]? = wr.heap[k]? := fun k hk => by
        unfold set5
        rw [Below.heap_setCell _ _ _ _ hk, Below.heap_setCell _ _ _ _ hk, Below.heap_setCell _ _ _ _ hk, Below.heap_setCell _ _ _ _ hk, Below.heap_setCell _ _ _ _ hk]
      have hE := (mv G hGZ.symm).trans HG1.out
      have nz : ∀ {X : Option Addr} {n d : Nat} {l : List ByteArray}, Kd.R Kd.string 9 wr w.heap.size (fun k => k ≠ G) (.slice X n d) l → Kd.R Kd.string 9 (set5 wr (w.heap.size + 1) (.string f0) (.slice X1 (risingF l1).length d1) (.slice X2 (risingF l2).length d2) (.slice X3 (risingF l3).length d3) (.slice (some ⟨G, 0, none⟩) 1 cG)) w.heap.size (fun k => True ∧ some k ≠ (Value.slice (some (⟨G, 0, none⟩ : Addr)) 1 cG).ownBlock) (.slice X n d) l := fun h => by
        refine Kd.R_mono (Kd.R_move (Kd.R_types h HZ8.out (by decide)) (fun k hk => mv k hk.2)) (fun k hk => ⟨trivial, fun e => hk.1 ?_⟩)
        simpa [Value.ownBlock] using e
      have hF := nz HR5.out
      have hH := nz HR6.out
      clear k0 k1 k2 k3 k4 r0 r1 r2 r3 r4 z0 z1 z2 z3 z4 mv nz
      unfold set5 at hs hA hB hC hE hF hH
      generalize ((((wr.setCell ⟨w.heap.size + 1, 0, none⟩ (.string f0)).setCell ⟨w.heap.size + 1, 1, none⟩ (.slice X1 (risingF l1).length d1)).setCell ⟨w.heap.size + 1, 2, none⟩ (.slice X2 (risingF l2).length d2)).setCell ⟨w.heap.size + 1, 3, none⟩ (.slice X3 (risingF l3).length d3)).setCell ⟨w.heap.size + 1, 4, none⟩ (.slice (some ⟨G, 0, none⟩) 1 cG) = wE at hs hA hB hC hD hE hF hH ⊢
      have g0 := (blk_cell hs 0).trans rfl
      have g1 := (blk_cell hs 1).trans rfl
      have g2 := (blk_cell hs 2).trans rfl
      have g3 := (blk_cell hs 3).trans rfl
      have g4 := (blk_cell hs 4).trans rfl
      have hrow : Kd.R k62 62 wE w.heap.size (fun _ => True) (.slice (some ⟨G, 0, none⟩) 1 cG) [x] := by
        have hcells : [Value.string x.f0, .int .i64 x.f1, .slice X5 x.f2.length d5, .slice X6 x.f3.length d6, .int .i64 x.f4] = ((cur.setIfInBounds 2 (.slice X5 x.f2.length d5)).setIfInBounds 3 (.slice X6 x.f3.length d6)).toList.take 5 := by
          have hsz := HCap.out
          apply List.ext_getElem?
          intro i
          rcases Nat.lt_or_ge i 5 with hi | hi
          · rw [List.getElem?_take_of_lt hi]
            conv => rhs; rw [Array.getElem?_toList, Array.getElem?_setIfInBounds, Array.getElem?_setIfInBounds]
            have h := HAt.out i hi
            have h2 : 2 < cur.size := by omega
            have h3 : 3 < cur.size := by omega
            match i, hi with
            | 0, _ => simp at h ⊢; exact h.symm
            | 1, _ => simp at h ⊢; exact h.symm
            | 2, _ => simp [h2]
            | 3, _ => simp [h3]
            | 4, _ => simp at h ⊢; exact h.symm
          · rw [List.getElem?_eq_none (by simpa using hi), List.getElem?_eq_none (by rw [List.length_take]; omega)]
        refine ⟨fun _ _ => trivial, [Value.string x.f0, .int .i64 x.f1, .slice X5 x.f2.length d5, .slice X6 x.f3.length d6, .int .i64 x.f4], ⟨rfl, .inr ⟨G, cG, _, rfl, HGb.out, hE, HCap.out.2.1, HCap.out.2.2, ?_, ?_⟩⟩, rfl, fun j p hj => ?_⟩
        · rw [Array.size_setIfInBounds, Array.size_setIfInBounds]; exact HCap.out.1
        · exact hcells.symm
        · match j, hj with
          | 0, hj =>
            simp at hj
            subst hj
            exact k62_mkM _ _ _ _ hF hH
          | j + 1, hj => simp at hj
      exact bodyPost_ret (v := .agg #[.string f0, .slice X1 (risingF l1).length d1, .slice X2 (risingF l2).length d2, .slice X3 (risingF l3).length d3, .slice (some ⟨G, 0, none⟩) 1 cG]) (by simp [results, Tryz.results62, go_sem, g0, g1, g2, g3, g4]) rfl ⟨_, _, _, _, _, _, _, _, rfl, hA, hB, hC, hrow, hD⟩

end Go.Proofs.YthagibkmfgodgaaGreatDoor.X
