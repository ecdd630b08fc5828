/-
  slices.Sorted(slices.Values(l)) at lists of strings: the list, sorted. (The iterator's and the loop's walks after the how-to's worked texts.)
-/
import Derived.Test.YthagibkmfgodgaaGreatDoorParI
import Derived.RangeFuncBox
import Derived.RangeFuncLeaves
import Derived.RangeFuncNested
import Derived.RangeFuncBound
import Derived.RangeFuncCalls
import Derived.Shelf.Abstract
import Derived.OwnWalkIn
import Derived.TacticsInMore
import Derived.LoopNIn
import Derived.LoopIn
import Derived.Maps.AppendAt
import Derived.Sort.OwnSorted
namespace Go.Proofs.YthagibkmfgodgaaGreatDoor.X
open Go.RowKit Go.Maps Go.Sort Go.Proofs.YthagibkmfgodgaaGreatDoorW.PrintWords Go.Proofs.YthagibkmfgodgaaGreatDoorW.PrintMore Go.Proofs.YthagibkmfgodgaaGreatDoorW.PrintLast

attribute [local go_sem] Oper.semAt_some

abbrev atS (zs : List ByteArray) (j : Nat) : ByteArray := zs[j]?.getD ByteArray.empty
def uptoS (zs : List ByteArray) (k : Nat) : List ByteArray := (List.range k).map fun j => zs[j]?.getD ByteArray.empty
theorem uptoS_succ (zs : List ByteArray) (k : Nat) : uptoS zs (k + 1) = uptoS zs k ++ [zs[k]?.getD ByteArray.empty] := by simp [uptoS, List.range_succ]
theorem uptoS_length (zs : List ByteArray) (k : Nat) : (uptoS zs k).length = k := by simp [uptoS]
theorem uptoS_take (zs : List ByteArray) {k : Nat} (hk : k ≤ zs.length) : uptoS zs k = zs.take k := by
  apply List.ext_getElem
  · simp [uptoS, hk]
  · intro i h1 h2
    have : i < zs.length := by simp [uptoS] at h1; omega
    simp [uptoS, this]
theorem uptoS_all (zs : List ByteArray) : uptoS zs zs.length = zs := by rw [uptoS_take zs (Nat.le_refl _), List.take_length]

set_option maxRecDepth 100000 in
set_option maxHeartbeats 4000000 in
theorem values1_in (n : Nat) (hn : 1 ≤ n) (l Bs n₀ b off len cap : Nat) (zs : List ByteArray) (hreach : len * 16 ≤ 140737488355328) (hb : b < n₀) (J Jx : List ByteArray → World → Prop)
    (hY : ∀ pre x W, J pre W → pre.length < len → YieldAt Fence.wide (n - 1) Tryz.prog l #[.string x] W fun e W' =>
      (e = .returned (.bool true) ∧ J (pre ++ [x]) W' ∧ Below n₀ W W') ∨ (e = .returned (.bool false) ∧ Jx (pre ++ [x]) W'))
    (W : World) (hBs : W.cell? ⟨Bs, 0, none⟩ = some (.slice (some ⟨b, off, none⟩) len cap)) (hc : ∀ j, j < len → W.cell? ⟨b, off + j, none⟩ = some (.string (zs[j]?.getD ByteArray.empty))) (h0 : J [] W) :
    CallsIn Fence.wide n Tryz.prog 155 #[.func (.yield l) #[] #[], .pointer (some ⟨Bs, 0, none⟩)] W fun e W' => (∃ v, e = .returned v) ∧
      ((∃ ys, ys = uptoS zs len ∧ J ys W') ∨ (∃ pre, (∃ k, k ≤ len ∧ pre = uptoS zs k) ∧ Jx pre W')) := by
  refine callsIn_of_wp Tryz.func155 rfl trivial ?_ rfl
  simp only [Tryz.ntmps155, List.size_toArray, List.length_cons, List.length_nil, Nat.reduceAdd, Nat.reduceSub, Array.replicate_succ, Array.replicate_zero, List.push_toArray, List.append_toArray, List.nil_append, List.cons_append]
  gi_wp2
  gi_loopw [7] (fun i wr => ∃ k : Nat, k ≤ len ∧ i = .int .i64 k ∧ J (uptoS zs k) wr ∧ Below n₀ W wr)
    (fun i _ => len - (intOf i).toNat)
  case atStart => exact ⟨0, Nat.zero_le _, rfl, h0, Below.refl _ _⟩
  case round =>
    obtain ⟨k, hk, rfl, hJs, hnx⟩ := hrel
    have hcx : k < len → wr.cell? ⟨b, off + k, none⟩ = some (.string (zs[k]?.getD ByteArray.empty)) := fun h => (hnx.cell (p := ⟨b, off + k, none⟩) hb).trans (hc k h)
    by_cases hlt : k < len
    · obtain ⟨fn, tmps, assign, body, hy, hR⟩ := hY _ (zs[k]?.getD ByteArray.empty) wr hJs (by rw [uptoS_length]; exact hlt)
      have hcx' := hcx hlt
      gi_wp2
      refine hR.mono ?_
      rintro e W3 (⟨rfl, hJ3, hk3⟩ | ⟨rfl, hJx3⟩)
      · gi_wp2
        go_roundw
        case rel => exact ⟨k + 1, by omega, by simp, by rw [uptoS_succ]; exact hJ3, hnx.trans hk3⟩
        case measure => simp [intOf]; omega
      · gi_wp2
        refine bodyPost_ret (results_none rfl _ _ _) rfl ?_
        exact ⟨⟨_, rfl⟩, .inr ⟨_, ⟨k + 1, by omega, (uptoS_succ _ _).symm⟩, hJx3⟩⟩
    · obtain rfl : k = len := by omega
      gi_wp2
      go_end0
      exact ⟨⟨_, rfl⟩, .inl ⟨_, rfl, hJs⟩⟩
/-- The slice value sv holds the strings zs, in a block below n₀; or it is nil and there are none. -/
def StrsAt (n₀ : Nat) (W : World) (sv : Value) (zs : List ByteArray) : Prop :=
  ((∃ A c, sv = .slice A 0 c) ∧ zs = []) ∨ ∃ b off cap, sv = .slice (some ⟨b, off, none⟩) zs.length cap ∧ b < n₀ ∧ ∀ j, j < zs.length → W.cell? ⟨b, off + j, none⟩ = some (.string (zs[j]?.getD ByteArray.empty))
theorem StrsAt.below {n₀ : Nat} {A B : World} (h : Below n₀ A B) {sv : Value} {zs : List ByteArray} : StrsAt n₀ A sv zs → StrsAt n₀ B sv zs
  | .inl e => .inl e
  | .inr ⟨b, off, cap, e, hb, hc⟩ => .inr ⟨b, off, cap, e, hb, fun j hj => (h.cell (p := ⟨b, off + j, none⟩) hb).trans (hc j hj)⟩
set_option maxRecDepth 100000 in
set_option maxHeartbeats 1000000 in
theorem values1_nil_in (n l Bs : Nat) (A : Option Addr) (c : Nat) (J : List ByteArray → World → Prop) (W : World) (hBs : W.cell? ⟨Bs, 0, none⟩ = some (.slice A 0 c)) (h0 : J [] W) :
    CallsIn Fence.wide n Tryz.prog 155 #[.func (.yield l) #[] #[], .pointer (some ⟨Bs, 0, none⟩)] W fun e W' => (∃ v, e = .returned v) ∧ J [] W' := by
  refine callsIn_of_wp Tryz.func155 rfl trivial ?_ rfl
  simp only [Tryz.ntmps155, List.size_toArray, List.length_cons, List.length_nil, Nat.reduceAdd, Nat.reduceSub, Array.replicate_succ, Array.replicate_zero, List.push_toArray, List.append_toArray, List.nil_append, List.cons_append]
  gi_wp2
  gi_loopw [7] (fun i wr => i = .int .i64 0 ∧ J [] wr) (fun _ _ => 0)
  case atStart => exact ⟨rfl, h0⟩
  case round =>
    obtain ⟨rfl, hJs⟩ := hrel
    gi_wp2
    go_end0
    exact ⟨⟨_, rfl⟩, hJs⟩
theorem values_stops (n : Nat) (hn : 1 ≤ n) (Bs n₀ : Nat) (sv : Value) (zs : List ByteArray) (hreach : zs.length * 16 ≤ 140737488355328) (w : World) (hBs : Bs < w.heap.size) (hn₀ : n₀ ≤ w.heap.size)
    (hc : w.cell? ⟨Bs, 0, none⟩ = some sv) (hI : StrsAt n₀ w sv zs) :
    SeqStopsK Fence.wide n Tryz.prog 155 #[.pointer (some ⟨Bs, 0, none⟩)] (fun x : ByteArray => #[Value.string x]) (Below n₀) (fun ys => ys = zs) (fun pre => pre <+: zs) zs.length w := fun l J Jx W hW _ _ hY h0 => by
  have hc' := (hW.cell (p := ⟨Bs, 0, none⟩) hBs).trans hc
  rcases hI.below (hW.mono hn₀) with ⟨⟨A, c, rfl⟩, rfl⟩ | ⟨b, off, cap, rfl, hb, hcs⟩
  · exact (values1_nil_in n l Bs A c J W hc' h0).mono fun e W' ⟨he, hj⟩ => ⟨he, .inl ⟨_, rfl, hj⟩⟩
  · refine (values1_in n hn l Bs n₀ b off zs.length cap zs hreach hb J Jx hY W hc' hcs h0).mono ?_
    rintro e W' ⟨he, ⟨ys, rfl, hj⟩ | ⟨pre, ⟨k, hk, rfl⟩, hj⟩⟩
    · exact ⟨he, .inl ⟨_, uptoS_all zs, hj⟩⟩
    · exact ⟨he, .inr ⟨_, by rw [uptoS_take zs hk]; exact List.take_prefix _ _, hj⟩⟩
theorem eg_values1 : ∀ args w, (callFunc 155 args).run Tryz.prog w = .ok (.enter 155 args) w := Go.Proofs.enters_of Tryz.func155 (by kernel_rfl) rfl

set_option maxRecDepth 100000 in
set_option maxHeartbeats 4000000 in
theorem appendSeq_in (n : Nat) (hn : 3 ≤ n) (Bs : Nat) (sv : Value) (zs : List ByteArray) (hlen : zs.length ≤ 4611686018427387904) (hbytes : zs.length * 16 ≤ 140737488355328) (w : World) (hBs : Bs < w.heap.size)
    (hc : w.cell? ⟨Bs, 0, none⟩ = some sv) (hI : StrsAt w.heap.size w sv zs) :
    CallsIn Fence.wide n Tryz.prog 169 #[.slice none 0 0, .func (.func 155) #[] #[.pointer (some ⟨Bs, 0, none⟩)]] w fun e W' => ∃ v, e = .returned v ∧
      W'.ownsRow w.heap.size 9 1 v zs.length (zs.map Value.string) ∧ Below w.heap.size w W' := by
  have h1 : 1 ≤ n := by omega
  obtain ⟨i0, hi, hz0, hz1, hz2⟩ := info_parts infoStr
  refine callsIn_of_wp_marks Tryz.func169 rfl trivial ?_ rfl
  simp only [Tryz.ntmps169, List.size_toArray, List.length_cons, List.length_nil, Nat.reduceAdd, Nat.reduceSub, Array.replicate_succ, Array.replicate_zero, List.push_toArray, List.append_toArray, List.nil_append, List.cons_append]
  gi_wp2
  have bO := Boxed.new w 46 (.slice none 0 0)
  have hB0 : Below w.heap.size w (w.alloc (.cells #[.slice none 0 0] 46)) := (Below.refl _ w).alloc (Nat.le_refl _) _
  refine wpIn_rangeFunc_ownG rfl h1 (gf := 155) (lb := #[.pointer (some ⟨Bs, 0, none⟩)]) rfl trivial eg_values1
    (values_stops (n - 1) (by omega) Bs w.heap.size sv zs hbytes _ (by simp; omega) (by simp) ((hB0.cell (p := ⟨Bs, 0, none⟩) hBs).trans hc) (hI.below hB0)) belowK_t (belowK_b (by simp)) (Below.refl _ _) (fun _ => rfl)
    (fun pre W => (∃ v, Boxed W w.heap.size 46 v ∧ W.ownsRow w.heap.size 9 1 v pre.length (pre.map Value.string) ∧ True) ∧ Below w.heap.size w W)
    (fun _ _ _ => False)
    (OwnFrom.and (Own.from (holdsRow_own w.heap.size w.heap.size 46 9 1 (fun pre : List ByteArray => pre.length) (fun pre : List ByteArray => pre.map Value.string) (fun _ _ => True)) _) (ownFrom_below (Nat.le_refl _) (by simp)))
    (fun _ _ _ _ _ hs _ _ => hs)
    ⟨⟨_, bO, World.ownsRow_nil _ _ _ _, trivial⟩, hB0⟩
    (fun x => { tmps := #[.slice none 0 0, .func (.func 155) #[] #[.pointer (some ⟨Bs, 0, none⟩)], .pointer (some ⟨w.heap.size, 0, none⟩), undef, .slice none 0 0, .string x, .func (.func 155) #[] #[.pointer (some ⟨Bs, 0, none⟩)], .string x, undef, undef, undef, undef, undef], defers := [] }) ?assign ?body ?done ?stop
  case assign =>
    intro l x W K hK
    gi_wp2
    exact hK
  case body =>
    rintro l pre x W ⟨⟨v, hv, hrow, _⟩, hB⟩ hlt
    have hc := hv.cell
    gi_wp2_with (gi_at_builtin; refine wpListIn_append_own _ rfl _ _ 46 rfl w.heap.size 9 i0 (.string ⟨#[]⟩) 1 16 Tryz.underlying46 hi hz0 hz1 hz2 rfl (by decide) _ _ _ rfl (hrow.alloc _) ⟨W.heap.size, 0, none⟩ 1 1 [.string x] rfl rfl (cell_one_new _ _ _) (by simp [Value.oneCell']) (by unfold maxLen; omega) (by omega) (by have := hB.size; simp; omega) ?_; intro v' w1 hown' hgrow _; obtain ⟨g', cap', rfl⟩ := ownsRow_succ hown'; obtain ⟨hv1, hv2, hr2, hk2, hb2⟩ := hv.appended (by decide) hrow hB.size (Nat.le_refl _) hown' hgrow; have hc1 := hv1.cell; have hf1 := hv1.frozen)
    exact ⟨hk2.from _, hb2, ⟨_, hv2, by simpa using hr2, trivial⟩, hB.trans hb2⟩
  case done =>
    rintro D ys W hD rfl ⟨⟨v, hv, hrow, _⟩, hB⟩ hK
    have hc := hv.cell
    gi_wp2
    refine ⟨by simp, .inl ⟨_, _, rfl, run_takeDeferred hK, ?_⟩⟩
    exact ⟨_, results_tmp rfl _ _ _, v, rfl, ownsRow_putObj hrow _ hK rfl, hB.trans (belowK_b (w := w) (Nat.le_refl _) W D _ _ (by simp at hD; omega) hK rfl rfl)⟩
  case stop =>
    rintro D c pre W _ _ h _
    exact h.elim

def risingF (zs : List ByteArray) : List ByteArray := ((zs.map fun x => x.data.toList).mergeSort fun x y => decide (x ≤ y)).map mk
theorem encStr_list (zs : List ByteArray) : zs.map Value.string = (zs.map fun x => x.data.toList).map encStr := by
  rw [List.map_map]
  apply List.map_congr_left
  intro x _
  show Value.string x = Value.string (mk x.data.toList)
  rfl
theorem appendSeq_calls (Bs : Nat) (sv : Value) (zs : List ByteArray) (hbytes : zs.length * 16 ≤ 140737488355328) (w : World) (hBs : Bs < w.heap.size)
    (hc : w.cell? ⟨Bs, 0, none⟩ = some sv) (hI : StrsAt w.heap.size w sv zs) :
    Calls Tryz.prog 169 #[.slice none 0 0, .func (.func 155) #[] #[.pointer (some ⟨Bs, 0, none⟩)]] w fun e W' => ∃ v, e = .returned v ∧
      W'.ownsRow w.heap.size 9 1 v zs.length (zs.map Value.string) ∧ Below w.heap.size w W' :=
  callsIn_wide.1 (appendSeq_in 3 (Nat.le_refl _) Bs sv zs (by omega) hbytes w hBs hc hI)
set_option maxHeartbeats 1000000 in
theorem collect_calls (Bs : Nat) (sv : Value) (zs : List ByteArray) (hbytes : zs.length * 16 ≤ 140737488355328) (w : World) (hBs : Bs < w.heap.size)
    (hc : w.cell? ⟨Bs, 0, none⟩ = some sv) (hI : StrsAt w.heap.size w sv zs) :
    Calls Tryz.prog 153 #[.func (.func 155) #[] #[.pointer (some ⟨Bs, 0, none⟩)]] w fun e W' => ∃ v, e = .returned v ∧
      W'.ownsRow w.heap.size 9 1 v zs.length (zs.map Value.string) ∧ Below w.heap.size w W' := by
  have h := appendSeq_calls Bs sv zs hbytes w hBs hc hI
  go_enter Tryz.func153, Tryz.ntmps153
  go_wp2_with (go_at_call 169; refine h.mono ?_; rintro e w2 ⟨v, rfl, ho, hb⟩)
  go_ret
  exact ⟨v, rfl, ho, hb⟩
set_option maxHeartbeats 1000000 in
theorem sorted_calls (Bs : Nat) (sv : Value) (zs : List ByteArray) (hbytes : zs.length * 16 ≤ 140737488355328) (w : World) (hBs : Bs < w.heap.size)
    (hc : w.cell? ⟨Bs, 0, none⟩ = some sv) (hI : StrsAt w.heap.size w sv zs) :
    Calls Tryz.prog 130 #[.func (.func 155) #[] #[.pointer (some ⟨Bs, 0, none⟩)]] w fun e W' => ∃ v, e = .returned v ∧
      RS W' w.heap.size v (risingF zs) ∧ Below w.heap.size w W' := by
  have h := collect_calls Bs sv zs hbytes w hBs hc hI
  have hlen : (risingF zs).length = zs.length := by unfold risingF; rw [List.length_map, List.length_mergeSort, List.length_map]
  have hrs : encs Value.string (risingF zs) = ((zs.map fun x => x.data.toList).mergeSort fun x y => decide (x ≤ y)).map encStr := by
    unfold risingF encs
    rw [List.map_map]
    rfl
  have HLen := Lib.hid hlen
  have HRs := Lib.hid hrs
  clear hlen hrs
  go_enter Tryz.func130, Tryz.ntmps130
  go_wp2_with fail
  refine h.mono ?_
  rintro e W ⟨v, rfl, hrow, hb⟩
  have HB := Lib.hid hb
  clear h hb
  rcases hrow.2 with ⟨rfl, hz⟩ | ⟨gb, cap, cur, rfl, hbase, hgb, r1, r2, r3, r4⟩
  · have hss : zs = [] := List.eq_nil_of_length_eq_zero hz
    subst hss
    have cS := Go.Proofs.AnyM.slices_Sort_string_none Go.Proofs.Tryz.laysSort none 0 W
    change Calls Tryz.prog 154 _ _ _ at cS
    go_wp2_with (go_at_call 154; refine cS.mono ?_; rintro e w' ⟨rfl, rfl⟩)
    go_ret
    exact ⟨.slice none 0 0, rfl, by rw [show risingF [] = [] by simp [risingF]]; exact Kd.R_nil _ _ _ _ _, HB.out⟩
  · rw [encStr_list] at r4
    have hH : Holds encStr W gb 0 (zs.map fun x => x.data.toList).toArray := Go.holds_of_block hgb (by simpa using r4)
    have hgl : gb < W.heap.size := (Array.getElem?_eq_some_iff.1 hgb).1
    have hsz : (zs.map fun x => x.data.toList).length < 4611686018427387904 := by rw [List.length_map]; omega
    have cS := Go.Proofs.AnyM.slices_Sort_string Go.Proofs.Tryz.laysSort gb 0 cap (zs.map fun x => x.data.toList) W hH hgl hsz
    change Calls Tryz.prog 154 _ _ _ at cS
    rw [List.length_map] at cS
    go_wp2_with (go_at_call 154; refine cS.mono ?_; rintro e w' ⟨rfl, nn, os, rfl⟩)
    go_ret
    refine ⟨_, rfl, Kd.R_of_own (h1 := fun _ => rfl) ?_ (fun _ _ => trivial), HB.out.grown (grownBy_sorted _) HB.out.size (fun j hj => by cases hj; exact hbase)⟩
    rw [HRs.out, HLen.out]
    have hos := ownsRow_sorted (n := nn) (os := os) (ss := zs.map fun x => x.data.toList) (ts := (zs.map fun x => x.data.toList).mergeSort fun x y => decide (x ≤ y)) (by simp) hbase hgb (by rw [List.length_map]; exact r1) r2 r3
    rw [List.length_map] at hos
    exact hos
set_option maxHeartbeats 1000000 in
theorem rising_calls (A : Option Addr) (c : Nat) (l : List ByteArray) (w : World) (hr : Kd.C Kd.string w A l.length l) (hbytes : l.length * 16 ≤ 140737488355328) :
    Calls Tryz.prog 92 #[.slice A l.length c] w fun e W' => ∃ v, e = .returned v ∧ RS W' w.heap.size v (risingF l) ∧ Below w.heap.size w W' := by
  have hV : ∀ W, Calls Tryz.prog 131 #[.slice A l.length c] W fun e W' => e = .returned (.func (.func 155) #[] #[.pointer (some ⟨W.heap.size, 0, none⟩)]) ∧ W' = W.alloc (.cells #[.slice A l.length c] 46) := by
    intro W
    go_enter Tryz.func131, Tryz.ntmps131
    go_wp2
    go_ret
    exact ⟨rfl, rfl⟩
  have hS0 : StrsAt w.heap.size w (.slice A l.length c) l := by
    rcases row_open hr with h0 | ⟨b, o, rfl, hb, hcell⟩
    · subst h0
      exact .inl ⟨⟨A, c, rfl⟩, rfl⟩
    · refine .inr ⟨b, o, c, rfl, hb, fun j hj => ?_⟩
      have := hcell j hj
      rwa [List.getD_eq_getElem?_getD] at this
  have hS := hS0.below ((Below.refl w.heap.size w).alloc (Nat.le_refl _) (.cells #[.slice A l.length c] 46))
  have hS1 : StrsAt (w.alloc (.cells #[.slice A l.length c] 46)).heap.size (w.alloc (.cells #[.slice A l.length c] 46)) (.slice A l.length c) l := by
    rcases hS with h | ⟨b, o, cc, h1, hb, h2⟩
    · exact .inl h
    · exact .inr ⟨b, o, cc, h1, by simp; omega, h2⟩
  have h := sorted_calls w.heap.size _ l hbytes (w.alloc (.cells #[.slice A l.length c] 46)) (by simp) ((blk_cell (blk_new w _) 0).trans rfl) hS1
  clear hS hS0 hS1 hr
  go_enter Tryz.func92, Tryz.ntmps92
  go_wp2_with (first | (go_at_call 131; refine (hV _).mono ?_; rintro e w' ⟨rfl, rfl⟩) | (go_at_call 130; refine h.mono ?_; rintro e w2 ⟨v, rfl, ho, hb⟩))
  go_ret
  exact ⟨v, rfl, Kd.R_lower ho (by simp), below_then ((Below.refl w.heap.size w).alloc (Nat.le_refl _) _) (by simp) hb⟩

end Go.Proofs.YthagibkmfgodgaaGreatDoor.X
