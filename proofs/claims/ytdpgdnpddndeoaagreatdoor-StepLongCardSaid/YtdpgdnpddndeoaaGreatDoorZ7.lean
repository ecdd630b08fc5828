/-
  slices.Sorted(slices.Values(l)) at lists of strings: the list, sorted. (The iterator's and the loop's walks after the how-to's worked texts.)
  Commands, plainly: lines as they are cut and as they are scanned; a list sorted and a list into which each was put.
  Commands, plainly: a text within another one, and one put in its place, as the library tells them and as the reference scans them.
  Commands, plainly: which steps may be, what a step makes of texts: as the program tells it and as the reference does.
  Programs that run, plainly: values by their names (as the program keeps them) and a table of steps (as the reference does) tell the same.
  Which rules may be, plainly: as the program tells it and as the reference does (CheckRule).
  A step and a rule in memory, read plainly: the command, the names.
  The library contracts of the shelf, laid at this seat: tables of numbers and the kernel's comparisons, in plain words (printed by the shelf's tools).
  Commands, walked by hand: a text's lines, a text of lines; which steps may be.
-/
import Derived.RangeFuncBox
import Derived.RangeFuncLeaves
import Derived.RangeFuncNested
import Derived.RangeFuncBound
import Derived.RangeFuncCalls
import Derived.Shelf.Abstract
import Derived.OwnWalkIn
import Derived.TacticsInMore
import Derived.LoopNIn
import Derived.LoopIn
import Derived.Maps.AppendAt
import Derived.Sort.OwnSorted
import Derived.Lib.Replace
import Derived.Shelf.Strings.Prefix
import Derived.Shelf.Strings.Search3
import Derived.Shelf.Strings.Replace
import Derived.Shelf.Slices.Turned
import Derived.Shelf.Slices.CompactS
import Derived.Ground.NamesProg
import Derived.Test.YtdpgdnpddndeoaaGreatDoorProg
import Derived.BigQuiet
import Derived.BigRegion
import Derived.Deep.DeepCutAuto
import Derived.Deep.CutBlock
import Derived.Deep.RegionHeld3
import Derived.Test.YtdpgdnpddndeoaaGreatDoorZ6
import Derived.Test.YtdpgdnpddndeoaaGreatDoorZ0
import Derived.Test.YtdpgdnpddndeoaaGreatDoorZ4
namespace Go.Proofs.YtdpgdnpddndeoaaGreatDoor.X
open Go.RowKit Go.Maps Go.Sort Go.Proofs.YtdpgdnpddndeoaaGreatDoorW.PrintWords Go.Proofs.YtdpgdnpddndeoaaGreatDoorW.PrintMore Go.Proofs.YtdpgdnpddndeoaaGreatDoorW.PrintLast
attribute [local go_sem] Oper.semAt_some

def zbZ (zs : List ByteArray) (k : Nat) : List ByteArray := (List.range k).map fun j => zs[j]?.getD ByteArray.empty
theorem zgz (zs : List ByteArray) (k : Nat) : zbZ zs (k + 1) = zbZ zs k ++ [zs[k]?.getD ByteArray.empty] := by simp [zbZ, List.range_succ]
theorem zkJ (zs : List ByteArray) (k : Nat) : (zbZ zs k).length = k := by simp [zbZ]
theorem zhE (zs : List ByteArray) {k : Nat} (hk : k <= zs.length) : zbZ zs k = zs.take k := by
 apply List.ext_getElem
 . simp [zbZ, hk]
 . intro i h1 h2
   have : i < zs.length := by simp [zbZ] at h1; omega
   simp [zbZ, this]
theorem zl7 (zs : List ByteArray) : zbZ zs zs.length = zs := by rw [zhE zs (Nat.le_refl _), List.take_length]

set_option maxRecDepth 100000 in
set_option maxHeartbeats 4000000 in
theorem zkM (n : Nat) (hn : 1 <= n) (l Bs n₀ b off len cap : Nat) (zs : List ByteArray) (hreach : len * 16 <= 140737488355328) (hb : b < n₀) (J Jx : List ByteArray -> World -> Prop)
 (hY : ∀ pre x W, J pre W -> pre.length < len -> YieldAt Fence.wide (n - 1) Tryz.prog l #[.string x] W fun e W' =>
  (e = .returned (.bool true) /\ J (pre ++ [x]) W' /\ Below n₀ W W') \/ (e = .returned (.bool false) /\ Jx (pre ++ [x]) W'))
 (W : World) (hBs : W.cell? ⟨Bs, 0, none⟩ = some (.slice (some ⟨b, off, none⟩) len cap)) (hc : ∀ j, j < len -> W.cell? ⟨b, off + j, none⟩ = some (.string (zs[j]?.getD ByteArray.empty))) (h0 : J [] W) :
 CallsIn Fence.wide n Tryz.prog 127 #[.func (.yield l) #[] #[], .pointer (some ⟨Bs, 0, none⟩)] W fun e W' => (∃ v, e = .returned v) /\
  ((∃ ys, ys = zbZ zs len /\ J ys W') \/ (∃ pre, (∃ k, k <= len /\ pre = zbZ zs k) /\ Jx pre W')) := by
 refine callsIn_of_wp Tryz.func127 rfl trivial ?_ rfl
 simp only [Tryz.ntmps127, List.size_toArray, List.length_cons, List.length_nil, Nat.reduceAdd, Nat.reduceSub, Array.replicate_succ, Array.replicate_zero, List.push_toArray, List.append_toArray, List.nil_append, List.cons_append]
 gi_wp2
 gi_loopw [7] (fun i wr => ∃ k : Nat, k <= len /\ i = .int .i64 k /\ J (zbZ zs k) wr /\ Below n₀ W wr)
  (fun i _ => len - (intOf i).toNat)
 case atStart => exact ⟨0, Nat.zero_le _, rfl, h0, Below.refl _ _⟩
 case round =>
  obtain ⟨k, hk, rfl, hJs, hnx⟩ := hrel
  have hcx : k < len -> wr.cell? ⟨b, off + k, none⟩ = some (.string (zs[k]?.getD ByteArray.empty)) := fun h => (hnx.cell (p := ⟨b, off + k, none⟩) hb).trans (hc k h)
  by_cases hlt : k < len
  . obtain ⟨fn, tmps, assign, body, hy, hR⟩ := hY _ (zs[k]?.getD ByteArray.empty) wr hJs (by rw [zkJ]; exact hlt)
    have hcx' := hcx hlt
    gi_wp2
    refine hR.mono ?_
    rintro e W3 (⟨rfl, hJ3, hk3⟩ | ⟨rfl, hJx3⟩)
    . gi_wp2
      go_roundw
      case rel => exact ⟨k + 1, by omega, by simp, by rw [zgz]; exact hJ3, hnx.trans hk3⟩
      case measure => simp [intOf]; omega
    . gi_wp2
      refine bodyPost_ret (results_none rfl _ _ _) rfl ?_
      exact ⟨⟨_, rfl⟩, .inr ⟨_, ⟨k + 1, by omega, (zgz _ _).symm⟩, hJx3⟩⟩
  . obtain rfl : k = len := by omega
    gi_wp2
    go_end0
    exact ⟨⟨_, rfl⟩, .inl ⟨_, rfl, hJs⟩⟩
def StrsAt (n₀ : Nat) (W : World) (sv : Value) (zs : List ByteArray) : Prop :=
 ((∃ A c, sv = .slice A 0 c) /\ zs = []) \/ ∃ b off cap, sv = .slice (some ⟨b, off, none⟩) zs.length cap /\ b < n₀ /\ ∀ j, j < zs.length -> W.cell? ⟨b, off + j, none⟩ = some (.string (zs[j]?.getD ByteArray.empty))
theorem StrsAt.below {n₀ : Nat} {A B : World} (h : Below n₀ A B) {sv : Value} {zs : List ByteArray} : StrsAt n₀ A sv zs -> StrsAt n₀ B sv zs
 | .inl e => .inl e
 | .inr ⟨b, off, cap, e, hb, hc⟩ => .inr ⟨b, off, cap, e, hb, fun j hj => (h.cell (p := ⟨b, off + j, none⟩) hb).trans (hc j hj)⟩
set_option maxRecDepth 100000 in
set_option maxHeartbeats 1000000 in
theorem zme (n l Bs : Nat) (A : Option Addr) (c : Nat) (J : List ByteArray -> World -> Prop) (W : World) (hBs : W.cell? ⟨Bs, 0, none⟩ = some (.slice A 0 c)) (h0 : J [] W) :
 CallsIn Fence.wide n Tryz.prog 127 #[.func (.yield l) #[] #[], .pointer (some ⟨Bs, 0, none⟩)] W fun e W' => (∃ v, e = .returned v) /\ J [] W' := by
 refine callsIn_of_wp Tryz.func127 rfl trivial ?_ rfl
 simp only [Tryz.ntmps127, List.size_toArray, List.length_cons, List.length_nil, Nat.reduceAdd, Nat.reduceSub, Array.replicate_succ, Array.replicate_zero, List.push_toArray, List.append_toArray, List.nil_append, List.cons_append]
 gi_wp2
 gi_loopw [7] (fun i wr => i = .int .i64 0 /\ J [] wr) (fun _ _ => 0)
 case atStart => exact ⟨rfl, h0⟩
 case round =>
  obtain ⟨rfl, hJs⟩ := hrel
  gi_wp2
  go_end0
  exact ⟨⟨_, rfl⟩, hJs⟩
theorem zi8 (n : Nat) (hn : 1 <= n) (Bs n₀ : Nat) (sv : Value) (zs : List ByteArray) (hreach : zs.length * 16 <= 140737488355328) (w : World) (hBs : Bs < w.heap.size) (hn₀ : n₀ <= w.heap.size)
 (hc : w.cell? ⟨Bs, 0, none⟩ = some sv) (hI : StrsAt n₀ w sv zs) :
 SeqStopsK Fence.wide n Tryz.prog 127 #[.pointer (some ⟨Bs, 0, none⟩)] (fun x : ByteArray => #[Value.string x]) (Below n₀) (fun ys => ys = zs) (fun pre => pre <+: zs) zs.length w := fun l J Jx W hW _ _ hY h0 => by
 have hc' := (hW.cell (p := ⟨Bs, 0, none⟩) hBs).trans hc
 rcases hI.below (hW.mono hn₀) with ⟨⟨A, c, rfl⟩, rfl⟩ | ⟨b, off, cap, rfl, hb, hcs⟩
 . exact (zme n l Bs A c J W hc' h0).mono fun e W' ⟨he, hj⟩ => ⟨he, .inl ⟨_, rfl, hj⟩⟩
 . refine (zkM n hn l Bs n₀ b off zs.length cap zs hreach hb J Jx hY W hc' hcs h0).mono ?_
   rintro e W' ⟨he, ⟨ys, rfl, hj⟩ | ⟨pre, ⟨k, hk, rfl⟩, hj⟩⟩
   . exact ⟨he, .inl ⟨_, zl7 zs, hj⟩⟩
   . exact ⟨he, .inr ⟨_, by rw [zhE zs hk]; exact List.take_prefix _ _, hj⟩⟩
theorem zlU : ∀ args w, (callFunc 127 args).run Tryz.prog w = .ok (.enter 127 args) w := Go.Proofs.enters_of Tryz.func127 (by kernel_rfl) rfl

set_option maxRecDepth 100000 in
set_option maxHeartbeats 4000000 in
theorem zly (n : Nat) (hn : 3 <= n) (Bs : Nat) (sv : Value) (zs : List ByteArray) (hlen : zs.length <= 4611686018427387904) (hbytes : zs.length * 16 <= 140737488355328) (w : World) (hBs : Bs < w.heap.size)
 (hc : w.cell? ⟨Bs, 0, none⟩ = some sv) (hI : StrsAt w.heap.size w sv zs) :
 CallsIn Fence.wide n Tryz.prog 156 #[.slice none 0 0, .func (.func 127) #[] #[.pointer (some ⟨Bs, 0, none⟩)]] w fun e W' => ∃ v, e = .returned v /\
  W'.ownsRow w.heap.size 9 1 v zs.length (zs.map Value.string) /\ Below w.heap.size w W' := by
 have h1 : 1 <= n := by omega
 obtain ⟨i0, hi, hz0, hz1, hz2⟩ := info_parts zcg
 refine callsIn_of_wp_marks Tryz.func156 rfl trivial ?_ rfl
 simp only [Tryz.ntmps156, List.size_toArray, List.length_cons, List.length_nil, Nat.reduceAdd, Nat.reduceSub, Array.replicate_succ, Array.replicate_zero, List.push_toArray, List.append_toArray, List.nil_append, List.cons_append]
 gi_wp2
 have bO := Boxed.new w 22 (.slice none 0 0)
 have hB0 : Below w.heap.size w (w.alloc (.cells #[.slice none 0 0] 22)) := (Below.refl _ w).alloc (Nat.le_refl _) _
 refine wpIn_rangeFunc_ownG rfl h1 (gf := 127) (lb := #[.pointer (some ⟨Bs, 0, none⟩)]) rfl trivial zlU
  (zi8 (n - 1) (by omega) Bs w.heap.size sv zs hbytes _ (by simp; omega) (by simp) ((hB0.cell (p := ⟨Bs, 0, none⟩) hBs).trans hc) (hI.below hB0)) belowK_t (belowK_b (by simp)) (Below.refl _ _) (fun _ => rfl)
  (fun pre W => (∃ v, Boxed W w.heap.size 22 v /\ W.ownsRow w.heap.size 9 1 v pre.length (pre.map Value.string) /\ True) /\ Below w.heap.size w W)
  (fun _ _ _ => False)
  (OwnFrom.and (Own.from (holdsRow_own w.heap.size w.heap.size 22 9 1 (fun pre : List ByteArray => pre.length) (fun pre : List ByteArray => pre.map Value.string) (fun _ _ => True)) _) (ownFrom_below (Nat.le_refl _) (by simp)))
  (fun _ _ _ _ _ hs _ _ => hs)
  ⟨⟨_, bO, World.ownsRow_nil _ _ _ _, trivial⟩, hB0⟩
  (fun x => { tmps := #[.slice none 0 0, .func (.func 127) #[] #[.pointer (some ⟨Bs, 0, none⟩)], .pointer (some ⟨w.heap.size, 0, none⟩), undef, .slice none 0 0, .string x, .func (.func 127) #[] #[.pointer (some ⟨Bs, 0, none⟩)], .string x, undef, undef, undef, undef, undef], defers := [] }) ?assign ?body ?done ?stop
 case assign =>
  intro l x W K hK
  gi_wp2
  exact hK
 case body =>
  rintro l pre x W ⟨⟨v, hv, hrow, _⟩, hB⟩ hlt
  have hc := hv.cell
  gi_wp2_with (gi_at_builtin; refine wpListIn_append_own _ rfl _ _ 22 rfl w.heap.size 9 i0 (.string ⟨#[]⟩) 1 16 Tryz.underlying22 hi hz0 hz1 hz2 rfl (by decide) _ _ _ rfl (hrow.alloc _) ⟨W.heap.size, 0, none⟩ 1 1 [.string x] rfl rfl (cell_one_new _ _ _) (by simp [Value.oneCell']) (by unfold maxLen; omega) (by omega) (by have := hB.size; simp; omega) ?_; intro v' w1 hown' hgrow _; obtain ⟨g', cap', rfl⟩ := ownsRow_succ hown'; obtain ⟨hv1, hv2, hr2, hk2, hb2⟩ := hv.appended (by decide) hrow hB.size (Nat.le_refl _) hown' hgrow; have hc1 := hv1.cell; have hf1 := hv1.frozen)
  exact ⟨hk2.from _, hb2, ⟨_, hv2, by simpa using hr2, trivial⟩, hB.trans hb2⟩
 case done =>
  rintro D ys W hD rfl ⟨⟨v, hv, hrow, _⟩, hB⟩ hK
  have hc := hv.cell
  gi_wp2
  refine ⟨by simp, .inl ⟨_, _, rfl, run_takeDeferred hK, ?_⟩⟩
  exact ⟨_, results_tmp rfl _ _ _, v, rfl, ownsRow_putObj hrow _ hK rfl, hB.trans (belowK_b (w := w) (Nat.le_refl _) W D _ _ (by simp at hD; omega) hK rfl rfl)⟩
 case stop =>
  rintro D c pre W _ _ h _
  exact h.elim

def zae (zs : List ByteArray) : List ByteArray := ((zs.map fun x => x.data.toList).mergeSort fun x y => decide (x <= y)).map mk
theorem zfU (zs : List ByteArray) : zs.map Value.string = (zs.map fun x => x.data.toList).map encStr := by
 rw [List.map_map]
 apply List.map_congr_left
 intro x _
 show Value.string x = Value.string (mk x.data.toList)
 rfl
theorem zju (Bs : Nat) (sv : Value) (zs : List ByteArray) (hbytes : zs.length * 16 <= 140737488355328) (w : World) (hBs : Bs < w.heap.size)
 (hc : w.cell? ⟨Bs, 0, none⟩ = some sv) (hI : StrsAt w.heap.size w sv zs) :
 Calls Tryz.prog 156 #[.slice none 0 0, .func (.func 127) #[] #[.pointer (some ⟨Bs, 0, none⟩)]] w fun e W' => ∃ v, e = .returned v /\
  W'.ownsRow w.heap.size 9 1 v zs.length (zs.map Value.string) /\ Below w.heap.size w W' :=
 callsIn_wide.1 (zly 3 (Nat.le_refl _) Bs sv zs (by omega) hbytes w hBs hc hI)
set_option maxHeartbeats 1000000 in
theorem zk0 (Bs : Nat) (sv : Value) (zs : List ByteArray) (hbytes : zs.length * 16 <= 140737488355328) (w : World) (hBs : Bs < w.heap.size)
 (hc : w.cell? ⟨Bs, 0, none⟩ = some sv) (hI : StrsAt w.heap.size w sv zs) :
 Calls Tryz.prog 126 #[.func (.func 127) #[] #[.pointer (some ⟨Bs, 0, none⟩)]] w fun e W' => ∃ v, e = .returned v /\
  W'.ownsRow w.heap.size 9 1 v zs.length (zs.map Value.string) /\ Below w.heap.size w W' := by
 have h := zju Bs sv zs hbytes w hBs hc hI
 go_enter Tryz.func126, Tryz.ntmps126
 go_wp2_with (go_at_call 156; refine h.mono ?_; rintro e w2 ⟨v, rfl, ho, hb⟩)
 go_ret
 exact ⟨v, rfl, ho, hb⟩
set_option maxHeartbeats 1000000 in
theorem zhD (Bs : Nat) (sv : Value) (zs : List ByteArray) (hbytes : zs.length * 16 <= 140737488355328) (w : World) (hBs : Bs < w.heap.size)
 (hc : w.cell? ⟨Bs, 0, none⟩ = some sv) (hI : StrsAt w.heap.size w sv zs) :
 Calls Tryz.prog 80 #[.func (.func 127) #[] #[.pointer (some ⟨Bs, 0, none⟩)]] w fun e W' => ∃ v, e = .returned v /\
  RS W' w.heap.size v (zae zs) /\ Below w.heap.size w W' := by
 have h := zk0 Bs sv zs hbytes w hBs hc hI
 have hlen : (zae zs).length = zs.length := by unfold zae; rw [List.length_map, List.length_mergeSort, List.length_map]
 have hrs : encs Value.string (zae zs) = ((zs.map fun x => x.data.toList).mergeSort fun x y => decide (x <= y)).map encStr := by
  unfold zae encs
  rw [List.map_map]
  rfl
 have HLen := znM hlen
 have HRs := znM hrs
 clear hlen hrs
 go_enter Tryz.func80, Tryz.ntmps80
 go_wp2_with fail
 refine h.mono ?_
 rintro e W ⟨v, rfl, hrow, hb⟩
 have HB := znM hb
 clear h hb
 rcases hrow.2 with ⟨rfl, hz⟩ | ⟨gb, cap, cur, rfl, hbase, hgb, r1, r2, r3, r4⟩
 . have hss : zs = [] := List.eq_nil_of_length_eq_zero hz
   subst hss
   have cS := Go.Proofs.AnyM.slices_Sort_string_none Go.Proofs.Tryz.laysSort none 0 W
   change Calls Tryz.prog 93 _ _ _ at cS
   go_wp2_with (go_at_call 93; refine cS.mono ?_; rintro e w' ⟨rfl, rfl⟩)
   go_ret
   exact ⟨.slice none 0 0, rfl, by rw [show zae [] = [] by simp [zae]]; exact Kd.R_nil _ _ _ _ _, HB.out⟩
 . rw [zfU] at r4
   have hH : Holds encStr W gb 0 (zs.map fun x => x.data.toList).toArray := Go.holds_of_block hgb (by simpa using r4)
   have hgl : gb < W.heap.size := (Array.getElem?_eq_some_iff.1 hgb).1
   have hsz : (zs.map fun x => x.data.toList).length < 4611686018427387904 := by rw [List.length_map]; omega
   have cS := Go.Proofs.AnyM.slices_Sort_string Go.Proofs.Tryz.laysSort gb 0 cap (zs.map fun x => x.data.toList) W hH hgl hsz
   change Calls Tryz.prog 93 _ _ _ at cS
   rw [List.length_map] at cS
   go_wp2_with (go_at_call 93; refine cS.mono ?_; rintro e w' ⟨rfl, nn, os, rfl⟩)
   go_ret
   refine ⟨_, rfl, Kd.R_of_own (h1 := fun _ => rfl) ?_ (fun _ _ => trivial), HB.out.grown (grownBy_sorted _) HB.out.size (fun j hj => by cases hj; exact hbase)⟩
   rw [HRs.out, HLen.out]
   have hos := ownsRow_sorted (n := nn) (os := os) (ss := zs.map fun x => x.data.toList) (ts := (zs.map fun x => x.data.toList).mergeSort fun x y => decide (x <= y)) (by simp) hbase hgb (by rw [List.length_map]; exact r1) r2 r3
   rw [List.length_map] at hos
   exact hos
set_option maxHeartbeats 1000000 in
theorem zeQ (A : Option Addr) (c : Nat) (l : List ByteArray) (w : World) (hr : Kd.C Kd.string w A l.length l) (hbytes : l.length * 16 <= 140737488355328) :
 Calls Tryz.prog 198 #[.slice A l.length c] w fun e W' => ∃ v, e = .returned v /\ RS W' w.heap.size v (zae l) /\ Below w.heap.size w W' := by
 have hV : ∀ W, Calls Tryz.prog 81 #[.slice A l.length c] W fun e W' => e = .returned (.func (.func 127) #[] #[.pointer (some ⟨W.heap.size, 0, none⟩)]) /\ W' = W.alloc (.cells #[.slice A l.length c] 22) := by
  intro W
  go_enter Tryz.func81, Tryz.ntmps81
  go_wp2
  go_ret
  exact ⟨rfl, rfl⟩
 have hS0 : StrsAt w.heap.size w (.slice A l.length c) l := by
  rcases zaZ hr with h0 | ⟨b, o, rfl, hb, hcell⟩
  . subst h0
    exact .inl ⟨⟨A, c, rfl⟩, rfl⟩
  . refine .inr ⟨b, o, c, rfl, hb, fun j hj => ?_⟩
    have := hcell j hj
    rwa [List.getD_eq_getElem?_getD] at this
 have hS := hS0.below ((Below.refl w.heap.size w).alloc (Nat.le_refl _) (.cells #[.slice A l.length c] 22))
 have hS1 : StrsAt (w.alloc (.cells #[.slice A l.length c] 22)).heap.size (w.alloc (.cells #[.slice A l.length c] 22)) (.slice A l.length c) l := by
  rcases hS with h | ⟨b, o, cc, h1, hb, h2⟩
  . exact .inl h
  . exact .inr ⟨b, o, cc, h1, by simp; omega, h2⟩
 have h := zhD w.heap.size _ l hbytes (w.alloc (.cells #[.slice A l.length c] 22)) (by simp) ((zab (zan w _) 0).trans rfl) hS1
 clear hS hS0 hS1 hr
 go_enter Tryz.func198, Tryz.ntmps198
 go_wp2_with (first | (go_at_call 81; refine (hV _).mono ?_; rintro e w' ⟨rfl, rfl⟩) | (go_at_call 80; refine h.mono ?_; rintro e w2 ⟨v, rfl, ho, hb⟩))
 go_ret
 exact ⟨v, rfl, Kd.R_lower ho (by simp), zad ((Below.refl w.heap.size w).alloc (Nat.le_refl _) _) (by simp) hb⟩

end Go.Proofs.YtdpgdnpddndeoaaGreatDoor.X

namespace Go.Proofs.YtdpgdnpddndeoaaGreatDoor.X
def glu (cur : zaa) : List zaa -> List zaa
 | [] => [cur]
 | p :: q => (cur ++ p) :: q
theorem zhS (l : List zaa) (h : l ≠ []) : glu [] l = l := by
 cases l with
 | nil => exact absurd rfl h
 | cons p q => rfl
theorem zgB (a b : zaa) (l : List zaa) : glu a (glu b l) = glu (a ++ b) l := by
 cases l with
 | nil => rfl
 | cons p q => simp [glu]
theorem zmG (c : UInt8) (r : zaa) : zaX c (c :: r) = [] :: zaX c r := by simp [zaX]
theorem zim {x c : UInt8} (h : x ≠ c) (r : zaa) : zaX c (x :: r) = glu [x] (zaX c r) := by
 conv => lhs; unfold zaX
 rw [if_neg h]
 cases zaX c r with
 | nil => rfl
 | cons p q => rfl
def zby (b : zaa) : zaa := if b.getLast? = some 10 then b.dropLast else b
def zbb (b : zaa) : List zaa := if b = [] then [] else zaX 10 (zby b)
def zbw : zaa -> zaa -> Bool -> List zaa
 | [], t, i => if i then [t] else []
 | c :: r, t, _ => if c = 10 then t :: zbw r [] false else zbw r (t ++ [c]) true
theorem zh0 : zby [] = [] := rfl
theorem ziA (c : UInt8) (r : zaa) (h : r ≠ []) : zby (c :: r) = c :: zby r := by
 unfold zby
 cases r with
 | nil => exact absurd rfl h
 | cons d r =>
  rw [List.getLast?_cons_cons]
  split
  . rw [List.dropLast_cons_cons]
  . rfl
theorem zfa : ∀ (b t : zaa) (i : Bool), (i = true ↔ t ≠ []) -> b ≠ [] \/ t ≠ [] -> zbw b t i = glu t (zaX 10 (zby b))
 | [], t, i, hi, h => by
  have ht : t ≠ [] := h.resolve_left (fun e => e rfl)
  unfold zbw
  rw [if_pos (hi.2 ht)]
  simp [zh0, zaX, glu]
 | c :: r, t, i, hi, _ => by
  unfold zbw
  by_cases hc : c = 10
  . subst hc
    rw [if_pos rfl]
    by_cases hr : r = []
    . subst hr
      simp [zbw, zby, zaX, glu]
    . rw [ziA 10 r hr, zmG, zfa r [] false (by simp) (.inl hr), zhS _ (zgS _ _)]
      simp [glu]
  . rw [if_neg hc, zfa r (t ++ [c]) true (by simp) (.inr (by simp))]
    by_cases hr : r = []
    . subst hr
      have : zby [c] = [c] := by
       unfold zby
       rw [if_neg (by simpa using hc)]
      rw [this, zh0, zim hc, zgB]
    . rw [ziA c r hr, zim hc, zgB]
theorem zfz (b : zaa) : zbw b [] false = zbb b := by
 unfold zbb
 by_cases h : b = []
 . subst h; rfl
 . rw [if_neg h, zfa b [] false (by simp) (.inl h), zhS _ (zgS _ _)]
theorem zfD (b : zaa) : (zbb b).length <= b.length /\ ∀ x ∈ zbb b, x.length <= b.length := by
 rw [<- zfz]
 have key : ∀ (b t : zaa) (i : Bool), (i = true -> t ≠ []) -> (zbw b t i).length <= b.length + (if i then 1 else 0) /\ ∀ x ∈ zbw b t i, x.length <= t.length + b.length := by
  intro b
  induction b with
  | nil =>
   intro t i _
   unfold zbw
   cases i <;> simp
  | cons c r ih =>
   intro t i _
   unfold zbw
   split
   . have := ih [] false (by simp)
     refine ⟨by simp at this |-; have := this.1; split <;> omega, fun x hx => ?_⟩
     rcases List.mem_cons.1 hx with rfl | hx
     . omega
     . have := this.2 x hx
       simp at this |-
       omega
   . have := ih (t ++ [c]) true (by simp)
     refine ⟨by have := this.1; simp at this |-; omega, fun x hx => ?_⟩
     have := this.2 x hx
     simp at this |-
     omega
 have := key b [] false (by simp)
 exact ⟨by simpa using this.1, fun x hx => by have := this.2 x hx; simpa using this⟩
def zaF (l : List zaa) : zaa := (l.map (· ++ [10])).flatten

def zeN (l : List zaa) (x : zaa) : Nat := (l.takeWhile fun y => decide (y <= x)).length
def putS (l : List zaa) (x : zaa) : List zaa := l.take (zeN l x) ++ [x] ++ l.drop (zeN l x)
theorem zfp {α : Type} (p : α -> Bool) : ∀ l : List α, l.take (l.takeWhile p).length = l.takeWhile p /\ l.drop (l.takeWhile p).length = l.dropWhile p
 | [] => ⟨rfl, rfl⟩
 | y :: r => by
  rw [List.takeWhile_cons, List.dropWhile_cons]
  by_cases h : p y = true
  . have := zfp p r
    rw [if_pos h, if_pos h]
    exact ⟨by rw [List.length_cons, List.take_succ_cons, this.1], by rw [List.length_cons, List.drop_succ_cons, this.2]⟩
  . rw [if_neg h, if_neg h]
    exact ⟨rfl, rfl⟩
theorem zig (l : List zaa) (x : zaa) : putS l x = l.takeWhile (fun y => decide (y <= x)) ++ [x] ++ l.dropWhile (fun y => decide (y <= x)) := by
 unfold putS zeN
 rw [(zfp _ l).1, (zfp _ l).2]
theorem zlz (l : List zaa) (x : zaa) : (putS l x).Perm (x :: l) := by
 rw [zig]
 have h : l.takeWhile (fun y => decide (y <= x)) ++ l.dropWhile (fun y => decide (y <= x)) = l := List.takeWhile_append_dropWhile
 have := List.perm_middle (a := x) (l₁ := l.takeWhile (fun y => decide (y <= x))) (l₂ := l.dropWhile (fun y => decide (y <= x)))
 rw [h] at this
 simpa using this
theorem zhJ {α : Type} {f : α -> Bool} {p : α} : ∀ l : List α, p ∈ l.takeWhile f -> f p = true
 | [], h => by cases h
 | y :: r, h => by
  rw [List.takeWhile_cons] at h
  split at h
  . rename_i hy
    rcases List.mem_cons.1 h with rfl | h
    . exact hy
    . exact zhJ r h
  . cases h
theorem zky (l : List zaa) (x : zaa) (h : l.Pairwise (· <= ·)) : (putS l x).Pairwise (· <= ·) := by
 rw [zig]
 have hs : l.takeWhile (fun y => decide (y <= x)) ++ l.dropWhile (fun y => decide (y <= x)) = l := List.takeWhile_append_dropWhile
 have hp := h
 rw [<- hs] at hp
 obtain ⟨h1, h2, h3⟩ := List.pairwise_append.1 hp
 have hd : ∀ y ∈ l.dropWhile (fun y => decide (y <= x)), x <= y := by
  have hh := List.head?_dropWhile_not (p := fun y : zaa => decide (y <= x)) l
  generalize l.dropWhile (fun y => decide (y <= x)) = b at h2 hh
  cases b with
  | nil => intro y hy; cases hy
  | cons z r =>
   have hz : ¬ z <= x := by simpa using hh
   have hz2 : x <= z := List.le_of_lt (List.not_le.1 hz)
   intro y hy
   rcases List.mem_cons.1 hy with rfl | hy
   . exact hz2
   . exact List.le_trans hz2 ((List.pairwise_cons.1 h2).1 y hy)
 rw [List.append_assoc]
 refine List.pairwise_append.2 ⟨h1, List.pairwise_cons.2 ⟨hd, h2⟩, fun a ha b hb => ?_⟩
 have hax : a <= x := by simpa using zhJ _ ha
 rcases List.mem_cons.1 hb with rfl | hb
 . exact hax
 . exact h3 a ha b hb
theorem zet (l : List zaa) : l.foldl putS [] = l.mergeSort fun x y => decide (x <= y) := by
 have key : ∀ (l a : List zaa), a.Pairwise (· <= ·) -> (l.foldl putS a).Pairwise (· <= ·) /\ (l.foldl putS a).Perm (a ++ l) := by
  intro l
  induction l with
  | nil => exact fun a h => ⟨h, by simp⟩
  | cons x r ih =>
   intro a h
   have := ih (putS a x) (zky a x h)
   refine ⟨this.1, this.2.trans ?_⟩
   have hp := (zlz a x).append_right r
   refine hp.trans ?_
   simpa using (List.perm_middle (a := x) (l₁ := a) (l₂ := r)).symm
 have hk := key l [] List.Pairwise.nil
 have hm := List.pairwise_mergeSort (le := fun x y : zaa => decide (x <= y)) (fun a b c hab hbc => by simp only [decide_eq_true_eq] at *; exact List.le_trans hab hbc)
  (fun a b => by simp only [Bool.or_eq_true, decide_eq_true_eq]; exact List.le_total a b) l
 refine List.Perm.eq_of_pairwise (le := fun x y : zaa => x <= y) (fun a b _ _ h1 h2 => List.le_antisymm h1 h2) hk.1 (hm.imp (fun h => by simpa using h)) (hk.2.trans ?_)
 simpa using (List.mergeSort_perm l fun x y => decide (x <= y)).symm

theorem zkc (b : zaa) : Lib.trimSuffix b [10] = zby b := by
 unfold Lib.trimSuffix zby Lib.hasSuffix
 have h : ([10] : zaa).isSuffixOf b = decide (b.getLast? = some 10) := by
  rw [Bool.eq_iff_iff, List.isSuffixOf_iff_suffix, decide_eq_true_eq]
  constructor
  . rintro ⟨t, rfl⟩
    simp
  . intro h
    obtain ⟨ys, rfl⟩ := List.getLast?_eq_some_iff.1 h
    exact ⟨ys, rfl⟩
 rw [h]
 by_cases hb : b.getLast? = some 10
 . rw [if_pos (by simpa using hb), if_pos hb, List.dropLast_eq_take]
   rfl
 . rw [if_neg (by simpa using hb), if_neg hb]
def zbP (old new : zaa) : Nat -> zaa -> zaa
 | 0, s => s
 | _ + 1, [] => []
 | n + 1, c :: r => if old.length <= (c :: r).length /\ (c :: r).take old.length = old then new ++ zbP old new n ((c :: r).drop old.length) else c :: zbP old new n r
theorem zc2 (old new : zaa) (n : Nat) (c : UInt8) (r : zaa) : zbP old new (n + 1) (c :: r) = if old.length <= (c :: r).length /\ (c :: r).take old.length = old then new ++ zbP old new n ((c :: r).drop old.length) else c :: zbP old new n r := rfl
theorem zfX (s t : zaa) : Lib.occAt s t 0 = true ↔ t.length <= s.length /\ s.take t.length = t := by
 constructor
 . intro h
   rcases Lib.occAt_room h with h1 | rfl
   . refine ⟨by omega, ?_⟩
     rw [Lib.occAt_iff_take s t 0 (by omega)] at h
     simpa using h
   . simp
 . rintro ⟨h1, h2⟩
   rw [Lib.occAt_iff_take s t 0 (by omega)]
   simpa using h2
theorem zeR (c : UInt8) (r t : zaa) (i : Nat) : Lib.occAt (c :: r) t (i + 1) = Lib.occAt r t i := by
 unfold Lib.occAt
 rw [List.drop_succ_cons]
theorem zgs (old new : zaa) : ∀ (n : Nat) (s : zaa), (∀ j, j <= s.length -> Lib.occAt s old j = false) -> zbP old new n s = s
 | 0, _, _ => rfl
 | _ + 1, [], _ => rfl
 | n + 1, c :: r, h => by
  rw [zc2]
  rw [if_neg (fun e => by have := (zfX (c :: r) old).2 e; rw [h 0 (by omega)] at this; cases this)]
  rw [zgs old new n r (fun j hj => by rw [<- zeR c r old j]; exact h (j + 1) (by simp; omega))]
theorem zhx (old new : zaa) (ho : old ≠ []) : ∀ (i n : Nat) (s : zaa), i + old.length <= s.length -> Lib.occAt s old i = true -> (∀ j, j < i -> Lib.occAt s old j = false) -> zbP old new (n + i + 1) s = s.take i ++ new ++ zbP old new n (s.drop (i + old.length))
 | 0, n, s, hl, h, _ => by
  cases s with
  | nil => simp at hl; exact absurd hl ho
  | cons c r =>
   rw [zc2]
   rw [if_pos ((zfX _ _).1 h)]
   simp
 | i + 1, n, s, hl, h, hn => by
  cases s with
  | nil => simp at hl
  | cons c r =>
   rw [zc2]
   rw [if_neg (fun e => by have := (zfX (c :: r) old).2 e; rw [hn 0 (by omega)] at this; cases this)]
   have := zhx old new ho i n r (by simp at hl; omega) (by rw [<- zeR c]; exact h) (fun j hj => by rw [<- zeR c]; exact hn (j + 1) (by omega))
   rw [show n + (i + 1) = n + i + 1 from rfl, this]
   rw [List.take_succ_cons, show i + 1 + old.length = (i + old.length) + 1 by omega, List.drop_succ_cons]
   rfl
theorem zd8 (old new : zaa) (ho : old ≠ []) : ∀ (m n : Nat) (s : zaa), s.length <= m -> s.length <= n -> zbP old new m s = zbP old new n s
 | 0, n, s, h, _ => by
  obtain rfl : s = [] := by cases s with | nil => rfl | cons _ _ => simp at h
  cases n <;> rfl
 | m + 1, 0, s, _, h => by
  obtain rfl : s = [] := by cases s with | nil => rfl | cons _ _ => simp at h
  rfl
 | m + 1, n + 1, [], _, _ => rfl
 | m + 1, n + 1, c :: r, h1, h2 => by
  simp only [List.length_cons] at h1 h2
  have hol : 1 <= old.length := by cases old with | nil => exact absurd rfl ho | cons _ _ => simp
  rw [zc2, zc2]
  split
  . rw [zd8 old new ho m n _ (by rw [List.length_drop, List.length_cons]; omega) (by rw [List.length_drop, List.length_cons]; omega)]
  . rw [zd8 old new ho m n r (by omega) (by omega)]
theorem zhq (old new : zaa) (ho : old ≠ []) : ∀ (k : Nat) (s : zaa), Lib.count s old = k -> Lib.replaceK old new k s = zbP old new s.length s
 | 0, s, hk => by
  have hm : Lib.index s old = -1 := by
   rcases Lib.index_spec s old with ⟨h1, _⟩ | ⟨i, h1, _⟩
   . exact h1
   . rw [Lib.count_hit ho h1] at hk; omega
  rcases Lib.index_spec s old with ⟨_, h2⟩ | ⟨i, h1, _⟩
  . rw [zgs old new _ s h2]; rfl
  . omega
 | k + 1, s, hk => by
  obtain ⟨i, hi⟩ := Lib.index_of_count (s := s) (old := old) (by omega)
  have hc := Lib.count_hit ho hi
  have ih := zhq old new ho k (s.drop (i + old.length)) (by omega)
  rcases Lib.index_spec s old with ⟨h1, _⟩ | ⟨j, h1, h2, h3, h4⟩
  . omega
  . obtain rfl : i = j := by omega
    have hr := Lib.index_room s old (by omega)
    rw [Lib.replaceK_hit old new k s i hi, ih, zd8 old new ho s.length ((s.drop (i + old.length)).length + i + 1 + s.length) s (by omega) (by omega)]
    rw [show (s.drop (i + old.length)).length + i + 1 + s.length = ((s.drop (i + old.length)).length + s.length) + i + 1 by omega]
    rw [zhx old new ho i _ s (by omega) h3 h4]
    rw [zd8 old new ho ((s.drop (i + old.length)).length + s.length) (s.drop (i + old.length)).length _ (by omega) (by omega)]
theorem zeZ (old : zaa) (ho : old ≠ []) : ∀ (n : Nat) (s : zaa), zbP old old n s = s
 | 0, _ => rfl
 | _ + 1, [] => rfl
 | n + 1, c :: r => by
  rw [zc2]
  split
  . rename_i h
    rw [zeZ old ho n]
    conv => rhs; rw [<- List.take_append_drop old.length (c :: r)]
    rw [h.2]
  . rw [zeZ old ho n r]
theorem znF (s old new : zaa) (ho : old ≠ []) : Lib.replaceAll s old new = zbP old new s.length s := by
 unfold Lib.replaceAll Lib.replace
 by_cases h : old = new
 . subst h
   rw [if_pos (by simp), zeZ old ho]
 . rw [if_neg (by simpa using h)]
   have : Lib.replaceNum s old (-1) = Lib.count s old := by unfold Lib.replaceNum; rw [if_pos (by omega)]
   rw [this]
   exact zhq old new ho _ s rfl

structure Cmd where
 op : Int
 n : Int
 args : Nat
 lits : List zaa
def zbe (op : Int) : Nat × Nat × Nat := if op = 5 then (0, 6, 0) else if op = 6 then (0, 0, 1) else if op = 7 then (1, 1, 1) else if op = 8 then (1, 1, 2) else (1, 1, 0)
def mayC (s : Cmd) : Bool :=
 !(decide (s.op < 1) || decide (9 < s.op) || decide (s.args < (zbe s.op).1) || decide ((zbe s.op).2.1 < s.args) || decide (s.lits.length ≠ (zbe s.op).2.2) || s.lits.any (fun l => decide (100 < l.length))) &&
 !((s.op == 8 && s.lits.getD 0 [] == []) || decide (s.n < 0) || decide (2000 < s.n) || (s.op != 9 && s.n != 0))
def zaG (s : Cmd) (bs : List zaa) : zaa × Bool :=
 if s.op = 1 then (bs.getD 0 [], true)
 else if s.op = 2 then (bs.getD 0 [], !(bs.getD 0 [] == []))
 else if s.op = 3 then (zaF ((zbb (bs.getD 0 [])).mergeSort fun x y => decide (x <= y)), true)
 else if s.op = 4 then (zaW ((zbb (bs.getD 0 [])).length : Int) ++ [10], true)
 else if s.op = 5 then (bs.flatten, true)
 else if s.op = 6 then (s.lits.getD 0 [], true)
 else if s.op = 7 then (zaF ((zbb (bs.getD 0 [])).filter fun x => Lib.contains x (s.lits.getD 0 [])), true)
 else if s.op = 8 then (Lib.replaceAll (bs.getD 0 []) (s.lits.getD 0 []) (s.lits.getD 1 []), true)
 else ((bs.getD 0 []).take s.n.toNat, true)
theorem zjm {s : Cmd} (h : mayC s = true) : 1 <= s.op /\ s.op <= 9 /\ (s.op = 8 -> s.lits.getD 0 [] ≠ []) := by
 unfold mayC at h
 rw [Bool.and_eq_true] at h
 obtain ⟨h1, h2⟩ := h
 simp only [Bool.not_eq_true', Bool.or_eq_false_iff, decide_eq_false_iff_not] at h1 h2
 refine ⟨by omega, by omega, fun e hn => ?_⟩
 have := h2.1.1.1
 rw [e, hn] at this
 exact absurd this (by decide)
def zcY (text : Cmd -> List zaa -> zaa × Bool) (may : Cmd -> Bool) (s : Cmd) (vs : List (Option zaa)) : Option zaa :=
 if may s = false \/ vs.length ≠ s.args \/ vs.any (·.isNone) then none
 else if (text s (vs.map (·.getD []))).2 = false \/ 2000 < (text s (vs.map (·.getD []))).1.length then none else some (text s (vs.map (·.getD []))).1
def doP := zcY zaG mayC
structure zb8 where
 out : zaa
 cmd : Cmd
 args : List zaa
structure zcX where
 ins : List zaa
 outs : List zaa
 steps : List zb8
abbrev VB := Option zaa
structure zdS where
 name : zaa
 after : List zaa
 body : zcX
def zb0 (l : List zaa) : Bool := !decide l.Nodup
def zc4 (r : zdS) : Bool :=
 may r.name && !r.body.outs.isEmpty && (r.body.ins.all may && r.body.outs.all may && r.after.all may) && r.body.steps.all fun s => may s.out && s.args.all may && mayC s.cmd
def zcs : List zb8 -> List zaa -> Option (List zaa)
 | [], known => some known
 | s :: r, known => if known.contains s.out || s.args.any (fun a => !known.contains a) then none else zcs r (known ++ [s.out])
def zdj (r : zdS) : Bool :=
 !(zb0 r.body.ins || zb0 r.body.outs || zb0 r.after || r.after.contains r.name) && !(r.body.outs.any fun o => r.body.ins.contains o) && match zcs r.body.steps r.body.ins with
  | none => false
  | some known => !(r.body.outs.any fun o => !known.contains o)
def zhX (form names : zdS -> Bool) (r : zdS) : Int :=
 if form r = false then 1 else if 8 < r.body.ins.length \/ 4 < r.body.outs.length \/ 8 < r.after.length \/ 12 < r.body.steps.length then 4 else if names r = false then 2 else 0
def zal (x : zaA) : Cmd := ⟨x.f1, x.f4, x.f2.length, x.f3.map (·.data.toList)⟩
def zac (l : List ByteArray) : List zaa := l.map (·.data.toList)
def zaM (x : zaA) : zb8 := ⟨x.f0.data.toList, zal x, zac x.f2⟩
def zax (r : zai) : zcX := ⟨zac r.f1, zac r.f2, r.f4.map zaM⟩
def zcc (r : zai) : zdS := ⟨r.f0.data.toList, zac r.f3, zax r⟩
theorem za1 (l : List ByteArray) : (zac l).length = l.length := by unfold zac; rw [List.length_map]
theorem zcK (l : List ByteArray) (k : Nat) (h : k < l.length) : (zac l)[k]'(by rw [za1]; exact h) = l[k].data.toList := by unfold zac; rw [List.getElem_map]
theorem zdr (l : List zaa) : zac (l.map mk) = l := by
 unfold zac
 rw [List.map_map]
 conv => rhs; rw [<- List.map_id l]
 exact List.map_congr_left fun x _ => za7 x
end Go.Proofs.YtdpgdnpddndeoaaGreatDoor.X

namespace Go.Proofs
open Go.Shelf
def Tryz.lays102_ren : Go.Shelf.Ren := ⟨fun | 102 => 58 | 209 => 78 | 207 => 123 | n => n, fun | 9 => 9 | 4 => 4 | 3 => 3 | n => n, fun | n => n⟩
theorem Tryz.lays102 : Go.Proofs.Lays.n102 Tryz.prog Tryz.lays102_ren := {
 mixed := by kernel_rfl
 f102 := Tryz.func58.trans (congrArg some (by kernel_rfl))
 f207 := Tryz.func123.trans (congrArg some (by kernel_rfl))
 f209 := Tryz.func78.trans (congrArg some (by kernel_rfl))
 t3 := Tryz.underlying3
 a3 := Tryz.isAgg3
 z3 := Tryz.sizeOf3
 v3 := Tryz.zeroValue3
 t4 := Tryz.underlying4
 a4 := Tryz.isAgg4
 z4 := Tryz.sizeOf4
 v4 := Tryz.zeroValue4
 t9 := Tryz.underlying9
 a9 := Tryz.isAgg9
 z9 := Tryz.sizeOf9
 v9 := Tryz.zeroValue9 }
def Tryz.lays144_ren : Go.Shelf.Ren := ⟨fun | 144 => 85 | 143 => 122 | 219 => 154 | 217 => 203 | 225 => 204 | 224 => 205 | 267 => 206 | 266 => 228 | 314 => 229 | n => n, fun | 9 => 9 | 4 => 4 | 3 => 3 | 5 => 5 | 46 => 160 | 146 => 237 | 51 => 191 | n => n, fun | 1 => 0 | n => n⟩
theorem Tryz.lays144 : Go.Proofs.Lays.n144 Tryz.prog Tryz.lays144_ren := {
 mixed := by kernel_rfl
 f143 := Tryz.func122.trans (congrArg some (by kernel_rfl))
 f144 := Tryz.func85.trans (congrArg some (by kernel_rfl))
 f217 := Tryz.func203.trans (congrArg some (by kernel_rfl))
 f219 := Tryz.func154.trans (congrArg some (by kernel_rfl))
 f224 := Tryz.func205.trans (congrArg some (by kernel_rfl))
 f225 := Tryz.func204.trans (congrArg some (by kernel_rfl))
 f266 := Tryz.func228.trans (congrArg some (by kernel_rfl))
 f267 := Tryz.func206.trans (congrArg some (by kernel_rfl))
 f314 := Tryz.func229.trans (congrArg some (by kernel_rfl))
 t3 := Tryz.underlying3
 a3 := Tryz.isAgg3
 z3 := Tryz.sizeOf3
 v3 := Tryz.zeroValue3
 t4 := Tryz.underlying4
 a4 := Tryz.isAgg4
 z4 := Tryz.sizeOf4
 v4 := Tryz.zeroValue4
 t5 := Tryz.underlying5
 a5 := Tryz.isAgg5
 z5 := Tryz.sizeOf5
 v5 := Tryz.zeroValue5
 t9 := Tryz.underlying9
 a9 := Tryz.isAgg9
 z9 := Tryz.sizeOf9
 v9 := Tryz.zeroValue9
 t46 := Tryz.underlying160
 a46 := Tryz.isAgg160
 z46 := Tryz.sizeOf160
 v46 := Tryz.zeroValue160
 t51 := Tryz.underlying191
 a51 := Tryz.isAgg191
 z51 := Tryz.sizeOf191
 v51 := Tryz.zeroValue191
 t146 := Tryz.underlying237
 a146 := Tryz.isAgg237
 z146 := Tryz.sizeOf237
 v146 := Tryz.zeroValue237
 g1 := by kernel_rfl }
def Tryz.lays154_ren : Go.Shelf.Ren := ⟨fun | 154 => 130 | 138 => 121 | 165 => 129 | 143 => 122 | 166 => 124 | 197 => 152 | 169 => 125 | 195 => 151 | 218 => 153 | 240 => 155 | 241 => 158 | 219 => 154 | 260 => 202 | 276 => 207 | 277 => 209 | 217 => 203 | 225 => 204 | 224 => 205 | 267 => 206 | 266 => 228 | 314 => 229 | n => n, fun | 9 => 9 | 3 => 3 | 4 => 4 | 72 => 150 | 0 => 0 | 76 => 153 | 105 => 177 | 21 => 21 | 5 => 5 | 70 => 148 | 20 => 20 | 37 => 90 | 75 => 152 | 127 => 180 | 164 => 214 | 46 => 160 | 119 => 233 | 139 => 236 | 138 => 235 | 146 => 237 | 51 => 191 | 80 => 155 | n => n, fun | 1 => 0 | 3 => 1 | 4 => 2 | n => n⟩
theorem Tryz.lays154 : Go.Proofs.Lays.n154 Tryz.prog Tryz.lays154_ren := {
 mixed := by kernel_rfl
 f138 := Tryz.func121.trans (congrArg some (by kernel_rfl))
 f143 := Tryz.func122.trans (congrArg some (by kernel_rfl))
 f154 := Tryz.func130.trans (congrArg some (by kernel_rfl))
 f165 := Tryz.func129.trans (congrArg some (by kernel_rfl))
 f166 := Tryz.func124.trans (congrArg some (by kernel_rfl))
 f169 := Tryz.func125.trans (congrArg some (by kernel_rfl))
 f195 := Tryz.func151.trans (congrArg some (by kernel_rfl))
 f197 := Tryz.func152.trans (congrArg some (by kernel_rfl))
 f217 := Tryz.func203.trans (congrArg some (by kernel_rfl))
 f218 := Tryz.func153.trans (congrArg some (by kernel_rfl))
 f219 := Tryz.func154.trans (congrArg some (by kernel_rfl))
 f224 := Tryz.func205.trans (congrArg some (by kernel_rfl))
 f225 := Tryz.func204.trans (congrArg some (by kernel_rfl))
 f240 := Tryz.func155.trans (congrArg some (by kernel_rfl))
 f241 := Tryz.func158.trans (congrArg some (by kernel_rfl))
 f260 := Tryz.func202.trans (congrArg some (by kernel_rfl))
 f266 := Tryz.func228.trans (congrArg some (by kernel_rfl))
 f267 := Tryz.func206.trans (congrArg some (by kernel_rfl))
 f276 := Tryz.func207.trans (congrArg some (by kernel_rfl))
 f277 := Tryz.func209.trans (congrArg some (by kernel_rfl))
 f314 := Tryz.func229.trans (congrArg some (by kernel_rfl))
 t0 := Tryz.underlying0
 a0 := Tryz.isAgg0
 z0 := Tryz.sizeOf0
 v0 := Tryz.zeroValue0
 t3 := Tryz.underlying3
 a3 := Tryz.isAgg3
 z3 := Tryz.sizeOf3
 v3 := Tryz.zeroValue3
 t4 := Tryz.underlying4
 a4 := Tryz.isAgg4
 z4 := Tryz.sizeOf4
 v4 := Tryz.zeroValue4
 t5 := Tryz.underlying5
 a5 := Tryz.isAgg5
 z5 := Tryz.sizeOf5
 v5 := Tryz.zeroValue5
 t9 := Tryz.underlying9
 a9 := Tryz.isAgg9
 z9 := Tryz.sizeOf9
 v9 := Tryz.zeroValue9
 t20 := Tryz.underlying20
 a20 := Tryz.isAgg20
 z20 := Tryz.sizeOf20
 v20 := Tryz.zeroValue20
 t21 := Tryz.underlying21
 a21 := Tryz.isAgg21
 z21 := Tryz.sizeOf21
 v21 := Tryz.zeroValue21
 t37 := Tryz.underlying90
 a37 := Tryz.isAgg90
 z37 := Tryz.sizeOf90
 v37 := Tryz.zeroValue90
 t46 := Tryz.underlying160
 a46 := Tryz.isAgg160
 z46 := Tryz.sizeOf160
 v46 := Tryz.zeroValue160
 t51 := Tryz.underlying191
 a51 := Tryz.isAgg191
 z51 := Tryz.sizeOf191
 v51 := Tryz.zeroValue191
 t70 := Tryz.underlying148
 a70 := Tryz.isAgg148
 z70 := Tryz.sizeOf148
 v70 := Tryz.zeroValue148
 t72 := Tryz.underlying150
 a72 := Tryz.isAgg150
 z72 := Tryz.sizeOf150
 v72 := Tryz.zeroValue150
 t75 := Tryz.underlying152
 a75 := Tryz.isAgg152
 z75 := Tryz.sizeOf152
 v75 := Tryz.zeroValue152
 t76 := Tryz.underlying153
 a76 := Tryz.isAgg153
 z76 := Tryz.sizeOf153
 v76 := Tryz.zeroValue153
 t105 := Tryz.underlying177
 a105 := Tryz.isAgg177
 z105 := Tryz.sizeOf177
 v105 := Tryz.zeroValue177
 t119 := Tryz.underlying233
 a119 := Tryz.isAgg233
 z119 := Tryz.sizeOf233
 t127 := Tryz.underlying180
 a127 := Tryz.isAgg180
 z127 := Tryz.sizeOf180
 v127 := Tryz.zeroValue180
 t138 := Tryz.underlying235
 a138 := Tryz.isAgg235
 z138 := Tryz.sizeOf235
 v138 := Tryz.zeroValue235
 t139 := Tryz.underlying236
 a139 := Tryz.isAgg236
 z139 := Tryz.sizeOf236
 v139 := Tryz.zeroValue236
 t146 := Tryz.underlying237
 a146 := Tryz.isAgg237
 z146 := Tryz.sizeOf237
 v146 := Tryz.zeroValue237
 t164 := Tryz.underlying214
 a164 := Tryz.isAgg214
 z164 := Tryz.sizeOf214
 v164 := Tryz.zeroValue214
 g1 := by kernel_rfl
 g3 := by kernel_rfl
 g4 := by kernel_rfl }
def Tryz.lays110_ren : Go.Shelf.Ren := ⟨fun | 110 => 92 | 109 => 64 | n => n, fun | 31 => 22 | 9 => 9 | 4 => 4 | 3 => 3 | 0 => 0 | n => n, fun | n => n⟩
theorem Tryz.lays110 : Go.Proofs.Lays.n110 Tryz.prog Tryz.lays110_ren := {
 mixed := by kernel_rfl
 f109 := Tryz.func64.trans (congrArg some (by kernel_rfl))
 f110 := Tryz.func92.trans (congrArg some (by kernel_rfl))
 t0 := Tryz.underlying0
 a0 := Tryz.isAgg0
 z0 := Tryz.sizeOf0
 v0 := Tryz.zeroValue0
 t3 := Tryz.underlying3
 a3 := Tryz.isAgg3
 z3 := Tryz.sizeOf3
 v3 := Tryz.zeroValue3
 t4 := Tryz.underlying4
 a4 := Tryz.isAgg4
 z4 := Tryz.sizeOf4
 v4 := Tryz.zeroValue4
 t9 := Tryz.underlying9
 a9 := Tryz.isAgg9
 z9 := Tryz.sizeOf9
 v9 := Tryz.zeroValue9
 t31 := Tryz.underlying22
 a31 := Tryz.isAgg22
 z31 := Tryz.sizeOf22
 v31 := Tryz.zeroValue22 }
def Tryz.lays194_ren : Go.Shelf.Ren := ⟨fun | 194 => 94 | n => n, fun | 31 => 22 | 9 => 9 | 3 => 3 | 4 => 4 | 0 => 0 | n => n, fun | n => n⟩
theorem Tryz.lays194 : Go.Proofs.Lays.n194 Tryz.prog Tryz.lays194_ren := {
 mixed := by kernel_rfl
 f194 := Tryz.func94.trans (congrArg some (by kernel_rfl))
 t0 := Tryz.underlying0
 a0 := Tryz.isAgg0
 z0 := Tryz.sizeOf0
 v0 := Tryz.zeroValue0
 t3 := Tryz.underlying3
 a3 := Tryz.isAgg3
 z3 := Tryz.sizeOf3
 v3 := Tryz.zeroValue3
 t4 := Tryz.underlying4
 a4 := Tryz.isAgg4
 z4 := Tryz.sizeOf4
 v4 := Tryz.zeroValue4
 t9 := Tryz.underlying9
 a9 := Tryz.isAgg9
 z9 := Tryz.sizeOf9
 v9 := Tryz.zeroValue9
 t31 := Tryz.underlying22
 a31 := Tryz.isAgg22
 z31 := Tryz.sizeOf22
 v31 := Tryz.zeroValue22 }
end Go.Proofs

namespace Go.Proofs.YtdpgdnpddndeoaaGreatDoor.X
open Go.RowKit Go.Maps Go.Proofs.YtdpgdnpddndeoaaGreatDoorW.PrintWords Go.Proofs.YtdpgdnpddndeoaaGreatDoorW.PrintMore Go.Proofs.YtdpgdnpddndeoaaGreatDoorW.PrintLast
set_option linter.unusedSimpArgs false
theorem zm8 (s : ByteArray) (w : World) (hs : s.size <= 9223372036854775807) :
 Calls Tryz.prog 58 #[.string s, .string ⟨#[10]⟩] w fun e w' => e = .returned (.string (mk (zby s.data.toList))) /\ w = w' := by
 have hcall := Go.Proofs.Any.strings_TrimSuffix Go.Proofs.Tryz.lays102 s (mk [10]) w hs
 change Calls Tryz.prog 58 _ _ _ at hcall
 rw [za7, zkc] at hcall
 exact hcall.mono fun e w' ⟨he, hw⟩ => ⟨he, hw.symm⟩
def za6 (s : ByteArray) : List ByteArray := (zbb s.data.toList).map mk
theorem znA (b : zaa) : (zby b).length <= b.length := by
 unfold zby
 split
 . rw [List.length_dropLast]; omega
 . exact Nat.le_refl _
set_option maxHeartbeats 2000000 in
theorem zdH (s : ByteArray) (w : World) (hG : GOK w) (hs : s.size < 4294967281) :
 Calls Tryz.prog 23 #[.string s] w fun e w' => ∃ v, e = .returned v /\ RS w' w.heap.size v (za6 s) /\ Below w.heap.size w w' := by
 by_cases h : s.toList = []
 . have hl : za6 s = [] := by unfold za6 zbb; rw [<- zbv, if_pos h]; rfl
   rw [hl]
   clear hl hs hG
   go_enter Tryz.func23, Tryz.ntmps23
   go_wp2_with fail
   go_ret
   exact ⟨.slice none 0 0, rfl, Kd.R_nil _ _ _ _ _, Below.refl _ _⟩
 . have d1 : (s.toList == []) = false := by simp [h]
   have hl : za6 s = (zaX 10 (zby s.data.toList)).map mk := by unfold za6 zbb; rw [<- zbv, if_neg h]
   have hz : (mk (zby s.data.toList)).size < 4294967281 := by rw [za4]; have := znA s.data.toList; rw [<- Lib.size_eq] at this; omega
   have hT := zm8 s w (by omega)
   have hS := strings_Split.calls (mk (zby s.data.toList)) ⟨#[10]⟩ (za6 s) w hG (by rw [strings_Split.one _ 10 hz, za7, hl])
   have HT := znM hT
   have HS := znM hS
   clear hl hz hs hG hT hS
   generalize mk (zby s.data.toList) = t at HT HS
   go_enter Tryz.func23, Tryz.ntmps23
   go_wp2_with (first | (go_at_call 58; refine HT.out.mono ?_; rintro e w' ⟨rfl, rfl⟩) | (go_at_call 57; refine HS.out.mono ?_; rintro e w2 ⟨v, rfl, hR, hb⟩; have HR := znM hR; have HB := znM hb; clear hR hb))
   go_ret
   exact ⟨v, rfl, HR.out, HB.out⟩

theorem ziq (l : List zaa) (k : Nat) (h : k < l.length) : zaF (l.take (k + 1)) = zaF (l.take k) ++ (l[k] ++ [10]) := by
 unfold zaF
 rw [List.take_succ_eq_append_getElem h, List.map_append, List.flatten_append]
 simp
theorem zhO (l : List zaa) (k : Nat) : (zaF (l.take k)).length <= (zaF l).length := by
 have : zaF l = zaF (l.take k) ++ zaF (l.drop k) := by
  unfold zaF
  rw [<- List.flatten_append, <- List.map_append, List.take_append_drop]
 rw [this, List.length_append]
 omega
set_option maxHeartbeats 4000000 in
theorem zgU (A0 : Option Addr) (c0 : Nat) (l0 : List ByteArray) (w : World) (hr0 : Kd.C Kd.string w A0 l0.length l0) (hs : (zaF (zac l0)).length <= 140737488355328) :
 Calls Tryz.prog 79 #[.slice A0 l0.length c0] w fun e w' => e = .returned (.string (mk (zaF (zac l0)))) /\ Below w.heap.size w w' := by
 have hlen : l0.length <= 9223372036854775807 := hr0.2.1
 obtain ⟨r, hr⟩ : ∃ r, r = mk (zaF (zac l0)) := ⟨_, rfl⟩
 rw [<- hr]
 have HR := znM hr
 have HS : Hid ((zaF (zac l0)).length <= 140737488355328) := hs
 have HC : Hid (l0 = [] \/ ∃ b o, A0 = some ⟨b, o, none⟩ /\ b < w.heap.size /\ ∀ j, j < l0.length -> w.cell? ⟨b, o + j, none⟩ = some (.string (l0.getD j ByteArray.empty))) := zaZ hr0
 clear hs hr hr0
 go_enter Tryz.func79, Tryz.ntmps79
 go_wp2_with fail
 go_loopg [5, 8] l0.length (fun gg _ s8 wr => ∃ kk : Nat, kk <= l0.length /\ l0.length - kk <= gg /\ s8 = .int .i64 kk /\ Aside0 (Lib.IsBuilder 150 5 w.heap.size w.heap.size (Lib.byteCells (zaF ((zac l0).take kk))) wr) /\ Aside0 (Below w.heap.size w wr))
 case atStart =>
  refine ⟨0, Nat.zero_le _, by omega, rfl, ⟨.inl ⟨Nat.le_refl _, .slice none 0 0, heap_alloc_new w _, zcJ _ _ _ _, by simp [Value.ownBlock]⟩⟩, ⟨(Below.refl _ _).alloc (Nat.le_refl _) _⟩⟩
 case round =>
  obtain ⟨kk, hkk, hgk, rfl, HB, HW⟩ := hrel
  by_cases hlt : kk < l0.length
  . have hltz : (kk : Int) < (l0.length : Int) := by omega
    obtain ⟨y, hy⟩ : ∃ y, y = l0.getD kk ByteArray.empty := ⟨_, rfl⟩
    rcases HC.out with h0 | ⟨b, o, rfl, hb, hcell⟩
    . exfalso; rw [h0] at hlt; simp at hlt
    have hx : wr.cell? ⟨b, o + kk, none⟩ = some (.string y) := by rw [hy]; exact zaf HW.out (hcell kk hlt)
    have hk : kk < (zac l0).length := by rw [za1]; exact hlt
    have hyk : (zac l0)[kk] = y.data.toList := by rw [zcK l0 kk hlt, hy]; simp [List.getD_eq_getElem?_getD, List.getElem?_eq_getElem hlt]
    have hput : zaF ((zac l0).take (kk + 1)) = zaF ((zac l0).take kk) ++ (y.data.toList ++ [10]) := by rw [ziq _ kk hk, hyk]
    have hle : (zaF ((zac l0).take kk)).length + (y.data.toList ++ [10]).length <= 140737488355328 := by
     have := zhO (zac l0) (kk + 1)
     rw [hput, List.length_append] at this
     exact Nat.le_trans this HS.out
    have hsz : y.size <= 140737488355328 := by
     have e := Lib.size_eq y
     simp only [List.length_append] at hle
     omega
    clear hcell hb
    have HP := znM hput
    have HL : Hid ((zaF ((zac l0).take kk)).length + (y.data.toList ++ [10]).length <= 140737488355328) := hle
    clear hy hput hle hyk hk
    go_wp2_with fail
    refine (zge w.heap.size w.heap.size _ _ _ HB.out ?_ HW.out.size).mono ?_
    . have h1 := HL.out
      have e4 := Lib.size_eq y
      simp only [List.length_append, List.length_singleton] at h1
      simp only [ByteArray.size_append]
      show _ + (y.size + 1) <= _
      omega
    rintro e w2 ⟨rfl, hB2, hb2⟩
    go_wp2
    go_roundg (l0.length - (kk + 1))
    case measure => omega
    case rel =>
     refine ⟨kk + 1, by omega, by omega, by go_num, ⟨?_⟩, ⟨HW.out.trans hb2⟩⟩
     rw [HP.out]
     have e5 : (y ++ (⟨#[10]⟩ : ByteArray)).data.toList = y.data.toList ++ [10] := by rw [data_append]
     rw [<- e5]
     exact hB2
  . have hltz : ¬ (kk : Int) < (l0.length : Int) := by omega
    obtain rfl : kk = l0.length := by omega
    have hB := HB.out
    rw [List.take_of_length_le (by rw [za1]; exact Nat.le_refl _)] at hB
    clear HB
    go_wp2_with (go_at_call 125; refine (zf7 w.heap.size w.heap.size _ _ hB HW.out.size).mono ?_; rintro e w2 ⟨rfl, hb2⟩)
    go_ret
    exact ⟨by rw [HR.out]; rfl, HW.out.trans hb2⟩

set_option maxHeartbeats 1000000 in
theorem zni (n : Int) (w : World) :
 Calls Tryz.prog 54 #[.int .i64 n] w fun e w' => e = .returned (.tuple #[.int .i64 ((zbe n).1 : Nat), .int .i64 ((zbe n).2.1 : Nat), .int .i64 ((zbe n).2.2 : Nat)]) /\ w = w' := by
 have hc : zbe n = if n = 5 then (0, 6, 0) else if n = 6 then (0, 0, 1) else if n = 7 then (1, 1, 1) else if n = 8 then (1, 1, 2) else (1, 1, 0) := rfl
 generalize zbe n = c at hc |-
 by_cases h5 : n = 5
 . rw [if_pos h5] at hc
   subst hc
   have d5 : (n == 5) = true := by simp [h5]
   clear h5
   go_enter Tryz.func54, Tryz.ntmps54
   go_wp2_with fail
   go_ret3
   exact ⟨rfl, rfl⟩
 have d5 : (n == 5) = false := by simp [h5]
 rw [if_neg h5] at hc
 by_cases h6 : n = 6
 . rw [if_pos h6] at hc
   subst hc
   have d6 : (n == 6) = true := by simp [h6]
   clear h5 h6
   go_enter Tryz.func54, Tryz.ntmps54
   go_wp2_with fail
   go_ret3
   exact ⟨rfl, rfl⟩
 have d6 : (n == 6) = false := by simp [h6]
 rw [if_neg h6] at hc
 by_cases h7 : n = 7
 . rw [if_pos h7] at hc
   subst hc
   have d7 : (n == 7) = true := by simp [h7]
   clear h5 h6 h7
   go_enter Tryz.func54, Tryz.ntmps54
   go_wp2_with fail
   go_ret3
   exact ⟨rfl, rfl⟩
 have d7 : (n == 7) = false := by simp [h7]
 rw [if_neg h7] at hc
 by_cases h8 : n = 8
 . rw [if_pos h8] at hc
   subst hc
   have d8 : (n == 8) = true := by simp [h8]
   clear h5 h6 h7 h8
   go_enter Tryz.func54, Tryz.ntmps54
   go_wp2_with fail
   go_ret3
   exact ⟨rfl, rfl⟩
 have d8 : (n == 8) = false := by simp [h8]
 rw [if_neg h8] at hc
 subst hc
 clear h5 h6 h7 h8
 go_enter Tryz.func54, Tryz.ntmps54
 go_wp2_with fail
 go_ret3
 exact ⟨rfl, rfl⟩
theorem zlA : ∀ args w, (callFunc 55 args).run Tryz.prog w = .ok (.enter 55 args) w := Go.Proofs.enters_of Tryz.func55 (by kernel_rfl) rfl
theorem zmm (w : World) : zdK 55 #[] (fun b => decide (100 < b.size)) w := by
 intro W x _
 show Calls Tryz.prog 55 #[.string x] W fun e w2 => e = .returned (.bool (decide (100 < x.size))) /\ Below W.heap.size W w2
 by_cases hx : 100 < x.size
 . have hd : decide ((100 : Int) < (x.size : Int)) = true := by simp; omega
   have hF : decide (100 < x.size) = true := by simp [hx]
   rw [hF]
   have hz : (100 : Int) < (x.size : Int) := by omega
   clear hF hx
   go_enter Tryz.func55, Tryz.ntmps55
   go_wp2_with fail
   go_ret
   exact ⟨rfl, Below.refl _ _⟩
 . have hd : decide ((100 : Int) < (x.size : Int)) = false := by simp; omega
   have hF : decide (100 < x.size) = false := by simp [hx]
   rw [hF]
   have hz : ¬ (100 : Int) < (x.size : Int) := by omega
   clear hF hx
   go_enter Tryz.func55, Tryz.ntmps55
   go_wp2_with fail
   go_ret
   exact ⟨rfl, Below.refl _ _⟩
theorem zkj (l : List ByteArray) : ((l.map (·.data.toList)).any fun b => decide (100 < b.length)) = l.any fun b => decide (100 < b.size) := by
 rw [List.any_map]
 congr 1
--MAY
set_option maxHeartbeats 16000000 in
set_option maxRecDepth 100000 in
theorem ze9 (x : zaA) (B2 : Option Addr) (c2 : Nat) (B3 : Option Addr) (c3 : Nat) (w : World) (h2 : Kd.C Kd.string w B2 x.f2.length x.f2) (h3 : Kd.C Kd.string w B3 x.f3.length x.f3) :
 Calls Tryz.prog 20 #[.agg #[.string x.f0, .int .i64 x.f1, .slice B2 x.f2.length c2, .slice B3 x.f3.length c3, .int .i64 x.f4]] w fun e w' => e = .returned (.bool (mayC (zal x))) /\ Below w.heap.size w w' := by
 have hl2 : x.f2.length <= 9223372036854775807 := h2.2.1
 have hl3 : x.f3.length <= 9223372036854775807 := h3.2.1
 have hab := (Below.refl w.heap.size w).alloc (Nat.le_refl _) (.cells #[.string x.f0, .int .i64 x.f1, .slice B2 x.f2.length c2, .slice B3 x.f3.length c3, .int .i64 x.f4] 24)
 have HK := znM (zan w (.cells #[.string x.f0, .int .i64 x.f1, .slice B2 x.f2.length c2, .slice B3 x.f3.length c3, .int .i64 x.f4] 24))
 have H3 := znM (Kd.C_below h3 hab)
 have HB1 := znM hab
 obtain ⟨T, hT⟩ : ∃ T, T = mayC (zal x) := ⟨_, rfl⟩
 rw [<- hT]
 have hT2 : T = (!(decide (x.f1 < 1) || decide (9 < x.f1) || decide (x.f2.length < (zbe x.f1).1) || decide ((zbe x.f1).2.1 < x.f2.length) || decide (x.f3.length ≠ (zbe x.f1).2.2) || x.f3.any (fun b => decide (100 < b.size))) &&
  !((x.f1 == 8 && (x.f3.map (·.data.toList)).getD 0 [] == []) || decide (x.f4 < 0) || decide (2000 < x.f4) || (x.f1 != 9 && x.f4 != 0))) := by
  rw [hT, <- zkj]
  unfold mayC zal
  dsimp only
  rw [List.length_map]
 have h8 : x.f1 = 8 -> (zbe x.f1).2.2 = 2 := by intro h; rw [h]; rfl
 have hC : ∀ W, Calls Tryz.prog 54 #[.int .i64 x.f1] W fun e w' => e = .returned (.tuple #[.int .i64 ((zbe x.f1).1 : Nat), .int .i64 ((zbe x.f1).2.1 : Nat), .int .i64 ((zbe x.f1).2.2 : Nat)]) /\ W = w' := fun W => zni x.f1 W
 obtain ⟨f0, f1, f2, f3, f4⟩ := x
 dsimp only at *
 generalize (zbe f1).1 = a at hC hT2
 generalize (zbe f1).2.1 = m at hC hT2
 generalize (zbe f1).2.2 = k at hC hT2 h8
 have HC := znM hC
 have HT := znM hT2
 have H8 := znM h8
 clear h2 h3 hab hT hT2 h8 hC
 go_enter Tryz.func20, Tryz.ntmps20
 go_upto_block 0 with (first | (go_at_call 54; refine (HC.out _).mono ?_; rintro e w' ⟨rfl, rfl⟩))
 generalize w.alloc (.cells #[.string f0, .int .i64 f1, .slice B2 f2.length c2, .slice B3 f3.length c3, .int .i64 f4] 24) = w1 at H3 HB1 HK |-
 have k1 : w1.cell? ⟨w.heap.size, 1, none⟩ = some (.int .i64 f1) := (zab HK.out 1).trans rfl
 have k2 : w1.cell? ⟨w.heap.size, 2, none⟩ = some (.slice B2 f2.length c2) := (zab HK.out 2).trans rfl
 have k3 : w1.cell? ⟨w.heap.size, 3, none⟩ = some (.slice B3 f3.length c3) := (zab HK.out 3).trans rfl
 have k4 : w1.cell? ⟨w.heap.size, 4, none⟩ = some (.int .i64 f4) := (zab HK.out 4).trans rfl
 have hL := zdG 55 #[] zlA (fun b => decide (100 < b.size)) B3 c3 f3 w1 H3.out (zmm w1)
 obtain ⟨lg, hlg⟩ : ∃ lg, lg = f3.any (fun b => decide (100 < b.size)) := ⟨_, rfl⟩
 have hT3 := HT.out
 rw [<- hlg] at hL hT3
 have HL := znM hL
 have HU := znM hT3
 clear hlg hL hT3 HT HC
 by_cases q1 : f1 < (1 : Int)
 . have d1 : decide (f1 < 1) = true := by simp [q1]
   have HF : Hid (T = false) := by show _ = _; first | (exfalso; omega) | (rw [HU.out]; simp [q1])
   clear HU H8
   go_wp2_with (first | (go_at_call 56; refine HL.out.mono ?_; rintro e w2 ⟨rfl, hb2⟩; have k1' := zaf hb2 k1; have k3' := zaf hb2 k3; have k4' := zaf hb2 k4))
   go_ret
   exact ⟨by rw [HF.out]; rfl, by first | exact HB1.out | exact zad HB1.out HB1.out.size hb2⟩
 . have d1 : decide (f1 < 1) = false := by simp [q1]
   by_cases q2 : (9 : Int) < f1
   . have d2 : decide (9 < f1) = true := by simp [q2]
     have HF : Hid (T = false) := by show _ = _; first | (exfalso; omega) | (rw [HU.out]; simp [q1, q2])
     clear HU H8
     go_wp2_with (first | (go_at_call 56; refine HL.out.mono ?_; rintro e w2 ⟨rfl, hb2⟩; have k1' := zaf hb2 k1; have k3' := zaf hb2 k3; have k4' := zaf hb2 k4))
     go_ret
     exact ⟨by rw [HF.out]; rfl, by first | exact HB1.out | exact zad HB1.out HB1.out.size hb2⟩
   . have d2 : decide (9 < f1) = false := by simp [q2]
     by_cases q3 : f2.length < a
     . have d3 : decide (f2.length < a) = true := by simp [q3]
       have HF : Hid (T = false) := by show _ = _; first | (exfalso; omega) | (rw [HU.out]; simp [q1, q2, q3])
       clear HU H8
       go_wp2_with (first | (go_at_call 56; refine HL.out.mono ?_; rintro e w2 ⟨rfl, hb2⟩; have k1' := zaf hb2 k1; have k3' := zaf hb2 k3; have k4' := zaf hb2 k4))
       go_ret
       exact ⟨by rw [HF.out]; rfl, by first | exact HB1.out | exact zad HB1.out HB1.out.size hb2⟩
     . have d3 : decide (f2.length < a) = false := by simp [q3]
       by_cases q4 : m < f2.length
       . have d4 : decide (m < f2.length) = true := by simp [q4]
         have HF : Hid (T = false) := by show _ = _; first | (exfalso; omega) | (rw [HU.out]; simp [q1, q2, q3, q4])
         clear HU H8
         go_wp2_with (first | (go_at_call 56; refine HL.out.mono ?_; rintro e w2 ⟨rfl, hb2⟩; have k1' := zaf hb2 k1; have k3' := zaf hb2 k3; have k4' := zaf hb2 k4))
         go_ret
         exact ⟨by rw [HF.out]; rfl, by first | exact HB1.out | exact zad HB1.out HB1.out.size hb2⟩
       . have d4 : decide (m < f2.length) = false := by simp [q4]
         by_cases q5 : f3.length = k
         . have d5 : ((f3.length : Int) != (k : Int)) = false := by simp [q5]
           have d5' : ((f3.length : Int) == (k : Int)) = true := by simp [q5]
           by_cases q6 : lg = true
           . subst q6
             have HF : Hid (T = false) := by show _ = _; first | (exfalso; omega) | (rw [HU.out]; simp [q1, q2, q3, q4, q5])
             clear HU H8 q5
             go_wp2_with (first | (go_at_call 56; refine HL.out.mono ?_; rintro e w2 ⟨rfl, hb2⟩; have k1' := zaf hb2 k1; have k3' := zaf hb2 k3; have k4' := zaf hb2 k4))
             go_ret
             exact ⟨by rw [HF.out]; rfl, by first | exact HB1.out | exact zad HB1.out HB1.out.size hb2⟩
           . have q6 : lg = false := by simpa using q6
             subst q6
             by_cases q7 : f1 = 8
             . have d8 : (f1 == 8) = true := by simp [q7]
               have hk2 := H8.out q7
               have hlen0 : (0 : Int) < (f3.length : Int) := by omega
               rcases zaZ H3.out with h0 | ⟨b, o, rfl, _, hcell⟩
               . exfalso; rw [h0] at hlen0; simp at hlen0
               have p0 := hcell 0 (by omega)
               rw [Nat.add_zero] at p0
               have hsp : (f3.map (·.data.toList)).getD 0 [] = (f3.getD 0 ByteArray.empty).data.toList := by cases f3 <;> rfl
               have hU := HU.out
               rw [hsp] at hU
               generalize f3.getD 0 ByteArray.empty = y at p0 hU
               clear HU
               have HU := znM hU
               clear hcell hsp hU hk2
               by_cases q8 : y.data.toList = []
               . have dy : y.toList = [] := by rw [zbv]; exact q8
                 have dz : (y.toList == []) = true := by simp [dy]
                 have hz : (y.data.toList == []) = true := by simp [q8]
                 have hU := HU.out
                 rw [hz] at hU
                 clear HU
                 have HU := znM hU
                 clear hU hz
                 have HF : Hid (T = false) := by show _ = _; first | (exfalso; omega) | (rw [HU.out]; simp [q1, q2, q3, q4, q5, q7])
                 clear HU H8 q5 q7 q8
                 go_wp2_with (first | (go_at_call 56; refine HL.out.mono ?_; rintro e w2 ⟨rfl, hb2⟩; have k1' := zaf hb2 k1; have k3' := zaf hb2 k3; have k4' := zaf hb2 k4; have p0' := zaf hb2 p0))
                 go_ret
                 exact ⟨by rw [HF.out]; rfl, by first | exact HB1.out | exact zad HB1.out HB1.out.size hb2⟩
               . have dy : ¬ y.toList = [] := by rw [zbv]; exact q8
                 have dz : (y.toList == []) = false := by simp [dy]
                 have hz : (y.data.toList == []) = false := by rw [<- zbv]; exact dz
                 have hU := HU.out
                 rw [hz] at hU
                 clear HU
                 have HU := znM hU
                 clear hU hz
                 by_cases q9 : f4 < (0 : Int)
                 . have d90 : decide (f4 < 0) = true := by simp [q9]
                   have HF : Hid (T = false) := by show _ = _; first | (exfalso; omega) | (rw [HU.out]; simp [q1, q2, q3, q4, q5, q7, q9])
                   clear HU H8 q5 q7 q8
                   go_wp2_with (first | (go_at_call 56; refine HL.out.mono ?_; rintro e w2 ⟨rfl, hb2⟩; have k1' := zaf hb2 k1; have k3' := zaf hb2 k3; have k4' := zaf hb2 k4; have p0' := zaf hb2 p0))
                   go_ret
                   exact ⟨by rw [HF.out]; rfl, by first | exact HB1.out | exact zad HB1.out HB1.out.size hb2⟩
                 . have d90 : decide (f4 < 0) = false := by simp [q9]
                   by_cases qa : (2000 : Int) < f4
                   . have d20 : decide (2000 < f4) = true := by simp [qa]
                     have HF : Hid (T = false) := by show _ = _; first | (exfalso; omega) | (rw [HU.out]; simp [q1, q2, q3, q4, q5, q7, q9, qa])
                     clear HU H8 q5 q7 q8
                     go_wp2_with (first | (go_at_call 56; refine HL.out.mono ?_; rintro e w2 ⟨rfl, hb2⟩; have k1' := zaf hb2 k1; have k3' := zaf hb2 k3; have k4' := zaf hb2 k4; have p0' := zaf hb2 p0))
                     go_ret
                     exact ⟨by rw [HF.out]; rfl, by first | exact HB1.out | exact zad HB1.out HB1.out.size hb2⟩
                   . have d20 : decide (2000 < f4) = false := by simp [qa]
                     by_cases qb : f1 = 9
                     . have d9 : (f1 == 9) = true := by simp [qb]
                       have e9 : (f1 != 9) = false := by simp [qb]
                       have HF : Hid (T = true) := by show _ = _; first | (exfalso; omega) | (rw [HU.out]; simp [q1, q2, q3, q4, q5, q7, q9, qa, qb])
                       clear HU H8 q5 q7 q8 qb
                       go_wp2_with (first | (go_at_call 56; refine HL.out.mono ?_; rintro e w2 ⟨rfl, hb2⟩; have k1' := zaf hb2 k1; have k3' := zaf hb2 k3; have k4' := zaf hb2 k4; have p0' := zaf hb2 p0))
                       go_ret
                       exact ⟨by rw [HF.out]; rfl, by first | exact HB1.out | exact zad HB1.out HB1.out.size hb2⟩
                     . have d9 : (f1 == 9) = false := by simp [qb]
                       have e9 : (f1 != 9) = true := by simp [qb]
                       by_cases qc : f4 = 0
                       . have d0 : (f4 == 0) = true := by simp [qc]
                         have e0 : (f4 != 0) = false := by simp [qc]
                         have HF : Hid (T = true) := by show _ = _; first | (exfalso; omega) | (rw [HU.out]; simp [q1, q2, q3, q4, q5, q7, q9, qa, qb, qc])
                         clear HU H8 q5 q7 q8 qb qc
                         go_wp2_with (first | (go_at_call 56; refine HL.out.mono ?_; rintro e w2 ⟨rfl, hb2⟩; have k1' := zaf hb2 k1; have k3' := zaf hb2 k3; have k4' := zaf hb2 k4; have p0' := zaf hb2 p0))
                         go_ret
                         exact ⟨by rw [HF.out]; rfl, by first | exact HB1.out | exact zad HB1.out HB1.out.size hb2⟩
                       . have d0 : (f4 == 0) = false := by simp [qc]
                         have e0 : (f4 != 0) = true := by simp [qc]
                         have HF : Hid (T = false) := by show _ = _; first | (exfalso; omega) | (rw [HU.out]; simp [q1, q2, q3, q4, q5, q7, q9, qa, qb, qc])
                         clear HU H8 q5 q7 q8 qb qc
                         go_wp2_with (first | (go_at_call 56; refine HL.out.mono ?_; rintro e w2 ⟨rfl, hb2⟩; have k1' := zaf hb2 k1; have k3' := zaf hb2 k3; have k4' := zaf hb2 k4; have p0' := zaf hb2 p0))
                         go_ret
                         exact ⟨by rw [HF.out]; rfl, by first | exact HB1.out | exact zad HB1.out HB1.out.size hb2⟩
             . have d8 : (f1 == 8) = false := by simp [q7]
               by_cases q9 : f4 < (0 : Int)
               . have d90 : decide (f4 < 0) = true := by simp [q9]
                 have HF : Hid (T = false) := by show _ = _; first | (exfalso; omega) | (rw [HU.out]; simp [q1, q2, q3, q4, q5, q7, q9])
                 clear HU H8 q5 q7
                 go_wp2_with (first | (go_at_call 56; refine HL.out.mono ?_; rintro e w2 ⟨rfl, hb2⟩; have k1' := zaf hb2 k1; have k3' := zaf hb2 k3; have k4' := zaf hb2 k4))
                 go_ret
                 exact ⟨by rw [HF.out]; rfl, by first | exact HB1.out | exact zad HB1.out HB1.out.size hb2⟩
               . have d90 : decide (f4 < 0) = false := by simp [q9]
                 by_cases qa : (2000 : Int) < f4
                 . have d20 : decide (2000 < f4) = true := by simp [qa]
                   have HF : Hid (T = false) := by show _ = _; first | (exfalso; omega) | (rw [HU.out]; simp [q1, q2, q3, q4, q5, q7, q9, qa])
                   clear HU H8 q5 q7
                   go_wp2_with (first | (go_at_call 56; refine HL.out.mono ?_; rintro e w2 ⟨rfl, hb2⟩; have k1' := zaf hb2 k1; have k3' := zaf hb2 k3; have k4' := zaf hb2 k4))
                   go_ret
                   exact ⟨by rw [HF.out]; rfl, by first | exact HB1.out | exact zad HB1.out HB1.out.size hb2⟩
                 . have d20 : decide (2000 < f4) = false := by simp [qa]
                   by_cases qb : f1 = 9
                   . have d9 : (f1 == 9) = true := by simp [qb]
                     have e9 : (f1 != 9) = false := by simp [qb]
                     have HF : Hid (T = true) := by show _ = _; first | (exfalso; omega) | (rw [HU.out]; simp [q1, q2, q3, q4, q5, q7, q9, qa, qb])
                     clear HU H8 q5 q7 qb
                     go_wp2_with (first | (go_at_call 56; refine HL.out.mono ?_; rintro e w2 ⟨rfl, hb2⟩; have k1' := zaf hb2 k1; have k3' := zaf hb2 k3; have k4' := zaf hb2 k4))
                     go_ret
                     exact ⟨by rw [HF.out]; rfl, by first | exact HB1.out | exact zad HB1.out HB1.out.size hb2⟩
                   . have d9 : (f1 == 9) = false := by simp [qb]
                     have e9 : (f1 != 9) = true := by simp [qb]
                     by_cases qc : f4 = 0
                     . have d0 : (f4 == 0) = true := by simp [qc]
                       have e0 : (f4 != 0) = false := by simp [qc]
                       have HF : Hid (T = true) := by show _ = _; first | (exfalso; omega) | (rw [HU.out]; simp [q1, q2, q3, q4, q5, q7, q9, qa, qb, qc])
                       clear HU H8 q5 q7 qb qc
                       go_wp2_with (first | (go_at_call 56; refine HL.out.mono ?_; rintro e w2 ⟨rfl, hb2⟩; have k1' := zaf hb2 k1; have k3' := zaf hb2 k3; have k4' := zaf hb2 k4))
                       go_ret
                       exact ⟨by rw [HF.out]; rfl, by first | exact HB1.out | exact zad HB1.out HB1.out.size hb2⟩
                     . have d0 : (f4 == 0) = false := by simp [qc]
                       have e0 : (f4 != 0) = true := by simp [qc]
                       have HF : Hid (T = false) := by show _ = _; first | (exfalso; omega) | (rw [HU.out]; simp [q1, q2, q3, q4, q5, q7, q9, qa, qb, qc])
                       clear HU H8 q5 q7 qb qc
                       go_wp2_with (first | (go_at_call 56; refine HL.out.mono ?_; rintro e w2 ⟨rfl, hb2⟩; have k1' := zaf hb2 k1; have k3' := zaf hb2 k3; have k4' := zaf hb2 k4))
                       go_ret
                       exact ⟨by rw [HF.out]; rfl, by first | exact HB1.out | exact zad HB1.out HB1.out.size hb2⟩
         . have d5 : ((f3.length : Int) != (k : Int)) = true := by simp; omega
           have d5' : ((f3.length : Int) == (k : Int)) = false := by simp; omega
           have HF : Hid (T = false) := by show _ = _; first | (exfalso; omega) | (rw [HU.out]; simp [q1, q2, q3, q4, q5])
           clear HU H8 q5
           go_wp2_with (first | (go_at_call 56; refine HL.out.mono ?_; rintro e w2 ⟨rfl, hb2⟩; have k1' := zaf hb2 k1; have k3' := zaf hb2 k3; have k4' := zaf hb2 k4))
           go_ret
           exact ⟨by rw [HF.out]; rfl, by first | exact HB1.out | exact zad HB1.out HB1.out.size hb2⟩

end Go.Proofs.YtdpgdnpddndeoaaGreatDoor.X
