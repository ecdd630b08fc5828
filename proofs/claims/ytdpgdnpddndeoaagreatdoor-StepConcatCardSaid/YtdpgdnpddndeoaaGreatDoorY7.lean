/-
  What the cards lean on (part Y7): contracts of functions, by hand, and plain laws; what is printed by the kit's print for this seat is among them. What is not reached is left out.
-/
import Derived.RangeFuncBox
import Derived.RangeFuncLeaves
import Derived.RangeFuncNested
import Derived.RangeFuncBound
import Derived.RangeFuncCalls
import Derived.Shelf.Abstract
import Derived.OwnWalkIn
import Derived.TacticsInMore
import Derived.LoopNIn
import Derived.LoopIn
import Derived.Maps.AppendAt
import Derived.Sort.OwnSorted
import Derived.Lib.Replace
import Derived.Shelf.Strings.Prefix
import Derived.Shelf.Strings.Search3
import Derived.Shelf.Strings.Replace
import Derived.Shelf.Slices.Turned
import Derived.Shelf.Slices.CompactS
import Derived.Ground.NamesProg
import Derived.Test.YtdpgdnpddndeoaaGreatDoorProg
import Derived.BigQuiet
import Derived.BigRegion
import Derived.Deep.DeepCutAuto
import Derived.Deep.CutBlock
import Derived.Deep.RegionHeld3
import Derived.Test.YtdpgdnpddndeoaaGreatDoorY6
import Derived.Test.YtdpgdnpddndeoaaGreatDoorY0
import Derived.Test.YtdpgdnpddndeoaaGreatDoorY4
set_option maxHeartbeats 16000000
set_option maxRecDepth 100000
set_option linter.unusedSimpArgs false
set_option linter.unusedVariables false
open Go.RowKit.Below renaming refl -> zno
open Nat renaming le_refl -> znp, le_trans -> znv, add_zero -> zov
open Go.Lib renaming size_eq -> znY
open List renaming map_map -> znZ, eq_nil_of_length_eq_zero -> znr, getElem?_eq_getElem -> zns, getD_eq_getElem?_getD -> znt, length_map -> zn0, length_append -> znC, length_singleton -> znD, map_cons -> zn3, mem_cons_self -> zot, mem_cons_of_mem -> zou, length_cons -> zn5, nil_append -> zop, mem_cons -> zow, take_of_length_le -> zox, getElem?_take_of_lt -> zn9, length_filter_le -> zob, getElem_mem -> zoy, length_nil -> zoz, map_congr_left -> zoA
open Array renaming getElem?_eq_some_iff -> znq, getElem?_modify -> zn2, getElem?_toList -> zn6

namespace Go.Proofs.YtdpgdnpddndeoaaGreatDoor.X
open Go.RowKit Go.Maps Go.Sort Go.Proofs.YtdpgdnpddndeoaaGreatDoorW.PrintWords Go.Proofs.YtdpgdnpddndeoaaGreatDoorW.PrintMore Go.Proofs.YtdpgdnpddndeoaaGreatDoorW.PrintLast
attribute [local go_sem] Oper.semAt_some

def zbW (zs : List ByteArray) (k : Nat) : List ByteArray := (List.range k).map fun j => zs[j]?.getD ByteArray.empty
theorem zgL (zs : List ByteArray) (k : Nat) : zbW zs (k + 1) = zbW zs k ++ [zs[k]?.getD ByteArray.empty] := by simp [zbW, List.range_succ]
theorem zjF (zs : List ByteArray) (k : Nat) : (zbW zs k).length = k := by simp [zbW]
theorem zhV (zs : List ByteArray) {k : Nat} (hk : k <= zs.length) : zbW zs k = zs.take k := by
 apply List.ext_getElem
 . simp [zbW, hk]
 . intro i h1 h2
   have : i < zs.length := by simp [zbW] at h1; omega
   simp [zbW, this]
theorem zkY (zs : List ByteArray) : zbW zs zs.length = zs := by rw [zhV zs (znp _), List.take_length]

theorem zi9 (n : Nat) (hn : 1 <= n) (l Bs n₀ b off len cap : Nat) (zs : List ByteArray) (hreach : len * 16 <= 140737488355328) (hb : b < n₀) (J Jx : List ByteArray -> World -> Prop)
 (hY : ∀ pre x W, J pre W -> pre.length < len -> YieldAt Fence.wide (n - 1) Tryz.prog l #[.string x] W fun e W' =>
  (e = .returned (.bool true) /\ J (pre ++ [x]) W' /\ Below n₀ W W') \/ (e = .returned (.bool false) /\ Jx (pre ++ [x]) W'))
 (W : World) (hBs : W.cell? ⟨Bs, 0, none⟩ = some (.slice (some ⟨b, off, none⟩) len cap)) (hc : ∀ j, j < len -> W.cell? ⟨b, off + j, none⟩ = some (.string (zs[j]?.getD ByteArray.empty))) (h0 : J [] W) :
 CallsIn Fence.wide n Tryz.prog 127 #[.func (.yield l) #[] #[], .pointer (some ⟨Bs, 0, none⟩)] W fun e W' => (∃ v, e = .returned v) /\
  ((∃ ys, ys = zbW zs len /\ J ys W') \/ (∃ pre, (∃ k, k <= len /\ pre = zbW zs k) /\ Jx pre W')) := by
 refine callsIn_of_wp Tryz.func127 rfl trivial ?_ rfl; simp only [Tryz.ntmps127, List.size_toArray, zn5, zoz, Nat.reduceAdd, Nat.reduceSub, Array.replicate_succ, Array.replicate_zero, List.push_toArray, List.append_toArray, zop, List.cons_append]; gi_wp2
 gi_loopw [7] (fun i wr => ∃ k : Nat, k <= len /\ i = .int .i64 k /\ J (zbW zs k) wr /\ Below n₀ W wr)
  (fun i _ => len - (intOf i).toNat)
 case atStart => exact ⟨0, Nat.zero_le _, rfl, h0, zno _ _⟩
 case round =>
  obtain ⟨k, hk, rfl, hJs, hnx⟩ := hrel; have hcx : k < len -> wr.cell? ⟨b, off + k, none⟩ = some (.string (zs[k]?.getD ByteArray.empty)) := fun h => (hnx.cell (p := ⟨b, off + k, none⟩) hb).trans (hc k h)
  by_cases hlt : k < len
  . obtain ⟨fn, tmps, assign, body, hy, hR⟩ := hY _ (zs[k]?.getD ByteArray.empty) wr hJs (by rw [zjF]; exact hlt)
    have hcx' := hcx hlt; gi_wp2
    refine hR.mono ?_; rintro e W3 (⟨rfl, hJ3, hk3⟩ | ⟨rfl, hJx3⟩)
    . gi_wp2
      go_roundw
      case rel => exact ⟨k + 1, by omega, by simp, by rw [zgL]; exact hJ3, hnx.trans hk3⟩
      case measure => simp [intOf]; omega
    . gi_wp2
      refine bodyPost_ret (results_none rfl _ _ _) rfl ?_; exact ⟨⟨_, rfl⟩, .inr ⟨_, ⟨k + 1, by omega, (zgL _ _).symm⟩, hJx3⟩⟩
  . obtain rfl : k = len := by omega
    gi_wp2
    go_end0
    exact ⟨⟨_, rfl⟩, .inl ⟨_, rfl, hJs⟩⟩
def StrsAt (n₀ : Nat) (W : World) (sv : Value) (zs : List ByteArray) : Prop :=
 ((∃ A c, sv = .slice A 0 c) /\ zs = []) \/ ∃ b off cap, sv = .slice (some ⟨b, off, none⟩) zs.length cap /\ b < n₀ /\ ∀ j, j < zs.length -> W.cell? ⟨b, off + j, none⟩ = some (.string (zs[j]?.getD ByteArray.empty))
theorem StrsAt.below {n₀ : Nat} {A B : World} (h : Below n₀ A B) {sv : Value} {zs : List ByteArray} : StrsAt n₀ A sv zs -> StrsAt n₀ B sv zs
 | .inl e => .inl e
 | .inr ⟨b, off, cap, e, hb, hc⟩ => .inr ⟨b, off, cap, e, hb, fun j hj => (h.cell (p := ⟨b, off + j, none⟩) hb).trans (hc j hj)⟩
theorem zlK (n l Bs : Nat) (A : Option Addr) (c : Nat) (J : List ByteArray -> World -> Prop) (W : World) (hBs : W.cell? ⟨Bs, 0, none⟩ = some (.slice A 0 c)) (h0 : J [] W) :
 CallsIn Fence.wide n Tryz.prog 127 #[.func (.yield l) #[] #[], .pointer (some ⟨Bs, 0, none⟩)] W fun e W' => (∃ v, e = .returned v) /\ J [] W' := by
 refine callsIn_of_wp Tryz.func127 rfl trivial ?_ rfl; simp only [Tryz.ntmps127, List.size_toArray, zn5, zoz, Nat.reduceAdd, Nat.reduceSub, Array.replicate_succ, Array.replicate_zero, List.push_toArray, List.append_toArray, zop, List.cons_append]; gi_wp2
 gi_loopw [7] (fun i wr => i = .int .i64 0 /\ J [] wr) (fun _ _ => 0)
 case atStart => exact ⟨rfl, h0⟩
 case round =>
  obtain ⟨rfl, hJs⟩ := hrel; gi_wp2
  go_end0
  exact ⟨⟨_, rfl⟩, hJs⟩
theorem zj5 (n : Nat) (hn : 1 <= n) (Bs n₀ : Nat) (sv : Value) (zs : List ByteArray) (hreach : zs.length * 16 <= 140737488355328) (w : World) (hBs : Bs < w.heap.size) (hn₀ : n₀ <= w.heap.size)
 (hc : w.cell? ⟨Bs, 0, none⟩ = some sv) (hI : StrsAt n₀ w sv zs) :
 SeqStopsK Fence.wide n Tryz.prog 127 #[.pointer (some ⟨Bs, 0, none⟩)] (fun x : ByteArray => #[Value.string x]) (Below n₀) (fun ys => ys = zs) (fun pre => pre <+: zs) zs.length w := fun l J Jx W hW _ _ hY h0 => by
 have hc' := (hW.cell (p := ⟨Bs, 0, none⟩) hBs).trans hc; rcases hI.below (hW.mono hn₀) with ⟨⟨A, c, rfl⟩, rfl⟩ | ⟨b, off, cap, rfl, hb, hcs⟩
 . exact (zlK n l Bs A c J W hc' h0).mono fun e W' ⟨he, hj⟩ => ⟨he, .inl ⟨_, rfl, hj⟩⟩
 . refine (zi9 n hn l Bs n₀ b off zs.length cap zs hreach hb J Jx hY W hc' hcs h0).mono ?_
   rintro e W' ⟨he, ⟨ys, rfl, hj⟩ | ⟨pre, ⟨k, hk, rfl⟩, hj⟩⟩
   . exact ⟨he, .inl ⟨_, zkY zs, hj⟩⟩
   . exact ⟨he, .inr ⟨_, by rw [zhV zs hk]; exact List.take_prefix _ _, hj⟩⟩
theorem zka : ∀ args w, (callFunc 127 args).run Tryz.prog w = .ok (.enter 127 args) w := Go.Proofs.enters_of Tryz.func127 (by kernel_rfl) rfl

theorem ziV (n : Nat) (hn : 3 <= n) (Bs : Nat) (sv : Value) (zs : List ByteArray) (hlen : zs.length <= 4611686018427387904) (hbytes : zs.length * 16 <= 140737488355328) (w : World) (hBs : Bs < w.heap.size)
 (hc : w.cell? ⟨Bs, 0, none⟩ = some sv) (hI : StrsAt w.heap.size w sv zs) :
 CallsIn Fence.wide n Tryz.prog 156 #[.slice none 0 0, .func (.func 127) #[] #[.pointer (some ⟨Bs, 0, none⟩)]] w fun e W' => ∃ v, e = .returned v /\
  W'.ownsRow w.heap.size 9 1 v zs.length (zs.map Value.string) /\ Below w.heap.size w W' := by
 have h1 : 1 <= n := by omega
 obtain ⟨i0, hi, hz0, hz1, hz2⟩ := info_parts zcg; refine callsIn_of_wp_marks Tryz.func156 rfl trivial ?_ rfl; simp only [Tryz.ntmps156, List.size_toArray, zn5, zoz, Nat.reduceAdd, Nat.reduceSub, Array.replicate_succ, Array.replicate_zero, List.push_toArray, List.append_toArray, zop, List.cons_append]; gi_wp2
 have bO := Boxed.new w 22 (.slice none 0 0); have hB0 : Below w.heap.size w (w.alloc (.cells #[.slice none 0 0] 22)) := (zno _ w).alloc (znp _) _; refine wpIn_rangeFunc_ownG rfl h1 (gf := 127) (lb := #[.pointer (some ⟨Bs, 0, none⟩)]) rfl trivial zka
  (zj5 (n - 1) (by omega) Bs w.heap.size sv zs hbytes _ (by simp; omega) (by simp) ((hB0.cell (p := ⟨Bs, 0, none⟩) hBs).trans hc) (hI.below hB0)) belowK_t (belowK_b (by simp)) (zno _ _) (fun _ => rfl)
  (fun pre W => (∃ v, Boxed W w.heap.size 22 v /\ W.ownsRow w.heap.size 9 1 v pre.length (pre.map Value.string) /\ True) /\ Below w.heap.size w W)
  (fun _ _ _ => False)
  (OwnFrom.and (Own.from (holdsRow_own w.heap.size w.heap.size 22 9 1 (fun pre : List ByteArray => pre.length) (fun pre : List ByteArray => pre.map Value.string) (fun _ _ => True)) _) (ownFrom_below (znp _) (by simp)))
  (fun _ _ _ _ _ hs _ _ => hs)
  ⟨⟨_, bO, World.ownsRow_nil _ _ _ _, trivial⟩, hB0⟩
  (fun x => { tmps := #[.slice none 0 0, .func (.func 127) #[] #[.pointer (some ⟨Bs, 0, none⟩)], .pointer (some ⟨w.heap.size, 0, none⟩), undef, .slice none 0 0, .string x, .func (.func 127) #[] #[.pointer (some ⟨Bs, 0, none⟩)], .string x, undef, undef, undef, undef, undef], defers := [] }) ?assign ?body ?done ?stop
 case assign =>
  intro l x W K hK; gi_wp2
  exact hK
 case body =>
  rintro l pre x W ⟨⟨v, hv, hrow, _⟩, hB⟩ hlt; have hc := hv.cell; gi_wp2_with (gi_at_builtin; refine wpListIn_append_own _ rfl _ _ 22 rfl w.heap.size 9 i0 (.string ⟨#[]⟩) 1 16 Tryz.underlying22 hi hz0 hz1 hz2 rfl (by decide) _ _ _ rfl (hrow.alloc _) ⟨W.heap.size, 0, none⟩ 1 1 [.string x] rfl rfl (cell_one_new _ _ _) (by simp [Value.oneCell']) (by unfold maxLen; omega) (by omega) (by have := hB.size; simp; omega) ?_; intro v' w1 hown' hgrow _; obtain ⟨g', cap', rfl⟩ := ownsRow_succ hown'; obtain ⟨hv1, hv2, hr2, hk2, hb2⟩ := hv.appended (by decide) hrow hB.size (znp _) hown' hgrow; have hc1 := hv1.cell; have hf1 := hv1.frozen)
  exact ⟨hk2.from _, hb2, ⟨_, hv2, by simpa using hr2, trivial⟩, hB.trans hb2⟩
 case done =>
  rintro D ys W hD rfl ⟨⟨v, hv, hrow, _⟩, hB⟩ hK; have hc := hv.cell; gi_wp2
  refine ⟨by simp, .inl ⟨_, _, rfl, run_takeDeferred hK, ?_⟩⟩
  exact ⟨_, results_tmp rfl _ _ _, v, rfl, ownsRow_putObj hrow _ hK rfl, hB.trans (belowK_b (w := w) (znp _) W D _ _ (by simp at hD; omega) hK rfl rfl)⟩
 case stop =>
  rintro D c pre W _ _ h _; exact h.elim

def zae (zs : List ByteArray) : List ByteArray := ((zs.map fun x => x.data.toList).mergeSort fun x y => decide (x <= y)).map mk
theorem zfE (zs : List ByteArray) : zs.map Value.string = (zs.map fun x => x.data.toList).map encStr := by
 rw [znZ]; apply zoA
 intro x _; show Value.string x = Value.string (mk x.data.toList)
 rfl
theorem zjZ (Bs : Nat) (sv : Value) (zs : List ByteArray) (hbytes : zs.length * 16 <= 140737488355328) (w : World) (hBs : Bs < w.heap.size)
 (hc : w.cell? ⟨Bs, 0, none⟩ = some sv) (hI : StrsAt w.heap.size w sv zs) :
 Calls Tryz.prog 156 #[.slice none 0 0, .func (.func 127) #[] #[.pointer (some ⟨Bs, 0, none⟩)]] w fun e W' => ∃ v, e = .returned v /\
  W'.ownsRow w.heap.size 9 1 v zs.length (zs.map Value.string) /\ Below w.heap.size w W' :=
 callsIn_wide.1 (ziV 3 (znp _) Bs sv zs (by omega) hbytes w hBs hc hI)
theorem zjW (Bs : Nat) (sv : Value) (zs : List ByteArray) (hbytes : zs.length * 16 <= 140737488355328) (w : World) (hBs : Bs < w.heap.size)
 (hc : w.cell? ⟨Bs, 0, none⟩ = some sv) (hI : StrsAt w.heap.size w sv zs) :
 Calls Tryz.prog 126 #[.func (.func 127) #[] #[.pointer (some ⟨Bs, 0, none⟩)]] w fun e W' => ∃ v, e = .returned v /\
  W'.ownsRow w.heap.size 9 1 v zs.length (zs.map Value.string) /\ Below w.heap.size w W' := by
 have h := zjZ Bs sv zs hbytes w hBs hc hI; go_enter Tryz.func126, Tryz.ntmps126
 go_wp2_with (go_at_call 156; refine h.mono ?_; rintro e w2 ⟨v, rfl, ho, hb⟩)
 go_ret
 exact ⟨v, rfl, ho, hb⟩
theorem zf8 (Bs : Nat) (sv : Value) (zs : List ByteArray) (hbytes : zs.length * 16 <= 140737488355328) (w : World) (hBs : Bs < w.heap.size)
 (hc : w.cell? ⟨Bs, 0, none⟩ = some sv) (hI : StrsAt w.heap.size w sv zs) :
 Calls Tryz.prog 80 #[.func (.func 127) #[] #[.pointer (some ⟨Bs, 0, none⟩)]] w fun e W' => ∃ v, e = .returned v /\
  RS W' w.heap.size v (zae zs) /\ Below w.heap.size w W' := by
 have h := zjW Bs sv zs hbytes w hBs hc hI; have hlen : (zae zs).length = zs.length := by unfold zae; rw [zn0, List.length_mergeSort, zn0]
 have hrs : encs Value.string (zae zs) = ((zs.map fun x => x.data.toList).mergeSort fun x y => decide (x <= y)).map encStr := by
  unfold zae encs; rw [znZ]; rfl
 have HLen := znl hlen; have HRs := znl hrs; clear hlen hrs; go_enter Tryz.func80, Tryz.ntmps80
 go_wp2_with fail; refine h.mono ?_; rintro e W ⟨v, rfl, hrow, hb⟩; have HB := znl hb; clear h hb; rcases hrow.2 with ⟨rfl, hz⟩ | ⟨gb, cap, cur, rfl, hbase, hgb, r1, r2, r3, r4⟩
 . have hss : zs = [] := znr hz
   subst hss; have cS := Go.Proofs.AnyM.slices_Sort_string_none Go.Proofs.Tryz.laysSort none 0 W; change Calls Tryz.prog 93 _ _ _ at cS
   go_wp2_with (go_at_call 93; refine cS.mono ?_; rintro e w' ⟨rfl, rfl⟩)
   go_ret
   exact ⟨.slice none 0 0, rfl, by rw [show zae [] = [] by simp [zae]]; exact Kd.R_nil _ _ _ _ _, HB.out⟩
 . rw [zfE] at r4
   have hH : Holds encStr W gb 0 (zs.map fun x => x.data.toList).toArray := Go.holds_of_block hgb (by simpa using r4)
   have hgl : gb < W.heap.size := (znq.1 hgb).1; have hsz : (zs.map fun x => x.data.toList).length < 4611686018427387904 := by rw [zn0]; omega
   have cS := Go.Proofs.AnyM.slices_Sort_string Go.Proofs.Tryz.laysSort gb 0 cap (zs.map fun x => x.data.toList) W hH hgl hsz
   change Calls Tryz.prog 93 _ _ _ at cS
   rw [zn0] at cS; go_wp2_with (go_at_call 93; refine cS.mono ?_; rintro e w' ⟨rfl, nn, os, rfl⟩)
   go_ret
   refine ⟨_, rfl, Kd.R_of_own (h1 := fun _ => rfl) ?_ (fun _ _ => trivial), HB.out.grown (grownBy_sorted _) HB.out.size (fun j hj => by cases hj; exact hbase)⟩
   rw [HRs.out, HLen.out]; have hos := ownsRow_sorted (n := nn) (os := os) (ss := zs.map fun x => x.data.toList) (ts := (zs.map fun x => x.data.toList).mergeSort fun x y => decide (x <= y)) (by simp) hbase hgb (by rw [zn0]; exact r1) r2 r3
   rw [zn0] at hos; exact hos
theorem zft (A : Option Addr) (c : Nat) (l : List ByteArray) (w : World) (hr : Kd.C Kd.string w A l.length l) (hbytes : l.length * 16 <= 140737488355328) :
 Calls Tryz.prog 198 #[.slice A l.length c] w fun e W' => ∃ v, e = .returned v /\ RS W' w.heap.size v (zae l) /\ Below w.heap.size w W' := by
 have hV : ∀ W, Calls Tryz.prog 81 #[.slice A l.length c] W fun e W' => e = .returned (.func (.func 127) #[] #[.pointer (some ⟨W.heap.size, 0, none⟩)]) /\ W' = W.alloc (.cells #[.slice A l.length c] 22) := by
  intro W; go_enter Tryz.func81, Tryz.ntmps81
  go_wp2; go_ret
  exact ⟨rfl, rfl⟩
 have hS0 : StrsAt w.heap.size w (.slice A l.length c) l := by
  rcases za5 hr with h0 | ⟨b, o, rfl, hb, hcell⟩
  . subst h0
    exact .inl ⟨⟨A, c, rfl⟩, rfl⟩
  . refine .inr ⟨b, o, c, rfl, hb, fun j hj => ?_⟩
    have := hcell j hj; rwa [znt] at this
 have hS := hS0.below ((zno w.heap.size w).alloc (znp _) (.cells #[.slice A l.length c] 22)); have hS1 : StrsAt (w.alloc (.cells #[.slice A l.length c] 22)).heap.size (w.alloc (.cells #[.slice A l.length c] 22)) (.slice A l.length c) l := by
  rcases hS with h | ⟨b, o, cc, h1, hb, h2⟩
  . exact .inl h
  . exact .inr ⟨b, o, cc, h1, by simp; omega, h2⟩
 have h := zf8 w.heap.size _ l hbytes (w.alloc (.cells #[.slice A l.length c] 22)) (by simp) ((zaa (zao w _) 0).trans rfl) hS1
 clear hS hS0 hS1 hr; go_enter Tryz.func198, Tryz.ntmps198
 go_wp2_with (first | (go_at_call 81; refine (hV _).mono ?_; rintro e w' ⟨rfl, rfl⟩) | (go_at_call 80; refine h.mono ?_; rintro e w2 ⟨v, rfl, ho, hb⟩))
 go_ret
 exact ⟨v, rfl, Kd.R_lower ho (by simp), zad ((zno w.heap.size w).alloc (znp _) _) (by simp) hb⟩

end Go.Proofs.YtdpgdnpddndeoaaGreatDoor.X

namespace Go.Proofs.YtdpgdnpddndeoaaGreatDoor.X
def glu (cur : zab) : List zab -> List zab
 | [] => [cur]
 | p :: q => (cur ++ p) :: q
theorem zhD (l : List zab) (h : l ≠ []) : glu [] l = l := by
 cases l with
 | nil => exact absurd rfl h
 | cons p q => rfl
theorem zhj (a b : zab) (l : List zab) : glu a (glu b l) = glu (a ++ b) l := by
 cases l with
 | nil => rfl
 | cons p q => simp [glu]
theorem ziN (c : UInt8) (r : zab) : zaX c (c :: r) = [] :: zaX c r := by simp [zaX]
theorem zg8 {x c : UInt8} (h : x ≠ c) (r : zab) : zaX c (x :: r) = glu [x] (zaX c r) := by
 conv => lhs; unfold zaX
 rw [if_neg h]; cases zaX c r with
 | nil => rfl
 | cons p q => rfl
def zbt (b : zab) : zab := if b.getLast? = some 10 then b.dropLast else b
def zbr (b : zab) : List zab := if b = [] then [] else zaX 10 (zbt b)
def zcf : zab -> zab -> Bool -> List zab
 | [], t, i => if i then [t] else []
 | c :: r, t, _ => if c = 10 then t :: zcf r [] false else zcf r (t ++ [c]) true
theorem zga : zbt [] = [] := rfl
theorem zh3 (c : UInt8) (r : zab) (h : r ≠ []) : zbt (c :: r) = c :: zbt r := by
 unfold zbt; cases r with
 | nil => exact absurd rfl h
 | cons d r =>
  rw [List.getLast?_cons_cons]; split
  . rw [List.dropLast_cons_cons]
  . rfl
theorem zfq : ∀ (b t : zab) (i : Bool), (i = true ↔ t ≠ []) -> b ≠ [] \/ t ≠ [] -> zcf b t i = glu t (zaX 10 (zbt b))
 | [], t, i, hi, h => by
  have ht : t ≠ [] := h.resolve_left (fun e => e rfl)
  unfold zcf; rw [if_pos (hi.2 ht)]; simp [zga, zaX, glu]
 | c :: r, t, i, hi, _ => by
  unfold zcf; by_cases hc : c = 10
  . subst hc
    rw [if_pos rfl]; by_cases hr : r = []
    . subst hr
      simp [zcf, zbt, zaX, glu]
    . rw [zh3 10 r hr, ziN, zfq r [] false (by simp) (.inl hr), zhD _ (zhH _ _)]
      simp [glu]
  . rw [if_neg hc, zfq r (t ++ [c]) true (by simp) (.inr (by simp))]
    by_cases hr : r = []
    . subst hr
      have : zbt [c] = [c] := by
       unfold zbt; rw [if_neg (by simpa using hc)]
      rw [this, zga, zg8 hc, zhj]
    . rw [zh3 c r hr, zg8 hc, zhj]
theorem zl0 (b : zab) : zcf b [] false = zbr b := by
 unfold zbr; by_cases h : b = []
 . subst h; rfl
 . rw [if_neg h, zfq b [] false (by simp) (.inl h), zhD _ (zhH _ _)]
theorem zfi (b : zab) : (zbr b).length <= b.length /\ ∀ x ∈ zbr b, x.length <= b.length := by
 rw [<- zl0]; have key : ∀ (b t : zab) (i : Bool), (i = true -> t ≠ []) -> (zcf b t i).length <= b.length + (if i then 1 else 0) /\ ∀ x ∈ zcf b t i, x.length <= t.length + b.length := by
  intro b; induction b with
  | nil =>
   intro t i _; unfold zcf; cases i <;> simp
  | cons c r ih =>
   intro t i _; unfold zcf; split
   . have := ih [] false (by simp)
     refine ⟨by simp at this |-; have := this.1; split <;> omega, fun x hx => ?_⟩
     rcases zow.1 hx with rfl | hx
     . omega
     . have := this.2 x hx
       simp at this |-
       omega
   . have := ih (t ++ [c]) true (by simp)
     refine ⟨by have := this.1; simp at this |-; omega, fun x hx => ?_⟩
     have := this.2 x hx; simp at this |-
     omega
 have := key b [] false (by simp)
 exact ⟨by simpa using this.1, fun x hx => by have := this.2 x hx; simpa using this⟩
def za3 (l : List zab) : zab := (l.map (· ++ [10])).flatten

def zeU (l : List zab) (x : zab) : Nat := (l.takeWhile fun y => decide (y <= x)).length
def putS (l : List zab) (x : zab) : List zab := l.take (zeU l x) ++ [x] ++ l.drop (zeU l x)
theorem zfB {α : Type} (p : α -> Bool) : ∀ l : List α, l.take (l.takeWhile p).length = l.takeWhile p /\ l.drop (l.takeWhile p).length = l.dropWhile p
 | [] => ⟨rfl, rfl⟩
 | y :: r => by
  rw [List.takeWhile_cons, List.dropWhile_cons]; by_cases h : p y = true
  . have := zfB p r
    rw [if_pos h, if_pos h]; exact ⟨by rw [zn5, List.take_succ_cons, this.1], by rw [zn5, List.drop_succ_cons, this.2]⟩
  . rw [if_neg h, if_neg h]
    exact ⟨rfl, rfl⟩
theorem zgV (l : List zab) (x : zab) : putS l x = l.takeWhile (fun y => decide (y <= x)) ++ [x] ++ l.dropWhile (fun y => decide (y <= x)) := by
 unfold putS zeU; rw [(zfB _ l).1, (zfB _ l).2]
theorem zlD (l : List zab) (x : zab) : (putS l x).Perm (x :: l) := by
 rw [zgV]; have h : l.takeWhile (fun y => decide (y <= x)) ++ l.dropWhile (fun y => decide (y <= x)) = l := List.takeWhile_append_dropWhile
 have := List.perm_middle (a := x) (l₁ := l.takeWhile (fun y => decide (y <= x))) (l₂ := l.dropWhile (fun y => decide (y <= x)))
 rw [h] at this; simpa using this
theorem zhl {α : Type} {f : α -> Bool} {p : α} : ∀ l : List α, p ∈ l.takeWhile f -> f p = true
 | [], h => by cases h
 | y :: r, h => by
  rw [List.takeWhile_cons] at h; split at h
  . rename_i hy
    rcases zow.1 h with rfl | h
    . exact hy
    . exact zhl r h
  . cases h
theorem zlL (l : List zab) (x : zab) (h : l.Pairwise (· <= ·)) : (putS l x).Pairwise (· <= ·) := by
 rw [zgV]; have hs : l.takeWhile (fun y => decide (y <= x)) ++ l.dropWhile (fun y => decide (y <= x)) = l := List.takeWhile_append_dropWhile
 have hp := h; rw [<- hs] at hp; obtain ⟨h1, h2, h3⟩ := List.pairwise_append.1 hp; have hd : ∀ y ∈ l.dropWhile (fun y => decide (y <= x)), x <= y := by
  have hh := List.head?_dropWhile_not (p := fun y : zab => decide (y <= x)) l
  generalize l.dropWhile (fun y => decide (y <= x)) = b at h2 hh
  cases b with
  | nil => intro y hy; cases hy
  | cons z r =>
   have hz : ¬ z <= x := by simpa using hh
   have hz2 : x <= z := List.le_of_lt (List.not_le.1 hz); intro y hy; rcases zow.1 hy with rfl | hy
   . exact hz2
   . exact List.le_trans hz2 ((List.pairwise_cons.1 h2).1 y hy)
 rw [List.append_assoc]; refine List.pairwise_append.2 ⟨h1, List.pairwise_cons.2 ⟨hd, h2⟩, fun a ha b hb => ?_⟩
 have hax : a <= x := by simpa using zhl _ ha
 rcases zow.1 hb with rfl | hb
 . exact hax
 . exact h3 a ha b hb
theorem zea (l : List zab) : l.foldl putS [] = l.mergeSort fun x y => decide (x <= y) := by
 have key : ∀ (l a : List zab), a.Pairwise (· <= ·) -> (l.foldl putS a).Pairwise (· <= ·) /\ (l.foldl putS a).Perm (a ++ l) := by
  intro l; induction l with
  | nil => exact fun a h => ⟨h, by simp⟩
  | cons x r ih =>
   intro a h; have := ih (putS a x) (zlL a x h); refine ⟨this.1, this.2.trans ?_⟩; have hp := (zlD a x).append_right r; refine hp.trans ?_; simpa using (List.perm_middle (a := x) (l₁ := a) (l₂ := r)).symm
 have hk := key l [] List.Pairwise.nil; have hm := List.pairwise_mergeSort (le := fun x y : zab => decide (x <= y)) (fun a b c hab hbc => by simp only [decide_eq_true_eq] at *; exact List.le_trans hab hbc)
  (fun a b => by simp only [Bool.or_eq_true, decide_eq_true_eq]; exact List.le_total a b) l
 refine List.Perm.eq_of_pairwise (le := fun x y : zab => x <= y) (fun a b _ _ h1 h2 => List.le_antisymm h1 h2) hk.1 (hm.imp (fun h => by simpa using h)) (hk.2.trans ?_)
 simpa using (List.mergeSort_perm l fun x y => decide (x <= y)).symm

theorem zk5 (b : zab) : Lib.trimSuffix b [10] = zbt b := by
 unfold Lib.trimSuffix zbt Lib.hasSuffix; have h : ([10] : zab).isSuffixOf b = decide (b.getLast? = some 10) := by
  rw [Bool.eq_iff_iff, List.isSuffixOf_iff_suffix, decide_eq_true_eq]; constructor
  . rintro ⟨t, rfl⟩
    simp
  . intro h
    obtain ⟨ys, rfl⟩ := List.getLast?_eq_some_iff.1 h; exact ⟨ys, rfl⟩
 rw [h]; by_cases hb : b.getLast? = some 10
 . rw [if_pos (by simpa using hb), if_pos hb, List.dropLast_eq_take]
   rfl
 . rw [if_neg (by simpa using hb), if_neg hb]
structure Cmd where
 op : Int
 n : Int
 args : Nat
 lits : List zab
def zbl (op : Int) : Nat × Nat × Nat := if op = 5 then (0, 6, 0) else if op = 6 then (0, 0, 1) else if op = 7 then (1, 1, 1) else if op = 8 then (1, 1, 2) else (1, 1, 0)
def mayC (s : Cmd) : Bool :=
 !(decide (s.op < 1) || decide (9 < s.op) || decide (s.args < (zbl s.op).1) || decide ((zbl s.op).2.1 < s.args) || decide (s.lits.length ≠ (zbl s.op).2.2) || s.lits.any (fun l => decide (100 < l.length))) &&
 !((s.op == 8 && s.lits.getD 0 [] == []) || decide (s.n < 0) || decide (2000 < s.n) || (s.op != 9 && s.n != 0))
def zaP (s : Cmd) (bs : List zab) : zab × Bool :=
 if s.op = 1 then (bs.getD 0 [], true)
 else if s.op = 2 then (bs.getD 0 [], !(bs.getD 0 [] == []))
 else if s.op = 3 then (za3 ((zbr (bs.getD 0 [])).mergeSort fun x y => decide (x <= y)), true)
 else if s.op = 4 then (zaV ((zbr (bs.getD 0 [])).length : Int) ++ [10], true)
 else if s.op = 5 then (bs.flatten, true)
 else if s.op = 6 then (s.lits.getD 0 [], true)
 else if s.op = 7 then (za3 ((zbr (bs.getD 0 [])).filter fun x => Lib.contains x (s.lits.getD 0 [])), true)
 else if s.op = 8 then (Lib.replaceAll (bs.getD 0 []) (s.lits.getD 0 []) (s.lits.getD 1 []), true)
 else ((bs.getD 0 []).take s.n.toNat, true)
theorem zjr {s : Cmd} (h : mayC s = true) : 1 <= s.op /\ s.op <= 9 /\ (s.op = 8 -> s.lits.getD 0 [] ≠ []) := by
 unfold mayC at h; rw [Bool.and_eq_true] at h; obtain ⟨h1, h2⟩ := h; simp only [Bool.not_eq_true', Bool.or_eq_false_iff, decide_eq_false_iff_not] at h1 h2; refine ⟨by omega, by omega, fun e hn => ?_⟩
 have := h2.1.1.1; rw [e, hn] at this; exact absurd this (by decide)
def zes (text : Cmd -> List zab -> zab × Bool) (may : Cmd -> Bool) (s : Cmd) (vs : List (Option zab)) : Option zab :=
 if may s = false \/ vs.length ≠ s.args \/ vs.any (·.isNone) then none
 else if (text s (vs.map (·.getD []))).2 = false \/ 2000 < (text s (vs.map (·.getD []))).1.length then none else some (text s (vs.map (·.getD []))).1
def doP := zes zaP mayC
structure zca where
 out : zab
 cmd : Cmd
 args : List zab
structure zcQ where
 ins : List zab
 outs : List zab
 steps : List zca
abbrev VB := Option zab
structure zdv where
 name : zab
 after : List zab
 body : zcQ
def zb1 (l : List zab) : Bool := !decide l.Nodup
def zc9 (r : zdv) : Bool :=
 may r.name && !r.body.outs.isEmpty && (r.body.ins.all may && r.body.outs.all may && r.after.all may) && r.body.steps.all fun s => may s.out && s.args.all may && mayC s.cmd
def zcs : List zca -> List zab -> Option (List zab)
 | [], known => some known
 | s :: r, known => if known.contains s.out || s.args.any (fun a => !known.contains a) then none else zcs r (known ++ [s.out])
def zdh (r : zdv) : Bool :=
 !(zb1 r.body.ins || zb1 r.body.outs || zb1 r.after || r.after.contains r.name) && !(r.body.outs.any fun o => r.body.ins.contains o) && match zcs r.body.steps r.body.ins with
  | none => false
  | some known => !(r.body.outs.any fun o => !known.contains o)
def zhB (form names : zdv -> Bool) (r : zdv) : Int :=
 if form r = false then 1 else if 8 < r.body.ins.length \/ 4 < r.body.outs.length \/ 8 < r.after.length \/ 12 < r.body.steps.length then 4 else if names r = false then 2 else 0
def zal (x : zay) : Cmd := ⟨x.f1, x.f4, x.f2.length, x.f3.map (·.data.toList)⟩
def zac (l : List ByteArray) : List zab := l.map (·.data.toList)
def zaJ (x : zay) : zca := ⟨x.f0.data.toList, zal x, zac x.f2⟩
def zax (r : zai) : zcQ := ⟨zac r.f1, zac r.f2, r.f4.map zaJ⟩
def zb5 (r : zai) : zdv := ⟨r.f0.data.toList, zac r.f3, zax r⟩
theorem zaZ (l : List ByteArray) : (zac l).length = l.length := by unfold zac; rw [zn0]
theorem zcD (l : List ByteArray) (k : Nat) (h : k < l.length) : (zac l)[k]'(by rw [zaZ]; exact h) = l[k].data.toList := by unfold zac; rw [List.getElem_map]
theorem zdt (l : List zab) : zac (l.map mk) = l := by
 unfold zac; rw [znZ]; conv => rhs; rw [<- List.map_id l]
 exact zoA fun x _ => za2 x
end Go.Proofs.YtdpgdnpddndeoaaGreatDoor.X

namespace Go.Proofs
open Go.Shelf
def Tryz.lays102_ren : Go.Shelf.Ren := ⟨fun | 102 => 58 | 209 => 78 | 207 => 123 | n => n, fun | 9 => 9 | 4 => 4 | 3 => 3 | n => n, fun | n => n⟩
theorem Tryz.lays102 : Go.Proofs.Lays.n102 Tryz.prog Tryz.lays102_ren := {
 mixed := by kernel_rfl
 f102 := Tryz.func58.trans (congrArg some (by kernel_rfl))
 f207 := Tryz.func123.trans (congrArg some (by kernel_rfl))
 f209 := Tryz.func78.trans (congrArg some (by kernel_rfl))
 t3 := Tryz.underlying3
 a3 := Tryz.isAgg3
 z3 := Tryz.sizeOf3
 v3 := Tryz.zeroValue3
 t4 := Tryz.underlying4
 a4 := Tryz.isAgg4
 z4 := Tryz.sizeOf4
 v4 := Tryz.zeroValue4
 t9 := Tryz.underlying9
 a9 := Tryz.isAgg9
 z9 := Tryz.sizeOf9
 v9 := Tryz.zeroValue9 }
def Tryz.lays144_ren : Go.Shelf.Ren := ⟨fun | 144 => 85 | 143 => 122 | 219 => 154 | 217 => 203 | 225 => 204 | 224 => 205 | 267 => 206 | 266 => 228 | 314 => 229 | n => n, fun | 9 => 9 | 4 => 4 | 3 => 3 | 5 => 5 | 46 => 160 | 146 => 237 | 51 => 191 | n => n, fun | 1 => 0 | n => n⟩
theorem Tryz.lays144 : Go.Proofs.Lays.n144 Tryz.prog Tryz.lays144_ren := {
 mixed := by kernel_rfl
 f143 := Tryz.func122.trans (congrArg some (by kernel_rfl))
 f144 := Tryz.func85.trans (congrArg some (by kernel_rfl))
 f217 := Tryz.func203.trans (congrArg some (by kernel_rfl))
 f219 := Tryz.func154.trans (congrArg some (by kernel_rfl))
 f224 := Tryz.func205.trans (congrArg some (by kernel_rfl))
 f225 := Tryz.func204.trans (congrArg some (by kernel_rfl))
 f266 := Tryz.func228.trans (congrArg some (by kernel_rfl))
 f267 := Tryz.func206.trans (congrArg some (by kernel_rfl))
 f314 := Tryz.func229.trans (congrArg some (by kernel_rfl))
 t3 := Tryz.underlying3
 a3 := Tryz.isAgg3
 z3 := Tryz.sizeOf3
 v3 := Tryz.zeroValue3
 t4 := Tryz.underlying4
 a4 := Tryz.isAgg4
 z4 := Tryz.sizeOf4
 v4 := Tryz.zeroValue4
 t5 := Tryz.underlying5
 a5 := Tryz.isAgg5
 z5 := Tryz.sizeOf5
 v5 := Tryz.zeroValue5
 t9 := Tryz.underlying9
 a9 := Tryz.isAgg9
 z9 := Tryz.sizeOf9
 v9 := Tryz.zeroValue9
 t46 := Tryz.underlying160
 a46 := Tryz.isAgg160
 z46 := Tryz.sizeOf160
 v46 := Tryz.zeroValue160
 t51 := Tryz.underlying191
 a51 := Tryz.isAgg191
 z51 := Tryz.sizeOf191
 v51 := Tryz.zeroValue191
 t146 := Tryz.underlying237
 a146 := Tryz.isAgg237
 z146 := Tryz.sizeOf237
 v146 := Tryz.zeroValue237
 g1 := by kernel_rfl }
def Tryz.lays154_ren : Go.Shelf.Ren := ⟨fun | 154 => 130 | 138 => 121 | 165 => 129 | 143 => 122 | 166 => 124 | 197 => 152 | 169 => 125 | 195 => 151 | 218 => 153 | 240 => 155 | 241 => 158 | 219 => 154 | 260 => 202 | 276 => 207 | 277 => 209 | 217 => 203 | 225 => 204 | 224 => 205 | 267 => 206 | 266 => 228 | 314 => 229 | n => n, fun | 9 => 9 | 3 => 3 | 4 => 4 | 72 => 150 | 0 => 0 | 76 => 153 | 105 => 177 | 21 => 21 | 5 => 5 | 70 => 148 | 20 => 20 | 37 => 90 | 75 => 152 | 127 => 180 | 164 => 214 | 46 => 160 | 119 => 233 | 139 => 236 | 138 => 235 | 146 => 237 | 51 => 191 | 80 => 155 | n => n, fun | 1 => 0 | 3 => 1 | 4 => 2 | n => n⟩
theorem Tryz.lays154 : Go.Proofs.Lays.n154 Tryz.prog Tryz.lays154_ren := {
 mixed := by kernel_rfl
 f138 := Tryz.func121.trans (congrArg some (by kernel_rfl))
 f143 := Tryz.func122.trans (congrArg some (by kernel_rfl))
 f154 := Tryz.func130.trans (congrArg some (by kernel_rfl))
 f165 := Tryz.func129.trans (congrArg some (by kernel_rfl))
 f166 := Tryz.func124.trans (congrArg some (by kernel_rfl))
 f169 := Tryz.func125.trans (congrArg some (by kernel_rfl))
 f195 := Tryz.func151.trans (congrArg some (by kernel_rfl))
 f197 := Tryz.func152.trans (congrArg some (by kernel_rfl))
 f217 := Tryz.func203.trans (congrArg some (by kernel_rfl))
 f218 := Tryz.func153.trans (congrArg some (by kernel_rfl))
 f219 := Tryz.func154.trans (congrArg some (by kernel_rfl))
 f224 := Tryz.func205.trans (congrArg some (by kernel_rfl))
 f225 := Tryz.func204.trans (congrArg some (by kernel_rfl))
 f240 := Tryz.func155.trans (congrArg some (by kernel_rfl))
 f241 := Tryz.func158.trans (congrArg some (by kernel_rfl))
 f260 := Tryz.func202.trans (congrArg some (by kernel_rfl))
 f266 := Tryz.func228.trans (congrArg some (by kernel_rfl))
 f267 := Tryz.func206.trans (congrArg some (by kernel_rfl))
 f276 := Tryz.func207.trans (congrArg some (by kernel_rfl))
 f277 := Tryz.func209.trans (congrArg some (by kernel_rfl))
 f314 := Tryz.func229.trans (congrArg some (by kernel_rfl))
 t0 := Tryz.underlying0
 a0 := Tryz.isAgg0
 z0 := Tryz.sizeOf0
 v0 := Tryz.zeroValue0
 t3 := Tryz.underlying3
 a3 := Tryz.isAgg3
 z3 := Tryz.sizeOf3
 v3 := Tryz.zeroValue3
 t4 := Tryz.underlying4
 a4 := Tryz.isAgg4
 z4 := Tryz.sizeOf4
 v4 := Tryz.zeroValue4
 t5 := Tryz.underlying5
 a5 := Tryz.isAgg5
 z5 := Tryz.sizeOf5
 v5 := Tryz.zeroValue5
 t9 := Tryz.underlying9
 a9 := Tryz.isAgg9
 z9 := Tryz.sizeOf9
 v9 := Tryz.zeroValue9
 t20 := Tryz.underlying20
 a20 := Tryz.isAgg20
 z20 := Tryz.sizeOf20
 v20 := Tryz.zeroValue20
 t21 := Tryz.underlying21
 a21 := Tryz.isAgg21
 z21 := Tryz.sizeOf21
 v21 := Tryz.zeroValue21
 t37 := Tryz.underlying90
 a37 := Tryz.isAgg90
 z37 := Tryz.sizeOf90
 v37 := Tryz.zeroValue90
 t46 := Tryz.underlying160
 a46 := Tryz.isAgg160
 z46 := Tryz.sizeOf160
 v46 := Tryz.zeroValue160
 t51 := Tryz.underlying191
 a51 := Tryz.isAgg191
 z51 := Tryz.sizeOf191
 v51 := Tryz.zeroValue191
 t70 := Tryz.underlying148
 a70 := Tryz.isAgg148
 z70 := Tryz.sizeOf148
 v70 := Tryz.zeroValue148
 t72 := Tryz.underlying150
 a72 := Tryz.isAgg150
 z72 := Tryz.sizeOf150
 v72 := Tryz.zeroValue150
 t75 := Tryz.underlying152
 a75 := Tryz.isAgg152
 z75 := Tryz.sizeOf152
 v75 := Tryz.zeroValue152
 t76 := Tryz.underlying153
 a76 := Tryz.isAgg153
 z76 := Tryz.sizeOf153
 v76 := Tryz.zeroValue153
 t105 := Tryz.underlying177
 a105 := Tryz.isAgg177
 z105 := Tryz.sizeOf177
 v105 := Tryz.zeroValue177
 t119 := Tryz.underlying233
 a119 := Tryz.isAgg233
 z119 := Tryz.sizeOf233
 t127 := Tryz.underlying180
 a127 := Tryz.isAgg180
 z127 := Tryz.sizeOf180
 v127 := Tryz.zeroValue180
 t138 := Tryz.underlying235
 a138 := Tryz.isAgg235
 z138 := Tryz.sizeOf235
 v138 := Tryz.zeroValue235
 t139 := Tryz.underlying236
 a139 := Tryz.isAgg236
 z139 := Tryz.sizeOf236
 v139 := Tryz.zeroValue236
 t146 := Tryz.underlying237
 a146 := Tryz.isAgg237
 z146 := Tryz.sizeOf237
 v146 := Tryz.zeroValue237
 t164 := Tryz.underlying214
 a164 := Tryz.isAgg214
 z164 := Tryz.sizeOf214
 v164 := Tryz.zeroValue214
 g1 := by kernel_rfl
 g3 := by kernel_rfl
 g4 := by kernel_rfl }
def Tryz.lays110_ren : Go.Shelf.Ren := ⟨fun | 110 => 92 | 109 => 64 | n => n, fun | 31 => 22 | 9 => 9 | 4 => 4 | 3 => 3 | 0 => 0 | n => n, fun | n => n⟩
theorem Tryz.lays110 : Go.Proofs.Lays.n110 Tryz.prog Tryz.lays110_ren := {
 mixed := by kernel_rfl
 f109 := Tryz.func64.trans (congrArg some (by kernel_rfl))
 f110 := Tryz.func92.trans (congrArg some (by kernel_rfl))
 t0 := Tryz.underlying0
 a0 := Tryz.isAgg0
 z0 := Tryz.sizeOf0
 v0 := Tryz.zeroValue0
 t3 := Tryz.underlying3
 a3 := Tryz.isAgg3
 z3 := Tryz.sizeOf3
 v3 := Tryz.zeroValue3
 t4 := Tryz.underlying4
 a4 := Tryz.isAgg4
 z4 := Tryz.sizeOf4
 v4 := Tryz.zeroValue4
 t9 := Tryz.underlying9
 a9 := Tryz.isAgg9
 z9 := Tryz.sizeOf9
 v9 := Tryz.zeroValue9
 t31 := Tryz.underlying22
 a31 := Tryz.isAgg22
 z31 := Tryz.sizeOf22
 v31 := Tryz.zeroValue22 }
def Tryz.lays194_ren : Go.Shelf.Ren := ⟨fun | 194 => 94 | n => n, fun | 31 => 22 | 9 => 9 | 3 => 3 | 4 => 4 | 0 => 0 | n => n, fun | n => n⟩
theorem Tryz.lays194 : Go.Proofs.Lays.n194 Tryz.prog Tryz.lays194_ren := {
 mixed := by kernel_rfl
 f194 := Tryz.func94.trans (congrArg some (by kernel_rfl))
 t0 := Tryz.underlying0
 a0 := Tryz.isAgg0
 z0 := Tryz.sizeOf0
 v0 := Tryz.zeroValue0
 t3 := Tryz.underlying3
 a3 := Tryz.isAgg3
 z3 := Tryz.sizeOf3
 v3 := Tryz.zeroValue3
 t4 := Tryz.underlying4
 a4 := Tryz.isAgg4
 z4 := Tryz.sizeOf4
 v4 := Tryz.zeroValue4
 t9 := Tryz.underlying9
 a9 := Tryz.isAgg9
 z9 := Tryz.sizeOf9
 v9 := Tryz.zeroValue9
 t31 := Tryz.underlying22
 a31 := Tryz.isAgg22
 z31 := Tryz.sizeOf22
 v31 := Tryz.zeroValue22 }
end Go.Proofs

namespace Go.Proofs.YtdpgdnpddndeoaaGreatDoor.X
open Go.RowKit Go.Maps Go.Proofs.YtdpgdnpddndeoaaGreatDoorW.PrintWords Go.Proofs.YtdpgdnpddndeoaaGreatDoorW.PrintMore Go.Proofs.YtdpgdnpddndeoaaGreatDoorW.PrintLast
theorem zkX (s : ByteArray) (w : World) (hs : s.size <= 9223372036854775807) :
 Calls Tryz.prog 58 #[.string s, .string ⟨#[10]⟩] w fun e w' => e = .returned (.string (mk (zbt s.data.toList))) /\ w = w' := by
 have hcall := Go.Proofs.Any.strings_TrimSuffix Go.Proofs.Tryz.lays102 s (mk [10]) w hs; change Calls Tryz.prog 58 _ _ _ at hcall
 rw [za2, zk5] at hcall; exact hcall.mono fun e w' ⟨he, hw⟩ => ⟨he, hw.symm⟩
def zbe (s : ByteArray) : List ByteArray := (zbr s.data.toList).map mk
theorem zkN (b : zab) : (zbt b).length <= b.length := by
 unfold zbt; split
 . rw [List.length_dropLast]; omega
 . exact znp _
theorem zet (s : ByteArray) (w : World) (hG : GOK w) (hs : s.size < 4294967281) :
 Calls Tryz.prog 23 #[.string s] w fun e w' => ∃ v, e = .returned v /\ RS w' w.heap.size v (zbe s) /\ Below w.heap.size w w' := by
 by_cases h : s.toList = []
 . have hl : zbe s = [] := by unfold zbe zbr; rw [<- zbA, if_pos h]; rfl
   rw [hl]; clear hl hs hG; go_enter Tryz.func23, Tryz.ntmps23
   go_wp2_with fail; go_ret
   exact ⟨.slice none 0 0, rfl, Kd.R_nil _ _ _ _ _, zno _ _⟩
 . have d1 : (s.toList == []) = false := by simp [h]
   have hl : zbe s = (zaX 10 (zbt s.data.toList)).map mk := by unfold zbe zbr; rw [<- zbA, if_neg h]
   have hz : (mk (zbt s.data.toList)).size < 4294967281 := by rw [za6]; have := zkN s.data.toList; rw [<- znY] at this; omega
   have hT := zkX s w (by omega)
   have hS := strings_Split.calls (mk (zbt s.data.toList)) ⟨#[10]⟩ (zbe s) w hG (by rw [strings_Split.one _ 10 hz, za2, hl])
   have HT := znl hT; have HS := znl hS; clear hl hz hs hG hT hS; generalize mk (zbt s.data.toList) = t at HT HS; go_enter Tryz.func23, Tryz.ntmps23
   go_wp2_with (first | (go_at_call 58; refine HT.out.mono ?_; rintro e w' ⟨rfl, rfl⟩) | (go_at_call 57; refine HS.out.mono ?_; rintro e w2 ⟨v, rfl, hR, hb⟩; have HR := znl hR; have HB := znl hb; clear hR hb))
   go_ret
   exact ⟨v, rfl, HR.out, HB.out⟩

theorem zlm (l : List zab) (k : Nat) (h : k < l.length) : za3 (l.take (k + 1)) = za3 (l.take k) ++ (l[k] ++ [10]) := by
 unfold za3; rw [List.take_succ_eq_append_getElem h, List.map_append, List.flatten_append]; simp
theorem zkU (l : List zab) (k : Nat) : (za3 (l.take k)).length <= (za3 l).length := by
 have : za3 l = za3 (l.take k) ++ za3 (l.drop k) := by
  unfold za3; rw [<- List.flatten_append, <- List.map_append, List.take_append_drop]
 rw [this, znC]; omega
theorem zhs (A0 : Option Addr) (c0 : Nat) (l0 : List ByteArray) (w : World) (hr0 : Kd.C Kd.string w A0 l0.length l0) (hs : (za3 (zac l0)).length <= 140737488355328) :
 Calls Tryz.prog 79 #[.slice A0 l0.length c0] w fun e w' => e = .returned (.string (mk (za3 (zac l0)))) /\ Below w.heap.size w w' := by
 have hlen : l0.length <= 9223372036854775807 := hr0.2.1; obtain ⟨r, hr⟩ : ∃ r, r = mk (za3 (zac l0)) := ⟨_, rfl⟩; rw [<- hr]; have HR := znl hr; have HS : Hid ((za3 (zac l0)).length <= 140737488355328) := hs; have HC : Hid (l0 = [] \/ ∃ b o, A0 = some ⟨b, o, none⟩ /\ b < w.heap.size /\ ∀ j, j < l0.length -> w.cell? ⟨b, o + j, none⟩ = some (.string (l0.getD j ByteArray.empty))) := za5 hr0; clear hs hr hr0; go_enter Tryz.func79, Tryz.ntmps79
 go_wp2_with fail; go_loopg [5, 8] l0.length (fun gg _ s8 wr => ∃ kk : Nat, kk <= l0.length /\ l0.length - kk <= gg /\ s8 = .int .i64 kk /\ Aside0 (Lib.IsBuilder 150 5 w.heap.size w.heap.size (Lib.byteCells (za3 ((zac l0).take kk))) wr) /\ Aside0 (Below w.heap.size w wr))
 case atStart =>
  refine ⟨0, Nat.zero_le _, by omega, rfl, ⟨.inl ⟨znp _, .slice none 0 0, heap_alloc_new w _, zcM _ _ _ _, by simp [Value.ownBlock]⟩⟩, ⟨(zno _ _).alloc (znp _) _⟩⟩
 case round =>
  obtain ⟨kk, hkk, hgk, rfl, HB, HW⟩ := hrel; by_cases hlt : kk < l0.length
  . have hltz : (kk : Int) < (l0.length : Int) := by omega
    obtain ⟨y, hy⟩ : ∃ y, y = l0.getD kk ByteArray.empty := ⟨_, rfl⟩; rcases HC.out with h0 | ⟨b, o, rfl, hb, hcell⟩
    . exfalso; rw [h0] at hlt; simp at hlt
    have hx : wr.cell? ⟨b, o + kk, none⟩ = some (.string y) := by rw [hy]; exact zaf HW.out (hcell kk hlt)
    have hk : kk < (zac l0).length := by rw [zaZ]; exact hlt
    have hyk : (zac l0)[kk] = y.data.toList := by rw [zcD l0 kk hlt, hy]; simp [znt, zns hlt]
    have hput : za3 ((zac l0).take (kk + 1)) = za3 ((zac l0).take kk) ++ (y.data.toList ++ [10]) := by rw [zlm _ kk hk, hyk]
    have hle : (za3 ((zac l0).take kk)).length + (y.data.toList ++ [10]).length <= 140737488355328 := by
     have := zkU (zac l0) (kk + 1); rw [hput, znC] at this; exact znv this HS.out
    have hsz : y.size <= 140737488355328 := by
     have e := znY y; simp only [znC] at hle; omega
    clear hcell hb; have HP := znl hput; have HL : Hid ((za3 ((zac l0).take kk)).length + (y.data.toList ++ [10]).length <= 140737488355328) := hle; clear hy hput hle hyk hk; go_wp2_with fail; refine (zfW w.heap.size w.heap.size _ _ _ HB.out ?_ HW.out.size).mono ?_
    . have h1 := HL.out
      have e4 := znY y; simp only [znC, znD] at h1; simp only [ByteArray.size_append]; show _ + (y.size + 1) <= _
      omega
    rintro e w2 ⟨rfl, hB2, hb2⟩; go_wp2; go_roundg (l0.length - (kk + 1))
    case measure => omega
    case rel =>
     refine ⟨kk + 1, by omega, by omega, by go_num, ⟨?_⟩, ⟨HW.out.trans hb2⟩⟩
     rw [HP.out]; have e5 : (y ++ (⟨#[10]⟩ : ByteArray)).data.toList = y.data.toList ++ [10] := by rw [data_append]
     rw [<- e5]; exact hB2
  . have hltz : ¬ (kk : Int) < (l0.length : Int) := by omega
    obtain rfl : kk = l0.length := by omega
    have hB := HB.out; rw [zox (by rw [zaZ]; exact znp _)] at hB
    clear HB; go_wp2_with (go_at_call 125; refine (zgb w.heap.size w.heap.size _ _ hB HW.out.size).mono ?_; rintro e w2 ⟨rfl, hb2⟩)
    go_ret
    exact ⟨by rw [HR.out]; rfl, HW.out.trans hb2⟩

theorem zj7 (n : Int) (w : World) :
 Calls Tryz.prog 54 #[.int .i64 n] w fun e w' => e = .returned (.tuple #[.int .i64 ((zbl n).1 : Nat), .int .i64 ((zbl n).2.1 : Nat), .int .i64 ((zbl n).2.2 : Nat)]) /\ w = w' := by
 have hc : zbl n = if n = 5 then (0, 6, 0) else if n = 6 then (0, 0, 1) else if n = 7 then (1, 1, 1) else if n = 8 then (1, 1, 2) else (1, 1, 0) := rfl
 generalize zbl n = c at hc |-; by_cases h5 : n = 5
 . rw [if_pos h5] at hc
   subst hc; have d5 : (n == 5) = true := by simp [h5]
   clear h5; go_enter Tryz.func54, Tryz.ntmps54
   go_wp2_with fail; go_ret3
   exact ⟨rfl, rfl⟩
 have d5 : (n == 5) = false := by simp [h5]
 rw [if_neg h5] at hc; by_cases h6 : n = 6
 . rw [if_pos h6] at hc
   subst hc; have d6 : (n == 6) = true := by simp [h6]
   clear h5 h6; go_enter Tryz.func54, Tryz.ntmps54
   go_wp2_with fail; go_ret3
   exact ⟨rfl, rfl⟩
 have d6 : (n == 6) = false := by simp [h6]
 rw [if_neg h6] at hc; by_cases h7 : n = 7
 . rw [if_pos h7] at hc
   subst hc; have d7 : (n == 7) = true := by simp [h7]
   clear h5 h6 h7; go_enter Tryz.func54, Tryz.ntmps54
   go_wp2_with fail; go_ret3
   exact ⟨rfl, rfl⟩
 have d7 : (n == 7) = false := by simp [h7]
 rw [if_neg h7] at hc; by_cases h8 : n = 8
 . rw [if_pos h8] at hc
   subst hc; have d8 : (n == 8) = true := by simp [h8]
   clear h5 h6 h7 h8; go_enter Tryz.func54, Tryz.ntmps54
   go_wp2_with fail; go_ret3
   exact ⟨rfl, rfl⟩
 have d8 : (n == 8) = false := by simp [h8]
 rw [if_neg h8] at hc; subst hc; clear h5 h6 h7 h8; go_enter Tryz.func54, Tryz.ntmps54
 go_wp2_with fail; go_ret3
 exact ⟨rfl, rfl⟩
theorem zk6 : ∀ args w, (callFunc 55 args).run Tryz.prog w = .ok (.enter 55 args) w := Go.Proofs.enters_of Tryz.func55 (by kernel_rfl) rfl
theorem zmC (w : World) : zdK 55 #[] (fun b => decide (100 < b.size)) w := by
 intro W x _; show Calls Tryz.prog 55 #[.string x] W fun e w2 => e = .returned (.bool (decide (100 < x.size))) /\ Below W.heap.size W w2
 by_cases hx : 100 < x.size
 . have hd : decide ((100 : Int) < (x.size : Int)) = true := by simp; omega
   have hF : decide (100 < x.size) = true := by simp [hx]
   rw [hF]; have hz : (100 : Int) < (x.size : Int) := by omega
   clear hF hx; go_enter Tryz.func55, Tryz.ntmps55
   go_wp2_with fail; go_ret
   exact ⟨rfl, zno _ _⟩
 . have hd : decide ((100 : Int) < (x.size : Int)) = false := by simp; omega
   have hF : decide (100 < x.size) = false := by simp [hx]
   rw [hF]; have hz : ¬ (100 : Int) < (x.size : Int) := by omega
   clear hF hx; go_enter Tryz.func55, Tryz.ntmps55
   go_wp2_with fail; go_ret
   exact ⟨rfl, zno _ _⟩
theorem zmI (l : List ByteArray) : ((l.map (·.data.toList)).any fun b => decide (100 < b.length)) = l.any fun b => decide (100 < b.size) := by
 rw [List.any_map]; congr 1
--MAY
theorem zfK (x : zay) (B2 : Option Addr) (c2 : Nat) (B3 : Option Addr) (c3 : Nat) (w : World) (h2 : Kd.C Kd.string w B2 x.f2.length x.f2) (h3 : Kd.C Kd.string w B3 x.f3.length x.f3) :
 Calls Tryz.prog 20 #[.agg #[.string x.f0, .int .i64 x.f1, .slice B2 x.f2.length c2, .slice B3 x.f3.length c3, .int .i64 x.f4]] w fun e w' => e = .returned (.bool (mayC (zal x))) /\ Below w.heap.size w w' := by
 have hl2 : x.f2.length <= 9223372036854775807 := h2.2.1; have hl3 : x.f3.length <= 9223372036854775807 := h3.2.1; have hab := (zno w.heap.size w).alloc (znp _) (.cells #[.string x.f0, .int .i64 x.f1, .slice B2 x.f2.length c2, .slice B3 x.f3.length c3, .int .i64 x.f4] 24); have HK := znl (zao w (.cells #[.string x.f0, .int .i64 x.f1, .slice B2 x.f2.length c2, .slice B3 x.f3.length c3, .int .i64 x.f4] 24)); have H3 := znl (Kd.C_below h3 hab); have HB1 := znl hab; obtain ⟨T, hT⟩ : ∃ T, T = mayC (zal x) := ⟨_, rfl⟩; rw [<- hT]; have hT2 : T = (!(decide (x.f1 < 1) || decide (9 < x.f1) || decide (x.f2.length < (zbl x.f1).1) || decide ((zbl x.f1).2.1 < x.f2.length) || decide (x.f3.length ≠ (zbl x.f1).2.2) || x.f3.any (fun b => decide (100 < b.size))) &&
  !((x.f1 == 8 && (x.f3.map (·.data.toList)).getD 0 [] == []) || decide (x.f4 < 0) || decide (2000 < x.f4) || (x.f1 != 9 && x.f4 != 0))) := by
  rw [hT, <- zmI]; unfold mayC zal; dsimp only; rw [zn0]
 have h8 : x.f1 = 8 -> (zbl x.f1).2.2 = 2 := by intro h; rw [h]; rfl
 have hC : ∀ W, Calls Tryz.prog 54 #[.int .i64 x.f1] W fun e w' => e = .returned (.tuple #[.int .i64 ((zbl x.f1).1 : Nat), .int .i64 ((zbl x.f1).2.1 : Nat), .int .i64 ((zbl x.f1).2.2 : Nat)]) /\ W = w' := fun W => zj7 x.f1 W
 obtain ⟨f0, f1, f2, f3, f4⟩ := x; dsimp only at *; generalize (zbl f1).1 = a at hC hT2; generalize (zbl f1).2.1 = m at hC hT2; generalize (zbl f1).2.2 = k at hC hT2 h8; have HC := znl hC; have HT := znl hT2; have H8 := znl h8; clear h2 h3 hab hT hT2 h8 hC; go_enter Tryz.func20, Tryz.ntmps20
 go_upto_block 0 with (first | (go_at_call 54; refine (HC.out _).mono ?_; rintro e w' ⟨rfl, rfl⟩))
 generalize w.alloc (.cells #[.string f0, .int .i64 f1, .slice B2 f2.length c2, .slice B3 f3.length c3, .int .i64 f4] 24) = w1 at H3 HB1 HK |-; have k1 : w1.cell? ⟨w.heap.size, 1, none⟩ = some (.int .i64 f1) := (zaa HK.out 1).trans rfl; have k2 : w1.cell? ⟨w.heap.size, 2, none⟩ = some (.slice B2 f2.length c2) := (zaa HK.out 2).trans rfl; have k3 : w1.cell? ⟨w.heap.size, 3, none⟩ = some (.slice B3 f3.length c3) := (zaa HK.out 3).trans rfl; have k4 : w1.cell? ⟨w.heap.size, 4, none⟩ = some (.int .i64 f4) := (zaa HK.out 4).trans rfl; have hL := zdu 55 #[] zk6 (fun b => decide (100 < b.size)) B3 c3 f3 w1 H3.out (zmC w1)
 obtain ⟨lg, hlg⟩ : ∃ lg, lg = f3.any (fun b => decide (100 < b.size)) := ⟨_, rfl⟩
 have hT3 := HT.out; rw [<- hlg] at hL hT3; have HL := znl hL; have HU := znl hT3; clear hlg hL hT3 HT HC; by_cases q1 : f1 < (1 : Int)
 . have d1 : decide (f1 < 1) = true := by simp [q1]
   have HF : Hid (T = false) := by show _ = _; first | (exfalso; omega) | (rw [HU.out]; simp [q1])
   clear HU H8; go_wp2_with (first | (go_at_call 56; refine HL.out.mono ?_; rintro e w2 ⟨rfl, hb2⟩; have k1' := zaf hb2 k1; have k3' := zaf hb2 k3; have k4' := zaf hb2 k4))
   go_ret
   exact ⟨by rw [HF.out]; rfl, by first | exact HB1.out | exact zad HB1.out HB1.out.size hb2⟩
 . have d1 : decide (f1 < 1) = false := by simp [q1]
   by_cases q2 : (9 : Int) < f1
   . have d2 : decide (9 < f1) = true := by simp [q2]
     have HF : Hid (T = false) := by show _ = _; first | (exfalso; omega) | (rw [HU.out]; simp [q1, q2])
     clear HU H8; go_wp2_with (first | (go_at_call 56; refine HL.out.mono ?_; rintro e w2 ⟨rfl, hb2⟩; have k1' := zaf hb2 k1; have k3' := zaf hb2 k3; have k4' := zaf hb2 k4))
     go_ret
     exact ⟨by rw [HF.out]; rfl, by first | exact HB1.out | exact zad HB1.out HB1.out.size hb2⟩
   . have d2 : decide (9 < f1) = false := by simp [q2]
     by_cases q3 : f2.length < a
     . have d3 : decide (f2.length < a) = true := by simp [q3]
       have HF : Hid (T = false) := by show _ = _; first | (exfalso; omega) | (rw [HU.out]; simp [q1, q2, q3])
       clear HU H8; go_wp2_with (first | (go_at_call 56; refine HL.out.mono ?_; rintro e w2 ⟨rfl, hb2⟩; have k1' := zaf hb2 k1; have k3' := zaf hb2 k3; have k4' := zaf hb2 k4))
       go_ret
       exact ⟨by rw [HF.out]; rfl, by first | exact HB1.out | exact zad HB1.out HB1.out.size hb2⟩
     . have d3 : decide (f2.length < a) = false := by simp [q3]
       by_cases q4 : m < f2.length
       . have d4 : decide (m < f2.length) = true := by simp [q4]
         have HF : Hid (T = false) := by show _ = _; first | (exfalso; omega) | (rw [HU.out]; simp [q1, q2, q3, q4])
         clear HU H8; go_wp2_with (first | (go_at_call 56; refine HL.out.mono ?_; rintro e w2 ⟨rfl, hb2⟩; have k1' := zaf hb2 k1; have k3' := zaf hb2 k3; have k4' := zaf hb2 k4))
         go_ret
         exact ⟨by rw [HF.out]; rfl, by first | exact HB1.out | exact zad HB1.out HB1.out.size hb2⟩
       . have d4 : decide (m < f2.length) = false := by simp [q4]
         by_cases q5 : f3.length = k
         . have d5 : ((f3.length : Int) != (k : Int)) = false := by simp [q5]
           have d5' : ((f3.length : Int) == (k : Int)) = true := by simp [q5]
           by_cases q6 : lg = true
           . subst q6
             have HF : Hid (T = false) := by show _ = _; first | (exfalso; omega) | (rw [HU.out]; simp [q1, q2, q3, q4, q5])
             clear HU H8 q5; go_wp2_with (first | (go_at_call 56; refine HL.out.mono ?_; rintro e w2 ⟨rfl, hb2⟩; have k1' := zaf hb2 k1; have k3' := zaf hb2 k3; have k4' := zaf hb2 k4))
             go_ret
             exact ⟨by rw [HF.out]; rfl, by first | exact HB1.out | exact zad HB1.out HB1.out.size hb2⟩
           . have q6 : lg = false := by simpa using q6
             subst q6; by_cases q7 : f1 = 8
             . have d8 : (f1 == 8) = true := by simp [q7]
               have hk2 := H8.out q7; have hlen0 : (0 : Int) < (f3.length : Int) := by omega
               rcases za5 H3.out with h0 | ⟨b, o, rfl, _, hcell⟩
               . exfalso; rw [h0] at hlen0; simp at hlen0
               have p0 := hcell 0 (by omega)
               rw [zov] at p0; have hsp : (f3.map (·.data.toList)).getD 0 [] = (f3.getD 0 ByteArray.empty).data.toList := by cases f3 <;> rfl
               have hU := HU.out; rw [hsp] at hU; generalize f3.getD 0 ByteArray.empty = y at p0 hU; clear HU; have HU := znl hU; clear hcell hsp hU hk2; by_cases q8 : y.data.toList = []
               . have dy : y.toList = [] := by rw [zbA]; exact q8
                 have dz : (y.toList == []) = true := by simp [dy]
                 have hz : (y.data.toList == []) = true := by simp [q8]
                 have hU := HU.out; rw [hz] at hU; clear HU; have HU := znl hU; clear hU hz; have HF : Hid (T = false) := by show _ = _; first | (exfalso; omega) | (rw [HU.out]; simp [q1, q2, q3, q4, q5, q7])
                 clear HU H8 q5 q7 q8; go_wp2_with (first | (go_at_call 56; refine HL.out.mono ?_; rintro e w2 ⟨rfl, hb2⟩; have k1' := zaf hb2 k1; have k3' := zaf hb2 k3; have k4' := zaf hb2 k4; have p0' := zaf hb2 p0))
                 go_ret
                 exact ⟨by rw [HF.out]; rfl, by first | exact HB1.out | exact zad HB1.out HB1.out.size hb2⟩
               . have dy : ¬ y.toList = [] := by rw [zbA]; exact q8
                 have dz : (y.toList == []) = false := by simp [dy]
                 have hz : (y.data.toList == []) = false := by rw [<- zbA]; exact dz
                 have hU := HU.out; rw [hz] at hU; clear HU; have HU := znl hU; clear hU hz; by_cases q9 : f4 < (0 : Int)
                 . have d90 : decide (f4 < 0) = true := by simp [q9]
                   have HF : Hid (T = false) := by show _ = _; first | (exfalso; omega) | (rw [HU.out]; simp [q1, q2, q3, q4, q5, q7, q9])
                   clear HU H8 q5 q7 q8; go_wp2_with (first | (go_at_call 56; refine HL.out.mono ?_; rintro e w2 ⟨rfl, hb2⟩; have k1' := zaf hb2 k1; have k3' := zaf hb2 k3; have k4' := zaf hb2 k4; have p0' := zaf hb2 p0))
                   go_ret
                   exact ⟨by rw [HF.out]; rfl, by first | exact HB1.out | exact zad HB1.out HB1.out.size hb2⟩
                 . have d90 : decide (f4 < 0) = false := by simp [q9]
                   by_cases qa : (2000 : Int) < f4
                   . have d20 : decide (2000 < f4) = true := by simp [qa]
                     have HF : Hid (T = false) := by show _ = _; first | (exfalso; omega) | (rw [HU.out]; simp [q1, q2, q3, q4, q5, q7, q9, qa])
                     clear HU H8 q5 q7 q8; go_wp2_with (first | (go_at_call 56; refine HL.out.mono ?_; rintro e w2 ⟨rfl, hb2⟩; have k1' := zaf hb2 k1; have k3' := zaf hb2 k3; have k4' := zaf hb2 k4; have p0' := zaf hb2 p0))
                     go_ret
                     exact ⟨by rw [HF.out]; rfl, by first | exact HB1.out | exact zad HB1.out HB1.out.size hb2⟩
                   . have d20 : decide (2000 < f4) = false := by simp [qa]
                     by_cases qb : f1 = 9
                     . have d9 : (f1 == 9) = true := by simp [qb]
                       have e9 : (f1 != 9) = false := by simp [qb]
                       have HF : Hid (T = true) := by show _ = _; first | (exfalso; omega) | (rw [HU.out]; simp [q1, q2, q3, q4, q5, q7, q9, qa, qb])
                       clear HU H8 q5 q7 q8 qb; go_wp2_with (first | (go_at_call 56; refine HL.out.mono ?_; rintro e w2 ⟨rfl, hb2⟩; have k1' := zaf hb2 k1; have k3' := zaf hb2 k3; have k4' := zaf hb2 k4; have p0' := zaf hb2 p0))
                       go_ret
                       exact ⟨by rw [HF.out]; rfl, by first | exact HB1.out | exact zad HB1.out HB1.out.size hb2⟩
                     . have d9 : (f1 == 9) = false := by simp [qb]
                       have e9 : (f1 != 9) = true := by simp [qb]
                       by_cases qc : f4 = 0
                       . have d0 : (f4 == 0) = true := by simp [qc]
                         have e0 : (f4 != 0) = false := by simp [qc]
                         have HF : Hid (T = true) := by show _ = _; first | (exfalso; omega) | (rw [HU.out]; simp [q1, q2, q3, q4, q5, q7, q9, qa, qb, qc])
                         clear HU H8 q5 q7 q8 qb qc; go_wp2_with (first | (go_at_call 56; refine HL.out.mono ?_; rintro e w2 ⟨rfl, hb2⟩; have k1' := zaf hb2 k1; have k3' := zaf hb2 k3; have k4' := zaf hb2 k4; have p0' := zaf hb2 p0))
                         go_ret
                         exact ⟨by rw [HF.out]; rfl, by first | exact HB1.out | exact zad HB1.out HB1.out.size hb2⟩
                       . have d0 : (f4 == 0) = false := by simp [qc]
                         have e0 : (f4 != 0) = true := by simp [qc]
                         have HF : Hid (T = false) := by show _ = _; first | (exfalso; omega) | (rw [HU.out]; simp [q1, q2, q3, q4, q5, q7, q9, qa, qb, qc])
                         clear HU H8 q5 q7 q8 qb qc; go_wp2_with (first | (go_at_call 56; refine HL.out.mono ?_; rintro e w2 ⟨rfl, hb2⟩; have k1' := zaf hb2 k1; have k3' := zaf hb2 k3; have k4' := zaf hb2 k4; have p0' := zaf hb2 p0))
                         go_ret
                         exact ⟨by rw [HF.out]; rfl, by first | exact HB1.out | exact zad HB1.out HB1.out.size hb2⟩
             . have d8 : (f1 == 8) = false := by simp [q7]
               by_cases q9 : f4 < (0 : Int)
               . have d90 : decide (f4 < 0) = true := by simp [q9]
                 have HF : Hid (T = false) := by show _ = _; first | (exfalso; omega) | (rw [HU.out]; simp [q1, q2, q3, q4, q5, q7, q9])
                 clear HU H8 q5 q7; go_wp2_with (first | (go_at_call 56; refine HL.out.mono ?_; rintro e w2 ⟨rfl, hb2⟩; have k1' := zaf hb2 k1; have k3' := zaf hb2 k3; have k4' := zaf hb2 k4))
                 go_ret
                 exact ⟨by rw [HF.out]; rfl, by first | exact HB1.out | exact zad HB1.out HB1.out.size hb2⟩
               . have d90 : decide (f4 < 0) = false := by simp [q9]
                 by_cases qa : (2000 : Int) < f4
                 . have d20 : decide (2000 < f4) = true := by simp [qa]
                   have HF : Hid (T = false) := by show _ = _; first | (exfalso; omega) | (rw [HU.out]; simp [q1, q2, q3, q4, q5, q7, q9, qa])
                   clear HU H8 q5 q7; go_wp2_with (first | (go_at_call 56; refine HL.out.mono ?_; rintro e w2 ⟨rfl, hb2⟩; have k1' := zaf hb2 k1; have k3' := zaf hb2 k3; have k4' := zaf hb2 k4))
                   go_ret
                   exact ⟨by rw [HF.out]; rfl, by first | exact HB1.out | exact zad HB1.out HB1.out.size hb2⟩
                 . have d20 : decide (2000 < f4) = false := by simp [qa]
                   by_cases qb : f1 = 9
                   . have d9 : (f1 == 9) = true := by simp [qb]
                     have e9 : (f1 != 9) = false := by simp [qb]
                     have HF : Hid (T = true) := by show _ = _; first | (exfalso; omega) | (rw [HU.out]; simp [q1, q2, q3, q4, q5, q7, q9, qa, qb])
                     clear HU H8 q5 q7 qb; go_wp2_with (first | (go_at_call 56; refine HL.out.mono ?_; rintro e w2 ⟨rfl, hb2⟩; have k1' := zaf hb2 k1; have k3' := zaf hb2 k3; have k4' := zaf hb2 k4))
                     go_ret
                     exact ⟨by rw [HF.out]; rfl, by first | exact HB1.out | exact zad HB1.out HB1.out.size hb2⟩
                   . have d9 : (f1 == 9) = false := by simp [qb]
                     have e9 : (f1 != 9) = true := by simp [qb]
                     by_cases qc : f4 = 0
                     . have d0 : (f4 == 0) = true := by simp [qc]
                       have e0 : (f4 != 0) = false := by simp [qc]
                       have HF : Hid (T = true) := by show _ = _; first | (exfalso; omega) | (rw [HU.out]; simp [q1, q2, q3, q4, q5, q7, q9, qa, qb, qc])
                       clear HU H8 q5 q7 qb qc; go_wp2_with (first | (go_at_call 56; refine HL.out.mono ?_; rintro e w2 ⟨rfl, hb2⟩; have k1' := zaf hb2 k1; have k3' := zaf hb2 k3; have k4' := zaf hb2 k4))
                       go_ret
                       exact ⟨by rw [HF.out]; rfl, by first | exact HB1.out | exact zad HB1.out HB1.out.size hb2⟩
                     . have d0 : (f4 == 0) = false := by simp [qc]
                       have e0 : (f4 != 0) = true := by simp [qc]
                       have HF : Hid (T = false) := by show _ = _; first | (exfalso; omega) | (rw [HU.out]; simp [q1, q2, q3, q4, q5, q7, q9, qa, qb, qc])
                       clear HU H8 q5 q7 qb qc; go_wp2_with (first | (go_at_call 56; refine HL.out.mono ?_; rintro e w2 ⟨rfl, hb2⟩; have k1' := zaf hb2 k1; have k3' := zaf hb2 k3; have k4' := zaf hb2 k4))
                       go_ret
                       exact ⟨by rw [HF.out]; rfl, by first | exact HB1.out | exact zad HB1.out HB1.out.size hb2⟩
         . have d5 : ((f3.length : Int) != (k : Int)) = true := by simp; omega
           have d5' : ((f3.length : Int) == (k : Int)) = false := by simp; omega
           have HF : Hid (T = false) := by show _ = _; first | (exfalso; omega) | (rw [HU.out]; simp [q1, q2, q3, q4, q5])
           clear HU H8 q5; go_wp2_with (first | (go_at_call 56; refine HL.out.mono ?_; rintro e w2 ⟨rfl, hb2⟩; have k1' := zaf hb2 k1; have k3' := zaf hb2 k3; have k4' := zaf hb2 k4))
           go_ret
           exact ⟨by rw [HF.out]; rfl, by first | exact HB1.out | exact zad HB1.out HB1.out.size hb2⟩

end Go.Proofs.YtdpgdnpddndeoaaGreatDoor.X

namespace Go.Proofs.YtdpgdnpddndeoaaGreatDoor.X
open Go.RowKit Go.Maps Go.Sort Go.Proofs.YtdpgdnpddndeoaaGreatDoorW.PrintWords Go.Proofs.YtdpgdnpddndeoaaGreatDoorW.PrintMore Go.Proofs.YtdpgdnpddndeoaaGreatDoorW.PrintLast
theorem zkM (A : Option Addr) (n c : Nat) (W : World) :
 Calls Tryz.prog 81 #[.slice A n c] W fun e W' => e = .returned (.func (.func 127) #[] #[.pointer (some ⟨W.heap.size, 0, none⟩)]) /\ W' = W.alloc (.cells #[.slice A n c] 22) := by
 go_enter Tryz.func81, Tryz.ntmps81
 go_wp2; go_ret
 exact ⟨rfl, rfl⟩
theorem zmF (A : Option Addr) (c : Nat) (l : List ByteArray) (w : World) (hr : Kd.C Kd.string w A l.length l) (hbytes : l.length * 16 <= 140737488355328) :
 Calls Tryz.prog 80 #[.func (.func 127) #[] #[.pointer (some ⟨w.heap.size, 0, none⟩)]] (w.alloc (.cells #[.slice A l.length c] 22)) fun e W' => ∃ v, e = .returned v /\ RS W' w.heap.size v (zae l) /\ Below w.heap.size w W' := by
 have hS0 : StrsAt w.heap.size w (.slice A l.length c) l := by
  rcases za5 hr with h0 | ⟨b, o, rfl, hb, hcell⟩
  . subst h0
    exact .inl ⟨⟨A, c, rfl⟩, rfl⟩
  . refine .inr ⟨b, o, c, rfl, hb, fun j hj => ?_⟩
    have := hcell j hj; rwa [znt] at this
 have hS := hS0.below ((zno w.heap.size w).alloc (znp _) (.cells #[.slice A l.length c] 22)); have hS1 : StrsAt (w.alloc (.cells #[.slice A l.length c] 22)).heap.size (w.alloc (.cells #[.slice A l.length c] 22)) (.slice A l.length c) l := by
  rcases hS with h | ⟨b, o, cc, h1, hb, h2⟩
  . exact .inl h
  . exact .inr ⟨b, o, cc, h1, by simp; omega, h2⟩
 have h := zf8 w.heap.size _ l hbytes (w.alloc (.cells #[.slice A l.length c] 22)) (by simp) ((zaa (zao w _) 0).trans rfl) hS1
 exact h.mono fun e W' ⟨v, he, ho, hb⟩ => ⟨v, he, Kd.R_lower ho (by simp), zad ((zno w.heap.size w).alloc (znp _) _) (by simp) hb⟩
theorem zd2 (l : List ByteArray) : zac (zae l) = (zac l).mergeSort fun x y => decide (x <= y) := zdt _
theorem zlB (s t : ByteArray) (w : World) (hG : GOK w) (hs : s.size < 4294967281) :
 Calls Tryz.prog 85 #[.string s, .string t] w fun e w' => e = .returned (.bool (Lib.contains s.data.toList t.data.toList)) /\ w = w' := by
 obtain ⟨m, hm⟩ := hG.maxLen; have hcall := Go.Proofs.Any.strings_Contains Go.Proofs.Tryz.lays144 s t m w hs hm; change Calls Tryz.prog 85 _ _ _ at hcall
 exact hcall.mono fun e w' ⟨he, hw⟩ => ⟨he, hw.symm⟩
theorem ziM (s old : ByteArray) (h1 : 1 <= old.size) : Lib.countB s old <= s.size := by
 have h := Lib.countB_mul_le old h1 s.size s (znp _); have h2 : Lib.countB s old <= Lib.countB s old * old.size := Nat.le_mul_of_pos_right _ h1; omega
theorem zmR : Go.Proofs.Builder.Extra Tryz.prog Go.Proofs.Tryz.lays154_ren := {
 sizeBuilder := by kernel_rfl
 liesBuilder := by kernel_rfl
 t5 := Tryz.underlying5
 a5 := Tryz.isAgg5
 z5 := Tryz.sizeOf5
 v5 := Tryz.zeroValue5
 infoByte := by kernel_rfl
 cellsByte := by kernel_rfl
 sizeByte := by kernel_rfl
 neB5 := by decide }
theorem zne (s old new : ByteArray) (w : World) (hG : GOK w) (h1 : 1 <= old.size) (hs : s.size <= 16777216) (hn : new.size <= 100) :
 Calls Tryz.prog 130 #[.string s, .string old, .string new, .int .i64 (-1)] w fun e w' => e = .returned (.string (mk (Lib.replaceAll s.data.toList old.data.toList new.data.toList))) /\ Below w.heap.size w w' := by
 obtain ⟨m, hm⟩ := hG.maxLen; by_cases he : old = new
 . have hcall := Go.Proofs.Any.strings_Replace_none Go.Proofs.Tryz.lays154 s old new (-1) w (.inl he)
   change Calls Tryz.prog 130 _ _ _ at hcall
   refine hcall.mono fun e w' ⟨he1, hw⟩ => ⟨?_, by rw [hw]; exact zno _ _⟩
   have : Lib.replaceAll s.data.toList old.data.toList new.data.toList = s.data.toList := by
    unfold Lib.replaceAll Lib.replace; rw [if_pos (by simp [he])]
   rw [this, zbP]; exact he1
 . have hne2 : ¬ (old.data.toList == new.data.toList) = true := by
    intro h; exact he (zbO (by simpa using h))
   have hnum : Lib.replaceNum s.data.toList old.data.toList (-1) = Lib.count s.data.toList old.data.toList := by unfold Lib.replaceNum; rw [if_pos (by omega)]
   by_cases hc : Lib.countB s old = 0
   . have hcall := Go.Proofs.Any.strings_Replace_absent Go.Proofs.Tryz.lays154 s old new (-1) m w (by omega) hm h1 he (by decide) hc
     change Calls Tryz.prog 130 _ _ _ at hcall
     refine hcall.mono fun e w' ⟨he1, hw⟩ => ⟨?_, by rw [hw]; exact zno _ _⟩
     have : Lib.replaceAll s.data.toList old.data.toList new.data.toList = s.data.toList := by
      unfold Lib.replaceAll Lib.replace; rw [if_neg (by simpa using hne2), hnum]
      have : Lib.count s.data.toList old.data.toList = 0 := hc; rw [this]; rfl
     rw [this, zbP]; exact he1
   . have hle := ziM s old h1
     have hmul : Lib.countB s old * new.size <= 16777216 * 100 := Nat.mul_le_mul (by omega) hn
     have hcall := Go.Proofs.Any.strings_Replace_some Go.Proofs.Tryz.lays154 zmR s old new (-1) m w (by omega) hm h1 he (by decide) hc (by omega)
     change Calls Tryz.prog 130 _ _ _ at hcall
     refine hcall.mono fun e w' ⟨he1, hw⟩ => ⟨?_, hw⟩
     have : Lib.replaceAll s.data.toList old.data.toList new.data.toList = Lib.replaceK old.data.toList new.data.toList (Lib.replaceNum s.data.toList old.data.toList (-1)) s.data.toList := by
      unfold Lib.replaceAll Lib.replace; rw [if_neg (by simpa using hne2)]
     rw [this]; exact he1
theorem zkz (s old new : ByteArray) (w : World) (hG : GOK w) (h1 : 1 <= old.size) (hs : s.size <= 16777216) (hn : new.size <= 100) :
 Calls Tryz.prog 87 #[.string s, .string old, .string new] w fun e w' => e = .returned (.string (mk (Lib.replaceAll s.data.toList old.data.toList new.data.toList))) /\ Below w.heap.size w w' := by
 have hR := zne s old new w hG h1 hs hn; generalize mk (Lib.replaceAll s.data.toList old.data.toList new.data.toList) = z at hR |-; have HR := znl hR; clear hR hG h1 hs hn; go_enter Tryz.func87, Tryz.ntmps87
 go_wp2_with (first | (go_at_call 130; refine HR.out.mono ?_; rintro e w2 ⟨rfl, hb2⟩))
 go_ret
 exact ⟨rfl, hb2⟩

theorem zb8 {s : Cmd} (h : mayC s = true) : (1 <= s.op /\ s.op <= 9) /\ (s.op ≠ 5 -> s.op ≠ 6 -> s.args = 1) /\ (s.op = 5 -> s.args <= 6) /\ (s.op = 6 -> s.args = 0 /\ s.lits.length = 1) /\ (s.op = 7 -> s.lits.length = 1) /\ (s.op = 8 -> s.lits.length = 2 /\ s.lits.getD 0 [] ≠ []) /\ (0 <= s.n /\ s.n <= 2000) /\ (∀ l ∈ s.lits, l.length <= 100) := by
 obtain ⟨h1, h2, h3⟩ := zjr h; unfold mayC at h; rw [Bool.and_eq_true] at h; obtain ⟨g1, g2⟩ := h; simp only [Bool.not_eq_true', Bool.or_eq_false_iff, decide_eq_false_iff_not] at g1 g2; obtain ⟨⟨⟨⟨⟨_, _⟩, g3⟩, g4⟩, g5⟩, g6⟩ := g1; obtain ⟨⟨⟨_, g7⟩, g8⟩, _⟩ := g2; have hc : zbl s.op = if s.op = 5 then (0, 6, 0) else if s.op = 6 then (0, 0, 1) else if s.op = 7 then (1, 1, 1) else if s.op = 8 then (1, 1, 2) else (1, 1, 0) := rfl
 rw [hc] at g3 g4 g5; refine ⟨⟨h1, h2⟩, fun a b => ?_, fun a => ?_, fun a => ?_, fun a => ?_, fun a => ?_, ⟨by omega, by omega⟩, fun l hl => ?_⟩
 . rw [if_neg a, if_neg b] at g3 g4
   split at g3
   . rename_i e; rw [if_pos e] at g4; simp only at g3 g4; omega
   . rename_i e
     rw [if_neg e] at g4; split at g3 <;> rename_i e2
     . rw [if_pos e2] at g4; simp only at g3 g4; omega
     . rw [if_neg e2] at g4; simp only at g3 g4; omega
 . rw [if_pos a] at g4; simp only at g4; omega
 . rw [if_neg (by omega), if_pos a] at g4 g5; simp only at g4 g5; omega
 . rw [if_neg (by omega), if_neg (by omega), if_pos a] at g5; simp only at g5; omega
 . rw [if_neg (by omega), if_neg (by omega), if_neg (by omega), if_pos a] at g5; simp only at g5; exact ⟨by omega, h3 a⟩
 . have := List.any_eq_false.1 g6 l hl
   simpa using this
theorem zgO (b : zab) : (zbr b).length <= b.length := (zfi b).1
theorem zhu : ∀ l : List zab, (za3 l).length = (l.map fun x => x.length + 1).sum
 | [] => rfl
 | x :: l => by
  show ((x ++ [10]) ++ za3 l).length = _
  rw [znC, zhu l, zn3, List.sum_cons, znC]; rfl
theorem zgr : ∀ (l : List zab) (k : Nat), (∀ x ∈ l, x.length <= k) -> (l.map fun x => x.length + 1).sum <= l.length * (k + 1)
 | [], _, _ => by simp
 | x :: l, k, h => by
  have := zgr l k (fun y hy => h y (zou _ hy))
  have hx := h x zot; rw [zn3, List.sum_cons, zn5, Nat.add_mul, Nat.one_mul]; omega
theorem zgc (b : zab) (l : List zab) (hl : l.length <= (zbr b).length) (hs : ∀ x ∈ l, x ∈ zbr b) (hb : b.length <= 4194304) : (za3 l).length <= 140737488355328 := by
 obtain ⟨h1, h2⟩ := zfi b; rw [zhu]; have := zgr l b.length (fun x hx => h2 x (hs x hx))
 have h3 : l.length * (b.length + 1) <= 4194304 * 4194305 := Nat.mul_le_mul (by omega) (by omega)
 omega
theorem zge : ∀ (l : List zab) (k : Nat), (∀ x ∈ l, x.length <= k) -> l.flatten.length <= l.length * k
 | [], _, _ => by simp
 | x :: l, k, h => by
  have := zge l k (fun y hy => h y (zou _ hy))
  have hx := h x zot; rw [List.flatten_cons, znC, zn5, Nat.add_mul, Nat.one_mul]; omega
theorem zgq : ∀ l : List zab, Lib.join l [] = l.flatten
 | [] => rfl
 | [x] => by simp [Lib.join]
 | x :: y :: l => by
  have := zgq (y :: l); simp [Lib.join] at this |-
  exact this
theorem zjB (n : Int) : (zaV n).length <= n.toNat + 1 := by
 unfold zaV; generalize n.toNat = u; induction u using Nat.strongRecOn with
 | ind u ih =>
  rw [Lib.decDigits]; split
  . simp
  . rename_i h
    have := ih (u / 10) (by omega)
    rw [znC]; simp only [znD]; omega
theorem zji (y : ByteArray) (h : y.size < 4294967281) : ∀ x ∈ zbe y, x.size < 4294967281 := by
 intro x hx; unfold zbe at hx; obtain ⟨z, hz, rfl⟩ := List.mem_map.1 hx; have := (zfi y.data.toList).2 z hz; rw [<- znY] at this; rw [za6]; omega
theorem zfX (q : zab -> Bool) (l : List ByteArray) : zac (l.filter fun x => q x.data.toList) = (zac l).filter q := by
 unfold zac; rw [List.filter_map]; rfl
theorem ziB {B : Nat} {w w1 : World} {row : Option Nat} (hg : w.grownBy w1 row) (hB : B <= w.heap.size) (hb : ∀ k, row = some k -> B <= k) : Below B w w1 := (zno B w).grown hg hB hb
abbrev Sm := { x : ByteArray // x.size < 4294967281 }
instance : Inhabited Sm := ⟨⟨ByteArray.empty, by decide⟩⟩
def zce (x : Sm) : Value := .string x.1
theorem zi2 (l : List ByteArray) (h : ∀ x ∈ l, x.size < 4294967281) : ∃ k : List Sm, k.map (·.1) = l := by
 induction l with
 | nil => exact ⟨[], rfl⟩
 | cons x r ih =>
  obtain ⟨k, hk⟩ := ih (fun y hy => h y (zou _ hy))
  exact ⟨⟨x, h x zot⟩ :: k, by rw [zn3, hk]⟩
theorem zjv {w : World} {g n : Nat} {os : Array Obj} {cur : Array Value} {e : TypeId} {fr : Nat × Nat} (d : Array Sm) (hb : w.heap[g]? = some (.cells cur e fr)) :
 (Sort.grow (putRow zce (Sort.ahead w n) g 0 d) os).heap[g]? = some (.cells (putCells zce 0 d cur) e fr) := by
 have hg : g < w.heap.size := (znq.1 hb).1; rw [heap_grow_old _ _ (by simpa using hg)]
 simp [putRow, mapBlock, Sort.ahead, zn2, hb, onCells]
theorem zhd {w : World} {g n : Nat} {os : Array Obj} (d : Array Sm) : w.grownBy (Sort.grow (putRow zce (Sort.ahead w n) g 0 d) os) (some g) := by
 refine ⟨rfl, rfl, rfl, by simp, fun k hk hne => ?_⟩
 rw [heap_grow_old _ _ (by simpa using hk)]
 have : g ≠ k := fun e => hne (by rw [e])
 simp [putRow, mapBlock, Sort.ahead, zn2, this]
theorem zmu (cur : Array Value) (ts rest : List Sm) (h : ts.length + rest.length <= cur.size) : (putCells zce 0 (ts ++ rest).toArray cur).toList.take ts.length = ts.map zce := by
 apply List.ext_getElem?
 intro j; by_cases hj : j < ts.length
 . rw [zn9 hj, zn6]
   simp [putCells, hj, show j < cur.size by omega, show j < ts.length + rest.length by omega, List.getElem_append_left]
 . rw [List.getElem?_take_eq_none (by omega), List.getElem?_eq_none (by simp; omega)]
theorem zl3 {w : World} {g : Nat} {cur : Array Value} {e : TypeId} {ss : List Sm} (hb : w.heap[g]? = some (.cells cur e (0, 0))) (ht : cur.toList.take ss.length = ss.map zce) : Holds zce w g 0 ss.toArray := by
 intro j hj; have hj' : j < ss.length := by simpa using hj
 refine ⟨?_, by simp [World.frozen?, hb]⟩
 have h1 : (cur.toList.take ss.length)[j]? = (ss.map zce)[j]? := by rw [ht]
 rw [zn9 hj'] at h1; simp only [World.cell?, hb, Nat.zero_add]; simp only [Option.isSome_none, Bool.false_eq_true, if_false]; rw [<- zn6, h1]; simp [hj']
theorem zjd (g : Nat) (lb : Array Value) (A : Option Addr) (c : Nat) (w : World) :
 Calls Tryz.prog 76 #[.slice A 0 c, .func (.func g) #[] lb] w fun e w' => e = .returned (.int .i64 (-1)) /\ w = w' := by
 go_enter Tryz.func76, Tryz.ntmps76
 go_wp2; go_loopg [5, 8] 0 (fun _ _ s8 wr => s8 = .int .i64 0 /\ wr = w)
 case atStart => exact ⟨rfl, rfl⟩
 case round =>
  obtain ⟨rfl, rfl⟩ := hrel; go_wp2; go_ret
  exact ⟨rfl, rfl⟩
theorem zkS (B base g : Nat) (lb : Array Value) (eg : ∀ args w, (callFunc g args).run Tryz.prog w = .ok (.enter g args) w) (q : ByteArray -> Bool) (v : Value) (l : List ByteArray) (w : World)
 (hown : w.ownsRow base 9 1 v l.length (encs Value.string l)) (hB : B <= base) (hBw : B <= w.heap.size) (hp : ∀ (W : World) (x : ByteArray), Below B w W -> x.size < 4294967281 -> Go.Proofs.FnGives Tryz.prog g lb #[.string x] (.bool (!q x)) W) (hs : ∀ x ∈ l, x.size < 4294967281) :
 Calls Tryz.prog 86 #[v, .func (.func g) #[] lb] w fun e w' => ∃ v', e = .returned v' /\ w'.ownsRow base 9 1 v' (l.filter q).length (encs Value.string (l.filter q)) /\ v'.ownBlock = v.ownBlock /\ w.grownBy w' v.ownBlock := by
 obtain ⟨k, rfl⟩ := zi2 l hs; have hfm : (k.map (·.1)).filter q = (k.filter fun x : Sm => q x.1).map (·.1) := by rw [List.filter_map]; rfl
 have hem : ∀ j : List Sm, encs Value.string (j.map (·.1)) = j.map zce := fun j => by unfold encs; rw [znZ]; rfl
 rw [hfm]; rw [hem] at hown |-; rw [zn0] at hown |-; have hlen : k.length <= 9223372036854775807 := by
  rcases hown.2 with ⟨_, h0⟩ | ⟨_, cap, cur, _, _, _, h1, h2, _⟩
  . omega
  . simp only [maxLen] at h2; omega
 rcases hown.2 with ⟨rfl, h0⟩ | ⟨gb, cap, cur, rfl, hbase, hb, h1, h2, h3, h4⟩
 . obtain rfl : k = [] := znr h0
   have hI := zjd g lb none 0 w; clear hp hown h0 hs hfm; go_enter Tryz.func86, Tryz.ntmps86
   go_wp2_with fail; refine hI.mono ?_; rintro e w2 ⟨rfl, rfl⟩; clear hI; go_wp2; go_ret
   exact ⟨.slice none 0 0, rfl, zcM _ _ _ _, rfl, World.grownBy.refl _ _⟩
 . have hH : Holds zce w gb 0 k.toArray := zl3 hb (by simpa using h4)
   have hcall := Go.Proofs.AnyE.slices_DeleteFunc Go.Proofs.Tryz.laysDel zce (fun _ => rfl) (fun x => !q x.1) g lb eg ⟨ByteArray.empty, by decide⟩ Tryz.zeroValue9 gb 0 cap k.toArray w
    (fun W x hb => hp W x.1 (hb.mono hBw) x.2)
    (fun n os dk x _ => hp _ x.1 (zgk (zhd dk) hBw (by omega)) x.2) hH (by simpa using hlen) (by simpa using h1)
   change Calls Tryz.prog 86 _ _ _ at hcall
   refine hcall.mono fun e w' ⟨he, n, hw⟩ => ?_
   have hff : (k.filter fun x : Sm => !(!q x.1)) = k.filter fun x : Sm => q x.1 := by congr 1; funext x; rw [Bool.not_not]
   have hf : (k.filter fun x : Sm => q x.1).length <= k.length := zob _ _
   have hg0 : w' = Sort.grow (putRow zce (Sort.ahead w n) gb 0 ((k.filter fun x : Sm => q x.1) ++ List.replicate (k.length - (k.filter fun x : Sm => q x.1).length) (⟨ByteArray.empty, by decide⟩ : Sm)).toArray) #[] := by
    rw [hw]; simp [hff]
   refine ⟨.slice (some ⟨gb, 0, none⟩) (k.filter fun x : Sm => q x.1).length cap, by rw [he]; simp [hff], ?_, rfl, ?_⟩
   . refine ⟨by simp, .inr ⟨gb, cap, _, rfl, hbase, by rw [hg0]; exact zjv _ hb, by simpa using znv hf h1, h2, by simp [putCells, h3], ?_⟩⟩
     simp only [Nat.mul_one]; exact zmu cur _ _ (by rw [List.length_replicate]; omega)
   . rw [hg0]; exact zhd _
theorem zmN : ∀ args w, (callFunc 84 args).run Tryz.prog w = .ok (.enter 84 args) w := Go.Proofs.enters_of Tryz.func84 (by kernel_rfl) rfl
theorem zkT (g : Nat) (c3 n : Nat) (b o : Nat) (t : ByteArray) (W : World) (hG : GOK W) (hk : W.cell? ⟨g, 3, none⟩ = some (.slice (some ⟨b, o, none⟩) n c3)) (hn : (0 : Int) < (n : Int)) (hx : W.cell? ⟨b, o, none⟩ = some (.string t)) (x : ByteArray) (hs : x.size < 4294967281) :
 Calls Tryz.prog 84 #[.string x, .pointer (some ⟨g, 0, none⟩)] W fun e w' => e = .returned (.bool (!Lib.contains x.data.toList t.data.toList)) /\ W = w' := by
 have hC := zlB x t W hG hs; generalize Lib.contains x.data.toList t.data.toList = q at hC |-; have HC := znl hC; clear hC hG hs; go_enter Tryz.func84, Tryz.ntmps84
 go_wp2_with (first | (go_at_call 85; refine HC.out.mono ?_; rintro e w2 ⟨rfl, rfl⟩))
 go_ret
 exact ⟨rfl, rfl⟩
def IsOf (r : zab × Bool) (w : World) (e : Ending) (w' : World) : Prop := e = .returned (.tuple #[.string (mk r.1), .bool r.2]) /\ Below w.heap.size w w'
--OF
theorem zjE (x : zay) (B2 : Option Addr) (c2 : Nat) (B3 : Option Addr) (c3 : Nat) (A : Option Addr) (c : Nat) (bs : List ByteArray) (w : World) (hG : GOK w) (h3 : Kd.C Kd.string w B3 x.f3.length x.f3) (hr : Kd.C Kd.string w A bs.length bs) (hc : bs.length <= c)
 (hm : mayC (zal x) = true) (hn : bs.length = x.f2.length) (hsz : ∀ b ∈ bs, b.size <= 4194304) (hop : x.f1 = 1) :
 Calls Tryz.prog 59 #[.agg #[.string x.f0, .int .i64 x.f1, .slice B2 x.f2.length c2, .slice B3 x.f3.length c3, .int .i64 x.f4], .slice A bs.length c] w (IsOf (zaP (zal x) (zac bs)) w) := by
 obtain ⟨fop, f1, f5, f6, f7, f8, fn, fl⟩ := zb8 hm; have e1 : (zal x).op = 1 := hop; have e2 : (zal x).args = bs.length := hn.symm; rw [e1] at f1 f5 f6 f7 f8; rw [e2] at f1 f5 f6; have h1 : bs.length = 1 := f1 (by omega) (by omega)
 obtain ⟨y, rfl⟩ : ∃ y, bs = [y] := by
  cases bs with
  | nil => simp at h1
  | cons y r => cases r with
   | nil => exact ⟨y, rfl⟩
   | cons z s => simp at h1
 have hy := hsz y (by simp)
 rcases za5 hr with h0 | ⟨b, o, rfl, hb, hcell⟩
 . cases h0
 have p0 := hcell 0 (by simp)
 rw [zov] at p0; have p0 : w.cell? ⟨b, o, none⟩ = some (.string y) := p0; have HP := znl p0; clear hcell p0 h1; have hM : zaP (zal x) (zac [y]) = (y.data.toList, true) := by unfold zaP; rw [e1]; rfl
 rw [hM]; clear hM; obtain ⟨f0, op, l2, l3, f4⟩ := x; dsimp only at *; subst hop; have hab := (zno w.heap.size w).alloc (znp _) (.cells #[.string f0, .int .i64 1, .slice B2 l2.length c2, .slice B3 l3.length c3, .int .i64 f4] 24); have HK := znl (zao w (.cells #[.string f0, .int .i64 1, .slice B2 l2.length c2, .slice B3 l3.length c3, .int .i64 f4] 24)); have HB1 := znl hab; have HR := znl (Kd.C_below hr hab); have H3 := znl (Kd.C_below h3 hab); have HG := znl (hG.below hab); clear hab; clear hG h3 hr hm hn hsz fop f1 f5 f6 f7 f8 fn fl e1 e2; go_enter Tryz.func59, Tryz.ntmps59
 go_upto_block 0 with fail; generalize w.alloc (.cells #[.string f0, .int .i64 1, .slice B2 l2.length c2, .slice B3 l3.length c3, .int .i64 f4] 24) = w1 at HB1 HK HR H3 HG |-; have k1 : w1.cell? ⟨w.heap.size, 1, none⟩ = some (.int .i64 1) := (zaa HK.out 1).trans rfl; have k3 : w1.cell? ⟨w.heap.size, 3, none⟩ = some (.slice B3 l3.length c3) := (zaa HK.out 3).trans rfl; have k4 : w1.cell? ⟨w.heap.size, 4, none⟩ = some (.int .i64 f4) := (zaa HK.out 4).trans rfl; have d1 : ((1 : Int) == 1) = true := by decide
 have p1 := zaf HB1.out HP.out; have hl : (0 : Int) < (([y] : List ByteArray).length : Int) := by simp
 go_wp2_with fail; go_ret2
 exact ⟨by rw [zbP]; rfl, HB1.out⟩
theorem zij (x : zay) (B2 : Option Addr) (c2 : Nat) (B3 : Option Addr) (c3 : Nat) (A : Option Addr) (c : Nat) (bs : List ByteArray) (w : World) (hG : GOK w) (h3 : Kd.C Kd.string w B3 x.f3.length x.f3) (hr : Kd.C Kd.string w A bs.length bs) (hc : bs.length <= c)
 (hm : mayC (zal x) = true) (hn : bs.length = x.f2.length) (hsz : ∀ b ∈ bs, b.size <= 4194304) (hop : x.f1 = 2) :
 Calls Tryz.prog 59 #[.agg #[.string x.f0, .int .i64 x.f1, .slice B2 x.f2.length c2, .slice B3 x.f3.length c3, .int .i64 x.f4], .slice A bs.length c] w (IsOf (zaP (zal x) (zac bs)) w) := by
 obtain ⟨fop, f1, f5, f6, f7, f8, fn, fl⟩ := zb8 hm; have e1 : (zal x).op = 2 := hop; have e2 : (zal x).args = bs.length := hn.symm; rw [e1] at f1 f5 f6 f7 f8; rw [e2] at f1 f5 f6; have h1 : bs.length = 1 := f1 (by omega) (by omega)
 obtain ⟨y, rfl⟩ : ∃ y, bs = [y] := by
  cases bs with
  | nil => simp at h1
  | cons y r => cases r with
   | nil => exact ⟨y, rfl⟩
   | cons z s => simp at h1
 have hy := hsz y (by simp)
 rcases za5 hr with h0 | ⟨b, o, rfl, hb, hcell⟩
 . cases h0
 have p0 := hcell 0 (by simp)
 rw [zov] at p0; have p0 : w.cell? ⟨b, o, none⟩ = some (.string y) := p0; have HP := znl p0; clear hcell p0 h1; have hM : zaP (zal x) (zac [y]) = (y.data.toList, !(y.data.toList == [])) := by unfold zaP; rw [e1]; rfl
 rw [hM]; clear hM; obtain ⟨f0, op, l2, l3, f4⟩ := x; dsimp only at *; subst hop; have hab := (zno w.heap.size w).alloc (znp _) (.cells #[.string f0, .int .i64 2, .slice B2 l2.length c2, .slice B3 l3.length c3, .int .i64 f4] 24); have HK := znl (zao w (.cells #[.string f0, .int .i64 2, .slice B2 l2.length c2, .slice B3 l3.length c3, .int .i64 f4] 24)); have HB1 := znl hab; have HR := znl (Kd.C_below hr hab); have H3 := znl (Kd.C_below h3 hab); have HG := znl (hG.below hab); clear hab; clear hG h3 hr hm hn hsz fop f1 f5 f6 f7 f8 fn fl e1 e2; go_enter Tryz.func59, Tryz.ntmps59
 go_upto_block 0 with fail; generalize w.alloc (.cells #[.string f0, .int .i64 2, .slice B2 l2.length c2, .slice B3 l3.length c3, .int .i64 f4] 24) = w1 at HB1 HK HR H3 HG |-; have k1 : w1.cell? ⟨w.heap.size, 1, none⟩ = some (.int .i64 2) := (zaa HK.out 1).trans rfl; have k3 : w1.cell? ⟨w.heap.size, 3, none⟩ = some (.slice B3 l3.length c3) := (zaa HK.out 3).trans rfl; have k4 : w1.cell? ⟨w.heap.size, 4, none⟩ = some (.int .i64 f4) := (zaa HK.out 4).trans rfl; have d1 : ((2 : Int) == 1) = false := by decide
 have d2 : ((2 : Int) == 2) = true := by decide
 have p1 := zaf HB1.out HP.out; have hl : (0 : Int) < (([y] : List ByteArray).length : Int) := by simp
 have hq : (y.toList != []) = !(y.data.toList == []) := by rw [zbA]; rfl
 by_cases hy0 : y.toList = []
 . have dy : (y.toList == []) = true := by simp [hy0]
   have dz : (y.toList != []) = false := by simp [hy0]
   have hv : (y.data.toList == []) = true := by rw [<- zbA]; exact dy
   have HV := znl hv; clear hq hv; go_wp2_with fail; go_quiet (fail)
   go_wp2_with fail; go_ret2
   exact ⟨by rw [zbP, HV.out]; rfl, by first | exact HB1.out | exact zap HB1.out _⟩
 . have dy : (y.toList == []) = false := by simp [hy0]
   have dz : (y.toList != []) = true := by simp [hy0]
   have hv : (y.data.toList == []) = false := by rw [<- zbA]; exact dy
   have HV := znl hv; clear hq hv; go_wp2_with fail; go_quiet (fail)
   go_wp2_with fail; go_ret2
   exact ⟨by rw [zbP, HV.out]; rfl, by first | exact HB1.out | exact zap HB1.out _⟩
theorem zlb (x : zay) (B2 : Option Addr) (c2 : Nat) (B3 : Option Addr) (c3 : Nat) (A : Option Addr) (c : Nat) (bs : List ByteArray) (w : World) (hG : GOK w) (h3 : Kd.C Kd.string w B3 x.f3.length x.f3) (hr : Kd.C Kd.string w A bs.length bs) (hc : bs.length <= c)
 (hm : mayC (zal x) = true) (hn : bs.length = x.f2.length) (hsz : ∀ b ∈ bs, b.size <= 4194304) (hop : x.f1 = 3) :
 Calls Tryz.prog 59 #[.agg #[.string x.f0, .int .i64 x.f1, .slice B2 x.f2.length c2, .slice B3 x.f3.length c3, .int .i64 x.f4], .slice A bs.length c] w (IsOf (zaP (zal x) (zac bs)) w) := by
 obtain ⟨fop, f1, f5, f6, f7, f8, fn, fl⟩ := zb8 hm; have e1 : (zal x).op = 3 := hop; have e2 : (zal x).args = bs.length := hn.symm; rw [e1] at f1 f5 f6 f7 f8; rw [e2] at f1 f5 f6; have h1 : bs.length = 1 := f1 (by omega) (by omega)
 obtain ⟨y, rfl⟩ : ∃ y, bs = [y] := by
  cases bs with
  | nil => simp at h1
  | cons y r => cases r with
   | nil => exact ⟨y, rfl⟩
   | cons z s => simp at h1
 have hy := hsz y (by simp)
 rcases za5 hr with h0 | ⟨b, o, rfl, hb, hcell⟩
 . cases h0
 have p0 := hcell 0 (by simp)
 rw [zov] at p0; have p0 : w.cell? ⟨b, o, none⟩ = some (.string y) := p0; have HP := znl p0; clear hcell p0 h1; have hM : zaP (zal x) (zac [y]) = (za3 ((zbr y.data.toList).mergeSort fun x y => decide (x <= y)), true) := by unfold zaP; rw [e1]; rfl
 rw [hM]; clear hM; obtain ⟨f0, op, l2, l3, f4⟩ := x; dsimp only at *; subst hop; have hab := (zno w.heap.size w).alloc (znp _) (.cells #[.string f0, .int .i64 3, .slice B2 l2.length c2, .slice B3 l3.length c3, .int .i64 f4] 24); have HK := znl (zao w (.cells #[.string f0, .int .i64 3, .slice B2 l2.length c2, .slice B3 l3.length c3, .int .i64 f4] 24)); have HB1 := znl hab; have HR := znl (Kd.C_below hr hab); have H3 := znl (Kd.C_below h3 hab); have HG := znl (hG.below hab); clear hab; clear hG h3 hr hm hn hsz fop f1 f5 f6 f7 f8 fn fl e1 e2; go_enter Tryz.func59, Tryz.ntmps59
 go_upto_block 0 with fail; generalize w.alloc (.cells #[.string f0, .int .i64 3, .slice B2 l2.length c2, .slice B3 l3.length c3, .int .i64 f4] 24) = w1 at HB1 HK HR H3 HG |-; have k1 : w1.cell? ⟨w.heap.size, 1, none⟩ = some (.int .i64 3) := (zaa HK.out 1).trans rfl; have k3 : w1.cell? ⟨w.heap.size, 3, none⟩ = some (.slice B3 l3.length c3) := (zaa HK.out 3).trans rfl; have k4 : w1.cell? ⟨w.heap.size, 4, none⟩ = some (.int .i64 f4) := (zaa HK.out 4).trans rfl; have d1 : ((3 : Int) == 1) = false := by decide
 have d2 : ((3 : Int) == 2) = false := by decide
 have d3 : ((3 : Int) == 3) = true := by decide
 have p1 := zaf HB1.out HP.out; have hl : (0 : Int) < (([y] : List ByteArray).length : Int) := by simp
 have hLi := zet y w1 HG.out (by omega)
 have HY := znl hy; have HLi := znl hLi; clear hLi hy; go_wp2_with (first
  | (go_at_call 23; refine HLi.out.mono ?_; rintro e w2 ⟨v, rfl, hR, hb2⟩; obtain ⟨A2, n2, rfl, hcap, hC2⟩ := Kd.R_reads hR; have HC2 := znl hC2; have HB2 := znl hb2; clear hcap hR hC2 hb2)
  | (go_at_call 81; refine (zkM _ _ _ _).mono ?_; rintro e w3 ⟨rfl, rfl⟩)
  | (go_at_call 80; refine (zmF A2 n2 (zbe y) w2 HC2.out (by have := zgO y.data.toList; rw [<- znY] at this; have h2 := HY.out; unfold zbe; rw [zn0]; omega)).mono ?_; rintro e w4 ⟨v4, rfl, hR4, hb4⟩; obtain ⟨A4, n4, rfl, hcap4, hC4⟩ := Kd.R_reads hR4; have HC4 := znl hC4; have HB4 := znl hb4; clear hcap4 hR4 hC4 hb4)
  | (go_at_call 79; refine (zhs A4 n4 (zae (zbe y)) w4 HC4.out (by rw [zd2]; unfold zbe; rw [zdt]; exact zgc y.data.toList _ (by rw [List.length_mergeSort]; exact znp _) (fun x hx => List.mem_mergeSort.1 hx) (by have h2 := HY.out; rw [znY] at h2; exact h2))).mono ?_; rintro e w5 ⟨rfl, hb5⟩; have HB5 := znl hb5; clear hb5))
 go_ret2
 refine ⟨by rw [zd2]; unfold zbe; rw [zdt]; rfl, ?_⟩
 exact zad (zad (zad HB1.out HB1.out.size HB2.out) (znv HB1.out.size HB2.out.size) HB4.out) (znv (znv HB1.out.size HB2.out.size) HB4.out.size) HB5.out
theorem zj0 (x : zay) (B2 : Option Addr) (c2 : Nat) (B3 : Option Addr) (c3 : Nat) (A : Option Addr) (c : Nat) (bs : List ByteArray) (w : World) (hG : GOK w) (h3 : Kd.C Kd.string w B3 x.f3.length x.f3) (hr : Kd.C Kd.string w A bs.length bs) (hc : bs.length <= c)
 (hm : mayC (zal x) = true) (hn : bs.length = x.f2.length) (hsz : ∀ b ∈ bs, b.size <= 4194304) (hop : x.f1 = 4) :
 Calls Tryz.prog 59 #[.agg #[.string x.f0, .int .i64 x.f1, .slice B2 x.f2.length c2, .slice B3 x.f3.length c3, .int .i64 x.f4], .slice A bs.length c] w (IsOf (zaP (zal x) (zac bs)) w) := by
 obtain ⟨fop, f1, f5, f6, f7, f8, fn, fl⟩ := zb8 hm; have e1 : (zal x).op = 4 := hop; have e2 : (zal x).args = bs.length := hn.symm; rw [e1] at f1 f5 f6 f7 f8; rw [e2] at f1 f5 f6; have h1 : bs.length = 1 := f1 (by omega) (by omega)
 obtain ⟨y, rfl⟩ : ∃ y, bs = [y] := by
  cases bs with
  | nil => simp at h1
  | cons y r => cases r with
   | nil => exact ⟨y, rfl⟩
   | cons z s => simp at h1
 have hy := hsz y (by simp)
 rcases za5 hr with h0 | ⟨b, o, rfl, hb, hcell⟩
 . cases h0
 have p0 := hcell 0 (by simp)
 rw [zov] at p0; have p0 : w.cell? ⟨b, o, none⟩ = some (.string y) := p0; have HP := znl p0; clear hcell p0 h1; have hM : zaP (zal x) (zac [y]) = (zaV ((zbr y.data.toList).length : Int) ++ [10], true) := by unfold zaP; rw [e1]; rfl
 rw [hM]; clear hM; obtain ⟨f0, op, l2, l3, f4⟩ := x; dsimp only at *; subst hop; have hab := (zno w.heap.size w).alloc (znp _) (.cells #[.string f0, .int .i64 4, .slice B2 l2.length c2, .slice B3 l3.length c3, .int .i64 f4] 24); have HK := znl (zao w (.cells #[.string f0, .int .i64 4, .slice B2 l2.length c2, .slice B3 l3.length c3, .int .i64 f4] 24)); have HB1 := znl hab; have HR := znl (Kd.C_below hr hab); have H3 := znl (Kd.C_below h3 hab); have HG := znl (hG.below hab); clear hab; clear hG h3 hr hm hn hsz fop f1 f5 f6 f7 f8 fn fl e1 e2; go_enter Tryz.func59, Tryz.ntmps59
 go_upto_block 0 with fail; generalize w.alloc (.cells #[.string f0, .int .i64 4, .slice B2 l2.length c2, .slice B3 l3.length c3, .int .i64 f4] 24) = w1 at HB1 HK HR H3 HG |-; have k1 : w1.cell? ⟨w.heap.size, 1, none⟩ = some (.int .i64 4) := (zaa HK.out 1).trans rfl; have k3 : w1.cell? ⟨w.heap.size, 3, none⟩ = some (.slice B3 l3.length c3) := (zaa HK.out 3).trans rfl; have k4 : w1.cell? ⟨w.heap.size, 4, none⟩ = some (.int .i64 f4) := (zaa HK.out 4).trans rfl; have d1 : ((4 : Int) == 1) = false := by decide
 have d2 : ((4 : Int) == 2) = false := by decide
 have d3 : ((4 : Int) == 3) = false := by decide
 have d4 : ((4 : Int) == 4) = true := by decide
 have p1 := zaf HB1.out HP.out; have hl : (0 : Int) < (([y] : List ByteArray).length : Int) := by simp
 have hLi := zet y w1 HG.out (by omega)
 have hll : (zbe y).length = (zbr y.data.toList).length := by unfold zbe; rw [zn0]
 have hle : (zbe y).length <= 4194304 := by rw [hll]; have := zgO y.data.toList; rw [<- znY] at this; omega
 rw [<- hll]; generalize zbe y = ly at hLi hle |-; have hN : ∀ W, GOK W -> Calls Tryz.prog 82 #[.int .i64 (ly.length : Int)] W fun e w' => e = .returned (.string (mk (zaV (ly.length : Int)))) /\ Below W.heap.size W w' := fun W h => zeB (ly.length : Int) (by omega) (by omega) W h
 have hap : mk (zaV (ly.length : Int) ++ [10]) = mk (zaV (ly.length : Int)) ++ ⟨#[10]⟩ := (zml _ [10]).symm; have HLi := znl hLi; have HN := znl hN; have HA := znl hap; have hnz : (mk (zaV (ly.length : Int))).size <= 100000000 := by
  rw [za6]; have := zjB (ly.length : Int); omega
 generalize mk (zaV (ly.length : Int)) = nv at HN HA hnz; clear hLi hN hap hll hy; go_wp2_with (first
  | (go_at_call 23; refine HLi.out.mono ?_; rintro e w2 ⟨v, rfl, hR, hb2⟩; obtain ⟨A2, n2, rfl, hcap, hC2⟩ := Kd.R_reads hR; have HB2 := znl hb2; clear hcap hR hC2 hb2)
  | (go_at_call 82; refine (HN.out _ (HG.out.below HB2.out)).mono ?_; rintro e w4 ⟨rfl, hb4⟩; have HB4 := znl hb4; clear hb4))
 go_ret2
 exact ⟨by show _ = Ending.returned (.tuple #[.string (mk (zaV (ly.length : Int) ++ [10])), .bool true]); rw [HA.out]; rfl, zad (zad HB1.out HB1.out.size HB2.out) (znv HB1.out.size HB2.out.size) HB4.out⟩
theorem ziL (x : zay) (B2 : Option Addr) (c2 : Nat) (B3 : Option Addr) (c3 : Nat) (A : Option Addr) (c : Nat) (bs : List ByteArray) (w : World) (hG : GOK w) (h3 : Kd.C Kd.string w B3 x.f3.length x.f3) (hr : Kd.C Kd.string w A bs.length bs) (hc : bs.length <= c)
 (hm : mayC (zal x) = true) (hn : bs.length = x.f2.length) (hsz : ∀ b ∈ bs, b.size <= 4194304) (hop : x.f1 = 5) :
 Calls Tryz.prog 59 #[.agg #[.string x.f0, .int .i64 x.f1, .slice B2 x.f2.length c2, .slice B3 x.f3.length c3, .int .i64 x.f4], .slice A bs.length c] w (IsOf (zaP (zal x) (zac bs)) w) := by
 obtain ⟨fop, f1, f5, f6, f7, f8, fn, fl⟩ := zb8 hm; have e1 : (zal x).op = 5 := hop; have e2 : (zal x).args = bs.length := hn.symm; rw [e1] at f1 f5 f6 f7 f8; rw [e2] at f1 f5 f6; have hM : zaP (zal x) (zac bs) = ((zac bs).flatten, true) := by unfold zaP; rw [e1]; rfl
 rw [hM]; clear hM; have hfl : (zac bs).flatten.length <= 140737488355328 := by
  have := zge (zac bs) 4194304 (fun b hb => by
   obtain ⟨z, hz, rfl⟩ := List.mem_map.1 hb; rw [<- znY]; exact hsz z hz)
  rw [zaZ] at this; have h6 := f5 rfl; have : bs.length * 4194304 <= 6 * 4194304 := Nat.mul_le_mul h6 (znp _); omega
 have hJf : strings_Join.f bs ⟨#[]⟩ = some (mk (zac bs).flatten) := by
  unfold strings_Join.f; have e : Lib.join (bs.map (·.data.toList)) (⟨#[]⟩ : ByteArray).data.toList = (zac bs).flatten := zgq _; rw [e, if_pos ⟨by have := f5 rfl; omega, hfl⟩]
 obtain ⟨f0, op, l2, l3, f4⟩ := x; dsimp only at *; subst hop; have hab := (zno w.heap.size w).alloc (znp _) (.cells #[.string f0, .int .i64 5, .slice B2 l2.length c2, .slice B3 l3.length c3, .int .i64 f4] 24); have HK := znl (zao w (.cells #[.string f0, .int .i64 5, .slice B2 l2.length c2, .slice B3 l3.length c3, .int .i64 f4] 24)); have HB1 := znl hab; have HR := znl (Kd.C_below hr hab); have H3 := znl (Kd.C_below h3 hab); have HG := znl (hG.below hab); clear hab; have hJ := strings_Join.calls A c bs ⟨#[]⟩ _ _ HG.out HR.out hc hJf; generalize (zac bs).flatten = fl0 at hJ |-; have HJ := znl hJ; clear hJ hfl hJf; clear hG h3 hr hm hn hsz fop f1 f5 f6 f7 f8 fn fl e1 e2; go_enter Tryz.func59, Tryz.ntmps59
 go_upto_block 0 with fail; generalize w.alloc (.cells #[.string f0, .int .i64 5, .slice B2 l2.length c2, .slice B3 l3.length c3, .int .i64 f4] 24) = w1 at HB1 HK HR H3 HG HJ |-; have k1 : w1.cell? ⟨w.heap.size, 1, none⟩ = some (.int .i64 5) := (zaa HK.out 1).trans rfl; have k3 : w1.cell? ⟨w.heap.size, 3, none⟩ = some (.slice B3 l3.length c3) := (zaa HK.out 3).trans rfl; have k4 : w1.cell? ⟨w.heap.size, 4, none⟩ = some (.int .i64 f4) := (zaa HK.out 4).trans rfl; have d1 : ((5 : Int) == 1) = false := by decide
 have d2 : ((5 : Int) == 2) = false := by decide
 have d3 : ((5 : Int) == 3) = false := by decide
 have d4 : ((5 : Int) == 4) = false := by decide
 have d5 : ((5 : Int) == 5) = true := by decide
 go_wp2_with (first | (go_at_call 83; refine HJ.out.mono ?_; rintro e w2 ⟨rfl, hb2⟩; have HB2 := znl hb2; clear hb2))
 go_ret2
 exact ⟨rfl, zad HB1.out HB1.out.size HB2.out⟩
theorem zlz (x : zay) (B2 : Option Addr) (c2 : Nat) (B3 : Option Addr) (c3 : Nat) (A : Option Addr) (c : Nat) (bs : List ByteArray) (w : World) (hG : GOK w) (h3 : Kd.C Kd.string w B3 x.f3.length x.f3) (hr : Kd.C Kd.string w A bs.length bs) (hc : bs.length <= c)
 (hm : mayC (zal x) = true) (hn : bs.length = x.f2.length) (hsz : ∀ b ∈ bs, b.size <= 4194304) (hop : x.f1 = 6) :
 Calls Tryz.prog 59 #[.agg #[.string x.f0, .int .i64 x.f1, .slice B2 x.f2.length c2, .slice B3 x.f3.length c3, .int .i64 x.f4], .slice A bs.length c] w (IsOf (zaP (zal x) (zac bs)) w) := by
 obtain ⟨fop, f1, f5, f6, f7, f8, fn, fl⟩ := zb8 hm; have e1 : (zal x).op = 6 := hop; have e2 : (zal x).args = bs.length := hn.symm; rw [e1] at f1 f5 f6 f7 f8; rw [e2] at f1 f5 f6; have hlen3 : 0 < x.f3.length := by have := (f6 rfl).2; unfold zal at this; dsimp only at this; rw [zn0] at this; omega
 rcases za5 h3 with h0 | ⟨b3, o3, hB3, hb3, hcell3⟩
 . exfalso; rw [h0] at hlen3; simp at hlen3
 have q0 := hcell3 0 hlen3; rw [zov] at q0; have hlit : (zal x).lits.getD 0 [] = (x.f3.getD 0 ByteArray.empty).data.toList := by unfold zal; dsimp only; cases x.f3 <;> rfl
 have hlz : (x.f3.getD 0 ByteArray.empty).size <= 100 := by
  have := fl ((zal x).lits.getD 0 []) (by
   have h : 0 < (zal x).lits.length := by unfold zal; dsimp only; rw [zn0]; exact hlen3
   rw [znt, zns h]; exact zoy h)
  rw [hlit, <- znY] at this; exact this
 subst hB3; have hM : zaP (zal x) (zac bs) = ((x.f3.getD 0 ByteArray.empty).data.toList, true) := by unfold zaP; rw [e1, hlit]; rfl
 rw [hM]; clear hM hcell3 hlit; obtain ⟨f0, op, l2, l3, f4⟩ := x; dsimp only at *; subst hop; have hab := (zno w.heap.size w).alloc (znp _) (.cells #[.string f0, .int .i64 6, .slice B2 l2.length c2, .slice (some ⟨b3, o3, none⟩) l3.length c3, .int .i64 f4] 24); have HK := znl (zao w (.cells #[.string f0, .int .i64 6, .slice B2 l2.length c2, .slice (some ⟨b3, o3, none⟩) l3.length c3, .int .i64 f4] 24)); have HB1 := znl hab; have HR := znl (Kd.C_below hr hab); have H3 := znl (Kd.C_below h3 hab); have HG := znl (hG.below hab); clear hab; generalize l3.getD 0 ByteArray.empty = t at q0 hlz |-; have HQ := znl q0; have hl3 : (0 : Int) < (l3.length : Int) := by omega
 clear q0 hlen3; clear hG h3 hr hm hn hsz fop f1 f5 f6 f7 f8 fn fl e1 e2; go_enter Tryz.func59, Tryz.ntmps59
 go_upto_block 0 with fail; generalize w.alloc (.cells #[.string f0, .int .i64 6, .slice B2 l2.length c2, .slice (some ⟨b3, o3, none⟩) l3.length c3, .int .i64 f4] 24) = w1 at HB1 HK HR H3 HG |-; have k1 : w1.cell? ⟨w.heap.size, 1, none⟩ = some (.int .i64 6) := (zaa HK.out 1).trans rfl; have k3 : w1.cell? ⟨w.heap.size, 3, none⟩ = some (.slice (some ⟨b3, o3, none⟩) l3.length c3) := (zaa HK.out 3).trans rfl; have k4 : w1.cell? ⟨w.heap.size, 4, none⟩ = some (.int .i64 f4) := (zaa HK.out 4).trans rfl; have d1 : ((6 : Int) == 1) = false := by decide
 have d2 : ((6 : Int) == 2) = false := by decide
 have d3 : ((6 : Int) == 3) = false := by decide
 have d4 : ((6 : Int) == 4) = false := by decide
 have d5 : ((6 : Int) == 5) = false := by decide
 have d6 : ((6 : Int) == 6) = true := by decide
 have p1 := zaf HB1.out HQ.out; go_wp2_with fail; go_ret2
 exact ⟨by rw [zbP]; rfl, HB1.out⟩
theorem zmq (x : zay) (B2 : Option Addr) (c2 : Nat) (B3 : Option Addr) (c3 : Nat) (A : Option Addr) (c : Nat) (bs : List ByteArray) (w : World) (hG : GOK w) (h3 : Kd.C Kd.string w B3 x.f3.length x.f3) (hr : Kd.C Kd.string w A bs.length bs) (hc : bs.length <= c)
 (hm : mayC (zal x) = true) (hn : bs.length = x.f2.length) (hsz : ∀ b ∈ bs, b.size <= 4194304) (hop : x.f1 = 7) :
 Calls Tryz.prog 59 #[.agg #[.string x.f0, .int .i64 x.f1, .slice B2 x.f2.length c2, .slice B3 x.f3.length c3, .int .i64 x.f4], .slice A bs.length c] w (IsOf (zaP (zal x) (zac bs)) w) := by
 obtain ⟨fop, f1, f5, f6, f7, f8, fn, fl⟩ := zb8 hm; have e1 : (zal x).op = 7 := hop; have e2 : (zal x).args = bs.length := hn.symm; rw [e1] at f1 f5 f6 f7 f8; rw [e2] at f1 f5 f6; have h1 : bs.length = 1 := f1 (by omega) (by omega)
 obtain ⟨y, rfl⟩ : ∃ y, bs = [y] := by
  cases bs with
  | nil => simp at h1
  | cons y r => cases r with
   | nil => exact ⟨y, rfl⟩
   | cons z s => simp at h1
 have hy := hsz y (by simp)
 rcases za5 hr with h0 | ⟨b, o, rfl, hb, hcell⟩
 . cases h0
 have p0 := hcell 0 (by simp)
 rw [zov] at p0; have p0 : w.cell? ⟨b, o, none⟩ = some (.string y) := p0; have HP := znl p0; clear hcell p0 h1; have hlen3 : 0 < x.f3.length := by have := f7 rfl; unfold zal at this; dsimp only at this; rw [zn0] at this; omega
 rcases za5 h3 with h0 | ⟨b3, o3, hB3, hb3, hcell3⟩
 . exfalso; rw [h0] at hlen3; simp at hlen3
 have q0 := hcell3 0 hlen3; rw [zov] at q0; have hlit : (zal x).lits.getD 0 [] = (x.f3.getD 0 ByteArray.empty).data.toList := by unfold zal; dsimp only; cases x.f3 <;> rfl
 have hlz : (x.f3.getD 0 ByteArray.empty).size <= 100 := by
  have := fl ((zal x).lits.getD 0 []) (by
   have h : 0 < (zal x).lits.length := by unfold zal; dsimp only; rw [zn0]; exact hlen3
   rw [znt, zns h]; exact zoy h)
  rw [hlit, <- znY] at this; exact this
 subst hB3; have hM : zaP (zal x) (zac [y]) = (za3 ((zbr y.data.toList).filter fun z => Lib.contains z (x.f3.getD 0 ByteArray.empty).data.toList), true) := by unfold zaP; rw [e1, hlit]; rfl
 rw [hM]; clear hM hcell3 hlit; obtain ⟨f0, op, l2, l3, f4⟩ := x; dsimp only at *; subst hop; have hab := (zno w.heap.size w).alloc (znp _) (.cells #[.string f0, .int .i64 7, .slice B2 l2.length c2, .slice (some ⟨b3, o3, none⟩) l3.length c3, .int .i64 f4] 24); have HK := znl (zao w (.cells #[.string f0, .int .i64 7, .slice B2 l2.length c2, .slice (some ⟨b3, o3, none⟩) l3.length c3, .int .i64 f4] 24)); have HB1 := znl hab; have HR := znl (Kd.C_below hr hab); have H3 := znl (Kd.C_below h3 hab); have HG := znl (hG.below hab); clear hab; generalize l3.getD 0 ByteArray.empty = t at q0 hlz |-; have HQ := znl q0; have hl3 : (0 : Int) < (l3.length : Int) := by omega
 clear q0 hlen3; clear hG h3 hr hm hn hsz fop f1 f5 f6 f7 f8 fn fl e1 e2; go_enter Tryz.func59, Tryz.ntmps59
 go_upto_block 0 with fail; generalize w.alloc (.cells #[.string f0, .int .i64 7, .slice B2 l2.length c2, .slice (some ⟨b3, o3, none⟩) l3.length c3, .int .i64 f4] 24) = w1 at HB1 HK HR H3 HG |-; have k1 : w1.cell? ⟨w.heap.size, 1, none⟩ = some (.int .i64 7) := (zaa HK.out 1).trans rfl; have k3 : w1.cell? ⟨w.heap.size, 3, none⟩ = some (.slice (some ⟨b3, o3, none⟩) l3.length c3) := (zaa HK.out 3).trans rfl; have k4 : w1.cell? ⟨w.heap.size, 4, none⟩ = some (.int .i64 f4) := (zaa HK.out 4).trans rfl; have d1 : ((7 : Int) == 1) = false := by decide
 have d2 : ((7 : Int) == 2) = false := by decide
 have d3 : ((7 : Int) == 3) = false := by decide
 have d4 : ((7 : Int) == 4) = false := by decide
 have d5 : ((7 : Int) == 5) = false := by decide
 have d6 : ((7 : Int) == 6) = false := by decide
 have d7 : ((7 : Int) == 7) = true := by decide
 have p1 := zaf HB1.out HP.out; have hl : (0 : Int) < (([y] : List ByteArray).length : Int) := by simp
 have hLi := zet y w1 HG.out (by omega)
 have HY := znl hy; have HLi := znl hLi; have hgw : w.heap.size < w1.heap.size := za1 HK.out; have hP : ∀ (W : World) (x : ByteArray), Below w1.heap.size w1 W -> x.size < 4294967281 -> Go.Proofs.FnGives Tryz.prog 84 #[.pointer (some ⟨w.heap.size, 0, none⟩)] #[.string x] (.bool (!Lib.contains x.data.toList t.data.toList)) W := fun W x hW hx =>
  (zkT w.heap.size c3 l3.length b3 o3 t W (HG.out.below hW) ((hW.cell (p := ⟨w.heap.size, 3, none⟩) hgw).trans k3) hl3 ((hW.cell (p := ⟨b3, o3, none⟩) (Nat.lt_of_lt_of_le hb3 HB1.out.size)).trans (zaf HB1.out HQ.out)) x hx).mono fun e w' ⟨he, hw⟩ => ⟨he, 0, hw.symm⟩
 have HPr := znl hP; clear hLi hy hP hgw; go_wp2_with (first
  | (go_at_call 23; refine HLi.out.mono ?_; rintro e w2 ⟨v, rfl, hR, hb2⟩; have HR2 := znl hR; have HB2 := znl hb2; clear hR hb2)
  | (go_at_call 86; refine (zkS w1.heap.size w1.heap.size 84 #[.pointer (some ⟨w.heap.size, 0, none⟩)] zmN (fun x => Lib.contains x.data.toList t.data.toList) v (zbe y) w2 (Kd.own_of_R HR2.out) (znp _) HB2.out.size (fun W x hW hx => HPr.out W x (HB2.out.trans hW) hx) (zji y (by have := HY.out; omega))).mono ?_; rintro e w3 ⟨v3, rfl, hown3, hob, hgr⟩; obtain ⟨A3, n3, rfl, hcap3, hC3⟩ := Kd.R_reads (Kd.R_of_own (h1 := fun _ => rfl) (ok := fun _ => True) hown3 (fun _ _ => trivial)); have HC3 := znl hC3; have HB3 : Hid (Below w1.heap.size w2 w3) := znl (ziB hgr HB2.out.size (Kd.R_base HR2.out)); clear hcap3 hC3 hown3 hob hgr)
  | (go_at_call 79; refine (zhs A3 n3 _ w3 HC3.out (by rw [zfX fun z => Lib.contains z t.data.toList]; unfold zbe; rw [zdt]; exact zgc y.data.toList _ (zob _ _) (fun x hx => (List.mem_filter.1 hx).1) (by have h2 := HY.out; rw [znY] at h2; exact h2))).mono ?_; rintro e w5 ⟨rfl, hb5⟩; have HB5 := znl hb5; clear hb5))
 go_ret2
 refine ⟨by rw [zfX fun z => Lib.contains z t.data.toList]; unfold zbe; rw [zdt]; rfl, ?_⟩
 exact zad HB1.out HB1.out.size (zad (HB2.out.trans HB3.out) (HB2.out.trans HB3.out).size HB5.out)
theorem zmk (x : zay) (B2 : Option Addr) (c2 : Nat) (B3 : Option Addr) (c3 : Nat) (A : Option Addr) (c : Nat) (bs : List ByteArray) (w : World) (hG : GOK w) (h3 : Kd.C Kd.string w B3 x.f3.length x.f3) (hr : Kd.C Kd.string w A bs.length bs) (hc : bs.length <= c)
 (hm : mayC (zal x) = true) (hn : bs.length = x.f2.length) (hsz : ∀ b ∈ bs, b.size <= 4194304) (hop : x.f1 = 8) :
 Calls Tryz.prog 59 #[.agg #[.string x.f0, .int .i64 x.f1, .slice B2 x.f2.length c2, .slice B3 x.f3.length c3, .int .i64 x.f4], .slice A bs.length c] w (IsOf (zaP (zal x) (zac bs)) w) := by
 obtain ⟨fop, f1, f5, f6, f7, f8, fn, fl⟩ := zb8 hm; have e1 : (zal x).op = 8 := hop; have e2 : (zal x).args = bs.length := hn.symm; rw [e1] at f1 f5 f6 f7 f8; rw [e2] at f1 f5 f6; have h1 : bs.length = 1 := f1 (by omega) (by omega)
 obtain ⟨y, rfl⟩ : ∃ y, bs = [y] := by
  cases bs with
  | nil => simp at h1
  | cons y r => cases r with
   | nil => exact ⟨y, rfl⟩
   | cons z s => simp at h1
 have hy := hsz y (by simp)
 rcases za5 hr with h0 | ⟨b, o, rfl, hb, hcell⟩
 . cases h0
 have p0 := hcell 0 (by simp)
 rw [zov] at p0; have p0 : w.cell? ⟨b, o, none⟩ = some (.string y) := p0; have HP := znl p0; clear hcell p0 h1; have hlen3 : 0 < x.f3.length := by have := (f8 rfl).1; unfold zal at this; dsimp only at this; rw [zn0] at this; omega
 rcases za5 h3 with h0 | ⟨b3, o3, hB3, hb3, hcell3⟩
 . exfalso; rw [h0] at hlen3; simp at hlen3
 have q0 := hcell3 0 hlen3; rw [zov] at q0; have hlit : (zal x).lits.getD 0 [] = (x.f3.getD 0 ByteArray.empty).data.toList := by unfold zal; dsimp only; cases x.f3 <;> rfl
 have hlz : (x.f3.getD 0 ByteArray.empty).size <= 100 := by
  have := fl ((zal x).lits.getD 0 []) (by
   have h : 0 < (zal x).lits.length := by unfold zal; dsimp only; rw [zn0]; exact hlen3
   rw [znt, zns h]; exact zoy h)
  rw [hlit, <- znY] at this; exact this
 subst hB3; have hlen4 : 1 < x.f3.length := by have := (f8 rfl).1; unfold zal at this; dsimp only at this; rw [zn0] at this; omega
 have q1 := hcell3 1 hlen4; have hlit2 : (zal x).lits.getD 1 [] = (x.f3.getD 1 ByteArray.empty).data.toList := by
  unfold zal; dsimp only; rw [znt, List.getElem?_map, znt, zns hlen4]; rfl
 have hlz2 : (x.f3.getD 1 ByteArray.empty).size <= 100 := by
  have := fl ((zal x).lits.getD 1 []) (by
   have h : 1 < (zal x).lits.length := by unfold zal; dsimp only; rw [zn0]; exact hlen4
   rw [znt, zns h]; exact zoy h)
  rw [hlit2, <- znY] at this; exact this
 have hne := (f8 rfl).2; rw [hlit] at hne; have hM : zaP (zal x) (zac [y]) = (Lib.replaceAll y.data.toList (x.f3.getD 0 ByteArray.empty).data.toList (x.f3.getD 1 ByteArray.empty).data.toList, true) := by unfold zaP; rw [e1, hlit, hlit2]; rfl
 rw [hM]; clear hM hcell3 hlit hlit2; obtain ⟨f0, op, l2, l3, f4⟩ := x; dsimp only at *; subst hop; have hab := (zno w.heap.size w).alloc (znp _) (.cells #[.string f0, .int .i64 8, .slice B2 l2.length c2, .slice (some ⟨b3, o3, none⟩) l3.length c3, .int .i64 f4] 24); have HK := znl (zao w (.cells #[.string f0, .int .i64 8, .slice B2 l2.length c2, .slice (some ⟨b3, o3, none⟩) l3.length c3, .int .i64 f4] 24)); have HB1 := znl hab; have HR := znl (Kd.C_below hr hab); have H3 := znl (Kd.C_below h3 hab); have HG := znl (hG.below hab); clear hab; generalize l3.getD 0 ByteArray.empty = t at q0 hlz hne |-; generalize l3.getD 1 ByteArray.empty = t2 at q1 hlz2 |-; have ht1 : 1 <= t.size := by rw [znY]; cases h : t.data.toList with | nil => exact absurd h hne | cons _ _ => simp
 have HQ := znl q0; have HQ1 := znl q1; have hl3 : (0 : Int) < (l3.length : Int) := by omega
 have hl4 : (1 : Int) < (l3.length : Int) := by omega
 have HRa := znl (fun W (hW : GOK W) => zkz y t t2 W hW ht1 (by omega) hlz2)
 clear q0 q1 hlen3 hlen4 hne ht1 hlz hlz2; clear hG h3 hr hm hn hsz fop f1 f5 f6 f7 f8 fn fl e1 e2 hy; go_enter Tryz.func59, Tryz.ntmps59
 go_upto_block 0 with fail; generalize w.alloc (.cells #[.string f0, .int .i64 8, .slice B2 l2.length c2, .slice (some ⟨b3, o3, none⟩) l3.length c3, .int .i64 f4] 24) = w1 at HB1 HK HR H3 HG |-; have k1 : w1.cell? ⟨w.heap.size, 1, none⟩ = some (.int .i64 8) := (zaa HK.out 1).trans rfl; have k3 : w1.cell? ⟨w.heap.size, 3, none⟩ = some (.slice (some ⟨b3, o3, none⟩) l3.length c3) := (zaa HK.out 3).trans rfl; have k4 : w1.cell? ⟨w.heap.size, 4, none⟩ = some (.int .i64 f4) := (zaa HK.out 4).trans rfl; have d1 : ((8 : Int) == 1) = false := by decide
 have d2 : ((8 : Int) == 2) = false := by decide
 have d3 : ((8 : Int) == 3) = false := by decide
 have d4 : ((8 : Int) == 4) = false := by decide
 have d5 : ((8 : Int) == 5) = false := by decide
 have d6 : ((8 : Int) == 6) = false := by decide
 have d7 : ((8 : Int) == 7) = false := by decide
 have d8 : ((8 : Int) == 8) = true := by decide
 generalize Lib.replaceAll y.data.toList t.data.toList t2.data.toList = z at HRa |-; have hl : (0 : Int) < (([y] : List ByteArray).length : Int) := by simp
 have hl3n : 0 < l3.length := by omega
 have hl4n : 1 < l3.length := by omega
 have Sof : ∀ W, Below w1.heap.size w1 W -> W.cell? ⟨b, o, none⟩ = some (.string y) /\ W.cell? ⟨b3, o3, none⟩ = some (.string t) /\ W.cell? ⟨b3, o3 + 1, none⟩ = some (.string t2) /\ W.cell? ⟨w.heap.size, 3, none⟩ = some (.slice (some ⟨b3, o3, none⟩) l3.length c3) := fun W hW =>
  ⟨zaf hW (zaf HB1.out HP.out), zaf hW (zaf HB1.out HQ.out), zaf hW (zaf HB1.out HQ1.out), zaf hW k3⟩
 have HSo := znl Sof; have HBx : Hid (Below w1.heap.size w1 w1.drew) := znl (zbh (zno _ _)); have HGx := znl HG.out.drew; clear Sof; go_wp2_with fail; go_region_held3 (fun W => W.cell? ⟨b, o, none⟩ = some (.string y) /\ W.cell? ⟨b3, o3, none⟩ = some (.string t) /\ W.cell? ⟨b3, o3 + 1, none⟩ = some (.string t2) /\ W.cell? ⟨w.heap.size, 3, none⟩ = some (.slice (some ⟨b3, o3, none⟩) l3.length c3))
  (exact HSo.out _ HBx.out)
  (first | (go_at_call 87; refine (HRa.out _ HGx.out).mono ?_; rintro e w2 ⟨rfl, hb2⟩; have HBx := znl (zad HBx.out HBx.out.size hb2); clear hb2))
 all_goals
  go_wp2_with fail; go_ret2
  exact ⟨rfl, zad HB1.out HB1.out.size HBx.out⟩
theorem zma (x : zay) (B2 : Option Addr) (c2 : Nat) (B3 : Option Addr) (c3 : Nat) (A : Option Addr) (c : Nat) (bs : List ByteArray) (w : World) (hG : GOK w) (h3 : Kd.C Kd.string w B3 x.f3.length x.f3) (hr : Kd.C Kd.string w A bs.length bs) (hc : bs.length <= c)
 (hm : mayC (zal x) = true) (hn : bs.length = x.f2.length) (hsz : ∀ b ∈ bs, b.size <= 4194304) (hop : x.f1 = 9) :
 Calls Tryz.prog 59 #[.agg #[.string x.f0, .int .i64 x.f1, .slice B2 x.f2.length c2, .slice B3 x.f3.length c3, .int .i64 x.f4], .slice A bs.length c] w (IsOf (zaP (zal x) (zac bs)) w) := by
 obtain ⟨fop, f1, f5, f6, f7, f8, fn, fl⟩ := zb8 hm; have e1 : (zal x).op = 9 := hop; have e2 : (zal x).args = bs.length := hn.symm; rw [e1] at f1 f5 f6 f7 f8; rw [e2] at f1 f5 f6; have h1 : bs.length = 1 := f1 (by omega) (by omega)
 obtain ⟨y, rfl⟩ : ∃ y, bs = [y] := by
  cases bs with
  | nil => simp at h1
  | cons y r => cases r with
   | nil => exact ⟨y, rfl⟩
   | cons z s => simp at h1
 have hy := hsz y (by simp)
 rcases za5 hr with h0 | ⟨b, o, rfl, hb, hcell⟩
 . cases h0
 have p0 := hcell 0 (by simp)
 rw [zov] at p0; have p0 : w.cell? ⟨b, o, none⟩ = some (.string y) := p0; have HP := znl p0; clear hcell p0 h1; have hM : zaP (zal x) (zac [y]) = (y.data.toList.take x.f4.toNat, true) := by unfold zaP; rw [e1]; rfl
 rw [hM]; clear hM; have hf4 : 0 <= x.f4 /\ x.f4 <= 2000 := fn; obtain ⟨f0, op, l2, l3, f4⟩ := x; dsimp only at *; subst hop; have hab := (zno w.heap.size w).alloc (znp _) (.cells #[.string f0, .int .i64 9, .slice B2 l2.length c2, .slice B3 l3.length c3, .int .i64 f4] 24); have HK := znl (zao w (.cells #[.string f0, .int .i64 9, .slice B2 l2.length c2, .slice B3 l3.length c3, .int .i64 f4] 24)); have HB1 := znl hab; have HR := znl (Kd.C_below hr hab); have H3 := znl (Kd.C_below h3 hab); have HG := znl (hG.below hab); clear hab; clear hG h3 hr hm hn hsz fop f1 f5 f6 f7 f8 fn fl e1 e2; go_enter Tryz.func59, Tryz.ntmps59
 go_upto_block 0 with fail; generalize w.alloc (.cells #[.string f0, .int .i64 9, .slice B2 l2.length c2, .slice B3 l3.length c3, .int .i64 f4] 24) = w1 at HB1 HK HR H3 HG |-; have k1 : w1.cell? ⟨w.heap.size, 1, none⟩ = some (.int .i64 9) := (zaa HK.out 1).trans rfl; have k3 : w1.cell? ⟨w.heap.size, 3, none⟩ = some (.slice B3 l3.length c3) := (zaa HK.out 3).trans rfl; have k4 : w1.cell? ⟨w.heap.size, 4, none⟩ = some (.int .i64 f4) := (zaa HK.out 4).trans rfl; have d1 : ((9 : Int) == 1) = false := by decide
 have d2 : ((9 : Int) == 2) = false := by decide
 have d3 : ((9 : Int) == 3) = false := by decide
 have d4 : ((9 : Int) == 4) = false := by decide
 have d5 : ((9 : Int) == 5) = false := by decide
 have d6 : ((9 : Int) == 6) = false := by decide
 have d7 : ((9 : Int) == 7) = false := by decide
 have d8 : ((9 : Int) == 8) = false := by decide
 have p1 := zaf HB1.out HP.out; have hl : (0 : Int) < (([y] : List ByteArray).length : Int) := by simp
 obtain ⟨n, rfl⟩ : ∃ n : Nat, f4 = (n : Int) := ⟨f4.toNat, by omega⟩
 have hn0 : n <= 2000 := by omega
 clear hf4; by_cases hmin : (y.size : Int) <= (n : Int)
 . have hz : min (y.size : Int) (n : Int) = (y.size : Int) := by omega
   have hv : mk (y.data.toList.take ((n : Int)).toNat) = y := by
    apply zbO
    rw [za2, Int.toNat_natCast, zox (by rw [<- znY]; omega)]
   have HV := znl hv; have hb0 : (0 : Int) <= (y.size : Int) := by omega
   clear hv; go_wp2_with fail; go_quiet (fail)
   go_wp2_with fail; go_ret2
   exact ⟨by rw [HV.out]; rfl, by first | exact HB1.out | exact zap HB1.out _⟩
 . have hz : min (y.size : Int) (n : Int) = (n : Int) := by omega
   have hv : mk (y.data.toList.take ((n : Int)).toNat) = y.extract 0 n := by
    rw [zee, Int.toNat_natCast, List.drop_zero, Nat.sub_zero]
   have HV := znl hv; have hb0 : (0 : Int) <= (n : Int) := by omega
   have hb1 : (n : Int) <= (y.size : Int) := by omega
   clear hv; go_wp2_with fail; go_quiet (fail)
   go_wp2_with fail; go_ret2
   exact ⟨by rw [HV.out]; rfl, by first | exact HB1.out | exact zap HB1.out _⟩

end Go.Proofs.YtdpgdnpddndeoaaGreatDoor.X
