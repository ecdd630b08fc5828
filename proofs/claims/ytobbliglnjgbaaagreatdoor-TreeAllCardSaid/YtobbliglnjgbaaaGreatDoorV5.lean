/-
  (Ph) printed by the kit's print for this seat; what is not reached is left out.
  The reference's names: its Parts and its May tell what a name's parts are, and whether a name may be.
  The tree, the reference's tree, a clone, in one memory: what each act does to them all.
  Arguments that are rows: what a row's reading gives the walks (Kd.C), and its bulk.
  Arguments that are rows of Ops (a kind, a name, bytes).
  TreeAll, walked by hand: whatever is written, erased, read, the tree does as the reference's.
-/
import Derived.Test.YtobbliglnjgbaaaGreatDoorProg
import Derived.Below
import Derived.Deep.Draws
import Derived.Deep.AppendLies
import Derived.Maps.AppendAt
import Derived.OwnWalk
import Derived.Laws.BytesArg
import Derived.Laws.MakeOwn
import Derived.Laws.OwnMore
import Derived.Deep.OwnRows
import Derived.Tactics
import Derived.Lib.ConvBytes
import Derived.Laws.Slices
import Derived.WalkKit
import Derived.KernelRfl
import Derived.RowKit3
import Derived.Deep.LoopGhost
import Derived.Deep.QuietTactic
import Derived.BigQuiet
import Derived.WideLaws
import Derived.Deep.DeepCutAuto
import Derived.Deep.CutBlock
import Derived.Deep.RegionHeld3
import Derived.Laws.Rows
import Derived.Lib.AppendStr
import Derived.ArgAppend
import Derived.Laws.IdiomCopy
import Derived.OrdersHeld
import Derived.Laws.BitsLemmas
import Derived.RowKit
import Derived.Test.YtobbliglnjgbaaaGreatDoorRows
import Derived.Deep.Slices
import Derived.ChangeSame
import Derived.SizedLaws
import Derived.Deep.Strs
import Derived.Test.YtobbliglnjgbaaaGreatDoorV3
import Derived.Test.YtobbliglnjgbaaaGreatDoorV4
import Derived.Test.YtobbliglnjgbaaaGreatDoorV0
import Derived.Test.YtobbliglnjgbaaaGreatDoorV1
namespace Go.Proofs.YtobbliglnjgbaaaGreatDoor.Ph
open Go.Proofs.YtobbliglnjgbaaaGreatDoor.X Go.Proofs.YtobbliglnjgbaaaGreatDoor.Pb Go.Proofs.YtobbliglnjgbaaaGreatDoor.Pc Go.Proofs.YtobbliglnjgbaaaGreatDoor.Pe
open Go.RowKit Go.Proofs.YtobbliglnjgbaaaGreatDoorW.PrintWords Go.Proofs.YtobbliglnjgbaaaGreatDoorW.PrintLast Go.Proofs.YtobbliglnjgbaaaGreatDoorW.PrintMore
attribute [local go_sem] max2_int min2_int max_two min_two max_three min_three max_four min_four   -- for this text's walks alone
set_option linter.unusedVariables false
set_option linter.unusedSimpArgs false



def errW : Option Int → Value
 | none => .nilIface
 | some c => .iface 0 (.int .i64 c)
theorem errW_none : errW none = .nilIface := rfl
theorem errW_some (c : Int) : errW (some c) = .iface 0 (.int .i64 c) := rfl

-- the values' own types

end Go.Proofs.YtobbliglnjgbaaaGreatDoor.Ph
namespace Go.Proofs.YtobbliglnjgbaaaGreatDoor.Ph
open Go.Proofs.YtobbliglnjgbaaaGreatDoor.X Go.Proofs.YtobbliglnjgbaaaGreatDoor.Pb Go.Proofs.YtobbliglnjgbaaaGreatDoor.Pc Go.Proofs.YtobbliglnjgbaaaGreatDoor.Pe
open Go.RowKit Go.Proofs.YtobbliglnjgbaaaGreatDoorW.PrintWords Go.Proofs.YtobbliglnjgbaaaGreatDoorW.PrintLast Go.Proofs.YtobbliglnjgbaaaGreatDoorW.PrintMore
attribute [local go_sem] max2_int min2_int max_two min_two max_three min_three max_four min_four   -- for this text's walks alone
set_option linter.unusedVariables false
set_option linter.unusedSimpArgs false
theorem mk_lit_size (a : Array UInt8) : (ByteArray.mk a).size = a.size := rfl

-- EXT: function 31 (shipwrightref1_Sign)

def shipwrightref1_Parts.l0 : Nat → ByteArray → List ByteArray → Int → Option (List ByteArray)
 | 0, _, _, _ => none
 | k + 1, x0, x3, x4 => if x4 < (x0.size : Int) then (if 0 ≤ x4 then (if (bt x0 x4) = 47 then (if x3.length < 8796093022208 then (shipwrightref1_Parts.l0 k x0 (x3 ++ [(⟨#[]⟩ : ByteArray)]) (wrap64 (x4 + 1))) else (none)) else (if 0 ≤ (wrap64 ((x3.length : Int) - 1)) then (if (wrap64 ((x3.length : Int) - 1)) < (x3.length : Int) then (if x4 ≤ (wrap64 (x4 + 1)) then (if (wrap64 (x4 + 1)) ≤ (x0.size : Int) then (if (rdOf ByteArray.empty x3 (wrap64 ((x3.length : Int) - 1))).size + (x0.extract (x4 : Int).toNat ((wrap64 (x4 + 1)) : Int).toNat).size ≤ 9223372036854775807 then (shipwrightref1_Parts.l0 k x0 (x3.set ((wrap64 ((x3.length : Int) - 1)) : Int).toNat ((rdOf ByteArray.empty x3 (wrap64 ((x3.length : Int) - 1))) ++ (x0.extract (x4 : Int).toNat ((wrap64 (x4 + 1)) : Int).toNat))) (wrap64 (x4 + 1))) else (none)) else (none)) else (none)) else (none)) else (none))) else (none)) else (some x3)
def shipwrightref1_Parts.f (k : Nat) (a0 : ByteArray) : Option (List ByteArray) := shipwrightref1_Parts.l0 k a0 (([(⟨#[]⟩ : ByteArray)] : List ByteArray)) 0
theorem shipwrightref1_Parts.mono_l : ∀ k, (∀ y0 y1 y2, LeO (shipwrightref1_Parts.l0 k y0 y1 y2) (shipwrightref1_Parts.l0 (k + 1) y0 y1 y2))
 | 0 => fun _ _ _ r h => by simp [shipwrightref1_Parts.l0] at h
 | k + 1 => by
  have ih0 := shipwrightref1_Parts.mono_l k
  · intro y0 y1 y2
    unfold shipwrightref1_Parts.l0
    repeat' first
    | (with_reducible exact ih0 _ _ _)
    | (with_reducible exact LeO.refl _)
    | (with_reducible exact LeO.none _)
    | (with_reducible refine LeO.ite ?_ ?_)
    | (with_reducible refine LeO.bind ?_ (fun _ => ?_))
    | exact ih0 _ _ _
    | exact LeO.none _
    | refine LeO.ite ?_ ?_
    | refine LeO.bind ?_ (fun _ => ?_)
theorem shipwrightref1_Parts.mono : ∀ a0 k, LeO (shipwrightref1_Parts.f k a0) (shipwrightref1_Parts.f (k + 1) a0) := by
 intro a0 k
 have ih0 := shipwrightref1_Parts.mono_l k
 unfold shipwrightref1_Parts.f
 repeat' first
  | (with_reducible exact ih0 _ _ _)
  | (with_reducible exact LeO.refl _)
  | (with_reducible exact LeO.none _)
  | (with_reducible refine LeO.ite ?_ ?_)
  | (with_reducible refine LeO.bind ?_ (fun _ => ?_))
  | exact ih0 _ _ _
  | exact LeO.none _
  | refine LeO.ite ?_ ?_
  | refine LeO.bind ?_ (fun _ => ?_)
def shipwrightref1_Parts.T7 : Bool × List (List Nat × List Nat) := (true, [([], []), ([], []), ([1], [1]), ([2], [2]), ([0, 3], [0, 3]), ([4], [4]), ([], []), ([], []), ([], []), ([8], [8]), ([6, 7, 9], [6, 7, 9]), ([5, 10], [5, 10]), ([0, 3, 0, 1, 2, 3, 4, 5, 6, 7, 8, 9, 10, 11], [0, 3]), ([12, 11, 0, 1, 2, 3, 4, 5, 6, 7, 8, 9, 10, 11], [11, 12])])
def shipwrightref1_Parts.B7 : List Nat := [0, 0, 2, 6, 15, 31, 0, 0, 0, 256, 960, 2047, 4095, 8191]
theorem shipwrightref1_Parts.tab7 : rtab .any (opsOf Tryz.f71 7) = shipwrightref1_Parts.T7 := by kernel_rfl
theorem shipwrightref1_Parts.bits7 : waitsOk shipwrightref1_Parts.T7.2 shipwrightref1_Parts.B7 = true := by kernel_rfl
set_option maxHeartbeats 8000000 in
set_option maxRecDepth 100000 in
theorem shipwrightref1_Parts.calls (k : Nat) (a0 : ByteArray) (r : List ByteArray) (w : World) (hG : GOK w) (h : shipwrightref1_Parts.f k a0 = some r) :
 Calls Tryz.prog 71 #[.string a0] w fun e w' => ∃ v0_ : Value, e = .returned (v0_) ∧ Kd.R Kd.string 9 w' w.heap.size (fun _ => True) v0_ r ∧ Below w.heap.size w w' := by
 have HB := Aside0.mk (Below.refl w.heap.size w)
 have HG := Aside0.mk hG
 clear hG
 have H : (shipwrightref1_Parts.l0 k a0 (([(⟨#[]⟩ : ByteArray)] : List ByteArray)) 0) = some r := h
 clear h
 obtain ⟨y101, hy101⟩ : ∃ y_ : List ByteArray, y_ = (([(⟨#[]⟩ : ByteArray)] : List ByteArray)) := ⟨_, rfl⟩
 replace H : (shipwrightref1_Parts.l0 k a0 y101 0) = some r := by first | (rw [hy101]; with_reducible exact H) | (have H2_ := (Option.bind_some _ _).symm.trans H; rw [hy101]; with_reducible exact H2_) | (have H2_ := (Option.bind_some _ _).symm.trans H; with_reducible exact H2_) | with_reducible exact H | (rw [hy101]; exact H) | exact H
 have Ny101 := Aside0.mk hy101
 clear hy101
 have H' := Aside0.mk H
 clear H
 go_enter Tryz.func71, Tryz.ntmps71
 go_wp2_with (first | ((with_reducible refine gate_dst (N := 5) rfl ?_); refine Kd.R_lit Kd.string _ 9 ?hg (N := 5) ?hd (xs := ([(⟨#[]⟩ : ByteArray)] : List ByteArray)) (inner := [.string (⟨#[]⟩ : ByteArray)]) (ok := fun _ => True) (okp := fun _ => True) ?hr ?hp (fun _ hk => hk) trivial (Below.refl _ _) (Nat.le_refl _) (by simp) ?_; (case hd => rfl); (case hg => rfl); (case hr => first | (go_simp; done) | (go_simp; rfl)); (case hp => exact (Reps.one (show Kd.M Kd.string _ _ _ (⟨#[]⟩ : ByteArray) [.string (⟨#[]⟩ : ByteArray)] from rfl) (Reps.none _ _))); intro v102 w2 ho3 hb hg_ hnew_; clear hg_ hnew_; (first | rw [← Ny101.out] at ho3 | (simp only [Int.reduceToNat] at ho3; rw [← Ny101.out] at ho3)); have n0_ := Aside0.mk (Kd.R_lower ho3 (below_size (by repeat (first | (with_reducible first | exact HB.out | apply below_alloc | apply pw_below_drewN | apply below_drew1) | exact HB.out)))); have n1_ := Aside0.mk (below_step (by repeat (first | (with_reducible first | exact HB.out | apply below_alloc | apply pw_below_drewN | apply below_drew1) | exact HB.out)) hb); clear HB; have HO103 := n0_; have HB := n1_; clear n0_ n1_; clear hb ho3))
 go_loopg [3, 4] k (fun kq v3 v4 w' => ∃ (x3_1 : List ByteArray) (x4_1 : Int), v4 = .int .i64 x4_1 ∧ Aside0 (shipwrightref1_Parts.l0 kq a0 x3_1 x4_1 = some r) ∧ Aside0 (kq ≤ k) ∧ Aside0 (Kd.R Kd.string 9 w' w.heap.size (fun _ => True) v3 x3_1) ∧ Aside0 (Below w.heap.size w w'))
 case atStart => exact ⟨(y101), (0), (by first | rfl | (simp; done) | (simp [*]; done) | (simp [bne]; done) | (simp [*, bne]; done)), H', ⟨Nat.le_refl _⟩, ⟨by (with_reducible repeat (first | apply Kd.R_alloc | apply Kd.R_drewN | apply Kd.R_drew)); exact HO103.out⟩, ⟨by repeat (first | (with_reducible first | exact HB.out | apply below_alloc | apply pw_below_drewN | apply below_drew1) | exact HB.out)⟩⟩
 case round =>
  clear H'
  try clear p2
  obtain ⟨x3_1, x4_1, rfl, HA, HK1, HO_3, HB⟩ := hrel
  cases gk with
  | zero => exact absurd HA.out (by simp [shipwrightref1_Parts.l0])
  | succ k1 =>
   have H := HA.out
   clear HA
   simp only [shipwrightref1_Parts.l0] at H
   by_cases c4 : x4_1 < (a0.size : Int)
   · rw [if_pos c4] at H
     have c4b0 : decide (x4_1 < (a0.size : Int)) = true := decide_eq_true c4
     clear c4
     by_cases c5 : 0 ≤ x4_1
     · rw [if_pos c5] at H
       have c5b0 : decide (0 ≤ x4_1) = true := decide_eq_true c5
       clear c5
       by_cases c7 : (bt a0 x4_1) = 47
       · rw [if_pos c7] at H
         have c7b0 : ((bt a0 x4_1) == 47) = true := beq_iff_eq.mpr c7
         have c7b1 : ((bt a0 x4_1) != 47) = false := bne_eq_false_iff_eq.mpr c7
         clear c7
         by_cases c8 : x3_1.length < 8796093022208
         · rw [if_pos c8] at H
           have LMc8 := Aside0.mk c8
           clear c8
           obtain ⟨y104, hy104⟩ : ∃ y_ : List ByteArray, y_ = (x3_1 ++ [(⟨#[]⟩ : ByteArray)]) := ⟨_, rfl⟩
           replace H : (shipwrightref1_Parts.l0 k1 a0 y104 (wrap64 (x4_1 + 1))) = some r := by first | (rw [hy104]; with_reducible exact H) | (have H2_ := (Option.bind_some _ _).symm.trans H; rw [hy104]; with_reducible exact H2_) | (have H2_ := (Option.bind_some _ _).symm.trans H; with_reducible exact H2_) | with_reducible exact H | (rw [hy104]; exact H) | exact H
           have Ny104 := Aside0.mk hy104
           clear hy104
           have H' := Aside0.mk H
           clear H
           have p6 : 0 ≤ (x4_1 : Int) := of_decide_eq_true (by first | (with_reducible assumption) | assumption)
           have q6 : x4_1 < (a0.size : Int) := of_decide_eq_true (by first | (with_reducible assumption) | assumption)
           have hx6 := bt_at a0 x4_1
           replace p6 := eq_true p6
           replace q6 := eq_true q6
           go_wp2_with (first | ((with_reducible refine gate_builtin (b := .append) (xs := #[.tmp 16, .tmp 17]) rfl ?_); at_builtin; refine Kd.R_append Kd.string (w0 := w) w.heap.size rfl (.tmp 16) (.tmp 17) 28 9 (.string ⟨#[]⟩) 16 rfl Tryz.underlying28 info9 rfl (by decide) (by omega) u3 x3_1 (⟨#[]⟩ : ByteArray) [.string (⟨#[]⟩ : ByteArray)] (fun _ => True) (fun _ => False) rfl rfl ?aP (fun _ hk => hk.elim) ?aF ?aO ?aB ?aS ?aL ?_; (case aP => exact rfl); (case aB => exact (by repeat (first | (with_reducible first | exact HB.out | apply below_alloc | apply pw_below_drewN | apply below_drew1) | exact HB.out))); (case aF => exact (fun _ _ => trivial)); (case aO => exact (by (with_reducible repeat (first | apply Kd.R_alloc | apply Kd.R_drewN | apply Kd.R_drew)); exact HO_3.out)); (case aS => exact (below_size (by repeat (first | (with_reducible first | exact HB.out | apply below_alloc | apply pw_below_drewN | apply below_drew1) | exact HB.out)))); (case aL => have := LMc8.out; omega); intro v105 w9 ho hb hg hat; rw [← Ny104.out] at ho; have n0_ := Aside0.mk (hb); have n1_ := Aside0.mk (ho); clear HB; clear HO_3; have HB := n0_; have HO106 := n1_; clear n0_ n1_; clear ho hb hg hat))
           go_roundg k1
           case measure => have := HK1.out; omega
           case rel => exact ⟨(y104), (wrap64 (x4_1 + 1)), (by first | rfl | (simp; done) | (simp [*]; done) | (simp [bne]; done) | (simp [*, bne]; done)), H', ⟨by have := HK1.out; omega⟩, ⟨by (with_reducible repeat (first | apply Kd.R_alloc | apply Kd.R_drewN | apply Kd.R_drew)); exact HO106.out⟩, ⟨by repeat (first | (with_reducible first | exact HB.out | apply below_alloc | apply pw_below_drewN | apply below_drew1) | exact HB.out)⟩⟩
         · rw [if_neg c8] at H
           exact absurd H (by simp)
       · rw [if_neg c7] at H
         have c7b0 : ((bt a0 x4_1) == 47) = false := beq_eq_false_iff_ne.mpr c7
         have c7b1 : ((bt a0 x4_1) != 47) = true := bne_iff_ne.mpr c7
         obtain ⟨ji10, hji10⟩ : ∃ j_ : Int, (wrap64 ((x3_1.length : Int) - 1)) = j_ := ⟨_, rfl⟩
         replace H : (if 0 ≤ (ji10) then (if (ji10) < (x3_1.length : Int) then (if x4_1 ≤ (wrap64 (x4_1 + 1)) then (if (wrap64 (x4_1 + 1)) ≤ (a0.size : Int) then (if (rdOf ByteArray.empty x3_1 (ji10)).size + (a0.extract (x4_1 : Int).toNat ((wrap64 (x4_1 + 1)) : Int).toNat).size ≤ 9223372036854775807 then (shipwrightref1_Parts.l0 k1 a0 (x3_1.set ((ji10) : Int).toNat ((rdOf ByteArray.empty x3_1 (ji10)) ++ (a0.extract (x4_1 : Int).toNat ((wrap64 (x4_1 + 1)) : Int).toNat))) (wrap64 (x4_1 + 1))) else (none)) else (none)) else (none)) else (none)) else (none)) = some r := by first | (rw [hji10] at H; exact H) | (simp only [hji10] at H ⊢; exact H)
         have hji10w : (IntKind.i64.wrap ((x3_1.length : Int) - 1)) = ji10 := (i64_w _).trans hji10
         by_cases c11 : 0 ≤ (ji10)
         · rw [if_pos c11] at H
           have c11b0 : decide (0 ≤ (ji10)) = true := decide_eq_true c11
           clear c11
           by_cases c12 : (ji10) < (x3_1.length : Int)
           · rw [if_pos c12] at H
             have c12b0 : decide ((ji10) < (x3_1.length : Int)) = true := decide_eq_true c12
             clear c12
             have c13b0 := eq_true (of_decide_eq_true (by first | (with_reducible assumption) | assumption) : 0 ≤ x4_1)
             by_cases c14 : x4_1 ≤ (wrap64 (x4_1 + 1))
             · rw [if_pos c14] at H
               have c14b0 := eq_true c14
               have c14b1 : decide (x4_1 ≤ (wrap64 (x4_1 + 1))) = true := decide_eq_true c14
               by_cases c15 : (wrap64 (x4_1 + 1)) ≤ (a0.size : Int)
               · rw [if_pos c15] at H
                 have c15b0 := eq_true c15
                 have c15b1 : decide ((wrap64 (x4_1 + 1)) ≤ (a0.size : Int)) = true := decide_eq_true c15
                 by_cases c16 : (rdOf ByteArray.empty x3_1 (ji10)).size + (a0.extract (x4_1 : Int).toNat ((wrap64 (x4_1 + 1)) : Int).toNat).size ≤ 9223372036854775807
                 · rw [if_pos c16] at H
                   have c16b0 := eq_true c16
                   have c16b1 : decide ((rdOf ByteArray.empty x3_1 (ji10)).size + (a0.extract (x4_1 : Int).toNat ((wrap64 (x4_1 + 1)) : Int).toNat).size ≤ 9223372036854775807) = true := decide_eq_true c16
                   try have c16b2 : (9223372036854775807 < (rdOf ByteArray.empty x3_1 (ji10)).size + (a0.extract (x4_1 : Int).toNat ((wrap64 (x4_1 + 1)) : Int).toNat).size) = False := eq_false (Nat.not_lt.2 c16)
                   try (have c16b4 := c16b2; simp only [ByteArray.size_extract, Nat.min_eq_left (show (wrap64 (x4_1 + 1)).toNat ≤ a0.size from by have h_ := of_decide_eq_true (show decide (wrap64 (x4_1 + 1) ≤ (a0.size : Int)) = true by assumption); omega)] at c16b4)
                   try (have c16b3 := c16b2; simp only [ByteArray.size_append, mk_lit_size, List.size_toArray, List.length_cons, List.length_nil, Nat.reduceAdd, Nat.zero_add] at c16b3)
                   obtain ⟨y108, hy108⟩ : ∃ y_ : List ByteArray, y_ = (x3_1.set ((ji10) : Int).toNat ((rdOf ByteArray.empty x3_1 (ji10)) ++ (a0.extract (x4_1 : Int).toNat ((wrap64 (x4_1 + 1)) : Int).toNat))) := ⟨_, rfl⟩
                   replace H : (shipwrightref1_Parts.l0 k1 a0 y108 (wrap64 (x4_1 + 1))) = some r := by first | (rw [hy108]; with_reducible exact H) | (have H2_ := (Option.bind_some _ _).symm.trans H; rw [hy108]; with_reducible exact H2_) | (have H2_ := (Option.bind_some _ _).symm.trans H; with_reducible exact H2_) | with_reducible exact H | (rw [hy108]; exact H) | exact H
                   have Ny108 := Aside0.mk hy108
                   clear hy108
                   have H' := Aside0.mk H
                   clear H
                   have p6 : 0 ≤ (x4_1 : Int) := of_decide_eq_true (by first | (with_reducible assumption) | assumption)
                   have q6 : x4_1 < (a0.size : Int) := of_decide_eq_true (by first | (with_reducible assumption) | assumption)
                   have hx6 := bt_at a0 x4_1
                   replace p6 := eq_true p6
                   replace q6 := eq_true q6
                   try go_wp2
                   have n0_ := Aside0.mk (Kd.R_drew HO_3.out)
                   have n1_ := Aside0.mk (below_drew1 HB.out)
                   clear HO_3
                   clear HB
                   have HO_3 := n0_
                   have HB := n1_
                   clear n0_ n1_
                   obtain ⟨Ao19, co19, eo19⟩ := Kd.R_slice HO_3.out
                   (first | subst eo19 | (injection eo19 with f1_ f2_ f3_; have f4_ := f1_.symm; have f5_ := f3_.symm; clear f1_ f2_ f3_; subst f4_; subst f5_))
                   have p107 : 0 ≤ ((ji10) : Int) := of_decide_eq_true (by first | (with_reducible assumption) | assumption)
                   have q107 : (ji10) < (x3_1.length : Int) := of_decide_eq_true (by first | (with_reducible assumption) | assumption)
                   obtain ⟨ad107, e107, hx107_0⟩ := Kd.at_string (Kd.R_reads' HO_3.out).2.2 (ji10) p107 q107
                   cases e107
                   replace p107 := eq_true p107
                   replace q107 := eq_true q107
                   have p17 : 0 ≤ ((ji10) : Int) := of_decide_eq_true (by first | (with_reducible assumption) | assumption)
                   have q17 : ((ji10) : Int) < ((x3_1.length : Int) : Int) := of_decide_eq_true (by first | (with_reducible assumption) | assumption)
                   obtain ⟨go17, co17, eo17, gb17, gl17, cl17, HG17⟩ := Kd.R_form HO_3.out (by omega)
                   (first | cases eo17 | (injection eo17 with ea_ en_ ec_; (first | subst ea_ | (injection ea_ with ea_; subst ea_)); subst ec_; clear en_))
                   have GB17 := Aside0.mk gb17
                   have GG17 := Aside0.mk HG17
                   clear gb17 gl17 HG17
                   (first | simp only [add_plain] at hx107_0 | skip)
                   obtain ⟨hx17_0, hf17_0⟩ := Kd.R_celln (⟨#[]⟩ : ByteArray) HO_3.out ((ji10) : Int) p17 q17
                   replace p17 := eq_true p17
                   replace q17 := eq_true q17
                   have HP20 := Kd.R_putn HO_3.out ((ji10) : Int) ((rdOf ByteArray.empty x3_1 (ji10)) ++ (a0.extract (x4_1 : Int).toNat ((wrap64 (x4_1 + 1)) : Int).toNat))
                   rw [← Ny108.out] at HP20
                   have HQ20 := Aside0.mk HP20
                   clear HP20
                   refine start_ (n := 14) (S := fun w' => w'.cell? ⟨go17, ((ji10)).toNat, none⟩ = some (.string (rdOf ByteArray.empty x3_1 (ji10)))) (ds := [13]) #[false, false, false, false, false, false, false, false, false, false, false, false, false, false] (by kernel_rfl) rfl rfl (hx107_0) (fun hHeld => ?_); refine with_tabW shipwrightref1_Parts.tab7 shipwrightref1_Parts.bits7 (fun HT_ HW_ => ?_)
                   generalize wr.drew = w18 at HO_3 HB GG17 HQ20 hf17_0 hx107_0 hx17_0 hHeld ⊢
                   refine pure_ (i := 0) (N := some 19) (v := ?_) (a' := ?_) #[true, false, false, false, false, false, false, false, false, false, false, false, false, false] rfl rfl (any_of HT_.out (by kernel_rfl)) (fun _ _ _ h => h) (Or.inl ⟨by rfl, ?_⟩) ?_ ?_
                   rotate_left
                   · intro w'
                     go_simp
                     with_reducible rfl
                   rotate_left
                   · simp only [Act.put, List.setIfInBounds_toArray, List.set_cons_zero, List.set_cons_succ, i64_w, i32_w]
                     rfl
                   refine pure_ (i := 1) (N := some 20) (v := ?_) (a' := ?_) #[true, true, false, false, false, false, false, false, false, false, false, false, false, false] rfl rfl (any_of HT_.out (by kernel_rfl)) (fun _ _ _ h => h) (Or.inl ⟨by rfl, ?_⟩) ?_ ?_
                   rotate_left
                   · intro w'
                     go_simp
                     with_reducible rfl
                   rotate_left
                   · simp only [Act.put, List.setIfInBounds_toArray, List.set_cons_zero, List.set_cons_succ, i64_w, i32_w]
                     rfl
                   refine pure_ (i := 2) (N := some 21) (v := ?_) (a' := ?_) #[true, true, true, false, false, false, false, false, false, false, false, false, false, false] rfl rfl (any_of HT_.out (by kernel_rfl)) (fun _ _ _ h => h) (Or.inl ⟨by rfl, ?_⟩) ?_ ?_
                   rotate_left
                   · intro w'
                     go_simp
                     with_reducible rfl
                   rotate_left
                   · simp only [Act.put, List.setIfInBounds_toArray, List.set_cons_zero, List.set_cons_succ, i64_w, i32_w]
                     rfl
                   refine pure_ (i := 3) (N := some 22) (v := ?_) (a' := ?_) #[true, true, true, true, false, false, false, false, false, false, false, false, false, false] rfl rfl (any_of HT_.out (by kernel_rfl)) (fun _ _ _ h => h) (Or.inl ⟨by rfl, ?_⟩) ?_ ?_
                   rotate_left
                   · intro w'
                     go_simp
                     with_reducible rfl
                   rotate_left
                   · simp only [Act.put, List.setIfInBounds_toArray, List.set_cons_zero, List.set_cons_succ, i64_w, i32_w]
                     rfl
                   refine pure_ (i := 4) (N := some 23) (v := ?_) (a' := ?_) #[true, true, true, true, true, false, false, false, false, false, false, false, false, false] rfl rfl (any_of HT_.out (by kernel_rfl)) (fun _ _ _ h => h) (Or.inl ⟨by rfl, ?_⟩) ?_ ?_
                   rotate_left
                   · intro w'
                     go_simp
                     with_reducible rfl
                   rotate_left
                   · simp only [Act.put, List.setIfInBounds_toArray, List.set_cons_zero, List.set_cons_succ, i64_w, i32_w]
                     rfl
                   refine pure_ (i := 6) (N := some 25) (v := ?_) (a' := ?_) #[true, true, true, true, true, false, true, false, false, false, false, false, false, false] rfl rfl (any_of HT_.out (by kernel_rfl)) (fun _ _ _ h => h) (Or.inl ⟨by rfl, ?_⟩) ?_ ?_
                   rotate_left
                   · intro w'
                     go_simp
                     with_reducible rfl
                   rotate_left
                   · simp only [Act.put, List.setIfInBounds_toArray, List.set_cons_zero, List.set_cons_succ, i64_w, i32_w]
                     rfl
                   refine pure_ (i := 7) (N := some 26) (v := ?_) (a' := ?_) #[true, true, true, true, true, false, true, true, false, false, false, false, false, false] rfl rfl (any_of HT_.out (by kernel_rfl)) (fun _ _ _ h => h) (Or.inl ⟨by rfl, ?_⟩) ?_ ?_
                   rotate_left
                   · intro w'
                     go_simp
                     with_reducible rfl
                   rotate_left
                   · simp only [Act.put, List.setIfInBounds_toArray, List.set_cons_zero, List.set_cons_succ, i64_w, i32_w]
                     rfl
                   refine pure_ (i := 8) (N := some 27) (v := ?_) (a' := ?_) #[true, true, true, true, true, false, true, true, true, false, false, false, false, false] rfl rfl (any_of HT_.out (by kernel_rfl)) (fun _ _ _ h => h) (Or.inl ⟨by rfl, ?_⟩) ?_ ?_
                   rotate_left
                   · intro w'
                     go_simp
                     with_reducible rfl
                   rotate_left
                   · simp only [Act.put, List.setIfInBounds_toArray, List.set_cons_zero, List.set_cons_succ, i64_w, i32_w]
                     rfl
                   refine pure_ (i := 9) (N := some 28) (v := ?_) (a' := ?_) #[true, true, true, true, true, false, true, true, true, true, false, false, false, false] rfl rfl (any_of HT_.out (by kernel_rfl)) (fun _ _ _ h => h) (Or.inl ⟨by rfl, ?_⟩) ?_ ?_
                   rotate_left
                   · intro w'
                     go_simp
                     with_reducible rfl
                   rotate_left
                   · simp only [Act.put, List.setIfInBounds_toArray, List.set_cons_zero, List.set_cons_succ, i64_w, i32_w]
                     rfl
                   refine pure_ (i := 10) (N := some 29) (v := ?_) (a' := ?_) #[true, true, true, true, true, false, true, true, true, true, true, false, false, false] rfl rfl (any_of HT_.out (by kernel_rfl)) (fun _ _ _ h => h) (Or.inl ⟨by rfl, ?_⟩) ?_ ?_
                   rotate_left
                   · intro w'
                     go_simp
                     with_reducible rfl
                   rotate_left
                   · simp only [Act.put, List.setIfInBounds_toArray, List.set_cons_zero, List.set_cons_succ, i64_w, i32_w]
                     rfl
                   refine take_ (i := 5) (N := some 24) (v := ?_) (a' := ?_) #[true, true, true, true, true, true, true, true, true, true, true, false, false, false] rfl rfl (take_ofW HT_.out HW_.out (by kernel_rfl)) (fun _ _ _ h => h) (Or.inl ⟨by rfl, ?_⟩) hHeld ?_ ?_
                   rotate_left
                   · intro w' s0
                     go_simp
                     with_reducible rfl
                   rotate_left
                   · simp only [Act.put, List.setIfInBounds_toArray, List.set_cons_zero, List.set_cons_succ, i64_w, i32_w]
                     rfl
                   refine pure_ (i := 11) (N := some 30) (v := ?_) (a' := ?_) #[true, true, true, true, true, true, true, true, true, true, true, true, false, false] rfl rfl (any_of HT_.out (by kernel_rfl)) (fun _ _ _ h => h) (Or.inl ⟨by rfl, ?_⟩) ?_ ?_
                   rotate_left
                   · intro w'
                     go_simp
                     with_reducible rfl
                   rotate_left
                   · simp only [Act.put, List.setIfInBounds_toArray, List.set_cons_zero, List.set_cons_succ, i64_w, i32_w]
                     rfl
                   refine pure_ (i := 12) (N := some 31) (v := ?_) (a' := ?_) #[true, true, true, true, true, true, true, true, true, true, true, true, true, false] rfl rfl (any_of HT_.out (by kernel_rfl)) (fun _ _ _ h => h) (Or.inl ⟨by rfl, ?_⟩) ?_ ?_
                   rotate_left
                   · intro w'
                     go_simp
                     with_reducible rfl
                   rotate_left
                   · simp only [Act.put, List.setIfInBounds_toArray, List.set_cons_zero, List.set_cons_succ, i64_w, i32_w]
                     rfl
                   refine last_ (i := 13) (N := none) #[true, true, true, true, true, true, true, true, true, true, true, true, true, true] rfl rfl (one_of HT_.out (by kernel_rfl)) (by decide) (fun K hK => ?_)
                   refine skip_ (w1 := ?_) (by rfl) rfl ?_ ?_
                   rotate_left
                   · go_simp
                     rfl
                   refine hK.out _ _ ?_
                   clear hK K
                   refine done_ (done_of HT_.out (by kernel_rfl)) ?_
                   try go_wp2
                   go_roundg k1
                   case measure => have := HK1.out; omega
                   case rel => exact ⟨(y108), (wrap64 (x4_1 + 1)), (by first | rfl | (simp; done) | (simp [*]; done) | (simp [bne]; done) | (simp [*, bne]; done)), H', ⟨by have := HK1.out; omega⟩, ⟨by (with_reducible repeat (first | apply Kd.R_alloc | apply Kd.R_drewN | apply Kd.R_drew)); exact HQ20.out⟩, ⟨by repeat (first | (with_reducible first | exact HB.out | apply below_alloc | apply pw_below_drewN | apply below_drew1 | refine below_set ?_ GB17.out) | exact HB.out)⟩⟩
                 · rw [if_neg c16] at H
                   exact absurd H (by simp)
               · rw [if_neg c15] at H
                 exact absurd H (by simp)
             · rw [if_neg c14] at H
               exact absurd H (by simp)
           · rw [if_neg c12] at H
             exact absurd H (by simp)
         · rw [if_neg c11] at H
           exact absurd H (by simp)
     · rw [if_neg c5] at H
       exact absurd H (by simp)
   · rw [if_neg c4] at H
     have c4b0 : decide (x4_1 < (a0.size : Int)) = false := decide_eq_false c4
     clear c4
     obtain rfl := Option.some.inj H
     go_wp2
     go_ret
     exact ⟨_, by first | rfl | (simp [errW_none, errW_some] <;> rfl) | (simp [*, errW_none, errW_some] <;> rfl), by (with_reducible repeat (first | apply Kd.R_alloc | apply Kd.R_drewN | apply Kd.R_drew)); exact HO_3.out, by repeat (first | (with_reducible first | exact HB.out | apply below_alloc | apply pw_below_drewN | apply below_drew1) | exact HB.out)⟩

end Go.Proofs.YtobbliglnjgbaaaGreatDoor.Ph
namespace Go.Proofs.YtobbliglnjgbaaaGreatDoor.Ph
open Go.Proofs.YtobbliglnjgbaaaGreatDoor.X Go.Proofs.YtobbliglnjgbaaaGreatDoor.Pb Go.Proofs.YtobbliglnjgbaaaGreatDoor.Pc Go.Proofs.YtobbliglnjgbaaaGreatDoor.Pe
open Go.RowKit Go.Proofs.YtobbliglnjgbaaaGreatDoorW.PrintWords Go.Proofs.YtobbliglnjgbaaaGreatDoorW.PrintLast Go.Proofs.YtobbliglnjgbaaaGreatDoorW.PrintMore
attribute [local go_sem] max2_int min2_int max_two min_two max_three min_three max_four min_four   -- for this text's walks alone
set_option linter.unusedVariables false
set_option linter.unusedSimpArgs false

mutual
def shipwrightref1_May.j0 : Nat → ByteArray → Bool → Option (Bool)
 | 0, _, _ => none
 | k + 1, x0, x29 => if x29 = true then (some false) else ((shipwrightref1_Parts.f k x0).bind fun t109 => (shipwrightref1_May.l0 k t109 0))
def shipwrightref1_May.l0 : Nat → List ByteArray → Int → Option (Bool)
 | 0, _, _ => none
 | k + 1, x3, x4 => if x4 < (x3.length : Int) then (if 0 ≤ x4 then (if (rdOf ByteArray.empty x3 x4).toList = ([] : List UInt8) then (shipwrightref1_May.j2 k x3 x4 true) else (if (rdOf ByteArray.empty x3 x4).toList = ([46] : List UInt8) then (shipwrightref1_May.j2 k x3 x4 true) else (shipwrightref1_May.j2 k x3 x4 ((rdOf ByteArray.empty x3 x4).toList == ([46, 46] : List UInt8))))) else (none)) else (some true)
def shipwrightref1_May.j2 : Nat → List ByteArray → Int → Bool → Option (Bool)
 | 0, _, _, _ => none
 | k + 1, x3, x4, x56 => if x56 = true then (some false) else (shipwrightref1_May.l1 k x3 x4 0)
def shipwrightref1_May.l1 : Nat → List ByteArray → Int → Int → Option (Bool)
 | 0, _, _, _ => none
 | k + 1, x3, x4, x5 => if 0 ≤ x4 then (if x4 < (x3.length : Int) then (if x5 < ((rdOf ByteArray.empty x3 x4).size : Int) then (if 0 ≤ x5 then ((shipwrightref1_Sign.f (bt (rdOf ByteArray.empty x3 x4) x5)).bind fun t117 => (if t117 = true then (shipwrightref1_May.l1 k x3 x4 (wrap64 (x5 + 1))) else (some false))) else (none)) else (shipwrightref1_May.l0 k x3 (wrap64 (x4 + 1)))) else (none)) else (none)
end
def shipwrightref1_May.f (k : Nat) (a0 : ByteArray) : Option (Bool) := if (a0.size : Int) < 1 then (shipwrightref1_May.j0 k a0 true) else (if (a0.size : Int) > 40 then (shipwrightref1_May.j0 k a0 true) else (if a0.toList = ([114, 117, 108, 101] : List UInt8) then (shipwrightref1_May.j0 k a0 true) else (if a0.toList = ([105, 110] : List UInt8) then (shipwrightref1_May.j0 k a0 true) else (if a0.toList = ([111, 117, 116] : List UInt8) then (shipwrightref1_May.j0 k a0 true) else (shipwrightref1_May.j0 k a0 (a0.toList == ([97, 102, 116, 101, 114] : List UInt8)))))))
theorem shipwrightref1_May.mono_l : ∀ k, (∀ y0 y1, LeO (shipwrightref1_May.j0 k y0 y1) (shipwrightref1_May.j0 (k + 1) y0 y1)) ∧ (∀ y0 y1, LeO (shipwrightref1_May.l0 k y0 y1) (shipwrightref1_May.l0 (k + 1) y0 y1)) ∧ (∀ y0 y1 y2, LeO (shipwrightref1_May.j2 k y0 y1 y2) (shipwrightref1_May.j2 (k + 1) y0 y1 y2)) ∧ (∀ y0 y1 y2, LeO (shipwrightref1_May.l1 k y0 y1 y2) (shipwrightref1_May.l1 (k + 1) y0 y1 y2))
 | 0 => ⟨fun _ _ r h => by simp [shipwrightref1_May.j0] at h, fun _ _ r h => by simp [shipwrightref1_May.l0] at h, fun _ _ _ r h => by simp [shipwrightref1_May.j2] at h, fun _ _ _ r h => by simp [shipwrightref1_May.l1] at h⟩
 | k + 1 => by
  obtain ⟨ih0, ih1, ih2, ih3⟩ := shipwrightref1_May.mono_l k
  refine ⟨?_, ?_, ?_, ?_⟩
  · intro y0 y1
    unfold shipwrightref1_May.j0
    repeat' first
    | (with_reducible exact ih0 _ _)
    | (with_reducible exact ih1 _ _)
    | (with_reducible exact ih2 _ _ _)
    | (with_reducible exact ih3 _ _ _)
    | (with_reducible exact shipwrightref1_Parts.mono _ _)
    | (with_reducible exact LeO.refl _)
    | (with_reducible exact LeO.none _)
    | (with_reducible refine LeO.ite ?_ ?_)
    | (with_reducible refine LeO.bind ?_ (fun _ => ?_))
    | exact ih0 _ _
    | exact ih1 _ _
    | exact ih2 _ _ _
    | exact ih3 _ _ _
    | exact shipwrightref1_Parts.mono _ _
    | exact LeO.none _
    | refine LeO.ite ?_ ?_
    | refine LeO.bind ?_ (fun _ => ?_)
  · intro y0 y1
    unfold shipwrightref1_May.l0
    repeat' first
    | (with_reducible exact ih0 _ _)
    | (with_reducible exact ih1 _ _)
    | (with_reducible exact ih2 _ _ _)
    | (with_reducible exact ih3 _ _ _)
    | (with_reducible exact shipwrightref1_Parts.mono _ _)
    | (with_reducible exact LeO.refl _)
    | (with_reducible exact LeO.none _)
    | (with_reducible refine LeO.ite ?_ ?_)
    | (with_reducible refine LeO.bind ?_ (fun _ => ?_))
    | exact ih0 _ _
    | exact ih1 _ _
    | exact ih2 _ _ _
    | exact ih3 _ _ _
    | exact shipwrightref1_Parts.mono _ _
    | exact LeO.none _
    | refine LeO.ite ?_ ?_
    | refine LeO.bind ?_ (fun _ => ?_)
  · intro y0 y1 y2
    unfold shipwrightref1_May.j2
    repeat' first
    | (with_reducible exact ih0 _ _)
    | (with_reducible exact ih1 _ _)
    | (with_reducible exact ih2 _ _ _)
    | (with_reducible exact ih3 _ _ _)
    | (with_reducible exact shipwrightref1_Parts.mono _ _)
    | (with_reducible exact LeO.refl _)
    | (with_reducible exact LeO.none _)
    | (with_reducible refine LeO.ite ?_ ?_)
    | (with_reducible refine LeO.bind ?_ (fun _ => ?_))
    | exact ih0 _ _
    | exact ih1 _ _
    | exact ih2 _ _ _
    | exact ih3 _ _ _
    | exact shipwrightref1_Parts.mono _ _
    | exact LeO.none _
    | refine LeO.ite ?_ ?_
    | refine LeO.bind ?_ (fun _ => ?_)
  · intro y0 y1 y2
    unfold shipwrightref1_May.l1
    repeat' first
    | (with_reducible exact ih0 _ _)
    | (with_reducible exact ih1 _ _)
    | (with_reducible exact ih2 _ _ _)
    | (with_reducible exact ih3 _ _ _)
    | (with_reducible exact shipwrightref1_Parts.mono _ _)
    | (with_reducible exact LeO.refl _)
    | (with_reducible exact LeO.none _)
    | (with_reducible refine LeO.ite ?_ ?_)
    | (with_reducible refine LeO.bind ?_ (fun _ => ?_))
    | exact ih0 _ _
    | exact ih1 _ _
    | exact ih2 _ _ _
    | exact ih3 _ _ _
    | exact shipwrightref1_Parts.mono _ _
    | exact LeO.none _
    | refine LeO.ite ?_ ?_
    | refine LeO.bind ?_ (fun _ => ?_)
theorem shipwrightref1_May.mono : ∀ a0 k, LeO (shipwrightref1_May.f k a0) (shipwrightref1_May.f (k + 1) a0) := by
 intro a0 k
 obtain ⟨ih0, ih1, ih2, ih3⟩ := shipwrightref1_May.mono_l k
 unfold shipwrightref1_May.f
 repeat' first
  | (with_reducible exact ih0 _ _)
  | (with_reducible exact ih1 _ _)
  | (with_reducible exact ih2 _ _ _)
  | (with_reducible exact ih3 _ _ _)
  | (with_reducible exact shipwrightref1_Parts.mono _ _)
  | (with_reducible exact LeO.refl _)
  | (with_reducible exact LeO.none _)
  | (with_reducible refine LeO.ite ?_ ?_)
  | (with_reducible refine LeO.bind ?_ (fun _ => ?_))
  | exact ih0 _ _
  | exact ih1 _ _
  | exact ih2 _ _ _
  | exact ih3 _ _ _
  | exact shipwrightref1_Parts.mono _ _
  | exact LeO.none _
  | refine LeO.ite ?_ ?_
  | refine LeO.bind ?_ (fun _ => ?_)
set_option maxHeartbeats 8000000 in
set_option maxRecDepth 100000 in
theorem shipwrightref1_May.calls (k : Nat) (a0 : ByteArray) (r : Bool) (w : World) (hG : GOK w) (h : shipwrightref1_May.f k a0 = some r) :
 Calls Tryz.prog 57 #[.string a0] w fun e w' => e = .returned (.bool r) ∧ Below w.heap.size w w' := by
 have HB := Aside0.mk (Below.refl w.heap.size w)
 have HG := Aside0.mk hG
 clear hG
 have H : (if (a0.size : Int) < 1 then (shipwrightref1_May.j0 k a0 true) else (if (a0.size : Int) > 40 then (shipwrightref1_May.j0 k a0 true) else (if a0.toList = ([114, 117, 108, 101] : List UInt8) then (shipwrightref1_May.j0 k a0 true) else (if a0.toList = ([105, 110] : List UInt8) then (shipwrightref1_May.j0 k a0 true) else (if a0.toList = ([111, 117, 116] : List UInt8) then (shipwrightref1_May.j0 k a0 true) else (shipwrightref1_May.j0 k a0 (a0.toList == ([97, 102, 116, 101, 114] : List UInt8)))))))) = some r := h
 clear h
 have HC2 := Aside0.mk H
 clear H
 go_enter Tryz.func57, Tryz.ntmps57
 go_upto_region 1 with (fail)
 go_cut [29] (fun v29 wc => ∃ (kq : Nat) (x29_1 : Bool), v29 = .bool x29_1 ∧ Aside0 (shipwrightref1_May.j0 kq a0 x29_1 = some r) ∧ Aside0 (kq ≤ k) ∧ Aside0 (Below w.heap.size w wc))
 case first =>
  have H := HC2.out
  clear HC2
  by_cases c3 : (a0.size : Int) < 1
  · rw [if_pos c3] at H
    have c3b0 : decide ((a0.size : Int) < 1) = true := decide_eq_true c3
    have c3b1 : decide (a0.size < 1) = true := decide_eq_true (by omega)
    clear c3
    (first | rw [c3b0] | (simp only [i64_w, i32_w]; rw [c3b0]) | skip)
    have H' := Aside0.mk H
    clear H
    go_wp2
    go_meet
    case rel => exact ⟨_, (true), (by first | rfl | (simp; done) | (simp [*]; done) | (simp [bne]; done) | (simp [*, bne]; done)), H', ⟨by first | omega | exact Nat.le_refl _⟩, ⟨by repeat (first | (with_reducible first | exact HB.out | apply below_alloc | apply pw_below_drewN | apply below_drew1) | exact HB.out)⟩⟩
  · rw [if_neg c3] at H
    have c3b0 : decide ((a0.size : Int) < 1) = false := decide_eq_false c3
    have c3b1 : decide (a0.size < 1) = false := decide_eq_false (by omega)
    clear c3
    (first | rw [c3b0] | (simp only [i64_w, i32_w]; rw [c3b0]) | skip)
    by_cases c4 : (a0.size : Int) > 40
    · rw [if_pos c4] at H
      have c4b0 : decide (40 < (a0.size : Int)) = true := decide_eq_true c4
      have c4b1 : decide (40 < a0.size) = true := decide_eq_true (by omega)
      clear c4
      have H' := Aside0.mk H
      clear H
      go_wp2
      go_meet
      case rel => exact ⟨_, (true), (by first | rfl | (simp; done) | (simp [*]; done) | (simp [bne]; done) | (simp [*, bne]; done)), H', ⟨by first | omega | exact Nat.le_refl _⟩, ⟨by repeat (first | (with_reducible first | exact HB.out | apply below_alloc | apply pw_below_drewN | apply below_drew1) | exact HB.out)⟩⟩
    · rw [if_neg c4] at H
      have c4b0 : decide (40 < (a0.size : Int)) = false := decide_eq_false c4
      have c4b1 : decide (40 < a0.size) = false := decide_eq_false (by omega)
      clear c4
      by_cases c5 : a0.toList = ([114, 117, 108, 101] : List UInt8)
      · rw [if_pos c5] at H
        have c5b0 : (a0.toList == ([114, 117, 108, 101] : List UInt8)) = true := beq_iff_eq.mpr c5
        have c5b1 : (a0.toList != ([114, 117, 108, 101] : List UInt8)) = false := bne_eq_false_iff_eq.mpr c5
        clear c5
        have H' := Aside0.mk H
        clear H
        go_wp2
        go_meet
        case rel => exact ⟨_, (true), (by first | rfl | (simp; done) | (simp [*]; done) | (simp [bne]; done) | (simp [*, bne]; done)), H', ⟨by first | omega | exact Nat.le_refl _⟩, ⟨by repeat (first | (with_reducible first | exact HB.out | apply below_alloc | apply pw_below_drewN | apply below_drew1) | exact HB.out)⟩⟩
      · rw [if_neg c5] at H
        have c5b0 : (a0.toList == ([114, 117, 108, 101] : List UInt8)) = false := beq_eq_false_iff_ne.mpr c5
        have c5b1 : (a0.toList != ([114, 117, 108, 101] : List UInt8)) = true := bne_iff_ne.mpr c5
        by_cases c6 : a0.toList = ([105, 110] : List UInt8)
        · rw [if_pos c6] at H
          have c6b0 : (a0.toList == ([105, 110] : List UInt8)) = true := beq_iff_eq.mpr c6
          have c6b1 : (a0.toList != ([105, 110] : List UInt8)) = false := bne_eq_false_iff_eq.mpr c6
          clear c6
          have H' := Aside0.mk H
          clear H
          go_wp2
          go_meet
          case rel => exact ⟨_, (true), (by first | rfl | (simp; done) | (simp [*]; done) | (simp [bne]; done) | (simp [*, bne]; done)), H', ⟨by first | omega | exact Nat.le_refl _⟩, ⟨by repeat (first | (with_reducible first | exact HB.out | apply below_alloc | apply pw_below_drewN | apply below_drew1) | exact HB.out)⟩⟩
        · rw [if_neg c6] at H
          have c6b0 : (a0.toList == ([105, 110] : List UInt8)) = false := beq_eq_false_iff_ne.mpr c6
          have c6b1 : (a0.toList != ([105, 110] : List UInt8)) = true := bne_iff_ne.mpr c6
          by_cases c7 : a0.toList = ([111, 117, 116] : List UInt8)
          · rw [if_pos c7] at H
            have c7b0 : (a0.toList == ([111, 117, 116] : List UInt8)) = true := beq_iff_eq.mpr c7
            have c7b1 : (a0.toList != ([111, 117, 116] : List UInt8)) = false := bne_eq_false_iff_eq.mpr c7
            clear c7
            have H' := Aside0.mk H
            clear H
            go_wp2
            go_meet
            case rel => exact ⟨_, (true), (by first | rfl | (simp; done) | (simp [*]; done) | (simp [bne]; done) | (simp [*, bne]; done)), H', ⟨by first | omega | exact Nat.le_refl _⟩, ⟨by repeat (first | (with_reducible first | exact HB.out | apply below_alloc | apply pw_below_drewN | apply below_drew1) | exact HB.out)⟩⟩
          · rw [if_neg c7] at H
            have c7b0 : (a0.toList == ([111, 117, 116] : List UInt8)) = false := beq_eq_false_iff_ne.mpr c7
            have c7b1 : (a0.toList != ([111, 117, 116] : List UInt8)) = true := bne_iff_ne.mpr c7
            have H' := Aside0.mk H
            clear H
            go_wp2
            go_meet
            case rel => exact ⟨_, ((a0.toList == ([97, 102, 116, 101, 114] : List UInt8))), (by first | rfl | (simp; done) | (simp [*]; done) | (simp [bne]; done) | (simp [*, bne]; done)), H', ⟨by first | omega | exact Nat.le_refl _⟩, ⟨by repeat (first | (with_reducible first | exact HB.out | apply below_alloc | apply pw_below_drewN | apply below_drew1) | exact HB.out)⟩⟩
 case rest =>
  clear HC2
  try clear p2
  try clear c3
  try clear c3b0
  try clear c3b1
  try clear c4
  try clear c4b0
  try clear c4b1
  try clear c5
  try clear c5b0
  try clear c5b1
  try clear c6
  try clear c6b0
  try clear c6b1
  try clear c7
  try clear c7b0
  try clear c7b1
  obtain ⟨kq, x29_1, rfl, HA, HJ1, HB⟩ := hcut
  cases kq with
  | zero => exact absurd HA.out (by simp [shipwrightref1_May.j0])
  | succ kj1 =>
   have H := HA.out
   clear HA
   simp only [shipwrightref1_May.j0] at H
   by_cases c8 : x29_1 = true
   · subst c8
     have H1 : (some false) = some r := by rw [if_pos rfl] at H; exact H
     clear H
     have H := H1
     clear H1
     obtain rfl := Option.some.inj H
     go_wp2
     go_ret
     exact ⟨by first | rfl | (simp [errW_none, errW_some] <;> rfl) | (simp [*, errW_none, errW_some] <;> rfl), by repeat (first | (with_reducible first | exact HB.out | apply below_alloc | apply pw_below_drewN | apply below_drew1) | exact HB.out)⟩
   · replace c8 := Bool.eq_false_iff.mpr c8
     subst c8
     have H1 : ((shipwrightref1_Parts.f kj1 a0).bind fun t109 => (shipwrightref1_May.l0 kj1 t109 0)) = some r := by rw [if_neg (show ¬ (false = true) by decide)] at H; exact H
     clear H
     have H := H1
     clear H1
     replace H := Option.bind_eq_some_iff.mp H
     obtain ⟨t109, A90, H⟩ := H
     replace H : (shipwrightref1_May.l0 kj1 t109 0) = some r := H
     have A9 := Aside0.mk A90
     clear A90
     have H' := Aside0.mk H
     clear H
     go_wp2_with (first | ((with_reducible refine gate_callee (f := 71) rfl ?_); refine goesL_ (some 31) rfl rfl Tryz.func71 (by kernel_rfl) rfl #[.string a0] rfl (by (try simp only [List.map_toArray, List.map_cons, List.map_nil]); first | done | rfl | (simp only [List.length_drop, List.length_take]; rfl)) ?_; (with_reducible refine (shipwrightref1_Parts.calls kj1 a0 t109 _ ?side99 A9.out).mono ?_); (case side99 => exact GOK.below HG.out (by repeat (first | (with_reducible first | exact HB.out | apply below_alloc | apply pw_below_drewN | apply below_drew1) | exact HB.out))); rintro e w10 ⟨v110, rfl, ho0, hb⟩; refine ⟨_, rfl, ?_⟩; have n0_ := Aside0.mk (Kd.R_lower ho0 (below_size (by repeat (first | (with_reducible first | exact HB.out | apply below_alloc | apply pw_below_drewN | apply below_drew1) | exact HB.out)))); have n1_ := Aside0.mk (below_step (by repeat (first | (with_reducible first | exact HB.out | apply below_alloc | apply pw_below_drewN | apply below_drew1) | exact HB.out)) hb); clear HB; have HO111 := n0_; have HB := n1_; clear n0_ n1_; (try clear hb); (try clear hb2); (try clear hk); (try clear hi); (try clear ho0)))
     go_loopg [4] kj1 (fun kq v4 w' => ∃ (x4_2 : Int), v4 = .int .i64 x4_2 ∧ Aside0 (shipwrightref1_May.l0 kq t109 x4_2 = some r) ∧ Aside0 (kq ≤ kj1) ∧ Aside0 (Kd.R Kd.string 9 w' w.heap.size (fun _ => True) v110 t109) ∧ Aside0 (Below w.heap.size w w'))
     case atStart => exact ⟨(0), (by first | rfl | (simp; done) | (simp [*]; done) | (simp [bne]; done) | (simp [*, bne]; done)), H', ⟨Nat.le_refl _⟩, ⟨by (with_reducible repeat (first | apply Kd.R_alloc | apply Kd.R_drewN | apply Kd.R_drew)); exact HO111.out⟩, ⟨by repeat (first | (with_reducible first | exact HB.out | apply below_alloc | apply pw_below_drewN | apply below_drew1) | exact HB.out)⟩⟩
     case round =>
      clear H'
      try clear p2
      try clear c3
      try clear c3b0
      try clear c3b1
      try clear c4
      try clear c4b0
      try clear c4b1
      try clear c5
      try clear c5b0
      try clear c5b1
      try clear c6
      try clear c6b0
      try clear c6b1
      try clear c7
      try clear c7b0
      try clear c7b1
      try clear c8
      try clear p2
      obtain ⟨x4_2, rfl, HA, HK2, HO_3, HB⟩ := hrel
      cases gk with
      | zero => exact absurd HA.out (by simp [shipwrightref1_May.l0])
      | succ k2 =>
       have H := HA.out
       clear HA
       simp only [shipwrightref1_May.l0] at H
       by_cases c11 : x4_2 < (t109.length : Int)
       · rw [if_pos c11] at H
         have c11b0 : decide (x4_2 < (t109.length : Int)) = true := decide_eq_true c11
         clear c11
         have HC12 := Aside0.mk H
         clear H
         obtain ⟨Ao13, co13, eo13⟩ := Kd.R_slice HO_3.out
         subst eo13
         go_upto_region 7 with (fail)
         go_cut [56] (fun v56 wc => ∃ (kq : Nat) (x56_11 : Bool), v56 = .bool x56_11 ∧ Aside0 (shipwrightref1_May.j2 kq t109 x4_2 x56_11 = some r) ∧ Aside0 (kq ≤ k2) ∧ Aside0 (Kd.R Kd.string 9 wc w.heap.size (fun _ => True) (.slice Ao13 t109.length co13) t109) ∧ Aside0 (Below w.heap.size w wc))
         case first =>
          have H := HC12.out
          clear HC12
          by_cases c14 : 0 ≤ x4_2
          · rw [if_pos c14] at H
            have c14b0 : decide (0 ≤ x4_2) = true := decide_eq_true c14
            clear c14
            (first | rw [c14b0] | (simp only [i64_w, i32_w]; rw [c14b0]) | skip)
            by_cases c15 : (rdOf ByteArray.empty t109 x4_2).toList = ([] : List UInt8)
            · rw [if_pos c15] at H
              have c15b0 : ((rdOf ByteArray.empty t109 x4_2).toList == ([] : List UInt8)) = true := beq_iff_eq.mpr c15
              have c15b1 : ((rdOf ByteArray.empty t109 x4_2).toList != ([] : List UInt8)) = false := bne_eq_false_iff_eq.mpr c15
              clear c15
              have H' := Aside0.mk H
              clear H
              have p112 : 0 ≤ (x4_2 : Int) := of_decide_eq_true (by first | (with_reducible assumption) | assumption)
              have q112 : x4_2 < (t109.length : Int) := of_decide_eq_true (by first | (with_reducible assumption) | assumption)
              obtain ⟨ad112, e112, hx112_0⟩ := Kd.at_string (Kd.R_reads' HO_3.out).2.2 x4_2 p112 q112
              cases e112
              replace p112 := eq_true p112
              replace q112 := eq_true q112
              go_wp2
              go_meet
              case rel => exact ⟨_, (true), (by first | rfl | (simp; done) | (simp [*]; done) | (simp [bne]; done) | (simp [*, bne]; done)), H', ⟨by have := HJ1.out; have := HK2.out; first | omega | exact Nat.le_refl _⟩, ⟨by (with_reducible repeat (first | apply Kd.R_alloc | apply Kd.R_drewN | apply Kd.R_drew)); first | exact HO_3.out | (set_option smartUnfolding false in exact HO_3.out)⟩, ⟨by repeat (first | (with_reducible first | exact HB.out | apply below_alloc | apply pw_below_drewN | apply below_drew1) | exact HB.out)⟩⟩
            · rw [if_neg c15] at H
              have c15b0 : ((rdOf ByteArray.empty t109 x4_2).toList == ([] : List UInt8)) = false := beq_eq_false_iff_ne.mpr c15
              have c15b1 : ((rdOf ByteArray.empty t109 x4_2).toList != ([] : List UInt8)) = true := bne_iff_ne.mpr c15
              by_cases c16 : (rdOf ByteArray.empty t109 x4_2).toList = ([46] : List UInt8)
              · rw [if_pos c16] at H
                have c16b0 : ((rdOf ByteArray.empty t109 x4_2).toList == ([46] : List UInt8)) = true := beq_iff_eq.mpr c16
                have c16b1 : ((rdOf ByteArray.empty t109 x4_2).toList != ([46] : List UInt8)) = false := bne_eq_false_iff_eq.mpr c16
                clear c16
                have H' := Aside0.mk H
                clear H
                have p112 : 0 ≤ (x4_2 : Int) := of_decide_eq_true (by first | (with_reducible assumption) | assumption)
                have q112 : x4_2 < (t109.length : Int) := of_decide_eq_true (by first | (with_reducible assumption) | assumption)
                obtain ⟨ad112, e112, hx112_0⟩ := Kd.at_string (Kd.R_reads' HO_3.out).2.2 x4_2 p112 q112
                cases e112
                replace p112 := eq_true p112
                replace q112 := eq_true q112
                have p113 : 0 ≤ (x4_2 : Int) := of_decide_eq_true (by first | (with_reducible assumption) | assumption)
                have q113 : x4_2 < (t109.length : Int) := of_decide_eq_true (by first | (with_reducible assumption) | assumption)
                obtain ⟨ad113, e113, hx113_0⟩ := Kd.at_string (Kd.R_reads' HO_3.out).2.2 x4_2 p113 q113
                obtain rfl : ad112 = ad113 := (by injection e113)
                replace p113 := eq_true p113
                replace q113 := eq_true q113
                go_wp2
                go_meet
                case rel => exact ⟨_, (true), (by first | rfl | (simp; done) | (simp [*]; done) | (simp [bne]; done) | (simp [*, bne]; done)), H', ⟨by have := HJ1.out; have := HK2.out; first | omega | exact Nat.le_refl _⟩, ⟨by (with_reducible repeat (first | apply Kd.R_alloc | apply Kd.R_drewN | apply Kd.R_drew)); first | exact HO_3.out | (set_option smartUnfolding false in exact HO_3.out)⟩, ⟨by repeat (first | (with_reducible first | exact HB.out | apply below_alloc | apply pw_below_drewN | apply below_drew1) | exact HB.out)⟩⟩
              · rw [if_neg c16] at H
                have c16b0 : ((rdOf ByteArray.empty t109 x4_2).toList == ([46] : List UInt8)) = false := beq_eq_false_iff_ne.mpr c16
                have c16b1 : ((rdOf ByteArray.empty t109 x4_2).toList != ([46] : List UInt8)) = true := bne_iff_ne.mpr c16
                have H' := Aside0.mk H
                clear H
                have p112 : 0 ≤ (x4_2 : Int) := of_decide_eq_true (by first | (with_reducible assumption) | assumption)
                have q112 : x4_2 < (t109.length : Int) := of_decide_eq_true (by first | (with_reducible assumption) | assumption)
                obtain ⟨ad112, e112, hx112_0⟩ := Kd.at_string (Kd.R_reads' HO_3.out).2.2 x4_2 p112 q112
                cases e112
                replace p112 := eq_true p112
                replace q112 := eq_true q112
                have p113 : 0 ≤ (x4_2 : Int) := of_decide_eq_true (by first | (with_reducible assumption) | assumption)
                have q113 : x4_2 < (t109.length : Int) := of_decide_eq_true (by first | (with_reducible assumption) | assumption)
                obtain ⟨ad113, e113, hx113_0⟩ := Kd.at_string (Kd.R_reads' HO_3.out).2.2 x4_2 p113 q113
                obtain rfl : ad112 = ad113 := (by injection e113)
                replace p113 := eq_true p113
                replace q113 := eq_true q113
                have p114 : 0 ≤ (x4_2 : Int) := of_decide_eq_true (by first | (with_reducible assumption) | assumption)
                have q114 : x4_2 < (t109.length : Int) := of_decide_eq_true (by first | (with_reducible assumption) | assumption)
                obtain ⟨ad114, e114, hx114_0⟩ := Kd.at_string (Kd.R_reads' HO_3.out).2.2 x4_2 p114 q114
                obtain rfl : ad112 = ad114 := (by injection e114)
                replace p114 := eq_true p114
                replace q114 := eq_true q114
                go_wp2
                go_meet
                case rel => exact ⟨_, (((rdOf ByteArray.empty t109 x4_2).toList == ([46, 46] : List UInt8))), (by first | rfl | (simp; done) | (simp [*]; done) | (simp [bne]; done) | (simp [*, bne]; done)), H', ⟨by have := HJ1.out; have := HK2.out; first | omega | exact Nat.le_refl _⟩, ⟨by (with_reducible repeat (first | apply Kd.R_alloc | apply Kd.R_drewN | apply Kd.R_drew)); first | exact HO_3.out | (set_option smartUnfolding false in exact HO_3.out)⟩, ⟨by repeat (first | (with_reducible first | exact HB.out | apply below_alloc | apply pw_below_drewN | apply below_drew1) | exact HB.out)⟩⟩
          · rw [if_neg c14] at H
            exact absurd H (by simp)
         case rest =>
          clear HC12
          try clear c1
          try clear p1
          try clear q1
          try clear hx1
          try clear p2
          try clear c3
          try clear c3b0
          try clear c3b1
          try clear c4
          try clear c4b0
          try clear c4b1
          try clear c5
          try clear c5b0
          try clear c5b1
          try clear c6
          try clear c6b0
          try clear c6b1
          try clear c7
          try clear c7b0
          try clear c7b1
          try clear c8
          try clear c11
          try clear c11b0
          try clear p11
          try clear q11
          try clear hx11
          try clear c14
          try clear c14b0
          try clear c15
          try clear c15b0
          try clear c15b1
          try clear c16
          try clear c16b0
          try clear c16b1
          try clear hx112_0
          try clear hx113_0
          try clear hx114_0
          try clear p112
          try clear p113
          try clear p114
          try clear p2
          try clear q112
          try clear q113
          try clear q114
          obtain ⟨kq, x56_11, rfl, HA, HJ11, HO_3, HB⟩ := hcut
          cases kq with
          | zero => exact absurd HA.out (by simp [shipwrightref1_May.j2])
          | succ kj11 =>
           have H := HA.out
           clear HA
           simp only [shipwrightref1_May.j2] at H
           by_cases c17 : x56_11 = true
           · subst c17
             have H1 : (some false) = some r := by rw [if_pos rfl] at H; exact H
             clear H
             have H := H1
             clear H1
             obtain rfl := Option.some.inj H
             go_wp2
             go_ret
             exact ⟨by first | rfl | (simp [errW_none, errW_some] <;> rfl) | (simp [*, errW_none, errW_some] <;> rfl), by repeat (first | (with_reducible first | exact HB.out | apply below_alloc | apply pw_below_drewN | apply below_drew1) | exact HB.out)⟩
           · replace c17 := Bool.eq_false_iff.mpr c17
             subst c17
             have H1 : (shipwrightref1_May.l1 kj11 t109 x4_2 0) = some r := by rw [if_neg (show ¬ (false = true) by decide)] at H; exact H
             clear H
             have H := H1
             clear H1
             have H' := Aside0.mk H
             clear H
             go_wp2
             go_loopg [5] kj11 (fun kq v5 w' => ∃ (x5_4 : Int), v5 = .int .i64 x5_4 ∧ Aside0 (shipwrightref1_May.l1 kq t109 x4_2 x5_4 = some r) ∧ Aside0 (kq ≤ kj11) ∧ Aside0 (Kd.R Kd.string 9 w' w.heap.size (fun _ => True) (.slice Ao13 t109.length co13) t109) ∧ Aside0 (Below w.heap.size w w'))
             case atStart => exact ⟨(0), (by first | rfl | (simp; done) | (simp [*]; done) | (simp [bne]; done) | (simp [*, bne]; done)), H', ⟨Nat.le_refl _⟩, ⟨by (with_reducible repeat (first | apply Kd.R_alloc | apply Kd.R_drewN | apply Kd.R_drew)); exact HO_3.out⟩, ⟨by repeat (first | (with_reducible first | exact HB.out | apply below_alloc | apply pw_below_drewN | apply below_drew1) | exact HB.out)⟩⟩
             case round =>
              clear H'
              try clear c1
              try clear p1
              try clear q1
              try clear hx1
              try clear p2
              try clear c3
              try clear c3b0
              try clear c3b1
              try clear c4
              try clear c4b0
              try clear c4b1
              try clear c5
              try clear c5b0
              try clear c5b1
              try clear c6
              try clear c6b0
              try clear c6b1
              try clear c7
              try clear c7b0
              try clear c7b1
              try clear c8
              try clear c11
              try clear c11b0
              try clear p11
              try clear q11
              try clear hx11
              try clear c14
              try clear c14b0
              try clear c15
              try clear c15b0
              try clear c15b1
              try clear c16
              try clear c16b0
              try clear c16b1
              try clear c17
              try clear hx112_0
              try clear hx113_0
              try clear hx114_0
              try clear p1
              try clear p11
              try clear p112
              try clear p113
              try clear p114
              try clear p2
              try clear q1
              try clear q11
              try clear q112
              try clear q113
              try clear q114
              obtain ⟨x5_4, rfl, HA, HK4, HO_3, HB⟩ := hrel
              cases gk with
              | zero => exact absurd HA.out (by simp [shipwrightref1_May.l1])
              | succ k4 =>
               have H := HA.out
               clear HA
               simp only [shipwrightref1_May.l1] at H
               by_cases c18 : 0 ≤ x4_2
               · rw [if_pos c18] at H
                 have c18b0 : decide (0 ≤ x4_2) = true := decide_eq_true c18
                 clear c18
                 by_cases c19 : x4_2 < (t109.length : Int)
                 · rw [if_pos c19] at H
                   have c19b0 : decide (x4_2 < (t109.length : Int)) = true := decide_eq_true c19
                   clear c19
                   by_cases c20 : x5_4 < ((rdOf ByteArray.empty t109 x4_2).size : Int)
                   · rw [if_pos c20] at H
                     have c20b0 : decide (x5_4 < ((rdOf ByteArray.empty t109 x4_2).size : Int)) = true := decide_eq_true c20
                     clear c20
                     by_cases c21 : 0 ≤ x5_4
                     · rw [if_pos c21] at H
                       have c21b0 : decide (0 ≤ x5_4) = true := decide_eq_true c21
                       clear c21
                       replace H := Option.bind_eq_some_iff.mp H
                       obtain ⟨t117, A230, H⟩ := H
                       replace H : (if t117 = true then (shipwrightref1_May.l1 k4 t109 x4_2 (wrap64 (x5_4 + 1))) else (some false)) = some r := H
                       have A23 := Aside0.mk A230
                       clear A230
                       by_cases c24 : t117 = true
                       · subst c24
                         have H1 : (shipwrightref1_May.l1 k4 t109 x4_2 (wrap64 (x5_4 + 1))) = some r := by rw [if_pos rfl] at H; exact H
                         clear H
                         have H := H1
                         clear H1
                         have H' := Aside0.mk H
                         clear H
                         have p115 : 0 ≤ (x4_2 : Int) := of_decide_eq_true (by first | (with_reducible assumption) | assumption)
                         have q115 : x4_2 < (t109.length : Int) := of_decide_eq_true (by first | (with_reducible assumption) | assumption)
                         obtain ⟨ad115, e115, hx115_0⟩ := Kd.at_string (Kd.R_reads' HO_3.out).2.2 x4_2 p115 q115
                         cases e115
                         replace p115 := eq_true p115
                         replace q115 := eq_true q115
                         have p116 : 0 ≤ (x4_2 : Int) := of_decide_eq_true (by first | (with_reducible assumption) | assumption)
                         have q116 : x4_2 < (t109.length : Int) := of_decide_eq_true (by first | (with_reducible assumption) | assumption)
                         obtain ⟨ad116, e116, hx116_0⟩ := Kd.at_string (Kd.R_reads' HO_3.out).2.2 x4_2 p116 q116
                         obtain rfl : ad115 = ad116 := (by injection e116)
                         replace p116 := eq_true p116
                         replace q116 := eq_true q116
                         have p22 : 0 ≤ (x5_4 : Int) := of_decide_eq_true (by first | (with_reducible assumption) | assumption)
                         have q22 : x5_4 < ((rdOf ByteArray.empty t109 x4_2).size : Int) := of_decide_eq_true (by first | (with_reducible assumption) | assumption)
                         have hx22 := bt_at (rdOf ByteArray.empty t109 x4_2) x5_4
                         replace p22 := eq_true p22
                         replace q22 := eq_true q22
                         go_wp2_with (first | ((with_reducible refine gate_callee (f := 31) rfl ?_); refine goesL_ (some 72) rfl rfl Tryz.func31 (by kernel_rfl) rfl #[.int .u8 (bt (rdOf ByteArray.empty t109 x4_2) x5_4)] rfl (by (try simp only [List.map_toArray, List.map_cons, List.map_nil]); first | done | rfl | (simp only [List.length_drop, List.length_take]; rfl)) ?_; (with_reducible refine (shipwrightref1_Sign.calls (bt (rdOf ByteArray.empty t109 x4_2) x5_4) true _ ?side99 A23.out).mono ?_); (case side99 => exact GOK.below HG.out (by repeat (first | (with_reducible first | exact HB.out | apply below_alloc | apply pw_below_drewN | apply below_drew1) | exact HB.out))); rintro e w' ⟨rfl, ⟨nd, rfl⟩⟩; refine ⟨_, rfl, ?_⟩))
                         go_roundg k4
                         case measure => have := HJ1.out; have := HK2.out; have := HJ11.out; have := HK4.out; omega
                         case rel => exact ⟨(wrap64 (x5_4 + 1)), (by first | rfl | (simp; done) | (simp [*]; done) | (simp [bne]; done) | (simp [*, bne]; done)), H', ⟨by have := HJ1.out; have := HK2.out; have := HJ11.out; have := HK4.out; omega⟩, ⟨by (with_reducible repeat (first | apply Kd.R_alloc | apply Kd.R_drewN | apply Kd.R_drew)); first | exact HO_3.out | (set_option smartUnfolding false in exact HO_3.out)⟩, ⟨by repeat (first | (with_reducible first | exact HB.out | apply below_alloc | apply pw_below_drewN | apply below_drew1) | exact HB.out)⟩⟩
                       · replace c24 := Bool.eq_false_iff.mpr c24
                         subst c24
                         have H1 : (some false) = some r := by rw [if_neg (show ¬ (false = true) by decide)] at H; exact H
                         clear H
                         have H := H1
                         clear H1
                         obtain rfl := Option.some.inj H
                         have p115 : 0 ≤ (x4_2 : Int) := of_decide_eq_true (by first | (with_reducible assumption) | assumption)
                         have q115 : x4_2 < (t109.length : Int) := of_decide_eq_true (by first | (with_reducible assumption) | assumption)
                         obtain ⟨ad115, e115, hx115_0⟩ := Kd.at_string (Kd.R_reads' HO_3.out).2.2 x4_2 p115 q115
                         cases e115
                         replace p115 := eq_true p115
                         replace q115 := eq_true q115
                         have p116 : 0 ≤ (x4_2 : Int) := of_decide_eq_true (by first | (with_reducible assumption) | assumption)
                         have q116 : x4_2 < (t109.length : Int) := of_decide_eq_true (by first | (with_reducible assumption) | assumption)
                         obtain ⟨ad116, e116, hx116_0⟩ := Kd.at_string (Kd.R_reads' HO_3.out).2.2 x4_2 p116 q116
                         obtain rfl : ad115 = ad116 := (by injection e116)
                         replace p116 := eq_true p116
                         replace q116 := eq_true q116
                         have p22 : 0 ≤ (x5_4 : Int) := of_decide_eq_true (by first | (with_reducible assumption) | assumption)
                         have q22 : x5_4 < ((rdOf ByteArray.empty t109 x4_2).size : Int) := of_decide_eq_true (by first | (with_reducible assumption) | assumption)
                         have hx22 := bt_at (rdOf ByteArray.empty t109 x4_2) x5_4
                         replace p22 := eq_true p22
                         replace q22 := eq_true q22
                         go_wp2_with (first | ((with_reducible refine gate_callee (f := 31) rfl ?_); refine goesL_ (some 72) rfl rfl Tryz.func31 (by kernel_rfl) rfl #[.int .u8 (bt (rdOf ByteArray.empty t109 x4_2) x5_4)] rfl (by (try simp only [List.map_toArray, List.map_cons, List.map_nil]); first | done | rfl | (simp only [List.length_drop, List.length_take]; rfl)) ?_; (with_reducible refine (shipwrightref1_Sign.calls (bt (rdOf ByteArray.empty t109 x4_2) x5_4) false _ ?side99 A23.out).mono ?_); (case side99 => exact GOK.below HG.out (by repeat (first | (with_reducible first | exact HB.out | apply below_alloc | apply pw_below_drewN | apply below_drew1) | exact HB.out))); rintro e w' ⟨rfl, ⟨nd, rfl⟩⟩; refine ⟨_, rfl, ?_⟩))
                         go_ret
                         exact ⟨by first | rfl | (simp [errW_none, errW_some] <;> rfl) | (simp [*, errW_none, errW_some] <;> rfl), by repeat (first | (with_reducible first | exact HB.out | apply below_alloc | apply pw_below_drewN | apply below_drew1) | exact HB.out)⟩
                     · rw [if_neg c21] at H
                       exact absurd H (by simp)
                   · rw [if_neg c20] at H
                     have c20b0 : decide (x5_4 < ((rdOf ByteArray.empty t109 x4_2).size : Int)) = false := decide_eq_false c20
                     clear c20
                     have H' := Aside0.mk H
                     clear H
                     have p115 : 0 ≤ (x4_2 : Int) := of_decide_eq_true (by first | (with_reducible assumption) | assumption)
                     have q115 : x4_2 < (t109.length : Int) := of_decide_eq_true (by first | (with_reducible assumption) | assumption)
                     obtain ⟨ad115, e115, hx115_0⟩ := Kd.at_string (Kd.R_reads' HO_3.out).2.2 x4_2 p115 q115
                     cases e115
                     replace p115 := eq_true p115
                     replace q115 := eq_true q115
                     go_wp2
                     go_roundg k4
                     case measure => have := HJ1.out; have := HK2.out; have := HJ11.out; have := HK4.out; omega
                     case rel => exact ⟨(wrap64 (x4_2 + 1)), (by first | rfl | (simp; done) | (simp [*]; done) | (simp [bne]; done) | (simp [*, bne]; done)), H', ⟨by have := HJ1.out; have := HK2.out; have := HJ11.out; have := HK4.out; omega⟩, ⟨by (with_reducible repeat (first | apply Kd.R_alloc | apply Kd.R_drewN | apply Kd.R_drew)); first | exact HO_3.out | (set_option smartUnfolding false in exact HO_3.out)⟩, ⟨by repeat (first | (with_reducible first | exact HB.out | apply below_alloc | apply pw_below_drewN | apply below_drew1) | exact HB.out)⟩⟩
                 · rw [if_neg c19] at H
                   exact absurd H (by simp)
               · rw [if_neg c18] at H
                 exact absurd H (by simp)
       · rw [if_neg c11] at H
         have c11b0 : decide (x4_2 < (t109.length : Int)) = false := decide_eq_false c11
         clear c11
         obtain rfl := Option.some.inj H
         obtain ⟨Ao25, co25, eo25⟩ := Kd.R_slice HO_3.out
         subst eo25
         go_wp2
         go_ret
         exact ⟨by first | rfl | (simp [errW_none, errW_some] <;> rfl) | (simp [*, errW_none, errW_some] <;> rfl), by repeat (first | (with_reducible first | exact HB.out | apply below_alloc | apply pw_below_drewN | apply below_drew1) | exact HB.out)⟩

end Go.Proofs.YtobbliglnjgbaaaGreatDoor.Ph

namespace Go.Proofs.YtobbliglnjgbaaaGreatDoor.X
open Go.RowKit Go.Shelf Go.Proofs.YtobbliglnjgbaaaGreatDoorW.PrintWords Go.Proofs.YtobbliglnjgbaaaGreatDoor.Pe Go.Proofs.YtobbliglnjgbaaaGreatDoor.Ph

def glue (cur : Bytes) : List Bytes → List Bytes
 | [] => [cur]
 | p :: q => (cur ++ p) :: q
theorem glue_nil (l : List Bytes) (h : l ≠ []) : glue [] l = l := by
 cases l with
 | nil => exact absurd rfl h
 | cons p q => rfl
theorem cutAt_cons_eq (r : Bytes) : cutAt 47 (47 :: r) = [] :: cutAt 47 r := by simp [cutAt]
theorem cutAt_cons_ne {c : UInt8} (h : c ≠ 47) (r : Bytes) : cutAt 47 (c :: r) = glue [c] (cutAt 47 r) := by
 conv => lhs; rw [cutAt, if_neg h]
 cases hc : cutAt 47 r with
 | nil => rfl
 | cons p q => rfl
theorem glue_glue (a b : Bytes) (l : List Bytes) : glue a (glue b l) = glue (a ++ b) l := by
 cases l with
 | nil => rfl
 | cons p q => simp [glue]
theorem bt_mk' (s : Bytes) (i : Nat) (h : i < s.length) : bt (mk s) (i : Int) = (s[i].toNat : Int) := by
 have := bt_list (mk s) i (by rw [mk_data]; exact h)
 simpa only [mk_data] using this
theorem extract_one (s : Bytes) (i : Nat) (h : i < s.length) : (mk s).extract i (i + 1) = mk [s[i]] := by
 apply data_inj
 rw [mk_data]
 simp only [ByteArray.data_extract, mk, Array.toList_extract, List.extract_eq_take_drop]
 rw [show i + 1 - i = 1 by omega, List.drop_eq_getElem_cons h]
 rfl
theorem refParts_loop (s : Bytes) (hs : s.length ≤ 100000) : ∀ d k i done cur, s.length - i = d → d < k → i ≤ s.length → List.length done ≤ i → List.length cur ≤ i →
 shipwrightref1_Parts.l0 k (mk s) ((done ++ [cur]).map mk) i = some ((done ++ glue cur (cutAt 47 (s.drop i))).map mk) := by
 intro d
 induction d with
 | zero =>
  intro k i done cur hd hk hi h1 h2
  obtain ⟨k, rfl⟩ : ∃ m, k = m + 1 := ⟨k - 1, by omega⟩
  simp only [shipwrightref1_Parts.l0]
  rw [mk_size, if_neg (by omega), List.drop_of_length_le (by omega)]
  simp [cutAt, glue]
 | succ d ih =>
  intro k i done cur hd hk hi h1 h2
  obtain ⟨k, rfl⟩ : ∃ m, k = m + 1 := ⟨k - 1, by omega⟩
  have hlt : i < s.length := by omega
  have a1 : s.length - (i + 1) = d := by omega
  have a2 : d < k := by omega
  have hb := bt_mk' s i hlt
  have hdr : s.drop i = s[i] :: s.drop (i + 1) := List.drop_eq_getElem_cons hlt
  have hex := extract_one s i hlt
  obtain ⟨c, hc⟩ : ∃ c, c = s[i] := ⟨_, rfl⟩
  rw [← hc] at hb hdr hex
  have W1 : Hid (wrap64 ((i : Int) + 1) = ((i + 1 : Nat) : Int)) := by
   show wrap64 ((i : Int) + 1) = ((i + 1 : Nat) : Int)
   rw [w64 (by omega) (by omega)]
   omega
  have hlen : ((done ++ [cur]).map mk).length = done.length + 1 := by simp
  simp only [shipwrightref1_Parts.l0]
  rw [mk_size, if_pos (by omega), if_pos (by omega), hb, hlen, W1.out, hdr]
  by_cases h47 : c = 47
  · subst h47
    rw [if_pos (by rfl), if_pos (by omega)]
    have := ih k (i + 1) (done ++ [cur]) [] a1 a2 (by omega) (by simp; omega) (by simp)
    rw [List.map_append] at this
    rw [show [(⟨#[]⟩ : ByteArray)] = List.map mk [[]] from rfl, this, cutAt_cons_eq, glue_nil _ (cutAt_ne _ _)]
    simp [glue]
  · have h47' : ¬ ((c.toNat : Int) = 47) := by
     intro h
     apply h47
     rw [← UInt8.toNat_inj]
     show c.toNat = 47
     omega
    have W2 : Hid (wrap64 (((done.length + 1 : Nat) : Int) - 1) = ((done.length : Nat) : Int)) := by
     show wrap64 (((done.length + 1 : Nat) : Int) - 1) = ((done.length : Nat) : Int)
     rw [w64 (by omega) (by omega)]
     omega
    have hrd : rdOf ByteArray.empty ((done ++ [cur]).map mk) ((done.length : Nat) : Int) = mk cur := by
     unfold rdOf
     simp [List.getD_eq_getElem?_getD]
    rw [if_neg h47', W2.out, if_pos (by omega), if_pos (by omega), if_pos (by omega), if_pos (by omega), hrd]
    simp only [Int.toNat_natCast]
    rw [hex, mk_size, mk_size, if_pos (by simp; omega), mk_append]
    have hset : ((done ++ [cur]).map mk).set done.length (mk (cur ++ [c])) = (done ++ [cur ++ [c]]).map mk := by simp
    rw [hset, ih k (i + 1) done (cur ++ [c]) a1 a2 (by omega) (by omega) (by simp; omega), cutAt_cons_ne h47, glue_glue]
theorem refParts (s : Bytes) (hs : s.length ≤ 100000) (k : Nat) (hk : s.length < k) : shipwrightref1_Parts.f k (mk s) = some ((parts s).map mk) := by
 have := refParts_loop s hs s.length k 0 [] [] (by omega) hk (by omega) (by simp) (by simp)
 rw [List.drop_zero, List.nil_append, List.nil_append, glue_nil _ (cutAt_ne _ _)] at this
 exact this

theorem sign_f : ∀ c : Nat, c < 256 → shipwrightref1_Sign.f (c : Int) = some (sign (UInt8.ofNat c)) := by decide +kernel
theorem sign_ff (c : UInt8) : shipwrightref1_Sign.f (c.toNat : Int) = some (sign c) := by
 rw [sign_f c.toNat (UInt8.toNat_lt c)]
 simp
theorem rd_map (L : List Bytes) (i : Nat) (h : i < L.length) : rdOf ByteArray.empty (L.map mk) (i : Int) = mk L[i] := by
 unfold rdOf
 simp [List.getD_eq_getElem?_getD, h]
theorem refMay_bytes (L : List Bytes) (hL : L.length ≤ 100000) (i : Nat) (hi : i < L.length) (hp : L[i].length ≤ 100000) (K : Nat) (r : Bool) (hK : shipwrightref1_May.l0 K (L.map mk) ((i + 1 : Nat) : Int) = some r) :
 ∀ d j, L[i].length - j = d → j ≤ L[i].length → shipwrightref1_May.l1 (K + d + 1) (L.map mk) i j = some (if (L[i].drop j).all sign then r else false) := by
 intro d
 induction d with
 | zero =>
  intro j hd hj
  have hlen : (L.map mk).length = L.length := by simp
  simp only [shipwrightref1_May.l1]
  rw [hlen, rd_map L i hi, mk_size, if_pos (by omega), if_pos (by omega), if_neg (by omega), List.drop_of_length_le (by omega)]
  rw [show wrap64 ((i : Int) + 1) = ((i + 1 : Nat) : Int) by rw [w64 (by omega) (by omega)]; omega]
  simpa using hK
 | succ d ih =>
  intro j hd hj
  have hlt : j < L[i].length := by omega
  have h2 := ih (j + 1) (by omega) (by omega)
  have hlen : (L.map mk).length = L.length := by simp
  have hb := bt_mk' L[i] j hlt
  have hdr : L[i].drop j = L[i][j] :: L[i].drop (j + 1) := List.drop_eq_getElem_cons hlt
  have a1 : K + (d + 1) = K + d + 1 := by omega
  obtain ⟨c, hc⟩ : ∃ c, c = L[i][j] := ⟨_, rfl⟩
  obtain ⟨q, hq⟩ : ∃ q, q = L[i].drop (j + 1) := ⟨_, rfl⟩
  rw [← hc] at hb
  rw [← hc, ← hq] at hdr
  rw [← hq] at h2
  clear hc hq
  rw [a1]
  conv => lhs; unfold shipwrightref1_May.l1
  rw [hlen, rd_map L i hi, mk_size, if_pos (by omega), if_pos (by omega), if_pos (by omega), if_pos (by omega), hb, sign_ff, hdr]
  simp only [Option.bind_some]
  by_cases hs : sign c = true
  · rw [if_pos hs, show wrap64 ((j : Int) + 1) = ((j + 1 : Nat) : Int) by rw [w64 (by omega) (by omega)]; omega, h2]
    simp [hs]
  · rw [if_neg hs]
    simp [hs]
theorem bad_cases (p : Bytes) : bad p = (p == [] || p == [46] || p == [46, 46] || !(p.all sign)) := by
 unfold bad
 congr 1
 rw [List.all_eq_not_any_not]
 simp
theorem refMay_loop (L : List Bytes) (hL : L.length ≤ 100000) (hp : ∀ p ∈ L, p.length ≤ 100000) : ∀ d i, L.length - i = d → i ≤ L.length → ∃ K, shipwrightref1_May.l0 K (L.map mk) i = some (!(L.drop i).any bad) := by
 intro d
 induction d with
 | zero =>
  intro i hd hi
  have hlen : (L.map mk).length = L.length := by simp
  refine ⟨1, ?_⟩
  simp only [shipwrightref1_May.l0]
  rw [hlen, if_neg (by omega), List.drop_of_length_le (by omega)]
  rfl
 | succ d ih =>
  intro i hd hi
  have hlt : i < L.length := by omega
  obtain ⟨K, hK⟩ := ih (i + 1) (by omega) (by omega)
  have hlen : (L.map mk).length = L.length := by simp
  have hpi := hp L[i] (List.getElem_mem hlt)
  have h1 := refMay_bytes L hL i hlt hpi K _ hK L[i].length 0 (by omega) (by omega)
  have hdr : L.drop i = L[i] :: L.drop (i + 1) := List.drop_eq_getElem_cons hlt
  refine ⟨K + L[i].length + 3, ?_⟩
  rw [show K + L[i].length + 3 = (K + L[i].length + 1) + 1 + 1 by omega]
  simp only [shipwrightref1_May.l0]
  rw [hlen, if_pos (by omega), if_pos (by omega), rd_map L i hlt, mk_toList, hdr, List.any_cons, bad_cases]
  by_cases e1 : L[i] = []
  · rw [if_pos e1]
    simp only [shipwrightref1_May.j2]
    rw [if_pos trivial, e1]
    rfl
  · rw [if_neg e1]
    by_cases e2 : L[i] = [46]
    · rw [if_pos e2]
      simp only [shipwrightref1_May.j2]
      rw [if_pos trivial, e2]
      rfl
    · rw [if_neg e2]
      simp only [shipwrightref1_May.j2]
      by_cases e3 : L[i] = [46, 46]
      · rw [if_pos (by rw [e3]; rfl), e3]
        rfl
      · rw [if_neg (by simpa using e3), show (0 : Int) = ((0 : Nat) : Int) from rfl, h1, List.drop_zero]
        have f1 : (L[i] == []) = false := by simpa using e1
        have f2 : (L[i] == [46]) = false := by simpa using e2
        have f3 : (L[i] == [46, 46]) = false := by simpa using e3
        rw [f1, f2, f3]
        cases L[i].all sign <;> simp
theorem parts_len : ∀ s : Bytes, (parts s).length ≤ s.length + 1 ∧ ∀ p ∈ parts s, p.length ≤ s.length := by
 intro s
 unfold parts
 induction s with
 | nil => simp [cutAt]
 | cons c r ih =>
  obtain ⟨i1, i2⟩ := ih
  by_cases h : c = 47
  · subst h
    rw [cutAt_cons_eq]
    refine ⟨by simp; omega, fun p hp => ?_⟩
    rcases List.mem_cons.1 hp with rfl | hp
    · simp
    · have := i2 p hp
      simp
      omega
  · rw [cutAt_cons_ne h]
    cases hc : cutAt 47 r with
    | nil => exact absurd hc (cutAt_ne _ _)
    | cons q t =>
     rw [hc] at i1 i2
     refine ⟨by simp [glue] at i1 ⊢; omega, fun p hp => ?_⟩
     unfold glue at hp
     rcases List.mem_cons.1 hp with rfl | hp
     · have := i2 q List.mem_cons_self
       simp
       omega
     · have := i2 p (List.mem_cons_of_mem _ hp)
       simp
       omega
theorem refMay (s : Bytes) : ∃ k, shipwrightref1_May.f k (mk s) = some (may s) := by
 have words : may s = (!(s == [114, 117, 108, 101] || s == [105, 110] || s == [111, 117, 116] || s == [97, 102, 116, 101, 114]) && decide (s.length ≤ 40) && !(parts s).any bad) := rfl
 by_cases h40 : s.length ≤ 40
 · obtain ⟨q1, q2⟩ := parts_len s
   obtain ⟨K, hK⟩ := refMay_loop (parts s) (by omega) (fun p hp => by have := q2 p hp; omega) (parts s).length 0 (by omega) (by omega)
   rw [List.drop_zero] at hK
   refine ⟨K + s.length + 2, ?_⟩
   have hlift : shipwrightref1_May.l0 (K + s.length + 1) ((parts s).map mk) (0 : Nat) = some (!(parts s).any bad) :=
    at_rounds (g := fun k => shipwrightref1_May.l0 k ((parts s).map mk) ((0 : Nat) : Int)) (fun k => (shipwrightref1_May.mono_l k).2.1 _ _) (by omega) hK
   have tail : ∀ b, shipwrightref1_May.j0 (K + s.length + 2) (mk s) b = some (if b = true then false else !(parts s).any bad) := by
    intro b
    simp only [shipwrightref1_May.j0]
    cases b with
    | true => rfl
    | false =>
     rw [if_neg (by simp), refParts s (by omega) _ (by omega)]
     simp only [Option.bind_some]
     exact hlift
   unfold shipwrightref1_May.f
   rw [mk_size, mk_toList, words]
   by_cases h0 : s = []
   · subst h0
     rw [if_pos (by simp), tail]
     rfl
   · have hpos : 0 < s.length := List.length_pos_iff.2 h0
     rw [if_neg (by omega), if_neg (by omega)]
     by_cases e1 : s = [114, 117, 108, 101]
     · rw [if_pos e1, tail]
       simp [e1]
     · rw [if_neg e1]
       by_cases e2 : s = [105, 110]
       · rw [if_pos e2, tail]
         simp [e2]
       · rw [if_neg e2]
         by_cases e3 : s = [111, 117, 116]
         · rw [if_pos e3, tail]
           simp [e3]
         · rw [if_neg e3, tail]
           have f1 : (s == [114, 117, 108, 101]) = false := by simpa using e1
           have f2 : (s == [105, 110]) = false := by simpa using e2
           have f3 : (s == [111, 117, 116]) = false := by simpa using e3
           rw [f1, f2, f3]
           cases s == [97, 102, 116, 101, 114] <;> simp [h40]
 · refine ⟨1, ?_⟩
   unfold shipwrightref1_May.f
   rw [mk_size, if_neg (by omega), if_pos (by omega), words]
   simp only [shipwrightref1_May.j0]
   rw [if_pos trivial]
   simp [h40]

end Go.Proofs.YtobbliglnjgbaaaGreatDoor.X

namespace Go.Proofs.YtobbliglnjgbaaaGreatDoor.X
open Go.RowKit Go.Maps Go.Proofs.YtobbliglnjgbaaaGreatDoorW.PrintWords Go.Proofs.YtobbliglnjgbaaaGreatDoorW.PrintMore Go.Proofs.YtobbliglnjgbaaaGreatDoorW.PrintLast Go.Proofs.YtobbliglnjgbaaaGreatDoor.Pb Go.Proofs.YtobbliglnjgbaaaGreatDoor.Pc

def GoodM (m : TM) : Prop := SortedT m ∧ m.length ≤ 60 ∧ SmallT m
theorem GoodM.write {m : TM} (h : GoodM m) (k v : Bytes) : GoodM (writeT m k v).1 := ⟨h.1.write k v, writeT_length m k v h.2.1, h.2.2.write k v⟩
theorem GoodM.erase {m : TM} (h : GoodM m) (k : Bytes) : GoodM (eraseT m k).1 := by
 refine ⟨h.1.erase k, erase_len m k h.2.1, ?_⟩
 unfold eraseT
 split
 · exact h.2.2
 · exact fun p hp => h.2.2 p ((List.mem_filter.1 hp).1)
theorem GoodM.new (l : List (Bytes × Bytes)) : GoodM (newT l) := ⟨SortedT.new _, newT_length _, SmallT.new _⟩
theorem GoodM.key {m : TM} (h : GoodM m) : (keyT m).length ≤ 140737488355328 := Nat.le_trans (h.2.2.key h.2.1) (by decide)

structure St (w0 W : World) (gt bt gr : Nat) (cs : List (Nat × Nat × TM)) (os : List (Nat × Array Value)) (A : Option Addr) (c : Nat) (m : TM) (L : List SFile) : Prop where
 t : IsTree W gt bt m
 r : IsR W w0.heap.size gr A c L
 cl : ∀ p ∈ cs, IsTree W p.1 p.2.1 p.2.2 ∧ p.2.1 ≠ bt
 op : ∀ p ∈ os, W.heap[p.1]? = some (.cells p.2 48 (0, 0))
 low : w0.heap.size ≤ bt ∧ w0.heap.size ≤ gr
 bel : Below w0.heap.size w0 W
section
variable {w0 W W1 : World} {gt bt gr : Nat} {cs : List (Nat × Nat × TM)} {os : List (Nat × Array Value)} {A : Option Addr} {c : Nat} {m : TM} {L : List SFile}
theorem St.below (h : St w0 W gt bt gr cs os A c m L) (hb : Below W.heap.size W W1) : St w0 W1 gt bt gr cs os A c m L :=
 ⟨h.t.below hb, h.r.below hb, fun p hp => ⟨(h.cl p hp).1.below hb, (h.cl p hp).2⟩, fun p hp => blk_below (h.op p hp) hb, h.low, below_then h.bel h.bel.size hb⟩
theorem St.opened (h : St w0 W gt bt gr cs os A c m L) (cells : Array Value) : St w0 (W.alloc (.cells cells 48)) gt bt gr cs [(W.heap.size, cells)] A c m L := by
 have h1 := h.below ((Below.refl W.heap.size W).alloc (Nat.le_refl _) (.cells cells 48))
 refine ⟨h1.t, h1.r, h1.cl, fun p hp => ?_, h1.low, h1.bel⟩
 obtain rfl := List.mem_singleton.1 hp
 exact blk_new W _
theorem St.closed (h : St w0 W gt bt gr cs os A c m L) : St w0 W gt bt gr cs [] A c m L := ⟨h.t, h.r, h.cl, fun p hp => (by cases hp), h.low, h.bel⟩
theorem map_ne {w : World} {b n x : Nat} {m : TM} {cells : Array Value} {t : TypeId} (h : w.ownsMap Tryz.prog 9 (plainElem Tryz.prog 9) b n (encT m)) (hx : w.heap[x]? = some (.cells cells t (0, 0))) : x ≠ b := by
 rintro rfl
 obtain ⟨es, clock, hb, _⟩ := h
 rw [hx] at hb
 cases hb
theorem St.tree {m2 : TM} (h : St w0 W gt bt gr cs os A c m L) (hT : IsTree W1 gt bt m2) (hg : W.grownBy W1 (some bt)) : St w0 W1 gt bt gr cs os A c m2 L := by
 have nb : ∀ (x : Nat) (cells : Array Value) (t : TypeId), W.heap[x]? = some (.cells cells t (0, 0)) → W1.heap[x]? = some (.cells cells t (0, 0)) := fun x cells t hx =>
  (hg.block x (Array.getElem?_eq_some_iff.1 hx).1 (by have := map_ne h.t.map hx; simpa using this)).trans hx
 refine ⟨hT, ⟨nb _ _ _ h.r.cell, ?_⟩, fun p hp => ?_, fun p hp => nb _ _ _ (h.op p hp), h.low, h.bel.grown hg h.bel.size (fun k hk => by cases hk; exact h.low.1)⟩
 · refine Kd.R_mono (Kd.R_grown (Kd.R_bound h.r.row) hg (fun k hk => ?_)) (fun _ _ => trivial)
   obtain ⟨_, _, _, q, _, cells, hc⟩ := hk
   have := map_ne h.t.map hc
   simpa using this
 · have hp1 := h.cl p hp
   exact ⟨hp1.1.kept (hg.block _ hp1.1.lt.1 (by have := map_ne h.t.map hp1.1.cell; simpa using this)) (hg.block _ hp1.1.lt.2 (by simpa using hp1.2)), hp1.2⟩
theorem St.ref {L2 : List SFile} {A2 : Option Addr} {c2 : Nat} (h : St w0 W gt bt gr cs os A c m L) (hr : IsR W1 w0.heap.size gr A2 c2 L2) (hb : But W W1 (ofR gr A L.length c)) : St w0 W1 gt bt gr cs os A2 c2 m L2 := by
 have nc : ∀ (x : Nat) (cells : Array Value) (t : TypeId), t ≠ 64 → t ≠ 50 → W.heap[x]? = some (.cells cells t (0, 0)) → W1.heap[x]? = W.heap[x]? := fun x cells t h1 h2 hx => by
  refine hb.block x (Array.getElem?_eq_some_iff.1 hx).1 ?_
  rintro (rfl | hS)
  · rw [h.r.cell] at hx
    injection hx with hx
    injection hx with _ ht
    exact h1 ht.symm
  · exact Kd.R_ne h.r.row hx (Ne.symm h2) hS
 have nm : ∀ (b n : Nat) (m : TM), W.ownsMap Tryz.prog 9 (plainElem Tryz.prog 9) b n (encT m) → W1.heap[b]? = W.heap[b]? := fun b n m hm => by
  refine hb.block b hm.lt ?_
  rintro (rfl | hS)
  · exact map_ne hm h.r.cell rfl
  · obtain ⟨cells, hc⟩ := Kd.R_typed h.r.row b hS.symm
    exact map_ne hm hc rfl
 refine ⟨h.t.kept (nc _ _ _ (by decide) (by decide) h.t.cell) (nm _ _ _ h.t.map), hr, fun p hp => ⟨(h.cl p hp).1.kept (nc _ _ _ (by decide) (by decide) (h.cl p hp).1.cell) (nm _ _ _ (h.cl p hp).1.map), (h.cl p hp).2⟩,
  fun p hp => (nc _ _ _ (by decide) (by decide) (h.op p hp)).trans (h.op p hp), h.low, ?_⟩
 have := h.bel
 refine ⟨hb.os.trans this.os, hb.tape.trans this.tape, hb.output.trans this.output, Nat.le_trans this.size hb.size, fun k hk => (hb.block k (Nat.lt_of_lt_of_le hk this.size) ?_).trans (this.block k hk)⟩
 rintro (rfl | hS)
 · have := h.low.2; omega
 · have := Kd.R_base h.r.row k hS.symm; omega
theorem St.tWrite (h : St w0 W gt bt gr cs os A c m L) (hG : GOK w0) (n v : ByteArray) (hn : n.size ≤ maxLen) (hv : v.size ≤ maxLen) (hm : GoodM m) :
 Calls Tryz.prog 26 #[.pointer (some ⟨gt, 0, none⟩), .string n, .string v] W fun e w' => e = .returned (.int .i64 (writeT m n.data.toList v.data.toList).2) ∧ St w0 w' gt bt gr cs os A c (writeT m n.data.toList v.data.toList).1 L :=
 (tree_Write.calls W (hG.below h.bel) gt bt m h.t n v hn hv hm.2.1).mono (fun _ _ ⟨he, hT, hg⟩ => ⟨he, h.tree hT hg⟩)
theorem St.tErase (h : St w0 W gt bt gr cs os A c m L) (n : ByteArray) (hn : n.size ≤ maxLen) :
 Calls Tryz.prog 35 #[.pointer (some ⟨gt, 0, none⟩), .string n] W fun e w' => e = .returned (.int .i64 (eraseT m n.data.toList).2) ∧ St w0 w' gt bt gr cs os A c (eraseT m n.data.toList).1 L :=
 (tree_Erase.calls W gt bt m h.t n hn).mono (fun _ _ ⟨he, hT, hg⟩ => ⟨he, h.tree hT hg⟩)
theorem may_calls (n : ByteArray) (W : World) (hG : GOK W) : Calls Tryz.prog 57 #[.string n] W fun e w' => e = .returned (.bool (may n.data.toList)) ∧ Below W.heap.size W w' := by
 obtain ⟨k, hk⟩ := refMay n.data.toList
 rw [data_mk] at hk
 exact Ph.shipwrightref1_May.calls k n _ W hG hk
theorem St.rWrite {mr : TM} (h : St w0 W gt bt gr cs os A c m (refL mr)) (hG : GOK w0) (n v : ByteArray) (hm : GoodM mr) :
 Calls Tryz.prog 36 #[.pointer (some ⟨gr, 0, none⟩), .string n, .string v] W fun e w' => e = .returned (.int .i64 (writeT mr n.data.toList v.data.toList).2) ∧ ∃ A2 c2, St w0 w' gt bt gr cs os A2 c2 m (refL (writeT mr n.data.toList v.data.toList).1) := by
 have hc := refWrite_calls W w0.heap.size gr A c (refL mr) n v h.r (by rw [refL_len]; have := hm.2.1; omega) h.bel.size (fun W2 hW2 => may_calls n W2 (hG.below (below_then h.bel h.bel.size hW2)))
 rw [writeR_T mr hm.1] at hc
 refine hc.mono ?_
 rintro e w' ⟨he, ⟨A2, c2, hr⟩, hb⟩
 exact ⟨he, A2, c2, h.ref hr hb⟩
theorem St.rErase {mr : TM} (h : St w0 W gt bt gr cs os A c m (refL mr)) (n : ByteArray) (hm : GoodM mr) :
 Calls Tryz.prog 39 #[.pointer (some ⟨gr, 0, none⟩), .string n] W fun e w' => e = .returned (.int .i64 (eraseT mr n.data.toList).2) ∧ ∃ A2 c2, St w0 w' gt bt gr cs os A2 c2 m (refL (eraseT mr n.data.toList).1) := by
 have hc := refErase_calls W w0.heap.size gr A c (refL mr) n h.r (by rw [refL_len]; have := hm.2.1; omega) h.bel.size
 rw [eraseR_T mr hm.1] at hc
 refine hc.mono ?_
 rintro e w' ⟨he, ⟨A2, c2, hr⟩, hb⟩
 exact ⟨he, A2, c2, h.ref hr hb⟩
theorem St.tRead (h : St w0 W gt bt gr cs os A c m L) (n : ByteArray) (hn : n.size ≤ maxLen) :
 Calls Tryz.prog 30 #[.pointer (some ⟨gt, 0, none⟩), .string n] W fun e w' => e = .returned (.tuple #[.string (X.mk ((getT m n.data.toList).getD [])), .bool (getT m n.data.toList).isSome]) ∧ St w0 w' gt bt gr cs os A c m L :=
 (tree_Read.calls W gt bt m h.t n hn).mono (fun _ _ ⟨he, hd⟩ => ⟨he, h.below hd.below⟩)
theorem St.rRead {mr : TM} (h : St w0 W gt bt gr cs os A c m (refL mr)) (n : ByteArray) (hm : GoodM mr) :
 Calls Tryz.prog 40 #[.pointer (some ⟨gr, 0, none⟩), .string n] W fun e w' => e = .returned (.tuple #[.string (X.mk ((getT mr n.data.toList).getD [])), .bool (getT mr n.data.toList).isSome]) ∧ St w0 w' gt bt gr cs os A c m (refL mr) := by
 have hc := refRead_calls W w0.heap.size gr A c (refL mr) n h.r
 rw [readR_T mr hm.1] at hc
 exact hc.mono (fun _ _ ⟨he, hd⟩ => ⟨he, h.below hd.below⟩)
theorem St.tLen (h : St w0 W gt bt gr cs os A c m L) :
 Calls Tryz.prog 28 #[.pointer (some ⟨gt, 0, none⟩)] W fun e w' => e = .returned (.int .i64 m.length) ∧ St w0 w' gt bt gr cs os A c m L :=
 (tree_Len.calls W gt bt m h.t).mono (fun _ _ ⟨he, hd⟩ => ⟨he, h.below hd.below⟩)
theorem St.tKey (h : St w0 W gt bt gr cs os A c m L) (hG : GOK w0) (hm : GoodM m) :
 Calls Tryz.prog 29 #[.pointer (some ⟨gt, 0, none⟩)] W fun e w' => e = .returned (.string (X.mk (keyT m))) ∧ St w0 w' gt bt gr cs os A c m L :=
 (tree_Key.calls W (hG.below h.bel) gt bt m h.t hm.1 hm.2.1 hm.2.2.names hm.key).mono (fun _ _ ⟨he, hb⟩ => ⟨he, h.below hb⟩)
theorem St.cKey {g b : Nat} {m0 : TM} (h : St w0 W gt bt gr [(g, b, m0)] os A c m L) (hG : GOK w0) (hm : GoodM m0) :
 Calls Tryz.prog 29 #[.pointer (some ⟨g, 0, none⟩)] W fun e w' => e = .returned (.string (X.mk (keyT m0))) ∧ St w0 w' gt bt gr [(g, b, m0)] os A c m L :=
 (tree_Key.calls W (hG.below h.bel) g b m0 (h.cl _ List.mem_cons_self).1 hm.1 hm.2.1 hm.2.2.names hm.key).mono (fun _ _ ⟨he, hb⟩ => ⟨he, h.below hb⟩)
theorem St.rKey {mr : TM} (h : St w0 W gt bt gr cs os A c m (refL mr)) (hm : GoodM mr) :
 Calls Tryz.prog 38 #[.pointer (some ⟨gr, 0, none⟩)] W fun e w' => e = .returned (.string (X.mk (keyT mr))) ∧ St w0 w' gt bt gr cs os A c m (refL mr) := by
 have hk : put ((flatR (refL mr)).map (·.data.toList)) = keyT mr := by rw [flatR_refL]; rfl
 have hc := refKey_calls W w0.heap.size gr A c (refL mr) h.r (by rw [refL_len]; have := hm.2.1; omega) (by rw [hk]; exact hm.key)
 rw [hk] at hc
 exact hc.mono (fun _ _ ⟨he, hb⟩ => ⟨he, h.below hb⟩)
theorem St.tClone (h : St w0 W gt bt gr [] os A c m L) :
 Calls Tryz.prog 37 #[.pointer (some ⟨gt, 0, none⟩)] W fun e w' => ∃ g b, e = .returned (.pointer (some ⟨g, 0, none⟩)) ∧ St w0 w' gt bt gr [(g, b, m)] os A c m L := by
 refine (tree_Clone.calls W gt bt m h.t).mono ?_
 rintro e w' ⟨g, b, he, hT, hg, hb, hB⟩
 have h1 := h.below hB
 refine ⟨g, b, he, h1.t, h1.r, fun p hp => ?_, h1.op, h1.low, h1.bel⟩
 obtain rfl := List.mem_singleton.1 hp
 exact ⟨hT, by have := h.t.lt.2; show b ≠ bt; omega⟩
theorem St.opc {gp : Nat} {cells : Array Value} (h : St w0 W gt bt gr cs [(gp, cells)] A c m L) : W.heap[gp]? = some (.cells cells 48 (0, 0)) := h.op _ List.mem_cons_self
end

end Go.Proofs.YtobbliglnjgbaaaGreatDoor.X

namespace Go.Proofs.YtobbliglnjgbaaaGreatDoor.X
open Go.RowKit Go.ChangeShapes Go.WideShapes Go.Deep Go.Proofs.YtobbliglnjgbaaaGreatDoorW.PrintWords

theorem addr_add (a : Addr) (i j : Nat) : (a.add i).add j = a.add (i + j) := by
 unfold Addr.add
 by_cases hi : i = 0 <;> by_cases hj : j = 0 <;> simp [hi, hj, Nat.add_assoc]
section
variable {H : Type} {enc : TypeId × Value → H} {W : World} {α : Type}
def RowD (E : α → DataW H) (l : List α) (d : DataW H) : Prop := (d = .nil ∧ l = []) ∨ ∃ sp, d = .slice (l.map E) sp
theorem open_rowG [Inhabited α] (K : Kd α) (E : α → DataW H) (good : α → Prop) {P : Program} {base : Nat} {held : Bool} {t e : TypeId} {v : Value} {d : DataW H} {ps : List MemPlace}
 (ht : P.underlying t = some (.slice e)) (hce : P.cellsOf e = K.sz)
 (hel : ∀ n cs x p, cs.length = K.sz → DataW.trod enc P W base (fun _ => true) held n e cs = some (x, p) → ∃ y : α, K.K W y cs ∧ x = E y ∧ good y)
 (hv : ∃ a len cap, v = .slice a len cap) (h : DataW.Trod enc P W base (fun _ => true) held t v d ps) :
 ∃ (a : Option Addr) (l : List α) (c : Nat), v = .slice a l.length c ∧ K.C W a l.length l ∧ l.length ≤ c ∧ RowD E l d ∧ ∀ y ∈ l, good y := by
 obtain ⟨a0, len0, cap0, rfl⟩ := hv
 obtain ⟨fuel, hf⟩ := h
 rcases open_slice ht hf with ⟨hcs, hx⟩ | ⟨a, len, cap, m, n, D, Pl, hcs, hb, hl, hm, hmm, hx, hall⟩
 · simp [Value.cells] at hcs
   obtain ⟨rfl, rfl, rfl⟩ := hcs
   have := (Prod.mk.inj hx).1
   exact ⟨none, [], 0, rfl, ⟨rfl, by simp, fun h => by simp at h⟩, Nat.le_refl _, .inl ⟨this, rfl⟩, fun y hy => by cases hy⟩
 · simp [Value.cells] at hcs
   obtain ⟨rfl, rfl, rfl⟩ := hcs
   obtain ⟨hx1, _⟩ := Prod.mk.inj hx
   have hlm : len0 ≤ m := by rw [hmm]; simp; omega
   obtain ⟨Y, hY⟩ := choose_lt (α := α) (n := len0) (p := fun i y => ∃ cs, W.cells? base (a.add (i * K.sz)) K.sz = some cs ∧ K.K W y cs ∧ D i = E y ∧ good y) (fun i hi => by
    obtain ⟨cs, h1, h2⟩ := hall i (by omega)
    rw [hce] at h1
    obtain ⟨_, hlen, _⟩ := World.cells?_some h1
    obtain ⟨y, h3, h4, h5⟩ := hel n cs _ _ hlen h2
    exact ⟨y, cs, h1, h3, h4, h5⟩)
   have hle : len0 ≤ 9223372036854775807 := by unfold maxLen at hm; omega
   refine ⟨some a, (List.range len0).map Y, cap0, by simp, ?_, by simpa using hl, .inr ⟨(List.range (m - len0)).map fun j => D (len0 + j), hx1.trans ?_⟩, ?_⟩
   · refine ⟨rfl, by simpa using hle, fun _ => ⟨a, rfl, fun j p hj => ?_⟩⟩
     obtain ⟨hjl, hjp⟩ := List.getElem?_eq_some_iff.1 hj
     have hjn : j < len0 := by simpa using hjl
     have hp : Y j = p := by simpa using hjp
     obtain ⟨cs, h1, h2, _, _⟩ := hY j hjn
     rw [hp] at h2
     obtain ⟨_, hlen, hcell⟩ := World.cells?_some h1
     refine ⟨cs, hlen, h2, fun i u hu => ?_⟩
     have hi : i < K.sz := by rw [← hlen]; exact (List.getElem?_eq_some_iff.1 hu).1
     have := hcell i hi
     rw [hu] at this
     rw [← this, addr_add]
   · congr 1
     rw [List.map_map]
     refine List.map_congr_left fun i hi => ?_
     obtain ⟨_, _, _, h3, _⟩ := hY i (List.mem_range.1 hi)
     exact h3
   · intro y hy
     obtain ⟨i, hi, rfl⟩ := List.mem_map.1 hy
     obtain ⟨_, _, _, _, h4⟩ := hY i (List.mem_range.1 hi)
     exact h4

end

instance : Inhabited S34 := ⟨z34⟩
instance : Inhabited S50 := ⟨z50⟩
def eFile {H : Type} (y : S50) : DataW H := .agg [.lit (.string y.f0.data.toList), .lit (.string y.f1.data.toList)]
theorem two_cells {cs : List Value} (h : cs.length = 2) : ∃ a b, cs = [a, b] := by
 match cs, h with
 | [a, b], _ => exact ⟨a, b, rfl⟩
theorem open_files {H : Type} {enc : TypeId × Value → H} {W : World} {base : Nat} {held : Bool} {v : Value} {d : DataW H} {ps : List MemPlace} (hv : ∃ a len cap, v = Value.slice a len cap)
 (h : DataW.Trod enc Tryz.prog W base (fun _ => true) held 46 v d ps) :
 ∃ (a : Option Addr) (l : List S50) (c : Nat), v = .slice a l.length c ∧ Kd.C k50 W a l.length l ∧ l.length ≤ c ∧ RowD (eFile (H := H)) l d ∧ ∀ y ∈ l, y.f0.size ≤ maxLen ∧ y.f1.size ≤ maxLen :=
 open_rowG k50 eFile (fun y => y.f0.size ≤ maxLen ∧ y.f1.size ≤ maxLen) Tryz.underlying46 (by kernel_rfl) (fun n cs x p hl hx => by
  obtain ⟨y0, y1, m, h1, _, h2, h3⟩ := trod_struct2 Tryz.underlying50 hx
  obtain ⟨ca, cb, rfl⟩ := two_cells hl
  have c2 : Tryz.prog.cellsOf 9 = 1 := by kernel_rfl
  simp only [c2, List.drop_zero, List.drop_succ_cons, List.take_succ_cons, List.take_zero] at h2 h3
  obtain ⟨b, e1, e2, e6⟩ := DataW.trod_string Tryz.underlying9 h2
  obtain ⟨s, e3, e4, e5⟩ := DataW.trod_string Tryz.underlying9 h3
  refine ⟨⟨b, s⟩, ?_, ?_, e6, e5⟩
  · cases e1; cases e3
    exact k50_mk W ⟨b, s⟩
  · rw [(Prod.mk.inj h1).1, e2, e4]
    rfl) hv h

theorem sized_row {H : Type} {α : Type} {E : α → DataW H} {l : List α} {P : Program} {ts : List TypeId} {ds : List (DataW H)} {j : Nat} {t e : TypeId} {d : DataW H} {B : Nat}
 (hsz : (DataW.weightsEach P ts ds).all (· ≤ reachBytes) = true) (ht : ts[j]? = some t) (hd : RowD E l d) (hj : ds[j]? = some d) (hu : P.underlying t = some (.slice e)) (hB : P.bytesOf e = B) : l.length * B ≤ 140737488351232 := by
 rcases hd with ⟨_, rfl⟩ | ⟨sp, rfl⟩
 · simp
 · have z := sized_slice hsz ht hj hu
   rw [hB, List.length_map] at z
   exact Nat.le_trans (Nat.mul_le_mul_right _ (Nat.le_add_right _ _)) z

end Go.Proofs.YtobbliglnjgbaaaGreatDoor.X

namespace Go.Proofs.YtobbliglnjgbaaaGreatDoor.X
open Go.RowKit Go.ChangeShapes Go.WideShapes Go.Deep Go.Proofs.YtobbliglnjgbaaaGreatDoorW.PrintWords

instance : Inhabited S48 := ⟨z48⟩
def eOp {H : Type} (y : S48) : DataW H := .agg [.lit (.int .i64 y.f0), .lit (.string y.f1.data.toList), .lit (.string y.f2.data.toList)]
theorem three_cells {cs : List Value} (h : cs.length = 3) : ∃ a b c, cs = [a, b, c] := by
 match cs, h with
 | [a, b, c], _ => exact ⟨a, b, c, rfl⟩
theorem open_ops {H : Type} {enc : TypeId × Value → H} {W : World} {base : Nat} {held : Bool} {v : Value} {d : DataW H} {ps : List MemPlace} (hv : ∃ a len cap, v = Value.slice a len cap)
 (h : DataW.Trod enc Tryz.prog W base (fun _ => true) held 59 v d ps) :
 ∃ (a : Option Addr) (l : List S48) (c : Nat), v = .slice a l.length c ∧ Kd.C k48 W a l.length l ∧ l.length ≤ c ∧ RowD (eOp (H := H)) l d ∧ ∀ y ∈ l, y.f1.size ≤ maxLen ∧ y.f2.size ≤ maxLen :=
 open_rowG k48 eOp (fun y => y.f1.size ≤ maxLen ∧ y.f2.size ≤ maxLen) Tryz.underlying59 (by kernel_rfl) (fun n cs x p hl hx => by
  obtain ⟨y0, y1, y2, m, h1, _, h2, h3, h4⟩ := trod_struct3 Tryz.underlying48 hx
  obtain ⟨ca, cb, cc, rfl⟩ := three_cells hl
  have c1 : Tryz.prog.cellsOf 3 = 1 := by kernel_rfl
  have c2 : Tryz.prog.cellsOf 9 = 1 := by kernel_rfl
  simp only [c1, c2, List.drop_zero, List.drop_succ_cons, List.take_succ_cons, List.take_zero] at h2 h3 h4
  obtain ⟨b, e1, e2, _⟩ := DataW.trod_int Tryz.underlying3 h2
  obtain ⟨s, e3, e4, e5⟩ := DataW.trod_string Tryz.underlying9 h3
  obtain ⟨t, e6, e7, e8⟩ := DataW.trod_string Tryz.underlying9 h4
  refine ⟨⟨b, s, t⟩, ?_, ?_, e5, e8⟩
  · cases e1; cases e3; cases e6
    exact k48_mk W ⟨b, s, t⟩
  · rw [(Prod.mk.inj h1).1, e2, e4, e7]
    rfl) hv h
end Go.Proofs.YtobbliglnjgbaaaGreatDoor.X

namespace Go.Proofs.YtobbliglnjgbaaaGreatDoor.X
open Go.RowKit Go.Maps Go.Proofs.YtobbliglnjgbaaaGreatDoorW.PrintWords Go.Proofs.YtobbliglnjgbaaaGreatDoorW.PrintMore Go.Proofs.YtobbliglnjgbaaaGreatDoorW.PrintLast Go.Proofs.YtobbliglnjgbaaaGreatDoor.Pb Go.Proofs.YtobbliglnjgbaaaGreatDoor.Pc
set_option linter.unusedSimpArgs false

theorem St.start {w w2 : World} {g b : Nat} {m : TM} (hT : IsTree w2 g b m) (hb : w.heap.size ≤ b) (hB : Below w.heap.size w w2) :
 St w (w2.alloc (.cells #[.slice none 0 0] 64)) g b w2.heap.size [] [] none 0 m (refL []) := by
 have hal := (Below.refl w2.heap.size w2).alloc (Nat.le_refl _) (.cells #[.slice none 0 0] 64)
 exact ⟨hT.below hal, ⟨blk_new w2 _, Kd.R_nil _ _ _ _ _⟩, fun p hp => (by cases hp), fun p hp => (by cases hp), ⟨hb, hB.size⟩, below_then hB hB.size hal⟩

set_option maxHeartbeats 8000000 in
set_option maxRecDepth 100000 in
theorem treeAll_walk (A : Option Addr) (c : Nat) (l : List SFile) (B : Option Addr) (d : Nat) (lo : List S48) (w : World) (hG : GOK w) (hr : Kd.C k50 w A l.length l) (hc : l.length ≤ c) (hg : ∀ y ∈ l, y.f0.size ≤ maxLen ∧ y.f1.size ≤ maxLen)
 (hro : Kd.C k48 w B lo.length lo) (hgo : ∀ y ∈ lo, y.f1.size ≤ maxLen ∧ y.f2.size ≤ maxLen) :
 Calls Tryz.prog 13 #[.slice A l.length c, .slice B lo.length d] w fun e w' => e = .returned (.bool true) ∧ Below w.heap.size w w' := by
 have HG := Lib.hid hG
 have HR := Lib.hid hr
 have HGd := Lib.hid hg
 have HRo := Lib.hid hro
 have HGo := Lib.hid hgo
 have hlen : l.length ≤ 9223372036854775807 := hr.2.1
 have hleno : lo.length ≤ 9223372036854775807 := hro.2.1
 clear hG hr hg hro hgo
 go_enter Tryz.func13, Tryz.ntmps13
 go_wp2_with fail
 refine (shipwrightlaw1_begun.calls true w HG.out rfl).mono ?_
 rintro e w1 ⟨rfl, hb1⟩
 have HB1 := Lib.hid hb1
 clear hb1
 go_wp2_with fail
 rw [show (min (l.length : Int) 10).toNat = (l.take (min l.length 10)).length by rw [List.length_take]; omega]
 have HRt := Lib.hid (Kd.C_take HR.out (show min l.length 10 ≤ l.length by omega))
 have HGt : Hid (∀ f ∈ l.take (min l.length 10), f.f0.size ≤ maxLen ∧ f.f1.size ≤ maxLen) := fun f hf => HGd.out f (List.mem_of_mem_take hf)
 have hq10 : (l.take (min l.length 10)).length ≤ 10 := by rw [List.length_take]; omega
 generalize l.take (min l.length 10) = q at HRt HGt hq10 ⊢
 clear HR HGd hc hlen
 refine (tree_New.calls A c q w1 (HG.out.below HB1.out) (Kd.C_below HRt.out HB1.out) HGt.out).mono ?_
 rintro e w2 ⟨g, b, rfl, hT2, hg2, hb2, hB2⟩
 have hst := St.start hT2 (Nat.le_trans HB1.out.size hb2) (below_then HB1.out HB1.out.size hB2)
 have HGm := Lib.hid (GoodM.new (q.map fileOf))
 obtain ⟨m, hm⟩ : ∃ m, m = newT (q.map fileOf) := ⟨_, rfl⟩
 rw [← hm] at hst HGm
 have HM := Lib.hid hm
 have HSt := Lib.hid hst
 clear hT2 hg2 hb2 hB2 hst hm
 go_upto_block 0 with fail
 generalize w2.alloc (.cells #[.slice none 0 0] 64) = w3 at HSt ⊢
 generalize w2.heap.size = gr at HSt ⊢
 go_wp2_with fail
 go_loopg [8] q.length (fun gg s8 wr => ∃ (kk : Nat) (A1 : Option Addr) (c1 : Nat), kk ≤ q.length ∧ q.length - kk ≤ gg ∧ s8 = .int .i64 kk ∧ Aside0 (St w wr g b gr [] [] A1 c1 m (refL (newT ((q.take kk).map fileOf)))))
 case atStart => exact ⟨0, none, 0, Nat.zero_le _, by omega, rfl, ⟨HSt.out⟩⟩
 case round =>
  obtain ⟨kk, A1, c1, hkk, hgk, rfl, HS1⟩ := hrel
  by_cases hlt : kk < q.length
  · have hltz : (kk : Int) < (q.length : Int) := by omega
    obtain ⟨ad, rfl, hx0, hx1⟩ := at_T50 HRt.out (kk : Int) (by omega) hltz
    simp only [Int.toNat_natCast] at hx0 hx1
    have hxi : rd_T50 q (kk : Int) = q[kk] := by unfold rd_T50; simp [List.getD_eq_getElem?_getD, List.getElem?_eq_getElem hlt]
    rw [hxi] at hx0 hx1
    have hnew : newT ((q.take (kk + 1)).map fileOf) = (writeT (newT ((q.take kk).map fileOf)) q[kk].f0.data.toList q[kk].f1.data.toList).1 := by
     rw [List.take_succ_eq_append_getElem hlt, List.map_append, List.map_cons, List.map_nil, newT_snoc]
     rfl
    have HGx := Lib.hid (HGt.out _ (List.getElem_mem hlt))
    generalize q[kk] = x at hx0 hx1 hnew HGx
    have hgm := GoodM.new ((q.take kk).map fileOf)
    generalize newT ((q.take kk).map fileOf) = mk1 at HS1 hnew hgm
    have hS : ∀ W, Below w.heap.size w W → W.cell? (ad.add (kk * 2)) = some (.string x.f0) ∧ W.cell? ⟨(ad.add (kk * 2)).block, (ad.add (kk * 2)).off + 1, none⟩ = some (.string x.f1) := fun W hW => ⟨cell_keeps hW hx0, cell_keeps hW hx1⟩
    have HS := Lib.hid hS
    have hW := fun W h => St.rWrite (w0 := w) (W := W) (gt := g) (bt := b) (gr := gr) (cs := []) (os := []) (A := A1) (c := c1) (m := m) (mr := mk1) h HG.out x.f0 x.f1 hgm
    generalize (writeT mk1 x.f0.data.toList x.f1.data.toList).2 = z at hW
    have HW := Lib.hid hW
    have HNew := Lib.hid hnew
    have HSt1 : Hid (St w wr.drew g b gr [] [] A1 c1 m (refL mk1)) := Lib.hid (HS1.out.below (below_drew (Below.refl _ _)))
    clear hS hW hnew hgm hx0 hx1 hxi
    go_wp2_with fail
    go_region_held3 (fun W => W.cell? (ad.add (kk * 2)) = some (.string x.f0) ∧ W.cell? ⟨(ad.add (kk * 2)).block, (ad.add (kk * 2)).off + 1, none⟩ = some (.string x.f1)) (exact HS.out _ HSt1.out.bel) (first
     | (go_at_call 36; refine (HW.out _ HSt1.out).mono ?_; rintro e w5 ⟨rfl, A2, c2, hst⟩; have HSt1 := Lib.hid hst; clear hst))
    all_goals
     go_wp2_with fail
     go_roundg (q.length - (kk + 1))
     case measure => omega
     case rel => exact ⟨kk + 1, A2, c2, by omega, by omega, by first | rfl | go_num, ⟨by rw [HNew.out]; exact HSt1.out⟩⟩
  · have hltz : ¬ (kk : Int) < (q.length : Int) := by omega
    obtain rfl : kk = q.length := by omega
    have hst := HS1.out
    rw [List.take_length, ← HM.out] at hst
    have HSt := Lib.hid hst
    clear hst HRt HGt
    go_wp2_with fail
    refine (HSt.out.tClone).mono ?_
    rintro e w4 ⟨gc, bc, rfl, hst⟩
    have HSt := Lib.hid hst
    clear hst
    go_wp2_with fail
    refine (HSt.out.rKey HGm.out).mono ?_
    rintro e w5 ⟨rfl, hst⟩
    have HSt := Lib.hid hst
    obtain ⟨k0, hk0⟩ : ∃ s, s = X.mk (keyT m) := ⟨_, rfl⟩
    rw [← hk0]
    have HK0 := Lib.hid hk0
    have HG0 := Lib.hid HGm.out
    clear hst hk0
    go_upto_block 2 with fail
    clear HM
    go_wp2_with fail
    go_loopg [11, 12, 13, 14, 15, 16] lo.length (fun gg s11 _ _ _ _ _ wr => ∃ (kk : Nat) (A1 : Option Addr) (c1 : Nat) (m1 : TM), kk ≤ lo.length ∧ lo.length - kk ≤ gg ∧ s11 = .int .i64 kk ∧ Aside0 (GoodM m1) ∧ Aside0 (St w wr g b gr [(gc, bc, m)] [] A1 c1 m1 (refL m1)))
    case atStart => exact ⟨0, _, _, m, Nat.zero_le _, by omega, rfl, ⟨HGm.out⟩, ⟨HSt.out.closed⟩⟩
    case round =>
     obtain ⟨kk, A1, c1, m1, hkk, hgk, rfl, HM1, HS1⟩ := hrel
     by_cases hgo : kk < lo.length ∧ kk < 90
     · obtain ⟨hlt, h90⟩ := hgo
       have hltz : (kk : Int) < (lo.length : Int) := by omega
       have h90z : (kk : Int) < 90 := by omega
       obtain ⟨ad, rfl, hx0, hx1, hx2⟩ := at_T48 (Kd.C_below HRo.out HS1.out.bel) (kk : Int) (by omega) hltz
       simp only [Int.toNat_natCast] at hx0 hx1 hx2
       have hxi : rd_T48 lo (kk : Int) = lo[kk] := by unfold rd_T48; simp [List.getD_eq_getElem?_getD, List.getElem?_eq_getElem hlt]
       rw [hxi] at hx0 hx1 hx2
       have HGx := Lib.hid (HGo.out _ (List.getElem_mem hlt))
       generalize lo[kk] = x at hx0 hx1 hx2 HGx
       obtain ⟨kd, n, v⟩ := x
       dsimp only at hx0 hx1 hx2 HGx
       clear hxi
       go_upto_block 4 with fail
       have HSt := Lib.hid (HS1.out.opened #[.int .i64 kd, .string n, .string v])
       generalize wr.alloc (.cells #[.int .i64 kd, .string n, .string v] 48) = wo at HSt ⊢
       generalize wr.heap.size = gp at HSt ⊢
       have hc0 := (blk_cell HSt.out.opc 0).trans rfl
       have hc1 := (blk_cell HSt.out.opc 1).trans rfl
       have hc2 := (blk_cell HSt.out.opc 2).trans rfl
       clear hx0 hx1 hx2
       go_cut [13, 14, 15, 16] (fun _ _ _ _ wx => ∃ (A2 : Option Addr) (c2 : Nat) (m2 : TM), Aside0 (GoodM m2) ∧ Aside0 (St w wx g b gr [(gc, bc, m)] [] A2 c2 m2 (refL m2)))
       case first =>
        have HS : Hid (∀ W A c m' L, St w W g b gr [(gc, bc, m)] [(gp, #[.int .i64 kd, .string n, .string v])] A c m' L → W.cell? ⟨gp, 1, none⟩ = some (.string n) ∧ W.cell? ⟨gp, 2, none⟩ = some (.string v)) := fun W A c m' L h => ⟨(blk_cell h.opc 1).trans rfl, (blk_cell h.opc 2).trans rfl⟩
        have HSd := Lib.hid (HSt.out.below (below_drew (Below.refl _ _)))
        by_cases h0 : kd = 0
        · subst h0
          have hT := fun W A c L h => St.tWrite (w0 := w) (W := W) (gt := g) (bt := b) (gr := gr) (cs := [(gc, bc, m)]) (os := [(gp, #[.int .i64 0, .string n, .string v])]) (A := A) (c := c) (m := m1) (L := L) h HG.out n v HGx.out.1 HGx.out.2 HM1.out
          have hR := fun W A c m' h => St.rWrite (w0 := w) (W := W) (gt := g) (bt := b) (gr := gr) (cs := [(gc, bc, m)]) (os := [(gp, #[.int .i64 0, .string n, .string v])]) (A := A) (c := c) (m := m') (mr := m1) h HG.out n v HM1.out
          have hM2 := HM1.out.write n.data.toList v.data.toList
          generalize (writeT m1 n.data.toList v.data.toList).1 = m2 at hT hR hM2
          generalize (writeT m1 n.data.toList v.data.toList).2 = z at hT hR
          have HT := Lib.hid hT
          have HRf := Lib.hid hR
          have HM2 := Lib.hid hM2
          have hzz : (z != z) = false := by simp
          clear hT hR hM2 hc0 hc1 hc2
          go_wp2_with fail
          go_region_held3 (fun W => W.cell? ⟨gp, 1, none⟩ = some (.string n) ∧ W.cell? ⟨gp, 2, none⟩ = some (.string v)) (exact HS.out _ _ _ _ _ HSd.out) (first
           | (go_at_call 26; refine (HT.out _ _ _ _ HSd.out).mono ?_; rintro e w6 ⟨rfl, hst⟩; have HSd := Lib.hid hst; clear hst)
           | (go_at_call 36; refine (HRf.out _ _ _ _ HSd.out).mono ?_; rintro e w7 ⟨rfl, A2, c2, hst⟩; have HSd := Lib.hid hst; clear hst))
          all_goals
           go_wp2_with fail
           go_meet
           exact ⟨A2, c2, m2, ⟨HM2.out⟩, ⟨HSd.out.closed⟩⟩
        · have hb0 : (kd == 0) = false := by simp [h0]
          by_cases h1 : kd = 1
          · subst h1
            have hT := fun W A c L h => St.tErase (w0 := w) (W := W) (gt := g) (bt := b) (gr := gr) (cs := [(gc, bc, m)]) (os := [(gp, #[.int .i64 1, .string n, .string v])]) (A := A) (c := c) (m := m1) (L := L) h n HGx.out.1
            have hR := fun W A c m' h => St.rErase (w0 := w) (W := W) (gt := g) (bt := b) (gr := gr) (cs := [(gc, bc, m)]) (os := [(gp, #[.int .i64 1, .string n, .string v])]) (A := A) (c := c) (m := m') (mr := m1) h n HM1.out
            have hM2 := HM1.out.erase n.data.toList
            generalize (eraseT m1 n.data.toList).1 = m2 at hT hR hM2
            generalize (eraseT m1 n.data.toList).2 = z at hT hR
            have HT := Lib.hid hT
            have HRf := Lib.hid hR
            have HM2 := Lib.hid hM2
            have hzz : (z != z) = false := by simp
            clear hT hR hM2 hc0 hc1 hc2
            go_wp2_with fail
            go_region_held3 (fun W => W.cell? ⟨gp, 1, none⟩ = some (.string n) ∧ W.cell? ⟨gp, 2, none⟩ = some (.string v)) (exact HS.out _ _ _ _ _ HSd.out) (first
             | (go_at_call 35; refine (HT.out _ _ _ _ HSd.out).mono ?_; rintro e w6 ⟨rfl, hst⟩; have HSd := Lib.hid hst; clear hst)
             | (go_at_call 39; refine (HRf.out _ _ _ _ HSd.out).mono ?_; rintro e w7 ⟨rfl, A2, c2, hst⟩; have HSd := Lib.hid hst; clear hst))
            all_goals
             go_wp2_with fail
             go_meet
             exact ⟨A2, c2, m2, ⟨HM2.out⟩, ⟨HSd.out.closed⟩⟩
          · have hb1 : (kd == 1) = false := by simp [h1]
            have hT := fun W h => St.tRead (w0 := w) (W := W) (gt := g) (bt := b) (gr := gr) (cs := [(gc, bc, m)]) (os := [(gp, #[.int .i64 kd, .string n, .string v])]) (A := A1) (c := c1) (m := m1) (L := refL m1) h n HGx.out.1
            have hR := fun W h => St.rRead (w0 := w) (W := W) (gt := g) (bt := b) (gr := gr) (cs := [(gc, bc, m)]) (os := [(gp, #[.int .i64 kd, .string n, .string v])]) (A := A1) (c := c1) (m := m1) (mr := m1) h n HM1.out
            generalize X.mk ((getT m1 n.data.toList).getD []) = s0 at hT hR
            generalize (getT m1 n.data.toList).isSome = i0 at hT hR
            have HT := Lib.hid hT
            have HRf := Lib.hid hR
            have hss : (s0.toList == s0.toList) = true := by simp
            have hii : (i0 != i0) = false := by simp
            clear hT hR HSd
            go_wp2_with fail
            refine (HT.out _ HSt.out).mono ?_
            rintro e w6 ⟨rfl, hst⟩
            have HSt := Lib.hid hst
            clear hst hc0 hc1 hc2
            have hc1 := (blk_cell HSt.out.opc 1).trans rfl
            go_wp2_with fail
            refine (HRf.out _ HSt.out).mono ?_
            rintro e w7 ⟨rfl, hst⟩
            have HSt := Lib.hid hst
            clear hst hc1
            go_wp2_with fail
            repeat (go_quiet (fail); try go_wp2)
            go_meet
            exact ⟨A1, c1, m1, ⟨HM1.out⟩, ⟨HSt.out.closed⟩⟩
       case rest =>
        obtain ⟨A2, c2, m2, HM2, HS2⟩ := hcut
        clear hc0 hc1 hc2 HSt
        have HSd : Hid (St w wc.drew g b gr [(gc, bc, m)] [] A2 c2 m2 (refL m2)) := Lib.hid (HS2.out.below (below_drew (Below.refl _ _)))
        have HS : Hid (∀ W m', St w W g b gr [(gc, bc, m)] [] A2 c2 m' (refL m2) → W.cell? ⟨gr, 0, none⟩ = some (.slice A2 m2.length c2)) := fun W m' h => by have := h.r.c; rwa [refL_len] at this
        have hK := fun W h => St.tKey (w0 := w) (W := W) (gt := g) (bt := b) (gr := gr) (cs := [(gc, bc, m)]) (os := []) (A := A2) (c := c2) (m := m2) (L := refL m2) h HG.out HM2.out
        have hR := fun W h => St.rKey (w0 := w) (W := W) (gt := g) (bt := b) (gr := gr) (cs := [(gc, bc, m)]) (os := []) (A := A2) (c := c2) (m := m2) (mr := m2) h HM2.out
        generalize X.mk (keyT m2) = kx at hK hR
        have HK := Lib.hid hK
        have HRf := Lib.hid hR
        have hll : ((m2.length : Int) != (m2.length : Int)) = false := by simp
        have hkk2 : (kx.toList == kx.toList) = true := by simp
        clear hK hR
        go_wp2_with fail
        go_region_held3 (fun W => W.cell? ⟨gr, 0, none⟩ = some (.slice A2 m2.length c2)) (exact HS.out _ _ HSd.out) (first
         | (go_at_call 28; refine (St.tLen HSd.out).mono ?_; rintro e w8 ⟨rfl, hst⟩; have HSd := Lib.hid hst; clear hst)
         | (go_at_call 29; refine (HK.out _ HSd.out).mono ?_; rintro e w9 ⟨rfl, hst⟩; have HSd := Lib.hid hst; clear hst)
         | (go_at_call 38; refine (HRf.out _ HSd.out).mono ?_; rintro e w10 ⟨rfl, hst⟩; have HSd := Lib.hid hst; clear hst))
        all_goals
         go_wp2_with fail
         go_roundg (lo.length - (kk + 1))
         case measure => omega
         case rel => exact ⟨kk + 1, A2, c2, m2, by omega, by omega, by first | rfl | go_num, ⟨HM2.out⟩, ⟨HSd.out⟩⟩
     · have HSe := Lib.hid HS1.out
       have HMe := Lib.hid HM1.out
       clear HSt HGm HGo HRo HM1 HS1
       have hn := tree_Names.calls wr g b m1 HSe.out.t HMe.out.1 HMe.out.2.1
       have hnl : (m1.map fun p => X.mk p.1).length = m1.length := List.length_map _
       have hnx : ∀ (i : Nat) (h : i < m1.length) (h2 : i < (m1.map fun p => X.mk p.1).length) (h3 : i < (refL m1).length), (m1.map fun p => X.mk p.1)[i] = (refL m1)[i].f0 := fun i h h2 h3 => by simp [refL, asF]
       generalize (m1.map fun p => X.mk p.1) = nm at hn hnl hnx
       have HN := Lib.hid hn
       have HNL := Lib.hid hnl
       have HNX := Lib.hid hnx
       have h60 : m1.length ≤ 60 := HMe.out.2.1
       have hll : ((m1.length : Int) == (m1.length : Int)) = true := by simp
       have hkk0 : (k0.toList == k0.toList) = true := by simp
       clear hn hnl hnx
       have hend : (¬ (kk : Int) < (lo.length : Int)) ∨ ((kk : Int) < (lo.length : Int) ∧ ¬ (kk : Int) < 90) := by omega
       clear hgo
       rcases hend with hltz | ⟨hltz, h90z⟩
       all_goals
        go_wp2_with fail
        refine HN.out.mono ?_
        rintro e w6 ⟨v, rfl, hrow, hB6⟩
        obtain ⟨A6, c6, rfl⟩ := own_slice hrow
        have hR := Kd.R_of_own (h1 := fun _ => rfl) (ok := fun _ => True) (xs := nm) hrow (fun _ _ => trivial)
        have HC := Lib.hid (Kd.R_reads' hR).2.2
        rw [HNL.out]
        have HSt := Lib.hid (HSe.out.below hB6)
        clear hrow hB6 hR
        have hc : w6.cell? ⟨gr, 0, none⟩ = some (.slice A1 m1.length c1) := by have := HSt.out.r.c; rwa [refL_len] at this
        go_wp2_with fail
        go_loopg [18] m1.length (fun gg s18 wz => ∃ jj : Nat, jj ≤ m1.length ∧ m1.length - jj ≤ gg ∧ s18 = .int .i64 jj ∧ Aside0 (Below w6.heap.size w6 wz))
        case atStart => exact ⟨0, Nat.zero_le _, by omega, rfl, ⟨Below.refl _ _⟩⟩
        case round =>
         obtain ⟨jj, hjj, hgj, rfl, HZ⟩ := hrel
         clear hc
         have HSz := Lib.hid (HSt.out.below HZ.out)
         have hc := HSz.out.r.c
         rw [refL_len] at hc
         by_cases hlj : jj < m1.length
         · have hljz : (jj : Int) < (m1.length : Int) := by omega
           have hjn : jj < nm.length := by rw [HNL.out]; exact hlj
           have hjr : jj < (refL m1).length := by rw [refL_len]; exact hlj
           rcases row_open (Kd.C_below HC.out HZ.out) with h0 | ⟨b6, o6, rfl, _, hcell⟩
           · exfalso; rw [h0] at hjn; simp at hjn
           have p0 := hcell jj hjn
           have hpi : nm.getD jj ByteArray.empty = nm[jj] := by rw [List.getD_eq_getElem?_getD, List.getElem?_eq_getElem hjn]; rfl
           rw [hpi, HNX.out jj hlj hjn hjr] at p0
           obtain ⟨ad, rfl, hx0, hx1⟩ := at_T50 (Kd.R_reads' HSz.out.r.row).2.2 (jj : Int) (by omega) (by rw [refL_len]; exact hljz)
           simp only [Int.toNat_natCast] at hx0
           have hxi : rd_T50 (refL m1) (jj : Int) = (refL m1)[jj] := by unfold rd_T50; simp [List.getD_eq_getElem?_getD, List.getElem?_eq_getElem hjr]
           rw [hxi] at hx0
           generalize (refL m1)[jj].f0 = y at p0 hx0
           have hyy : (y.toList == y.toList) = true := by simp
           have HS := Lib.hid (show wr.drew.cell? ⟨b6, o6 + jj, none⟩ = some (.string y) ∧ wr.drew.cell? ⟨gr, 0, none⟩ = some (.slice (some ad) m1.length c1) ∧ wr.drew.cell? (ad.add (jj * 2)) = some (.string y) from ⟨p0, hc, hx0⟩)
           have HBd : Hid (Below w6.heap.size w6 wr.drew) := Lib.hid (below_drew HZ.out)
           clear hpi hxi hx1 hcell
           go_wp2_with fail
           clear p0 hc hx0
           go_region_held3 (fun W => W.cell? ⟨b6, o6 + jj, none⟩ = some (.string y) ∧ W.cell? ⟨gr, 0, none⟩ = some (.slice (some ad) m1.length c1) ∧ W.cell? (ad.add (jj * 2)) = some (.string y)) (exact HS.out) (fail)
           all_goals
            go_wp2_with fail
            go_roundg (m1.length - (jj + 1))
            case measure => omega
            case rel => exact ⟨jj + 1, by omega, by omega, by first | rfl | go_num, ⟨HBd.out⟩⟩
         · have hljz : ¬ (jj : Int) < (m1.length : Int) := by omega
           have hCk := St.cKey HSz.out HG.out HG0.out
           rw [← HK0.out] at hCk
           go_wp2_with fail
           refine hCk.mono ?_
           rintro e w7 ⟨rfl, hst⟩
           have HSw := Lib.hid hst.bel
           clear hst hCk
           go_wp2_with fail
           go_ret
           exact ⟨rfl, HSw.out⟩

noncomputable def shipwrightlaw1_TreeAll.f (l : List SFile) (lo : List S48) : Option Bool :=
 open Classical in if (∀ y ∈ l, y.f0.size ≤ maxLen ∧ y.f1.size ≤ maxLen) ∧ ∀ y ∈ lo, y.f1.size ≤ maxLen ∧ y.f2.size ≤ maxLen then some true else none
theorem shipwrightlaw1_TreeAll.calls (A : Option Addr) (c : Nat) (l : List SFile) (B : Option Addr) (d : Nat) (lo : List S48) (r : Bool) (w : World) (hG : GOK w) (hr : Kd.C k50 w A l.length l) (hc : l.length ≤ c) (hro : Kd.C k48 w B lo.length lo) (_hd : lo.length ≤ d) (h : shipwrightlaw1_TreeAll.f l lo = some r) :
 Calls Tryz.prog 13 #[.slice A l.length c, .slice B lo.length d] w fun e w' => e = .returned (.bool r) ∧ Below w.heap.size w w' := by
 unfold shipwrightlaw1_TreeAll.f at h
 split at h
 · rename_i hs
   obtain rfl := Option.some.inj h
   exact treeAll_walk A c l B d lo w hG hr hc hs.1 hro hs.2
 · cases h
theorem pure_TreeAll (l : List SFile) (lo : List S48) (_h0 : l.length * 32 ≤ 140737488351232) (hg : ∀ y ∈ l, y.f0.size ≤ maxLen ∧ y.f1.size ≤ maxLen) (_h1 : lo.length * 40 ≤ 140737488351232) (hgo : ∀ y ∈ lo, y.f1.size ≤ maxLen ∧ y.f2.size ≤ maxLen) : shipwrightlaw1_TreeAll.f l lo = some true := by
 unfold shipwrightlaw1_TreeAll.f
 rw [if_pos ⟨hg, hgo⟩]

end Go.Proofs.YtobbliglnjgbaaaGreatDoor.X
