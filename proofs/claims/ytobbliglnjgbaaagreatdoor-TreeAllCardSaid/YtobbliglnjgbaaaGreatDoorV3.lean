/-
  (Pc) printed by the kit's print for this seat; what is not reached is left out.
  begun answers true: every contract at its closed values.
  What is read of a tree behind a write and an erasing.
  Unlike parts have unlike keys: put tells its parts.
  Trees that were written by Write are small: their keys are short.
  The reference's tree: files in a row of its own; at, Read.
  The same tree has the same key, in whatever order its files were written; unlike trees have unlike keys. Plain.
  The reference's tree (files in a row, by rising names) and the tree (a map) do the same. Plain.
  Plain laws over what the contracts tell: parts, joined, are the text again; texts that are cut short.
  No tree: what each method of a nil tree answers; and the closed law TreeNone, walked.
  TreeKey, walked by hand: unlike trees have unlike keys; in whatever order files were written, the same tree has the same.
  Regions that draw their order, walked operation by operation: masks by number.
-/
import Derived.Test.YtobbliglnjgbaaaGreatDoorProg
import Derived.Below
import Derived.Deep.Draws
import Derived.Deep.AppendLies
import Derived.Maps.AppendAt
import Derived.OwnWalk
import Derived.Laws.BytesArg
import Derived.Laws.MakeOwn
import Derived.Laws.OwnMore
import Derived.Deep.OwnRows
import Derived.Tactics
import Derived.Lib.ConvBytes
import Derived.Laws.Slices
import Derived.WalkKit
import Derived.KernelRfl
import Derived.RowKit3
import Derived.Deep.LoopGhost
import Derived.Deep.QuietTactic
import Derived.BigQuiet
import Derived.WideLaws
import Derived.Deep.DeepCutAuto
import Derived.Deep.CutBlock
import Derived.Deep.RegionHeld3
import Derived.Laws.Rows
import Derived.Lib.AppendStr
import Derived.ArgAppend
import Derived.Laws.IdiomCopy
import Derived.OrdersHeld
import Derived.Laws.BitsLemmas
import Derived.RowKit
import Derived.Test.YtobbliglnjgbaaaGreatDoorV2
import Derived.Test.YtobbliglnjgbaaaGreatDoorV1
import Derived.Test.YtobbliglnjgbaaaGreatDoorV0
namespace Go.Proofs.YtobbliglnjgbaaaGreatDoor.Pc
open Go.Proofs.YtobbliglnjgbaaaGreatDoor.X Go.Proofs.YtobbliglnjgbaaaGreatDoor.Pb
open Go.RowKit Go.Proofs.YtobbliglnjgbaaaGreatDoorW.PrintWords Go.Proofs.YtobbliglnjgbaaaGreatDoorW.PrintLast Go.Proofs.YtobbliglnjgbaaaGreatDoorW.PrintMore
attribute [local go_sem] max2_int min2_int max_two min_two max_three min_three max_four min_four   -- for this text's walks alone
set_option linter.unusedVariables false
set_option linter.unusedSimpArgs false



def errW : Option Int → Value
 | none => .nilIface
 | some c => .iface 0 (.int .i64 c)
theorem errW_none : errW none = .nilIface := rfl
theorem errW_some (c : Int) : errW (some c) = .iface 0 (.int .i64 c) := rfl

-- the values' own types

end Go.Proofs.YtobbliglnjgbaaaGreatDoor.Pc
namespace Go.Proofs.YtobbliglnjgbaaaGreatDoor.Pc
open Go.Proofs.YtobbliglnjgbaaaGreatDoor.X Go.Proofs.YtobbliglnjgbaaaGreatDoor.Pb
open Go.RowKit Go.Proofs.YtobbliglnjgbaaaGreatDoorW.PrintWords Go.Proofs.YtobbliglnjgbaaaGreatDoorW.PrintLast Go.Proofs.YtobbliglnjgbaaaGreatDoorW.PrintMore
attribute [local go_sem] max2_int min2_int max_two min_two max_three min_three max_four min_four   -- for this text's walks alone
set_option linter.unusedVariables false
set_option linter.unusedSimpArgs false
theorem mk_lit_size (a : Array UInt8) : (ByteArray.mk a).size = a.size := rfl

-- EXT: function 19 (path_May)

-- EXT: function 20 (path_Parts)

-- EXT: function 21 (path_Join)

mutual
def path_Norm.l0 : Nat → List ByteArray → List ByteArray → Int → Int → Option (ByteArray × Bool)
 | 0, _, _, _, _ => none
 | k + 1, x4, x8, x9, x10 => if x10 < x9 then (if 0 ≤ x10 then (if x10 < (x8.length : Int) then (if (rdOf ByteArray.empty x8 x10).toList = ([] : List UInt8) then (path_Norm.j1 k x4 (rdOf ByteArray.empty x8 x10) x8 x9 x10 true) else (path_Norm.j1 k x4 (rdOf ByteArray.empty x8 x10) x8 x9 x10 ((rdOf ByteArray.empty x8 x10).toList == ([46] : List UInt8)))) else (none)) else (none)) else ((path_Join.f x4).bind fun t111 => ((path_May.f t111).bind fun t112 => (if t112 = true then (some (t111, true)) else (some ((⟨#[]⟩ : ByteArray), false)))))
def path_Norm.j1 : Nat → List ByteArray → ByteArray → List ByteArray → Int → Int → Bool → Option (ByteArray × Bool)
 | 0, _, _, _, _, _, _ => none
 | k + 1, x4, x6, x8, x9, x10, x19 => if x19 = true then (path_Norm.l0 k x4 x8 x9 (wrap64 (x10 + 1))) else (if x6.toList = ([46, 46] : List UInt8) then (if (x4.length : Int) = 0 then (some ((⟨#[]⟩ : ByteArray), false)) else (if 0 ≤ (wrap64 ((x4.length : Int) - 1)) then (if (wrap64 ((x4.length : Int) - 1)) ≤ (x4.length : Int) then (path_Norm.l0 k (x4.take ((wrap64 ((x4.length : Int) - 1)) : Int).toNat) x8 x9 (wrap64 (x10 + 1))) else (none)) else (none))) else (if x4.length < 8796093022208 then (path_Norm.l0 k (x4 ++ [x6]) x8 x9 (wrap64 (x10 + 1))) else (none)))
end
def path_Norm.f (k : Nat) (a0 : ByteArray) : Option (ByteArray × Bool) := (path_Parts.f a0).bind fun t101 => (path_Norm.l0 k ([] : List ByteArray) t101 (t101.length : Int) 0)
theorem path_Norm.mono_l : ∀ k, (∀ y0 y1 y2 y3, LeO (path_Norm.l0 k y0 y1 y2 y3) (path_Norm.l0 (k + 1) y0 y1 y2 y3)) ∧ (∀ y0 y1 y2 y3 y4 y5, LeO (path_Norm.j1 k y0 y1 y2 y3 y4 y5) (path_Norm.j1 (k + 1) y0 y1 y2 y3 y4 y5))
 | 0 => ⟨fun _ _ _ _ r h => by simp [path_Norm.l0] at h, fun _ _ _ _ _ _ r h => by simp [path_Norm.j1] at h⟩
 | k + 1 => by
  obtain ⟨ih0, ih1⟩ := path_Norm.mono_l k
  refine ⟨?_, ?_⟩
  · intro y0 y1 y2 y3
    unfold path_Norm.l0
    repeat' first
    | (with_reducible exact ih0 _ _ _ _)
    | (with_reducible exact ih1 _ _ _ _ _ _)
    | (with_reducible exact LeO.refl _)
    | (with_reducible exact LeO.none _)
    | (with_reducible refine LeO.ite ?_ ?_)
    | (with_reducible refine LeO.bind ?_ (fun _ => ?_))
    | exact ih0 _ _ _ _
    | exact ih1 _ _ _ _ _ _
    | exact LeO.none _
    | refine LeO.ite ?_ ?_
    | refine LeO.bind ?_ (fun _ => ?_)
  · intro y0 y1 y2 y3 y4 y5
    unfold path_Norm.j1
    repeat' first
    | (with_reducible exact ih0 _ _ _ _)
    | (with_reducible exact ih1 _ _ _ _ _ _)
    | (with_reducible exact LeO.refl _)
    | (with_reducible exact LeO.none _)
    | (with_reducible refine LeO.ite ?_ ?_)
    | (with_reducible refine LeO.bind ?_ (fun _ => ?_))
    | exact ih0 _ _ _ _
    | exact ih1 _ _ _ _ _ _
    | exact LeO.none _
    | refine LeO.ite ?_ ?_
    | refine LeO.bind ?_ (fun _ => ?_)
theorem path_Norm.mono : ∀ a0 k, LeO (path_Norm.f k a0) (path_Norm.f (k + 1) a0) := by
 intro a0 k
 obtain ⟨ih0, ih1⟩ := path_Norm.mono_l k
 unfold path_Norm.f
 repeat' first
  | (with_reducible exact ih0 _ _ _ _)
  | (with_reducible exact ih1 _ _ _ _ _ _)
  | (with_reducible exact LeO.refl _)
  | (with_reducible exact LeO.none _)
  | (with_reducible refine LeO.ite ?_ ?_)
  | (with_reducible refine LeO.bind ?_ (fun _ => ?_))
  | exact ih0 _ _ _ _
  | exact ih1 _ _ _ _ _ _
  | exact LeO.none _
  | refine LeO.ite ?_ ?_
  | refine LeO.bind ?_ (fun _ => ?_)
set_option maxHeartbeats 8000000 in
set_option maxRecDepth 100000 in
theorem path_Norm.calls (k : Nat) (a0 : ByteArray) (r1 : ByteArray) (r2 : Bool) (w : World) (hG : GOK w) (h : path_Norm.f k a0 = some (r1, r2)) :
 Calls Tryz.prog 18 #[.string a0] w fun e w' => e = .returned (.tuple #[.string r1, .bool r2]) ∧ Below w.heap.size w w' := by
 have HB := Aside0.mk (Below.refl w.heap.size w)
 have HG := Aside0.mk hG
 clear hG
 have H : ((path_Parts.f a0).bind fun t101 => (path_Norm.l0 k ([] : List ByteArray) t101 (t101.length : Int) 0)) = some (r1, r2) := h
 clear h
 replace H := Option.bind_eq_some_iff.mp H
 obtain ⟨t101, A20, H⟩ := H
 replace H : (path_Norm.l0 k ([] : List ByteArray) t101 (t101.length : Int) 0) = some (r1, r2) := H
 have A2 := Aside0.mk A20
 clear A20
 have H' := Aside0.mk H
 clear H
 go_enter Tryz.func18, Tryz.ntmps18
 go_wp2_with (first | ((with_reducible refine gate_callee (f := 20) rfl ?_); refine goesL_ (some 8) rfl rfl Tryz.func20 (by kernel_rfl) rfl #[.string a0] rfl (by (try simp only [List.map_toArray, List.map_cons, List.map_nil]); first | done | rfl | (simp only [List.length_drop, List.length_take]; rfl)) ?_; (with_reducible refine (path_Parts.calls a0 t101 _ ?side99 A2.out).mono ?_); (case side99 => exact GOK.below HG.out (by repeat (first | (with_reducible first | exact HB.out | apply below_alloc | apply pw_below_drewN | apply below_drew1) | exact HB.out))); rintro e w3 ⟨v102, rfl, ho0, hb⟩; refine ⟨_, rfl, ?_⟩; have n0_ := Aside0.mk (Kd.R_lower ho0 (below_size (by repeat (first | (with_reducible first | exact HB.out | apply below_alloc | apply pw_below_drewN | apply below_drew1) | exact HB.out)))); have n1_ := Aside0.mk (below_step (by repeat (first | (with_reducible first | exact HB.out | apply below_alloc | apply pw_below_drewN | apply below_drew1) | exact HB.out)) hb); clear HB; have HO103 := n0_; have HB := n1_; clear n0_ n1_; (try clear hb); (try clear hb2); (try clear hk); (try clear hi); (try clear ho0); obtain ⟨Ao4, co4, eo4⟩ := Kd.R_slice HO103.out; subst eo4))
 go_loopg [4, 10] k (fun kq v4 v10 w' => ∃ (x4_1 : List ByteArray) (x10_1 : Int), v10 = .int .i64 x10_1 ∧ Aside0 (path_Norm.l0 kq x4_1 t101 (t101.length : Int) x10_1 = some (r1, r2)) ∧ Aside0 (kq ≤ k) ∧ Aside0 (Kd.R Kd.string 9 w' w.heap.size (fun k_ => some k_ ≠ ((.slice Ao4 t101.length co4) : Value).ownBlock) v4 x4_1) ∧ Aside0 (Kd.R Kd.string 9 w' w.heap.size (fun k_ => some k_ ≠ (v4 : Value).ownBlock) (.slice Ao4 t101.length co4) t101) ∧ Aside0 (Below w.heap.size w w'))
 case atStart => exact ⟨(([] : List ByteArray)), (0), (by first | rfl | (simp; done) | (simp [*]; done) | (simp [bne]; done) | (simp [*, bne]; done)), H', ⟨Nat.le_refl _⟩, ⟨by first | exact Kd.R_nil _ _ _ _ _ | exact Kd.N_nil _ _ _ _ _ | exact Kd.V_nil _ _ _ _ _ | exact Kd.Q_nil _ _ _ _ _ | exact Kd.S_nil _ _ _ _ _⟩, ⟨by (with_reducible repeat (first | apply Kd.R_alloc | apply Kd.R_drewN | apply Kd.R_drew)); exact Kd.R_mono HO103.out (fun _ hk => (by simp [Value.ownBlock]))⟩, ⟨by repeat (first | (with_reducible first | exact HB.out | apply below_alloc | apply pw_below_drewN | apply below_drew1) | exact HB.out)⟩⟩
 case round =>
  clear H'
  try clear c1
  try clear c2
  try clear p2
  obtain ⟨x4_1, x10_1, rfl, HA, HK1, HO_4, HO_8, HB⟩ := hrel
  cases gk with
  | zero => exact absurd HA.out (by simp [path_Norm.l0])
  | succ k1 =>
   have H := HA.out
   clear HA
   simp only [path_Norm.l0] at H
   by_cases c5 : x10_1 < (t101.length : Int)
   · rw [if_pos c5] at H
     have c5b0 : decide (x10_1 < (t101.length : Int)) = true := decide_eq_true c5
     clear c5
     by_cases c6 : 0 ≤ x10_1
     · rw [if_pos c6] at H
       have c6b0 : decide (0 ≤ x10_1) = true := decide_eq_true c6
       clear c6
       by_cases c7 : x10_1 < (t101.length : Int)
       · rw [if_pos c7] at H
         have c7b0 : decide (x10_1 < (t101.length : Int)) = true := decide_eq_true c7
         clear c7
         have HC8 := Aside0.mk H
         clear H
         have p104 : 0 ≤ (x10_1 : Int) := of_decide_eq_true (by first | (with_reducible assumption) | assumption)
         have q104 : x10_1 < (t101.length : Int) := of_decide_eq_true (by first | (with_reducible assumption) | assumption)
         obtain ⟨ad104, e104, hx104_0⟩ := Kd.at_string (Kd.R_reads' HO_8.out).2.2 x10_1 p104 q104
         cases e104
         replace p104 := eq_true p104
         replace q104 := eq_true q104
         go_upto_region 6 with (fail)
         go_cut [19] (fun v19 wc => ∃ (kq : Nat) (x19_7 : Bool), v19 = .bool x19_7 ∧ Aside0 (path_Norm.j1 kq x4_1 (rdOf ByteArray.empty t101 x10_1) t101 (t101.length : Int) x10_1 x19_7 = some (r1, r2)) ∧ Aside0 (kq ≤ k1) ∧ Aside0 (Kd.R Kd.string 9 wc w.heap.size (fun k_ => some k_ ≠ ((.slice (some ad104) t101.length co4) : Value).ownBlock) u4 x4_1) ∧ Aside0 (Kd.R Kd.string 9 wc w.heap.size (fun k_ => some k_ ≠ (u4 : Value).ownBlock) (.slice (some ad104) t101.length co4) t101) ∧ Aside0 (Below w.heap.size w wc))
         case first =>
          have H := HC8.out
          clear HC8
          by_cases c9 : (rdOf ByteArray.empty t101 x10_1).toList = ([] : List UInt8)
          · rw [if_pos c9] at H
            have c9b0 : ((rdOf ByteArray.empty t101 x10_1).toList == ([] : List UInt8)) = true := beq_iff_eq.mpr c9
            have c9b1 : ((rdOf ByteArray.empty t101 x10_1).toList != ([] : List UInt8)) = false := bne_eq_false_iff_eq.mpr c9
            clear c9
            (first | rw [c9b0] | (simp only [i64_w, i32_w]; rw [c9b0]) | skip)
            have H' := Aside0.mk H
            clear H
            go_wp2
            go_meet
            case rel => exact ⟨_, (true), (by first | rfl | (simp; done) | (simp [*]; done) | (simp [bne]; done) | (simp [*, bne]; done)), H', ⟨by have := HK1.out; first | omega | exact Nat.le_refl _⟩, ⟨by (with_reducible repeat (first | apply Kd.R_alloc | apply Kd.R_drewN | apply Kd.R_drew)); first | exact HO_4.out | (set_option smartUnfolding false in exact HO_4.out)⟩, ⟨by (with_reducible repeat (first | apply Kd.R_alloc | apply Kd.R_drewN | apply Kd.R_drew)); first | exact HO_8.out | (set_option smartUnfolding false in exact HO_8.out)⟩, ⟨by repeat (first | (with_reducible first | exact HB.out | apply below_alloc | apply pw_below_drewN | apply below_drew1) | exact HB.out)⟩⟩
          · rw [if_neg c9] at H
            have c9b0 : ((rdOf ByteArray.empty t101 x10_1).toList == ([] : List UInt8)) = false := beq_eq_false_iff_ne.mpr c9
            have c9b1 : ((rdOf ByteArray.empty t101 x10_1).toList != ([] : List UInt8)) = true := bne_iff_ne.mpr c9
            (first | rw [c9b0] | (simp only [i64_w, i32_w]; rw [c9b0]) | skip)
            have H' := Aside0.mk H
            clear H
            go_wp2
            go_meet
            case rel => exact ⟨_, (((rdOf ByteArray.empty t101 x10_1).toList == ([46] : List UInt8))), (by first | rfl | (simp; done) | (simp [*]; done) | (simp [bne]; done) | (simp [*, bne]; done)), H', ⟨by have := HK1.out; first | omega | exact Nat.le_refl _⟩, ⟨by (with_reducible repeat (first | apply Kd.R_alloc | apply Kd.R_drewN | apply Kd.R_drew)); first | exact HO_4.out | (set_option smartUnfolding false in exact HO_4.out)⟩, ⟨by (with_reducible repeat (first | apply Kd.R_alloc | apply Kd.R_drewN | apply Kd.R_drew)); first | exact HO_8.out | (set_option smartUnfolding false in exact HO_8.out)⟩, ⟨by repeat (first | (with_reducible first | exact HB.out | apply below_alloc | apply pw_below_drewN | apply below_drew1) | exact HB.out)⟩⟩
         case rest =>
          clear HC8
          try clear c1
          try clear p1
          try clear q1
          try clear hx1
          try clear c2
          try clear p2
          try clear c5
          try clear c5b0
          try clear c6
          try clear c6b0
          try clear c7
          try clear c7b0
          try clear c9
          try clear c9b0
          try clear c9b1
          try clear hx104_0
          try clear p104
          try clear p2
          try clear q104
          obtain ⟨kq, x19_7, rfl, HA, HJ7, HO_4, HO_8, HB⟩ := hcut
          cases kq with
          | zero => exact absurd HA.out (by simp [path_Norm.j1])
          | succ kj7 =>
           have H := HA.out
           clear HA
           simp only [path_Norm.j1] at H
           by_cases c10 : x19_7 = true
           · subst c10
             have H1 : (path_Norm.l0 kj7 x4_1 t101 (t101.length : Int) (wrap64 (x10_1 + 1))) = some (r1, r2) := by rw [if_pos rfl] at H; exact H
             clear H
             have H := H1
             clear H1
             have H' := Aside0.mk H
             clear H
             go_wp2
             go_roundg kj7
             case measure => have := HK1.out; have := HJ7.out; omega
             case rel => exact ⟨(x4_1), (wrap64 (x10_1 + 1)), (by first | rfl | (simp; done) | (simp [*]; done) | (simp [bne]; done) | (simp [*, bne]; done)), H', ⟨by have := HK1.out; have := HJ7.out; omega⟩, ⟨by (with_reducible repeat (first | apply Kd.R_alloc | apply Kd.R_drewN | apply Kd.R_drew)); first | exact HO_4.out | (set_option smartUnfolding false in exact HO_4.out)⟩, ⟨by (with_reducible repeat (first | apply Kd.R_alloc | apply Kd.R_drewN | apply Kd.R_drew)); first | exact HO_8.out | (set_option smartUnfolding false in exact HO_8.out)⟩, ⟨by repeat (first | (with_reducible first | exact HB.out | apply below_alloc | apply pw_below_drewN | apply below_drew1) | exact HB.out)⟩⟩
           · replace c10 := Bool.eq_false_iff.mpr c10
             subst c10
             have H1 : (if (rdOf ByteArray.empty t101 x10_1).toList = ([46, 46] : List UInt8) then (if (x4_1.length : Int) = 0 then (some ((⟨#[]⟩ : ByteArray), false)) else (if 0 ≤ (wrap64 ((x4_1.length : Int) - 1)) then (if (wrap64 ((x4_1.length : Int) - 1)) ≤ (x4_1.length : Int) then (path_Norm.l0 kj7 (x4_1.take ((wrap64 ((x4_1.length : Int) - 1)) : Int).toNat) t101 (t101.length : Int) (wrap64 (x10_1 + 1))) else (none)) else (none))) else (if x4_1.length < 8796093022208 then (path_Norm.l0 kj7 (x4_1 ++ [(rdOf ByteArray.empty t101 x10_1)]) t101 (t101.length : Int) (wrap64 (x10_1 + 1))) else (none))) = some (r1, r2) := by rw [if_neg (show ¬ (false = true) by decide)] at H; exact H
             clear H
             have H := H1
             clear H1
             by_cases c11 : (rdOf ByteArray.empty t101 x10_1).toList = ([46, 46] : List UInt8)
             · rw [if_pos c11] at H
               have c11b0 : ((rdOf ByteArray.empty t101 x10_1).toList == ([46, 46] : List UInt8)) = true := beq_iff_eq.mpr c11
               have c11b1 : ((rdOf ByteArray.empty t101 x10_1).toList != ([46, 46] : List UInt8)) = false := bne_eq_false_iff_eq.mpr c11
               clear c11
               by_cases c12 : (x4_1.length : Int) = 0
               · rw [if_pos c12] at H
                 have c12b0 : ((x4_1.length : Int) == 0) = true := beq_iff_eq.mpr c12
                 have c12b1 : ((x4_1.length : Int) != 0) = false := bne_eq_false_iff_eq.mpr c12
                 clear c12
                 simp only [Option.some.injEq, Prod.mk.injEq] at H
                 obtain ⟨rfl, rfl⟩ := H
                 obtain ⟨Ao13, co13, eo13⟩ := Kd.R_slice HO_4.out
                 subst eo13
                 go_wp2
                 go_ret2
                 exact ⟨by first | rfl | (simp [errW_none, errW_some] <;> rfl) | (simp [*, errW_none, errW_some] <;> rfl), by repeat (first | (with_reducible first | exact HB.out | apply below_alloc | apply pw_below_drewN | apply below_drew1) | exact HB.out)⟩
               · rw [if_neg c12] at H
                 have c12b0 : ((x4_1.length : Int) == 0) = false := beq_eq_false_iff_ne.mpr c12
                 have c12b1 : ((x4_1.length : Int) != 0) = true := bne_iff_ne.mpr c12
                 have c12b2 : ¬ (x4_1 = []) := fun h_ => c12 (by rw [h_]; rfl)
                 obtain ⟨ji14, hji14⟩ : ∃ j_ : Int, (wrap64 ((x4_1.length : Int) - 1)) = j_ := ⟨_, rfl⟩
                 replace H : (if 0 ≤ (ji14) then (if (ji14) ≤ (x4_1.length : Int) then (path_Norm.l0 kj7 (x4_1.take ((ji14) : Int).toNat) t101 (t101.length : Int) (wrap64 (x10_1 + 1))) else (none)) else (none)) = some (r1, r2) := by first | (rw [hji14] at H; exact H) | (simp only [hji14] at H ⊢; exact H)
                 have hji14w : (IntKind.i64.wrap ((x4_1.length : Int) - 1)) = ji14 := (i64_w _).trans hji14
                 by_cases c15 : 0 ≤ (ji14)
                 · rw [if_pos c15] at H
                   have c15b0 := eq_true c15
                   have c15b1 : decide (0 ≤ (ji14)) = true := decide_eq_true c15
                   clear c15
                   by_cases c16 : (ji14) ≤ (x4_1.length : Int)
                   · rw [if_pos c16] at H
                     have c16b0 := eq_true c16
                     have c16b1 : decide ((ji14) ≤ (x4_1.length : Int)) = true := decide_eq_true c16
                     clear c16
                     obtain ⟨y105, hy105⟩ : ∃ y_ : List ByteArray, y_ = (x4_1.take ((ji14) : Int).toNat) := ⟨_, rfl⟩
                     replace H : (path_Norm.l0 kj7 y105 t101 (t101.length : Int) (wrap64 (x10_1 + 1))) = some (r1, r2) := by first | (rw [hy105]; with_reducible exact H) | (have H2_ := (Option.bind_some _ _).symm.trans H; rw [hy105]; with_reducible exact H2_) | (have H2_ := (Option.bind_some _ _).symm.trans H; with_reducible exact H2_) | with_reducible exact H | (rw [hy105]; exact H) | exact H
                     have Ny105 := Aside0.mk hy105
                     clear hy105
                     have H' := Aside0.mk H
                     clear H
                     obtain ⟨Ao17, co17, eo17⟩ := Kd.R_slice HO_4.out
                     subst eo17
                     have q18 : ((ji14) : Int) ≤ ((x4_1.length : Int) : Int) := of_decide_eq_true (by first | (with_reducible assumption) | assumption)
                     obtain ⟨i018, hi018, _, hsz18, _⟩ := info_parts info9
                     have hcut18 := cut_to (P := Tryz.prog) 28 9 .i64 Tryz.underlying28 hi018 Ao17 x4_1.length co17 (ji14) (of_decide_eq_true (by first | (with_reducible assumption) | assumption)) q18 (Kd.R_reads' HO_4.out).2.1
                     have hr18 := Kd.R_take (m := ((ji14) : Int).toNat) HO_4.out (by omega)
                     have hy18 : y105.length = ((ji14) : Int).toNat := (by rw [Ny105.out, List.length_take]; omega)
                     rw [← Ny105.out] at hr18
                     rw [← hy18] at hr18 hcut18
                     clear hy18 hi018 hsz18 HO_4
                     have HO107 := Aside0.mk hr18
                     clear hr18
                     replace q18 := eq_true q18
                     go_wp2
                     go_roundg kj7
                     case measure => have := HK1.out; have := HJ7.out; omega
                     case rel => exact ⟨(y105), (wrap64 (x10_1 + 1)), (by first | rfl | (simp; done) | (simp [*]; done) | (simp [bne]; done) | (simp [*, bne]; done)), H', ⟨by have := HK1.out; have := HJ7.out; omega⟩, ⟨by (with_reducible repeat (first | apply Kd.R_alloc | apply Kd.R_drewN | apply Kd.R_drew)); exact HO107.out⟩, ⟨by (with_reducible repeat (first | apply Kd.R_alloc | apply Kd.R_drewN | apply Kd.R_drew)); first | exact HO_8.out | (set_option smartUnfolding false in exact HO_8.out)⟩, ⟨by repeat (first | (with_reducible first | exact HB.out | apply below_alloc | apply pw_below_drewN | apply below_drew1) | exact HB.out)⟩⟩
                   · rw [if_neg c16] at H
                     exact absurd H (by simp)
                 · rw [if_neg c15] at H
                   exact absurd H (by simp)
             · rw [if_neg c11] at H
               have c11b0 : ((rdOf ByteArray.empty t101 x10_1).toList == ([46, 46] : List UInt8)) = false := beq_eq_false_iff_ne.mpr c11
               have c11b1 : ((rdOf ByteArray.empty t101 x10_1).toList != ([46, 46] : List UInt8)) = true := bne_iff_ne.mpr c11
               by_cases c19 : x4_1.length < 8796093022208
               · rw [if_pos c19] at H
                 have LMc19 := Aside0.mk c19
                 clear c19
                 obtain ⟨y108, hy108⟩ : ∃ y_ : List ByteArray, y_ = (x4_1 ++ [(rdOf ByteArray.empty t101 x10_1)]) := ⟨_, rfl⟩
                 replace H : (path_Norm.l0 kj7 y108 t101 (t101.length : Int) (wrap64 (x10_1 + 1))) = some (r1, r2) := by first | (rw [hy108]; with_reducible exact H) | (have H2_ := (Option.bind_some _ _).symm.trans H; rw [hy108]; with_reducible exact H2_) | (have H2_ := (Option.bind_some _ _).symm.trans H; with_reducible exact H2_) | with_reducible exact H | (rw [hy108]; exact H) | exact H
                 have Ny108 := Aside0.mk hy108
                 clear hy108
                 have H' := Aside0.mk H
                 clear H
                 go_wp2_with (first | ((with_reducible refine gate_builtin (b := .append) (xs := #[.tmp 29, .tmp 31]) rfl ?_); at_builtin; refine Kd.R_append Kd.string (w0 := w) w.heap.size rfl (.tmp 29) (.tmp 31) 28 9 (.string ⟨#[]⟩) 16 rfl Tryz.underlying28 info9 rfl (by decide) (by omega) u4 x4_1 (rdOf ByteArray.empty t101 x10_1) [.string (rdOf ByteArray.empty t101 x10_1)] (fun k_ => some k_ ≠ (.slice (some ad104) t101.length co4 : Value).ownBlock) (fun _ => False) rfl rfl ?aP (fun _ hk => hk.elim) ?aF ?aO ?aB ?aS ?aL ?_; (case aP => exact rfl); (case aB => exact (by repeat (first | (with_reducible first | exact HB.out | apply below_alloc | apply pw_below_drewN | apply below_drew1) | exact HB.out))); (case aF => exact (fun k_ hk => Kd.fresh' (Kd.R_lt (by (with_reducible repeat (first | apply Kd.R_alloc | apply Kd.R_drewN | apply Kd.R_drew)); exact HO_8.out)) k_ hk)); (case aO => exact (by (with_reducible repeat (first | apply Kd.R_alloc | apply Kd.R_drewN | apply Kd.R_drew)); exact HO_4.out)); (case aS => exact (below_size (by repeat (first | (with_reducible first | exact HB.out | apply below_alloc | apply pw_below_drewN | apply below_drew1) | exact HB.out)))); (case aL => have := LMc19.out; omega); intro v109 w20 ho hb hg hat; rw [← Ny108.out] at ho; have n0_ := Aside0.mk (Kd.R_after (ok := (fun _ => True)) (by (with_reducible repeat (first | apply Kd.R_alloc | apply Kd.R_drewN | apply Kd.R_drew)); exact Kd.R_mono HO_8.out (fun _ hk => ⟨trivial, hk⟩)) hg hat); have n1_ := Aside0.mk (hb); have n2_ := Aside0.mk (ho); clear HO_8; clear HB; clear HO_4; have HO_8 := n0_; have HB := n1_; have HO110 := n2_; clear n0_ n1_ n2_; clear ho hb hg hat))
                 go_roundg kj7
                 case measure => have := HK1.out; have := HJ7.out; omega
                 case rel => exact ⟨(y108), (wrap64 (x10_1 + 1)), (by first | rfl | (simp; done) | (simp [*]; done) | (simp [bne]; done) | (simp [*, bne]; done)), H', ⟨by have := HK1.out; have := HJ7.out; omega⟩, ⟨by (with_reducible repeat (first | apply Kd.R_alloc | apply Kd.R_drewN | apply Kd.R_drew)); exact HO110.out⟩, ⟨by (with_reducible repeat (first | apply Kd.R_alloc | apply Kd.R_drewN | apply Kd.R_drew)); exact Kd.R_mono HO_8.out (fun _ hk => hk.2)⟩, ⟨by repeat (first | (with_reducible first | exact HB.out | apply below_alloc | apply pw_below_drewN | apply below_drew1) | exact HB.out)⟩⟩
               · rw [if_neg c19] at H
                 exact absurd H (by simp)
       · rw [if_neg c7] at H
         exact absurd H (by simp)
     · rw [if_neg c6] at H
       exact absurd H (by simp)
   · rw [if_neg c5] at H
     have c5b0 : decide (x10_1 < (t101.length : Int)) = false := decide_eq_false c5
     clear c5
     replace H := Option.bind_eq_some_iff.mp H
     obtain ⟨t111, A210, H⟩ := H
     replace H : ((path_May.f t111).bind fun t112 => (if t112 = true then (some (t111, true)) else (some ((⟨#[]⟩ : ByteArray), false)))) = some (r1, r2) := H
     have A21 := Aside0.mk A210
     clear A210
     replace H := Option.bind_eq_some_iff.mp H
     obtain ⟨t112, A220, H⟩ := H
     replace H : (if t112 = true then (some (t111, true)) else (some ((⟨#[]⟩ : ByteArray), false))) = some (r1, r2) := H
     have A22 := Aside0.mk A220
     clear A220
     by_cases c23 : t112 = true
     · subst c23
       have H1 : (some (t111, true)) = some (r1, r2) := by rw [if_pos rfl] at H; exact H
       clear H
       have H := H1
       clear H1
       simp only [Option.some.injEq, Prod.mk.injEq] at H
       obtain ⟨rfl, rfl⟩ := H
       obtain ⟨Ao24, co24, eo24⟩ := Kd.R_slice HO_4.out
       subst eo24
       go_wp2_with (first | ((with_reducible refine gate_callee (f := 21) rfl ?_); refine goesL_ (some 39) rfl rfl Tryz.func21 (by kernel_rfl) rfl #[.slice Ao24 x4_1.length co24] rfl (by (try simp only [List.map_toArray, List.map_cons, List.map_nil]); first | done | rfl | (simp only [List.length_drop, List.length_take]; rfl)) ?_; (with_reducible refine (path_Join.calls _ _ x4_1 t111 _ ?side99 ?side1 ?side2 A21.out).mono ?_); (case side99 => exact GOK.below HG.out (by repeat (first | (with_reducible first | exact HB.out | apply below_alloc | apply pw_below_drewN | apply below_drew1) | exact HB.out))); (case side1 => repeat (first | exact (Kd.R_reads' HO_4.out).2.2 | (with_reducible refine Kd.C_alloc ?_ _) | (with_reducible refine Kd.C_drewN ?_ _) | (with_reducible refine Kd.C_drew ?_))); (case side2 => exact (Kd.R_reads' HO_4.out).2.1); rintro e w25 ⟨rfl, hb⟩; refine ⟨_, rfl, ?_⟩; have n0_ := Aside0.mk (Kd.R_below (by (with_reducible repeat (first | apply Kd.R_alloc | apply Kd.R_drewN | apply Kd.R_drew)); exact HO_4.out) hb); have n1_ := Aside0.mk (Kd.R_below (by (with_reducible repeat (first | apply Kd.R_alloc | apply Kd.R_drewN | apply Kd.R_drew)); exact HO_8.out) hb); have n2_ := Aside0.mk (below_step (by repeat (first | (with_reducible first | exact HB.out | apply below_alloc | apply pw_below_drewN | apply below_drew1) | exact HB.out)) hb); clear HO_4; clear HO_8; clear HB; have HO_4 := n0_; have HO_8 := n1_; have HB := n2_; clear n0_ n1_ n2_; (try clear hb); (try clear hb2); (try clear hk); (try clear hi)) | ((with_reducible refine gate_callee (f := 19) rfl ?_); refine goesL_ (some 41) rfl rfl Tryz.func19 (by kernel_rfl) rfl #[.string t111] rfl (by (try simp only [List.map_toArray, List.map_cons, List.map_nil]); first | done | rfl | (simp only [List.length_drop, List.length_take]; rfl)) ?_; (with_reducible refine (path_May.calls t111 true _ ?side99 A22.out).mono ?_); (case side99 => exact GOK.below HG.out (by repeat (first | (with_reducible first | exact HB.out | apply below_alloc | apply pw_below_drewN | apply below_drew1) | exact HB.out))); rintro e w26 ⟨rfl, hb⟩; refine ⟨_, rfl, ?_⟩; have n0_ := Aside0.mk (Kd.R_below (by (with_reducible repeat (first | apply Kd.R_alloc | apply Kd.R_drewN | apply Kd.R_drew)); exact HO_4.out) hb); have n1_ := Aside0.mk (Kd.R_below (by (with_reducible repeat (first | apply Kd.R_alloc | apply Kd.R_drewN | apply Kd.R_drew)); exact HO_8.out) hb); have n2_ := Aside0.mk (below_step (by repeat (first | (with_reducible first | exact HB.out | apply below_alloc | apply pw_below_drewN | apply below_drew1) | exact HB.out)) hb); clear HO_4; clear HO_8; clear HB; have HO_4 := n0_; have HO_8 := n1_; have HB := n2_; clear n0_ n1_ n2_; (try clear hb); (try clear hb2); (try clear hk); (try clear hi)))
       go_ret2
       exact ⟨by first | rfl | (simp [errW_none, errW_some] <;> rfl) | (simp [*, errW_none, errW_some] <;> rfl), by repeat (first | (with_reducible first | exact HB.out | apply below_alloc | apply pw_below_drewN | apply below_drew1) | exact HB.out)⟩
     · replace c23 := Bool.eq_false_iff.mpr c23
       subst c23
       have H1 : (some ((⟨#[]⟩ : ByteArray), false)) = some (r1, r2) := by rw [if_neg (show ¬ (false = true) by decide)] at H; exact H
       clear H
       have H := H1
       clear H1
       simp only [Option.some.injEq, Prod.mk.injEq] at H
       obtain ⟨rfl, rfl⟩ := H
       obtain ⟨Ao27, co27, eo27⟩ := Kd.R_slice HO_4.out
       subst eo27
       go_wp2_with (first | ((with_reducible refine gate_callee (f := 21) rfl ?_); refine goesL_ (some 39) rfl rfl Tryz.func21 (by kernel_rfl) rfl #[.slice Ao27 x4_1.length co27] rfl (by (try simp only [List.map_toArray, List.map_cons, List.map_nil]); first | done | rfl | (simp only [List.length_drop, List.length_take]; rfl)) ?_; (with_reducible refine (path_Join.calls _ _ x4_1 t111 _ ?side99 ?side1 ?side2 A21.out).mono ?_); (case side99 => exact GOK.below HG.out (by repeat (first | (with_reducible first | exact HB.out | apply below_alloc | apply pw_below_drewN | apply below_drew1) | exact HB.out))); (case side1 => repeat (first | exact (Kd.R_reads' HO_4.out).2.2 | (with_reducible refine Kd.C_alloc ?_ _) | (with_reducible refine Kd.C_drewN ?_ _) | (with_reducible refine Kd.C_drew ?_))); (case side2 => exact (Kd.R_reads' HO_4.out).2.1); rintro e w28 ⟨rfl, hb⟩; refine ⟨_, rfl, ?_⟩; have n0_ := Aside0.mk (Kd.R_below (by (with_reducible repeat (first | apply Kd.R_alloc | apply Kd.R_drewN | apply Kd.R_drew)); exact HO_4.out) hb); have n1_ := Aside0.mk (Kd.R_below (by (with_reducible repeat (first | apply Kd.R_alloc | apply Kd.R_drewN | apply Kd.R_drew)); exact HO_8.out) hb); have n2_ := Aside0.mk (below_step (by repeat (first | (with_reducible first | exact HB.out | apply below_alloc | apply pw_below_drewN | apply below_drew1) | exact HB.out)) hb); clear HO_4; clear HO_8; clear HB; have HO_4 := n0_; have HO_8 := n1_; have HB := n2_; clear n0_ n1_ n2_; (try clear hb); (try clear hb2); (try clear hk); (try clear hi)) | ((with_reducible refine gate_callee (f := 19) rfl ?_); refine goesL_ (some 41) rfl rfl Tryz.func19 (by kernel_rfl) rfl #[.string t111] rfl (by (try simp only [List.map_toArray, List.map_cons, List.map_nil]); first | done | rfl | (simp only [List.length_drop, List.length_take]; rfl)) ?_; (with_reducible refine (path_May.calls t111 false _ ?side99 A22.out).mono ?_); (case side99 => exact GOK.below HG.out (by repeat (first | (with_reducible first | exact HB.out | apply below_alloc | apply pw_below_drewN | apply below_drew1) | exact HB.out))); rintro e w29 ⟨rfl, hb⟩; refine ⟨_, rfl, ?_⟩; have n0_ := Aside0.mk (Kd.R_below (by (with_reducible repeat (first | apply Kd.R_alloc | apply Kd.R_drewN | apply Kd.R_drew)); exact HO_4.out) hb); have n1_ := Aside0.mk (Kd.R_below (by (with_reducible repeat (first | apply Kd.R_alloc | apply Kd.R_drewN | apply Kd.R_drew)); exact HO_8.out) hb); have n2_ := Aside0.mk (below_step (by repeat (first | (with_reducible first | exact HB.out | apply below_alloc | apply pw_below_drewN | apply below_drew1) | exact HB.out)) hb); clear HO_4; clear HO_8; clear HB; have HO_4 := n0_; have HO_8 := n1_; have HB := n2_; clear n0_ n1_ n2_; (try clear hb); (try clear hb2); (try clear hk); (try clear hi)))
       go_ret2
       exact ⟨by first | rfl | (simp [errW_none, errW_some] <;> rfl) | (simp [*, errW_none, errW_some] <;> rfl), by repeat (first | (with_reducible first | exact HB.out | apply below_alloc | apply pw_below_drewN | apply below_drew1) | exact HB.out)⟩

-- EXT: function 42 (mint_GetNumber)

-- EXT: function 54 (strings_Cut)

def mint_Get.l0 : Nat → ByteArray → List ByteArray → Option (List ByteArray × Bool)
 | 0, _, _ => none
 | k + 1, x0, x4 => if x0.toList = ([] : List UInt8) then (some (x4, true)) else ((strings_Cut.f x0 (⟨#[58]⟩ : ByteArray)).bind fun bt113 => ((mint_GetNumber.f bt113.1 (bt113.2.1.size : Int)).bind fun bt116 => (if bt113.2.2 = true then (if bt116.2 = true then (if 0 ≤ bt116.1 then (if bt116.1 ≤ (bt113.2.1.size : Int) then (if x4.length < 8796093022208 then (mint_Get.l0 k (bt113.2.1.extract (bt116.1 : Int).toNat bt113.2.1.size) (x4 ++ [bt113.2.1.extract 0 (bt116.1 : Int).toNat])) else (none)) else (none)) else (none)) else (some (([] : List ByteArray), false))) else (some (([] : List ByteArray), false)))))
def mint_Get.f (k : Nat) (a0 : ByteArray) : Option (List ByteArray × Bool) := mint_Get.l0 k a0 ([] : List ByteArray)
theorem mint_Get.mono_l : ∀ k, (∀ y0 y1, LeO (mint_Get.l0 k y0 y1) (mint_Get.l0 (k + 1) y0 y1))
 | 0 => fun _ _ r h => by simp [mint_Get.l0] at h
 | k + 1 => by
  have ih0 := mint_Get.mono_l k
  · intro y0 y1
    unfold mint_Get.l0
    repeat' first
    | (with_reducible exact ih0 _ _)
    | (with_reducible exact LeO.refl _)
    | (with_reducible exact LeO.none _)
    | (with_reducible refine LeO.ite ?_ ?_)
    | (with_reducible refine LeO.bind ?_ (fun _ => ?_))
    | exact ih0 _ _
    | exact LeO.none _
    | refine LeO.ite ?_ ?_
    | refine LeO.bind ?_ (fun _ => ?_)
theorem mint_Get.mono : ∀ a0 k, LeO (mint_Get.f k a0) (mint_Get.f (k + 1) a0) := by
 intro a0 k
 have ih0 := mint_Get.mono_l k
 unfold mint_Get.f
 repeat' first
  | (with_reducible exact ih0 _ _)
  | (with_reducible exact LeO.refl _)
  | (with_reducible exact LeO.none _)
  | (with_reducible refine LeO.ite ?_ ?_)
  | (with_reducible refine LeO.bind ?_ (fun _ => ?_))
  | exact ih0 _ _
  | exact LeO.none _
  | refine LeO.ite ?_ ?_
  | refine LeO.bind ?_ (fun _ => ?_)
set_option maxHeartbeats 8000000 in
set_option maxRecDepth 100000 in
theorem mint_Get.calls (k : Nat) (a0 : ByteArray) (r1 : List ByteArray) (r2 : Bool) (w : World) (hG : GOK w) (h : mint_Get.f k a0 = some (r1, r2)) :
 Calls Tryz.prog 33 #[.string a0] w fun e w' => ∃ v0_ : Value, e = .returned (.tuple #[v0_, .bool r2]) ∧ Kd.R Kd.string 9 w' w.heap.size (fun _ => True) v0_ r1 ∧ Below w.heap.size w w' := by
 have HB := Aside0.mk (Below.refl w.heap.size w)
 have HG := Aside0.mk hG
 clear hG
 have H : (mint_Get.l0 k a0 ([] : List ByteArray)) = some (r1, r2) := h
 clear h
 have H' := Aside0.mk H
 clear H
 go_enter Tryz.func33, Tryz.ntmps33
 go_wp2
 go_loopg [0, 4] k (fun kq v0 v4 w' => ∃ (x0_1 : ByteArray) (x4_1 : List ByteArray), v0 = .string x0_1 ∧ Aside0 (mint_Get.l0 kq x0_1 x4_1 = some (r1, r2)) ∧ Aside0 (kq ≤ k) ∧ Aside0 (Kd.R Kd.string 9 w' w.heap.size (fun _ => True) v4 x4_1) ∧ Aside0 (Below w.heap.size w w'))
 case atStart => exact ⟨(a0), (([] : List ByteArray)), (by first | rfl | (simp; done) | (simp [*]; done) | (simp [bne]; done) | (simp [*, bne]; done)), H', ⟨Nat.le_refl _⟩, ⟨by first | exact Kd.R_nil _ _ _ _ _ | exact Kd.N_nil _ _ _ _ _ | exact Kd.V_nil _ _ _ _ _ | exact Kd.Q_nil _ _ _ _ _ | exact Kd.S_nil _ _ _ _ _⟩, ⟨by repeat (first | (with_reducible first | exact HB.out | apply below_alloc | apply pw_below_drewN | apply below_drew1) | exact HB.out)⟩⟩
 case round =>
  clear H'
  obtain ⟨x0_1, x4_1, rfl, HA, HK1, HO_4, HB⟩ := hrel
  cases gk with
  | zero => exact absurd HA.out (by simp [mint_Get.l0])
  | succ k1 =>
   have H := HA.out
   clear HA
   simp only [mint_Get.l0] at H
   by_cases c2 : x0_1.toList = ([] : List UInt8)
   · rw [if_pos c2] at H
     have c2b0 : (x0_1.toList == ([] : List UInt8)) = true := beq_iff_eq.mpr c2
     have c2b1 : (x0_1.toList != ([] : List UInt8)) = false := bne_eq_false_iff_eq.mpr c2
     clear c2
     simp only [Option.some.injEq, Prod.mk.injEq] at H
     obtain ⟨rfl, rfl⟩ := H
     go_wp2
     go_ret2
     exact ⟨_, by first | rfl | (simp [errW_none, errW_some] <;> rfl) | (simp [*, errW_none, errW_some] <;> rfl), by (with_reducible repeat (first | apply Kd.R_alloc | apply Kd.R_drewN | apply Kd.R_drew)); exact HO_4.out, by repeat (first | (with_reducible first | exact HB.out | apply below_alloc | apply pw_below_drewN | apply below_drew1) | exact HB.out)⟩
   · rw [if_neg c2] at H
     have c2b0 : (x0_1.toList == ([] : List UInt8)) = false := beq_eq_false_iff_ne.mpr c2
     have c2b1 : (x0_1.toList != ([] : List UInt8)) = true := bne_iff_ne.mpr c2
     replace H := Option.bind_eq_some_iff.mp H
     obtain ⟨⟨t113, t114, t115⟩, A30, H⟩ := H
     replace H : ((mint_GetNumber.f t113 (t114.size : Int)).bind fun bt116 => (if t115 = true then (if bt116.2 = true then (if 0 ≤ bt116.1 then (if bt116.1 ≤ (t114.size : Int) then (if x4_1.length < 8796093022208 then (mint_Get.l0 k1 (t114.extract (bt116.1 : Int).toNat t114.size) (x4_1 ++ [t114.extract 0 (bt116.1 : Int).toNat])) else (none)) else (none)) else (none)) else (some (([] : List ByteArray), false))) else (some (([] : List ByteArray), false)))) = some (r1, r2) := H
     have A3 := Aside0.mk A30
     clear A30
     replace H := Option.bind_eq_some_iff.mp H
     obtain ⟨⟨t116, t117⟩, A40, H⟩ := H
     replace H : (if t115 = true then (if t117 = true then (if 0 ≤ t116 then (if t116 ≤ (t114.size : Int) then (if x4_1.length < 8796093022208 then (mint_Get.l0 k1 (t114.extract (t116 : Int).toNat t114.size) (x4_1 ++ [t114.extract 0 (t116 : Int).toNat])) else (none)) else (none)) else (none)) else (some (([] : List ByteArray), false))) else (some (([] : List ByteArray), false))) = some (r1, r2) := H
     have A4 := Aside0.mk A40
     clear A40
     by_cases c5 : t115 = true
     · subst c5
       have H1 : (if t117 = true then (if 0 ≤ t116 then (if t116 ≤ (t114.size : Int) then (if x4_1.length < 8796093022208 then (mint_Get.l0 k1 (t114.extract (t116 : Int).toNat t114.size) (x4_1 ++ [t114.extract 0 (t116 : Int).toNat])) else (none)) else (none)) else (none)) else (some (([] : List ByteArray), false))) = some (r1, r2) := by rw [if_pos rfl] at H; exact H
       clear H
       have H := H1
       clear H1
       by_cases c6 : t117 = true
       · subst c6
         have H1 : (if 0 ≤ t116 then (if t116 ≤ (t114.size : Int) then (if x4_1.length < 8796093022208 then (mint_Get.l0 k1 (t114.extract (t116 : Int).toNat t114.size) (x4_1 ++ [t114.extract 0 (t116 : Int).toNat])) else (none)) else (none)) else (none)) = some (r1, r2) := by rw [if_pos rfl] at H; exact H
         clear H
         have H := H1
         clear H1
         by_cases c7 : 0 ≤ t116
         · rw [if_pos c7] at H
           have c7b0 := eq_true c7
           have c7b1 : decide (0 ≤ t116) = true := decide_eq_true c7
           clear c7
           by_cases c8 : t116 ≤ (t114.size : Int)
           · rw [if_pos c8] at H
             have c8b0 := eq_true c8
             have c8b1 : decide (t116 ≤ (t114.size : Int)) = true := decide_eq_true c8
             clear c8
             by_cases c9 : x4_1.length < 8796093022208
             · rw [if_pos c9] at H
               have LMc9 := Aside0.mk c9
               clear c9
               obtain ⟨y118, hy118⟩ : ∃ y_ : List ByteArray, y_ = (x4_1 ++ [t114.extract 0 (t116 : Int).toNat]) := ⟨_, rfl⟩
               replace H : (mint_Get.l0 k1 (t114.extract (t116 : Int).toNat t114.size) y118) = some (r1, r2) := by first | (rw [hy118]; with_reducible exact H) | (have H2_ := (Option.bind_some _ _).symm.trans H; rw [hy118]; with_reducible exact H2_) | (have H2_ := (Option.bind_some _ _).symm.trans H; with_reducible exact H2_) | with_reducible exact H | (rw [hy118]; exact H) | exact H
               have Ny118 := Aside0.mk hy118
               clear hy118
               have c10b0 := eq_true (of_decide_eq_true (by first | (with_reducible assumption) | assumption) : 0 ≤ t116)
               have c11b0 := eq_true (of_decide_eq_true (by first | (with_reducible assumption) | assumption) : t116 ≤ (t114.size : Int))
               have H' := Aside0.mk H
               clear H
               go_wp2_with (first | ((with_reducible refine gate_callee (f := 54) rfl ?_); refine goesL_ (some 14) rfl rfl Tryz.func54 (by kernel_rfl) rfl #[.string x0_1, .string (⟨#[58]⟩ : ByteArray)] rfl (by (try simp only [List.map_toArray, List.map_cons, List.map_nil]); first | done | rfl | (simp only [List.length_drop, List.length_take]; rfl)) ?_; (with_reducible refine (strings_Cut.calls x0_1 (⟨#[58]⟩ : ByteArray) t113 t114 true _ ?side99 A3.out).mono ?_); (case side99 => exact GOK.below HG.out (by repeat (first | (with_reducible first | exact HB.out | apply below_alloc | apply pw_below_drewN | apply below_drew1) | exact HB.out))); rintro e w12 ⟨rfl, hb⟩; refine ⟨_, rfl, ?_⟩; have n0_ := Aside0.mk (Kd.R_below (by (with_reducible repeat (first | apply Kd.R_alloc | apply Kd.R_drewN | apply Kd.R_drew)); exact HO_4.out) hb); have n1_ := Aside0.mk (below_step (by repeat (first | (with_reducible first | exact HB.out | apply below_alloc | apply pw_below_drewN | apply below_drew1) | exact HB.out)) hb); clear HO_4; clear HB; have HO_4 := n0_; have HB := n1_; clear n0_ n1_; (try clear hb); (try clear hb2); (try clear hk); (try clear hi)) | ((with_reducible refine gate_callee (f := 42) rfl ?_); refine goesL_ (some 22) rfl rfl Tryz.func42 (by kernel_rfl) rfl #[.string t113, .int .i64 (t114.size : Int)] rfl (by (try simp only [List.map_toArray, List.map_cons, List.map_nil]); first | done | rfl | (simp only [List.length_drop, List.length_take]; rfl)) ?_; (with_reducible refine (mint_GetNumber.calls t113 (t114.size : Int) t116 true _ ?side99 A4.out).mono ?_); (case side99 => exact GOK.below HG.out (by repeat (first | (with_reducible first | exact HB.out | apply below_alloc | apply pw_below_drewN | apply below_drew1) | exact HB.out))); rintro e w13 ⟨rfl, hb⟩; refine ⟨_, rfl, ?_⟩; have n0_ := Aside0.mk (Kd.R_below (by (with_reducible repeat (first | apply Kd.R_alloc | apply Kd.R_drewN | apply Kd.R_drew)); exact HO_4.out) hb); have n1_ := Aside0.mk (below_step (by repeat (first | (with_reducible first | exact HB.out | apply below_alloc | apply pw_below_drewN | apply below_drew1) | exact HB.out)) hb); clear HO_4; clear HB; have HO_4 := n0_; have HB := n1_; clear n0_ n1_; (try clear hb); (try clear hb2); (try clear hk); (try clear hi)) | ((with_reducible refine gate_builtin (b := .append) (xs := #[.tmp 31, .tmp 35]) rfl ?_); at_builtin; refine Kd.R_append Kd.string (w0 := w) w.heap.size rfl (.tmp 31) (.tmp 35) 28 9 (.string ⟨#[]⟩) 16 rfl Tryz.underlying28 info9 rfl (by decide) (by omega) u4 x4_1 (t114.extract 0 (t116 : Int).toNat) [.string (t114.extract 0 (t116 : Int).toNat)] (fun _ => True) (fun _ => False) rfl rfl ?aP (fun _ hk => hk.elim) ?aF ?aO ?aB ?aS ?aL ?_; (case aP => exact rfl); (case aB => exact (by repeat (first | (with_reducible first | exact HB.out | apply below_alloc | apply pw_below_drewN | apply below_drew1) | exact HB.out))); (case aF => exact (fun _ _ => trivial)); (case aO => exact (by (with_reducible repeat (first | apply Kd.R_alloc | apply Kd.R_drewN | apply Kd.R_drew)); exact HO_4.out)); (case aS => exact (below_size (by repeat (first | (with_reducible first | exact HB.out | apply below_alloc | apply pw_below_drewN | apply below_drew1) | exact HB.out)))); (case aL => have := LMc9.out; omega); intro v119 w14 ho hb hg hat; rw [← Ny118.out] at ho; have n0_ := Aside0.mk (hb); have n1_ := Aside0.mk (ho); clear HB; clear HO_4; have HB := n0_; have HO120 := n1_; clear n0_ n1_; clear ho hb hg hat))
               go_roundg k1
               case measure => have := HK1.out; omega
               case rel => exact ⟨(t114.extract (t116 : Int).toNat t114.size), (y118), (by first | rfl | (simp; done) | (simp [*]; done) | (simp [bne]; done) | (simp [*, bne]; done)), H', ⟨by have := HK1.out; omega⟩, ⟨by (with_reducible repeat (first | apply Kd.R_alloc | apply Kd.R_drewN | apply Kd.R_drew)); exact HO120.out⟩, ⟨by repeat (first | (with_reducible first | exact HB.out | apply below_alloc | apply pw_below_drewN | apply below_drew1) | exact HB.out)⟩⟩
             · rw [if_neg c9] at H
               exact absurd H (by simp)
           · rw [if_neg c8] at H
             exact absurd H (by simp)
         · rw [if_neg c7] at H
           exact absurd H (by simp)
       · replace c6 := Bool.eq_false_iff.mpr c6
         subst c6
         have H1 : (some (([] : List ByteArray), false)) = some (r1, r2) := by rw [if_neg (show ¬ (false = true) by decide)] at H; exact H
         clear H
         have H := H1
         clear H1
         simp only [Option.some.injEq, Prod.mk.injEq] at H
         obtain ⟨rfl, rfl⟩ := H
         go_wp2_with (first | ((with_reducible refine gate_callee (f := 54) rfl ?_); refine goesL_ (some 14) rfl rfl Tryz.func54 (by kernel_rfl) rfl #[.string x0_1, .string (⟨#[58]⟩ : ByteArray)] rfl (by (try simp only [List.map_toArray, List.map_cons, List.map_nil]); first | done | rfl | (simp only [List.length_drop, List.length_take]; rfl)) ?_; (with_reducible refine (strings_Cut.calls x0_1 (⟨#[58]⟩ : ByteArray) t113 t114 true _ ?side99 A3.out).mono ?_); (case side99 => exact GOK.below HG.out (by repeat (first | (with_reducible first | exact HB.out | apply below_alloc | apply pw_below_drewN | apply below_drew1) | exact HB.out))); rintro e w15 ⟨rfl, hb⟩; refine ⟨_, rfl, ?_⟩; have n0_ := Aside0.mk (Kd.R_below (by (with_reducible repeat (first | apply Kd.R_alloc | apply Kd.R_drewN | apply Kd.R_drew)); exact HO_4.out) hb); have n1_ := Aside0.mk (below_step (by repeat (first | (with_reducible first | exact HB.out | apply below_alloc | apply pw_below_drewN | apply below_drew1) | exact HB.out)) hb); clear HO_4; clear HB; have HO_4 := n0_; have HB := n1_; clear n0_ n1_; (try clear hb); (try clear hb2); (try clear hk); (try clear hi)) | ((with_reducible refine gate_callee (f := 42) rfl ?_); refine goesL_ (some 22) rfl rfl Tryz.func42 (by kernel_rfl) rfl #[.string t113, .int .i64 (t114.size : Int)] rfl (by (try simp only [List.map_toArray, List.map_cons, List.map_nil]); first | done | rfl | (simp only [List.length_drop, List.length_take]; rfl)) ?_; (with_reducible refine (mint_GetNumber.calls t113 (t114.size : Int) t116 false _ ?side99 A4.out).mono ?_); (case side99 => exact GOK.below HG.out (by repeat (first | (with_reducible first | exact HB.out | apply below_alloc | apply pw_below_drewN | apply below_drew1) | exact HB.out))); rintro e w16 ⟨rfl, hb⟩; refine ⟨_, rfl, ?_⟩; have n0_ := Aside0.mk (Kd.R_below (by (with_reducible repeat (first | apply Kd.R_alloc | apply Kd.R_drewN | apply Kd.R_drew)); exact HO_4.out) hb); have n1_ := Aside0.mk (below_step (by repeat (first | (with_reducible first | exact HB.out | apply below_alloc | apply pw_below_drewN | apply below_drew1) | exact HB.out)) hb); clear HO_4; clear HB; have HO_4 := n0_; have HB := n1_; clear n0_ n1_; (try clear hb); (try clear hb2); (try clear hk); (try clear hi)))
         go_ret2
         exact ⟨_, by first | rfl | (simp [errW_none, errW_some] <;> rfl) | (simp [*, errW_none, errW_some] <;> rfl), by first | exact Kd.R_nil _ _ _ _ _ | exact Kd.N_nil _ _ _ _ _ | exact Kd.V_nil _ _ _ _ _ | exact Kd.Q_nil _ _ _ _ _ | exact Kd.S_nil _ _ _ _ _, by repeat (first | (with_reducible first | exact HB.out | apply below_alloc | apply pw_below_drewN | apply below_drew1) | exact HB.out)⟩
     · replace c5 := Bool.eq_false_iff.mpr c5
       subst c5
       have H1 : (some (([] : List ByteArray), false)) = some (r1, r2) := by rw [if_neg (show ¬ (false = true) by decide)] at H; exact H
       clear H
       have H := H1
       clear H1
       simp only [Option.some.injEq, Prod.mk.injEq] at H
       obtain ⟨rfl, rfl⟩ := H
       go_wp2_with (first | ((with_reducible refine gate_callee (f := 54) rfl ?_); refine goesL_ (some 14) rfl rfl Tryz.func54 (by kernel_rfl) rfl #[.string x0_1, .string (⟨#[58]⟩ : ByteArray)] rfl (by (try simp only [List.map_toArray, List.map_cons, List.map_nil]); first | done | rfl | (simp only [List.length_drop, List.length_take]; rfl)) ?_; (with_reducible refine (strings_Cut.calls x0_1 (⟨#[58]⟩ : ByteArray) t113 t114 false _ ?side99 A3.out).mono ?_); (case side99 => exact GOK.below HG.out (by repeat (first | (with_reducible first | exact HB.out | apply below_alloc | apply pw_below_drewN | apply below_drew1) | exact HB.out))); rintro e w17 ⟨rfl, hb⟩; refine ⟨_, rfl, ?_⟩; have n0_ := Aside0.mk (Kd.R_below (by (with_reducible repeat (first | apply Kd.R_alloc | apply Kd.R_drewN | apply Kd.R_drew)); exact HO_4.out) hb); have n1_ := Aside0.mk (below_step (by repeat (first | (with_reducible first | exact HB.out | apply below_alloc | apply pw_below_drewN | apply below_drew1) | exact HB.out)) hb); clear HO_4; clear HB; have HO_4 := n0_; have HB := n1_; clear n0_ n1_; (try clear hb); (try clear hb2); (try clear hk); (try clear hi)) | ((with_reducible refine gate_callee (f := 42) rfl ?_); refine goesL_ (some 22) rfl rfl Tryz.func42 (by kernel_rfl) rfl #[.string t113, .int .i64 (t114.size : Int)] rfl (by (try simp only [List.map_toArray, List.map_cons, List.map_nil]); first | done | rfl | (simp only [List.length_drop, List.length_take]; rfl)) ?_; (with_reducible refine (mint_GetNumber.calls t113 (t114.size : Int) t116 t117 _ ?side99 A4.out).mono ?_); (case side99 => exact GOK.below HG.out (by repeat (first | (with_reducible first | exact HB.out | apply below_alloc | apply pw_below_drewN | apply below_drew1) | exact HB.out))); rintro e w18 ⟨rfl, hb⟩; refine ⟨_, rfl, ?_⟩; have n0_ := Aside0.mk (Kd.R_below (by (with_reducible repeat (first | apply Kd.R_alloc | apply Kd.R_drewN | apply Kd.R_drew)); exact HO_4.out) hb); have n1_ := Aside0.mk (below_step (by repeat (first | (with_reducible first | exact HB.out | apply below_alloc | apply pw_below_drewN | apply below_drew1) | exact HB.out)) hb); clear HO_4; clear HB; have HO_4 := n0_; have HB := n1_; clear n0_ n1_; (try clear hb); (try clear hb2); (try clear hk); (try clear hi)))
       go_ret2
       exact ⟨_, by first | rfl | (simp [errW_none, errW_some] <;> rfl) | (simp [*, errW_none, errW_some] <;> rfl), by first | exact Kd.R_nil _ _ _ _ _ | exact Kd.N_nil _ _ _ _ _ | exact Kd.V_nil _ _ _ _ _ | exact Kd.Q_nil _ _ _ _ _ | exact Kd.S_nil _ _ _ _ _, by repeat (first | (with_reducible first | exact HB.out | apply below_alloc | apply pw_below_drewN | apply below_drew1) | exact HB.out)⟩

-- EXT: function 32 (mint_Put)

def mint_Vals.l0 : Nat → List ByteArray → List (S34) → Int → Int → Option (ByteArray)
 | 0, _, _, _, _ => none
 | k + 1, x3, x6, x7, x8 => if x8 < x7 then (if 0 ≤ x8 then (if x8 < (x6.length : Int) then (if (rd_T34 x6 x8).f0 = true then (if 1 + ((rd_T34 x6 x8).f1).size ≤ 9223372036854775807 then (if x3.length < 8796093022208 then (mint_Vals.l0 k (x3 ++ [(⟨#[43]⟩ : ByteArray) ++ ((rd_T34 x6 x8).f1)]) x6 x7 (wrap64 (x8 + 1))) else (none)) else (none)) else (if x3.length < 8796093022208 then (mint_Vals.l0 k (x3 ++ [(⟨#[45]⟩ : ByteArray)]) x6 x7 (wrap64 (x8 + 1))) else (none))) else (none)) else (none)) else ((mint_Put.f x3).bind fun t129 => (some t129))
def mint_Vals.f (k : Nat) (l0 : List (S34)) : Option (ByteArray) := mint_Vals.l0 k ([] : List ByteArray) l0 (l0.length : Int) 0
theorem mint_Vals.mono_l : ∀ k, (∀ y0 y1 y2 y3, LeO (mint_Vals.l0 k y0 y1 y2 y3) (mint_Vals.l0 (k + 1) y0 y1 y2 y3))
 | 0 => fun _ _ _ _ r h => by simp [mint_Vals.l0] at h
 | k + 1 => by
  have ih0 := mint_Vals.mono_l k
  · intro y0 y1 y2 y3
    unfold mint_Vals.l0
    repeat' first
    | (with_reducible exact ih0 _ _ _ _)
    | (with_reducible exact LeO.refl _)
    | (with_reducible exact LeO.none _)
    | (with_reducible refine LeO.ite ?_ ?_)
    | (with_reducible refine LeO.bind ?_ (fun _ => ?_))
    | exact ih0 _ _ _ _
    | exact LeO.none _
    | refine LeO.ite ?_ ?_
    | refine LeO.bind ?_ (fun _ => ?_)
theorem mint_Vals.mono : ∀ a0 k, LeO (mint_Vals.f k a0) (mint_Vals.f (k + 1) a0) := by
 intro a0 k
 have ih0 := mint_Vals.mono_l k
 unfold mint_Vals.f
 repeat' first
  | (with_reducible exact ih0 _ _ _ _)
  | (with_reducible exact LeO.refl _)
  | (with_reducible exact LeO.none _)
  | (with_reducible refine LeO.ite ?_ ?_)
  | (with_reducible refine LeO.bind ?_ (fun _ => ?_))
  | exact ih0 _ _ _ _
  | exact LeO.none _
  | refine LeO.ite ?_ ?_
  | refine LeO.bind ?_ (fun _ => ?_)
set_option maxHeartbeats 8000000 in
set_option maxRecDepth 100000 in
theorem mint_Vals.calls (k : Nat) (A0 : Option Addr) (c0 : Nat) (l0 : List (S34)) (r : ByteArray) (w : World) (hG : GOK w) (hr0 : Kd.C k34 w A0 l0.length l0) (hc0 : l0.length ≤ c0) (h : mint_Vals.f k l0 = some r) :
 Calls Tryz.prog 23 #[.slice A0 l0.length c0] w fun e w' => e = .returned (.string r) ∧ Below w.heap.size w w' := by
 have hu34 := Tryz.underlying34
 have HR0 := Aside0.mk hr0
 have HC0 := Aside0.mk hc0
 clear hr0 hc0
 have HB := Aside0.mk (Below.refl w.heap.size w)
 have HG := Aside0.mk hG
 clear hG
 have H : (mint_Vals.l0 k ([] : List ByteArray) l0 (l0.length : Int) 0) = some r := h
 clear h
 have H' := Aside0.mk H
 clear H
 go_enter Tryz.func23, Tryz.ntmps23
 go_wp2
 go_loopg [3, 8] k (fun kq v3 v8 w' => ∃ (x3_1 : List ByteArray) (x8_1 : Int), v8 = .int .i64 x8_1 ∧ Aside0 (mint_Vals.l0 kq x3_1 l0 (l0.length : Int) x8_1 = some r) ∧ Aside0 (kq ≤ k) ∧ Aside0 (Kd.R Kd.string 9 w' w.heap.size (fun _ => True) v3 x3_1) ∧ Aside0 (Below w.heap.size w w'))
 case atStart => exact ⟨(([] : List ByteArray)), (0), (by first | rfl | (simp; done) | (simp [*]; done) | (simp [bne]; done) | (simp [*, bne]; done)), H', ⟨Nat.le_refl _⟩, ⟨by first | exact Kd.R_nil _ _ _ _ _ | exact Kd.N_nil _ _ _ _ _ | exact Kd.V_nil _ _ _ _ _ | exact Kd.Q_nil _ _ _ _ _ | exact Kd.S_nil _ _ _ _ _⟩, ⟨by repeat (first | (with_reducible first | exact HB.out | apply below_alloc | apply pw_below_drewN | apply below_drew1) | exact HB.out)⟩⟩
 case round =>
  clear H'
  obtain ⟨x3_1, x8_1, rfl, HA, HK1, HO_3, HB⟩ := hrel
  cases gk with
  | zero => exact absurd HA.out (by simp [mint_Vals.l0])
  | succ k1 =>
   have H := HA.out
   clear HA
   simp only [mint_Vals.l0] at H
   by_cases c2 : x8_1 < (l0.length : Int)
   · rw [if_pos c2] at H
     have c2b0 : decide (x8_1 < (l0.length : Int)) = true := decide_eq_true c2
     clear c2
     by_cases c3 : 0 ≤ x8_1
     · rw [if_pos c3] at H
       have c3b0 : decide (0 ≤ x8_1) = true := decide_eq_true c3
       clear c3
       by_cases c4 : x8_1 < (l0.length : Int)
       · rw [if_pos c4] at H
         have c4b0 : decide (x8_1 < (l0.length : Int)) = true := decide_eq_true c4
         clear c4
         obtain ⟨bq5, hbq5⟩ : ∃ b_ : Bool, b_ = ((rd_T34 l0 x8_1).f0) := ⟨_, rfl⟩
         replace H : (if bq5 = true then (if 1 + ((rd_T34 l0 x8_1).f1).size ≤ 9223372036854775807 then (if x3_1.length < 8796093022208 then (mint_Vals.l0 k1 (x3_1 ++ [(⟨#[43]⟩ : ByteArray) ++ ((rd_T34 l0 x8_1).f1)]) l0 (l0.length : Int) (wrap64 (x8_1 + 1))) else (none)) else (none)) else (if x3_1.length < 8796093022208 then (mint_Vals.l0 k1 (x3_1 ++ [(⟨#[45]⟩ : ByteArray)]) l0 (l0.length : Int) (wrap64 (x8_1 + 1))) else (none))) = some r := by rw [← hbq5] at H; exact H
         have Nbq5 := Aside0.mk hbq5
         clear hbq5
         by_cases c6 : bq5 = true
         · subst c6
           have H1 : (if 1 + ((rd_T34 l0 x8_1).f1).size ≤ 9223372036854775807 then (if x3_1.length < 8796093022208 then (mint_Vals.l0 k1 (x3_1 ++ [(⟨#[43]⟩ : ByteArray) ++ ((rd_T34 l0 x8_1).f1)]) l0 (l0.length : Int) (wrap64 (x8_1 + 1))) else (none)) else (none)) = some r := by rw [if_pos rfl] at H; exact H
           clear H
           have H := H1
           clear H1
           by_cases c7 : 1 + ((rd_T34 l0 x8_1).f1).size ≤ 9223372036854775807
           · rw [if_pos c7] at H
             have c7b0 := eq_true c7
             have c7b1 : decide (1 + ((rd_T34 l0 x8_1).f1).size ≤ 9223372036854775807) = true := decide_eq_true c7
             try have c7b2 : (9223372036854775807 < 1 + ((rd_T34 l0 x8_1).f1).size) = False := eq_false (Nat.not_lt.2 c7)
             try (have c7b3 := c7b2; simp only [ByteArray.size_append, mk_lit_size, List.size_toArray, List.length_cons, List.length_nil, Nat.reduceAdd, Nat.zero_add] at c7b3)
             by_cases c8 : x3_1.length < 8796093022208
             · rw [if_pos c8] at H
               have LMc8 := Aside0.mk c8
               clear c8
               obtain ⟨y123, hy123⟩ : ∃ y_ : List ByteArray, y_ = (x3_1 ++ [(⟨#[43]⟩ : ByteArray) ++ ((rd_T34 l0 x8_1).f1)]) := ⟨_, rfl⟩
               replace H : (mint_Vals.l0 k1 y123 l0 (l0.length : Int) (wrap64 (x8_1 + 1))) = some r := by first | (rw [hy123]; with_reducible exact H) | (have H2_ := (Option.bind_some _ _).symm.trans H; rw [hy123]; with_reducible exact H2_) | (have H2_ := (Option.bind_some _ _).symm.trans H; with_reducible exact H2_) | with_reducible exact H | (rw [hy123]; exact H) | exact H
               have Ny123 := Aside0.mk hy123
               clear hy123
               have H' := Aside0.mk H
               clear H
               have p121 : 0 ≤ (x8_1 : Int) := of_decide_eq_true (by first | (with_reducible assumption) | assumption)
               have q121 : x8_1 < (l0.length : Int) := of_decide_eq_true (by first | (with_reducible assumption) | assumption)
               obtain ⟨ad121, e121, hx121_0, hx121_1⟩ := at_T34 HR0.out x8_1 p121 q121
               (try rw [← Nbq5.out] at hx121_0)
               cases e121
               replace hx121_0 := (HB.out.cell (World.block_lt_of_cell? w _ hx121_0)).trans hx121_0
               replace hx121_1 := (HB.out.cell (World.block_lt_of_cell? w _ hx121_1)).trans hx121_1
               replace p121 := eq_true p121
               replace q121 := eq_true q121
               go_wp2_with (first | ((with_reducible refine gate_dst (N := 5) rfl ?_); refine box_event ?hg (N := 5) ?hd (cs := #[.bool false, .string (⟨#[]⟩ : ByteArray)]) (t := 34) ?hr ?_; (case hd => rfl); (case hg => rfl); (case hr => first | (go_simp; done) | (go_simp; rfl)); intro gb122 hg w9 hbox hb; have n0_ := Aside0.mk (Kd.R_below (by (with_reducible repeat (first | apply Kd.R_alloc | apply Kd.R_drewN | apply Kd.R_drew)); exact HO_3.out) hb); have n1_ := Aside0.mk (below_step (by repeat (first | (with_reducible first | exact HB.out | apply below_alloc | apply pw_below_drewN | apply below_drew1) | exact HB.out)) hb); have n2_ := Aside0.mk (hbox); have n3_ := Aside0.mk ((by rw [hg]; exact (below_size (by repeat (first | (with_reducible first | exact HB.out | apply below_alloc | apply pw_below_drewN | apply below_drew1) | exact HB.out))) : w.heap.size ≤ gb122)); have n4_ := Aside0.mk ((by rw [hg]; exact (below_size (by repeat (first | (with_reducible first | exact HB.out | apply below_alloc | apply pw_below_drewN | apply below_drew1) | exact HB.out))) : w.heap.size ≤ gb122)); clear HO_3; clear HB; have HO_3 := n0_; have HB := n1_; have BK122 := n2_; have GW122 := n3_; have GE122 := n4_; clear n0_ n1_ n2_ n3_ n4_; clear hb hbox hg; have hcz10_0 : w9.cell? ⟨gb122, 0, none⟩ = some (.bool false) := (blk_cell BK122.out 0).trans rfl; have hcz10_1 : w9.cell? ⟨gb122, 1, none⟩ = some (.string (⟨#[]⟩ : ByteArray)) := (blk_cell BK122.out 1).trans rfl; have hfz10_0 := blk_frozen BK122.out 0; have hfz10_1 := blk_frozen BK122.out 1) | ((with_reducible refine gate_builtin (b := .append) (xs := #[.tmp 14, .tmp 18]) rfl ?_); at_builtin; refine Kd.R_append Kd.string (w0 := w) w.heap.size rfl (.tmp 14) (.tmp 18) 28 9 (.string ⟨#[]⟩) 16 rfl Tryz.underlying28 info9 rfl (by decide) (by omega) u3 x3_1 ((⟨#[43]⟩ : ByteArray) ++ ((rd_T34 l0 x8_1).f1)) [.string ((⟨#[43]⟩ : ByteArray) ++ ((rd_T34 l0 x8_1).f1))] (fun _ => True) (fun _ => False) rfl (by first | (go_simp; done) | (go_simp; rfl)) ?aP (fun _ hk => hk.elim) ?aF ?aO ?aB ?aS ?aL ?_; (case aP => exact rfl); (case aB => exact (by repeat (first | (with_reducible first | exact HB.out | apply below_alloc | apply pw_below_drewN | apply below_drew1 | refine below_set ?_ GE122.out) | exact HB.out))); (case aF => exact (fun _ _ => trivial)); (case aO => exact (by (with_reducible repeat (first | apply Kd.R_alloc | apply Kd.R_drewN | apply Kd.R_drew)); exact Kd.R_mono (Kd.R_far (p := ⟨gb122, 1, none⟩) (Kd.R_far (p := ⟨gb122, 0, none⟩) (Kd.R_types HO_3.out BK122.out (by decide)) (fun _ hk => hk.2) (.bool true)) (fun _ hk => hk.2) (.string ((rd_T34 l0 x8_1).f1))) (fun _ hk => trivial))); (case aS => exact (below_size (by repeat (first | (with_reducible first | exact HB.out | apply below_alloc | apply pw_below_drewN | apply below_drew1 | refine below_set ?_ GE122.out) | exact HB.out)))); (case aL => have := LMc8.out; omega); intro v124 w11 ho hb hg hat; rw [← Ny123.out] at ho; have n0_ := Aside0.mk (blk_grown (g := gb122) (o := .cells #[.bool true, .string ((rd_T34 l0 x8_1).f1)] 34 (0, 0)) (by (with_reducible repeat (first | refine blk_drewN ?_ _ | refine blk_drew ?_ | refine blk_alloc ?_ _)); refine blk_put (cs := #[.bool true, .string (⟨#[]⟩ : ByteArray)]) ?_ 1 _ rfl; (with_reducible repeat (first | refine blk_drewN ?_ _ | refine blk_drew ?_ | refine blk_alloc ?_ _)); refine blk_put (cs := #[.bool false, .string (⟨#[]⟩ : ByteArray)]) ?_ 0 _ rfl; (with_reducible repeat (first | refine blk_drewN ?_ _ | refine blk_drew ?_ | refine blk_alloc ?_ _)); exact BK122.out) hg (Kd.R_ne HO_3.out BK122.out (by decide))); have n1_ := Aside0.mk (hb); have n2_ := Aside0.mk (ho); clear BK122; clear HB; clear HO_3; have BK122 := n0_; have HB := n1_; have HO125 := n2_; clear n0_ n1_ n2_; clear ho hb hg hat))
               go_roundg k1
               case measure => have := HK1.out; omega
               case rel => exact ⟨(y123), (wrap64 (x8_1 + 1)), (by first | rfl | (simp; done) | (simp [*]; done) | (simp [bne]; done) | (simp [*, bne]; done)), H', ⟨by have := HK1.out; omega⟩, ⟨by (with_reducible repeat (first | apply Kd.R_alloc | apply Kd.R_drewN | apply Kd.R_drew)); exact HO125.out⟩, ⟨by repeat (first | (with_reducible first | exact HB.out | apply below_alloc | apply pw_below_drewN | apply below_drew1 | refine below_set ?_ GE122.out) | exact HB.out)⟩⟩
             · rw [if_neg c8] at H
               exact absurd H (by simp)
           · rw [if_neg c7] at H
             exact absurd H (by simp)
         · replace c6 := Bool.eq_false_iff.mpr c6
           subst c6
           have H1 : (if x3_1.length < 8796093022208 then (mint_Vals.l0 k1 (x3_1 ++ [(⟨#[45]⟩ : ByteArray)]) l0 (l0.length : Int) (wrap64 (x8_1 + 1))) else (none)) = some r := by rw [if_neg (show ¬ (false = true) by decide)] at H; exact H
           clear H
           have H := H1
           clear H1
           by_cases c12 : x3_1.length < 8796093022208
           · rw [if_pos c12] at H
             have LMc12 := Aside0.mk c12
             clear c12
             obtain ⟨y126, hy126⟩ : ∃ y_ : List ByteArray, y_ = (x3_1 ++ [(⟨#[45]⟩ : ByteArray)]) := ⟨_, rfl⟩
             replace H : (mint_Vals.l0 k1 y126 l0 (l0.length : Int) (wrap64 (x8_1 + 1))) = some r := by first | (rw [hy126]; with_reducible exact H) | (have H2_ := (Option.bind_some _ _).symm.trans H; rw [hy126]; with_reducible exact H2_) | (have H2_ := (Option.bind_some _ _).symm.trans H; with_reducible exact H2_) | with_reducible exact H | (rw [hy126]; exact H) | exact H
             have Ny126 := Aside0.mk hy126
             clear hy126
             have H' := Aside0.mk H
             clear H
             have p121 : 0 ≤ (x8_1 : Int) := of_decide_eq_true (by first | (with_reducible assumption) | assumption)
             have q121 : x8_1 < (l0.length : Int) := of_decide_eq_true (by first | (with_reducible assumption) | assumption)
             obtain ⟨ad121, e121, hx121_0, hx121_1⟩ := at_T34 HR0.out x8_1 p121 q121
             (try rw [← Nbq5.out] at hx121_0)
             cases e121
             replace hx121_0 := (HB.out.cell (World.block_lt_of_cell? w _ hx121_0)).trans hx121_0
             replace hx121_1 := (HB.out.cell (World.block_lt_of_cell? w _ hx121_1)).trans hx121_1
             replace p121 := eq_true p121
             replace q121 := eq_true q121
             go_wp2_with (first | ((with_reducible refine gate_dst (N := 5) rfl ?_); refine box_event ?hg (N := 5) ?hd (cs := #[.bool false, .string (⟨#[]⟩ : ByteArray)]) (t := 34) ?hr ?_; (case hd => rfl); (case hg => rfl); (case hr => first | (go_simp; done) | (go_simp; rfl)); intro gb122 hg w13 hbox hb; have n0_ := Aside0.mk (Kd.R_below (by (with_reducible repeat (first | apply Kd.R_alloc | apply Kd.R_drewN | apply Kd.R_drew)); exact HO_3.out) hb); have n1_ := Aside0.mk (below_step (by repeat (first | (with_reducible first | exact HB.out | apply below_alloc | apply pw_below_drewN | apply below_drew1) | exact HB.out)) hb); have n2_ := Aside0.mk (hbox); have n3_ := Aside0.mk ((by rw [hg]; exact (below_size (by repeat (first | (with_reducible first | exact HB.out | apply below_alloc | apply pw_below_drewN | apply below_drew1) | exact HB.out))) : w.heap.size ≤ gb122)); have n4_ := Aside0.mk ((by rw [hg]; exact (below_size (by repeat (first | (with_reducible first | exact HB.out | apply below_alloc | apply pw_below_drewN | apply below_drew1) | exact HB.out))) : w.heap.size ≤ gb122)); clear HO_3; clear HB; have HO_3 := n0_; have HB := n1_; have BK122 := n2_; have GW122 := n3_; have GE122 := n4_; clear n0_ n1_ n2_ n3_ n4_; clear hb hbox hg; have hcz14_0 : w13.cell? ⟨gb122, 0, none⟩ = some (.bool false) := (blk_cell BK122.out 0).trans rfl; have hcz14_1 : w13.cell? ⟨gb122, 1, none⟩ = some (.string (⟨#[]⟩ : ByteArray)) := (blk_cell BK122.out 1).trans rfl; have hfz14_0 := blk_frozen BK122.out 0; have hfz14_1 := blk_frozen BK122.out 1) | ((with_reducible refine gate_builtin (b := .append) (xs := #[.tmp 20, .tmp 21]) rfl ?_); at_builtin; refine Kd.R_append Kd.string (w0 := w) w.heap.size rfl (.tmp 20) (.tmp 21) 28 9 (.string ⟨#[]⟩) 16 rfl Tryz.underlying28 info9 rfl (by decide) (by omega) u3 x3_1 (⟨#[45]⟩ : ByteArray) [.string (⟨#[45]⟩ : ByteArray)] (fun _ => True) (fun _ => False) rfl (by first | (go_simp; done) | (go_simp; rfl)) ?aP (fun _ hk => hk.elim) ?aF ?aO ?aB ?aS ?aL ?_; (case aP => exact rfl); (case aB => exact (by repeat (first | (with_reducible first | exact HB.out | apply below_alloc | apply pw_below_drewN | apply below_drew1 | refine below_set ?_ GE122.out) | exact HB.out))); (case aF => exact (fun _ _ => trivial)); (case aO => exact (by (with_reducible repeat (first | apply Kd.R_alloc | apply Kd.R_drewN | apply Kd.R_drew)); exact Kd.R_mono (Kd.R_far (p := ⟨gb122, 1, none⟩) (Kd.R_far (p := ⟨gb122, 0, none⟩) (Kd.R_types HO_3.out BK122.out (by decide)) (fun _ hk => hk.2) (.bool false)) (fun _ hk => hk.2) (.string ((rd_T34 l0 x8_1).f1))) (fun _ hk => trivial))); (case aS => exact (below_size (by repeat (first | (with_reducible first | exact HB.out | apply below_alloc | apply pw_below_drewN | apply below_drew1 | refine below_set ?_ GE122.out) | exact HB.out)))); (case aL => have := LMc12.out; omega); intro v127 w15 ho hb hg hat; rw [← Ny126.out] at ho; have n0_ := Aside0.mk (blk_grown (g := gb122) (o := .cells #[.bool false, .string ((rd_T34 l0 x8_1).f1)] 34 (0, 0)) (by (with_reducible repeat (first | refine blk_drewN ?_ _ | refine blk_drew ?_ | refine blk_alloc ?_ _)); refine blk_put (cs := #[.bool false, .string (⟨#[]⟩ : ByteArray)]) ?_ 1 _ rfl; (with_reducible repeat (first | refine blk_drewN ?_ _ | refine blk_drew ?_ | refine blk_alloc ?_ _)); refine blk_put (cs := #[.bool false, .string (⟨#[]⟩ : ByteArray)]) ?_ 0 _ rfl; (with_reducible repeat (first | refine blk_drewN ?_ _ | refine blk_drew ?_ | refine blk_alloc ?_ _)); exact BK122.out) hg (Kd.R_ne HO_3.out BK122.out (by decide))); have n1_ := Aside0.mk (hb); have n2_ := Aside0.mk (ho); clear BK122; clear HB; clear HO_3; have BK122 := n0_; have HB := n1_; have HO128 := n2_; clear n0_ n1_ n2_; clear ho hb hg hat))
             go_roundg k1
             case measure => have := HK1.out; omega
             case rel => exact ⟨(y126), (wrap64 (x8_1 + 1)), (by first | rfl | (simp; done) | (simp [*]; done) | (simp [bne]; done) | (simp [*, bne]; done)), H', ⟨by have := HK1.out; omega⟩, ⟨by (with_reducible repeat (first | apply Kd.R_alloc | apply Kd.R_drewN | apply Kd.R_drew)); exact HO128.out⟩, ⟨by repeat (first | (with_reducible first | exact HB.out | apply below_alloc | apply pw_below_drewN | apply below_drew1 | refine below_set ?_ GE122.out) | exact HB.out)⟩⟩
           · rw [if_neg c12] at H
             exact absurd H (by simp)
       · rw [if_neg c4] at H
         exact absurd H (by simp)
     · rw [if_neg c3] at H
       exact absurd H (by simp)
   · rw [if_neg c2] at H
     have c2b0 : decide (x8_1 < (l0.length : Int)) = false := decide_eq_false c2
     clear c2
     replace H := Option.bind_eq_some_iff.mp H
     obtain ⟨t129, A160, H⟩ := H
     replace H : (some t129) = some r := H
     have A16 := Aside0.mk A160
     clear A160
     obtain rfl := Option.some.inj H
     obtain ⟨Ao17, co17, eo17⟩ := Kd.R_slice HO_3.out
     subst eo17
     go_wp2_with (first | ((with_reducible refine gate_callee (f := 32) rfl ?_); refine goesL_ (some 25) rfl rfl Tryz.func32 (by kernel_rfl) rfl #[.slice Ao17 x3_1.length co17] rfl (by (try simp only [List.map_toArray, List.map_cons, List.map_nil]); first | done | rfl | (simp only [List.length_drop, List.length_take]; rfl)) ?_; (with_reducible refine (mint_Put.calls _ _ x3_1 t129 _ ?side99 ?side1 ?side2 A16.out).mono ?_); (case side99 => exact GOK.below HG.out (by repeat (first | (with_reducible first | exact HB.out | apply below_alloc | apply pw_below_drewN | apply below_drew1) | exact HB.out))); (case side1 => repeat (first | exact (Kd.R_reads' HO_3.out).2.2 | (with_reducible refine Kd.C_alloc ?_ _) | (with_reducible refine Kd.C_drewN ?_ _) | (with_reducible refine Kd.C_drew ?_))); (case side2 => exact (Kd.R_reads' HO_3.out).2.1); rintro e w18 ⟨rfl, hb⟩; refine ⟨_, rfl, ?_⟩; have n0_ := Aside0.mk (Kd.R_below (by (with_reducible repeat (first | apply Kd.R_alloc | apply Kd.R_drewN | apply Kd.R_drew)); exact HO_3.out) hb); have n1_ := Aside0.mk (below_step (by repeat (first | (with_reducible first | exact HB.out | apply below_alloc | apply pw_below_drewN | apply below_drew1) | exact HB.out)) hb); clear HO_3; clear HB; have HO_3 := n0_; have HB := n1_; clear n0_ n1_; (try clear hb); (try clear hb2); (try clear hk); (try clear hi)))
     go_ret
     exact ⟨by first | rfl | (simp [errW_none, errW_some] <;> rfl) | (simp [*, errW_none, errW_some] <;> rfl), by repeat (first | (with_reducible first | exact HB.out | apply below_alloc | apply pw_below_drewN | apply below_drew1) | exact HB.out)⟩

end Go.Proofs.YtobbliglnjgbaaaGreatDoor.Pc

namespace Go.Proofs.YtobbliglnjgbaaaGreatDoor.X
open Go.RowKit Go.Maps Go.Proofs.YtobbliglnjgbaaaGreatDoorW.PrintWords

theorem lit_C {α : Type} (d : Kd α) (W : World) (e : Nat) (xs : List α) (inner : List Value) (hrep : Reps (d.K W) d.sz xs inner) (hm : xs.length ≤ 9223372036854775807) :
 d.C (W.alloc (.cells inner.toArray e)) (some ⟨W.heap.size, 0, none⟩) xs.length xs := by
 have h2 := World.ownsRow_lit (base := W.heap.size) (e := e) (size := d.sz) W inner.toArray xs.length (Nat.le_refl _) (by simpa [maxLen] using hm) (by simpa using hrep.1)
 refine ⟨rfl, hm, fun _ => ⟨_, rfl, fun j p hj => ⟨(inner.drop (j * d.sz)).take d.sz, ?_, d.K_below ((Below.refl _ _).alloc (Nat.le_refl _) _) (hrep.2 j p hj), fun i u hu => ?_⟩⟩⟩
 · exact d.K_len (hrep.2 j p hj)
 · have hi : i < d.sz := by
    obtain ⟨hl, _⟩ := List.getElem?_eq_some_iff.1 hu
    rw [List.length_take] at hl
    omega
   rw [List.getElem?_take_of_lt hi, List.getElem?_drop] at hu
   have := h2.cells (g := W.heap.size) rfl (j * d.sz + i) u (by simpa using hu)
   simpa [Addr.add] using this

def shipwrightlaw1_begun.f : Option Bool := some true
set_option maxHeartbeats 4000000 in
set_option maxRecDepth 100000 in
theorem shipwrightlaw1_begun.calls (r : Bool) (w : World) (hG : GOK w) (h : shipwrightlaw1_begun.f = some r) :
 Calls Tryz.prog 16 #[] w fun e w' => e = .returned (.bool r) ∧ Below w.heap.size w w' := by
 obtain rfl := Option.some.inj h
 clear h
 have HG := Lib.hid hG
 clear hG
 go_enter Tryz.func16, Tryz.ntmps16
 go_wp2_with fail
 refine (Pc.path_Norm.calls 40 ⟨#[97, 47, 47, 46, 47, 98, 47, 46, 46, 47, 99]⟩ ⟨#[97, 47, 99]⟩ true w HG.out (by kernel_rfl)).mono ?_
 rintro e w1 ⟨rfl, hb1⟩
 go_wp2_with fail
 refine (Pc.path_Norm.calls 40 ⟨#[46, 46]⟩ ⟨#[]⟩ false w1 (HG.out.below hb1) (by kernel_rfl)).mono ?_
 rintro e w2 ⟨rfl, hb2⟩
 replace hb2 := below_then hb1 hb1.size hb2
 clear hb1
 go_wp2_with fail
 refine (Pc.mint_Get.calls 40 ⟨#[49, 58, 97, 48, 58]⟩ [⟨#[97]⟩, ⟨#[]⟩] true w2 (HG.out.below hb2) (by kernel_rfl)).mono ?_
 rintro e w3 ⟨v3, rfl, hr3, hb3⟩
 replace hb3 := below_then hb2 hb2.size hb3
 obtain ⟨A3, c3, rfl, _, _⟩ := Kd.R_reads hr3
 clear hb2 hr3
 go_wp2_with fail
 refine (mint_GetNumber.calls ⟨#[49, 50]⟩ 20 12 true w3 (HG.out.below hb3) (by kernel_rfl)).mono ?_
 rintro e w4 ⟨rfl, hb4⟩
 replace hb4 := below_then hb3 hb3.size hb4
 clear hb3
 go_wp2_with fail
 have hr4 := lit_C k50 w4 50 [⟨⟨#[98]⟩, ⟨#[120]⟩⟩, ⟨⟨#[97]⟩, ⟨#[]⟩⟩, ⟨⟨#[105, 110]⟩, ⟨#[]⟩⟩] [.string ⟨#[98]⟩, .string ⟨#[120]⟩, .string ⟨#[97]⟩, .string ⟨#[]⟩, .string ⟨#[105, 110]⟩, .string ⟨#[]⟩]
  (Reps.c2 (k50_mk w4 ⟨⟨#[98]⟩, ⟨#[120]⟩⟩) (Reps.c2 (k50_mk w4 ⟨⟨#[97]⟩, ⟨#[]⟩⟩) (Reps.c2 (k50_mk w4 ⟨⟨#[105, 110]⟩, ⟨#[]⟩⟩) (Reps.none _ _)))) (by simp)
 have hb4' := below_then hb4 hb4.size ((Below.refl w4.heap.size w4).alloc (Nat.le_refl _) (.cells #[Value.string ⟨#[98]⟩, .string ⟨#[120]⟩, .string ⟨#[97]⟩, .string ⟨#[]⟩, .string ⟨#[105, 110]⟩, .string ⟨#[]⟩] 50))
 refine (tree_New.calls _ 3 [⟨⟨#[98]⟩, ⟨#[120]⟩⟩, ⟨⟨#[97]⟩, ⟨#[]⟩⟩, ⟨⟨#[105, 110]⟩, ⟨#[]⟩⟩] _ (HG.out.below hb4') hr4 (by decide)).mono ?_
 rintro e w5 ⟨g, b, rfl, hT5, _, hBb, hb5⟩
 replace hBb : w.heap.size ≤ b := Nat.le_trans hb4'.size hBb
 replace hb5 := below_then hb4' hb4'.size hb5
 replace hT5 : IsTree w5 g b [([97], []), ([98], [120])] := hT5
 clear hr4 hb4 hb4'
 have HT5 := Lib.hid hT5
 have HB5 := Lib.hid hb5
 clear hT5 hb5
 go_wp2_with fail
 refine (tree_Read.calls w5 g b _ HT5.out ⟨#[98]⟩ (by decide)).mono ?_
 rintro e w6 ⟨rfl, hd6⟩
 rw [show mk ((getT [([97], []), ([98], [120])] (⟨#[98]⟩ : ByteArray).data.toList).getD []) = ⟨#[120]⟩ by kernel_rfl, show (getT [([97], []), ([98], [120])] (⟨#[98]⟩ : ByteArray).data.toList).isSome = true by kernel_rfl]
 have hb6 := below_then HB5.out HB5.out.size hd6.below
 have hT6 := HT5.out.below hd6.below
 clear hd6 HT5 HB5
 have HT6 := Lib.hid hT6
 have HB6 := Lib.hid hb6
 clear hT6 hb6
 go_wp2_with fail
 refine (path_May.calls ⟨#[97, 47, 98, 46, 99]⟩ true w6 (HG.out.below HB6.out) (by kernel_rfl)).mono ?_
 rintro e w7 ⟨rfl, hb7⟩
 replace HT6 := Lib.hid (HT6.out.below hb7)
 replace hb7 := below_then HB6.out HB6.out.size hb7
 have HB7 := Lib.hid hb7
 clear hb7
 go_wp2_with fail
 refine (path_May.calls ⟨#[97, 47, 47, 98]⟩ false w7 (HG.out.below HB7.out) (by kernel_rfl)).mono ?_
 rintro e w8 ⟨rfl, hb8⟩
 replace HT6 := Lib.hid (HT6.out.below hb8)
 replace hb8 := below_then HB7.out HB7.out.size hb8
 have HB8 := Lib.hid hb8
 clear hb8
 go_wp2_with fail
 refine (path_May.calls ⟨#[114, 117, 108, 101]⟩ false w8 (HG.out.below HB8.out) (by kernel_rfl)).mono ?_
 rintro e w9 ⟨rfl, hb9⟩
 replace HT6 := Lib.hid (HT6.out.below hb9)
 replace hb9 := below_then HB8.out HB8.out.size hb9
 have HB9 := Lib.hid hb9
 clear hb9 HB8 HB7
 go_wp2_with fail
 have hr10 := lit_C Kd.string w9 9 [⟨#[97]⟩, ⟨#[]⟩, ⟨#[98]⟩] [.string ⟨#[97]⟩, .string ⟨#[]⟩, .string ⟨#[98]⟩] (Kd.reps_scalar _) (by simp)
 have hb10 := below_then HB9.out HB9.out.size ((Below.refl w9.heap.size w9).alloc (Nat.le_refl _) (.cells #[Value.string ⟨#[97]⟩, .string ⟨#[]⟩, .string ⟨#[98]⟩] 9))
 refine (path_Join.calls _ 3 [⟨#[97]⟩, ⟨#[]⟩, ⟨#[98]⟩] ⟨#[97, 47, 98]⟩ _ (HG.out.below hb10) hr10 (by simp) (by kernel_rfl)).mono ?_
 rintro e w10 ⟨rfl, hb10'⟩
 replace HT6 := Lib.hid ((HT6.out.below ((Below.refl w9.heap.size w9).alloc (Nat.le_refl _) _)).below hb10')
 replace hb10 := below_then hb10 hb10.size hb10'
 have HB10 := Lib.hid hb10
 clear hb10 hb10' hr10
 go_wp2_with fail
 refine (Pb.path_Parts.calls ⟨#[47]⟩ [⟨#[]⟩, ⟨#[]⟩] w10 (HG.out.below HB10.out) (by kernel_rfl)).mono ?_
 rintro e w11 ⟨v11, rfl, hr11, hb11⟩
 replace HT6 := Lib.hid (HT6.out.below hb11)
 replace hb11 := below_then HB10.out HB10.out.size hb11
 have HB11 := Lib.hid hb11
 obtain ⟨A11, c11, rfl, _, _⟩ := Kd.R_reads hr11
 clear hb11 hr11
 go_wp2_with fail
 have hr12 := lit_C Kd.string w11 9 [⟨#[97]⟩, ⟨#[]⟩] [.string ⟨#[97]⟩, .string ⟨#[]⟩] (Kd.reps_scalar _) (by simp)
 have hb12 := below_then HB11.out HB11.out.size ((Below.refl w11.heap.size w11).alloc (Nat.le_refl _) (.cells #[Value.string ⟨#[97]⟩, .string ⟨#[]⟩] 9))
 refine (mint_Put.calls _ 2 [⟨#[97]⟩, ⟨#[]⟩] ⟨#[49, 58, 97, 48, 58]⟩ _ (HG.out.below hb12) hr12 (by simp) (by kernel_rfl)).mono ?_
 rintro e w12 ⟨rfl, hb12'⟩
 replace HT6 := Lib.hid ((HT6.out.below ((Below.refl w11.heap.size w11).alloc (Nat.le_refl _) _)).below hb12')
 replace hb12 := below_then hb12 hb12.size hb12'
 have HB12 := Lib.hid hb12
 clear hb12 hb12' hr12
 go_wp2_with fail
 have hr13 := lit_C k34 w12 34 [⟨true, ⟨#[122]⟩⟩, ⟨false, ⟨#[]⟩⟩] [.bool true, .string ⟨#[122]⟩, .bool false, .string ⟨#[]⟩] (Reps.c2 (k34_mk w12 ⟨true, ⟨#[122]⟩⟩) (Reps.c2 (k34_mk w12 ⟨false, ⟨#[]⟩⟩) (Reps.none _ _))) (by simp)
 have hb13 := below_then HB12.out HB12.out.size ((Below.refl w12.heap.size w12).alloc (Nat.le_refl _) (.cells #[.bool true, .string ⟨#[122]⟩, .bool false, .string ⟨#[]⟩] 34))
 refine (Pc.mint_Vals.calls 10 _ 2 [⟨true, ⟨#[122]⟩⟩, ⟨false, ⟨#[]⟩⟩] ⟨#[50, 58, 43, 122, 49, 58, 45]⟩ _ (HG.out.below hb13) hr13 (by simp) (by kernel_rfl)).mono ?_
 rintro e w13 ⟨rfl, hb13'⟩
 replace HT6 := Lib.hid ((HT6.out.below ((Below.refl w12.heap.size w12).alloc (Nat.le_refl _) _)).below hb13')
 replace hb13 := below_then hb13 hb13.size hb13'
 have HB13 := Lib.hid hb13
 clear hb13 hb13' hr13
 go_wp2_with fail
 refine (tree_Len.calls w13 g b _ HT6.out).mono ?_
 rintro e w14 ⟨rfl, hd14⟩
 replace HT6 := Lib.hid (HT6.out.below hd14.below)
 have HB14 := Lib.hid (below_then HB13.out HB13.out.size hd14.below)
 clear hd14
 go_wp2_with fail
 refine (tree_Names.calls w14 g b _ HT6.out (by show List.Pairwise _ _; decide) (by decide)).mono ?_
 rintro e w15 ⟨v15, rfl, hr15, hb15⟩
 replace HT6 := Lib.hid (HT6.out.below hb15)
 have HB15 := Lib.hid (below_then HB14.out HB14.out.size hb15)
 obtain ⟨A15, c15, rfl, hc15, hrd15⟩ := Kd.R_reads (Kd.R_of_own (h1 := fun _ => rfl) (ok := fun _ => True) hr15 (fun _ _ => trivial))
 rcases row_open hrd15 with h0 | ⟨b', o, rfl, _, hcell⟩
 · cases h0
 have hx := hcell 0 (by simp)
 replace hx : w15.cell? ⟨b', o + 0, none⟩ = some (.string ⟨#[97]⟩) := hx
 have hx' : w15.cell? ⟨b', o, none⟩ = some (.string ⟨#[97]⟩) := hx
 clear hr15 hrd15 hcell hb15
 go_wp2_with fail
 refine (tree_Key.calls w15 (HG.out.below HB15.out) g b _ HT6.out (by show List.Pairwise _ _; decide) (by decide) (by decide) (by rw [show (keyT [([97], []), ([98], [120])]).length = 11 by kernel_rfl]; decide)).mono ?_
 rw [show mk (keyT [([97], []), ([98], [120])]) = ⟨#[49, 58, 97, 48, 58, 49, 58, 98, 49, 58, 120]⟩ by kernel_rfl]
 rintro e w16 ⟨rfl, hb16⟩
 replace HT6 := Lib.hid (HT6.out.below hb16)
 have HB16 := Lib.hid (below_then HB15.out HB15.out.size hb16)
 clear hx hx' hb16
 go_wp2_with fail
 refine (tree_Erase.calls w16 g b _ HT6.out ⟨#[99]⟩ (by decide)).mono ?_
 rw [show (eraseT [([97], []), ([98], [120])] (⟨#[99]⟩ : ByteArray).data.toList).2 = 6 by kernel_rfl]
 rintro e w17 ⟨rfl, _, hg17⟩
 have hb17 := HB16.out.grown hg17 HB16.out.size (fun k hk => by cases hk; exact hBb)
 go_wp2
 go_ret
 exact ⟨rfl, hb17⟩
end Go.Proofs.YtobbliglnjgbaaaGreatDoor.X

namespace Go.Proofs.YtobbliglnjgbaaaGreatDoor.X
open Go.RowKit

theorem getT_cons (p : Bytes × Bytes) (m : TM) (x : Bytes) : getT (p :: m) x = if p.1 = x then some p.2 else getT m x := by
 unfold getT
 rw [List.find?_cons]
 by_cases h : p.1 = x
 · rw [if_pos h, show (p.1 == x) = true by simp [h]]; rfl
 · rw [if_neg h, show (p.1 == x) = false by simp [h]]
theorem erase_len (m : TM) (k : Bytes) (h : m.length ≤ 60) : (eraseT m k).1.length ≤ 60 := by
 unfold eraseT
 split
 · exact h
 · exact Nat.le_trans (delT_length m k) h

end Go.Proofs.YtobbliglnjgbaaaGreatDoor.X

namespace Go.Proofs.YtobbliglnjgbaaaGreatDoor.X
theorem digits_ne : ∀ u c, c ∈ Lib.decDigits u → c ≠ 58 := by
 intro u
 induction u using Nat.strongRecOn with
 | _ u ih =>
  intro c hc
  have one : ∀ d, d < 10 → UInt8.ofNat (48 + d) ≠ 58 := by decide
  rw [Lib.decDigits] at hc
  split at hc
  · rename_i h
    rw [List.mem_singleton] at hc
    rw [hc]
    exact one u h
  · rcases List.mem_append.1 hc with h | h
    · exact ih (u / 10) (by omega) c h
    · rw [List.mem_singleton] at h
      rw [h]
      exact one _ (by omega)
theorem put_cons (x : Bytes) (l : List Bytes) : put (x :: l) = Lib.decDigits x.length ++ 58 :: (x ++ put l) := by
 simp [put, number]
theorem put_nil : put [] = [] := rfl
theorem digits_length_le (u : Nat) : (Lib.decDigits u).length ≤ u + 1 := by
 induction u using Nat.strongRecOn with
 | _ u ih =>
  rw [Lib.decDigits]
  split
  · simp
  · rw [List.length_append]
    have := ih (u / 10) (by omega)
    simp only [List.length_singleton]
    omega
theorem put_length_le : ∀ l : List Bytes, (put l).length ≤ 2 * (l.map List.length).sum + 2 * l.length
 | [] => by simp [put_nil]
 | x :: l => by
  have ih := put_length_le l
  have h1 := digits_length_le x.length
  rw [put_cons]
  simp only [List.length_append, List.length_cons, List.map_cons, List.sum_cons]
  omega
theorem put_ge : ∀ l : List Bytes, l.length ≤ (put l).length
 | [] => by simp
 | x :: l => by
  have ih := put_ge l
  rw [put_cons]
  simp only [List.length_append, List.length_cons]
  omega
end Go.Proofs.YtobbliglnjgbaaaGreatDoor.X

namespace Go.Proofs.YtobbliglnjgbaaaGreatDoor.X
open Go.RowKit

def SmallT (m : TM) : Prop := ∀ p ∈ m, p.1.length ≤ 40 ∧ p.2.length ≤ 2000
theorem SmallT.nil : SmallT [] := fun _ h => by cases h
theorem SmallT.del {m : TM} (h : SmallT m) (k : Bytes) : SmallT (delT m k) := fun p hp => h p (List.mem_filter.1 hp).1
theorem SmallT.write {m : TM} (h : SmallT m) (k v : Bytes) : SmallT (writeT m k v).1 := by
 unfold writeT
 split
 · exact h
 · rename_i hm
   split
   · exact h
   · rename_i hv
     intro p hp
     rcases (insT_mem (k, v) p _).1 hp with rfl | hp
     · have hm2 : may k = true := by simpa using hm
       unfold may at hm2
       simp only [Bool.and_eq_true, decide_eq_true_eq] at hm2
       refine ⟨hm2.1.2, ?_⟩
       rcases Nat.lt_or_ge 2000 v.length with h2 | h2
       · exact absurd (.inl h2) hv
       · exact h2
     · exact (h.del k) p hp
theorem SmallT.fold (l : List (Bytes × Bytes)) : ∀ m : TM, SmallT m → SmallT (l.foldl (fun m f => (writeT m f.1 f.2).1) m) := by
 induction l with
 | nil => exact fun _ h => h
 | cons f r ih => exact fun m h => ih _ (h.write _ _)
theorem SmallT.new (l : List (Bytes × Bytes)) : SmallT (newT l) := SmallT.fold l [] SmallT.nil
theorem SmallT.key {m : TM} (h : SmallT m) (hl : m.length ≤ 60) : (keyT m).length ≤ 1000000 := by
 have key : ∀ m : TM, SmallT m → ((m.flatMap fun p => [p.1, p.2]).map List.length).sum ≤ 2040 * m.length ∧ (m.flatMap fun p => [p.1, p.2]).length = 2 * m.length := by
  intro m
  induction m with
  | nil => intro _; simp
  | cons p r ih =>
   intro h
   obtain ⟨i1, i2⟩ := ih (fun q hq => h q (List.mem_cons_of_mem _ hq))
   have hp := h p List.mem_cons_self
   simp only [List.flatMap_cons, List.map_append, List.sum_append, List.map_cons, List.map_nil, List.sum_cons, List.sum_nil, List.length_append, List.length_cons, List.length_nil] at i1 i2 ⊢
   omega
 obtain ⟨k1, k2⟩ := key m h
 have := put_length_le (m.flatMap fun p => [p.1, p.2])
 unfold keyT
 omega
theorem SmallT.names {m : TM} (h : SmallT m) : ∀ p ∈ m, p.1.length ≤ maxLen := fun p hp => Nat.le_trans (h p hp).1 (by decide)

end Go.Proofs.YtobbliglnjgbaaaGreatDoor.X

namespace Go.Proofs.YtobbliglnjgbaaaGreatDoor.X
open Go.RowKit Go.Maps Go.Proofs.YtobbliglnjgbaaaGreatDoorW.PrintWords Go.Proofs.YtobbliglnjgbaaaGreatDoorW.PrintMore

abbrev SFile := S50
def posF (L : List SFile) (n : ByteArray) : Nat := (L.takeWhile fun y => Op.bytesLess y.f0.toList n.toList).length
def foundF (L : List SFile) (n : ByteArray) : Bool := match L[posF L n]? with | some y => y.f0.toList == n.toList | none => false
theorem pos_le (L : List SFile) (n : ByteArray) : posF L n ≤ L.length := by
 unfold posF
 have := congrArg List.length (List.takeWhile_append_dropWhile (p := fun y : SFile => Op.bytesLess y.f0.toList n.toList) (l := L))
 rw [List.length_append] at this
 omega
theorem pos_step (L : List SFile) (n : ByteArray) : ∀ kk, kk ≤ posF L n → ∀ h : kk < L.length, Op.bytesLess L[kk].f0.toList n.toList = decide (kk < posF L n) := by
 unfold posF
 induction L with
 | nil => intro kk _ h; simp at h
 | cons y r ih =>
  intro kk hk h
  cases hy : Op.bytesLess y.f0.toList n.toList with
  | true =>
   rw [List.takeWhile_cons_of_pos (by simpa using hy)] at hk ⊢
   cases kk with
   | zero => simp [hy]
   | succ kk =>
    simp only [List.length_cons, List.getElem_cons_succ, Nat.add_lt_add_iff_right] at hk h ⊢
    exact ih kk (by omega) h
  | false =>
   rw [List.takeWhile_cons_of_neg (by simp [hy])] at hk ⊢
   simp only [List.length_nil, Nat.le_zero] at hk
   subst hk
   simp [hy]

set_option maxHeartbeats 4000000 in
set_option maxRecDepth 100000 in
theorem ref_at.calls (w : World) (g : Nat) (A : Option Addr) (c : Nat) (L : List SFile) (n : ByteArray) (hc : w.cell? ⟨g, 0, none⟩ = some (.slice A L.length c)) (hr : Kd.C k50 w A L.length L) :
 Calls Tryz.prog 56 #[.pointer (some ⟨g, 0, none⟩), .string n] w fun e w' => e = .returned (.tuple #[.int .i64 (posF L n), .bool (foundF L n)]) ∧ Drawn0 w w' := by
 have hlen : L.length ≤ 9223372036854775807 := hr.2.1
 have HR := Lib.hid hr
 have HC := Lib.hid hc
 have hpl := pos_le L n
 clear hr hc
 go_enter Tryz.func56, Tryz.ntmps56
 go_wp2_with fail
 go_loopg [6] L.length (fun gg s6 wr => ∃ kk : Nat, kk ≤ posF L n ∧ L.length - kk ≤ gg ∧ s6 = .int .i64 kk ∧ wr = w)
 case atStart => exact ⟨0, Nat.zero_le _, by omega, rfl, rfl⟩
 case round =>
  obtain ⟨kk, hkk, hgk, rfl, rfl⟩ := hrel
  have hc := HC.out
  by_cases hlt : kk < L.length
  · have hltz : (kk : Int) < (L.length : Int) := by omega
    obtain ⟨ad, rfl, hx0, hx1⟩ := at_T50 HR.out (kk : Int) (by omega) hltz
    simp only [Int.toNat_natCast] at hx0 hx1
    have hst := pos_step L n kk hkk hlt
    obtain ⟨y, hy⟩ : ∃ y, y = rd_T50 L (kk : Int) := ⟨_, rfl⟩
    rw [← hy] at hx0 hx1
    have hym : y = L[kk] := by rw [hy]; unfold rd_T50; simp [List.getD_eq_getElem?_getD, List.getElem?_eq_getElem hlt]
    rw [← hym] at hst
    have HY := Lib.hid hym
    clear hy hym
    by_cases hk2 : kk < posF L n
    · have hd : Op.bytesLess y.f0.toList n.toList = true := by rw [hst]; simp [hk2]
      clear hst
      go_wp2
      go_roundg (L.length - (kk + 1))
      case measure => omega
      case rel => exact ⟨kk + 1, by omega, by omega, by go_num, rfl⟩
    · have hd : Op.bytesLess y.f0.toList n.toList = false := by rw [hst]; simp [hk2]
      have hkp : kk = posF L n := by omega
      have HF : Hid (foundF L n = (y.f0.toList == n.toList)) := by
       show foundF L n = (y.f0.toList == n.toList)
       unfold foundF
       rw [← hkp, List.getElem?_eq_getElem hlt, HY.out]
      have HK : Hid (posF L n = kk) := hkp.symm
      clear hst hk2 hkp hpl hkk
      go_wp2_with fail
      repeat (go_quiet (fail); try go_wp2)
      go_ret2
      exact ⟨by rw [HF.out, HK.out]; rfl, ⟨⟨_, rfl⟩⟩⟩
  · have hltz : ¬ (kk : Int) < (L.length : Int) := by omega
    have hkp : kk = posF L n := by omega
    have HF : Hid (foundF L n = false) := by
     show foundF L n = false
     unfold foundF
     rw [← hkp, List.getElem?_eq_none (by omega)]
    have hd : decide ((kk : Int) < (L.length : Int)) = false := by simp; omega
    have hd2 : decide (kk < L.length) = false := by simp; omega
    have HK : Hid (posF L n = kk) := hkp.symm
    clear hkp hpl hkk
    go_wp2_with fail
    repeat (go_quiet (fail); try go_wp2)
    go_ret2
    exact ⟨by rw [HF.out, HK.out]; rfl, ⟨⟨_, rfl⟩⟩⟩

end Go.Proofs.YtobbliglnjgbaaaGreatDoor.X

namespace Go.Proofs.YtobbliglnjgbaaaGreatDoor.X
open Go.RowKit

end Go.Proofs.YtobbliglnjgbaaaGreatDoor.X

namespace Go.Proofs.YtobbliglnjgbaaaGreatDoor.X
open Go.RowKit

def asF (p : Bytes × Bytes) : SFile := ⟨mk p.1, mk p.2⟩
def refL (m : TM) : List SFile := m.map asF
theorem less_before : ∀ x y : Bytes, Op.bytesLess x y = bytesBefore x y
 | [], [] => rfl
 | [], _ :: _ => rfl
 | _ :: _, [] => rfl
 | a :: x, b :: y => by
  rw [bytesBefore, Op.bytesLess, less_before x y]
theorem before_asymm {x y : Bytes} (h : bytesBefore x y = true) : bytesBefore y x = false := by
 cases hb : bytesBefore y x with
 | false => rfl
 | true =>
  have := WideShapes.bytes_trans _ _ _ h hb
  rw [WideAt.bytes_irrefl] at this
  cases this
theorem before_ne {x y : Bytes} (h : bytesBefore x y = true) : x ≠ y := by
 rintro rfl
 rw [WideAt.bytes_irrefl] at h
 cases h
theorem insT_mid (x : Bytes × Bytes) : ∀ (a b : TM), (∀ p ∈ a, bytesBefore x.1 p.1 = false) → (∀ p ∈ b, bytesBefore x.1 p.1 = true) → insT x (a ++ b) = a ++ x :: b
 | [], [], _, _ => rfl
 | [], y :: b, _, h => by
  show (if bytesBefore x.1 y.1 then x :: y :: b else y :: insT x b) = _
  rw [if_pos (h y List.mem_cons_self)]
  rfl
 | y :: a, b, ha, h => by
  show (if bytesBefore x.1 y.1 then x :: y :: (a ++ b) else y :: insT x (a ++ b)) = _
  rw [ha y List.mem_cons_self, if_neg (by simp), insT_mid x a b (fun p hp => ha p (List.mem_cons_of_mem _ hp)) h]
  rfl
theorem delT_none {m : TM} {k : Bytes} (h : ∀ p ∈ m, p.1 ≠ k) : delT m k = m := by
 unfold delT
 rw [List.filter_eq_self]
 intro p hp
 have := h p hp
 simpa using this
theorem delT_append (a b : TM) (k : Bytes) : delT (a ++ b) k = delT a k ++ delT b k := List.filter_append _ _
theorem mem_tw {α : Type} {f : α → Bool} {p : α} : ∀ l : List α, p ∈ l.takeWhile f → f p = true
 | [], h => by cases h
 | y :: r, h => by
  rw [List.takeWhile_cons] at h
  split at h
  · rename_i hy
    rcases List.mem_cons.1 h with rfl | h
    · exact hy
    · exact mem_tw r h
  · cases h
theorem part_T (m : TM) (hS : SortedT m) (n : ByteArray) : ∃ a b : TM, m = a ++ b ∧ a.length = posF (refL m) n ∧ (∀ p ∈ a, bytesBefore p.1 n.data.toList = true) ∧
 ((getT m n.data.toList = none ∧ foundF (refL m) n = false ∧ ∀ p ∈ b, bytesBefore n.data.toList p.1 = true) ∨
  ∃ v0 b', b = (n.data.toList, v0) :: b' ∧ getT m n.data.toList = some v0 ∧ foundF (refL m) n = true ∧ ∀ p ∈ b', bytesBefore n.data.toList p.1 = true) := by
 generalize hk : n.data.toList = k
 have hp : ∀ l : TM, (refL l).takeWhile (fun y => Op.bytesLess y.f0.toList n.toList) = refL (l.takeWhile fun p => bytesBefore p.1 k) := fun l => by
  unfold refL
  rw [List.takeWhile_map]
  congr 1
  congr 1
  funext p
  show Op.bytesLess (mk p.1).toList n.toList = _
  rw [less_before, toList_eq, toList_eq, mk_data, hk]
 refine ⟨m.takeWhile (fun p => bytesBefore p.1 k), m.dropWhile (fun p => bytesBefore p.1 k), (List.takeWhile_append_dropWhile).symm, ?_, fun p hpm => ?_, ?_⟩
 · unfold posF
   rw [hp, refL, List.length_map]
 · exact mem_tw (f := fun p : Bytes × Bytes => bytesBefore p.1 k) m hpm
 · have hpos : posF (refL m) n = (m.takeWhile fun p => bytesBefore p.1 k).length := by unfold posF; rw [hp, refL, List.length_map]
   have hsplit : m.takeWhile (fun p => bytesBefore p.1 k) ++ m.dropWhile (fun p => bytesBefore p.1 k) = m := List.takeWhile_append_dropWhile
   have ha : ∀ p ∈ m.takeWhile (fun p => bytesBefore p.1 k), bytesBefore p.1 k = true := fun p hpm => mem_tw (f := fun p : Bytes × Bytes => bytesBefore p.1 k) m hpm
   have hgt : getT m k = getT (m.dropWhile fun p => bytesBefore p.1 k) k := by
    conv => lhs; rw [← hsplit]
    generalize m.takeWhile (fun p => bytesBefore p.1 k) = a at ha
    induction a with
    | nil => rfl
    | cons q a ih =>
     rw [List.cons_append, getT_cons, if_neg (before_ne (ha q List.mem_cons_self))]
     exact ih (fun p hp => ha p (List.mem_cons_of_mem _ hp))
   have hfd : foundF (refL m) n = match m.dropWhile (fun p => bytesBefore p.1 k) with | q :: _ => q.1 == k | [] => false := by
    unfold foundF
    rw [hpos]
    unfold refL
    rw [List.getElem?_map]
    have mid : ∀ a b : TM, (a ++ b)[a.length]? = b[0]? := fun a b => by rw [List.getElem?_append_right (Nat.le_refl _), Nat.sub_self]
    have := mid (m.takeWhile fun p => bytesBefore p.1 k) (m.dropWhile fun p => bytesBefore p.1 k)
    rw [hsplit] at this
    rw [this]
    cases m.dropWhile (fun p => bytesBefore p.1 k) with
    | nil => rfl
    | cons q r =>
     show ((mk q.1).toList == n.toList) = _
     rw [toList_eq, toList_eq, mk_data, hk]
   have hSd : SortedT (m.dropWhile fun p => bytesBefore p.1 k) := by
    rw [← hsplit] at hS
    exact (List.pairwise_append.1 hS).2.1
   have hhd : ∀ q r, m.dropWhile (fun p => bytesBefore p.1 k) = q :: r → bytesBefore q.1 k = false := fun q r h => by
    have := List.head?_dropWhile_not (p := fun p : Bytes × Bytes => bytesBefore p.1 k) m
    rw [h] at this
    simpa using this
   generalize m.dropWhile (fun p => bytesBefore p.1 k) = b at hgt hfd hSd hhd ⊢
   cases b with
   | nil => exact .inl ⟨by rw [hgt]; rfl, hfd, fun p hp => by cases hp⟩
   | cons q r =>
    have hr := (List.pairwise_cons.1 hSd).1
    by_cases hq : q.1 = k
    · refine .inr ⟨q.2, r, by rw [← hq], ?_, by rw [hfd]; simp [hq], fun p hp => by rw [← hq]; exact hr p hp⟩
      rw [hgt, getT_cons, if_pos hq]
    · have hkq : bytesBefore k q.1 = true := by
       rcases WideAt.bytes_total k q.1 (Ne.symm hq) with h | h
       · exact h
       · rw [hhd q r rfl] at h; cases h
      refine .inl ⟨?_, by rw [hfd]; simp [hq], fun p hp => ?_⟩
      · rw [hgt, getT_cons, if_neg hq]
        unfold getT
        rw [Option.map_eq_none_iff, List.find?_eq_none]
        intro p hp
        have := before_ne (WideShapes.bytes_trans _ _ _ hkq (hr p hp))
        simpa using Ne.symm this
      · rcases List.mem_cons.1 hp with rfl | hp
        · exact hkq
        · exact WideShapes.bytes_trans _ _ _ hkq (hr p hp)
def writeR (L : List SFile) (n b : ByteArray) : List SFile × Int :=
 if may n.data.toList = false then (L, 1) else if 2000 < b.size ∨ foundF L n = false ∧ 60 ≤ L.length then (L, 4)
 else if foundF L n = true then (L.set (posF L n) ⟨(L.getD (posF L n) ⟨n, b⟩).f0, b⟩, 0) else (L.take (posF L n) ++ [⟨n, b⟩] ++ L.drop (posF L n), 0)
def eraseR (L : List SFile) (n : ByteArray) : List SFile × Int := if foundF L n = false then (L, 6) else (L.take (posF L n) ++ L.drop (posF L n + 1), 0)
def readR (L : List SFile) (n : ByteArray) : ByteArray × Bool := if foundF L n = false then (⟨#[]⟩, false) else ((L.getD (posF L n) ⟨n, n⟩).f1, true)
theorem refL_append (a b : TM) : refL (a ++ b) = refL a ++ refL b := List.map_append
theorem refL_len (m : TM) : (refL m).length = m.length := List.length_map _
theorem writeR_T (m : TM) (hS : SortedT m) (n b : ByteArray) : writeR (refL m) n b = (refL (writeT m n.data.toList b.data.toList).1, (writeT m n.data.toList b.data.toList).2) := by
 obtain ⟨x, y, hm, hl, hx, hy⟩ := part_T m hS n
 unfold writeR writeT
 rw [refL_len, Lib.size_eq]
 by_cases h1 : may n.data.toList = false
 · rw [if_pos h1, if_pos h1]
 rw [if_neg h1, if_neg h1]
 rcases hy with ⟨hg, hf, hy⟩ | ⟨v0, y', rfl, hg, hf, hy⟩
 · rw [hg, hf]
   simp only [true_and]
   by_cases h2 : 2000 < b.data.toList.length ∨ 60 ≤ m.length
   · rw [if_pos h2, if_pos h2]
   · rw [if_neg h2, if_neg h2, if_neg (by simp)]
     have hd : delT m n.data.toList = m := delT_none (fun p hp => by
      rw [hm] at hp
      rcases List.mem_append.1 hp with hp | hp
      · exact before_ne (hx p hp)
      · exact (before_ne (hy p hp)).symm)
     have hput : putT m n.data.toList b.data.toList = x ++ (n.data.toList, b.data.toList) :: y := by
      unfold putT
      rw [hd, hm, insT_mid _ x y (fun p hp => before_asymm (hx p hp)) hy]
     show _ = (refL (putT m n.data.toList b.data.toList), (0 : Int))
     rw [hput, ← hl, hm, refL_append, List.take_left' (by rw [refL_len]), List.drop_left' (by rw [refL_len]), refL_append]
     show (refL x ++ [⟨n, b⟩] ++ refL y, (0 : Int)) = (refL x ++ (asF (n.data.toList, b.data.toList) :: refL y), 0)
     rw [List.append_assoc]
     show (refL x ++ (⟨n, b⟩ :: refL y), (0 : Int)) = _
     unfold asF
     rw [data_mk, data_mk]
 · rw [hg, hf]
   simp only [Bool.true_eq_false, false_and, or_false, if_true, reduceCtorEq]
   by_cases h2 : 2000 < b.data.toList.length
   · rw [if_pos h2, if_pos h2]
   · rw [if_neg h2, if_neg h2]
     have hd : delT m n.data.toList = x ++ y' := by
      rw [hm, delT_append, delT_none (fun p hp => before_ne (hx p hp))]
      congr 1
      unfold delT
      rw [List.filter_cons, if_neg (by simp)]
      exact delT_none (fun p hp => (before_ne (hy p hp)).symm)
     have hput : putT m n.data.toList b.data.toList = x ++ (n.data.toList, b.data.toList) :: y' := by
      unfold putT
      rw [hd, insT_mid _ x y' (fun p hp => before_asymm (hx p hp)) hy]
     show _ = (refL (putT m n.data.toList b.data.toList), (0 : Int))
     rw [hput, ← hl, hm, refL_append, refL_append]
     have hxl : x.length = (refL x).length := (refL_len x).symm
     rw [hxl, List.set_append_right _ _ (Nat.le_refl _), Nat.sub_self, List.getD_eq_getElem?_getD, List.getElem?_append_right (Nat.le_refl _), Nat.sub_self]
     rfl
theorem eraseR_T (m : TM) (hS : SortedT m) (n : ByteArray) : eraseR (refL m) n = (refL (eraseT m n.data.toList).1, (eraseT m n.data.toList).2) := by
 obtain ⟨x, y, hm, hl, hx, hy⟩ := part_T m hS n
 unfold eraseR eraseT
 rcases hy with ⟨hg, hf, hy⟩ | ⟨v0, y', rfl, hg, hf, hy⟩
 · rw [if_pos hf, if_pos hg]
 · rw [if_neg (by rw [hf]; simp), if_neg (by rw [hg]; simp)]
   have hd : delT m n.data.toList = x ++ y' := by
    rw [hm, delT_append, delT_none (fun p hp => before_ne (hx p hp))]
    congr 1
    unfold delT
    rw [List.filter_cons, if_neg (by simp)]
    exact delT_none (fun p hp => (before_ne (hy p hp)).symm)
   show _ = (refL (delT m n.data.toList), (0 : Int))
   rw [hd, ← hl, hm, refL_append, refL_append, List.take_left' (by rw [refL_len])]
   congr 2
   rw [show x.length + 1 = (refL x).length + 1 by rw [refL_len], ← List.drop_drop, List.drop_left]
   rfl
theorem readR_T (m : TM) (hS : SortedT m) (n : ByteArray) : readR (refL m) n = (mk ((getT m n.data.toList).getD []), (getT m n.data.toList).isSome) := by
 obtain ⟨x, y, hm, hl, hx, hy⟩ := part_T m hS n
 unfold readR
 rcases hy with ⟨hg, hf, hy⟩ | ⟨v0, y', rfl, hg, hf, hy⟩
 · rw [if_pos hf, hg]
   rfl
 · rw [if_neg (by rw [hf]; simp), hg, ← hl]
   conv => lhs; rw [hm]
   rw [refL_append, show x.length = (refL x).length from (refL_len x).symm, List.getD_eq_getElem?_getD, List.getElem?_append_right (Nat.le_refl _), Nat.sub_self]
   rfl

end Go.Proofs.YtobbliglnjgbaaaGreatDoor.X

namespace Go.Proofs.YtobbliglnjgbaaaGreatDoor.X
open Go.RowKit Go.Proofs.YtobbliglnjgbaaaGreatDoorW.PrintWords Go.Proofs.YtobbliglnjgbaaaGreatDoorW.PrintMore Go.Proofs.YtobbliglnjgbaaaGreatDoor.Pb Go.Proofs.YtobbliglnjgbaaaGreatDoor.Pc

end Go.Proofs.YtobbliglnjgbaaaGreatDoor.X

namespace Go.Proofs.YtobbliglnjgbaaaGreatDoor.X
open Go.RowKit Go.Maps Go.Proofs.YtobbliglnjgbaaaGreatDoorW.PrintWords Go.Proofs.YtobbliglnjgbaaaGreatDoor.Pb Go.Proofs.YtobbliglnjgbaaaGreatDoor.Pc

theorem tree_Read.none (w : World) (k : ByteArray) : Calls Tryz.prog 30 #[.pointer none, .string k] w fun e w' => e = .returned (.tuple #[.string ⟨#[]⟩, .bool false]) ∧ Drawn0 w w' := by
 go_enter Tryz.func30, Tryz.ntmps30
 go_wp2
 go_ret2
 exact ⟨rfl, Drawn0.refl _⟩
theorem tree_Write.none (w : World) (k v : ByteArray) : Calls Tryz.prog 26 #[.pointer none, .string k, .string v] w fun e w' => e = .returned (.int .i64 7) ∧ Drawn0 w w' := by
 go_enter Tryz.func26, Tryz.ntmps26
 go_wp2
 go_ret
 exact ⟨rfl, Drawn0.refl _⟩
theorem tree_Erase.none (w : World) (k : ByteArray) : Calls Tryz.prog 35 #[.pointer none, .string k] w fun e w' => e = .returned (.int .i64 7) ∧ Drawn0 w w' := by
 go_enter Tryz.func35, Tryz.ntmps35
 go_wp2
 go_ret
 exact ⟨rfl, Drawn0.refl _⟩
theorem tree_Names.none (w : World) : Calls Tryz.prog 41 #[.pointer none] w fun e w' => e = .returned (.slice none 0 0) ∧ Drawn0 w w' := by
 go_enter Tryz.func41, Tryz.ntmps41
 go_wp2
 go_ret
 exact ⟨rfl, Drawn0.refl _⟩
theorem tree_Clone.none (w : World) : Calls Tryz.prog 37 #[.pointer none] w fun e w' => e = .returned (.pointer none) ∧ Drawn0 w w' := by
 go_enter Tryz.func37, Tryz.ntmps37
 go_wp2
 go_ret
 exact ⟨rfl, Drawn0.refl _⟩
theorem C_none {α : Type} (d : Kd α) (w : World) : d.C w none 0 ([] : List α) := ⟨rfl, by decide, fun h => absurd h (by decide)⟩
theorem tree_Key.none (w : World) (hG : GOK w) : Calls Tryz.prog 29 #[.pointer none] w fun e w' => e = .returned (.string ⟨#[]⟩) ∧ Below w.heap.size w w' := by
 have HG := Lib.hid hG
 clear hG
 go_enter Tryz.func29, Tryz.ntmps29
 go_wp2_with fail
 refine (tree_Names.none w).mono ?_
 rintro e w1 ⟨rfl, hd1⟩
 have HB1 := Lib.hid hd1.below
 clear hd1
 go_wp2_with fail
 go_loopg [3, 5, 9] 0 (fun gg s3 _ s9 wr => s3 = .slice Option.none 0 0 ∧ s9 = .int .i64 0 ∧ Aside0 (Below w.heap.size w wr))
 case atStart => exact ⟨rfl, rfl, ⟨HB1.out⟩⟩
 case round =>
  obtain ⟨rfl, rfl, HW⟩ := hrel
  go_wp2_with fail
  refine (mint_Put.calls Option.none 0 [] ⟨#[]⟩ _ (HG.out.below HW.out) (C_none Kd.string _) (by simp) (by kernel_rfl)).mono ?_
  rintro e w2 ⟨rfl, hb2⟩
  go_wp2
  go_ret
  exact ⟨rfl, below_then HW.out HW.out.size hb2⟩

end Go.Proofs.YtobbliglnjgbaaaGreatDoor.X

namespace Go.Proofs.YtobbliglnjgbaaaGreatDoor.X
open Go.RowKit Go.Maps Go.Proofs.YtobbliglnjgbaaaGreatDoorW.PrintWords Go.Proofs.YtobbliglnjgbaaaGreatDoorW.PrintMore Go.Proofs.YtobbliglnjgbaaaGreatDoor.Pb Go.Proofs.YtobbliglnjgbaaaGreatDoor.Pc
set_option linter.unusedSimpArgs false

abbrev RF (w : World) (base : Nat) (v : Value) (l : List S50) : Prop := Kd.R k50 50 w base (fun _ => True) v l
section
variable {P : Program} {ops : Array Oper} {o : Oper} {a : Act} {Kc : Act → World → Prop} {Q : Exit → Act → World → Prop} {W : World}
theorem appF_step (hw : Region.wanted o (yielded ops a.tmps) = true) (s x : Operand)
 (ho : o.op = .call { callee := .builtin .append, args := #[s, x], argTypes := #[46, 46] })
 (ht : P.underlying 46 = some (.slice 50)) (hinfo : (P.info? 50).map (fun i => (i.zero, i.size, i.bytes)) = some (some (.agg #[.string ⟨#[]⟩, .string ⟨#[]⟩]), 2, 32))
 {base : Nat} {v : Value} {xs : List S50} (hs : a.eval s = v) (HO : RF W base v xs) (hbase : base ≤ W.heap.size)
 (l : List S50) (A : Option Addr) (c : Nat) (hx : a.eval x = .slice A l.length c) (HR : Kd.C k50 W A l.length l) (hl : (xs.length + l.length) * 32 ≤ 140737488355328)
 (h : ∀ X d w1, RF w1 base (.slice X (xs ++ l).length d) (xs ++ l) → Below base W w1 → W.grownBy w1 v.ownBlock → (xs ++ l).length ≤ d → Kc (a.put o.dst (.slice X (xs ++ l).length d)) w1) :
 if Region.wanted o (yielded ops a.tmps) = true then Oper.wp P o a W Kc Q else Kc (a.put o.dst undef) W := by
 refine Kd.R_append_rows_step k50 (w0 := W) base hw s x 46 50 (.agg #[.string ⟨#[]⟩, .string ⟨#[]⟩]) 32 ho ht hinfo rfl (by decide) (by decide) v xs l A l.length c (fun _ => True) (fun k_ => True ∧ some k_ ≠ v.ownBlock) hs hx HO HR (fun _ _ h => h) (fun _ hk => hk) (fun _ _ => trivial) (Below.refl _ _) hbase hl ?_
 intro v1 w1 ho1 hb1 hg1 _
 obtain ⟨X, d, rfl, hd, _⟩ := Kd.R_reads ho1
 exact h X d w1 ho1 hb1 hg1 hd
end
theorem IsTree.row {w w1 : World} {g b : Nat} {m : TM} {base : Nat} {v : Value} {l : List S50} (h : IsTree w g b m) (hO : RF w base v l) (hg : w.grownBy w1 v.ownBlock) : IsTree w1 g b m := by
 refine h.kept (hg.block g h.lt.1 (Kd.R_ne hO h.cell (by decide))) (hg.block b h.lt.2 (fun e => ?_))
 obtain ⟨cells, hc⟩ := Kd.R_typed hO b e.symm
 obtain ⟨es, clock, hb, _⟩ := h.map
 rw [hc] at hb
 cases hb
noncomputable def shipwrightlaw1_TreeKey.f (l : List S50) (_turn _kind : Int) (name bs : ByteArray) : Option Bool :=
 open Classical in if (∀ y ∈ l, y.f0.size ≤ maxLen ∧ y.f1.size ≤ maxLen) ∧ name.size ≤ maxLen ∧ bs.size ≤ maxLen then some true else none
end Go.Proofs.YtobbliglnjgbaaaGreatDoor.X

namespace Go.Proofs.YtobbliglnjgbaaaGreatDoor.X
open Go.RowKit Go.Maps Go.Proofs.YtobbliglnjgbaaaGreatDoorW.PrintWords Go.Proofs.YtobbliglnjgbaaaGreatDoorW.PrintMore Go.Proofs.YtobbliglnjgbaaaGreatDoorW.PrintLast

section
variable {P : Program} {ops : Array Oper} {Q : Exit → Act → World → Prop} {S : World → Prop} {md : Region.Mode} {ds : List Nat}
end
def upX (n k : Nat) (s : List Nat) : Array Bool := (Array.range n).map fun i => decide (i < k) && !s.contains i
section
variable {P : Program} {ops : Array Oper} {Q : Exit → Act → World → Prop} {S : World → Prop} {md : Region.Mode} {ds : List Nat} {s : List Nat}
theorem nextX {n k : Nat} {oi : Oper} {v : Value} {fuel : Nat} {a : Act} {w : World} (hi : ops[k]? = some oi) (hc : takeB md ops ds (upX n k s) (upX n (k + 1) s) k = true)
 (hQ : ∀ c a w, Q (.panic c) (a.put oi.dst v) w → Q (.panic c) a w) (hy : YieldsIf P ops S oi v a) (hS : S w) {a' : Act} (ha : a.put oi.dst v = a')
 (h : wpAnyLast P md ops Q S ds fuel (upX n (k + 1) s) a' w) : wpAnyLast P md ops Q S ds (fuel + 1) (upX n k s) a w := take_ _ hi rfl hc hQ hy hS ha h
theorem skipX {n k fuel : Nat} {a : Act} {w : World} (hc : (upX n k s == upX n (k + 1) s) = true) (h : wpAnyLast P md ops Q S ds fuel (upX n (k + 1) s) a w) : wpAnyLast P md ops Q S ds fuel (upX n k s) a w := by
 rw [beq_iff_eq] at hc
 rw [hc]
 exact h
end

end Go.Proofs.YtobbliglnjgbaaaGreatDoor.X
