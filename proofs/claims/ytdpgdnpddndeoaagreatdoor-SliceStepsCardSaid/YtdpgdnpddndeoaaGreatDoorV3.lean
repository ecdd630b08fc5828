/-
  What the cards lean on (part V3): contracts of functions, by hand, and plain laws; what is printed by the kit's print for this seat is among them. What is not reached is left out.
-/
import Derived.Test.YtdpgdnpddndeoaaGreatDoorProg
import Derived.Below
import Derived.Deep.Draws
import Derived.Deep.AppendLies
import Derived.Maps.AppendAt
import Derived.OwnWalk
import Derived.Laws.BytesArg
import Derived.Laws.MakeOwn
import Derived.Laws.OwnMore
import Derived.Deep.OwnRows
import Derived.Tactics
import Derived.Lib.ConvBytes
import Derived.Laws.Slices
import Derived.WalkKit
import Derived.KernelRfl
import Derived.RowKit3
import Derived.Deep.LoopGhost
import Derived.Deep.QuietTactic
import Derived.BigQuiet
import Derived.WideLaws
import Derived.Deep.DeepCutAuto
import Derived.Deep.CutBlock
import Derived.Deep.RegionHeld3
import Derived.Laws.Rows
import Derived.Lib.AppendStr
import Derived.ArgAppend
import Derived.Laws.IdiomCopy
import Derived.OrdersHeld
import Derived.Laws.BitsLemmas
import Derived.RowKit
import Derived.Shelf.Small.Strs
import Derived.Ground.NamesProg
import Derived.Test.YtdpgdnpddndeoaaGreatDoorV2
import Derived.Test.YtdpgdnpddndeoaaGreatDoorV1
import Derived.Test.YtdpgdnpddndeoaaGreatDoorV0
set_option maxHeartbeats 8000000
set_option maxRecDepth 100000
set_option linter.unusedSimpArgs false
set_option linter.unusedVariables false
open Go.World renaming block_lt_of_cell? -> zpu
open Nat renaming le_refl -> zpx
open List renaming length_take -> zpI, length_drop -> zpR, map_toArray -> zpW, map_cons -> zpX, map_nil -> zpY
open Option renaming bind_eq_some_iff -> zpJ, bind_some -> zqr
open Option.some renaming injEq -> zqs
open Bool renaming eq_false_iff -> zqt
open Go.Proofs.Tryz renaming prog -> zp5
open ByteArray renaming empty -> zqa
open Go.Proofs.YtdpgdnpddndeoaaGreatDoorW.PrintWords.Kd renaming string -> zqb, R_below -> zqu, R_alloc -> zqv
namespace Go.Proofs
namespace YtdpgdnpddndeoaaGreatDoor.Pc
open Go.RowKit YtdpgdnpddndeoaaGreatDoorW.PrintWords YtdpgdnpddndeoaaGreatDoorW.PrintLast YtdpgdnpddndeoaaGreatDoorW.PrintMore
open YtdpgdnpddndeoaaGreatDoor.X YtdpgdnpddndeoaaGreatDoor.Pb
attribute [local go_sem] zdr zdw zdx zdE zdl zdC zdm zdD   -- for this text's walks alone
def errW : Option Int -> Value
 | none => .nilIface
 | some c => .iface 0 (.int .i64 c)
theorem zbm : errW none = .nilIface := rfl
theorem zbp (c : Int) : errW (some c) = .iface 0 (.int .i64 c) := rfl
-- the values' own types
attribute [local go_sem] zdr zdw zdx zdE zdl zdC zdm zdD   -- for this text's walks alone
theorem zmO (a : Array UInt8) : (ByteArray.mk a).size = a.size := rfl
-- EXT: function 102 (path_May)
-- EXT: function 135 (path_Parts)
-- EXT: function 187 (path_Join)
mutual
def path_Norm.l0 : Nat -> List ByteArray -> List ByteArray -> Int -> Int -> Option (ByteArray × Bool)
 | 0, _, _, _, _ => none
 | k + 1, x4, x8, x9, x10 => if x10 < x9 then (if 0 <= x10 then (if x10 < (x8.length : Int) then (if (rdOf zqa x8 x10).toList = ([] : List UInt8) then (path_Norm.j1 k x4 (rdOf zqa x8 x10) x8 x9 x10 true) else (path_Norm.j1 k x4 (rdOf zqa x8 x10) x8 x9 x10 ((rdOf zqa x8 x10).toList == ([46] : List UInt8)))) else (none)) else (none)) else ((path_Join.f x4).bind fun t111 => ((path_May.f t111).bind fun t112 => (if t112 = true then (some (t111, true)) else (some ((⟨#[]⟩ : ByteArray), false)))))
def path_Norm.j1 : Nat -> List ByteArray -> ByteArray -> List ByteArray -> Int -> Int -> Bool -> Option (ByteArray × Bool)
 | 0, _, _, _, _, _, _ => none
 | k + 1, x4, x6, x8, x9, x10, x19 => if x19 = true then (path_Norm.l0 k x4 x8 x9 (wrap64 (x10 + 1))) else (if x6.toList = ([46, 46] : List UInt8) then (if (x4.length : Int) = 0 then (some ((⟨#[]⟩ : ByteArray), false)) else (if 0 <= (wrap64 ((x4.length : Int) - 1)) then (if (wrap64 ((x4.length : Int) - 1)) <= (x4.length : Int) then (path_Norm.l0 k (x4.take ((wrap64 ((x4.length : Int) - 1)) : Int).toNat) x8 x9 (wrap64 (x10 + 1))) else (none)) else (none))) else (if x4.length < 8796093022208 then (path_Norm.l0 k (x4 ++ [x6]) x8 x9 (wrap64 (x10 + 1))) else (none)))
end
def path_Norm.f (k : Nat) (a0 : ByteArray) : Option (ByteArray × Bool) := (path_Parts.f a0).bind fun t101 => (path_Norm.l0 k ([] : List ByteArray) t101 (t101.length : Int) 0)
theorem path_Norm.mono_l : ∀ k, (∀ y0 y1 y2 y3, LeO (path_Norm.l0 k y0 y1 y2 y3) (path_Norm.l0 (k + 1) y0 y1 y2 y3)) /\ (∀ y0 y1 y2 y3 y4 y5, LeO (path_Norm.j1 k y0 y1 y2 y3 y4 y5) (path_Norm.j1 (k + 1) y0 y1 y2 y3 y4 y5))
 | 0 => ⟨fun _ _ _ _ r h => by simp [path_Norm.l0] at h, fun _ _ _ _ _ _ r h => by simp [path_Norm.j1] at h⟩
 | k + 1 => by
  obtain ⟨ih0, ih1⟩ := path_Norm.mono_l k; refine ⟨?_, ?_⟩
  . intro y0 y1 y2 y3
    unfold path_Norm.l0; repeat' first
    | (with_reducible exact ih0 _ _ _ _)
    | (with_reducible exact ih1 _ _ _ _ _ _)
    | (with_reducible exact LeO.refl _)
    | (with_reducible exact LeO.none _)
    | (with_reducible refine LeO.ite ?_ ?_)
    | (with_reducible refine LeO.bind ?_ (fun _ => ?_))
    | exact ih0 _ _ _ _
    | exact ih1 _ _ _ _ _ _
    | exact LeO.none _
    | refine LeO.ite ?_ ?_
    | refine LeO.bind ?_ (fun _ => ?_)
  . intro y0 y1 y2 y3 y4 y5
    unfold path_Norm.j1; repeat' first
    | (with_reducible exact ih0 _ _ _ _)
    | (with_reducible exact ih1 _ _ _ _ _ _)
    | (with_reducible exact LeO.refl _)
    | (with_reducible exact LeO.none _)
    | (with_reducible refine LeO.ite ?_ ?_)
    | (with_reducible refine LeO.bind ?_ (fun _ => ?_))
    | exact ih0 _ _ _ _
    | exact ih1 _ _ _ _ _ _
    | exact LeO.none _
    | refine LeO.ite ?_ ?_
    | refine LeO.bind ?_ (fun _ => ?_)
theorem path_Norm.mono : ∀ a0 k, LeO (path_Norm.f k a0) (path_Norm.f (k + 1) a0) := by
 intro a0 k; obtain ⟨ih0, ih1⟩ := path_Norm.mono_l k; unfold path_Norm.f; repeat' first
  | (with_reducible exact ih0 _ _ _ _)
  | (with_reducible exact ih1 _ _ _ _ _ _)
  | (with_reducible exact LeO.refl _)
  | (with_reducible exact LeO.none _)
  | (with_reducible refine LeO.ite ?_ ?_)
  | (with_reducible refine LeO.bind ?_ (fun _ => ?_))
  | exact ih0 _ _ _ _
  | exact ih1 _ _ _ _ _ _
  | exact LeO.none _
  | refine LeO.ite ?_ ?_
  | refine LeO.bind ?_ (fun _ => ?_)
theorem path_Norm.calls (k : Nat) (a0 : ByteArray) (r1 : ByteArray) (r2 : Bool) (w : World) (hG : GOK w) (h : path_Norm.f k a0 = some (r1, r2)) :
 Calls zp5 184 #[.string a0] w fun e w' => e = .returned (.tuple #[.string r1, .bool r2]) /\ Below w.heap.size w w' := by
 have HB := Aside0.mk (Below.refl w.heap.size w); have HG := Aside0.mk hG; clear hG; have H : ((path_Parts.f a0).bind fun t101 => (path_Norm.l0 k ([] : List ByteArray) t101 (t101.length : Int) 0)) = some (r1, r2) := h
 clear h; replace H := zpJ.mp H
 obtain ⟨t101, A20, H⟩ := H; replace H : (path_Norm.l0 k ([] : List ByteArray) t101 (t101.length : Int) 0) = some (r1, r2) := H
 have A2 := Aside0.mk A20; clear A20; have H' := Aside0.mk H; clear H; go_enter Tryz.func184, Tryz.ntmps184
 go_wp2_with (first | ((with_reducible refine zbU (f := 135) rfl ?_); refine zbS (some 8) rfl rfl Tryz.func135 (by kernel_rfl) rfl #[.string a0] rfl (by (try simp only [zpW, zpX, zpY]); first | done | rfl | (simp only [zpR, zpI]; rfl)) ?_; (with_reducible refine (path_Parts.calls a0 t101 _ ?side99 A2.out).mono ?_); (case side99 => exact GOK.below HG.out (by repeat (first | (with_reducible first | exact HB.out | apply zas | apply zaq | apply zat) | exact HB.out))); rintro e w3 ⟨v102, rfl, ho0, hb⟩; refine ⟨_, rfl, ?_⟩; have n0_ := Aside0.mk (Kd.R_lower ho0 (zcv (by repeat (first | (with_reducible first | exact HB.out | apply zas | apply zaq | apply zat) | exact HB.out)))); have n1_ := Aside0.mk (zbL (by repeat (first | (with_reducible first | exact HB.out | apply zas | apply zaq | apply zat) | exact HB.out)) hb); clear HB; have HO103 := n0_; have HB := n1_; clear n0_ n1_; (try clear hb); (try clear hb2); (try clear hk); (try clear hi); (try clear ho0); obtain ⟨Ao4, co4, eo4⟩ := Kd.R_slice HO103.out; subst eo4))
 go_loopg [4, 10] k (fun kq v4 v10 w' => ∃ (x4_1 : List ByteArray) (x10_1 : Int), v10 = .int .i64 x10_1 /\ Aside0 (path_Norm.l0 kq x4_1 t101 (t101.length : Int) x10_1 = some (r1, r2)) /\ Aside0 (kq <= k) /\ Aside0 (Kd.R zqb 9 w' w.heap.size (fun k_ => some k_ ≠ ((.slice Ao4 t101.length co4) : Value).ownBlock) v4 x4_1) /\ Aside0 (Kd.R zqb 9 w' w.heap.size (fun k_ => some k_ ≠ (v4 : Value).ownBlock) (.slice Ao4 t101.length co4) t101) /\ Aside0 (Below w.heap.size w w'))
 case atStart => exact ⟨(([] : List ByteArray)), (0), (by first | rfl | (simp; done) | (simp [*]; done) | (simp [bne]; done) | (simp [*, bne]; done)), H', ⟨zpx _⟩, ⟨by first | exact Kd.R_nil _ _ _ _ _ | exact Kd.N_nil _ _ _ _ _ | exact Kd.V_nil _ _ _ _ _ | exact Kd.Q_nil _ _ _ _ _ | exact Kd.S_nil _ _ _ _ _⟩, ⟨by (with_reducible repeat (first | apply zqv | apply Kd.R_drewN | apply Kd.R_drew)); exact Kd.R_mono HO103.out (fun _ hk => (by simp [Value.ownBlock]))⟩, ⟨by repeat (first | (with_reducible first | exact HB.out | apply zas | apply zaq | apply zat) | exact HB.out)⟩⟩
 case round =>
  clear H'; try clear c1
  try clear p2
  obtain ⟨x4_1, x10_1, rfl, HA, HK1, HO_4, HO_8, HB⟩ := hrel; cases gk with
  | zero => exact absurd HA.out (by simp [path_Norm.l0])
  | succ k1 =>
   have H := HA.out; clear HA; simp only [path_Norm.l0] at H; by_cases c5 : x10_1 < (t101.length : Int)
   . rw [if_pos c5] at H
     have c5b0 : decide (x10_1 < (t101.length : Int)) = true := decide_eq_true c5; clear c5; by_cases c6 : 0 <= x10_1
     . rw [if_pos c6] at H
       have c6b0 : decide (0 <= x10_1) = true := decide_eq_true c6; clear c6; by_cases c7 : x10_1 < (t101.length : Int)
       . rw [if_pos c7] at H
         have c7b0 : decide (x10_1 < (t101.length : Int)) = true := decide_eq_true c7; clear c7; have HC8 := Aside0.mk H; clear H; have p104 : 0 <= (x10_1 : Int) := of_decide_eq_true (by first | (with_reducible assumption) | assumption)
         have q104 : x10_1 < (t101.length : Int) := of_decide_eq_true (by first | (with_reducible assumption) | assumption)
         obtain ⟨ad104, e104, hx104_0⟩ := Kd.at_string (Kd.R_reads' HO_8.out).2.2 x10_1 p104 q104; cases e104
         replace p104 := eq_true p104
         replace q104 := eq_true q104
         go_upto_region 6 with (fail)
         go_cut [19] (fun v19 wc => ∃ (kq : Nat) (x19_7 : Bool), v19 = .bool x19_7 /\ Aside0 (path_Norm.j1 kq x4_1 (rdOf zqa t101 x10_1) t101 (t101.length : Int) x10_1 x19_7 = some (r1, r2)) /\ Aside0 (kq <= k1) /\ Aside0 (Kd.R zqb 9 wc w.heap.size (fun k_ => some k_ ≠ ((.slice (some ad104) t101.length co4) : Value).ownBlock) u4 x4_1) /\ Aside0 (Kd.R zqb 9 wc w.heap.size (fun k_ => some k_ ≠ (u4 : Value).ownBlock) (.slice (some ad104) t101.length co4) t101) /\ Aside0 (Below w.heap.size w wc))
         case first =>
          have H := HC8.out; clear HC8; by_cases c9 : (rdOf zqa t101 x10_1).toList = ([] : List UInt8)
          . rw [if_pos c9] at H
            have c9b0 : ((rdOf zqa t101 x10_1).toList == ([] : List UInt8)) = true := beq_iff_eq.mpr c9; have c9b1 : ((rdOf zqa t101 x10_1).toList != ([] : List UInt8)) = false := bne_eq_false_iff_eq.mpr c9; clear c9
            (first | rw [c9b0] | (simp only [zaf, zag]; rw [c9b0]) | skip)
            have H' := Aside0.mk H; clear H; go_wp2; go_meet
            case rel => exact ⟨_, (true), (by first | rfl | (simp; done) | (simp [*]; done) | (simp [bne]; done) | (simp [*, bne]; done)), H', ⟨by have := HK1.out; first | omega | exact zpx _⟩, ⟨by (with_reducible repeat (first | apply zqv | apply Kd.R_drewN | apply Kd.R_drew)); first | exact HO_4.out | (set_option smartUnfolding false in exact HO_4.out)⟩, ⟨by (with_reducible repeat (first | apply zqv | apply Kd.R_drewN | apply Kd.R_drew)); first | exact HO_8.out | (set_option smartUnfolding false in exact HO_8.out)⟩, ⟨by repeat (first | (with_reducible first | exact HB.out | apply zas | apply zaq | apply zat) | exact HB.out)⟩⟩
          . rw [if_neg c9] at H
            have c9b0 : ((rdOf zqa t101 x10_1).toList == ([] : List UInt8)) = false := beq_eq_false_iff_ne.mpr c9; have c9b1 : ((rdOf zqa t101 x10_1).toList != ([] : List UInt8)) = true := bne_iff_ne.mpr c9
            (first | rw [c9b0] | (simp only [zaf, zag]; rw [c9b0]) | skip)
            have H' := Aside0.mk H; clear H; go_wp2; go_meet
            case rel => exact ⟨_, (((rdOf zqa t101 x10_1).toList == ([46] : List UInt8))), (by first | rfl | (simp; done) | (simp [*]; done) | (simp [bne]; done) | (simp [*, bne]; done)), H', ⟨by have := HK1.out; first | omega | exact zpx _⟩, ⟨by (with_reducible repeat (first | apply zqv | apply Kd.R_drewN | apply Kd.R_drew)); first | exact HO_4.out | (set_option smartUnfolding false in exact HO_4.out)⟩, ⟨by (with_reducible repeat (first | apply zqv | apply Kd.R_drewN | apply Kd.R_drew)); first | exact HO_8.out | (set_option smartUnfolding false in exact HO_8.out)⟩, ⟨by repeat (first | (with_reducible first | exact HB.out | apply zas | apply zaq | apply zat) | exact HB.out)⟩⟩
         case rest =>
          clear HC8; try clear c1
          try clear p1
          try clear q1
          try clear hx1
          try clear p2
          try clear c5
          try clear c5b0
          try clear c6
          try clear c6b0
          try clear c7
          try clear c7b0
          try clear c9
          try clear c9b0
          try clear c9b1
          try clear hx104_0
          try clear p104
          try clear p2
          try clear q104
          obtain ⟨kq, x19_7, rfl, HA, HJ7, HO_4, HO_8, HB⟩ := hcut; cases kq with
          | zero => exact absurd HA.out (by simp [path_Norm.j1])
          | succ kj7 =>
           have H := HA.out; clear HA; simp only [path_Norm.j1] at H; by_cases c10 : x19_7 = true
           . subst c10
             have H1 : (path_Norm.l0 kj7 x4_1 t101 (t101.length : Int) (wrap64 (x10_1 + 1))) = some (r1, r2) := by rw [if_pos rfl] at H; exact H
             clear H; have H := H1; clear H1; have H' := Aside0.mk H; clear H; go_wp2; go_roundg kj7
             case measure => have := HK1.out; have := HJ7.out; omega
             case rel => exact ⟨(x4_1), (wrap64 (x10_1 + 1)), (by first | rfl | (simp; done) | (simp [*]; done) | (simp [bne]; done) | (simp [*, bne]; done)), H', ⟨by have := HK1.out; have := HJ7.out; omega⟩, ⟨by (with_reducible repeat (first | apply zqv | apply Kd.R_drewN | apply Kd.R_drew)); first | exact HO_4.out | (set_option smartUnfolding false in exact HO_4.out)⟩, ⟨by (with_reducible repeat (first | apply zqv | apply Kd.R_drewN | apply Kd.R_drew)); first | exact HO_8.out | (set_option smartUnfolding false in exact HO_8.out)⟩, ⟨by repeat (first | (with_reducible first | exact HB.out | apply zas | apply zaq | apply zat) | exact HB.out)⟩⟩
           . replace c10 := zqt.mpr c10
             subst c10; have H1 : (if (rdOf zqa t101 x10_1).toList = ([46, 46] : List UInt8) then (if (x4_1.length : Int) = 0 then (some ((⟨#[]⟩ : ByteArray), false)) else (if 0 <= (wrap64 ((x4_1.length : Int) - 1)) then (if (wrap64 ((x4_1.length : Int) - 1)) <= (x4_1.length : Int) then (path_Norm.l0 kj7 (x4_1.take ((wrap64 ((x4_1.length : Int) - 1)) : Int).toNat) t101 (t101.length : Int) (wrap64 (x10_1 + 1))) else (none)) else (none))) else (if x4_1.length < 8796093022208 then (path_Norm.l0 kj7 (x4_1 ++ [(rdOf zqa t101 x10_1)]) t101 (t101.length : Int) (wrap64 (x10_1 + 1))) else (none))) = some (r1, r2) := by rw [if_neg (show ¬ (false = true) by decide)] at H; exact H
             clear H; have H := H1; clear H1; by_cases c11 : (rdOf zqa t101 x10_1).toList = ([46, 46] : List UInt8)
             . rw [if_pos c11] at H
               have c11b0 : ((rdOf zqa t101 x10_1).toList == ([46, 46] : List UInt8)) = true := beq_iff_eq.mpr c11; have c11b1 : ((rdOf zqa t101 x10_1).toList != ([46, 46] : List UInt8)) = false := bne_eq_false_iff_eq.mpr c11; clear c11; by_cases c12 : (x4_1.length : Int) = 0
               . rw [if_pos c12] at H
                 have c12b0 : ((x4_1.length : Int) == 0) = true := beq_iff_eq.mpr c12; have c12b1 : ((x4_1.length : Int) != 0) = false := bne_eq_false_iff_eq.mpr c12; clear c12; simp only [zqs, Prod.mk.injEq] at H; obtain ⟨rfl, rfl⟩ := H; obtain ⟨Ao13, co13, eo13⟩ := Kd.R_slice HO_4.out; subst eo13; go_wp2; go_ret2
                 exact ⟨by first | rfl | (simp [zbm, zbp] <;> rfl) | (simp [*, zbm, zbp] <;> rfl), by repeat (first | (with_reducible first | exact HB.out | apply zas | apply zaq | apply zat) | exact HB.out)⟩
               . rw [if_neg c12] at H
                 have c12b0 : ((x4_1.length : Int) == 0) = false := beq_eq_false_iff_ne.mpr c12; have c12b1 : ((x4_1.length : Int) != 0) = true := bne_iff_ne.mpr c12; have c12b2 : ¬ (x4_1 = []) := fun h_ => c12 (by rw [h_]; rfl)
                 obtain ⟨ji14, hji14⟩ : ∃ j_ : Int, (wrap64 ((x4_1.length : Int) - 1)) = j_ := ⟨_, rfl⟩; replace H : (if 0 <= (ji14) then (if (ji14) <= (x4_1.length : Int) then (path_Norm.l0 kj7 (x4_1.take ((ji14) : Int).toNat) t101 (t101.length : Int) (wrap64 (x10_1 + 1))) else (none)) else (none)) = some (r1, r2) := by first | (rw [hji14] at H; exact H) | (simp only [hji14] at H |-; exact H)
                 have hji14w : (IntKind.i64.wrap ((x4_1.length : Int) - 1)) = ji14 := (zaf _).trans hji14; by_cases c15 : 0 <= (ji14)
                 . rw [if_pos c15] at H
                   have c15b0 := eq_true c15; have c15b1 : decide (0 <= (ji14)) = true := decide_eq_true c15; clear c15; by_cases c16 : (ji14) <= (x4_1.length : Int)
                   . rw [if_pos c16] at H
                     have c16b0 := eq_true c16; have c16b1 : decide ((ji14) <= (x4_1.length : Int)) = true := decide_eq_true c16; clear c16; obtain ⟨y105, hy105⟩ : ∃ y_ : List ByteArray, y_ = (x4_1.take ((ji14) : Int).toNat) := ⟨_, rfl⟩; replace H : (path_Norm.l0 kj7 y105 t101 (t101.length : Int) (wrap64 (x10_1 + 1))) = some (r1, r2) := by first | (rw [hy105]; with_reducible exact H) | (have H2_ := (zqr _ _).symm.trans H; rw [hy105]; with_reducible exact H2_) | (have H2_ := (zqr _ _).symm.trans H; with_reducible exact H2_) | with_reducible exact H | (rw [hy105]; exact H) | exact H
                     have Ny105 := Aside0.mk hy105; clear hy105; have H' := Aside0.mk H; clear H; obtain ⟨Ao17, co17, eo17⟩ := Kd.R_slice HO_4.out; subst eo17; have q18 : ((ji14) : Int) <= ((x4_1.length : Int) : Int) := of_decide_eq_true (by first | (with_reducible assumption) | assumption)
                     obtain ⟨i018, hi018, _, hsz18, _⟩ := info_parts zem; have hcut18 := zoW (P := zp5) 22 9 .i64 Tryz.underlying22 hi018 Ao17 x4_1.length co17 (ji14) (of_decide_eq_true (by first | (with_reducible assumption) | assumption)) q18 (Kd.R_reads' HO_4.out).2.1
                     have hr18 := Kd.R_take (m := ((ji14) : Int).toNat) HO_4.out (by omega)
                     have hy18 : y105.length = ((ji14) : Int).toNat := (by rw [Ny105.out, zpI]; omega)
                     rw [<- Ny105.out] at hr18; rw [<- hy18] at hr18 hcut18; clear hy18 hi018 hsz18 HO_4; have HO107 := Aside0.mk hr18; clear hr18; replace q18 := eq_true q18
                     go_wp2; go_roundg kj7
                     case measure => have := HK1.out; have := HJ7.out; omega
                     case rel => exact ⟨(y105), (wrap64 (x10_1 + 1)), (by first | rfl | (simp; done) | (simp [*]; done) | (simp [bne]; done) | (simp [*, bne]; done)), H', ⟨by have := HK1.out; have := HJ7.out; omega⟩, ⟨by (with_reducible repeat (first | apply zqv | apply Kd.R_drewN | apply Kd.R_drew)); exact HO107.out⟩, ⟨by (with_reducible repeat (first | apply zqv | apply Kd.R_drewN | apply Kd.R_drew)); first | exact HO_8.out | (set_option smartUnfolding false in exact HO_8.out)⟩, ⟨by repeat (first | (with_reducible first | exact HB.out | apply zas | apply zaq | apply zat) | exact HB.out)⟩⟩
                   . rw [if_neg c16] at H
                     exact absurd H (by simp)
                 . rw [if_neg c15] at H
                   exact absurd H (by simp)
             . rw [if_neg c11] at H
               have c11b0 : ((rdOf zqa t101 x10_1).toList == ([46, 46] : List UInt8)) = false := beq_eq_false_iff_ne.mpr c11; have c11b1 : ((rdOf zqa t101 x10_1).toList != ([46, 46] : List UInt8)) = true := bne_iff_ne.mpr c11; by_cases c19 : x4_1.length < 8796093022208
               . rw [if_pos c19] at H
                 have LMc19 := Aside0.mk c19; clear c19; obtain ⟨y108, hy108⟩ : ∃ y_ : List ByteArray, y_ = (x4_1 ++ [(rdOf zqa t101 x10_1)]) := ⟨_, rfl⟩; replace H : (path_Norm.l0 kj7 y108 t101 (t101.length : Int) (wrap64 (x10_1 + 1))) = some (r1, r2) := by first | (rw [hy108]; with_reducible exact H) | (have H2_ := (zqr _ _).symm.trans H; rw [hy108]; with_reducible exact H2_) | (have H2_ := (zqr _ _).symm.trans H; with_reducible exact H2_) | with_reducible exact H | (rw [hy108]; exact H) | exact H
                 have Ny108 := Aside0.mk hy108; clear hy108; have H' := Aside0.mk H; clear H; go_wp2_with (first | ((with_reducible refine zaG (b := .append) (xs := #[.tmp 29, .tmp 31]) rfl ?_); at_builtin; refine Kd.R_append zqb (w0 := w) w.heap.size rfl (.tmp 29) (.tmp 31) 22 9 (.string ⟨#[]⟩) 16 rfl Tryz.underlying22 zem rfl (by decide) (by omega) u4 x4_1 (rdOf zqa t101 x10_1) [.string (rdOf zqa t101 x10_1)] (fun k_ => some k_ ≠ (.slice (some ad104) t101.length co4 : Value).ownBlock) (fun _ => False) rfl rfl ?aP (fun _ hk => hk.elim) ?aF ?aO ?aB ?aS ?aL ?_; (case aP => exact rfl); (case aB => exact (by repeat (first | (with_reducible first | exact HB.out | apply zas | apply zaq | apply zat) | exact HB.out))); (case aF => exact (fun k_ hk => Kd.fresh' (Kd.R_lt (by (with_reducible repeat (first | apply zqv | apply Kd.R_drewN | apply Kd.R_drew)); exact HO_8.out)) k_ hk)); (case aO => exact (by (with_reducible repeat (first | apply zqv | apply Kd.R_drewN | apply Kd.R_drew)); exact HO_4.out)); (case aS => exact (zcv (by repeat (first | (with_reducible first | exact HB.out | apply zas | apply zaq | apply zat) | exact HB.out)))); (case aL => have := LMc19.out; omega); intro v109 w20 ho hb hg hat; rw [<- Ny108.out] at ho; have n0_ := Aside0.mk (Kd.R_after (ok := (fun _ => True)) (by (with_reducible repeat (first | apply zqv | apply Kd.R_drewN | apply Kd.R_drew)); exact Kd.R_mono HO_8.out (fun _ hk => ⟨trivial, hk⟩)) hg hat); have n1_ := Aside0.mk (hb); have n2_ := Aside0.mk (ho); clear HO_8; clear HB; clear HO_4; have HO_8 := n0_; have HB := n1_; have HO110 := n2_; clear n0_ n1_ n2_; clear ho hb hg hat))
                 go_roundg kj7
                 case measure => have := HK1.out; have := HJ7.out; omega
                 case rel => exact ⟨(y108), (wrap64 (x10_1 + 1)), (by first | rfl | (simp; done) | (simp [*]; done) | (simp [bne]; done) | (simp [*, bne]; done)), H', ⟨by have := HK1.out; have := HJ7.out; omega⟩, ⟨by (with_reducible repeat (first | apply zqv | apply Kd.R_drewN | apply Kd.R_drew)); exact HO110.out⟩, ⟨by (with_reducible repeat (first | apply zqv | apply Kd.R_drewN | apply Kd.R_drew)); exact Kd.R_mono HO_8.out (fun _ hk => hk.2)⟩, ⟨by repeat (first | (with_reducible first | exact HB.out | apply zas | apply zaq | apply zat) | exact HB.out)⟩⟩
               . rw [if_neg c19] at H
                 exact absurd H (by simp)
       . rw [if_neg c7] at H
         exact absurd H (by simp)
     . rw [if_neg c6] at H
       exact absurd H (by simp)
   . rw [if_neg c5] at H
     have c5b0 : decide (x10_1 < (t101.length : Int)) = false := decide_eq_false c5; clear c5; replace H := zpJ.mp H
     obtain ⟨t111, A210, H⟩ := H; replace H : ((path_May.f t111).bind fun t112 => (if t112 = true then (some (t111, true)) else (some ((⟨#[]⟩ : ByteArray), false)))) = some (r1, r2) := H
     have A21 := Aside0.mk A210; clear A210; replace H := zpJ.mp H
     obtain ⟨t112, A220, H⟩ := H; replace H : (if t112 = true then (some (t111, true)) else (some ((⟨#[]⟩ : ByteArray), false))) = some (r1, r2) := H
     have A22 := Aside0.mk A220; clear A220; by_cases c23 : t112 = true
     . subst c23
       have H1 : (some (t111, true)) = some (r1, r2) := by rw [if_pos rfl] at H; exact H
       clear H; have H := H1; clear H1; simp only [zqs, Prod.mk.injEq] at H; obtain ⟨rfl, rfl⟩ := H; obtain ⟨Ao24, co24, eo24⟩ := Kd.R_slice HO_4.out; subst eo24; go_wp2_with (first | ((with_reducible refine zbU (f := 187) rfl ?_); refine zbS (some 39) rfl rfl Tryz.func187 (by kernel_rfl) rfl #[.slice Ao24 x4_1.length co24] rfl (by (try simp only [zpW, zpX, zpY]); first | done | rfl | (simp only [zpR, zpI]; rfl)) ?_; (with_reducible refine (path_Join.calls _ _ x4_1 t111 _ ?side99 ?side1 ?side2 A21.out).mono ?_); (case side99 => exact GOK.below HG.out (by repeat (first | (with_reducible first | exact HB.out | apply zas | apply zaq | apply zat) | exact HB.out))); (case side1 => repeat (first | exact (Kd.R_reads' HO_4.out).2.2 | (with_reducible refine Kd.C_alloc ?_ _) | (with_reducible refine Kd.C_drewN ?_ _) | (with_reducible refine Kd.C_drew ?_))); (case side2 => exact (Kd.R_reads' HO_4.out).2.1); rintro e w25 ⟨rfl, hb⟩; refine ⟨_, rfl, ?_⟩; have n0_ := Aside0.mk (zqu (by (with_reducible repeat (first | apply zqv | apply Kd.R_drewN | apply Kd.R_drew)); exact HO_4.out) hb); have n1_ := Aside0.mk (zqu (by (with_reducible repeat (first | apply zqv | apply Kd.R_drewN | apply Kd.R_drew)); exact HO_8.out) hb); have n2_ := Aside0.mk (zbL (by repeat (first | (with_reducible first | exact HB.out | apply zas | apply zaq | apply zat) | exact HB.out)) hb); clear HO_4; clear HO_8; clear HB; have HO_4 := n0_; have HO_8 := n1_; have HB := n2_; clear n0_ n1_ n2_; (try clear hb); (try clear hb2); (try clear hk); (try clear hi)) | ((with_reducible refine zbU (f := 102) rfl ?_); refine zbS (some 41) rfl rfl Tryz.func102 (by kernel_rfl) rfl #[.string t111] rfl (by (try simp only [zpW, zpX, zpY]); first | done | rfl | (simp only [zpR, zpI]; rfl)) ?_; (with_reducible refine (path_May.calls t111 true _ ?side99 A22.out).mono ?_); (case side99 => exact GOK.below HG.out (by repeat (first | (with_reducible first | exact HB.out | apply zas | apply zaq | apply zat) | exact HB.out))); rintro e w26 ⟨rfl, hb⟩; refine ⟨_, rfl, ?_⟩; have n0_ := Aside0.mk (zqu (by (with_reducible repeat (first | apply zqv | apply Kd.R_drewN | apply Kd.R_drew)); exact HO_4.out) hb); have n1_ := Aside0.mk (zqu (by (with_reducible repeat (first | apply zqv | apply Kd.R_drewN | apply Kd.R_drew)); exact HO_8.out) hb); have n2_ := Aside0.mk (zbL (by repeat (first | (with_reducible first | exact HB.out | apply zas | apply zaq | apply zat) | exact HB.out)) hb); clear HO_4; clear HO_8; clear HB; have HO_4 := n0_; have HO_8 := n1_; have HB := n2_; clear n0_ n1_ n2_; (try clear hb); (try clear hb2); (try clear hk); (try clear hi)))
       go_ret2
       exact ⟨by first | rfl | (simp [zbm, zbp] <;> rfl) | (simp [*, zbm, zbp] <;> rfl), by repeat (first | (with_reducible first | exact HB.out | apply zas | apply zaq | apply zat) | exact HB.out)⟩
     . replace c23 := zqt.mpr c23
       subst c23; have H1 : (some ((⟨#[]⟩ : ByteArray), false)) = some (r1, r2) := by rw [if_neg (show ¬ (false = true) by decide)] at H; exact H
       clear H; have H := H1; clear H1; simp only [zqs, Prod.mk.injEq] at H; obtain ⟨rfl, rfl⟩ := H; obtain ⟨Ao27, co27, eo27⟩ := Kd.R_slice HO_4.out; subst eo27; go_wp2_with (first | ((with_reducible refine zbU (f := 187) rfl ?_); refine zbS (some 39) rfl rfl Tryz.func187 (by kernel_rfl) rfl #[.slice Ao27 x4_1.length co27] rfl (by (try simp only [zpW, zpX, zpY]); first | done | rfl | (simp only [zpR, zpI]; rfl)) ?_; (with_reducible refine (path_Join.calls _ _ x4_1 t111 _ ?side99 ?side1 ?side2 A21.out).mono ?_); (case side99 => exact GOK.below HG.out (by repeat (first | (with_reducible first | exact HB.out | apply zas | apply zaq | apply zat) | exact HB.out))); (case side1 => repeat (first | exact (Kd.R_reads' HO_4.out).2.2 | (with_reducible refine Kd.C_alloc ?_ _) | (with_reducible refine Kd.C_drewN ?_ _) | (with_reducible refine Kd.C_drew ?_))); (case side2 => exact (Kd.R_reads' HO_4.out).2.1); rintro e w28 ⟨rfl, hb⟩; refine ⟨_, rfl, ?_⟩; have n0_ := Aside0.mk (zqu (by (with_reducible repeat (first | apply zqv | apply Kd.R_drewN | apply Kd.R_drew)); exact HO_4.out) hb); have n1_ := Aside0.mk (zqu (by (with_reducible repeat (first | apply zqv | apply Kd.R_drewN | apply Kd.R_drew)); exact HO_8.out) hb); have n2_ := Aside0.mk (zbL (by repeat (first | (with_reducible first | exact HB.out | apply zas | apply zaq | apply zat) | exact HB.out)) hb); clear HO_4; clear HO_8; clear HB; have HO_4 := n0_; have HO_8 := n1_; have HB := n2_; clear n0_ n1_ n2_; (try clear hb); (try clear hb2); (try clear hk); (try clear hi)) | ((with_reducible refine zbU (f := 102) rfl ?_); refine zbS (some 41) rfl rfl Tryz.func102 (by kernel_rfl) rfl #[.string t111] rfl (by (try simp only [zpW, zpX, zpY]); first | done | rfl | (simp only [zpR, zpI]; rfl)) ?_; (with_reducible refine (path_May.calls t111 false _ ?side99 A22.out).mono ?_); (case side99 => exact GOK.below HG.out (by repeat (first | (with_reducible first | exact HB.out | apply zas | apply zaq | apply zat) | exact HB.out))); rintro e w29 ⟨rfl, hb⟩; refine ⟨_, rfl, ?_⟩; have n0_ := Aside0.mk (zqu (by (with_reducible repeat (first | apply zqv | apply Kd.R_drewN | apply Kd.R_drew)); exact HO_4.out) hb); have n1_ := Aside0.mk (zqu (by (with_reducible repeat (first | apply zqv | apply Kd.R_drewN | apply Kd.R_drew)); exact HO_8.out) hb); have n2_ := Aside0.mk (zbL (by repeat (first | (with_reducible first | exact HB.out | apply zas | apply zaq | apply zat) | exact HB.out)) hb); clear HO_4; clear HO_8; clear HB; have HO_4 := n0_; have HO_8 := n1_; have HB := n2_; clear n0_ n1_ n2_; (try clear hb); (try clear hb2); (try clear hk); (try clear hi)))
       go_ret2
       exact ⟨by first | rfl | (simp [zbm, zbp] <;> rfl) | (simp [*, zbm, zbp] <;> rfl), by repeat (first | (with_reducible first | exact HB.out | apply zas | apply zaq | apply zat) | exact HB.out)⟩
-- EXT: function 186 (mint_GetNumber)
-- EXT: function 222 (strings_Cut)
def mint_Get.l0 : Nat -> ByteArray -> List ByteArray -> Option (List ByteArray × Bool)
 | 0, _, _ => none
 | k + 1, x0, x4 => if x0.toList = ([] : List UInt8) then (some (x4, true)) else ((strings_Cut.f x0 (⟨#[58]⟩ : ByteArray)).bind fun bt113 => ((mint_GetNumber.f bt113.1 (bt113.2.1.size : Int)).bind fun bt116 => (if bt113.2.2 = true then (if bt116.2 = true then (if 0 <= bt116.1 then (if bt116.1 <= (bt113.2.1.size : Int) then (if x4.length < 8796093022208 then (mint_Get.l0 k (bt113.2.1.extract (bt116.1 : Int).toNat bt113.2.1.size) (x4 ++ [bt113.2.1.extract 0 (bt116.1 : Int).toNat])) else (none)) else (none)) else (none)) else (some (([] : List ByteArray), false))) else (some (([] : List ByteArray), false)))))
def mint_Get.f (k : Nat) (a0 : ByteArray) : Option (List ByteArray × Bool) := mint_Get.l0 k a0 ([] : List ByteArray)
theorem mint_Get.mono_l : ∀ k, (∀ y0 y1, LeO (mint_Get.l0 k y0 y1) (mint_Get.l0 (k + 1) y0 y1))
 | 0 => fun _ _ r h => by simp [mint_Get.l0] at h
 | k + 1 => by
  have ih0 := mint_Get.mono_l k
  . intro y0 y1
    unfold mint_Get.l0; repeat' first
    | (with_reducible exact ih0 _ _)
    | (with_reducible exact LeO.refl _)
    | (with_reducible exact LeO.none _)
    | (with_reducible refine LeO.ite ?_ ?_)
    | (with_reducible refine LeO.bind ?_ (fun _ => ?_))
    | exact ih0 _ _
    | exact LeO.none _
    | refine LeO.ite ?_ ?_
    | refine LeO.bind ?_ (fun _ => ?_)
theorem mint_Get.mono : ∀ a0 k, LeO (mint_Get.f k a0) (mint_Get.f (k + 1) a0) := by
 intro a0 k; have ih0 := mint_Get.mono_l k; unfold mint_Get.f; repeat' first
  | (with_reducible exact ih0 _ _)
  | (with_reducible exact LeO.refl _)
  | (with_reducible exact LeO.none _)
  | (with_reducible refine LeO.ite ?_ ?_)
  | (with_reducible refine LeO.bind ?_ (fun _ => ?_))
  | exact ih0 _ _
  | exact LeO.none _
  | refine LeO.ite ?_ ?_
  | refine LeO.bind ?_ (fun _ => ?_)
theorem mint_Get.calls (k : Nat) (a0 : ByteArray) (r1 : List ByteArray) (r2 : Bool) (w : World) (hG : GOK w) (h : mint_Get.f k a0 = some (r1, r2)) :
 Calls zp5 185 #[.string a0] w fun e w' => ∃ v0_ : Value, e = .returned (.tuple #[v0_, .bool r2]) /\ Kd.R zqb 9 w' w.heap.size (fun _ => True) v0_ r1 /\ Below w.heap.size w w' := by
 have HB := Aside0.mk (Below.refl w.heap.size w); have HG := Aside0.mk hG; clear hG; have H : (mint_Get.l0 k a0 ([] : List ByteArray)) = some (r1, r2) := h; clear h; have H' := Aside0.mk H; clear H; go_enter Tryz.func185, Tryz.ntmps185
 go_wp2; go_loopg [0, 4] k (fun kq v0 v4 w' => ∃ (x0_1 : ByteArray) (x4_1 : List ByteArray), v0 = .string x0_1 /\ Aside0 (mint_Get.l0 kq x0_1 x4_1 = some (r1, r2)) /\ Aside0 (kq <= k) /\ Aside0 (Kd.R zqb 9 w' w.heap.size (fun _ => True) v4 x4_1) /\ Aside0 (Below w.heap.size w w'))
 case atStart => exact ⟨(a0), (([] : List ByteArray)), (by first | rfl | (simp; done) | (simp [*]; done) | (simp [bne]; done) | (simp [*, bne]; done)), H', ⟨zpx _⟩, ⟨by first | exact Kd.R_nil _ _ _ _ _ | exact Kd.N_nil _ _ _ _ _ | exact Kd.V_nil _ _ _ _ _ | exact Kd.Q_nil _ _ _ _ _ | exact Kd.S_nil _ _ _ _ _⟩, ⟨by repeat (first | (with_reducible first | exact HB.out | apply zas | apply zaq | apply zat) | exact HB.out)⟩⟩
 case round =>
  clear H'; try clear c1
  obtain ⟨x0_1, x4_1, rfl, HA, HK1, HO_4, HB⟩ := hrel; cases gk with
  | zero => exact absurd HA.out (by simp [mint_Get.l0])
  | succ k1 =>
   have H := HA.out; clear HA; simp only [mint_Get.l0] at H; by_cases c2 : x0_1.toList = ([] : List UInt8)
   . rw [if_pos c2] at H
     have c2b0 : (x0_1.toList == ([] : List UInt8)) = true := beq_iff_eq.mpr c2; have c2b1 : (x0_1.toList != ([] : List UInt8)) = false := bne_eq_false_iff_eq.mpr c2; clear c2; simp only [zqs, Prod.mk.injEq] at H; obtain ⟨rfl, rfl⟩ := H; go_wp2; go_ret2
     exact ⟨_, by first | rfl | (simp [zbm, zbp] <;> rfl) | (simp [*, zbm, zbp] <;> rfl), by (with_reducible repeat (first | apply zqv | apply Kd.R_drewN | apply Kd.R_drew)); exact HO_4.out, by repeat (first | (with_reducible first | exact HB.out | apply zas | apply zaq | apply zat) | exact HB.out)⟩
   . rw [if_neg c2] at H
     have c2b0 : (x0_1.toList == ([] : List UInt8)) = false := beq_eq_false_iff_ne.mpr c2; have c2b1 : (x0_1.toList != ([] : List UInt8)) = true := bne_iff_ne.mpr c2; replace H := zpJ.mp H
     obtain ⟨⟨t113, t114, t115⟩, A30, H⟩ := H; replace H : ((mint_GetNumber.f t113 (t114.size : Int)).bind fun bt116 => (if t115 = true then (if bt116.2 = true then (if 0 <= bt116.1 then (if bt116.1 <= (t114.size : Int) then (if x4_1.length < 8796093022208 then (mint_Get.l0 k1 (t114.extract (bt116.1 : Int).toNat t114.size) (x4_1 ++ [t114.extract 0 (bt116.1 : Int).toNat])) else (none)) else (none)) else (none)) else (some (([] : List ByteArray), false))) else (some (([] : List ByteArray), false)))) = some (r1, r2) := H
     have A3 := Aside0.mk A30; clear A30; replace H := zpJ.mp H
     obtain ⟨⟨t116, t117⟩, A40, H⟩ := H; replace H : (if t115 = true then (if t117 = true then (if 0 <= t116 then (if t116 <= (t114.size : Int) then (if x4_1.length < 8796093022208 then (mint_Get.l0 k1 (t114.extract (t116 : Int).toNat t114.size) (x4_1 ++ [t114.extract 0 (t116 : Int).toNat])) else (none)) else (none)) else (none)) else (some (([] : List ByteArray), false))) else (some (([] : List ByteArray), false))) = some (r1, r2) := H
     have A4 := Aside0.mk A40; clear A40; by_cases c5 : t115 = true
     . subst c5
       have H1 : (if t117 = true then (if 0 <= t116 then (if t116 <= (t114.size : Int) then (if x4_1.length < 8796093022208 then (mint_Get.l0 k1 (t114.extract (t116 : Int).toNat t114.size) (x4_1 ++ [t114.extract 0 (t116 : Int).toNat])) else (none)) else (none)) else (none)) else (some (([] : List ByteArray), false))) = some (r1, r2) := by rw [if_pos rfl] at H; exact H
       clear H; have H := H1; clear H1; by_cases c6 : t117 = true
       . subst c6
         have H1 : (if 0 <= t116 then (if t116 <= (t114.size : Int) then (if x4_1.length < 8796093022208 then (mint_Get.l0 k1 (t114.extract (t116 : Int).toNat t114.size) (x4_1 ++ [t114.extract 0 (t116 : Int).toNat])) else (none)) else (none)) else (none)) = some (r1, r2) := by rw [if_pos rfl] at H; exact H
         clear H; have H := H1; clear H1; by_cases c7 : 0 <= t116
         . rw [if_pos c7] at H
           have c7b0 := eq_true c7; have c7b1 : decide (0 <= t116) = true := decide_eq_true c7; clear c7; by_cases c8 : t116 <= (t114.size : Int)
           . rw [if_pos c8] at H
             have c8b0 := eq_true c8; have c8b1 : decide (t116 <= (t114.size : Int)) = true := decide_eq_true c8; clear c8; by_cases c9 : x4_1.length < 8796093022208
             . rw [if_pos c9] at H
               have LMc9 := Aside0.mk c9; clear c9; obtain ⟨y118, hy118⟩ : ∃ y_ : List ByteArray, y_ = (x4_1 ++ [t114.extract 0 (t116 : Int).toNat]) := ⟨_, rfl⟩; replace H : (mint_Get.l0 k1 (t114.extract (t116 : Int).toNat t114.size) y118) = some (r1, r2) := by first | (rw [hy118]; with_reducible exact H) | (have H2_ := (zqr _ _).symm.trans H; rw [hy118]; with_reducible exact H2_) | (have H2_ := (zqr _ _).symm.trans H; with_reducible exact H2_) | with_reducible exact H | (rw [hy118]; exact H) | exact H
               have Ny118 := Aside0.mk hy118; clear hy118; have c10b0 := eq_true (of_decide_eq_true (by first | (with_reducible assumption) | assumption) : 0 <= t116)
               have c11b0 := eq_true (of_decide_eq_true (by first | (with_reducible assumption) | assumption) : t116 <= (t114.size : Int))
               have H' := Aside0.mk H; clear H; go_wp2_with (first | ((with_reducible refine zbU (f := 222) rfl ?_); refine zbS (some 14) rfl rfl Tryz.func222 (by kernel_rfl) rfl #[.string x0_1, .string (⟨#[58]⟩ : ByteArray)] rfl (by (try simp only [zpW, zpX, zpY]); first | done | rfl | (simp only [zpR, zpI]; rfl)) ?_; (with_reducible refine (strings_Cut.calls x0_1 (⟨#[58]⟩ : ByteArray) t113 t114 true _ ?side99 A3.out).mono ?_); (case side99 => exact GOK.below HG.out (by repeat (first | (with_reducible first | exact HB.out | apply zas | apply zaq | apply zat) | exact HB.out))); rintro e w12 ⟨rfl, hb⟩; refine ⟨_, rfl, ?_⟩; have n0_ := Aside0.mk (zqu (by (with_reducible repeat (first | apply zqv | apply Kd.R_drewN | apply Kd.R_drew)); exact HO_4.out) hb); have n1_ := Aside0.mk (zbL (by repeat (first | (with_reducible first | exact HB.out | apply zas | apply zaq | apply zat) | exact HB.out)) hb); clear HO_4; clear HB; have HO_4 := n0_; have HB := n1_; clear n0_ n1_; (try clear hb); (try clear hb2); (try clear hk); (try clear hi)) | ((with_reducible refine zbU (f := 186) rfl ?_); refine zbS (some 22) rfl rfl Tryz.func186 (by kernel_rfl) rfl #[.string t113, .int .i64 (t114.size : Int)] rfl (by (try simp only [zpW, zpX, zpY]); first | done | rfl | (simp only [zpR, zpI]; rfl)) ?_; (with_reducible refine (mint_GetNumber.calls t113 (t114.size : Int) t116 true _ ?side99 A4.out).mono ?_); (case side99 => exact GOK.below HG.out (by repeat (first | (with_reducible first | exact HB.out | apply zas | apply zaq | apply zat) | exact HB.out))); rintro e w13 ⟨rfl, hb⟩; refine ⟨_, rfl, ?_⟩; have n0_ := Aside0.mk (zqu (by (with_reducible repeat (first | apply zqv | apply Kd.R_drewN | apply Kd.R_drew)); exact HO_4.out) hb); have n1_ := Aside0.mk (zbL (by repeat (first | (with_reducible first | exact HB.out | apply zas | apply zaq | apply zat) | exact HB.out)) hb); clear HO_4; clear HB; have HO_4 := n0_; have HB := n1_; clear n0_ n1_; (try clear hb); (try clear hb2); (try clear hk); (try clear hi)) | ((with_reducible refine zaG (b := .append) (xs := #[.tmp 31, .tmp 35]) rfl ?_); at_builtin; refine Kd.R_append zqb (w0 := w) w.heap.size rfl (.tmp 31) (.tmp 35) 22 9 (.string ⟨#[]⟩) 16 rfl Tryz.underlying22 zem rfl (by decide) (by omega) u4 x4_1 (t114.extract 0 (t116 : Int).toNat) [.string (t114.extract 0 (t116 : Int).toNat)] (fun _ => True) (fun _ => False) rfl rfl ?aP (fun _ hk => hk.elim) ?aF ?aO ?aB ?aS ?aL ?_; (case aP => exact rfl); (case aB => exact (by repeat (first | (with_reducible first | exact HB.out | apply zas | apply zaq | apply zat) | exact HB.out))); (case aF => exact (fun _ _ => trivial)); (case aO => exact (by (with_reducible repeat (first | apply zqv | apply Kd.R_drewN | apply Kd.R_drew)); exact HO_4.out)); (case aS => exact (zcv (by repeat (first | (with_reducible first | exact HB.out | apply zas | apply zaq | apply zat) | exact HB.out)))); (case aL => have := LMc9.out; omega); intro v119 w14 ho hb hg hat; rw [<- Ny118.out] at ho; have n0_ := Aside0.mk (hb); have n1_ := Aside0.mk (ho); clear HB; clear HO_4; have HB := n0_; have HO120 := n1_; clear n0_ n1_; clear ho hb hg hat))
               go_roundg k1
               case measure => have := HK1.out; omega
               case rel => exact ⟨(t114.extract (t116 : Int).toNat t114.size), (y118), (by first | rfl | (simp; done) | (simp [*]; done) | (simp [bne]; done) | (simp [*, bne]; done)), H', ⟨by have := HK1.out; omega⟩, ⟨by (with_reducible repeat (first | apply zqv | apply Kd.R_drewN | apply Kd.R_drew)); exact HO120.out⟩, ⟨by repeat (first | (with_reducible first | exact HB.out | apply zas | apply zaq | apply zat) | exact HB.out)⟩⟩
             . rw [if_neg c9] at H
               exact absurd H (by simp)
           . rw [if_neg c8] at H
             exact absurd H (by simp)
         . rw [if_neg c7] at H
           exact absurd H (by simp)
       . replace c6 := zqt.mpr c6
         subst c6; have H1 : (some (([] : List ByteArray), false)) = some (r1, r2) := by rw [if_neg (show ¬ (false = true) by decide)] at H; exact H
         clear H; have H := H1; clear H1; simp only [zqs, Prod.mk.injEq] at H; obtain ⟨rfl, rfl⟩ := H; go_wp2_with (first | ((with_reducible refine zbU (f := 222) rfl ?_); refine zbS (some 14) rfl rfl Tryz.func222 (by kernel_rfl) rfl #[.string x0_1, .string (⟨#[58]⟩ : ByteArray)] rfl (by (try simp only [zpW, zpX, zpY]); first | done | rfl | (simp only [zpR, zpI]; rfl)) ?_; (with_reducible refine (strings_Cut.calls x0_1 (⟨#[58]⟩ : ByteArray) t113 t114 true _ ?side99 A3.out).mono ?_); (case side99 => exact GOK.below HG.out (by repeat (first | (with_reducible first | exact HB.out | apply zas | apply zaq | apply zat) | exact HB.out))); rintro e w15 ⟨rfl, hb⟩; refine ⟨_, rfl, ?_⟩; have n0_ := Aside0.mk (zqu (by (with_reducible repeat (first | apply zqv | apply Kd.R_drewN | apply Kd.R_drew)); exact HO_4.out) hb); have n1_ := Aside0.mk (zbL (by repeat (first | (with_reducible first | exact HB.out | apply zas | apply zaq | apply zat) | exact HB.out)) hb); clear HO_4; clear HB; have HO_4 := n0_; have HB := n1_; clear n0_ n1_; (try clear hb); (try clear hb2); (try clear hk); (try clear hi)) | ((with_reducible refine zbU (f := 186) rfl ?_); refine zbS (some 22) rfl rfl Tryz.func186 (by kernel_rfl) rfl #[.string t113, .int .i64 (t114.size : Int)] rfl (by (try simp only [zpW, zpX, zpY]); first | done | rfl | (simp only [zpR, zpI]; rfl)) ?_; (with_reducible refine (mint_GetNumber.calls t113 (t114.size : Int) t116 false _ ?side99 A4.out).mono ?_); (case side99 => exact GOK.below HG.out (by repeat (first | (with_reducible first | exact HB.out | apply zas | apply zaq | apply zat) | exact HB.out))); rintro e w16 ⟨rfl, hb⟩; refine ⟨_, rfl, ?_⟩; have n0_ := Aside0.mk (zqu (by (with_reducible repeat (first | apply zqv | apply Kd.R_drewN | apply Kd.R_drew)); exact HO_4.out) hb); have n1_ := Aside0.mk (zbL (by repeat (first | (with_reducible first | exact HB.out | apply zas | apply zaq | apply zat) | exact HB.out)) hb); clear HO_4; clear HB; have HO_4 := n0_; have HB := n1_; clear n0_ n1_; (try clear hb); (try clear hb2); (try clear hk); (try clear hi)))
         go_ret2
         exact ⟨_, by first | rfl | (simp [zbm, zbp] <;> rfl) | (simp [*, zbm, zbp] <;> rfl), by first | exact Kd.R_nil _ _ _ _ _ | exact Kd.N_nil _ _ _ _ _ | exact Kd.V_nil _ _ _ _ _ | exact Kd.Q_nil _ _ _ _ _ | exact Kd.S_nil _ _ _ _ _, by repeat (first | (with_reducible first | exact HB.out | apply zas | apply zaq | apply zat) | exact HB.out)⟩
     . replace c5 := zqt.mpr c5
       subst c5; have H1 : (some (([] : List ByteArray), false)) = some (r1, r2) := by rw [if_neg (show ¬ (false = true) by decide)] at H; exact H
       clear H; have H := H1; clear H1; simp only [zqs, Prod.mk.injEq] at H; obtain ⟨rfl, rfl⟩ := H; go_wp2_with (first | ((with_reducible refine zbU (f := 222) rfl ?_); refine zbS (some 14) rfl rfl Tryz.func222 (by kernel_rfl) rfl #[.string x0_1, .string (⟨#[58]⟩ : ByteArray)] rfl (by (try simp only [zpW, zpX, zpY]); first | done | rfl | (simp only [zpR, zpI]; rfl)) ?_; (with_reducible refine (strings_Cut.calls x0_1 (⟨#[58]⟩ : ByteArray) t113 t114 false _ ?side99 A3.out).mono ?_); (case side99 => exact GOK.below HG.out (by repeat (first | (with_reducible first | exact HB.out | apply zas | apply zaq | apply zat) | exact HB.out))); rintro e w17 ⟨rfl, hb⟩; refine ⟨_, rfl, ?_⟩; have n0_ := Aside0.mk (zqu (by (with_reducible repeat (first | apply zqv | apply Kd.R_drewN | apply Kd.R_drew)); exact HO_4.out) hb); have n1_ := Aside0.mk (zbL (by repeat (first | (with_reducible first | exact HB.out | apply zas | apply zaq | apply zat) | exact HB.out)) hb); clear HO_4; clear HB; have HO_4 := n0_; have HB := n1_; clear n0_ n1_; (try clear hb); (try clear hb2); (try clear hk); (try clear hi)) | ((with_reducible refine zbU (f := 186) rfl ?_); refine zbS (some 22) rfl rfl Tryz.func186 (by kernel_rfl) rfl #[.string t113, .int .i64 (t114.size : Int)] rfl (by (try simp only [zpW, zpX, zpY]); first | done | rfl | (simp only [zpR, zpI]; rfl)) ?_; (with_reducible refine (mint_GetNumber.calls t113 (t114.size : Int) t116 t117 _ ?side99 A4.out).mono ?_); (case side99 => exact GOK.below HG.out (by repeat (first | (with_reducible first | exact HB.out | apply zas | apply zaq | apply zat) | exact HB.out))); rintro e w18 ⟨rfl, hb⟩; refine ⟨_, rfl, ?_⟩; have n0_ := Aside0.mk (zqu (by (with_reducible repeat (first | apply zqv | apply Kd.R_drewN | apply Kd.R_drew)); exact HO_4.out) hb); have n1_ := Aside0.mk (zbL (by repeat (first | (with_reducible first | exact HB.out | apply zas | apply zaq | apply zat) | exact HB.out)) hb); clear HO_4; clear HB; have HO_4 := n0_; have HB := n1_; clear n0_ n1_; (try clear hb); (try clear hb2); (try clear hk); (try clear hi)))
       go_ret2
       exact ⟨_, by first | rfl | (simp [zbm, zbp] <;> rfl) | (simp [*, zbm, zbp] <;> rfl), by first | exact Kd.R_nil _ _ _ _ _ | exact Kd.N_nil _ _ _ _ _ | exact Kd.V_nil _ _ _ _ _ | exact Kd.Q_nil _ _ _ _ _ | exact Kd.S_nil _ _ _ _ _, by repeat (first | (with_reducible first | exact HB.out | apply zas | apply zaq | apply zat) | exact HB.out)⟩
-- EXT: function 188 (mint_Put)
def mint_Vals.l0 : Nat -> List ByteArray -> List (S34) -> Int -> Int -> Option (ByteArray)
 | 0, _, _, _, _ => none
 | k + 1, x3, x6, x7, x8 => if x8 < x7 then (if 0 <= x8 then (if x8 < (x6.length : Int) then (if (za9 x6 x8).f0 = true then (if 1 + ((za9 x6 x8).f1).size <= 9223372036854775807 then (if x3.length < 8796093022208 then (mint_Vals.l0 k (x3 ++ [(⟨#[43]⟩ : ByteArray) ++ ((za9 x6 x8).f1)]) x6 x7 (wrap64 (x8 + 1))) else (none)) else (none)) else (if x3.length < 8796093022208 then (mint_Vals.l0 k (x3 ++ [(⟨#[45]⟩ : ByteArray)]) x6 x7 (wrap64 (x8 + 1))) else (none))) else (none)) else (none)) else ((mint_Put.f x3).bind fun t129 => (some t129))
def mint_Vals.f (k : Nat) (l0 : List (S34)) : Option (ByteArray) := mint_Vals.l0 k ([] : List ByteArray) l0 (l0.length : Int) 0
theorem mint_Vals.mono_l : ∀ k, (∀ y0 y1 y2 y3, LeO (mint_Vals.l0 k y0 y1 y2 y3) (mint_Vals.l0 (k + 1) y0 y1 y2 y3))
 | 0 => fun _ _ _ _ r h => by simp [mint_Vals.l0] at h
 | k + 1 => by
  have ih0 := mint_Vals.mono_l k
  . intro y0 y1 y2 y3
    unfold mint_Vals.l0; repeat' first
    | (with_reducible exact ih0 _ _ _ _)
    | (with_reducible exact LeO.refl _)
    | (with_reducible exact LeO.none _)
    | (with_reducible refine LeO.ite ?_ ?_)
    | (with_reducible refine LeO.bind ?_ (fun _ => ?_))
    | exact ih0 _ _ _ _
    | exact LeO.none _
    | refine LeO.ite ?_ ?_
    | refine LeO.bind ?_ (fun _ => ?_)
theorem mint_Vals.mono : ∀ a0 k, LeO (mint_Vals.f k a0) (mint_Vals.f (k + 1) a0) := by
 intro a0 k; have ih0 := mint_Vals.mono_l k; unfold mint_Vals.f; repeat' first
  | (with_reducible exact ih0 _ _ _ _)
  | (with_reducible exact LeO.refl _)
  | (with_reducible exact LeO.none _)
  | (with_reducible refine LeO.ite ?_ ?_)
  | (with_reducible refine LeO.bind ?_ (fun _ => ?_))
  | exact ih0 _ _ _ _
  | exact LeO.none _
  | refine LeO.ite ?_ ?_
  | refine LeO.bind ?_ (fun _ => ?_)
theorem mint_Vals.calls (k : Nat) (A0 : Option Addr) (c0 : Nat) (l0 : List (S34)) (r : ByteArray) (w : World) (hG : GOK w) (hr0 : Kd.C k34 w A0 l0.length l0) (hc0 : l0.length <= c0) (h : mint_Vals.f k l0 = some r) :
 Calls zp5 189 #[.slice A0 l0.length c0] w fun e w' => e = .returned (.string r) /\ Below w.heap.size w w' := by
 have hu34 := Tryz.underlying34; have HR0 := Aside0.mk hr0; have HC0 := Aside0.mk hc0; clear hr0 hc0; have HB := Aside0.mk (Below.refl w.heap.size w); have HG := Aside0.mk hG; clear hG; have H : (mint_Vals.l0 k ([] : List ByteArray) l0 (l0.length : Int) 0) = some r := h; clear h; have H' := Aside0.mk H; clear H; go_enter Tryz.func189, Tryz.ntmps189
 go_wp2; go_loopg [3, 8] k (fun kq v3 v8 w' => ∃ (x3_1 : List ByteArray) (x8_1 : Int), v8 = .int .i64 x8_1 /\ Aside0 (mint_Vals.l0 kq x3_1 l0 (l0.length : Int) x8_1 = some r) /\ Aside0 (kq <= k) /\ Aside0 (Kd.R zqb 9 w' w.heap.size (fun _ => True) v3 x3_1) /\ Aside0 (Below w.heap.size w w'))
 case atStart => exact ⟨(([] : List ByteArray)), (0), (by first | rfl | (simp; done) | (simp [*]; done) | (simp [bne]; done) | (simp [*, bne]; done)), H', ⟨zpx _⟩, ⟨by first | exact Kd.R_nil _ _ _ _ _ | exact Kd.N_nil _ _ _ _ _ | exact Kd.V_nil _ _ _ _ _ | exact Kd.Q_nil _ _ _ _ _ | exact Kd.S_nil _ _ _ _ _⟩, ⟨by repeat (first | (with_reducible first | exact HB.out | apply zas | apply zaq | apply zat) | exact HB.out)⟩⟩
 case round =>
  clear H'; try clear c1
  obtain ⟨x3_1, x8_1, rfl, HA, HK1, HO_3, HB⟩ := hrel; cases gk with
  | zero => exact absurd HA.out (by simp [mint_Vals.l0])
  | succ k1 =>
   have H := HA.out; clear HA; simp only [mint_Vals.l0] at H; by_cases c2 : x8_1 < (l0.length : Int)
   . rw [if_pos c2] at H
     have c2b0 : decide (x8_1 < (l0.length : Int)) = true := decide_eq_true c2; clear c2; by_cases c3 : 0 <= x8_1
     . rw [if_pos c3] at H
       have c3b0 : decide (0 <= x8_1) = true := decide_eq_true c3; clear c3; by_cases c4 : x8_1 < (l0.length : Int)
       . rw [if_pos c4] at H
         have c4b0 : decide (x8_1 < (l0.length : Int)) = true := decide_eq_true c4; clear c4; obtain ⟨bq5, hbq5⟩ : ∃ b_ : Bool, b_ = ((za9 l0 x8_1).f0) := ⟨_, rfl⟩; replace H : (if bq5 = true then (if 1 + ((za9 l0 x8_1).f1).size <= 9223372036854775807 then (if x3_1.length < 8796093022208 then (mint_Vals.l0 k1 (x3_1 ++ [(⟨#[43]⟩ : ByteArray) ++ ((za9 l0 x8_1).f1)]) l0 (l0.length : Int) (wrap64 (x8_1 + 1))) else (none)) else (none)) else (if x3_1.length < 8796093022208 then (mint_Vals.l0 k1 (x3_1 ++ [(⟨#[45]⟩ : ByteArray)]) l0 (l0.length : Int) (wrap64 (x8_1 + 1))) else (none))) = some r := by rw [<- hbq5] at H; exact H
         have Nbq5 := Aside0.mk hbq5; clear hbq5; by_cases c6 : bq5 = true
         . subst c6
           have H1 : (if 1 + ((za9 l0 x8_1).f1).size <= 9223372036854775807 then (if x3_1.length < 8796093022208 then (mint_Vals.l0 k1 (x3_1 ++ [(⟨#[43]⟩ : ByteArray) ++ ((za9 l0 x8_1).f1)]) l0 (l0.length : Int) (wrap64 (x8_1 + 1))) else (none)) else (none)) = some r := by rw [if_pos rfl] at H; exact H
           clear H; have H := H1; clear H1; by_cases c7 : 1 + ((za9 l0 x8_1).f1).size <= 9223372036854775807
           . rw [if_pos c7] at H
             have c7b0 := eq_true c7; have c7b1 : decide (1 + ((za9 l0 x8_1).f1).size <= 9223372036854775807) = true := decide_eq_true c7; try have c7b2 : (9223372036854775807 < 1 + ((za9 l0 x8_1).f1).size) = False := eq_false (Nat.not_lt.2 c7)
             try (have c7b3 := c7b2; simp only [ByteArray.size_append, zmO, List.size_toArray, List.length_cons, List.length_nil, Nat.reduceAdd, Nat.zero_add] at c7b3)
             by_cases c8 : x3_1.length < 8796093022208
             . rw [if_pos c8] at H
               have LMc8 := Aside0.mk c8; clear c8; obtain ⟨y123, hy123⟩ : ∃ y_ : List ByteArray, y_ = (x3_1 ++ [(⟨#[43]⟩ : ByteArray) ++ ((za9 l0 x8_1).f1)]) := ⟨_, rfl⟩; replace H : (mint_Vals.l0 k1 y123 l0 (l0.length : Int) (wrap64 (x8_1 + 1))) = some r := by first | (rw [hy123]; with_reducible exact H) | (have H2_ := (zqr _ _).symm.trans H; rw [hy123]; with_reducible exact H2_) | (have H2_ := (zqr _ _).symm.trans H; with_reducible exact H2_) | with_reducible exact H | (rw [hy123]; exact H) | exact H
               have Ny123 := Aside0.mk hy123; clear hy123; have H' := Aside0.mk H; clear H; have p121 : 0 <= (x8_1 : Int) := of_decide_eq_true (by first | (with_reducible assumption) | assumption)
               have q121 : x8_1 < (l0.length : Int) := of_decide_eq_true (by first | (with_reducible assumption) | assumption)
               obtain ⟨ad121, e121, hx121_0, hx121_1⟩ := zeW HR0.out x8_1 p121 q121
               (try rw [<- Nbq5.out] at hx121_0)
               cases e121
               replace hx121_0 := (HB.out.cell (zpu w _ hx121_0)).trans hx121_0
               replace hx121_1 := (HB.out.cell (zpu w _ hx121_1)).trans hx121_1
               replace p121 := eq_true p121
               replace q121 := eq_true q121
               go_wp2_with (first | ((with_reducible refine zii (N := 5) rfl ?_); refine zhZ ?hg (N := 5) ?hd (cs := #[.bool false, .string (⟨#[]⟩ : ByteArray)]) (t := 34) ?hr ?_; (case hd => rfl); (case hg => rfl); (case hr => first | (go_simp; done) | (go_simp; rfl)); intro gb122 hg w9 hbox hb; have n0_ := Aside0.mk (zqu (by (with_reducible repeat (first | apply zqv | apply Kd.R_drewN | apply Kd.R_drew)); exact HO_3.out) hb); have n1_ := Aside0.mk (zbL (by repeat (first | (with_reducible first | exact HB.out | apply zas | apply zaq | apply zat) | exact HB.out)) hb); have n2_ := Aside0.mk (hbox); have n3_ := Aside0.mk ((by rw [hg]; exact (zcv (by repeat (first | (with_reducible first | exact HB.out | apply zas | apply zaq | apply zat) | exact HB.out))) : w.heap.size <= gb122)); have n4_ := Aside0.mk ((by rw [hg]; exact (zcv (by repeat (first | (with_reducible first | exact HB.out | apply zas | apply zaq | apply zat) | exact HB.out))) : w.heap.size <= gb122)); clear HO_3; clear HB; have HO_3 := n0_; have HB := n1_; have BK122 := n2_; have GW122 := n3_; have GE122 := n4_; clear n0_ n1_ n2_ n3_ n4_; clear hb hbox hg; have hcz10_0 : w9.cell? ⟨gb122, 0, none⟩ = some (.bool false) := (zah BK122.out 0).trans rfl; have hcz10_1 : w9.cell? ⟨gb122, 1, none⟩ = some (.string (⟨#[]⟩ : ByteArray)) := (zah BK122.out 1).trans rfl; have hfz10_0 := zak BK122.out 0; have hfz10_1 := zak BK122.out 1) | ((with_reducible refine zaG (b := .append) (xs := #[.tmp 14, .tmp 18]) rfl ?_); at_builtin; refine Kd.R_append zqb (w0 := w) w.heap.size rfl (.tmp 14) (.tmp 18) 22 9 (.string ⟨#[]⟩) 16 rfl Tryz.underlying22 zem rfl (by decide) (by omega) u3 x3_1 ((⟨#[43]⟩ : ByteArray) ++ ((za9 l0 x8_1).f1)) [.string ((⟨#[43]⟩ : ByteArray) ++ ((za9 l0 x8_1).f1))] (fun _ => True) (fun _ => False) rfl (by first | (go_simp; done) | (go_simp; rfl)) ?aP (fun _ hk => hk.elim) ?aF ?aO ?aB ?aS ?aL ?_; (case aP => exact rfl); (case aB => exact (by repeat (first | (with_reducible first | exact HB.out | apply zas | apply zaq | apply zat | refine zds ?_ GE122.out) | exact HB.out))); (case aF => exact (fun _ _ => trivial)); (case aO => exact (by (with_reducible repeat (first | apply zqv | apply Kd.R_drewN | apply Kd.R_drew)); exact Kd.R_mono (Kd.R_far (p := ⟨gb122, 1, none⟩) (Kd.R_far (p := ⟨gb122, 0, none⟩) (Kd.R_types HO_3.out BK122.out (by decide)) (fun _ hk => hk.2) (.bool true)) (fun _ hk => hk.2) (.string ((za9 l0 x8_1).f1))) (fun _ hk => trivial))); (case aS => exact (zcv (by repeat (first | (with_reducible first | exact HB.out | apply zas | apply zaq | apply zat | refine zds ?_ GE122.out) | exact HB.out)))); (case aL => have := LMc8.out; omega); intro v124 w11 ho hb hg hat; rw [<- Ny123.out] at ho; have n0_ := Aside0.mk (zaY (g := gb122) (o := .cells #[.bool true, .string ((za9 l0 x8_1).f1)] 34 (0, 0)) (by (with_reducible repeat (first | refine zdK ?_ _ | refine zaH ?_ | refine zaQ ?_ _)); refine zav (cs := #[.bool true, .string (⟨#[]⟩ : ByteArray)]) ?_ 1 _ rfl; (with_reducible repeat (first | refine zdK ?_ _ | refine zaH ?_ | refine zaQ ?_ _)); refine zav (cs := #[.bool false, .string (⟨#[]⟩ : ByteArray)]) ?_ 0 _ rfl; (with_reducible repeat (first | refine zdK ?_ _ | refine zaH ?_ | refine zaQ ?_ _)); exact BK122.out) hg (Kd.R_ne HO_3.out BK122.out (by decide))); have n1_ := Aside0.mk (hb); have n2_ := Aside0.mk (ho); clear BK122; clear HB; clear HO_3; have BK122 := n0_; have HB := n1_; have HO125 := n2_; clear n0_ n1_ n2_; clear ho hb hg hat))
               go_roundg k1
               case measure => have := HK1.out; omega
               case rel => exact ⟨(y123), (wrap64 (x8_1 + 1)), (by first | rfl | (simp; done) | (simp [*]; done) | (simp [bne]; done) | (simp [*, bne]; done)), H', ⟨by have := HK1.out; omega⟩, ⟨by (with_reducible repeat (first | apply zqv | apply Kd.R_drewN | apply Kd.R_drew)); exact HO125.out⟩, ⟨by repeat (first | (with_reducible first | exact HB.out | apply zas | apply zaq | apply zat | refine zds ?_ GE122.out) | exact HB.out)⟩⟩
             . rw [if_neg c8] at H
               exact absurd H (by simp)
           . rw [if_neg c7] at H
             exact absurd H (by simp)
         . replace c6 := zqt.mpr c6
           subst c6; have H1 : (if x3_1.length < 8796093022208 then (mint_Vals.l0 k1 (x3_1 ++ [(⟨#[45]⟩ : ByteArray)]) l0 (l0.length : Int) (wrap64 (x8_1 + 1))) else (none)) = some r := by rw [if_neg (show ¬ (false = true) by decide)] at H; exact H
           clear H; have H := H1; clear H1; by_cases c12 : x3_1.length < 8796093022208
           . rw [if_pos c12] at H
             have LMc12 := Aside0.mk c12; clear c12; obtain ⟨y126, hy126⟩ : ∃ y_ : List ByteArray, y_ = (x3_1 ++ [(⟨#[45]⟩ : ByteArray)]) := ⟨_, rfl⟩; replace H : (mint_Vals.l0 k1 y126 l0 (l0.length : Int) (wrap64 (x8_1 + 1))) = some r := by first | (rw [hy126]; with_reducible exact H) | (have H2_ := (zqr _ _).symm.trans H; rw [hy126]; with_reducible exact H2_) | (have H2_ := (zqr _ _).symm.trans H; with_reducible exact H2_) | with_reducible exact H | (rw [hy126]; exact H) | exact H
             have Ny126 := Aside0.mk hy126; clear hy126; have H' := Aside0.mk H; clear H; have p121 : 0 <= (x8_1 : Int) := of_decide_eq_true (by first | (with_reducible assumption) | assumption)
             have q121 : x8_1 < (l0.length : Int) := of_decide_eq_true (by first | (with_reducible assumption) | assumption)
             obtain ⟨ad121, e121, hx121_0, hx121_1⟩ := zeW HR0.out x8_1 p121 q121
             (try rw [<- Nbq5.out] at hx121_0)
             cases e121
             replace hx121_0 := (HB.out.cell (zpu w _ hx121_0)).trans hx121_0
             replace hx121_1 := (HB.out.cell (zpu w _ hx121_1)).trans hx121_1
             replace p121 := eq_true p121
             replace q121 := eq_true q121
             go_wp2_with (first | ((with_reducible refine zii (N := 5) rfl ?_); refine zhZ ?hg (N := 5) ?hd (cs := #[.bool false, .string (⟨#[]⟩ : ByteArray)]) (t := 34) ?hr ?_; (case hd => rfl); (case hg => rfl); (case hr => first | (go_simp; done) | (go_simp; rfl)); intro gb122 hg w13 hbox hb; have n0_ := Aside0.mk (zqu (by (with_reducible repeat (first | apply zqv | apply Kd.R_drewN | apply Kd.R_drew)); exact HO_3.out) hb); have n1_ := Aside0.mk (zbL (by repeat (first | (with_reducible first | exact HB.out | apply zas | apply zaq | apply zat) | exact HB.out)) hb); have n2_ := Aside0.mk (hbox); have n3_ := Aside0.mk ((by rw [hg]; exact (zcv (by repeat (first | (with_reducible first | exact HB.out | apply zas | apply zaq | apply zat) | exact HB.out))) : w.heap.size <= gb122)); have n4_ := Aside0.mk ((by rw [hg]; exact (zcv (by repeat (first | (with_reducible first | exact HB.out | apply zas | apply zaq | apply zat) | exact HB.out))) : w.heap.size <= gb122)); clear HO_3; clear HB; have HO_3 := n0_; have HB := n1_; have BK122 := n2_; have GW122 := n3_; have GE122 := n4_; clear n0_ n1_ n2_ n3_ n4_; clear hb hbox hg; have hcz14_0 : w13.cell? ⟨gb122, 0, none⟩ = some (.bool false) := (zah BK122.out 0).trans rfl; have hcz14_1 : w13.cell? ⟨gb122, 1, none⟩ = some (.string (⟨#[]⟩ : ByteArray)) := (zah BK122.out 1).trans rfl; have hfz14_0 := zak BK122.out 0; have hfz14_1 := zak BK122.out 1) | ((with_reducible refine zaG (b := .append) (xs := #[.tmp 20, .tmp 21]) rfl ?_); at_builtin; refine Kd.R_append zqb (w0 := w) w.heap.size rfl (.tmp 20) (.tmp 21) 22 9 (.string ⟨#[]⟩) 16 rfl Tryz.underlying22 zem rfl (by decide) (by omega) u3 x3_1 (⟨#[45]⟩ : ByteArray) [.string (⟨#[45]⟩ : ByteArray)] (fun _ => True) (fun _ => False) rfl (by first | (go_simp; done) | (go_simp; rfl)) ?aP (fun _ hk => hk.elim) ?aF ?aO ?aB ?aS ?aL ?_; (case aP => exact rfl); (case aB => exact (by repeat (first | (with_reducible first | exact HB.out | apply zas | apply zaq | apply zat | refine zds ?_ GE122.out) | exact HB.out))); (case aF => exact (fun _ _ => trivial)); (case aO => exact (by (with_reducible repeat (first | apply zqv | apply Kd.R_drewN | apply Kd.R_drew)); exact Kd.R_mono (Kd.R_far (p := ⟨gb122, 1, none⟩) (Kd.R_far (p := ⟨gb122, 0, none⟩) (Kd.R_types HO_3.out BK122.out (by decide)) (fun _ hk => hk.2) (.bool false)) (fun _ hk => hk.2) (.string ((za9 l0 x8_1).f1))) (fun _ hk => trivial))); (case aS => exact (zcv (by repeat (first | (with_reducible first | exact HB.out | apply zas | apply zaq | apply zat | refine zds ?_ GE122.out) | exact HB.out)))); (case aL => have := LMc12.out; omega); intro v127 w15 ho hb hg hat; rw [<- Ny126.out] at ho; have n0_ := Aside0.mk (zaY (g := gb122) (o := .cells #[.bool false, .string ((za9 l0 x8_1).f1)] 34 (0, 0)) (by (with_reducible repeat (first | refine zdK ?_ _ | refine zaH ?_ | refine zaQ ?_ _)); refine zav (cs := #[.bool false, .string (⟨#[]⟩ : ByteArray)]) ?_ 1 _ rfl; (with_reducible repeat (first | refine zdK ?_ _ | refine zaH ?_ | refine zaQ ?_ _)); refine zav (cs := #[.bool false, .string (⟨#[]⟩ : ByteArray)]) ?_ 0 _ rfl; (with_reducible repeat (first | refine zdK ?_ _ | refine zaH ?_ | refine zaQ ?_ _)); exact BK122.out) hg (Kd.R_ne HO_3.out BK122.out (by decide))); have n1_ := Aside0.mk (hb); have n2_ := Aside0.mk (ho); clear BK122; clear HB; clear HO_3; have BK122 := n0_; have HB := n1_; have HO128 := n2_; clear n0_ n1_ n2_; clear ho hb hg hat))
             go_roundg k1
             case measure => have := HK1.out; omega
             case rel => exact ⟨(y126), (wrap64 (x8_1 + 1)), (by first | rfl | (simp; done) | (simp [*]; done) | (simp [bne]; done) | (simp [*, bne]; done)), H', ⟨by have := HK1.out; omega⟩, ⟨by (with_reducible repeat (first | apply zqv | apply Kd.R_drewN | apply Kd.R_drew)); exact HO128.out⟩, ⟨by repeat (first | (with_reducible first | exact HB.out | apply zas | apply zaq | apply zat | refine zds ?_ GE122.out) | exact HB.out)⟩⟩
           . rw [if_neg c12] at H
             exact absurd H (by simp)
       . rw [if_neg c4] at H
         exact absurd H (by simp)
     . rw [if_neg c3] at H
       exact absurd H (by simp)
   . rw [if_neg c2] at H
     have c2b0 : decide (x8_1 < (l0.length : Int)) = false := decide_eq_false c2; clear c2; replace H := zpJ.mp H
     obtain ⟨t129, A160, H⟩ := H; replace H : (some t129) = some r := H
     have A16 := Aside0.mk A160; clear A160; obtain rfl := Option.some.inj H; obtain ⟨Ao17, co17, eo17⟩ := Kd.R_slice HO_3.out; subst eo17; go_wp2_with (first | ((with_reducible refine zbU (f := 188) rfl ?_); refine zbS (some 25) rfl rfl Tryz.func188 (by kernel_rfl) rfl #[.slice Ao17 x3_1.length co17] rfl (by (try simp only [zpW, zpX, zpY]); first | done | rfl | (simp only [zpR, zpI]; rfl)) ?_; (with_reducible refine (mint_Put.calls _ _ x3_1 t129 _ ?side99 ?side1 ?side2 A16.out).mono ?_); (case side99 => exact GOK.below HG.out (by repeat (first | (with_reducible first | exact HB.out | apply zas | apply zaq | apply zat) | exact HB.out))); (case side1 => repeat (first | exact (Kd.R_reads' HO_3.out).2.2 | (with_reducible refine Kd.C_alloc ?_ _) | (with_reducible refine Kd.C_drewN ?_ _) | (with_reducible refine Kd.C_drew ?_))); (case side2 => exact (Kd.R_reads' HO_3.out).2.1); rintro e w18 ⟨rfl, hb⟩; refine ⟨_, rfl, ?_⟩; have n0_ := Aside0.mk (zqu (by (with_reducible repeat (first | apply zqv | apply Kd.R_drewN | apply Kd.R_drew)); exact HO_3.out) hb); have n1_ := Aside0.mk (zbL (by repeat (first | (with_reducible first | exact HB.out | apply zas | apply zaq | apply zat) | exact HB.out)) hb); clear HO_3; clear HB; have HO_3 := n0_; have HB := n1_; clear n0_ n1_; (try clear hb); (try clear hb2); (try clear hk); (try clear hi)))
     go_ret
     exact ⟨by first | rfl | (simp [zbm, zbp] <;> rfl) | (simp [*, zbm, zbp] <;> rfl), by repeat (first | (with_reducible first | exact HB.out | apply zas | apply zaq | apply zat) | exact HB.out)⟩
end YtdpgdnpddndeoaaGreatDoor.Pc
section
open Go.Shelf
def Tryz.lays137_ren : Go.Shelf.Ren := ⟨fun | 137 => 175 | 217 => 203 | 266 => 228 | n => n, fun | 9 => 9 | 5 => 5 | 3 => 3 | n => n, fun | n => n⟩
theorem Tryz.lays137 : Go.Proofs.Lays.n137 zp5 Tryz.lays137_ren := {
 mixed := by kernel_rfl
 f137 := Tryz.func175.trans (congrArg some (by kernel_rfl))
 f217 := Tryz.func203.trans (congrArg some (by kernel_rfl))
 f266 := Tryz.func228.trans (congrArg some (by kernel_rfl))
 t3 := Tryz.underlying3
 a3 := Tryz.isAgg3
 z3 := Tryz.sizeOf3
 v3 := Tryz.zeroValue3
 t5 := Tryz.underlying5
 a5 := Tryz.isAgg5
 z5 := Tryz.sizeOf5
 v5 := Tryz.zeroValue5
 t9 := Tryz.underlying9
 a9 := Tryz.isAgg9
 z9 := Tryz.sizeOf9
 v9 := Tryz.zeroValue9 }
end
end Go.Proofs
