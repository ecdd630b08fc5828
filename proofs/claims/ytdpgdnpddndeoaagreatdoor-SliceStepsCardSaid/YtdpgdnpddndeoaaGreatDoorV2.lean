/-
  What the cards lean on (part V2): contracts of functions, by hand, and plain laws; what is printed by the kit's print for this seat is among them. What is not reached is left out.
-/
import Derived.Shelf.GgClosure.Gives
import Derived.Test.YtdpgdnpddndeoaaGreatDoorProg
import Derived.Below
import Derived.Deep.Draws
import Derived.Deep.AppendLies
import Derived.Maps.AppendAt
import Derived.OwnWalk
import Derived.Laws.BytesArg
import Derived.Laws.MakeOwn
import Derived.Laws.OwnMore
import Derived.Deep.OwnRows
import Derived.Tactics
import Derived.Lib.ConvBytes
import Derived.Laws.Slices
import Derived.WalkKit
import Derived.KernelRfl
import Derived.RowKit3
import Derived.Deep.LoopGhost
import Derived.Deep.QuietTactic
import Derived.BigQuiet
import Derived.WideLaws
import Derived.Deep.DeepCutAuto
import Derived.Deep.CutBlock
import Derived.Deep.RegionHeld3
import Derived.Laws.Rows
import Derived.Lib.AppendStr
import Derived.ArgAppend
import Derived.Laws.IdiomCopy
import Derived.OrdersHeld
import Derived.Laws.BitsLemmas
import Derived.RowKit
import Derived.Laws.RangeAny
import Derived.Sort.Grow
import Derived.Lib.AtoiAllCases
import Derived.Lib.SmallJoins
import Derived.Maps.OwnSet
import Derived.Maps.StringElems
import Derived.WalkSpells
import Derived.ChangeMaps5
import Derived.Sort.KeysCollected
import Derived.Sort.Walk0
import Derived.Test.YtdpgdnpddndeoaaGreatDoorV0
import Derived.Test.YtdpgdnpddndeoaaGreatDoorV1
set_option maxHeartbeats 8000000
set_option maxRecDepth 100000
set_option linter.unusedSimpArgs false
set_option linter.unusedVariables false
open Go.RowKit.Below renaming refl -> zpw
open Nat renaming le_refl -> zpx, le_trans -> zpD, zero_le -> zqk
open Go.Lib renaming size_eq -> zqc
open List renaming map_map -> zqd, getElem?_eq_getElem -> zpA, getD_eq_getElem?_getD -> zpB, length_map -> zqe, length_take -> zpI, length_append -> zpK, take_length -> zqf, map_cons -> zpX, map_nil -> zpY, take_succ_eq_append_getElem -> zpZ, length_cons -> zqh, drop_eq_nil_of_le -> zqj, getElem?_take_of_lt -> zql, length_filter_le -> zqn, map_append -> zqo
open Array renaming getElem?_eq_some_iff -> zpy, getElem?_modify -> zqg, getElem?_toList -> zqi
open Option renaming bind_eq_some_iff -> zpJ, isSome_none -> zqm, getD_some -> zqp
open Option.some renaming inj -> zp6
open Go.Proofs.Tryz renaming prog -> zp5
open ByteArray renaming empty -> zqa
open Go.Proofs.YtdpgdnpddndeoaaGreatDoorW.PrintWords.Kd renaming string -> zqb, R_reads -> zqq
namespace Go.Proofs.YtdpgdnpddndeoaaGreatDoor
namespace X
open Go.RowKit YtdpgdnpddndeoaaGreatDoorW.PrintWords
def strings_Split.f (a0 a1 : ByteArray) : Option (List ByteArray) :=
 match a1.data.toList with
 | [c] => if a0.size < 4294967281 then some ((zaz c a0.data.toList).map mk) else none
 | _ => none
theorem strings_Split.one (s : ByteArray) (c : UInt8) (hs : s.size < 4294967281) : strings_Split.f s (⟨#[c]⟩ : ByteArray) = some ((zaz c s.data.toList).map mk) := by
 unfold strings_Split.f; show (if s.size < 4294967281 then some _ else none) = _
 rw [if_pos hs]
theorem zig (c : UInt8) : ∀ l, (zaz c l).length <= l.length + 1
 | [] => by simp [zaz]
 | x :: r => by
  have := zig c r; unfold zaz; split
  . simp; omega
  . split
    . simp
    . rename_i h; rw [h] at this; simp at this |-; omega
theorem strings_Split.calls (a0 a1 : ByteArray) (r : List ByteArray) (w : World) (hG : GOK w) (h : strings_Split.f a0 a1 = some r) :
 Calls zp5 57 #[.string a0, .string a1] w fun e w' => ∃ v0_ : Value, e = .returned v0_ /\ Kd.R zqb 9 w' w.heap.size (fun _ => True) v0_ r /\ Below w.heap.size w w' := by
 unfold strings_Split.f at h; split at h
 . rename_i c hc
   have hs : a0.size < 4294967281 := by
    by_cases hs : a0.size < 4294967281
    . exact hs
    . rw [if_neg hs] at h; cases h
   rw [if_pos hs] at h; have hr := zp6 h; have ha1 : a1 = mk [c] := by rw [<- zbY a1, hc]
   subst ha1; obtain ⟨m, hm⟩ := hG.maxLen; have L := Go.Proofs.Tryz.laysM146; have hcall := Go.Proofs.Any.strings_Split { L with } L.i9 a0 (mk [c]) m w hs hm (by rw [zbb]; simp)
   change Calls zp5 57 _ _ _ at hcall
   refine hcall.mono fun e w' ⟨he, hw⟩ => ?_
   rw [zhc] at hw; have hlen : Lib.countB a0 (mk [c]) + 1 = r.length := by
    rw [<- hr, zqe, <- Lib.splitB_all (mk [c]) (by rw [zbb]; simp) 0 _ a0 rfl, zhc, zqe]
   have hle : r.length <= a0.size + 1 := by rw [<- hr, zqe, zqc]; exact zig c _
   rw [hr] at hw; subst hw; refine ⟨_, he, ?_, (zpw _ _).alloc (zpx _) _⟩; rw [hlen]; exact Kd.R_of_own (zfp (enc := Value.string) w w.heap.size 9 r (zpx _) (by omega)) (fun _ _ => trivial)
 . cases h
def strings_Cut.f (a0 a1 : ByteArray) : Option (ByteArray × ByteArray × Bool) :=
 if a0.size < 4294967281 then some (mk (Lib.cut a0.data.toList a1.data.toList).1, mk (Lib.cut a0.data.toList a1.data.toList).2.1, (Lib.cut a0.data.toList a1.data.toList).2.2) else none
theorem strings_Cut.calls (a0 a1 r1 r2 : ByteArray) (r3 : Bool) (w : World) (hG : GOK w) (h : strings_Cut.f a0 a1 = some (r1, r2, r3)) :
 Calls zp5 222 #[.string a0, .string a1] w fun e w' => e = .returned (.tuple #[.string r1, .string r2, .bool r3]) /\ Below w.heap.size w w' := by
 unfold strings_Cut.f at h; split at h
 . rename_i hs
   have h' := zp6 h; simp only [Prod.mk.injEq] at h'; obtain ⟨rfl, rfl, rfl⟩ := h'; obtain ⟨m, hm⟩ := hG.maxLen; have hcall := Go.Proofs.Any.strings_Cut Go.Proofs.Tryz.lays145 a0 a1 m w hs hm; change Calls zp5 222 _ _ _ at hcall
   refine hcall.mono fun e w' ⟨he, n, hw⟩ => ⟨he, ?_⟩
   subst hw; exact zaq (zpw _ _) n
 . cases h
theorem zeF : Go.Proofs.Builder.Extra zp5 Go.Proofs.Tryz.lays156_ren := {
 sizeBuilder := by kernel_rfl
 liesBuilder := by kernel_rfl
 t5 := Tryz.underlying5
 a5 := Tryz.isAgg5
 z5 := Tryz.sizeOf5
 v5 := Tryz.zeroValue5
 infoByte := by kernel_rfl
 cellsByte := by kernel_rfl
 sizeByte := by kernel_rfl
 neB5 := by decide }
def strings_Join.f (l0 : List ByteArray) (a1 : ByteArray) : Option ByteArray :=
 if l0.length <= 140737488355328 /\ (Lib.join (l0.map (·.data.toList)) a1.data.toList).length <= 140737488355328 then some (mk (Lib.join (l0.map (·.data.toList)) a1.data.toList)) else none
theorem strings_Join.calls (A0 : Option Addr) (c0 : Nat) (l0 : List ByteArray) (a1 : ByteArray) (r : ByteArray) (w : World) (_hG : GOK w) (hr0 : Kd.C zqb w A0 l0.length l0) (hc0 : l0.length <= c0) (h : strings_Join.f l0 a1 = some r) :
 Calls zp5 83 #[.slice A0 l0.length c0, .string a1] w fun e w' => e = .returned (.string r) /\ Below w.heap.size w w' := by
 unfold strings_Join.f at h; split at h
 . rename_i hs
   have hr := zp6 h; rcases zaX hr0 with rfl | ⟨b, o, rfl, hb, hcell⟩
   . have hcall := Go.Proofs.Any.strings_Join_none Go.Proofs.Tryz.lays156 zeF A0 c0 a1 w
     change Calls zp5 83 _ _ _ at hcall
     refine hcall.mono fun e w' ⟨he, hw⟩ => ?_
     subst hw; refine ⟨?_, zpw _ _⟩; rw [he, <- hr]; rfl
   . have hcall := Go.Proofs.Any.strings_Join Go.Proofs.Tryz.lays156 zeF b o c0 l0 a1 w (fun j x hx => by
      obtain ⟨hj, he⟩ := List.getElem?_eq_some_iff.1 hx; have := hcell j hj; rwa [show l0.getD j zqa = x by simp [zpB, hx]] at this) hb hs.1 hc0 hs.2
     change Calls zp5 83 _ _ _ at hcall
     refine hcall.mono fun e w' ⟨he, hw⟩ => ⟨?_, hw⟩
     rw [he, <- hr]; rfl
 . cases h
def strconv_Itoa.f (a0 : Int) : Option ByteArray := if -9223372036854775808 <= a0 /\ a0 <= 9223372036854775807 then some (mk (Lib.itoa a0)) else none
theorem strconv_Itoa.calls (a0 : Int) (r : ByteArray) (w : World) (hG : GOK w) (h : strconv_Itoa.f a0 = some r) :
 Calls zp5 128 #[.int .i64 a0] w fun e w' => e = .returned (.string r) /\ Below w.heap.size w w' := by
 unfold strconv_Itoa.f at h; split at h
 . rename_i hs
   have hr := zp6 h; have hcall := Go.Proofs.Any.strconv_Itoa Go.Proofs.Tryz.laysM171 a0 hs.1 hs.2 w hG.pow10; change Calls zp5 128 _ _ _ at hcall
   refine hcall.mono fun e w' ⟨he, k, os, hw⟩ => ⟨?_, ?_⟩
   . rw [he, <- hr]; rfl
   . subst hw
     exact Go.Proofs.below_grown w k os
 . cases h
end X
namespace Pb
open YtdpgdnpddndeoaaGreatDoor.X
open Go.RowKit YtdpgdnpddndeoaaGreatDoorW.PrintWords YtdpgdnpddndeoaaGreatDoorW.PrintLast YtdpgdnpddndeoaaGreatDoorW.PrintMore
attribute [local go_sem] zdr zdw zdx zdE zdl zdC zdm zdD   -- for this text's walks alone
def errW : Option Int -> Value
 | none => .nilIface
 | some c => .iface 0 (.int .i64 c)
theorem zbm : errW none = .nilIface := rfl
theorem zbp (c : Int) : errW (some c) = .iface 0 (.int .i64 c) := rfl
-- the values' own types
attribute [local go_sem] zdr zdw zdx zdE zdl zdC zdm zdD   -- for this text's walks alone
-- EXT: function 57 (strings_Split)
def path_Parts.f (a0 : ByteArray) : Option (List ByteArray) := (strings_Split.f a0 (⟨#[47]⟩ : ByteArray)).bind fun t101 => (some t101)
theorem path_Parts.calls (a0 : ByteArray) (r : List ByteArray) (w : World) (hG : GOK w) (h : path_Parts.f a0 = some r) :
 Calls zp5 135 #[.string a0] w fun e w' => ∃ v0_ : Value, e = .returned (v0_) /\ Kd.R zqb 9 w' w.heap.size (fun _ => True) v0_ r /\ Below w.heap.size w w' := by
 have HB := Aside0.mk (zpw w.heap.size w); have HG := Aside0.mk hG; clear hG; have H : ((strings_Split.f a0 (⟨#[47]⟩ : ByteArray)).bind fun t101 => (some t101)) = some r := h
 clear h; replace H := zpJ.mp H
 obtain ⟨t101, A20, H⟩ := H; replace H : (some t101) = some r := H
 have A2 := Aside0.mk A20; clear A20; obtain rfl := zp6 H; go_enter Tryz.func135, Tryz.ntmps135
 go_wp2_with (first | ((with_reducible refine zbU (f := 57) rfl ?_); refine zbS (some 4) rfl rfl Tryz.func57 (by kernel_rfl) rfl #[.string a0, .string (⟨#[47]⟩ : ByteArray)] rfl (by (try simp only [List.map_toArray, zpX, zpY]); first | done | rfl | (simp only [List.length_drop, zpI]; rfl)) ?_; (with_reducible refine (strings_Split.calls a0 (⟨#[47]⟩ : ByteArray) t101 _ ?side99 A2.out).mono ?_); (case side99 => exact GOK.below HG.out (by repeat (first | (with_reducible first | exact HB.out | apply zas | apply zaq | apply zat) | exact HB.out))); rintro e w3 ⟨v102, rfl, ho0, hb⟩; refine ⟨_, rfl, ?_⟩; have n0_ := Aside0.mk (Kd.R_lower ho0 (zcv (by repeat (first | (with_reducible first | exact HB.out | apply zas | apply zaq | apply zat) | exact HB.out)))); have n1_ := Aside0.mk (zbL (by repeat (first | (with_reducible first | exact HB.out | apply zas | apply zaq | apply zat) | exact HB.out)) hb); clear HB; have HO103 := n0_; have HB := n1_; clear n0_ n1_; (try clear hb); (try clear hb2); (try clear hk); (try clear hi); (try clear ho0)))
 go_ret
 exact ⟨_, by first | rfl | (simp [zbm, zbp] <;> rfl) | (simp [*, zbm, zbp] <;> rfl), by (with_reducible repeat (first | apply Kd.R_alloc | apply Kd.R_drewN | apply Kd.R_drew)); exact HO103.out, by repeat (first | (with_reducible first | exact HB.out | apply zas | apply zaq | apply zat) | exact HB.out)⟩
-- EXT: function 128 (strconv_Itoa)
def mint_Number.f (a0 : Int) : Option (ByteArray) := (strconv_Itoa.f (mx a0 0)).bind fun t104 => (some t104)
theorem mint_Number.calls (a0 : Int) (r : ByteArray) (w : World) (hG : GOK w) (h : mint_Number.f a0 = some r) :
 Calls zp5 82 #[.int .i64 a0] w fun e w' => e = .returned (.string r) /\ Below w.heap.size w w' := by
 have HB := Aside0.mk (zpw w.heap.size w); have HG := Aside0.mk hG; clear hG; have H : ((strconv_Itoa.f (mx a0 0)).bind fun t104 => (some t104)) = some r := h
 clear h; obtain ⟨ji2, hji2⟩ : ∃ j_ : Int, (mx a0 0) = j_ := ⟨_, rfl⟩; replace H : ((strconv_Itoa.f (ji2)).bind fun t104 => (some t104)) = some r := by first | (rw [hji2] at H; exact H) | (simp only [hji2] at H |-; exact H)
 (try (have hji2l : 0 <= ji2 := by (rw [<- hji2]; unfold mx; (repeat' split) <;> omega)))
 (try (have hji2m : 0 <= ji2 := by omega))
 have hji2_ : (if a0 < 0 then 0 else a0) = ji2 := hji2
 replace H := zpJ.mp H
 obtain ⟨t104, A30, H⟩ := H; replace H : (some t104) = some r := H
 have A3 := Aside0.mk A30; clear A30; obtain rfl := zp6 H; go_enter Tryz.func82, Tryz.ntmps82
 go_wp2_with (first | ((with_reducible refine zbU (f := 128) rfl ?_); refine zbS (some 5) rfl rfl Tryz.func128 (by kernel_rfl) rfl #[.int .i64 ji2] rfl (by (try simp only [List.map_toArray, zpX, zpY]); first | done | (simp only [hji2]; rfl) | rfl | (simp only [List.length_drop, zpI]; rfl)) ?_; (with_reducible refine (strconv_Itoa.calls ji2 t104 _ ?side99 A3.out).mono ?_); (case side99 => exact GOK.below HG.out (by repeat (first | (with_reducible first | exact HB.out | apply zas | apply zaq | apply zat) | exact HB.out))); rintro e w4 ⟨rfl, hb⟩; refine ⟨_, rfl, ?_⟩; have n0_ := Aside0.mk (zbL (by repeat (first | (with_reducible first | exact HB.out | apply zas | apply zaq | apply zat) | exact HB.out)) hb); clear HB; have HB := n0_; clear n0_; (try clear hb); (try clear hb2); (try clear hk); (try clear hi)))
 go_ret
 exact ⟨by first | rfl | (simp [zbm, zbp] <;> rfl) | (simp only [<- hji2]; first | rfl | (simp [zbm, zbp] <;> rfl)) | (simp [*, zbm, zbp] <;> rfl), by repeat (first | (with_reducible first | exact HB.out | apply zas | apply zaq | apply zat) | exact HB.out)⟩
def shipwrightlaw1_Short.f (a0 : ByteArray) (a1 : Int) : Option (ByteArray) := if 0 <= (mn (a0.size : Int) a1) then (if (mn (a0.size : Int) a1) <= (a0.size : Int) then (some (a0.extract 0 ((mn (a0.size : Int) a1) : Int).toNat)) else (none)) else (none)
mutual
def shipwrightlaw1_Vals.l0 : Nat -> List (S34) -> List (S34) -> Int -> Option ((List (S34)))
 | 0, _, _, _ => none
 | k + 1, x0, x3, x4 => if x4 < (x0.length : Int) then (shipwrightlaw1_Vals.j1 k x0 x3 x4 (decide (x4 < 10))) else (shipwrightlaw1_Vals.j1 k x0 x3 x4 false)
def shipwrightlaw1_Vals.j1 : Nat -> List (S34) -> List (S34) -> Int -> Bool -> Option ((List (S34)))
 | 0, _, _, _, _ => none
 | k + 1, x0, x3, x4, x13 => if x13 = true then (if 0 <= x4 then (if x4 < (x0.length : Int) then (if ((za9 x0 x4).f0 = true) then (if x3.length < 5864062014805 then (shipwrightlaw1_Vals.l0 k x0 (x3 ++ [(⟨(za9 x0 x4).f0, (za9 x0 x4).f1⟩ : S34)]) (wrap64 (x4 + 1))) else (none)) else (if x3.length < 5864062014805 then (shipwrightlaw1_Vals.l0 k x0 (x3 ++ [(⟨(za9 x0 x4).f0, (⟨#[]⟩ : ByteArray)⟩ : S34)]) (wrap64 (x4 + 1))) else (none))) else (none)) else (none)) else (some x3)
end
def shipwrightlaw1_Vals.f (k : Nat) (l0 : List (S34)) : Option ((List (S34))) := shipwrightlaw1_Vals.l0 k l0 ([] : List (S34)) 0
theorem shipwrightlaw1_Vals.mono_l : ∀ k, (∀ y0 y1 y2, LeO (shipwrightlaw1_Vals.l0 k y0 y1 y2) (shipwrightlaw1_Vals.l0 (k + 1) y0 y1 y2)) /\ (∀ y0 y1 y2 y3, LeO (shipwrightlaw1_Vals.j1 k y0 y1 y2 y3) (shipwrightlaw1_Vals.j1 (k + 1) y0 y1 y2 y3))
 | 0 => ⟨fun _ _ _ r h => by simp [shipwrightlaw1_Vals.l0] at h, fun _ _ _ _ r h => by simp [shipwrightlaw1_Vals.j1] at h⟩
 | k + 1 => by
  obtain ⟨ih0, ih1⟩ := shipwrightlaw1_Vals.mono_l k; refine ⟨?_, ?_⟩
  . intro y0 y1 y2
    unfold shipwrightlaw1_Vals.l0; repeat' first
    | (with_reducible exact ih0 _ _ _)
    | (with_reducible exact ih1 _ _ _ _)
    | (with_reducible exact LeO.refl _)
    | (with_reducible exact LeO.none _)
    | (with_reducible refine LeO.ite ?_ ?_)
    | (with_reducible refine LeO.bind ?_ (fun _ => ?_))
    | exact ih0 _ _ _
    | exact ih1 _ _ _ _
    | exact LeO.none _
    | refine LeO.ite ?_ ?_
    | refine LeO.bind ?_ (fun _ => ?_)
  . intro y0 y1 y2 y3
    unfold shipwrightlaw1_Vals.j1; repeat' first
    | (with_reducible exact ih0 _ _ _)
    | (with_reducible exact ih1 _ _ _ _)
    | (with_reducible exact LeO.refl _)
    | (with_reducible exact LeO.none _)
    | (with_reducible refine LeO.ite ?_ ?_)
    | (with_reducible refine LeO.bind ?_ (fun _ => ?_))
    | exact ih0 _ _ _
    | exact ih1 _ _ _ _
    | exact LeO.none _
    | refine LeO.ite ?_ ?_
    | refine LeO.bind ?_ (fun _ => ?_)
theorem shipwrightlaw1_Vals.mono : ∀ a0 k, LeO (shipwrightlaw1_Vals.f k a0) (shipwrightlaw1_Vals.f (k + 1) a0) := by
 intro a0 k; obtain ⟨ih0, ih1⟩ := shipwrightlaw1_Vals.mono_l k; unfold shipwrightlaw1_Vals.f; repeat' first
  | (with_reducible exact ih0 _ _ _)
  | (with_reducible exact ih1 _ _ _ _)
  | (with_reducible exact LeO.refl _)
  | (with_reducible exact LeO.none _)
  | (with_reducible refine LeO.ite ?_ ?_)
  | (with_reducible refine LeO.bind ?_ (fun _ => ?_))
  | exact ih0 _ _ _
  | exact ih1 _ _ _ _
  | exact LeO.none _
  | refine LeO.ite ?_ ?_
  | refine LeO.bind ?_ (fun _ => ?_)
end Pb
namespace X
open Go.RowKit YtdpgdnpddndeoaaGreatDoorW.PrintWords
def zcP (n : Nat) : Bool := decide (97 <= n /\ n <= 122 \/ 65 <= n /\ n <= 90 \/ 48 <= n /\ n <= 57 \/ n = 46 \/ n = 95 \/ n = 45)
theorem zjx (c : UInt8) : zcP c.toNat = sign c := by
 unfold zcP sign; rw [Bool.eq_iff_iff]; simp only [decide_eq_true_eq, Bool.or_eq_true, Bool.and_eq_true, beq_iff_eq, UInt8.le_iff_toNat_le, <- UInt8.toNat_inj]; simp
 omega
theorem zlT (n : Nat) (h : 128 <= n) : zcP n = false := by
 unfold zcP; simp
 omega
theorem znC (n : Nat) : Pa.path_sign.f (n : Int) = some (zcP n) := by
 unfold Pa.path_sign.f zcP; rw [Option.some.injEq, Bool.eq_iff_iff]; simp
 omega
theorem zg5 (p : Nat -> Bool) (hp : ∀ x, 128 <= x -> p x = true) (s : ByteArray) : ∀ (f pos : Nat), s.size <= pos + f ->
 decide (0 <= Lib.idxFuncFrom p true s f pos) = (s.data.toList.drop pos).any (fun c => p c.toNat)
 | 0, pos, h => by
  have : s.data.toList.drop pos = [] := zqj (by rw [<- zqc]; omega)
  rw [this]; rfl
 | f + 1, pos, h => by
  unfold Lib.idxFuncFrom; by_cases hps : pos < s.size
  . rw [if_pos hps]
    have hl : pos < s.data.toList.length := by rw [<- zqc]; exact hps
    have hd : s.data.toList.drop pos = s.data.toList[pos] :: s.data.toList.drop (pos + 1) := (List.drop_eq_getElem_cons hl); have hb : s.data.toList[pos] = s[pos]'hps := rfl; rw [hd, hb, List.any_cons]; by_cases ha : (s[pos]'hps).toNat < 128
    . rw [decode_ascii s pos hps ha]
      by_cases hq : p (s[pos]'hps).toNat = true
      . rw [if_pos hq, hq]
        simp
      . rw [if_neg hq, zg5 p hp s f (pos + 1) (by omega)]
        simp only [Bool.not_eq_true] at hq; rw [hq]; simp
    . obtain ⟨h1, _⟩ := decode_high s pos hps (by omega)
      rw [if_pos (hp _ h1), hp _ (by omega)]
      simp
  . rw [if_neg hps]
    have : s.data.toList.drop pos = [] := zqj (by rw [<- zqc]; omega)
    rw [this]; rfl
theorem zmg (p : Nat -> Bool) (hp : ∀ x, 128 <= x -> p x = true) (s : ByteArray) : decide (0 <= Lib.idxFunc p true s) = s.data.toList.any (fun c => p c.toNat) := by
 unfold Lib.idxFunc; rw [zg5 p hp s s.size 0 (by omega)]
 rfl
theorem eg64 : ∀ args w, (callFunc 173 args).run zp5 w = .ok (.enter 173 args) w := Go.Proofs.enters_of Tryz.func173 (by kernel_rfl) rfl
theorem zoR (s : ByteArray) (w : World) (hG : GOK w) :
 Calls zp5 172 #[.string s, .func (.func 173) #[] #[]] w fun e w' => e = .returned (.bool (s.data.toList.any (fun c => !sign c))) /\ Below w.heap.size w w' := by
 have hp : Go.Proofs.PredAtRunes zp5 173 #[] (fun n => !zcP n) w := by
  intro W x _ hb; refine (Pa.path_bad_1.calls (x : Int) (!zcP x) W (hG.below hb) ?_).mono fun e w' ⟨he, hd⟩ => ⟨he, hd.out⟩
  unfold Pa.path_bad_1.f; rw [znC]; rfl
 have h := Go.Proofs.Any.strings_ContainsFunc_runes Go.Proofs.Tryz.laysGw17 173 #[] eg64 (fun n => !zcP n) s w hp
 refine h.mono fun e w' ⟨he, hb⟩ => ⟨?_, hb⟩
 rw [he, zmg _ (fun x hx => by rw [zlT x hx]; rfl)]
 simp only [zjx]
def path_bad.f (a0 : ByteArray) : Option Bool := some (bad a0.data.toList)
theorem path_bad.calls (a0 : ByteArray) (r : Bool) (w : World) (hG : GOK w) (h : path_bad.f a0 = some r) :
 Calls zp5 136 #[.string a0] w fun e w' => e = .returned (.bool r) /\ Below w.heap.size w w' := by
 unfold path_bad.f bad at h; have hc := zoR a0 w hG; generalize (a0.data.toList.any fun c => !sign c) = q at hc h
 rw [<- zbh] at h; by_cases h1 : a0.toList = []
 . have e1 : (a0.toList == []) = true := by simp [h1]
   have hr : r = true := by rw [h1] at h; simpa using h.symm
   subst hr; clear h hc h1; go_enter Tryz.func136, Tryz.ntmps136
   go_wp2; go_ret
   exact ⟨rfl, zpw _ _⟩
 . have e1 : (a0.toList == []) = false := by simp [h1]
   by_cases h2 : a0.toList = [46]
   . have e2 : (a0.toList == [46]) = true := by simp [h2]
     have hr : r = true := by rw [h2] at h; simpa using h.symm
     subst hr; clear h hc h1 h2; go_enter Tryz.func136, Tryz.ntmps136
     go_wp2; go_ret
     exact ⟨rfl, zpw _ _⟩
   . have e2 : (a0.toList == [46]) = false := by simp [h2]
     by_cases h3 : a0.toList = [46, 46]
     . have e3 : (a0.toList == [46, 46]) = true := by simp [h3]
       have hr : r = true := by rw [h3] at h; simpa using h.symm
       subst hr; clear h hc h1 h2 h3; go_enter Tryz.func136, Tryz.ntmps136
       go_wp2; go_ret
       exact ⟨rfl, zpw _ _⟩
     . have e3 : (a0.toList == [46, 46]) = false := by simp [h3]
       have hr : r = q := by rw [e1, e2, e3] at h; simpa using h.symm
       subst hr; clear h h1 h2 h3; go_enter Tryz.func136, Tryz.ntmps136
       go_wp2_with (go_at_call 172; refine hc.mono ?_; rintro e w2 ⟨rfl, hb2⟩)
       go_ret
       exact ⟨rfl, hb2⟩
end X
namespace X
open Go.RowKit Go.Sort YtdpgdnpddndeoaaGreatDoorW.PrintWords
theorem zmK {w : World} {g n : Nat} {os : Array Obj} {cur : Array Value} {e : TypeId} {fr : Nat × Nat} (d : Array ByteArray) (hb : w.heap[g]? = some (.cells cur e fr)) :
 (grow (putRow Value.string (Sort.ahead w n) g 0 d) os).heap[g]? = some (.cells (putCells Value.string 0 d cur) e fr) := by
 have hg : g < w.heap.size := (zpy.1 hb).1; rw [heap_grow_old _ _ (by simpa using hg)]
 simp [putRow, mapBlock, Sort.ahead, zqg, hb, onCells]
theorem zio {w : World} {g n : Nat} {os : Array Obj} (d : Array ByteArray) : w.grownBy (grow (putRow Value.string (Sort.ahead w n) g 0 d) os) (some g) := by
 refine ⟨rfl, rfl, rfl, by simp, fun k hk hne => ?_⟩
 rw [heap_grow_old _ _ (by simpa using hk)]
 have : g ≠ k := fun e => hne (by rw [e])
 simp [putRow, mapBlock, Sort.ahead, zqg, this]
theorem zmA (cur : Array Value) (ts rest : List ByteArray) (h : ts.length + rest.length <= cur.size) : (putCells Value.string 0 (ts ++ rest).toArray cur).toList.take ts.length = ts.map Value.string := by
 apply List.ext_getElem?
 intro j; by_cases hj : j < ts.length
 . rw [zql hj, zqi]
   simp [putCells, hj, show j < cur.size by omega, show j < ts.length + rest.length by omega, List.getElem_append_left]
 . rw [List.getElem?_take_eq_none (by omega), List.getElem?_eq_none (by simp; omega)]
theorem zhE {B : Nat} {w w1 : World} {g : Nat} (hg : w.grownBy w1 (some g)) (hB : B <= w.heap.size) (hBg : B <= g) : Below B w w1 := (zpw B w).grown hg hB (fun k hk => by cases hk; exact hBg)
theorem zlE {w : World} {g : Nat} {cur : Array Value} {e : TypeId} {ss : List ByteArray} (hb : w.heap[g]? = some (.cells cur e (0, 0))) (ht : cur.toList.take ss.length = ss.map Value.string) : Holds Value.string w g 0 ss.toArray := by
 intro j hj; have hj' : j < ss.length := by simpa using hj
 refine ⟨?_, by simp [World.frozen?, hb]⟩
 have h1 : (cur.toList.take ss.length)[j]? = (ss.map Value.string)[j]? := by rw [ht]
 rw [zql hj'] at h1; simp only [World.cell?, hb, Nat.zero_add]; simp only [zqm, Bool.false_eq_true, if_false]; rw [<- zqi, h1]; simp [hj']
theorem zkD (B base g : Nat) (lb : Array Value) (eg : ∀ args w, (callFunc g args).run zp5 w = .ok (.enter g args) w) (p : ByteArray -> Bool) (v : Value) (l : List ByteArray) (w : World)
 (hown : w.ownsRow base 9 1 v l.length (encs Value.string l)) (hB : B <= base) (hBw : B <= w.heap.size) (hp : ∀ (W : World) (x : ByteArray), Below B w W -> Go.Proofs.FnGives zp5 g lb #[.string x] (.bool (p x)) W) :
 Calls zp5 86 #[v, .func (.func g) #[] lb] w fun e w' => ∃ v', e = .returned v' /\ w'.ownsRow base 9 1 v' (l.filter fun x => !p x).length (encs Value.string (l.filter fun x => !p x)) /\ v'.ownBlock = v.ownBlock /\ w.grownBy w' v.ownBlock := by
 have hlen : l.length <= 9223372036854775807 := by
  rcases hown.2 with ⟨_, h0⟩ | ⟨_, cap, cur, _, _, _, h1, h2, _⟩
  . omega
  . simp only [maxLen] at h2; omega
 rcases hown.2 with ⟨rfl, h0⟩ | ⟨gb, cap, cur, rfl, hbase, hb, h1, h2, h3, h4⟩
 . obtain rfl : l = [] := List.eq_nil_of_length_eq_zero h0
   have hI := ziC g lb eg p none 0 [] w ⟨rfl, by simp, fun h => absurd h (by simp)⟩ (fun W x hb => (hp W x (hb.mono hBw)).mono fun e w' ⟨he, q, hw⟩ => ⟨he, by subst hw; exact zaq (zpw _ _) q⟩)
   clear hp hown h0; go_enter Tryz.func86, Tryz.ntmps86
   go_wp2_with fail; refine hI.mono ?_; rintro e w2 ⟨i, rfl, hq, hi, hb2⟩; have hi' : i = -1 := by
    rcases hi with hi | hi
    . exact hi
    . simp [hi] at hq
   subst hi'; clear hq hi hI; go_wp2; go_ret
   exact ⟨.slice none 0 0, rfl, zcX _ _ _ _, rfl, zb0 hb2 _⟩
 . have hH : Holds Value.string w gb 0 l.toArray := zlE hb (by simpa [encs] using h4)
   have hcall := Go.Proofs.AnyE.slices_DeleteFunc Go.Proofs.Tryz.laysDel Value.string (fun _ => rfl) p g lb eg zqa Tryz.zeroValue9 gb 0 cap l.toArray w
    (fun W x hb => hp W x (hb.mono hBw))
    (fun n os dk x _ => hp _ x (zhE (zio dk) hBw (by omega))) hH (by simpa using hlen) (by simpa using h1)
   change Calls zp5 86 _ _ _ at hcall
   refine hcall.mono fun e w' ⟨he, q, hw⟩ => ?_
   have hf : (l.filter fun x => !p x).length <= l.length := zqn _ _
   have hg0 : w' = grow (putRow Value.string (Sort.ahead w q) gb 0 ((l.filter fun x => !p x) ++ List.replicate (l.length - (l.filter fun x => !p x).length) zqa).toArray) #[] := by rw [hw]; simp
   refine ⟨_, he, ?_, rfl, ?_⟩
   . refine ⟨by simp [encs], .inr ⟨gb, cap, _, rfl, hbase, by rw [hg0]; exact zmK _ hb, by simpa using zpD hf h1, h2, by simp [putCells, h3], ?_⟩⟩
     simp only [Nat.mul_one]; exact zmA cur _ _ (by rw [List.length_replicate]; omega)
   . rw [hg0]; exact zio _
end X
namespace X
open Go.RowKit YtdpgdnpddndeoaaGreatDoorW.PrintWords
theorem eg44 : ∀ args w, (callFunc 136 args).run zp5 w = .ok (.enter 136 args) w := Go.Proofs.enters_of Tryz.func136 (by kernel_rfl) rfl
theorem zlJ (w : World) (hG : GOK w) : zd2 136 #[] (fun x => bad x.data.toList) w := fun W x hb => path_bad.calls x _ W (hG.below hb) rfl
theorem zon (s : ByteArray) (w : World) (hG : GOK w) (hs : s.size < 4294967281) :
 Calls zp5 135 #[.string s] w fun e w' => ∃ v : Value, e = .returned v /\ Kd.R zqb 9 w' w.heap.size (fun _ => True) v ((parts s.data.toList).map mk) /\ Below w.heap.size w w' :=
 Pb.path_Parts.calls s _ w hG (by unfold Pb.path_Parts.f; rw [strings_Split.one s 47 hs]; rfl)
def path_May.f (a0 : ByteArray) : Option Bool := some (may a0.data.toList)
theorem path_May.calls (a0 : ByteArray) (r : Bool) (w : World) (hG : GOK w) (h : path_May.f a0 = some r) :
 Calls zp5 102 #[.string a0] w fun e w' => e = .returned (.bool r) /\ Below w.heap.size w w' := by
 have hr : may a0.data.toList = r := zp6 h; clear h; unfold may at hr; rw [<- zqc, <- zbh] at hr; by_cases h1 : a0.toList = [114, 117, 108, 101]
 . have e1 : (a0.toList == [114, 117, 108, 101]) = true := by simp [h1]
   rw [e1] at hr; have hr' : r = false := by simpa using hr.symm
   subst hr'; clear hr h1; go_enter Tryz.func102, Tryz.ntmps102
   go_wp2; go_ret
   exact ⟨rfl, zpw _ _⟩
 have e1 : (a0.toList == [114, 117, 108, 101]) = false := by simp [h1]
 by_cases h2 : a0.toList = [105, 110]
 . have e2 : (a0.toList == [105, 110]) = true := by simp [h2]
   rw [e2] at hr; have hr' : r = false := by simpa using hr.symm
   subst hr'; clear hr h1 h2; go_enter Tryz.func102, Tryz.ntmps102
   go_wp2; go_ret
   exact ⟨rfl, zpw _ _⟩
 have e2 : (a0.toList == [105, 110]) = false := by simp [h2]
 by_cases h3 : a0.toList = [111, 117, 116]
 . have e3 : (a0.toList == [111, 117, 116]) = true := by simp [h3]
   rw [e3] at hr; have hr' : r = false := by simpa using hr.symm
   subst hr'; clear hr h1 h2 h3; go_enter Tryz.func102, Tryz.ntmps102
   go_wp2; go_ret
   exact ⟨rfl, zpw _ _⟩
 have e3 : (a0.toList == [111, 117, 116]) = false := by simp [h3]
 by_cases h4 : a0.toList = [97, 102, 116, 101, 114]
 . have e4 : (a0.toList == [97, 102, 116, 101, 114]) = true := by simp [h4]
   rw [e4] at hr; have hr' : r = false := by simpa using hr.symm
   subst hr'; clear hr h1 h2 h3 h4; go_enter Tryz.func102, Tryz.ntmps102
   go_wp2; go_ret
   exact ⟨rfl, zpw _ _⟩
 have e4 : (a0.toList == [97, 102, 116, 101, 114]) = false := by simp [h4]
 rw [e1, e2, e3, e4] at hr; clear h1 h2 h3 h4; by_cases hl : a0.size <= 40
 . have hl1 : decide ((a0.size : Int) <= 40) = true := by simp; omega
   have hl2 : decide (a0.size <= 40) = true := by simp [hl]
   have hr' : r = !(parts a0.toList).any bad := by rw [hl2] at hr; simpa using hr.symm
   clear hr hl2; have hP := zon a0 w hG (by omega)
   rw [<- zbh] at hP; generalize hps : (parts a0.toList).map mk = ps at hP; have HPS := zpt hps; clear hps; have HG := zpt hG; clear hG; have HR := zpt hr'; clear hr'; go_enter Tryz.func102, Tryz.ntmps102
   go_wp2_with fail; refine hP.mono ?_; rintro e w2 ⟨v, rfl, hv, hb2⟩; obtain ⟨A, c, rfl, hc, hrd⟩ := zqq hv; have hC := zdM 136 #[] eg44 (fun x => bad x.data.toList) A c _ w2 hrd (zlJ w2 (HG.out.below hb2))
   have ea : ps.any (fun x => bad x.data.toList) = (parts a0.toList).any bad := by
    rw [<- HPS.out]; simp only [List.any_map, Function.comp_def, zbd]
   rw [ea] at hC; clear hv hrd hc ea hP HPS; generalize (parts a0.toList).any bad = q at hC HR; go_wp2_with fail; refine hC.mono ?_; rintro e w3 ⟨rfl, hb3⟩; go_wp2; go_ret
   exact ⟨by rw [HR.out]; rfl, zac hb2 hb2.size hb3⟩
 . have hl1 : decide ((a0.size : Int) <= 40) = false := by simp; omega
   have hl2 : decide (a0.size <= 40) = false := by simp [hl]
   have hr' : r = false := by rw [hl2] at hr; simpa using hr.symm
   subst hr'; clear hr hl2; go_enter Tryz.func102, Tryz.ntmps102
   go_wp2; go_ret
   exact ⟨rfl, zpw _ _⟩
theorem zmT {B : Nat} {w w1 w2 : World} {v : Value} (h : Below B w w1) (hB : B <= w1.heap.size) (hg : w1.grownBy w2 v.ownBlock) (hv : ∀ k, v.ownBlock = some k -> B <= k) : Below B w w2 := h.grown hg hB hv
theorem zc6 (A : Option Addr) (c : Nat) (l : List ByteArray) (w : World) (hr : Kd.C zqb w A l.length l) (hl : l.length * 16 <= 140737488355328) :
 Calls zp5 99 #[.slice A l.length c] w fun e w' => ∃ v', e = .returned v' /\ w'.ownsRow w.heap.size 9 1 v' l.length (encs Value.string l) /\ Below w.heap.size w w' := by
 rcases zaX hr with rfl | ⟨b, o, rfl, _, hcell⟩
 . cases A with
   | none =>
    have h := Go.Proofs.Any.slices_Clone_string_nil Go.Proofs.Tryz.laysClone 0 c w; change Calls zp5 99 _ _ _ at h
    exact h.mono fun e w' ⟨he, hw⟩ => ⟨_, he, zcX _ _ _ _, by subst hw; exact zpw _ _⟩
   | some a =>
    have h := Go.Proofs.Any.slices_Clone_string_zero Go.Proofs.Tryz.laysClone a c w; change Calls zp5 99 _ _ _ at h
    exact h.mono fun e w' ⟨v', he, ho, _, hb⟩ => ⟨v', he, ho, hb⟩
 . have h := Go.Proofs.Any.slices_Clone_string Go.Proofs.Tryz.laysClone b o l.length c l w (zpx _) hl hcell
   change Calls zp5 99 _ _ _ at h
   exact h.mono fun e w' ⟨v', he, ho, _, hb⟩ => ⟨v', he, by rw [zqf] at ho; exact ho, hb⟩
theorem eg46 : ∀ args w, (callFunc 224 args).run zp5 w = .ok (.enter 224 args) w := Go.Proofs.enters_of Tryz.func224 (by kernel_rfl) rfl
def path_Join.f (l0 : List ByteArray) : Option ByteArray :=
 if l0.length * 16 <= 140737488355328 /\ (join (l0.map (·.data.toList))).length <= 140737488355328 then some (mk (join (l0.map (·.data.toList)))) else none
theorem zn3 (l : List ByteArray) : ((l.filter fun x => !(x.toList == [])).map (·.data.toList)) = (l.map (·.data.toList)).filter fun s => !(s == []) := by
 rw [List.filter_map]; congr 1
 simp only [zbh]; rfl
theorem path_Join.calls (A0 : Option Addr) (c0 : Nat) (l0 : List ByteArray) (r : ByteArray) (w : World) (hG : GOK w) (hr0 : Kd.C zqb w A0 l0.length l0) (_hc0 : l0.length <= c0) (h : path_Join.f l0 = some r) :
 Calls zp5 187 #[.slice A0 l0.length c0] w fun e w' => e = .returned (.string r) /\ Below w.heap.size w w' := by
 unfold path_Join.f at h; split at h
 . rename_i hs
   have hr := zp6 h; have h1 := zc6 A0 c0 l0 w hr0 hs.1; have hjoin : strings_Join.f (l0.filter fun x => !(x.toList == [])) (⟨#[47]⟩ : ByteArray) = some r := by
    unfold strings_Join.f; rw [zn3]; have hlen : (l0.filter fun x => !(x.toList == [])).length <= l0.length := zqn _ _
    rw [if_pos ⟨by omega, hs.2⟩, <- hr]
    rfl
   clear h hr hr0; generalize hf : (l0.filter fun x => !(x.toList == [])) = lf at hjoin
   have HF := zpt hf; clear hf; have HJ := zpt hjoin; clear hjoin; have HG := zpt hG; clear hG hs; go_enter Tryz.func187, Tryz.ntmps187
   go_wp2_with fail; refine h1.mono ?_; rintro e w1 ⟨v1, rfl, ho1, hb1⟩; have h2 := zkD w.heap.size w.heap.size 224 #[] eg46 (fun x => x.toList == []) v1 l0 w1 ho1 (zpx _) hb1.size (fun W x hb => by
    refine (Pa.path_Join_1.calls x (x.toList == []) W (HG.out.below (hb1.trans hb)) rfl).mono fun e w' ⟨he, hd⟩ => ⟨he, hd.out⟩)
   rw [HF.out] at h2; have HB1 := zpt hb1; have HV1 : Hid (∀ k, v1.ownBlock = some k -> w.heap.size <= k) := zcy ho1; clear hb1 ho1 h1; go_wp2_with fail; refine h2.mono ?_; rintro e w2 ⟨v2, rfl, ho2, _, hg2⟩; have hb2 : Below w.heap.size w w2 := zmT HB1.out HB1.out.size hg2 HV1.out; obtain ⟨A, c, rfl, hc, hrd⟩ := zqq (Kd.R_of_own (h1 := fun _ => rfl) (ok := fun _ => True) ho2 (fun _ _ => trivial))
   have h3 := strings_Join.calls A c lf (⟨#[47]⟩ : ByteArray) r w2 (HG.out.below hb2) hrd hc HJ.out; clear ho2 hg2 hc hrd h2; go_wp2_with fail; refine h3.mono ?_; rintro e w3 ⟨rfl, hb3⟩; go_wp2; go_ret
   exact ⟨rfl, zac hb2 hb2.size hb3⟩
 . cases h
theorem zkg (n : Int) (h : 0 <= n) : Lib.itoa n = zaZ n := by
 unfold Lib.itoa zaZ; rw [if_neg (by omega)]
theorem zfb (n : Int) (h0 : 0 <= n) (h1 : n <= 9223372036854775807) (w : World) (hG : GOK w) :
 Calls zp5 82 #[.int .i64 n] w fun e w' => e = .returned (.string (mk (zaZ n))) /\ Below w.heap.size w w' := by
 refine Pb.mint_Number.calls n _ w hG ?_; unfold Pb.mint_Number.f; have e : mx n 0 = n := by unfold mx; omega
 rw [e]; unfold strconv_Itoa.f; rw [if_pos ⟨by omega, h1⟩, zkg n h0]
 rfl
def zet (s : zaa) (most : Int) : Int × Bool :=
 match Lib.atoiAll s with
 | .ok v => if v < 0 then (0, false) else if most < v then (0, false) else if zaZ v == s then (v, true) else (0, false)
 | _ => (0, false)
def mint_GetNumber.f (a0 : ByteArray) (a1 : Int) : Option (Int × Bool) := if a0.size <= 281474976710656 then some (zet a0.data.toList a1) else none
theorem mint_GetNumber.calls (a0 : ByteArray) (a1 : Int) (r1 : Int) (r2 : Bool) (w : World) (hG : GOK w) (h : mint_GetNumber.f a0 a1 = some (r1, r2)) :
 Calls zp5 186 #[.string a0, .int .i64 a1] w fun e w' => e = .returned (.tuple #[.int .i64 r1, .bool r2]) /\ Below w.heap.size w w' := by
 unfold mint_GetNumber.f at h; split at h
 . rename_i hs
   have hr := zp6 h; clear h; unfold zet at hr; cases ha : Lib.atoiAll a0.data.toList
   . rename_i v
     rw [ha] at hr; dsimp only at hr; obtain ⟨hv0, hv1⟩ := Lib.atoiAll_bounds ha; have hA := Go.Proofs.Any.strconv_Atoi_ok Go.Proofs.Tryz.laysC172 a0 (by omega) v ha w
     change Calls zp5 223 _ _ _ at hA
     have hA' : Calls zp5 223 #[.string a0] w fun e w' => e = .returned (.tuple #[.int .i64 v, .nilIface]) /\ Below w.heap.size w w' := hA.mono fun e w' ⟨he, hw⟩ => ⟨he, by
      rcases hw with hw | ⟨t, hw⟩
      . subst hw; exact zpw _ _
      . subst hw; exact Go.Joins.below_bytesWorld _ _ _ _ (zpx _)⟩
     clear hA ha; by_cases hn : v < 0
     . have hd : decide (v < 0) = true := by simp [hn]
       rw [if_pos hn] at hr; cases hr
       clear hG; go_enter Tryz.func186, Tryz.ntmps186
       go_wp2_with (go_at_call 223; refine hA'.mono ?_; rintro e w2 ⟨rfl, hb2⟩)
       go_ret2
       exact ⟨rfl, hb2⟩
     have hd : decide (v < 0) = false := by simp; omega
     rw [if_neg hn] at hr; by_cases hm : a1 < v
     . have hd2 : decide (a1 < v) = true := by simp [hm]
       rw [if_pos hm] at hr; cases hr
       clear hG; go_enter Tryz.func186, Tryz.ntmps186
       go_wp2_with (go_at_call 223; refine hA'.mono ?_; rintro e w2 ⟨rfl, hb2⟩)
       go_ret2
       exact ⟨rfl, hb2⟩
     have hd2 : decide (a1 < v) = false := by simp; omega
     rw [if_neg hm, <- zbh] at hr; have HG := zpt hG; clear hG; have hN := fun W (h : GOK W) => zfb v (by omega) hv1 W h
     have et : (mk (zaZ v)).toList = zaZ v := zlr _; generalize mk (zaZ v) = nv at hN et; rw [<- et] at hr; clear et; by_cases hq : nv.toList = a0.toList
     . have e1 : (nv.toList != a0.toList) = false := by simp [hq]
       have e2 : (nv.toList == a0.toList) = true := by simp [hq]
       rw [e2] at hr; cases hr
       clear hq; have HN := zpt hN; clear hN; go_enter Tryz.func186, Tryz.ntmps186
       go_wp2_with fail; refine hA'.mono ?_; rintro e w2 ⟨rfl, hb2⟩; go_wp2_with (go_at_call 82; refine (HN.out _ (HG.out.below hb2)).mono ?_; rintro e w3 ⟨rfl, hb3⟩)
       go_ret2
       exact ⟨rfl, zac hb2 hb2.size hb3⟩
     . have e1 : (nv.toList != a0.toList) = true := by simp [hq]
       have e2 : (nv.toList == a0.toList) = false := by simp [hq]
       rw [e2] at hr; cases hr
       clear hq; have HN := zpt hN; clear hN; go_enter Tryz.func186, Tryz.ntmps186
       go_wp2_with fail; refine hA'.mono ?_; rintro e w2 ⟨rfl, hb2⟩; go_wp2_with (go_at_call 82; refine (HN.out _ (HG.out.below hb2)).mono ?_; rintro e w3 ⟨rfl, hb3⟩)
       go_ret2
       exact ⟨rfl, zac hb2 hb2.size hb3⟩
   . rw [ha] at hr
     cases hr
     obtain ⟨te, pe, hev⟩ := hG.errS; have hA := Go.Proofs.Any.strconv_Atoi_syntax Go.Proofs.Tryz.laysC172 a0 hs ha _ w hev (.inr ⟨te, pe, rfl⟩); change Calls zp5 223 _ _ fun e w' => ∃ N, e = .returned (.tuple #[_, .iface 255 _]) /\ _ at hA
     clear hG hev ha; go_enter Tryz.func186, Tryz.ntmps186
     go_wp2_with (go_at_call 223; refine hA.mono ?_; rintro e w2 ⟨N, rfl, _, _, hb2⟩)
     go_ret2
     exact ⟨rfl, hb2⟩
   . rw [ha] at hr
     cases hr
     obtain ⟨te, pe, hev⟩ := hG.errR; have hA := Go.Proofs.Any.strconv_Atoi_range Go.Proofs.Tryz.laysC172 a0 hs ha _ w hev (.inr ⟨te, pe, rfl⟩); change Calls zp5 223 _ _ fun e w' => ∃ N, e = .returned (.tuple #[_, .iface 255 _]) /\ _ at hA
     clear hG hev ha; generalize Lib.atoiSat a0.data.toList = sat at hA; go_enter Tryz.func186, Tryz.ntmps186
     go_wp2_with (go_at_call 223; refine hA.mono ?_; rintro e w2 ⟨N, rfl, _, _, hb2⟩)
     go_ret2
     exact ⟨rfl, hb2⟩
 . cases h
theorem zkz {T e : TypeId} {B b : Nat} {bs : List Value} {w w1 : World} (h : Lib.IsBuilder T e B b bs w) (hb : Below w.heap.size w w1) : Lib.IsBuilder T e B b bs w1 := by
 have one : ∀ p, Lib.BuilderAt T e B b p bs w -> Lib.BuilderAt T e B b p bs w1 := by
  rintro p ⟨hB, v, hh, ho, hne⟩; exact ⟨hB, v, (hb.block b (zpy.1 hh).1).trans hh, zgq ho hb, hne⟩
 rcases h with h | h
 . exact .inl (one _ h)
 . exact .inr (one _ h)
theorem zki (l m : zaa) (s : ByteArray) (h : s.data.toList = m) : Lib.byteCells l ++ Lib.strCells s = Lib.byteCells (l ++ m) := by
 subst h; unfold Lib.byteCells Lib.strCells; rw [zqo]
theorem zm5 (l : zaa) : (Lib.byteCells l).length = l.length := by simp [Lib.byteCells]
theorem zjJ (l : List zaa) (k : Nat) (h : k < l.length) : put (l.take (k + 1)) = put (l.take k) ++ (zaZ (l[k].length) ++ [58] ++ l[k]) := by
 unfold put; rw [zpZ h, zqo, List.flatten_append]; simp
theorem zlB (l : List zaa) (k : Nat) : (put (l.take k)).length <= (put l).length := by
 have : put l = put (l.take k) ++ put (l.drop k) := by
  unfold put; rw [<- List.flatten_append, <- zqo, List.take_append_drop]
 rw [this, zpK]; omega
theorem zir (B b : Nat) (l : zaa) (s : ByteArray) (w : World) (h : Lib.IsBuilder 150 5 B b (Lib.byteCells l) w) (hlen : l.length + s.size <= 140737488355328) (hBw : B <= w.heap.size) :
 Calls zp5 124 #[.pointer (some ⟨b, 0, none⟩), .string s] w fun e w' => e = .returned (.tuple #[.int .i64 s.size, .nilIface]) /\ Lib.IsBuilder 150 5 B b (Lib.byteCells (l ++ s.data.toList)) w' /\ Below B w w' := by
 have hcall := Go.Proofs.Any.Builder_WriteString { Go.Proofs.Tryz.lays156 with } zeF B b (Lib.byteCells l) s w h (by rw [zm5]; exact hlen) hBw
 change Calls zp5 124 _ _ _ at hcall
 refine hcall.mono fun e w' ⟨he, hb, hB⟩ => ⟨he, .inr ?_, hB⟩
 rw [zki l s.data.toList s rfl] at hb; exact hb
theorem zhG (B b : Nat) (l : zaa) (w : World) (h : Lib.IsBuilder 150 5 B b (Lib.byteCells l) w) (hBw : B <= w.heap.size) :
 Calls zp5 125 #[.pointer (some ⟨b, 0, none⟩)] w fun e w' => e = .returned (.string (mk l)) /\ Below B w w' := by
 have hcall := Go.Proofs.Any.Builder_String_any { Go.Proofs.Tryz.lays156 with } zeF B b l w h hBw; change Calls zp5 125 _ _ _ at hcall
 exact hcall
def mint_Put.f (l0 : List ByteArray) : Option ByteArray := if (put (l0.map (·.data.toList))).length <= 140737488355328 then some (mk (put (l0.map (·.data.toList)))) else none
theorem mint_Put.calls (A0 : Option Addr) (c0 : Nat) (l0 : List ByteArray) (r : ByteArray) (w : World) (hG : GOK w) (hr0 : Kd.C zqb w A0 l0.length l0) (_hc0 : l0.length <= c0) (h : mint_Put.f l0 = some r) :
 Calls zp5 188 #[.slice A0 l0.length c0] w fun e w' => e = .returned (.string r) /\ Below w.heap.size w w' := by
 unfold mint_Put.f at h; split at h
 . rename_i hs
   have hr : mk (put (l0.map (·.data.toList))) = r := zp6 h; clear h; have hlen : l0.length <= 9223372036854775807 := hr0.2.1; have HS : Hid ((put (l0.map (·.data.toList))).length <= 140737488355328) := hs; have HR := zpt hr; have HG := zpt hG; have HC : Hid (l0 = [] \/ ∃ b o, A0 = some ⟨b, o, none⟩ /\ b < w.heap.size /\ ∀ j, j < l0.length -> w.cell? ⟨b, o + j, none⟩ = some (.string (l0.getD j zqa))) := zaX hr0; clear hs hr hG hr0; go_enter Tryz.func188, Tryz.ntmps188
   go_wp2_with fail; go_loopg [5, 8] l0.length (fun gg _ s8 wr => ∃ kk : Nat, kk <= l0.length /\ l0.length - kk <= gg /\ s8 = .int .i64 kk /\ Aside0 (Lib.IsBuilder 150 5 w.heap.size w.heap.size (Lib.byteCells (put ((l0.map (·.data.toList)).take kk))) wr) /\ Aside0 (Below w.heap.size w wr))
   case atStart =>
    refine ⟨0, zqk _, by omega, rfl, ⟨.inl ⟨zpx _, .slice none 0 0, heap_alloc_new w _, zcX _ _ _ _, by simp [Value.ownBlock]⟩⟩, ⟨(zpw _ _).alloc (zpx _) _⟩⟩
   case round =>
    obtain ⟨kk, hkk, hgk, rfl, HB, HW⟩ := hrel; by_cases hlt : kk < l0.length
    . have hltz : (kk : Int) < (l0.length : Int) := by omega
      obtain ⟨y, hy⟩ : ∃ y, y = l0.getD kk zqa := ⟨_, rfl⟩; rcases HC.out with h0 | ⟨b, o, rfl, hb, hcell⟩
      . exfalso; rw [h0] at hlt; simp at hlt
      have hx : wr.cell? ⟨b, o + kk, none⟩ = some (.string y) := by rw [hy]; exact zad HW.out (hcell kk hlt)
      have hk : kk < (l0.map (·.data.toList)).length := by simpa using hlt
      have hyk : (l0.map (·.data.toList))[kk] = y.data.toList := by rw [hy]; simp [zpB, zpA hlt]
      have hput : put ((l0.map (·.data.toList)).take (kk + 1)) = put ((l0.map (·.data.toList)).take kk) ++ (zaZ (y.size) ++ [58] ++ y.data.toList) := by
       rw [zjJ _ kk hk, hyk, <- zqc]
      have hle : (put ((l0.map (·.data.toList)).take kk)).length + (zaZ y.size ++ [58] ++ y.data.toList).length <= 140737488355328 := by
       have := zlB (l0.map (·.data.toList)) (kk + 1); rw [hput, zpK] at this; exact zpD this HS.out
      have hsz : y.size <= 140737488355328 := by
       have e := zqc y; simp only [zpK] at hle; omega
      have hnl : (zaZ y.size).length <= 140737488355328 := by simp only [zpK] at hle; omega
      clear hcell hb; have HP := zpt hput; have HL : Hid ((put ((l0.map (·.data.toList)).take kk)).length + (zaZ y.size ++ [58] ++ y.data.toList).length <= 140737488355328) := hle; have HN := zfb (y.size : Int) (by omega) (by omega) wr (HG.out.below HW.out)
      have ens : (mk (zaZ y.size)).size = (zaZ (y.size : Int)).length := zbb _; have end_ : (mk (zaZ y.size)).data.toList = zaZ (y.size : Int) := zbd _; generalize mk (zaZ (y.size : Int)) = nv at HN ens end_; have hnv : nv.size <= 140737488355328 := by omega
      have END := zpt end_; clear hy hput hle hyk hk ens end_ hnl; have hd1 : nv.size + 1 <= 9223372036854775807 := by omega
      go_wp2_with fail; refine HN.mono ?_; rintro e w1 ⟨rfl, hb1⟩; go_wp2_with fail; refine (zir w.heap.size w.heap.size _ _ _ (zkz HB.out hb1) ?_ (zpD HW.out.size hb1.size)).mono ?_
      . have h1 := HL.out
        have e3 := congrArg List.length END.out; rw [<- zqc] at e3; have e4 := zqc y; simp only [zpK, List.length_singleton] at h1; simp only [ByteArray.size_append]; show _ + (nv.size + 1 + y.size) <= _
        omega
      rintro e w2 ⟨rfl, hB2, hb2⟩; go_wp2; go_roundg (l0.length - (kk + 1))
      case measure => omega
      case rel =>
       refine ⟨kk + 1, by omega, by omega, by go_num, ⟨?_⟩, ⟨(HW.out.trans (hb1.mono HW.out.size)).trans hb2⟩⟩
       rw [HP.out]; have e5 : (nv ++ (⟨#[58]⟩ : ByteArray) ++ y).data.toList = zaZ y.size ++ [58] ++ y.data.toList := by
        rw [data_append, data_append, END.out]
       rw [<- e5]; exact hB2
    . have hltz : ¬ (kk : Int) < (l0.length : Int) := by omega
      obtain rfl : kk = l0.length := by omega
      have hB := HB.out; rw [List.take_of_length_le (by simp)] at hB
      clear HB; go_wp2_with (go_at_call 125; refine (zhG w.heap.size w.heap.size _ _ hB HW.out.size).mono ?_; rintro e w2 ⟨rfl, hb2⟩)
      go_ret
      exact ⟨by rw [<- HR.out]; rfl, HW.out.trans hb2⟩
 . cases h
end X
namespace X
open Go.RowKit Go.Maps YtdpgdnpddndeoaaGreatDoorW.PrintWords
abbrev TM := List (zaa × zaa)
def encT (m : TM) : DataW Unit := .map (m.map fun p => (.string p.1, .lit (.string p.2)))
def insT (x : zaa × zaa) : TM -> TM
 | [] => [x]
 | y :: r => if bytesBefore x.1 y.1 then x :: y :: r else y :: insT x r
def delT (m : TM) (k : zaa) : TM := m.filter fun p => !(p.1 == k)
def putT (m : TM) (k v : zaa) : TM := insT (k, v) (delT m k)
def getT (m : TM) (k : zaa) : Option zaa := (m.find? fun p => p.1 == k).map (·.2)
def keyT (m : TM) : zaa := put (m.flatMap fun p => [p.1, p.2])
def zcc (m : TM) (k v : zaa) : TM × Int := if may k = false then (m, 1) else if 2000 < v.length \/ getT m k = none /\ 60 <= m.length then (m, 4) else (putT m k v, 0)
def zeA (m : TM) (k : zaa) : TM × Int := if getT m k = none then (m, 6) else (delT m k, 0)
theorem zi6 (m : TM) (k : zaa) : (encT m).del (.string k) = encT (delT m k) := by
 unfold encT delT DataW.del; simp only [List.filter_map]; rfl
theorem zjt (x : zaa × zaa) : ∀ m : TM, DataW.insert (H := Unit) (.string x.1, .lit (.string x.2)) (m.map fun p => (.string p.1, .lit (.string p.2))) = (insT x m).map fun p => (.string p.1, .lit (.string p.2))
 | [] => rfl
 | y :: r => by
  simp only [zpX, DataW.insert, insT]; show (if bytesBefore x.1 y.1 = true then _ else _) = _
  split
  . rfl
  . rw [zjt x r]; rfl
theorem zkC (m : TM) (k v : zaa) : (encT m).put (.string k) (.lit (.string v)) = encT (putT m k v) := by
 have h := zi6 m k; unfold encT DataW.del at h; unfold DataW.put encT putT; simp only [DataW.map.injEq] at h |-; rw [h]; exact zjt (k, v) _
theorem zlU (m : TM) (k : zaa) : ((m.map fun p => ((.string p.1 : Lit), (.lit (.string p.2) : DataW Unit))).find? fun p => p.1.sameKey (.string k)) = (m.find? fun p => p.1 == k).map fun p => (.string p.1, .lit (.string p.2)) := by
 rw [List.find?_map]; rfl
theorem zj5 (m : TM) (k : zaa) : Maps.has (encT m) (.string k) = (getT m k).isSome := by
 unfold encT getT; rw [Maps.has_eq, List.any_map]; rw [Option.isSome_map, List.isSome_find?]; rfl
theorem zgN (m : TM) (k : zaa) : (encT m).atKey (.string k) (.lit (.string [])) = .lit (.string ((getT m k).getD [])) := by
 unfold encT getT DataW.atKey; simp only [zlU]; cases m.find? fun p => p.1 == k <;> rfl
theorem zer (m : TM) : Maps.size (encT m) = m.length := by
 unfold encT; rw [Maps.size_eq, zqe]
structure IsTree (w : World) (g b : Nat) (m : TM) : Prop where
 cell : w.heap[g]? = some (.cells #[.map (some b)] 100 (0, 0))
 map : w.ownsMap zp5 9 (plainElem zp5 9) b m.length (encT m)
theorem zik {w : World} {b n : Nat} {m : TM} (h : w.ownsMap zp5 9 (plainElem zp5 9) b n (encT m)) : w.ownsMap zp5 9 (plainElem zp5 9) b m.length (encT m) := by
 obtain ⟨es, clock, hb, F, _, hD⟩ := h; refine ⟨es, clock, hb, F, ?_, hD⟩; have := zer m; rw [hD] at this; simp only [Maps.size, length_sorted, zqe, Array.length_toList] at this; omega
theorem IsTree.c {w : World} {g b : Nat} {m : TM} (h : IsTree w g b m) : w.cell? ⟨g, 0, none⟩ = some (.map (some b)) := by
 simp [World.cell?, h.cell]
theorem IsTree.lt {w : World} {g b : Nat} {m : TM} (h : IsTree w g b m) : g < w.heap.size /\ b < w.heap.size := ⟨(zpy.1 h.cell).1, h.map.lt⟩
theorem IsTree.ne {w : World} {g b : Nat} {m : TM} (h : IsTree w g b m) : g ≠ b := by
 rintro rfl; obtain ⟨es, clock, hb, _⟩ := h.map; rw [h.cell] at hb; cases hb
theorem IsTree.kept {w w1 : World} {g b : Nat} {m : TM} (h : IsTree w g b m) (hg : w1.heap[g]? = w.heap[g]?) (hb : w1.heap[b]? = w.heap[b]?) : IsTree w1 g b m := by
 refine ⟨hg.trans h.cell, ?_⟩; obtain ⟨es, clock, h1, r⟩ := h.map; exact ⟨es, clock, hb.trans h1, r⟩
theorem IsTree.below {w w1 : World} {g b : Nat} {m : TM} (h : IsTree w g b m) (hb : Below w.heap.size w w1) : IsTree w1 g b m := h.kept (hb.block g h.lt.1) (hb.block b h.lt.2)
theorem kS : Keyed zp5 9 := string_keyed Tryz.underlying9
theorem zS (w : World) : (zeroValue 9).run zp5 w = .ok (.string ⟨#[]⟩) w := Tryz.zeroValue9 w
theorem pS : plainElem (H := Unit) zp5 9 (.string ⟨#[]⟩) = some (.lit (.string []), []) := plainElem_string Tryz.underlying9 (by simp [ByteArray.size, maxLen])
theorem IsTree.look {w : World} {g b : Nat} {m : TM} (h : IsTree w g b m) (k : ByteArray) (hk : k.size <= maxLen) :
 (Instr.lookup 98 (.map (some b)) (.string k) true).run zp5 w = .ok (.tuple #[(.string (X.mk ((getT m k.data.toList).getD []))), .bool (getT m k.data.toList).isSome]) w := by
 obtain ⟨v, ps, hrun, hR⟩ := h.map.look_ok kS Tryz.underlying98 (zS w) pS (Go.WideMaps.keyOf_string_mk Tryz.underlying9 hk); rw [zgN] at hR; obtain ⟨s, rfl, hs, _⟩ := plainElem_string_inv Tryz.underlying9 hR; rw [hrun, zj5]; have : s = X.mk ((getT m k.data.toList).getD []) := by
  have h0 := (Prod.mk.inj hs).1; simp only [DataW.lit.injEq, Lit.string.injEq] at h0; rw [<- zbY s, <- h0]
 rw [this]
theorem IsTree.len {w : World} {g b : Nat} {m : TM} (h : IsTree w g b m) (ty : TypeId) :
 (Builtin.len_ #[98] ty #[.map (some b)]).run zp5 w = .ok (.int .i64 m.length) w := by
 have := h.map.len Tryz.underlying98 ty; rwa [zer] at this
theorem IsTree.store {w : World} {g b : Nat} {m : TM} (h : IsTree w g b m) (k v : ByteArray) (hk : k.size <= maxLen) (hv : v.size <= maxLen) (hm : m.length < maxLen) :
 ∃ w', (Instr.mapUpdate 98 (.map (some b)) (.string k) (.string v)).run zp5 w = .ok () w' /\ IsTree w' g b (putT m k.data.toList v.data.toList) /\ w.grownBy w' (some b) := by
 obtain ⟨w', hrun, ho, ht⟩ := h.map.store kS Tryz.underlying98 hm (Go.WideMaps.keyOf_string_mk Tryz.underlying9 hk) (plainElem_string Tryz.underlying9 hv); rw [zkC] at ho; have hg := ht.grown; exact ⟨w', hrun, ⟨(hg.block g h.lt.1 (by have := h.ne; intro e; injection e; omega)).trans h.cell, zik ho⟩, hg⟩
theorem IsTree.drop {w : World} {g b : Nat} {m : TM} (h : IsTree w g b m) (k : ByteArray) (hk : k.size <= maxLen) (ty : TypeId) :
 ∃ w', (Builtin.delete_ #[98, 9] ty #[.map (some b), .string k]).run zp5 w = .ok (.tuple #[]) w' /\ IsTree w' g b (delT m k.data.toList) /\ w.grownBy w' (some b) := by
 obtain ⟨w', hrun, ho, ht⟩ := h.map.drop kS Tryz.underlying98 (Go.WideMaps.keyOf_string_mk Tryz.underlying9 hk) ty; rw [zi6] at ho; have hg := ht.grown; exact ⟨w', hrun, ⟨(hg.block g h.lt.1 (by have := h.ne; intro e; injection e; omega)).trans h.cell, zik ho⟩, hg⟩
theorem tree_Len.calls (w : World) (g b : Nat) (m : TM) (h : IsTree w g b m) :
 Calls zp5 190 #[.pointer (some ⟨g, 0, none⟩)] w fun e w' => e = .returned (.int .i64 m.length) /\ Drawn0 w w' := by
 have hc := h.c; have hl := h.len; clear h; go_enter Tryz.func190, Tryz.ntmps190
 go_wp2; go_ret
 exact ⟨rfl, Drawn0.refl _⟩
theorem tree_Len.none (w : World) : Calls zp5 190 #[.pointer none] w fun e w' => e = .returned (.int .i64 0) /\ Drawn0 w w' := by
 go_enter Tryz.func190, Tryz.ntmps190
 go_wp2; go_ret
 exact ⟨rfl, Drawn0.refl _⟩
theorem tree_Read.calls (w : World) (g b : Nat) (m : TM) (h : IsTree w g b m) (k : ByteArray) (hk : k.size <= maxLen) :
 Calls zp5 109 #[.pointer (some ⟨g, 0, none⟩), .string k] w fun e w' => e = .returned (.tuple #[.string (mk ((getT m k.data.toList).getD [])), .bool (getT m k.data.toList).isSome]) /\ Drawn0 w w' := by
 have hc := h.c; have hl := h.look k hk; clear h; generalize mk ((getT m k.data.toList).getD []) = v at hl |-; generalize (getT m k.data.toList).isSome = is at hl |-; go_enter Tryz.func109, Tryz.ntmps109
 go_wp2; go_ret2
 exact ⟨rfl, Drawn0.refl _⟩
theorem zgO {w w1 w2 : World} {row : Option Nat} (h : Below w.heap.size w w1) (hg : w1.grownBy w2 row) : w.grownBy w2 row :=
 ⟨hg.os.trans h.os, hg.tape.trans h.tape, hg.output.trans h.output, zpD h.size hg.size, fun i hi hne => (hg.block i (Nat.lt_of_lt_of_le hi h.size) hne).trans (h.block i hi)⟩
theorem tree_Write.calls (w : World) (hG : GOK w) (g b : Nat) (m : TM) (h : IsTree w g b m) (k v : ByteArray) (hk : k.size <= maxLen) (hv : v.size <= maxLen) (hm : m.length <= 60) :
 Calls zp5 71 #[.pointer (some ⟨g, 0, none⟩), .string k, .string v] w fun e w' => e = .returned (.int .i64 (zcc m k.data.toList v.data.toList).2) /\ IsTree w' g b (zcc m k.data.toList v.data.toList).1 /\ w.grownBy w' (some b) := by
 have hM := path_May.calls k (may k.data.toList) w hG rfl; have HT : Hid (IsTree w g b m) := h; have hc := h.c; have hl := h.look k hk; unfold zcc; rw [<- zqc]; cases hmay : may k.data.toList with
 | false =>
  rw [if_pos rfl]; rw [hmay] at hM; clear hG h hk hv hm hmay; generalize X.mk ((getT m k.data.toList).getD []) = v0 at hl; generalize (getT m k.data.toList).isSome = is at hl; go_enter Tryz.func71, Tryz.ntmps71
  go_wp2_with (go_at_call 102; refine hM.mono ?_; rintro e w2 ⟨rfl, hb2⟩)
  go_ret
  exact ⟨rfl, HT.out.below hb2, zb0 hb2 _⟩
 | true =>
  rw [if_neg (by simp)]
  rw [hmay] at hM; clear hmay hG; by_cases hv2 : 2000 < v.size
  . rw [if_pos (.inl hv2)]
    clear h hk hv hm; generalize X.mk ((getT m k.data.toList).getD []) = v0 at hl; generalize (getT m k.data.toList).isSome = is at hl; go_enter Tryz.func71, Tryz.ntmps71
    go_wp2_with (go_at_call 102; refine hM.mono ?_; rintro e w2 ⟨rfl, hb2⟩)
    go_ret
    exact ⟨rfl, HT.out.below hb2, zb0 hb2 _⟩
  . cases hget : getT m k.data.toList with
    | none =>
     rw [hget] at hl; simp only [zqm, Option.getD_none] at hl; by_cases h60 : 60 <= m.length
     . rw [if_pos (.inr ⟨rfl, h60⟩)]
       clear h hk hv hm hget; generalize X.mk [] = v0 at hl; go_enter Tryz.func71, Tryz.ntmps71
       go_wp2_with fail; refine hM.mono ?_; rintro e w2 ⟨rfl, hb2⟩; have hc2 := (HT.out.below hb2).c; have hl2 := (HT.out.below hb2).len; go_wp2; go_ret
       exact ⟨rfl, HT.out.below hb2, zb0 hb2 _⟩
     . rw [if_neg (by omega)]
       generalize X.mk [] = v0 at hl; have HK : Hid (k.size <= maxLen) := hk; have HV : Hid (v.size <= maxLen) := hv; have hm2 : m.length < 60 := by omega
       clear h hget hk hv h60 hm; go_enter Tryz.func71, Tryz.ntmps71
       go_wp2_with fail; refine hM.mono ?_; rintro e w2 ⟨rfl, hb2⟩; have hc2 := (HT.out.below hb2).c; have hl2 := (HT.out.below hb2).len; obtain ⟨w3, hrun, hT3, hg3⟩ := (HT.out.below hb2).store k v HK.out HV.out (by unfold maxLen; omega)
       have HT3 : Hid (IsTree w3 g b (putT m k.data.toList v.data.toList)) := hT3; have HG3 : Hid (w2.grownBy w3 (some b)) := hg3; clear hT3 hg3; go_wp2; go_ret
       exact ⟨rfl, HT3.out, zgO hb2 HG3.out⟩
    | some x =>
     rw [hget] at hl; simp only [Option.isSome_some, zqp] at hl; rw [if_neg (by simp; omega)]
     generalize X.mk x = v0 at hl; have HK : Hid (k.size <= maxLen) := hk; have HV : Hid (v.size <= maxLen) := hv; clear h hget hk hv; go_enter Tryz.func71, Tryz.ntmps71
     go_wp2_with fail; refine hM.mono ?_; rintro e w2 ⟨rfl, hb2⟩; have hc2 := (HT.out.below hb2).c; obtain ⟨w3, hrun, hT3, hg3⟩ := (HT.out.below hb2).store k v HK.out HV.out (by unfold maxLen; omega)
     have HT3 : Hid (IsTree w3 g b (putT m k.data.toList v.data.toList)) := hT3; have HG3 : Hid (w2.grownBy w3 (some b)) := hg3; clear hT3 hg3; go_wp2; go_ret
     exact ⟨rfl, HT3.out, zgO hb2 HG3.out⟩
theorem tree_Erase.calls (w : World) (g b : Nat) (m : TM) (h : IsTree w g b m) (k : ByteArray) (hk : k.size <= maxLen) :
 Calls zp5 193 #[.pointer (some ⟨g, 0, none⟩), .string k] w fun e w' => e = .returned (.int .i64 (zeA m k.data.toList).2) /\ IsTree w' g b (zeA m k.data.toList).1 /\ w.grownBy w' (some b) := by
 have HT : Hid (IsTree w g b m) := h; have hc := h.c; have hl := h.look k hk; unfold zeA; cases hget : getT m k.data.toList with
 | none =>
  rw [hget] at hl; simp only [zqm, Option.getD_none] at hl; rw [if_pos rfl]; generalize X.mk [] = v0 at hl; clear h hk hget; go_enter Tryz.func193, Tryz.ntmps193
  go_wp2; go_ret
  exact ⟨rfl, HT.out, World.grownBy.refl _ _⟩
 | some x =>
  rw [hget] at hl; simp only [Option.isSome_some, zqp] at hl; rw [if_neg (by simp)]
  generalize X.mk x = v0 at hl; have hd : ∀ ty, ∃ w', (Builtin.delete_ #[98, 9] ty #[.map (some b), .string k]).run zp5 w = .ok (.tuple #[]) w' /\ IsTree w' g b (delT m k.data.toList) /\ w.grownBy w' (some b) := fun ty => h.drop k hk ty
  clear h hk hget; go_enter Tryz.func193, Tryz.ntmps193
  obtain ⟨w3, hrun, hT3, hg3⟩ := hd 0; have HT3 : Hid (IsTree w3 g b (delT m k.data.toList)) := hT3; have HG3 : Hid (w.grownBy w3 (some b)) := hg3; clear hT3 hg3 hd; go_wp2; go_ret
  exact ⟨rfl, HT3.out, HG3.out⟩
end X
namespace X
open Go.RowKit Go.Maps YtdpgdnpddndeoaaGreatDoorW.PrintWords YtdpgdnpddndeoaaGreatDoorW.PrintLast
theorem zhv (x : zaa × zaa) : ∀ m : TM, (insT x m).length = m.length + 1
 | [] => rfl
 | y :: r => by
  unfold insT; split
  . rfl
  . rw [zqh, zhv x r, zqh]
theorem zg1 (m : TM) (k : zaa) : (delT m k).length <= m.length := zqn _ _
theorem zmd (m : TM) (k v : zaa) (h : getT m k = some v) : (delT m k).length + 1 <= m.length := by
 unfold getT at h; cases hf : m.find? (fun p => p.1 == k) with
 | none => rw [hf] at h; cases h
 | some p =>
  have hp := List.find?_some hf; have hm := List.mem_of_find?_eq_some hf; have : (delT m k).length < m.length := by
   rcases Nat.lt_or_ge (delT m k).length m.length with hl | hl
   . exact hl
   . have e := List.length_filter_eq_length_iff.1 (Nat.le_antisymm (zg1 m k) hl) p hm
     simp at hp e
     exact absurd hp e
  omega
theorem zlq (m : TM) (k v : zaa) (h : m.length <= 60) : (zcc m k v).1.length <= 60 := by
 unfold zcc; split
 . exact h
 . split
   . exact h
   . rename_i h2
     show (putT m k v).length <= 60
     unfold putT; rw [zhv]; cases hg : getT m k with
     | none =>
      have := zg1 m k; have h3 : ¬ 60 <= m.length := fun h4 => h2 (.inr ⟨hg, h4⟩)
      omega
     | some x =>
      have := zmd m k x hg; omega
def newT (l : List (zaa × zaa)) : TM := l.foldl (fun m f => (zcc m f.1 f.2).1) []
theorem zlW (l : List (zaa × zaa)) (f : zaa × zaa) : newT (l ++ [f]) = (zcc (newT l) f.1 f.2).1 := by
 unfold newT; rw [List.foldl_append]; rfl
theorem zk3 (l : List (zaa × zaa)) : ∀ m : TM, m.length <= 60 -> (l.foldl (fun m f => (zcc m f.1 f.2).1) m).length <= 60 := by
 induction l with
 | nil => exact fun _ h => h
 | cons f r ih => exact fun m h => ih _ (zlq m _ _ h)
theorem zmL (l : List (zaa × zaa)) : (newT l).length <= 60 := zk3 l [] (by simp)
def Made (w : World) (m : TM) (e : Ending) (w' : World) : Prop := ∃ g b, e = .returned (.pointer (some ⟨g, 0, none⟩)) /\ IsTree w' g b m /\ w.heap.size <= g /\ w.heap.size <= b /\ Below w.heap.size w w'
def zcU (f : S77) : zaa × zaa := (f.f0.data.toList, f.f1.data.toList)
theorem tree_New.calls (A : Option Addr) (c : Nat) (l : List S77) (w : World) (hG : GOK w) (hr : Kd.C k77 w A l.length l) (hsz : ∀ f ∈ l, f.f0.size <= maxLen /\ f.f1.size <= maxLen) :
 Calls zp5 48 #[.slice A l.length c] w (Made w (newT (l.map zcU))) := by
 have hlen : l.length <= 9223372036854775807 := hr.2.1; have HG := zpt hG; have HR := zpt hr; have HZ := zpt hsz; clear hG hr hsz; have hmm := @run_makeMap zp5; go_enter Tryz.func48, Tryz.ntmps48
 go_wp2_with fail; go_loopg [5, 11] l.length (fun gg _ s11 wr => ∃ kk : Nat, kk <= l.length /\ l.length - kk <= gg /\ s11 = .int .i64 kk /\ Aside0 (IsTree wr (w.heap.size + 1) w.heap.size (newT ((l.take kk).map zcU))) /\ Aside0 (Below w.heap.size w wr))
 case atStart =>
  refine ⟨0, zqk _, by omega, rfl, ⟨⟨?_, ?_⟩⟩, ⟨((zpw _ _).alloc (zpx _) _).alloc (by simp) _⟩⟩
  . have := heap_alloc_new (w.alloc (.map #[] 0)) (.cells #[.map (some w.heap.size)] 100)
    simpa using this
  . exact ((World.ownsMap_made w zp5 9 _).alloc _)
 case round =>
  obtain ⟨kk, hkk, hgk, rfl, HT, HW⟩ := hrel; by_cases hlt : kk < l.length
  . have hltz : (kk : Int) < (l.length : Int) := by omega
    have hx := znY HR.out (kk : Int) (by omega) hltz
    obtain ⟨ad, rfl, hx0, hx1⟩ := hx; simp only [Int.toNat_natCast] at hx0 hx1; obtain ⟨y, hy⟩ : ∃ y, y = zeP l (kk : Int) := ⟨_, rfl⟩; rw [<- hy] at hx0 hx1; have hym : y = l[kk] := by rw [hy]; unfold zeP; simp [zpB, zpA hlt]
    have HY : Hid (y = l[kk]) := hym; clear hy hym; replace hx0 := zad HW.out hx0
    replace hx1 := zad HW.out hx1
    have HN : Hid (newT ((l.take (kk + 1)).map zcU) = (zcc (newT ((l.take kk).map zcU)) y.f0.data.toList y.f1.data.toList).1) := by
     show _ = _
     rw [zpZ hlt, zqo, zpX, zpY, zlW, HY.out]; rfl
    have HL : Hid ((newT ((l.take kk).map zcU)).length <= 60) := zmL _; have HZ1 : Hid (y.f0.size <= maxLen /\ y.f1.size <= maxLen) := by rw [HY.out]; exact HZ.out _ (List.getElem_mem hlt)
    go_wp2_with fail; have hb1 : ∀ o, Below wr.heap.size wr (wr.alloc o) := fun o => (zpw _ _).alloc (zpx _) o
    refine (tree_Write.calls _ (HG.out.below (zac HW.out HW.out.size (hb1 _))) _ _ _ (HT.out.below (hb1 _)) y.f0 y.f1 HZ1.out.1 HZ1.out.2 HL.out).mono ?_; rintro e w2 ⟨rfl, hT2, hg2⟩; rw [<- HN.out] at hT2; have HT2 : Hid (IsTree w2 (w.heap.size + 1) w.heap.size (newT ((l.take (kk + 1)).map zcU))) := hT2; have HW2 : Hid (Below w.heap.size w w2) := (zac HW.out HW.out.size (hb1 _)).grown hg2 (zpD HW.out.size (hb1 _).size) (fun k hk => by cases hk; exact zpx _)
    clear hT2 hg2 hb1 hx0 hx1 HN HL HZ1 HY; go_wp2; go_roundg (l.length - (kk + 1))
    case measure => omega
    case rel => exact ⟨kk + 1, by omega, by omega, by go_num, ⟨HT2.out⟩, ⟨HW2.out⟩⟩
  . have hltz : ¬ (kk : Int) < (l.length : Int) := by omega
    obtain rfl : kk = l.length := by omega
    have hT := HT.out; rw [zqf] at hT; have HT' : Hid (IsTree wr (w.heap.size + 1) w.heap.size (newT (l.map zcU))) := hT; clear HT hT; go_wp2; go_ret
    exact ⟨w.heap.size + 1, w.heap.size, rfl, HT'.out, by omega, zpx _, HW.out⟩
end X
namespace X
open Go.RowKit Go.Maps Go.Sort Go.Shelf YtdpgdnpddndeoaaGreatDoorW.PrintWords
theorem ziV : ∀ (x y : zaa), bytesBefore x y = decide (x < y)
 | [], [] => by simp [bytesBefore]
 | _ :: _, [] => by simp [bytesBefore]
 | [], _ :: _ => by simp [bytesBefore]
 | a :: x, b :: y => by
  rw [bytesBefore, ziV x y]; simp only [List.cons_lt_cons_iff]; by_cases h1 : a < b <;> by_cases h2 : a = b <;> by_cases h3 : x < y <;> simp [h1, h2, h3]
def SortedT (m : TM) : Prop := m.Pairwise fun p q => bytesBefore p.1 q.1 = true
theorem SortedT.del {m : TM} (h : SortedT m) (k : zaa) : SortedT (delT m k) := List.Pairwise.filter _ h
theorem zhl (x : zaa × zaa) (p : zaa × zaa) : ∀ m : TM, p ∈ insT x m ↔ p = x \/ p ∈ m
 | [] => by simp [insT]
 | y :: r => by
  unfold insT; split
  . simp
  . simp only [List.mem_cons, zhl x p r]
    constructor
    . rintro (h | h | h)
      . exact .inr (.inl h)
      . exact .inl h
      . exact .inr (.inr h)
    . rintro (h | h | h)
      . exact .inr (.inl h)
      . exact .inl h
      . exact .inr (.inr h)
theorem SortedT.ins (x : zaa × zaa) : ∀ m : TM, SortedT m -> (∀ p ∈ m, p.1 ≠ x.1) -> SortedT (insT x m)
 | [], _, _ => by simp [insT, SortedT]
 | y :: r, h, hne => by
  unfold insT; have hy := List.pairwise_cons.1 h; split
  . rename_i hb
    refine List.pairwise_cons.2 ⟨fun p hp => ?_, h⟩
    rcases List.mem_cons.1 hp with rfl | hp
    . exact hb
    . exact WideShapes.bytes_trans _ _ _ hb (hy.1 p hp)
  . rename_i hb
    refine List.pairwise_cons.2 ⟨fun p hp => ?_, SortedT.ins x r hy.2 (fun p hp => hne p (List.mem_cons_of_mem _ hp))⟩
    rcases (zhl x p r).1 hp with rfl | hp
    . rcases WideAt.bytes_total y.1 p.1 (hne y List.mem_cons_self) with h1 | h1
      . exact h1
      . exact absurd h1 hb
    . exact hy.1 p hp
theorem SortedT.put {m : TM} (h : SortedT m) (k v : zaa) : SortedT (putT m k v) := by
 refine SortedT.ins (k, v) _ (h.del k) fun p hp e => ?_
 have := (List.mem_filter.1 hp).2; simp at this
 exact this e
theorem SortedT.write {m : TM} (h : SortedT m) (k v : zaa) : SortedT (zcc m k v).1 := by
 unfold zcc; split
 . exact h
 . split
   . exact h
   . exact h.put k v
theorem SortedT.nil : SortedT [] := List.Pairwise.nil
theorem SortedT.fold (l : List (zaa × zaa)) : ∀ m : TM, SortedT m -> SortedT (l.foldl (fun m f => (zcc m f.1 f.2).1) m) := by
 induction l with
 | nil => exact fun _ h => h
 | cons f r ih => exact fun m h => ih _ (h.write _ _)
theorem SortedT.new (l : List (zaa × zaa)) : SortedT (newT l) := SortedT.fold l [] SortedT.nil
theorem zlz {m : TM} (h : SortedT m) : (m.map (·.1)).mergeSort leB = m.map (·.1) := by
 refine List.mergeSort_of_pairwise ?_; refine List.pairwise_map.2 (h.imp fun {p q} hb => ?_)
 rw [ziV] at hb; simp only [leB, decide_eq_true_eq] at hb |-; exact List.le_of_lt hb
theorem zno (mb : Option Nat) (W : World) : Calls zp5 225 #[.map mb] W fun e w' => e = .returned (.func (.func 240) #[] #[.pointer (some ⟨W.heap.size, 0, none⟩)]) /\ w' = W.alloc (.cells #[.map mb] 98) :=
 callsIn_wide.1 (Go.Proofs.AnyZ.keys_in Go.Proofs.Tryz.laysKeys Fence.wide 5 trivial rfl mb W)
theorem sorts (m : Nat) : Go.Proofs.AnyZ.SortsIn zp5 Go.Proofs.Tryz.laysSorted_ren Fence.wide m :=
 ⟨fun blk off cap ss W hH hblk hsz => callsIn_wide.2 (Go.Proofs.AnyM.slices_Sort_string Go.Proofs.Tryz.laysSort blk off cap ss W hH hblk hsz),
  fun p cap W => callsIn_wide.2 (Go.Proofs.AnyM.slices_Sort_string_none Go.Proofs.Tryz.laysSort p cap W)⟩
theorem znV (b : Nat) (m : TM) (hm : SortedT m) (hl : m.length <= 60) (w : World) (hown : w.ownsMap zp5 9 (plainElem zp5 9) b m.length (encT m)) :
 Calls zp5 80 #[.func (.func 240) #[] #[.pointer (some ⟨w.heap.size, 0, none⟩)]] (w.alloc (.cells #[.map (some b)] 98)) fun e w' => ∃ v : Value, e = .returned v /\
  w'.ownsRow w.heap.size 9 1 v (m.map fun p => mk p.1).length (encs Value.string (m.map fun p => mk p.1)) /\ Below w.heap.size w w' := by
 have hbl := hown.lt; have hmax : Maps.size (encT m) <= maxLen := by rw [zer]; unfold maxLen; omega
 have hbytes : Maps.size (encT m) * 16 <= 140737488355328 := by rw [zer]; omega
 have hseq : Go.SeqGives Fence.wide 2 zp5 240 #[.pointer (some ⟨w.heap.size, 0, none⟩)] encStr (fun ss => ss.Perm (strKeys (encT m))) (Maps.size (encT m)) (w.alloc (.cells #[.map (some b)] 98)) :=
  Go.Proofs.AnyZ.keys_gives (ρ := Go.Proofs.Tryz.laysKeys_ren) { Go.Proofs.Tryz.laysKeys with } Fence.wide _ trivial rfl (by omega) w.heap.size b m.length (encT m) _ (by simp) (by simp) (by
   obtain ⟨es, clock, hb, Ft, hs, hD⟩ := hown; exact ⟨es, clock, (Below.heap_alloc _ _ b hbl).trans hb, Ft, hs, hD⟩)
 have h := Go.Proofs.AnyZ.sorted_in Go.Proofs.Tryz.laysSorted Fence.wide 5 trivial trivial trivial trivial rfl (by omega) (sorts _) (Go.Proofs.enters_of Tryz.func93 (by kernel_rfl) rfl) 240 #[.pointer (some ⟨w.heap.size, 0, none⟩)] trivial (Go.Proofs.enters_of Tryz.func240 (by kernel_rfl) rfl) _ _ hmax hbytes _ hseq
 refine (callsIn_wide.1 h).mono fun e w' ⟨v, ss, he, hS, hrow, _, hb⟩ => ⟨v, he, ?_, ((zpw _ w).alloc (zpx _) _).trans (hb.mono (by simp))⟩
 have hk : strKeys (encT m) = m.map (·.1) := by
  show (m.map fun p => ((.string p.1 : Lit), (.lit (.string p.2) : DataW Unit))).map (fun p => strOf p.1) = _
  rw [zqd]; rfl
 rw [hk] at hS; have e1 := mergeSort_of_perm hS; rw [zlz hm] at e1; have e2 : ss.length = m.length := by rw [hS.length_eq, zqe]
 rw [show (fun x y : List UInt8 => decide (x <= y)) = leB from rfl, e1, e2, zqd] at hrow
 rw [zqe]; have e3 : encs Value.string (m.map fun p => mk p.1) = m.map (encStr ∘ fun x => x.1) := by
  unfold encs; rw [zqd]; rfl
 rw [e3]; exact ownsRow_base_a hrow (by simp)
theorem tree_Names.calls (w : World) (g b : Nat) (m : TM) (h : IsTree w g b m) (hm : SortedT m) (hl : m.length <= 60) :
 Calls zp5 191 #[.pointer (some ⟨g, 0, none⟩)] w fun e w' => ∃ v : Value, e = .returned v /\
  w'.ownsRow w.heap.size 9 1 v (m.map fun p => mk p.1).length (encs Value.string (m.map fun p => mk p.1)) /\ Below w.heap.size w w' := by
 have hc := h.c; have hK := zno (some b) w; have hS := znV b m hm hl w h.map; clear h hm hl; generalize (m.map fun p => mk p.1) = nm at hS |-
 go_enter Tryz.func191, Tryz.ntmps191
 go_wp2_with (first
  | (go_at_call 225; refine hK.mono ?_; rintro e w2 ⟨rfl, rfl⟩)
  | (go_at_call 80; refine hS.mono ?_; rintro e w3 ⟨v, rfl, hrow, hb⟩))
 go_ret
 exact ⟨v, rfl, hrow, hb⟩
end X
namespace X
open Go.RowKit Go.Maps YtdpgdnpddndeoaaGreatDoorW.PrintWords
section
variable {P : Program} {ops : Array Oper} {rest : List Oper} {o : Oper} {a : Act} {Q : Exit -> Act -> World -> Prop}
theorem znR {w0 W : World} (base : Nat) (hgd : o.guard = none) (s x : Operand) (t e : TypeId) (z : Value) (bytes : Nat)
 (ho : o.op = .call { callee := .builtin .append, args := #[s, x], argTypes := #[t, t] })
 (ht : P.underlying t = some (.slice e)) (hinfo : (P.info? e).map (fun i => (i.zero, i.size, i.bytes)) = some (some z, 1, bytes)) (hz : z.cells.size = 1) (hb0 : 0 < bytes)
 (v : Value) (xs : List Value) (y1 y2 : Value) (hs : a.eval s = v) (hx : a.eval x = .slice (some ⟨W.heap.size, 0, none⟩) 2 2) (h1 : y1.oneCell' = true) (h2 : y2.oneCell' = true)
 (HO : W.ownsRow base e 1 v xs.length xs) (HB : Below base w0 W) (hbase : base <= W.heap.size) (hl : (xs.length + 2) * bytes <= 140737488355328)
 (h : ∀ v1 w1, w1.ownsRow base e 1 v1 (xs ++ [y1, y2]).length (xs ++ [y1, y2]) -> Below base w0 w1 -> W.grownBy w1 v.ownBlock -> (v1.ownBlock = v.ownBlock \/ ∃ b, v1.ownBlock = some b /\ W.heap.size <= b) -> wpList P ops Q rest (a.put o.dst v1) w1) :
 wpList P ops Q (o :: rest) a (W.alloc (.cells #[y1, y2] e)) := by
 obtain ⟨i0, hi, hzz⟩ := Option.map_eq_some_iff.1 hinfo; simp only [Prod.mk.injEq] at hzz; obtain ⟨hz0, hz1, hz2⟩ := hzz; have hlen : xs.length + 2 <= 140737488355328 := zpD (Nat.le_mul_of_pos_right _ hb0) hl; refine wpList_append_own_at (W.alloc (.cells #[y1, y2] e)) hgd s x t ho base e i0 z 1 bytes ht hi hz0 hz1 hz2 hz (by omega) v xs.length xs hs (HO.alloc _) ⟨W.heap.size, 0, none⟩ 2 2 [y1, y2] hx rfl
  (World.news_of_block (cs := #[y1, y2]) (t := e) (fr := (0, 0)) (heap_alloc_new W _)) (by simp [h1, h2]) (by simp only [maxLen]; omega) hl (by simp; omega) ?_
 intro v1 w1 hown hg _ hat; refine h v1 w1 (by simpa using hown) ((HB.alloc hbase _).grown hg (by simp; omega) (zcy HO)) (World.grownBy.trans (World.grownBy_alloc W _ _) hg) ?_
 rcases hat with hat | hat
 . exact .inl hat
 . exact .inr ⟨_, hat, by simp⟩
end
theorem IsTree.look1 {w : World} {g b : Nat} {m : TM} (h : IsTree w g b m) (k : ByteArray) (hk : k.size <= maxLen) :
 (Instr.lookup 98 (.map (some b)) (.string k) false).run zp5 w = .ok (.string (X.mk ((getT m k.data.toList).getD []))) w := by
 obtain ⟨v, ps, hrun, hR⟩ := h.map.lookup kS Tryz.underlying98 (zS w) pS (Go.WideMaps.keyOf_string_mk Tryz.underlying9 hk); rw [zgN] at hR; obtain ⟨s, rfl, hs, _⟩ := plainElem_string_inv Tryz.underlying9 hR; rw [hrun]; have h0 := (Prod.mk.inj hs).1; simp only [DataW.lit.injEq, Lit.string.injEq] at h0; rw [h0, zbY]
def zbB (m : TM) : List ByteArray := m.flatMap fun p => [mk p.1, mk p.2]
theorem zpp (m : TM) : put ((zbB m).map (·.data.toList)) = keyT m := by
 unfold zbB keyT; congr 1
 rw [List.map_flatMap]; simp only [zpX, zpY, zbd]
theorem znQ (m : TM) (k : Nat) (h : k < m.length) : zbB (m.take (k + 1)) = zbB (m.take k) ++ [mk (m[k]).1, mk (m[k]).2] := by
 unfold zbB; rw [zpZ h, List.flatMap_append]; simp
theorem zpa (m : TM) : (zbB m).length = 2 * m.length := by
 induction m with
 | nil => rfl
 | cons p r ih => simp only [zbB, List.flatMap_cons, zpK, zqh, List.length_nil] at ih |-; omega
theorem zlG {m : TM} (h : SortedT m) (k : Nat) (hk : k < m.length) : getT m (m[k]).1 = some (m[k]).2 := by
 unfold getT; have : m.find? (fun p => p.1 == (m[k]).1) = some m[k] := by
  rw [List.find?_eq_some_iff_getElem]; refine ⟨by simp, k, hk, rfl, fun j hj => ?_⟩
  have := List.pairwise_iff_getElem.1 h j k (by omega) hk hj
  simp only [Bool.not_eq_true']; rw [beq_eq_false_iff_ne]; intro e; rw [e, WideAt.bytes_irrefl] at this; cases this
 rw [this]; rfl
theorem infoS : (Tryz.prog.info? 9).map (fun i => (i.zero, i.size, i.bytes)) = some (some (.string ⟨#[]⟩), 1, 16) := by kernel_rfl
theorem tree_Key.calls (w : World) (hG : GOK w) (g b : Nat) (m : TM) (h : IsTree w g b m) (hm : SortedT m) (hl : m.length <= 60) (hkey : ∀ p ∈ m, p.1.length <= maxLen) (hput : (keyT m).length <= 140737488355328) :
 Calls zp5 192 #[.pointer (some ⟨g, 0, none⟩)] w fun e w' => e = .returned (.string (mk (keyT m))) /\ Below w.heap.size w w' := by
 have hN := tree_Names.calls w g b m h hm hl; have HT := zpt h; have HM := zpt hm; have HG := zpt hG; have HP : Hid ((keyT m).length <= 140737488355328) := hput; have HKey := zpt hkey; clear hG h hm hput hkey; generalize hnm : (m.map fun p => mk p.1) = nm at hN
 have hnl : nm.length = m.length := by rw [<- hnm, zqe]
 have HNM := zpt hnm; clear hnm; go_enter Tryz.func192, Tryz.ntmps192
 go_wp2_with fail; refine hN.mono ?_; rintro e w1 ⟨vn, rfl, hrow, hb1⟩; obtain ⟨A, c, rfl, hc, hrd⟩ := zqq (Kd.R_of_own (h1 := fun _ => rfl) (ok := fun _ => True) hrow (fun _ _ => trivial))
 have HROW : Hid (w1.ownsRow w.heap.size 9 1 (.slice A nm.length c) nm.length (encs Value.string nm)) := hrow; have HB1 := zpt hb1; clear hrow hb1 hc hrd; have hnl2 : nm.length <= 60 := by omega
 have HNL : Hid (nm.length = m.length) := hnl; clear hnl; go_wp2_with fail; go_loopg [3, 5, 9] nm.length (fun gg s3 _ s9 wr => ∃ kk : Nat, kk <= nm.length /\ nm.length - kk <= gg /\ s9 = .int .i64 kk /\ Aside0 (wr.ownsRow w.heap.size 9 1 s3 (encs Value.string (zbB (m.take kk))).length (encs Value.string (zbB (m.take kk)))) /\
  Aside0 (wr.ownsRow w.heap.size 9 1 (.slice A nm.length c) nm.length (encs Value.string nm)) /\ Aside0 (s3.ownBlock = none \/ s3.ownBlock ≠ (Value.slice A nm.length c).ownBlock) /\ Aside0 (Below w.heap.size w wr))
 case atStart =>
  exact ⟨0, zqk _, by omega, rfl, ⟨zcX _ _ _ _⟩, ⟨HROW.out⟩, ⟨.inl rfl⟩, ⟨HB1.out⟩⟩
 case round =>
  obtain ⟨kk, hkk, hgk, rfl, HO, HR, HNE, HW⟩ := hrel; by_cases hlt : kk < nm.length
  . have hltz : (kk : Int) < (nm.length : Int) := by omega
    have hkm : kk < m.length := by have := HNL.out; omega
    obtain ⟨A', c', he, _, hrd⟩ := zqq (Kd.R_of_own (h1 := fun _ => rfl) (ok := fun _ => True) HR.out (fun _ _ => trivial))
    obtain rfl : A = A' := by injection he
    obtain ⟨y, hy⟩ : ∃ y, y = nm.getD kk zqa := ⟨_, rfl⟩; have hym : y = mk (m[kk]).1 := by
     rw [hy, zpB, zpA hlt]; simp only [zqp]; have := HNM.out; subst this; rw [List.getElem_map]
    rcases zaX hrd with h0 | ⟨b', o, rfl, _, hcell⟩
    . exfalso; rw [h0] at hlt; simp at hlt
    have hx : wr.cell? ⟨b', o + kk, none⟩ = some (.string y) := by rw [hy]; exact hcell kk hlt
    have hTW := HT.out.below HW.out; have hc := hTW.c; have hsz : y.size <= maxLen := by rw [hym, zbb]; exact HKey.out _ (List.getElem_mem hkm)
    have hlk := hTW.look1 y hsz; obtain ⟨z, hz⟩ : ∃ z, z = mk (m[kk]).2 := ⟨_, rfl⟩; have hget : mk ((getT m y.data.toList).getD []) = z := by rw [hym, zbd, zlG HM.out kk hkm, hz]; rfl
    rw [hget] at hlk; have HF : Hid (zbB (m.take (kk + 1)) = zbB (m.take kk) ++ [y, z]) := by show _ = _; rw [znQ m kk hkm, hym, hz]
    have HL2 : Hid ((zbB (m.take kk)).length = 2 * kk) := by show _ = _; rw [zpa, zpI]; omega
    have hwb : w.heap.size <= wr.heap.size := HW.out.size; have HWB := zpt hwb; clear hcell hrd hy hym hget hz he hsz hTW; go_wp2_with (first | ((with_reducible refine zaG (b := .append) (xs := #[.tmp 13, .tmp 21]) rfl ?_); at_builtin; refine znR (w0 := w) w.heap.size rfl (.tmp 13) (.tmp 21) 22 9 (.string ⟨#[]⟩) 16 rfl Tryz.underlying22 infoS rfl (by decide) u3 (encs Value.string (zbB (m.take kk))) (.string y) (.string z) rfl ?aX rfl rfl HO.out HW.out HWB.out ?aL ?_; (case aX => exact rfl); (case aL => have := HL2.out; unfold encs; rw [zqe, this]; omega); intro v1 w2 ho hb hg hat))
    rw [show encs Value.string (zbB (m.take kk)) ++ [.string y, .string z] = encs Value.string (zbB (m.take (kk + 1))) by rw [HF.out]; unfold encs; rw [zqo]; rfl] at ho
    have HR2 : Hid (w2.ownsRow w.heap.size 9 1 (.slice (some ⟨b', o, none⟩) nm.length c) nm.length (encs Value.string nm)) :=
     zpf HR.out hg (by
      rcases HNE.out with h | h
      . exact .inr (by rw [h]; simp [Value.ownBlock])
      . exact .inr (Ne.symm h))
    have HNE2 : Hid (v1.ownBlock = none \/ v1.ownBlock ≠ (Value.slice (some ⟨b', o, none⟩) nm.length c).ownBlock) := by
     rcases hat with h | ⟨q, h, hq⟩
     . exact h ▸ HNE.out
     . refine .inr ?_
       rw [h]; simp only [Value.ownBlock, ne_eq, Option.some.injEq]; omega
    have HO2 := zpt ho; have HB2 := zpt hb; clear ho hb hg hat hx hc hlk HF HL2 HWB; go_wp2; go_roundg (nm.length - (kk + 1))
    case measure => omega
    case rel => exact ⟨kk + 1, by omega, by omega, by go_num, ⟨HO2.out⟩, ⟨HR2.out⟩, ⟨HNE2.out⟩, ⟨HB2.out⟩⟩
  . have hltz : ¬ (kk : Int) < (nm.length : Int) := by omega
    obtain rfl : kk = nm.length := by omega
    have ho := HO.out; rw [HNL.out, zqf] at ho; obtain ⟨A', c', rfl, hc', hrd⟩ := zqq (Kd.R_of_own (h1 := fun _ => rfl) (ok := fun _ => True) (show wr.ownsRow w.heap.size 9 1 u3 (zbB m).length (encs Value.string (zbB m)) by unfold encs at ho; rw [zqe] at ho; exact ho) (fun _ _ => trivial))
    have hP := mint_Put.calls A' c' (zbB m) (mk (keyT m)) wr (HG.out.below HW.out) hrd hc' (by unfold mint_Put.f; rw [zpp, if_pos HP.out])
    clear hrd ho hc'; go_wp2_with fail; refine hP.mono ?_; rintro e w2 ⟨rfl, hb2⟩; go_wp2; go_ret
    exact ⟨rfl, zac HW.out HW.out.size hb2⟩
end X
end Go.Proofs.YtdpgdnpddndeoaaGreatDoor
