/-
  TreeLast, walked by hand: what was written last is there; what was erased is not.
-/
import Derived.Test.YtobbliglnjgbaaaGreatDoorBegun
import Derived.Test.YtobbliglnjgbaaaGreatDoorPlain
import Derived.Test.YtobbliglnjgbaaaGreatDoorNone
import Derived.Test.YtobbliglnjgbaaaGreatDoorGet
import Derived.Test.YtobbliglnjgbaaaGreatDoorK0
namespace Go.Proofs.YtobbliglnjgbaaaGreatDoor.X
open Go.RowKit Go.Maps Go.Proofs.YtobbliglnjgbaaaGreatDoorW.PrintWords Go.Proofs.YtobbliglnjgbaaaGreatDoorW.PrintMore Go.Proofs.YtobbliglnjgbaaaGreatDoor.Pb Go.Proofs.YtobbliglnjgbaaaGreatDoor.Pc

set_option maxHeartbeats 4000000 in
set_option maxRecDepth 100000 in
theorem treeLast_walk (A : Option Addr) (c : Nat) (l : List S48) (name : ByteArray) (w : World) (hG : GOK w) (hr : Kd.C k48 w A l.length l) (hg : ∀ y ∈ l, y.f1.size ≤ maxLen ∧ y.f2.size ≤ maxLen) (hn : name.size ≤ maxLen) :
    Calls Tryz.prog 12 #[.slice A l.length c, .string name] w fun e w' => e = .returned (.bool true) ∧ Below w.heap.size w w' := by
  have HG := Lib.hid hG
  have HR := Lib.hid hr
  have HGd := Lib.hid hg
  clear hG hr hg
  go_enter Tryz.func12, Tryz.ntmps12
  go_wp2_with fail
  refine (shipwrightlaw1_begun.calls true w HG.out rfl).mono ?_
  rintro e w1 ⟨rfl, hb1⟩
  have HB1 := Lib.hid hb1
  clear hb1
  go_wp2_with fail
  refine (tree_New.calls none 0 [] w1 (HG.out.below HB1.out) (C_none k50 _) (by simp)).mono ?_
  rintro e w2 ⟨g, b, rfl, hT2, hg2, hB2, hb2⟩
  have HBb : Hid (w.heap.size ≤ b) := Nat.le_trans HB1.out.size hB2
  have HB2 := Lib.hid (below_then HB1.out HB1.out.size hb2)
  replace hT2 : IsTree w2 g b [] := hT2
  have HT2 := Lib.hid hT2
  clear hT2 hg2 hB2 hb2
  go_wp2_with fail
  have hlen : l.length ≤ 9223372036854775807 := HR.out.2.1
  go_loopg [7, 8, 9] l.length (fun gg s7 s8 s9 wr => ∃ (kk : Nat) (m : TM) (val : ByteArray) (isIn : Bool), kk ≤ l.length ∧ kk ≤ 55 ∧ l.length - kk ≤ gg ∧ s7 = .string val ∧ s8 = .bool isIn ∧ s9 = .int .i64 kk ∧
    Aside0 (IsTree wr g b m) ∧ Aside0 (m.length ≤ 60) ∧ Aside0 (getT m name.data.toList = if isIn = true then some val.data.toList else none) ∧ Aside0 (isIn = false → val = ⟨#[]⟩) ∧ Aside0 (Below w.heap.size w wr))
  case atStart => exact ⟨0, [], ⟨#[]⟩, false, Nat.zero_le _, Nat.zero_le _, by omega, rfl, rfl, rfl, ⟨HT2.out⟩, ⟨by simp⟩, ⟨rfl⟩, ⟨fun _ => rfl⟩, ⟨HB2.out⟩⟩
  case round =>
    obtain ⟨kk, m, val, isIn, hkk, h55, hgk, rfl, rfl, rfl, HT, HM, HGet, HVal, HW⟩ := hrel
    by_cases hlt : kk < l.length ∧ kk < 55
    · obtain ⟨hlt, hlt55⟩ := hlt
      have hltz : (kk : Int) < (l.length : Int) := by omega
      have hlt5 : (kk : Int) < 55 := by omega
      have hx := at_T48 HR.out (kk : Int) (by omega) hltz
      obtain ⟨ad, rfl, hx0, hx1, hx2⟩ := hx
      simp only [Int.toNat_natCast] at hx0 hx1 hx2
      obtain ⟨y, hy⟩ : ∃ y, y = rd_T48 l (kk : Int) := ⟨_, rfl⟩
      rw [← hy] at hx0 hx1 hx2
      have hym : y = l[kk] := by rw [hy]; unfold rd_T48; simp [List.getD_eq_getElem?_getD, List.getElem?_eq_getElem hlt]
      have HY : Hid (y = l[kk]) := hym
      clear hy hym
      replace hx0 := cell_keeps HW.out hx0
      replace hx1 := cell_keeps HW.out hx1
      replace hx2 := cell_keeps HW.out hx2
      have HTA := Lib.hid (HT.out.below ((Below.refl wr.heap.size wr).alloc (Nat.le_refl _) (.cells #[.int .i64 y.f0, .string y.f1, .string y.f2] 48)))
      have HWA := Lib.hid (below_then HW.out HW.out.size ((Below.refl wr.heap.size wr).alloc (Nat.le_refl _) (.cells #[.int .i64 y.f0, .string y.f1, .string y.f2] 48)))
      have hz1 : y.f1.size ≤ maxLen := by rw [HY.out]; exact (HGd.out _ (List.getElem_mem hlt)).1
      have hz2 : y.f2.size ≤ maxLen := by rw [HY.out]; exact (HGd.out _ (List.getElem_mem hlt)).2
      have hblk : b < wr.heap.size := HT.out.lt.2
      by_cases h0 : y.f0 = 0
      · rw [h0] at hx0 HTA HWA
        go_wp2_with fail
        refine (tree_Write.calls _ (HG.out.below HWA.out) g b m HTA.out y.f1 y.f2 hz1 hz2 HM.out).mono ?_
        rintro e w3 ⟨rfl, hT3, hg3⟩
        have hkeep : w3.heap[wr.heap.size]? = (wr.alloc (.cells #[.int .i64 0, .string y.f1, .string y.f2] 48)).heap[wr.heap.size]? := hg3.block _ (by simp) (by simp; omega)
        rw [heap_alloc_new] at hkeep
        have hc0 : w3.cell? ⟨wr.heap.size, 0, none⟩ = some (.int .i64 0) := by simp [World.cell?, hkeep]
        have hc1 : w3.cell? ⟨wr.heap.size, 1, none⟩ = some (.string y.f1) := by simp [World.cell?, hkeep]
        have hc2 : w3.cell? ⟨wr.heap.size, 2, none⟩ = some (.string y.f2) := by simp [World.cell?, hkeep]
        have HW3 : Hid (Below w.heap.size w w3) := HWA.out.grown hg3 HWA.out.size (fun k hk => by cases hk; exact HBb.out)
        have HT3 := Lib.hid hT3
        have HM3 : Hid ((writeT m y.f1.data.toList y.f2.data.toList).1.length ≤ 60) := writeT_length _ _ _ HM.out
        have hget := getT_write m y.f1.data.toList y.f2.data.toList name.data.toList
        obtain ⟨z, hz⟩ : ∃ z, z = (writeT m y.f1.data.toList y.f2.data.toList).2 := ⟨_, rfl⟩
        rw [← hz] at hget ⊢
        have HGT := Lib.hid hget
        clear hT3 hg3 hkeep hget hz hx0 hx1 hx2 HTA HWA hz1 hz2
        by_cases hz0 : z = 0
        · subst hz0
          by_cases hnm : y.f1.toList = name.toList
          · have hq : (y.f1.toList == name.toList) = true := by simp [hnm]
            have hnd : y.f1.data.toList = name.data.toList := by rw [← toList_eq, ← toList_eq]; exact hnm
            clear hnm
            go_wp2
            go_roundg (l.length - (kk + 1))
            case measure => omega
            case rel => exact ⟨kk + 1, _, y.f2, true, by omega, by omega, by omega, rfl, rfl, by go_num, ⟨HT3.out⟩, ⟨HM3.out⟩, ⟨by rw [HGT.out]; simp [hnd]⟩, ⟨fun h => by cases h⟩, ⟨HW3.out⟩⟩
          · have hq : (y.f1.toList == name.toList) = false := by simp [hnm]
            have hnd : ¬ y.f1.data.toList = name.data.toList := by rw [← toList_eq, ← toList_eq]; exact hnm
            clear hnm
            go_wp2
            go_roundg (l.length - (kk + 1))
            case measure => omega
            case rel => exact ⟨kk + 1, _, val, isIn, by omega, by omega, by omega, rfl, rfl, by go_num, ⟨HT3.out⟩, ⟨HM3.out⟩, ⟨by rw [HGT.out, if_neg (fun h => hnd h.2)]; exact HGet.out⟩, ⟨HVal.out⟩, ⟨HW3.out⟩⟩
        · have hzz : (z == 0) = false := by simp [hz0]
          go_wp2
          go_roundg (l.length - (kk + 1))
          case measure => omega
          case rel => exact ⟨kk + 1, _, val, isIn, by omega, by omega, by omega, rfl, rfl, by go_num, ⟨HT3.out⟩, ⟨HM3.out⟩, ⟨by rw [HGT.out, if_neg (fun h => hz0 h.1)]; exact HGet.out⟩, ⟨HVal.out⟩, ⟨HW3.out⟩⟩
      · by_cases h1 : y.f0 = 1
        · rw [h1] at hx0 HTA HWA
          go_wp2_with fail
          refine (tree_Erase.calls _ g b m HTA.out y.f1 hz1).mono ?_
          rintro e w3 ⟨rfl, hT3, hg3⟩
          have hkeep : w3.heap[wr.heap.size]? = (wr.alloc (.cells #[.int .i64 1, .string y.f1, .string y.f2] 48)).heap[wr.heap.size]? := hg3.block _ (by simp) (by simp; omega)
          rw [heap_alloc_new] at hkeep
          have hc0 : w3.cell? ⟨wr.heap.size, 0, none⟩ = some (.int .i64 1) := by simp [World.cell?, hkeep]
          have hc1 : w3.cell? ⟨wr.heap.size, 1, none⟩ = some (.string y.f1) := by simp [World.cell?, hkeep]
          have HW3 : Hid (Below w.heap.size w w3) := HWA.out.grown hg3 HWA.out.size (fun k hk => by cases hk; exact HBb.out)
          have HT3 := Lib.hid hT3
          have HM3 : Hid ((eraseT m y.f1.data.toList).1.length ≤ 60) := erase_len _ _ HM.out
          have hget := getT_erase m y.f1.data.toList name.data.toList
          have hsame : (eraseT m y.f1.data.toList).2 ≠ 0 → (eraseT m y.f1.data.toList).1 = m := by
            unfold eraseT
            split
            · intro _; rfl
            · intro h; exact absurd rfl h
          obtain ⟨z, hz⟩ : ∃ z, z = (eraseT m y.f1.data.toList).2 := ⟨_, rfl⟩
          rw [← hz] at hsame ⊢
          have HGT := Lib.hid hget
          have HSame := Lib.hid hsame
          clear hT3 hg3 hkeep hget hz hx0 hx1 hx2 HTA HWA hz1 hz2 hsame
          by_cases hz0 : z = 0
          · subst hz0
            by_cases hnm : y.f1.toList = name.toList
            · have hq : (y.f1.toList == name.toList) = true := by simp [hnm]
              have hnd : y.f1.data.toList = name.data.toList := by rw [← toList_eq, ← toList_eq]; exact hnm
              clear hnm
              go_wp2
              go_roundg (l.length - (kk + 1))
              case measure => omega
              case rel => exact ⟨kk + 1, _, ⟨#[]⟩, false, by omega, by omega, by omega, rfl, rfl, by go_num, ⟨HT3.out⟩, ⟨HM3.out⟩, ⟨by rw [HGT.out, if_pos hnd]; rfl⟩, ⟨fun _ => rfl⟩, ⟨HW3.out⟩⟩
            · have hq : (y.f1.toList == name.toList) = false := by simp [hnm]
              have hnd : ¬ y.f1.data.toList = name.data.toList := by rw [← toList_eq, ← toList_eq]; exact hnm
              clear hnm
              go_wp2
              go_roundg (l.length - (kk + 1))
              case measure => omega
              case rel => exact ⟨kk + 1, _, val, isIn, by omega, by omega, by omega, rfl, rfl, by go_num, ⟨HT3.out⟩, ⟨HM3.out⟩, ⟨by rw [HGT.out, if_neg hnd]; exact HGet.out⟩, ⟨HVal.out⟩, ⟨HW3.out⟩⟩
          · have hzz : (z == 0) = false := by simp [hz0]
            go_wp2
            go_roundg (l.length - (kk + 1))
            case measure => omega
            case rel => exact ⟨kk + 1, _, val, isIn, by omega, by omega, by omega, rfl, rfl, by go_num, ⟨HT3.out⟩, ⟨HM3.out⟩, ⟨by rw [HSame.out hz0]; exact HGet.out⟩, ⟨HVal.out⟩, ⟨HW3.out⟩⟩
        · have hb0 : (y.f0 == 0) = false := by simp [h0]
          have hb1 : (y.f0 == 1) = false := by simp [h1]
          go_wp2
          go_roundg (l.length - (kk + 1))
          case measure => omega
          case rel => exact ⟨kk + 1, m, val, isIn, by omega, by omega, by omega, rfl, rfl, by go_num, ⟨HTA.out⟩, ⟨HM.out⟩, ⟨HGet.out⟩, ⟨HVal.out⟩, ⟨HWA.out⟩⟩
    · have hend : ¬ ((kk : Int) < (l.length : Int)) ∨ ¬ ((kk : Int) < 55) := by omega
      have hR := tree_Read.calls wr g b m HT.out name hn
      have hgv : mk ((getT m name.data.toList).getD []) = val := by
        rw [HGet.out]
        cases isIn with
        | true => exact data_mk val
        | false => rw [HVal.out rfl]; rfl
      have hgi : (getT m name.data.toList).isSome = isIn := by
        rw [HGet.out]
        cases isIn <;> rfl
      rw [hgv, hgi] at hR
      clear hgv hgi
      by_cases hlz : (kk : Int) < (l.length : Int)
      · have h5z : ¬ (kk : Int) < 55 := by omega
        go_wp2_with fail
        refine hR.mono ?_
        rintro e w4 ⟨rfl, hd4⟩
        go_wp2
        go_ret
        exact ⟨by simp, below_then HW.out HW.out.size hd4.below⟩
      · go_wp2_with fail
        refine hR.mono ?_
        rintro e w4 ⟨rfl, hd4⟩
        go_wp2
        go_ret
        exact ⟨by simp, below_then HW.out HW.out.size hd4.below⟩

noncomputable def shipwrightlaw1_TreeLast.f (l : List S48) (name : ByteArray) : Option Bool :=
  open Classical in if (∀ y ∈ l, y.f1.size ≤ maxLen ∧ y.f2.size ≤ maxLen) ∧ name.size ≤ maxLen then some true else none
theorem shipwrightlaw1_TreeLast.calls (A : Option Addr) (c : Nat) (l : List S48) (name : ByteArray) (r : Bool) (w : World) (hG : GOK w) (hr : Kd.C k48 w A l.length l) (_hc : l.length ≤ c) (h : shipwrightlaw1_TreeLast.f l name = some r) :
    Calls Tryz.prog 12 #[.slice A l.length c, .string name] w fun e w' => e = .returned (.bool r) ∧ Below w.heap.size w w' := by
  unfold shipwrightlaw1_TreeLast.f at h
  split at h
  · rename_i hs
    obtain rfl := Option.some.inj h
    exact treeLast_walk A c l name w hG hr hs.1 hs.2
  · cases h
theorem pure_TreeLast (l : List S48) (name : ByteArray) (_h0 : l.length * 40 ≤ 140737488351232) (hg : ∀ y ∈ l, y.f1.size ≤ maxLen ∧ y.f2.size ≤ maxLen) (hn : name.size ≤ 140737488351232) : shipwrightlaw1_TreeLast.f l name = some true := by
  unfold shipwrightlaw1_TreeLast.f
  rw [if_pos ⟨hg, by unfold maxLen; omega⟩]

end Go.Proofs.YtobbliglnjgbaaaGreatDoor.X
