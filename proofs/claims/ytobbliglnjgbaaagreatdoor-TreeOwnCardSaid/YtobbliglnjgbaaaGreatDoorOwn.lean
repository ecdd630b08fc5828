/-
  TreeOwn, walked by hand: a clone is one of its own.
-/
import Derived.Test.YtobbliglnjgbaaaGreatDoorPlain
import Derived.Test.YtobbliglnjgbaaaGreatDoorNone
import Derived.Test.YtobbliglnjgbaaaGreatDoorGet
import Derived.Test.YtobbliglnjgbaaaGreatDoorTok
namespace Go.Proofs.YtobbliglnjgbaaaGreatDoor.X
open Go.RowKit Go.Maps Go.Proofs.YtobbliglnjgbaaaGreatDoorW.PrintWords Go.Proofs.YtobbliglnjgbaaaGreatDoorW.PrintMore Go.Proofs.YtobbliglnjgbaaaGreatDoor.Pb Go.Proofs.YtobbliglnjgbaaaGreatDoor.Pc

set_option maxHeartbeats 4000000 in
set_option maxRecDepth 100000 in
theorem treeOwn_walk (A : Option Addr) (c : Nat) (l : List S50) (name bs : ByteArray) (w : World) (hG : GOK w) (hr : Kd.C k50 w A l.length l) (hc : l.length ≤ c) (hg : ∀ y ∈ l, y.f0.size ≤ maxLen ∧ y.f1.size ≤ maxLen) (hn : name.size ≤ maxLen) (hb : bs.size ≤ maxLen) :
    Calls Tryz.prog 15 #[.slice A l.length c, .string name, .string bs] w fun e w' => e = .returned (.bool true) ∧ Below w.heap.size w w' := by
  have HG := Lib.hid hG
  have HR := Lib.hid hr
  have HGd := Lib.hid hg
  have HN := Lib.hid hn
  have HBs := Lib.hid hb
  have hlen : l.length ≤ 9223372036854775807 := hr.2.1
  clear hG hr hg hn hb
  go_enter Tryz.func15, Tryz.ntmps15
  go_wp2_with fail
  refine (shipwrightlaw1_begun.calls true w HG.out rfl).mono ?_
  rintro e w1 ⟨rfl, hb1⟩
  have HB1 := Lib.hid hb1
  clear hb1
  go_wp2_with fail
  rw [show (min (l.length : Int) 10).toNat = (l.take (min l.length 10)).length by rw [List.length_take]; omega]
  have HRt := Lib.hid (Kd.C_take (Kd.C_below HR.out HB1.out) (show min l.length 10 ≤ l.length by omega))
  have HGt : Hid (∀ f ∈ l.take (min l.length 10), f.f0.size ≤ maxLen ∧ f.f1.size ≤ maxLen) := fun f hf => HGd.out f (List.mem_of_mem_take hf)
  refine (tree_New.calls A c (l.take (min l.length 10)) w1 (HG.out.below HB1.out) HRt.out HGt.out).mono ?_
  rintro e w2 ⟨g, b, rfl, hT2, hg2, hb2, hB2⟩
  have HS : Hid (SortedT (newT ((l.take (min l.length 10)).map fileOf))) := SortedT.new _
  have HL : Hid ((newT ((l.take (min l.length 10)).map fileOf)).length ≤ 60) := newT_length _
  have HK : Hid (SmallT (newT ((l.take (min l.length 10)).map fileOf))) := SmallT.new _
  generalize newT ((l.take (min l.length 10)).map fileOf) = m at hT2 HS HL HK
  have HT2 := Lib.hid hT2
  have HB2 := Lib.hid (below_then HB1.out HB1.out.size hB2)
  clear hT2 hg2 hb2 hB2 HRt HGt HR HGd
  go_wp2_with fail
  refine (tree_Clone.calls w2 g b m HT2.out).mono ?_
  rintro e w3 ⟨g2, b2, rfl, hT3, hg3, hb3, hB3⟩
  have HC3 := Lib.hid hT3
  have HT3 := Lib.hid (HT2.out.below hB3)
  have HNb : Hid (g ≠ b2 ∧ b ≠ b2 ∧ w.heap.size ≤ b2) := ⟨by have := HT2.out.lt; omega, by have := HT2.out.lt; omega, Nat.le_trans HB2.out.size hb3⟩
  have HB3 := Lib.hid (below_then HB2.out HB2.out.size hB3)
  clear hT3 hg3 hb3 hB3 HT2
  go_wp2_with fail
  have hk : (keyT m).length ≤ 140737488355328 := Nat.le_trans (HK.out.key HL.out) (by decide)
  refine (tree_Key.calls w3 (HG.out.below HB3.out) g b m HT3.out HS.out HL.out HK.out.names hk).mono ?_
  have HKl := Lib.hid hk
  clear hk
  rintro e w4 ⟨rfl, hB4⟩
  have HC4 := Lib.hid (HC3.out.below hB4)
  have HT4 := Lib.hid (HT3.out.below hB4)
  have HB4 := Lib.hid (below_then HB3.out HB3.out.size hB4)
  clear hB4 HC3 HT3
  go_wp2_with fail
  refine (tree_Write.calls w4 (HG.out.below HB4.out) g2 b2 m HC4.out name bs HN.out HBs.out HL.out).mono ?_
  rintro e w5 ⟨rfl, hC5, hg5⟩
  have hget := getT_write m name.data.toList bs.data.toList name.data.toList
  obtain ⟨z, hz⟩ : ∃ z, z = (writeT m name.data.toList bs.data.toList).2 := ⟨_, rfl⟩
  obtain ⟨m2, hm2⟩ : ∃ m2, m2 = (writeT m name.data.toList bs.data.toList).1 := ⟨_, rfl⟩
  rw [← hm2] at hC5 hget
  rw [← hz] at hget ⊢
  have HGT := Lib.hid hget
  have HC5 := Lib.hid hC5
  have HT5 : Hid (IsTree w5 g b m) := HT4.out.kept (hg5.block g HT4.out.lt.1 (by simpa using HNb.out.1)) (hg5.block b HT4.out.lt.2 (by simpa using HNb.out.2.1))
  have HB5 : Hid (Below w.heap.size w w5) := HB4.out.grown hg5 HB4.out.size (fun k hk => by cases hk; exact HNb.out.2.2)
  clear hC5 hg5 hget hz hm2 HC4 HT4
  go_wp2_with fail
  refine (tree_Names.calls w5 g b m HT5.out HS.out HL.out).mono ?_
  rintro e w6 ⟨v, rfl, hrow, hB6⟩
  generalize hnm : (m.map fun p => mk p.1) = nm at hrow
  have hnl : nm.length = m.length := by rw [← hnm, List.length_map]
  obtain ⟨A6, c6, rfl⟩ := own_slice hrow
  have hnl2 : nm.length ≤ 60 := by rw [hnl]; exact HL.out
  have HROW : Hid (w6.ownsRow w5.heap.size 9 1 (.slice A6 nm.length c6) nm.length (encs Value.string nm)) := hrow
  have HB6 := Lib.hid hB6
  have HNL := Lib.hid hnl
  clear hrow hB6 hnm hnl
  go_wp2_with fail
  go_loopg [13, 38] nm.length (fun gg _ s38 wr => ∃ kk : Nat, kk ≤ nm.length ∧ nm.length - kk ≤ gg ∧ s38 = .int .i64 kk ∧ Aside0 (∃ xs : List ByteArray, xs.length = nm.length ∧ wr.ownsRow w5.heap.size 9 1 (.slice A6 nm.length c6) nm.length (encs Value.string xs)) ∧ Aside0 (Below w5.heap.size w5 wr))
  case atStart => exact ⟨0, Nat.zero_le _, by omega, rfl, ⟨⟨nm, rfl, HROW.out⟩⟩, ⟨HB6.out⟩⟩
  case round =>
    obtain ⟨kk, hkk, hgk, rfl, HX, HW⟩ := hrel
    by_cases hlt : kk < nm.length
    · have hltz : (kk : Int) < (nm.length : Int) := by omega
      obtain ⟨xs, hxl, hown⟩ := HX.out
      rcases hown.2 with ⟨he, _⟩ | ⟨g6, cap, cur, he, hb6, _⟩
      · exfalso
        simp only [Value.slice.injEq] at he
        omega
      simp only [Value.slice.injEq] at he
      obtain ⟨rfl, -, rfl⟩ := he
      have hR := Kd.R_of_own (h1 := fun _ => rfl) (ok := fun _ => True) (xs := xs) (by rw [hxl]; exact hown) (fun _ _ => trivial)
      have hcf := Kd.R_celln ByteArray.empty hR (kk : Int) (by omega) hltz
      have hst := (Kd.R_putg hR (kk : Int) (⟨#[116, 117, 114, 110, 101, 100]⟩ : ByteArray)).1
      have HST := Lib.hid hst
      simp only [Int.toNat_natCast] at hcf
      obtain ⟨hc1, hf1⟩ := hcf
      have HXL := Lib.hid hxl
      have HB6g := Lib.hid hb6
      clear hst hR hown hxl hb6
      go_wp2
      go_roundg (nm.length - (kk + 1))
      case measure => omega
      case rel =>
        refine ⟨kk + 1, by omega, by omega, by go_num, ⟨⟨xs.set kk ⟨#[116, 117, 114, 110, 101, 100]⟩, by rw [List.length_set, HXL.out], ?_⟩⟩, ⟨HW.out.setCell HB6g.out _⟩⟩
        have h := Kd.own_of_R HST.out
        simp only [List.length_set, HXL.out, Int.toNat_natCast] at h
        exact h
    · have hltz : ¬ (kk : Int) < (nm.length : Int) := by omega
      have HTr := Lib.hid (HT5.out.below HW.out)
      have HCr := Lib.hid (HC5.out.below HW.out)
      have HBr := Lib.hid (below_then HB5.out HB5.out.size HW.out)
      clear HX HROW HB6
      go_wp2_with fail
      refine (tree_Key.calls wr (HG.out.below HBr.out) g b m HTr.out HS.out HL.out HK.out.names HKl.out).mono ?_
      rintro e w7 ⟨rfl, hB7⟩
      have HT7 := Lib.hid (HTr.out.below hB7)
      have HC7 := Lib.hid (HCr.out.below hB7)
      have HB7 := Lib.hid (below_then HBr.out HBr.out.size hB7)
      clear hB7
      go_wp2_with fail
      refine (tree_Names.calls w7 g b m HT7.out HS.out HL.out).mono ?_
      rintro e w8 ⟨v, rfl, hrow, hB8⟩
      obtain ⟨A8, c8, rfl⟩ := own_slice hrow
      rw [List.length_map]
      have HT8 := Lib.hid (HT7.out.below hB8)
      have HC8 := Lib.hid (HC7.out.below hB8)
      have HB8 := Lib.hid (below_then HB7.out HB7.out.size hB8)
      clear hrow hB8
      go_wp2_with fail
      refine (tree_Len.calls w8 g b m HT8.out).mono ?_
      rintro e w9 ⟨rfl, hd9⟩
      have HC9 := Lib.hid (HC8.out.below hd9.below)
      have HB9 := Lib.hid (below_then HB8.out HB8.out.size hd9.below)
      clear hd9
      go_wp2_with fail
      refine (tree_Read.calls w9 g2 b2 m2 HC9.out name HN.out).mono ?_
      rintro e w10 ⟨rfl, hd10⟩
      have HB10 := Lib.hid (below_then HB9.out HB9.out.size hd10.below)
      clear hd10
      rw [HGT.out]
      by_cases hz : z = 0
      · rw [if_pos ⟨hz, trivial⟩]
        simp only [Option.getD_some, Option.isSome_some, data_mk]
        subst hz
        go_wp2
        go_ret
        exact ⟨by simp, HB10.out⟩
      · rw [if_neg (fun h => hz h.1)]
        have hzz : (z != 0) = true := by simp [hz]
        generalize mk ((getT m name.data.toList).getD []) = v0
        generalize (getT m name.data.toList).isSome = i0
        go_wp2
        go_ret
        exact ⟨by simp, HB10.out⟩

noncomputable def shipwrightlaw1_TreeOwn.f (l : List S50) (name bs : ByteArray) : Option Bool :=
  open Classical in if (∀ y ∈ l, y.f0.size ≤ maxLen ∧ y.f1.size ≤ maxLen) ∧ name.size ≤ maxLen ∧ bs.size ≤ maxLen then some true else none
theorem shipwrightlaw1_TreeOwn.calls (A : Option Addr) (c : Nat) (l : List S50) (name bs : ByteArray) (r : Bool) (w : World) (hG : GOK w) (hr : Kd.C k50 w A l.length l) (hc : l.length ≤ c) (h : shipwrightlaw1_TreeOwn.f l name bs = some r) :
    Calls Tryz.prog 15 #[.slice A l.length c, .string name, .string bs] w fun e w' => e = .returned (.bool r) ∧ Below w.heap.size w w' := by
  unfold shipwrightlaw1_TreeOwn.f at h
  split at h
  · rename_i hs
    obtain rfl := Option.some.inj h
    exact treeOwn_walk A c l name bs w hG hr hc hs.1 hs.2.1 hs.2.2
  · cases h
theorem pure_TreeOwn (l : List S50) (name bs : ByteArray) (_h0 : l.length * 32 ≤ 140737488351232) (hg : ∀ y ∈ l, y.f0.size ≤ maxLen ∧ y.f1.size ≤ maxLen) (hn : name.size ≤ 140737488351232) (hb : bs.size ≤ 140737488351232) : shipwrightlaw1_TreeOwn.f l name bs = some true := by
  unfold shipwrightlaw1_TreeOwn.f
  rw [if_pos ⟨hg, by unfold maxLen; omega, by unfold maxLen; omega⟩]

end Go.Proofs.YtobbliglnjgbaaaGreatDoor.X
