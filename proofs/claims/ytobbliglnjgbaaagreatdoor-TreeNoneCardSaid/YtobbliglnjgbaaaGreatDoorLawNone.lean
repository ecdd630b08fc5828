/-
  TreeNone, a closed sentence, walked by hand.
-/
import Derived.Test.YtobbliglnjgbaaaGreatDoorNone
namespace Go.Proofs.YtobbliglnjgbaaaGreatDoor.X
open Go.RowKit Go.Maps Go.Proofs.YtobbliglnjgbaaaGreatDoorW.PrintWords Go.Proofs.YtobbliglnjgbaaaGreatDoor.Pb Go.Proofs.YtobbliglnjgbaaaGreatDoor.Pc

def shipwrightlaw1_TreeNone.f : Option Bool := some true
theorem pure_TreeNone : shipwrightlaw1_TreeNone.f = some true := rfl
set_option maxHeartbeats 4000000 in
set_option maxRecDepth 100000 in
theorem shipwrightlaw1_TreeNone.calls (r : Bool) (w : World) (hG : GOK w) (h : shipwrightlaw1_TreeNone.f = some r) :
    Calls Tryz.prog 14 #[] w fun e w' => e = .returned (.bool r) ∧ Below w.heap.size w w' := by
  obtain rfl := Option.some.inj h
  clear h
  have HG := Lib.hid hG
  clear hG
  go_enter Tryz.func14, Tryz.ntmps14
  go_wp2_with fail
  refine (tree_Read.none w ⟨#[97]⟩).mono ?_
  rintro e w1 ⟨rfl, hd1⟩
  have HB1 := Lib.hid hd1.below
  clear hd1
  go_wp2_with fail
  refine (mint_Get.calls 40 ⟨#[]⟩ [] true w1 (HG.out.below HB1.out) (by kernel_rfl)).mono ?_
  rintro e w2 ⟨v2, rfl, hr2, hb2⟩
  have HB2 := Lib.hid (below_then HB1.out HB1.out.size hb2)
  obtain ⟨A2, c2, rfl, _, _⟩ := Kd.R_reads hr2
  clear hr2 hb2
  go_wp2_with fail
  refine (shipwrightlaw1_begun.calls true w2 (HG.out.below HB2.out) rfl).mono ?_
  rintro e w3 ⟨rfl, hb3⟩
  have HB3 := Lib.hid (below_then HB2.out HB2.out.size hb3)
  clear hb3
  go_wp2_with fail
  refine (tree_Write.none w3 ⟨#[97]⟩ ⟨#[98]⟩).mono ?_
  rintro e w4 ⟨rfl, hd4⟩
  have HB4 := Lib.hid (below_then HB3.out HB3.out.size hd4.below)
  clear hd4
  go_wp2_with fail
  refine (tree_Erase.none w4 ⟨#[97]⟩).mono ?_
  rintro e w5 ⟨rfl, hd5⟩
  have HB5 := Lib.hid (below_then HB4.out HB4.out.size hd5.below)
  clear hd5
  go_wp2_with fail
  refine (tree_Names.none w5).mono ?_
  rintro e w6 ⟨rfl, hd6⟩
  have HB6 := Lib.hid (below_then HB5.out HB5.out.size hd6.below)
  clear hd6
  go_wp2_with fail
  refine (tree_Len.none w6).mono ?_
  rintro e w7 ⟨rfl, hd7⟩
  have HB7 := Lib.hid (below_then HB6.out HB6.out.size hd7.below)
  clear hd7
  go_wp2_with fail
  refine (tree_Clone.none w7).mono ?_
  rintro e w8 ⟨rfl, hd8⟩
  have HB8 := Lib.hid (below_then HB7.out HB7.out.size hd8.below)
  clear hd8
  go_wp2_with fail
  refine (tree_Key.none w8 (HG.out.below HB8.out)).mono ?_
  rintro e w9 ⟨rfl, hb9⟩
  have HB9 := Lib.hid (below_then HB8.out HB8.out.size hb9)
  clear hb9
  go_wp2_with fail
  refine (path_Join.calls none 0 [] ⟨#[]⟩ w9 (HG.out.below HB9.out) (C_none Kd.string _) (by simp) (by kernel_rfl)).mono ?_
  rintro e w10 ⟨rfl, hb10⟩
  have HB10 := Lib.hid (below_then HB9.out HB9.out.size hb10)
  clear hb10
  go_wp2_with fail
  refine (mint_Put.calls none 0 [] ⟨#[]⟩ w10 (HG.out.below HB10.out) (C_none Kd.string _) (by simp) (by kernel_rfl)).mono ?_
  rintro e w11 ⟨rfl, hb11⟩
  have HB11 := Lib.hid (below_then HB10.out HB10.out.size hb11)
  clear hb11
  go_wp2_with fail
  refine (mint_Vals.calls 10 none 0 [] ⟨#[]⟩ w11 (HG.out.below HB11.out) (C_none k34 _) (by simp) (by kernel_rfl)).mono ?_
  rintro e w12 ⟨rfl, hb12⟩
  have HB12 := Lib.hid (below_then HB11.out HB11.out.size hb12)
  clear hb12
  go_wp2_with fail
  refine (path_May.calls ⟨#[]⟩ false w12 (HG.out.below HB12.out) (by kernel_rfl)).mono ?_
  rintro e w13 ⟨rfl, hb13⟩
  have HB13 := Lib.hid (below_then HB12.out HB12.out.size hb13)
  clear hb13
  go_wp2
  go_ret
  exact ⟨rfl, HB13.out⟩

end Go.Proofs.YtobbliglnjgbaaaGreatDoor.X
