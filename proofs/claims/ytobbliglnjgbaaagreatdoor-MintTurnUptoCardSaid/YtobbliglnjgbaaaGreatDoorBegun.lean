/-
  begun answers true: every contract at its closed values.
-/
import Derived.Test.YtobbliglnjgbaaaGreatDoorPc
namespace Go.Proofs.YtobbliglnjgbaaaGreatDoor.X
open Go.RowKit Go.Maps Go.Proofs.YtobbliglnjgbaaaGreatDoorW.PrintWords

/-- A row that was just laid is read. -/
theorem lit_C {α : Type} (d : Kd α) (W : World) (e : Nat) (xs : List α) (inner : List Value) (hrep : Reps (d.K W) d.sz xs inner) (hm : xs.length ≤ 9223372036854775807) :
    d.C (W.alloc (.cells inner.toArray e)) (some ⟨W.heap.size, 0, none⟩) xs.length xs := by
  have h2 := World.ownsRow_lit (base := W.heap.size) (e := e) (size := d.sz) W inner.toArray xs.length (Nat.le_refl _) (by simpa [maxLen] using hm) (by simpa using hrep.1)
  refine ⟨rfl, hm, fun _ => ⟨_, rfl, fun j p hj => ⟨(inner.drop (j * d.sz)).take d.sz, ?_, d.K_below ((Below.refl _ _).alloc (Nat.le_refl _) _) (hrep.2 j p hj), fun i u hu => ?_⟩⟩⟩
  · exact d.K_len (hrep.2 j p hj)
  · have hi : i < d.sz := by
      obtain ⟨hl, _⟩ := List.getElem?_eq_some_iff.1 hu
      rw [List.length_take] at hl
      omega
    rw [List.getElem?_take_of_lt hi, List.getElem?_drop] at hu
    have := h2.cells (g := W.heap.size) rfl (j * d.sz + i) u (by simpa using hu)
    simpa [Addr.add] using this

def shipwrightlaw1_begun.f : Option Bool := some true
set_option maxHeartbeats 4000000 in
set_option maxRecDepth 100000 in
theorem shipwrightlaw1_begun.calls (r : Bool) (w : World) (hG : GOK w) (h : shipwrightlaw1_begun.f = some r) :
    Calls Tryz.prog 16 #[] w fun e w' => e = .returned (.bool r) ∧ Below w.heap.size w w' := by
  obtain rfl := Option.some.inj h
  clear h
  have HG := Lib.hid hG
  clear hG
  go_enter Tryz.func16, Tryz.ntmps16
  go_wp2_with fail
  refine (Pc.path_Norm.calls 40 ⟨#[97, 47, 47, 46, 47, 98, 47, 46, 46, 47, 99]⟩ ⟨#[97, 47, 99]⟩ true w HG.out (by kernel_rfl)).mono ?_
  rintro e w1 ⟨rfl, hb1⟩
  go_wp2_with fail
  refine (Pc.path_Norm.calls 40 ⟨#[46, 46]⟩ ⟨#[]⟩ false w1 (HG.out.below hb1) (by kernel_rfl)).mono ?_
  rintro e w2 ⟨rfl, hb2⟩
  replace hb2 := below_then hb1 hb1.size hb2
  clear hb1
  go_wp2_with fail
  refine (Pc.mint_Get.calls 40 ⟨#[49, 58, 97, 48, 58]⟩ [⟨#[97]⟩, ⟨#[]⟩] true w2 (HG.out.below hb2) (by kernel_rfl)).mono ?_
  rintro e w3 ⟨v3, rfl, hr3, hb3⟩
  replace hb3 := below_then hb2 hb2.size hb3
  obtain ⟨A3, c3, rfl, _, _⟩ := Kd.R_reads hr3
  clear hb2 hr3
  go_wp2_with fail
  refine (mint_GetNumber.calls ⟨#[49, 50]⟩ 20 12 true w3 (HG.out.below hb3) (by kernel_rfl)).mono ?_
  rintro e w4 ⟨rfl, hb4⟩
  replace hb4 := below_then hb3 hb3.size hb4
  clear hb3
  go_wp2_with fail
  have hr4 := lit_C k50 w4 50 [⟨⟨#[98]⟩, ⟨#[120]⟩⟩, ⟨⟨#[97]⟩, ⟨#[]⟩⟩, ⟨⟨#[105, 110]⟩, ⟨#[]⟩⟩] [.string ⟨#[98]⟩, .string ⟨#[120]⟩, .string ⟨#[97]⟩, .string ⟨#[]⟩, .string ⟨#[105, 110]⟩, .string ⟨#[]⟩]
    (Reps.c2 (k50_mk w4 ⟨⟨#[98]⟩, ⟨#[120]⟩⟩) (Reps.c2 (k50_mk w4 ⟨⟨#[97]⟩, ⟨#[]⟩⟩) (Reps.c2 (k50_mk w4 ⟨⟨#[105, 110]⟩, ⟨#[]⟩⟩) (Reps.none _ _)))) (by simp)
  have hb4' := below_then hb4 hb4.size ((Below.refl w4.heap.size w4).alloc (Nat.le_refl _) (.cells #[Value.string ⟨#[98]⟩, .string ⟨#[120]⟩, .string ⟨#[97]⟩, .string ⟨#[]⟩, .string ⟨#[105, 110]⟩, .string ⟨#[]⟩] 50))
  refine (tree_New.calls _ 3 [⟨⟨#[98]⟩, ⟨#[120]⟩⟩, ⟨⟨#[97]⟩, ⟨#[]⟩⟩, ⟨⟨#[105, 110]⟩, ⟨#[]⟩⟩] _ (HG.out.below hb4') hr4 (by decide)).mono ?_
  rintro e w5 ⟨g, b, rfl, hT5, _, hBb, hb5⟩
  replace hBb : w.heap.size ≤ b := Nat.le_trans hb4'.size hBb
  replace hb5 := below_then hb4' hb4'.size hb5
  replace hT5 : IsTree w5 g b [([97], []), ([98], [120])] := hT5
  clear hr4 hb4 hb4'
  have HT5 := Lib.hid hT5
  have HB5 := Lib.hid hb5
  clear hT5 hb5
  go_wp2_with fail
  refine (tree_Read.calls w5 g b _ HT5.out ⟨#[98]⟩ (by decide)).mono ?_
  rintro e w6 ⟨rfl, hd6⟩
  rw [show mk ((getT [([97], []), ([98], [120])] (⟨#[98]⟩ : ByteArray).data.toList).getD []) = ⟨#[120]⟩ by kernel_rfl, show (getT [([97], []), ([98], [120])] (⟨#[98]⟩ : ByteArray).data.toList).isSome = true by kernel_rfl]
  have hb6 := below_then HB5.out HB5.out.size hd6.below
  have hT6 := HT5.out.below hd6.below
  clear hd6 HT5 HB5
  have HT6 := Lib.hid hT6
  have HB6 := Lib.hid hb6
  clear hT6 hb6
  go_wp2_with fail
  refine (path_May.calls ⟨#[97, 47, 98, 46, 99]⟩ true w6 (HG.out.below HB6.out) (by kernel_rfl)).mono ?_
  rintro e w7 ⟨rfl, hb7⟩
  replace HT6 := Lib.hid (HT6.out.below hb7)
  replace hb7 := below_then HB6.out HB6.out.size hb7
  have HB7 := Lib.hid hb7
  clear hb7
  go_wp2_with fail
  refine (path_May.calls ⟨#[97, 47, 47, 98]⟩ false w7 (HG.out.below HB7.out) (by kernel_rfl)).mono ?_
  rintro e w8 ⟨rfl, hb8⟩
  replace HT6 := Lib.hid (HT6.out.below hb8)
  replace hb8 := below_then HB7.out HB7.out.size hb8
  have HB8 := Lib.hid hb8
  clear hb8
  go_wp2_with fail
  refine (path_May.calls ⟨#[114, 117, 108, 101]⟩ false w8 (HG.out.below HB8.out) (by kernel_rfl)).mono ?_
  rintro e w9 ⟨rfl, hb9⟩
  replace HT6 := Lib.hid (HT6.out.below hb9)
  replace hb9 := below_then HB8.out HB8.out.size hb9
  have HB9 := Lib.hid hb9
  clear hb9 HB8 HB7
  go_wp2_with fail
  have hr10 := lit_C Kd.string w9 9 [⟨#[97]⟩, ⟨#[]⟩, ⟨#[98]⟩] [.string ⟨#[97]⟩, .string ⟨#[]⟩, .string ⟨#[98]⟩] (Kd.reps_scalar _) (by simp)
  have hb10 := below_then HB9.out HB9.out.size ((Below.refl w9.heap.size w9).alloc (Nat.le_refl _) (.cells #[Value.string ⟨#[97]⟩, .string ⟨#[]⟩, .string ⟨#[98]⟩] 9))
  refine (path_Join.calls _ 3 [⟨#[97]⟩, ⟨#[]⟩, ⟨#[98]⟩] ⟨#[97, 47, 98]⟩ _ (HG.out.below hb10) hr10 (by simp) (by kernel_rfl)).mono ?_
  rintro e w10 ⟨rfl, hb10'⟩
  replace HT6 := Lib.hid ((HT6.out.below ((Below.refl w9.heap.size w9).alloc (Nat.le_refl _) _)).below hb10')
  replace hb10 := below_then hb10 hb10.size hb10'
  have HB10 := Lib.hid hb10
  clear hb10 hb10' hr10
  go_wp2_with fail
  refine (Pb.path_Parts.calls ⟨#[47]⟩ [⟨#[]⟩, ⟨#[]⟩] w10 (HG.out.below HB10.out) (by kernel_rfl)).mono ?_
  rintro e w11 ⟨v11, rfl, hr11, hb11⟩
  replace HT6 := Lib.hid (HT6.out.below hb11)
  replace hb11 := below_then HB10.out HB10.out.size hb11
  have HB11 := Lib.hid hb11
  obtain ⟨A11, c11, rfl, _, _⟩ := Kd.R_reads hr11
  clear hb11 hr11
  go_wp2_with fail
  have hr12 := lit_C Kd.string w11 9 [⟨#[97]⟩, ⟨#[]⟩] [.string ⟨#[97]⟩, .string ⟨#[]⟩] (Kd.reps_scalar _) (by simp)
  have hb12 := below_then HB11.out HB11.out.size ((Below.refl w11.heap.size w11).alloc (Nat.le_refl _) (.cells #[Value.string ⟨#[97]⟩, .string ⟨#[]⟩] 9))
  refine (mint_Put.calls _ 2 [⟨#[97]⟩, ⟨#[]⟩] ⟨#[49, 58, 97, 48, 58]⟩ _ (HG.out.below hb12) hr12 (by simp) (by kernel_rfl)).mono ?_
  rintro e w12 ⟨rfl, hb12'⟩
  replace HT6 := Lib.hid ((HT6.out.below ((Below.refl w11.heap.size w11).alloc (Nat.le_refl _) _)).below hb12')
  replace hb12 := below_then hb12 hb12.size hb12'
  have HB12 := Lib.hid hb12
  clear hb12 hb12' hr12
  go_wp2_with fail
  have hr13 := lit_C k34 w12 34 [⟨true, ⟨#[122]⟩⟩, ⟨false, ⟨#[]⟩⟩] [.bool true, .string ⟨#[122]⟩, .bool false, .string ⟨#[]⟩] (Reps.c2 (k34_mk w12 ⟨true, ⟨#[122]⟩⟩) (Reps.c2 (k34_mk w12 ⟨false, ⟨#[]⟩⟩) (Reps.none _ _))) (by simp)
  have hb13 := below_then HB12.out HB12.out.size ((Below.refl w12.heap.size w12).alloc (Nat.le_refl _) (.cells #[.bool true, .string ⟨#[122]⟩, .bool false, .string ⟨#[]⟩] 34))
  refine (Pc.mint_Vals.calls 10 _ 2 [⟨true, ⟨#[122]⟩⟩, ⟨false, ⟨#[]⟩⟩] ⟨#[50, 58, 43, 122, 49, 58, 45]⟩ _ (HG.out.below hb13) hr13 (by simp) (by kernel_rfl)).mono ?_
  rintro e w13 ⟨rfl, hb13'⟩
  replace HT6 := Lib.hid ((HT6.out.below ((Below.refl w12.heap.size w12).alloc (Nat.le_refl _) _)).below hb13')
  replace hb13 := below_then hb13 hb13.size hb13'
  have HB13 := Lib.hid hb13
  clear hb13 hb13' hr13
  go_wp2_with fail
  refine (tree_Len.calls w13 g b _ HT6.out).mono ?_
  rintro e w14 ⟨rfl, hd14⟩
  replace HT6 := Lib.hid (HT6.out.below hd14.below)
  have HB14 := Lib.hid (below_then HB13.out HB13.out.size hd14.below)
  clear hd14
  go_wp2_with fail
  refine (tree_Names.calls w14 g b _ HT6.out (by show List.Pairwise _ _; decide) (by decide)).mono ?_
  rintro e w15 ⟨v15, rfl, hr15, hb15⟩
  replace HT6 := Lib.hid (HT6.out.below hb15)
  have HB15 := Lib.hid (below_then HB14.out HB14.out.size hb15)
  obtain ⟨A15, c15, rfl, hc15, hrd15⟩ := Kd.R_reads (Kd.R_of_own (h1 := fun _ => rfl) (ok := fun _ => True) hr15 (fun _ _ => trivial))
  rcases row_open hrd15 with h0 | ⟨b', o, rfl, _, hcell⟩
  · cases h0
  have hx := hcell 0 (by simp)
  replace hx : w15.cell? ⟨b', o + 0, none⟩ = some (.string ⟨#[97]⟩) := hx
  have hx' : w15.cell? ⟨b', o, none⟩ = some (.string ⟨#[97]⟩) := hx
  clear hr15 hrd15 hcell hb15
  go_wp2_with fail
  refine (tree_Key.calls w15 (HG.out.below HB15.out) g b _ HT6.out (by show List.Pairwise _ _; decide) (by decide) (by decide) (by rw [show (keyT [([97], []), ([98], [120])]).length = 11 by kernel_rfl]; decide)).mono ?_
  rw [show mk (keyT [([97], []), ([98], [120])]) = ⟨#[49, 58, 97, 48, 58, 49, 58, 98, 49, 58, 120]⟩ by kernel_rfl]
  rintro e w16 ⟨rfl, hb16⟩
  replace HT6 := Lib.hid (HT6.out.below hb16)
  have HB16 := Lib.hid (below_then HB15.out HB15.out.size hb16)
  clear hx hx' hb16
  go_wp2_with fail
  refine (tree_Erase.calls w16 g b _ HT6.out ⟨#[99]⟩ (by decide)).mono ?_
  rw [show (eraseT [([97], []), ([98], [120])] (⟨#[99]⟩ : ByteArray).data.toList).2 = 6 by kernel_rfl]
  rintro e w17 ⟨rfl, _, hg17⟩
  have hb17 := HB16.out.grown hg17 HB16.out.size (fun k hk => by cases hk; exact hBb)
  go_wp2
  go_ret
  exact ⟨rfl, hb17⟩
end Go.Proofs.YtobbliglnjgbaaaGreatDoor.X
