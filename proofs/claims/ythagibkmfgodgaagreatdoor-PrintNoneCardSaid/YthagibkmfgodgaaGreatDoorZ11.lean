/-
  PrintNone, walked by hand.
-/
import Derived.Test.YthagibkmfgodgaaGreatDoorZ8
namespace Go.Proofs.YthagibkmfgodgaaGreatDoor.X
open Go.RowKit Go.Maps Go.Proofs.YthagibkmfgodgaaGreatDoorW.PrintWords Go.Proofs.YthagibkmfgodgaaGreatDoorW.PrintMore Go.Proofs.YthagibkmfgodgaaGreatDoorW.PrintLast

theorem none_all : allR (allF []) = ([⟨4, 0, ⟨#[]⟩⟩], 0, 0) := by kernel_rfl
theorem none_file : fileT [32, 35, 32, 110, 111, 116, 104, 105, 110, 103] = ([], 0, 0) := by kernel_rfl
theorem long_file (s : Bytes) (h : 20000 < s.length) : fileT s = ([], 4, -1) := by unfold fileT; rw [if_pos h]
theorem none_quote (w : World) : Calls Tryz.prog 21 #[.string ⟨#[]⟩] w fun e w' => e = .returned (.string ⟨#[34, 34]⟩) ∧ Below w.heap.size w w' := by
  have h := quote_calls ⟨#[]⟩ (by decide) (fun c hc => by simp at hc) w
  rw [show quoteF (⟨#[]⟩ : ByteArray).data.toList = [34, 34] from by kernel_rfl] at h
  exact h
theorem long_make (M : Array Value) (hM : M = madeCells #[.int .u8 0] 20001) (W : World) : (Instr.makeSlice 38 (.int .i64 20001) (.int .i64 20001)).run Tryz.prog W = .ok (.slice (some ⟨W.heap.size, 0, none⟩) 20001 20001) (W.alloc (.cells M 5)) := by
  rw [hM]
  exact run_make_row' 38 5 (.int .u8 0) 1 Tryz.underlying38 (by kernel_rfl) rfl .i64 .i64 20001 (by decide) (by decide) W
theorem long_text : ∃ s : ByteArray, s.size = 20001 ∧ ∀ (M : Array Value), M = madeCells #[.int .u8 0] 20001 → ∀ W : World, (convert 38 9 (.slice (some ⟨W.heap.size, 0, none⟩) 20001 20001)).run Tryz.prog (W.alloc (.cells M 5)) = .ok (.string s) (W.alloc (.cells M 5)) := by
  refine ⟨strOfNums (List.replicate 20001 0), by rw [strOfNums_size]; exact List.length_replicate, fun M hM W => ?_⟩
  subst hM
  have h : ReadsInt (W.alloc (.cells (madeCells #[.int .u8 0] 20001) 5)) .u8 (some ⟨W.heap.size, 0, none⟩) 20001 (List.replicate 20001 0) := by
    refine ⟨List.length_replicate, by decide, fun _ => ⟨_, rfl, fun j hj => ?_⟩⟩
    rw [add_plain]
    obtain ⟨c, hc1, hc2, hc3⟩ := World.rowIs_made W (.int .u8 0) 20001 5
    refine ((blk_cell hc1 j).trans (hc3 j hj)).trans ?_
    rw [List.getD_eq_getElem?_getD, List.getElem?_replicate, if_pos hj]
    rfl
  exact string_of_reads Tryz.underlying38 Tryz.underlying5 Tryz.underlying9 h
set_option maxHeartbeats 8000000 in
set_option maxRecDepth 100000 in
theorem printNone_walk (w : World) (hG : GOK w) : Calls Tryz.prog 9 #[] w (IsTrue w) := by
  have HG := Lib.hid hG
  clear hG
  have hF := fun W hW => file_calls ⟨#[32, 35, 32, 110, 111, 116, 104, 105, 110, 103]⟩ W hW
  rw [show fileT (⟨#[32, 35, 32, 110, 111, 116, 104, 105, 110, 103]⟩ : ByteArray).data.toList = _ from none_file] at hF
  have hA := fun W => all_calls ⟨#[]⟩ (by decide) W
  rw [show allR (allF (⟨#[]⟩ : ByteArray).data.toList) = _ from none_all] at hA
  go_enter Tryz.func9, Tryz.ntmps9
  go_wp2_with fail
  refine (hA _).mono ?_
  rintro e w1 ⟨v, rfl, hR, hb1⟩
  obtain ⟨A, c, rfl, _, hr1⟩ := Kd.R_reads hR
  have hE1 := blk_new w1 (.cells #[.int .i64 0, .int .i64 0] 27)
  have hb2 := (Below.refl w1.heap.size w1).alloc (Nat.le_refl _) (.cells #[.int .i64 0, .int .i64 0] 27)
  have hr2 := Kd.C_below hr1 hb2
  replace hb2 := below_then hb1 hb1.size hb2
  have HE2 := Lib.hid hE1
  have HR2 := Lib.hid hr2
  have HB2 := Lib.hid hb2
  clear hA hR hb1 hr1 hE1 hr2 hb2
  go_wp2_with fail
  generalize w1.alloc (.cells #[.int .i64 0, .int .i64 0] 27) = w2 at HE2 HR2 HB2 ⊢
  generalize w1.heap.size = E1 at HE2 ⊢
  refine (hF _ (HG.out.below HB2.out)).mono ?_
  rintro e w3 ⟨v, rfl, hR, hb3⟩
  obtain ⟨AR, cR, rfl, _, hr3⟩ := Kd.R_reads hR
  have hE3 := blk_new w3 (.cells #[.int .i64 0, .int .i64 0] 27)
  have hb4 := (Below.refl w3.heap.size w3).alloc (Nat.le_refl _) (.cells #[.int .i64 0, .int .i64 0] 27)
  have HE4a := Lib.hid (blk_alloc (blk_below HE2.out hb3) (.cells #[.int .i64 0, .int .i64 0] 27))
  have HR4a := Lib.hid (Kd.C_below (Kd.C_below HR2.out hb3) hb4)
  have HE4b := Lib.hid hE3
  have HB4 := Lib.hid (below_then (below_then HB2.out HB2.out.size hb3) (below_then HB2.out HB2.out.size hb3).size hb4)
  clear hF hR hb3 hr3 hE3 hb4 HE2 HR2 HB2
  obtain ⟨M, hM⟩ : ∃ M, M = madeCells #[.int .u8 0] 20001 := ⟨_, rfl⟩
  obtain ⟨S, hSz, hcv⟩ := long_text
  have hmk := fun W => long_make M hM W
  have hcv2 := hcv M hM (w3.alloc (.cells #[.int .i64 0, .int .i64 0] 27))
  rw [World.size_alloc] at hcv2
  have hX := fun W hW => file_calls S W hW
  rw [long_file S.data.toList (by rw [← Lib.size_eq, hSz]; decide)] at hX
  have HX := Lib.hid hX
  have hb5 := (Below.refl (w3.alloc (.cells #[.int .i64 0, .int .i64 0] 27)).heap.size (w3.alloc (.cells #[.int .i64 0, .int .i64 0] 27))).alloc (Nat.le_refl _) (.cells M 5)
  have HE5a := Lib.hid (blk_below HE4a.out hb5)
  have HE5b := Lib.hid (blk_below HE4b.out hb5)
  have HR5a := Lib.hid (Kd.C_below HR4a.out hb5)
  have HB5 := Lib.hid (below_then HB4.out HB4.out.size hb5)
  clear hM hSz hcv hX hb5 HE4a HE4b HR4a HB4
  go_wp2_with fail
  generalize (w3.alloc (.cells #[.int .i64 0, .int .i64 0] 27)).alloc (.cells M 5) = w5 at HE5a HE5b HR5a HB5 ⊢
  generalize w3.heap.size = E2 at HE5b ⊢
  clear hmk hcv2
  refine (HX.out _ (HG.out.below HB5.out)).mono ?_
  rintro e w6 ⟨v, rfl, hR, hb6⟩
  obtain ⟨AX, cX, rfl, _, _⟩ := Kd.R_reads hR
  have hE6 := blk_new w6 (.cells #[.int .i64 4, .int .i64 (-1)] 27)
  have hb7 := (Below.refl w6.heap.size w6).alloc (Nat.le_refl _) (.cells #[.int .i64 4, .int .i64 (-1)] 27)
  have HE7a := Lib.hid (blk_alloc (blk_below HE5a.out hb6) (.cells #[.int .i64 4, .int .i64 (-1)] 27))
  have HE7b := Lib.hid (blk_alloc (blk_below HE5b.out hb6) (.cells #[.int .i64 4, .int .i64 (-1)] 27))
  have HR7a := Lib.hid (Kd.C_below (Kd.C_below HR5a.out hb6) hb7)
  have HE7c := Lib.hid hE6
  have HB7 := Lib.hid (below_then (below_then HB5.out HB5.out.size hb6) (below_then HB5.out HB5.out.size hb6).size hb7)
  clear HX hR hb6 hE6 hb7 HE5a HE5b HR5a HB5
  go_wp2_with fail
  generalize w6.alloc (.cells #[.int .i64 4, .int .i64 (-1)] 27) = w7 at HE7a HE7b HE7c HR7a HB7 ⊢
  generalize w6.heap.size = E3 at HE7c ⊢
  refine (begun4_calls _ (HG.out.below HB7.out)).mono ?_
  rintro e w8 ⟨rfl, hb8⟩
  have HE8a := Lib.hid (blk_below HE7a.out hb8)
  have HE8b := Lib.hid (blk_below HE7b.out hb8)
  have HE8c := Lib.hid (blk_below HE7c.out hb8)
  have HB8 := Lib.hid (below_then HB7.out HB7.out.size hb8)
  obtain ⟨aw, rfl, p00, _, _⟩ := at_T34 (Kd.C_below HR7a.out hb8) 0 (by simp) (by simp)
  have p0 : w8.cell? aw = some (.int .i64 4) := by
    have := p00
    rw [show (0 : Int).toNat * 3 = (0 : Int).toNat * 3 + 0 from rfl, at_zero] at this
    exact this
  have k10 : w8.cell? ⟨E1, 0, none⟩ = some (.int .i64 0) := (blk_cell HE8a.out 0).trans rfl
  have k20 : w8.cell? ⟨E2, 0, none⟩ = some (.int .i64 0) := (blk_cell HE8b.out 0).trans rfl
  have k30 : w8.cell? ⟨E3, 0, none⟩ = some (.int .i64 4) := (blk_cell HE8c.out 0).trans rfl
  have k31 : w8.cell? ⟨E3, 1, none⟩ = some (.int .i64 (-1)) := (blk_cell HE8c.out 1).trans rfl
  clear p00 hb8 HE7a HE7b HE7c HR7a HB7
  go_wp2_with fail
  refine (pfileNil_calls _).mono ?_
  rintro e w9 ⟨rfl, rfl⟩
  clear p0 k10 k20 k30 k31 HE8a HE8b HE8c
  go_wp2_with fail
  refine (none_quote _).mono ?_
  rintro e w9 ⟨rfl, hb9⟩
  have HB9 := Lib.hid (below_then HB8.out HB8.out.size hb9)
  clear hb9 HB8
  go_wp2_with fail
  refine (op_calls _ _).mono ?_
  rintro e w10 ⟨rfl, hw⟩
  rw [show opF ⟨#[]⟩ = 0 from by kernel_rfl]
  have hb10 : Below w9.heap.size w9 w10 := by rw [hw]; exact (Below.refl _ _).alloc (Nat.le_refl _) _
  have HB10 := Lib.hid (below_then HB9.out HB9.out.size hb10)
  clear hw hb10 HB9
  go_wp2_with fail
  refine (opName_calls _ _).mono ?_
  rintro e w11 ⟨rfl, hb11⟩
  rw [show opNameF 0 = ⟨#[]⟩ from by kernel_rfl]
  have HB11 := Lib.hid (below_then HB10.out HB10.out.size hb11)
  clear hb11 HB10
  go_wp2_with fail
  refine (eqNil_calls _).mono ?_
  rintro e w12 ⟨rfl, hb12⟩
  have HB12 := Lib.hid (below_then HB11.out HB11.out.size hb12)
  clear hb12
  go_wp2_with fail
  go_ret
  exact ⟨rfl, HB12.out⟩

def shipwrightlaw4_PrintNone.f : Option Bool := some true
theorem shipwrightlaw4_PrintNone.calls (r : Bool) (w : World) (hG : GOK w) (h : shipwrightlaw4_PrintNone.f = some r) :
    Calls Tryz.prog 9 #[] w fun e w' => e = .returned (.bool r) ∧ Below w.heap.size w w' := by
  obtain rfl := Option.some.inj h
  exact printNone_walk w hG
theorem pure_PrintNone : shipwrightlaw4_PrintNone.f = some true := rfl

end Go.Proofs.YthagibkmfgodgaaGreatDoor.X
