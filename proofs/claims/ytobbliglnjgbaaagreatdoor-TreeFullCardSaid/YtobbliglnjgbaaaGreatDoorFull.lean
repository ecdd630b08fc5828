/-
  TreeFull, walked by hand: sixty files, and not one more.
-/
import Derived.Test.YtobbliglnjgbaaaGreatDoorPlain
import Derived.Test.YtobbliglnjgbaaaGreatDoorRef
import Derived.Test.YtobbliglnjgbaaaGreatDoorNone
namespace Go.Proofs.YtobbliglnjgbaaaGreatDoor.X
open Go.RowKit Go.Maps Go.Proofs.YtobbliglnjgbaaaGreatDoorW.PrintWords Go.Proofs.YtobbliglnjgbaaaGreatDoorW.PrintMore Go.Proofs.YtobbliglnjgbaaaGreatDoor.Pb Go.Proofs.YtobbliglnjgbaaaGreatDoor.Pc Go.Proofs.YtobbliglnjgbaaaGreatDoor.Pf

def fullT : Nat → TM
  | 0 => []
  | i + 1 => (writeT (fullT i) (102 :: number (i : Int)) [120]).1
theorem full_step : ∀ i, i < 65 → (writeT (fullT i) (102 :: number (i : Int)) [120]).2 = if i < 60 then 0 else 4 := by decide +kernel
theorem full_short : ∀ i : Nat, i < 65 → (number (i : Int)).length ≤ 2 := by decide +kernel
theorem full_len (i : Nat) : (fullT i).length ≤ 60 := by
  induction i with
  | zero => simp [fullT]
  | succ i ih => exact writeT_length _ _ _ ih
theorem full_facts : ∀ i : Nat, i < 65 → (fullT i).length = min i 60 ∧ (delT (fullT i) [102, 48]).length + 1 = max 1 (min i 60) ∧ (getT (fullT i) [102, 48] = none → i = 0) := by decide +kernel
theorem full_last (i : Nat) (hi : i < 65) (v : Bytes) : (2000 < v.length → writeT (fullT i) [102, 48] v = (fullT i, 4)) ∧ (¬ 2000 < v.length → (writeT (fullT i) [102, 48] v).2 = 0 ∧ (writeT (fullT i) [102, 48] v).1.length = max 1 (min i 60)) := by
  obtain ⟨h1, h2, h3⟩ := full_facts i hi
  have hm : may [102, 48] = true := by decide +kernel
  refine ⟨fun hv => ?_, fun hv => ?_⟩
  · unfold writeT
    rw [if_neg (by rw [hm]; decide), if_pos (.inl hv)]
  · have hno : ¬ (2000 < v.length ∨ getT (fullT i) [102, 48] = none ∧ 60 ≤ (fullT i).length) := by
      rintro (h | ⟨h4, h5⟩)
      · exact hv h
      · have := h3 h4; subst this; rw [h1] at h5; simp at h5
    unfold writeT
    rw [if_neg (by rw [hm]; decide), if_neg hno]
    refine ⟨rfl, ?_⟩
    show (putT (fullT i) [102, 48] v).length = _
    unfold putT
    rw [insT_length]
    exact h2
attribute [local go_sem] max2_int min2_int max_two min_two max_three min_three max_four min_four
set_option maxHeartbeats 4000000 in
set_option maxRecDepth 100000 in
theorem treeFull_walk (n bytes : Int) (w : World) (hG : GOK w) :
    Calls Tryz.prog 6 #[.int .i64 n, .int .i64 bytes] w fun e w' => e = .returned (.bool true) ∧ Below w.heap.size w w' := by
  have HG := Lib.hid hG
  clear hG
  go_enter Tryz.func6, Tryz.ntmps6
  go_wp2_with fail
  refine (shipwrightlaw1_begun.calls true w HG.out rfl).mono ?_
  rintro e w1 ⟨rfl, hb1⟩
  have HB1 := Lib.hid hb1
  clear hb1
  obtain ⟨nn, hnn, hn65⟩ : ∃ nn : Nat, Int.tmod (wrap64 (Int.tmod n 65 + 65)) 65 = (nn : Int) ∧ nn < 65 := by
    have h1 : -65 < Int.tmod n 65 ∧ Int.tmod n 65 < 65 := ⟨by have := Int.lt_tmod_of_pos n (show (0:Int) < 65 by decide); omega, Int.tmod_lt_of_pos n (by decide)⟩
    have h2 : wrap64 (Int.tmod n 65 + 65) = Int.tmod n 65 + 65 := by unfold wrap64; omega
    have h3 : 0 ≤ Int.tmod (Int.tmod n 65 + 65) 65 ∧ Int.tmod (Int.tmod n 65 + 65) 65 < 65 := ⟨Int.tmod_nonneg _ (by omega), Int.tmod_lt_of_pos _ (by decide)⟩
    obtain ⟨m, hm⟩ := Int.eq_ofNat_of_zero_le h3.1
    exact ⟨m, by rw [h2, hm], by omega⟩
  obtain ⟨bb, hbb, hb1990, hb2010⟩ : ∃ bb : Nat, wrap64 (1990 + Int.tmod (wrap64 (Int.tmod bytes 20 + 20)) 20) = (bb : Int) ∧ 1990 ≤ bb ∧ bb < 2010 := by
    have h1 : -20 < Int.tmod bytes 20 ∧ Int.tmod bytes 20 < 20 := ⟨by have := Int.lt_tmod_of_pos bytes (show (0:Int) < 20 by decide); omega, Int.tmod_lt_of_pos bytes (by decide)⟩
    have h2 : wrap64 (Int.tmod bytes 20 + 20) = Int.tmod bytes 20 + 20 := by unfold wrap64; omega
    have h3 : 0 ≤ Int.tmod (Int.tmod bytes 20 + 20) 20 ∧ Int.tmod (Int.tmod bytes 20 + 20) 20 < 20 := ⟨Int.tmod_nonneg _ (by omega), Int.tmod_lt_of_pos _ (by decide)⟩
    obtain ⟨m, hm⟩ := Int.eq_ofNat_of_zero_le h3.1
    exact ⟨1990 + m, by rw [h2, hm]; unfold wrap64; omega, by omega, by omega⟩
  go_wp2_with fail
  refine (tree_New.calls none 0 [] w1 (HG.out.below HB1.out) (C_none k50 _) (by simp)).mono ?_
  rintro e w2 ⟨g, b, rfl, hT2, hg2, hB2, hb2⟩
  have HBb : Hid (w.heap.size ≤ b) := Nat.le_trans HB1.out.size hB2
  have HB2 := Lib.hid (below_then HB1.out HB1.out.size hb2)
  replace hT2 : IsTree w2 g b [] := hT2
  have HT2 := Lib.hid hT2
  clear hT2 hg2 hB2 hb2
  rw [hbb]
  go_wp2_with fail
  go_loopg [7] nn (fun gg s7 wr => ∃ kk : Nat, kk ≤ nn ∧ nn - kk ≤ gg ∧ s7 = .int .i64 kk ∧ Aside0 (IsTree wr g b (fullT kk)) ∧ Aside0 (Below w.heap.size w wr))
  case atStart => exact ⟨0, Nat.zero_le _, by omega, rfl, ⟨HT2.out⟩, ⟨HB2.out⟩⟩
  case round =>
    obtain ⟨kk, hkk, hgk, rfl, HT, HW⟩ := hrel
    by_cases hlt : kk < nn
    · have hltz : (kk : Int) < (nn : Int) := by omega
      have hst := full_step kk (by omega)
      have hsh := full_short kk (by omega)
      have hN := shipwrightref1_Number.calls 20 (kk : Int) (mk (number (kk : Int))) wr (HG.out.below HW.out) (refNumber20 kk (by omega))
      have hns : (mk (number (kk : Int))).size ≤ 2 := by rw [mk_size]; exact hsh
      have hnd : (mk (number (kk : Int))).data.toList = number (kk : Int) := mk_data _
      generalize mk (number (kk : Int)) = nv at hN hns hnd
      have HND := Lib.hid hnd
      have HST := Lib.hid hst
      have hq : 1 + nv.size ≤ 9223372036854775807 := by omega
      clear hnd hst hsh
      go_wp2_with fail
      refine hN.mono ?_
      rintro e w3 ⟨rfl, hb3⟩
      have HW3 := Lib.hid (below_then HW.out HW.out.size hb3)
      have HT3 := Lib.hid (HT.out.below hb3)
      clear hb3 hN
      go_wp2_with fail
      have hk2 : ((⟨#[102]⟩ : ByteArray) ++ nv).data.toList = 102 :: number (kk : Int) := by rw [data_append, HND.out]; rfl
      have hW := tree_Write.calls w3 (HG.out.below HW3.out) g b _ HT3.out ((⟨#[102]⟩ : ByteArray) ++ nv) ⟨#[120]⟩ (by rw [ByteArray.size_append]; show 1 + nv.size ≤ maxLen; unfold maxLen; omega) (by decide) (full_len kk)
      rw [hk2] at hW
      refine hW.mono ?_
      rintro e w4 ⟨rfl, hT4, hg4⟩
      rw [show ((⟨#[120]⟩ : ByteArray)).data.toList = [120] from rfl, HST.out]
      have HT4 : Hid (IsTree w4 g b (fullT (kk + 1))) := hT4
      have HW4 : Hid (Below w.heap.size w w4) := HW3.out.grown hg4 HW3.out.size (fun k hk => by cases hk; exact HBb.out)
      clear hT4 hg4 hW hk2
      by_cases h60 : kk < 60
      · have h60z : (kk : Int) < 60 := by omega
        rw [if_pos h60]
        go_wp2
        go_roundg (nn - (kk + 1))
        case measure => omega
        case rel => exact ⟨kk + 1, by omega, by omega, by go_num, ⟨HT4.out⟩, ⟨HW4.out⟩⟩
      · have h60z : ¬ (kk : Int) < 60 := by omega
        rw [if_neg h60]
        go_wp2
        go_roundg (nn - (kk + 1))
        case measure => omega
        case rel => exact ⟨kk + 1, by omega, by omega, by go_num, ⟨HT4.out⟩, ⟨HW4.out⟩⟩
    · have hltz : ¬ (kk : Int) < (nn : Int) := by omega
      obtain rfl : kk = nn := by omega
      have hmk := print_make_of (P := Tryz.prog) 43 5 (.int .u8 0) 1 Tryz.underlying43 (by kernel_rfl) rfl (by decide) bb (by omega) wr
      have hown := own_made_of (enc := Value.int .u8) (d := (0 : Int)) wr wr.heap.size 5 bb (Nat.le_refl _) (by omega)
      have hC : (Kd.int .u8).C (wr.alloc (.cells (madeCells #[Value.int .u8 0] bb) 5)) (some ⟨wr.heap.size, 0, none⟩) bb (List.replicate bb (0 : Int)) := by
        obtain ⟨A', c', he, _, hC⟩ := Kd.R_reads (Kd.R_of_own (enc := Value.int .u8) (h1 := fun _ => rfl) (ok := fun _ => True) (xs := List.replicate bb (0 : Int)) (by rw [List.length_replicate]; exact hown) (fun _ _ => trivial))
        injection he with he1
        rw [← he1, List.length_replicate] at hC
        exact hC
      have hcv := Kd.C_string (P := Tryz.prog) (src := 43) (dst := 9) (c := bb) Tryz.underlying43 Tryz.underlying5 Tryz.underlying9 hC
      have hsv : (strOfNums (List.replicate bb (0 : Int))).size = bb := by simp [strOfNums, ByteArray.size]
      generalize strOfNums (List.replicate bb (0 : Int)) = sv at hcv hsv
      clear hown hC
      have HWA := Lib.hid (below_then HW.out HW.out.size ((Below.refl wr.heap.size wr).alloc (Nat.le_refl _) (.cells (madeCells #[Value.int .u8 0] bb) 5)))
      have HTA := Lib.hid (HT.out.below ((Below.refl wr.heap.size wr).alloc (Nat.le_refl _) (.cells (madeCells #[Value.int .u8 0] bb) 5)))
      go_wp2_with fail
      have hlast := full_last kk hn65 sv.data.toList
      rw [← Lib.size_eq, hsv] at hlast
      have hW := tree_Write.calls _ (HG.out.below HWA.out) g b _ HTA.out ⟨#[102, 48]⟩ sv (by decide) (by rw [hsv]; unfold maxLen; omega) (full_len kk)
      rw [show ((⟨#[102, 48]⟩ : ByteArray)).data.toList = [102, 48] from rfl] at hW
      refine hW.mono ?_
      rintro e w5 ⟨rfl, hT5, hg5⟩
      have HW5 : Hid (Below w.heap.size w w5) := HWA.out.grown hg5 HWA.out.size (fun k hk => by cases hk; exact HBb.out)
      have hfl := (full_facts kk hn65).1
      clear hW hg5 hcv hmk
      by_cases h2000 : 2000 < bb
      · have h2z : (2000 : Int) < (bb : Int) := by omega
        rw [hlast.1 h2000] at hT5 ⊢
        have HT5 : Hid (IsTree w5 g b (fullT kk)) := hT5
        clear hT5 hlast
        dsimp only
        go_wp2_with fail
        refine (tree_Len.calls w5 g b _ HT5.out).mono ?_
        rintro e w6 ⟨rfl, hd6⟩
        rw [hfl]
        have HW6 := Lib.hid (below_then HW5.out HW5.out.size hd6.below)
        clear hd6
        rcases Nat.lt_or_ge 60 kk with h6 | h6
        · have hz : (60 : Int) < (kk : Int) := by omega
          rw [show min kk 60 = 60 by omega]
          go_wp2
          go_ret
          exact ⟨rfl, HW6.out⟩
        · have hz : ¬ (60 : Int) < (kk : Int) := by omega
          rw [show min kk 60 = kk by omega]
          go_wp2
          go_ret
          exact ⟨by simp, HW6.out⟩
      · have h2z : ¬ (2000 : Int) < (bb : Int) := by omega
        obtain ⟨hz1, hz2⟩ := hlast.2 h2000
        rw [hz1]
        have HT5 := Lib.hid hT5
        have HZ2 := Lib.hid hz2
        clear hT5 hlast hz1 hz2
        go_wp2_with fail
        refine (tree_Len.calls w5 g b _ HT5.out).mono ?_
        rintro e w6 ⟨rfl, hd6⟩
        rw [HZ2.out]
        have HW6 := Lib.hid (below_then HW5.out HW5.out.size hd6.below)
        clear hd6
        rcases Nat.lt_or_ge 60 kk with h6 | h6
        · have hz : (60 : Int) < (kk : Int) := by omega
          rw [show max 1 (min kk 60) = 60 by omega]
          go_wp2
          go_ret
          exact ⟨rfl, HW6.out⟩
        · have hz : ¬ (60 : Int) < (kk : Int) := by omega
          rcases Nat.lt_or_ge 1 kk with h7 | h7
          · have hy : (1 : Int) < (kk : Int) := by omega
            rw [show max 1 (min kk 60) = kk by omega]
            go_wp2
            go_ret
            exact ⟨by simp, HW6.out⟩
          · have hy : ¬ (1 : Int) < (kk : Int) := by omega
            rw [show max 1 (min kk 60) = 1 by omega]
            go_wp2
            go_ret
            exact ⟨rfl, HW6.out⟩
def shipwrightlaw1_TreeFull.f (_ _ : Int) : Option Bool := some true
theorem shipwrightlaw1_TreeFull.calls (a0 a1 : Int) (r : Bool) (w : World) (hG : GOK w) (h : shipwrightlaw1_TreeFull.f a0 a1 = some r) :
    Calls Tryz.prog 6 #[.int .i64 a0, .int .i64 a1] w fun e w' => e = .returned (.bool r) ∧ Below w.heap.size w w' := by
  obtain rfl := Option.some.inj h
  exact treeFull_walk a0 a1 w hG
theorem pure_TreeFull (a0 a1 : Int) (_h0 : (Lit.int .i64 a0).wf = true) (_h1 : (Lit.int .i64 a1).wf = true) : shipwrightlaw1_TreeFull.f a0 a1 = some true := rfl
end Go.Proofs.YtobbliglnjgbaaaGreatDoor.X
