/-
  mint.GetNumber and mint.Put on bytes: a number that is read, the key of some parts.
-/
import Derived.Test.YtobbliglnjgbaaaGreatDoorExtD
import Derived.Lib.AtoiAllCases
import Derived.Lib.SmallJoins
namespace Go.Proofs.YtobbliglnjgbaaaGreatDoor.X
open Go.RowKit Go.Proofs.YtobbliglnjgbaaaGreatDoorW.PrintWords

theorem itoa_number (n : Int) (h : 0 ≤ n) : Lib.itoa n = number n := by
  unfold Lib.itoa number
  rw [if_neg (by omega)]
theorem number_calls (n : Int) (h0 : 0 ≤ n) (h1 : n ≤ 9223372036854775807) (w : World) (hG : GOK w) :
    Calls Tryz.prog 52 #[.int .i64 n] w fun e w' => e = .returned (.string (mk (number n))) ∧ Below w.heap.size w w' := by
  refine Pb.mint_Number.calls n _ w hG ?_
  unfold Pb.mint_Number.f
  have e : mx n 0 = n := by unfold mx; omega
  rw [e]
  unfold strconv_Itoa.f
  rw [if_pos ⟨by omega, h1⟩, itoa_number n h0]
  rfl

/-- A number that is read: what it is, if it is written as numbers are and at most so great. -/
def getNumber (s : Bytes) (most : Int) : Int × Bool :=
  match Lib.atoiAll s with
  | .ok v => if v < 0 then (0, false) else if most < v then (0, false) else if number v == s then (v, true) else (0, false)
  | _ => (0, false)
def mint_GetNumber.f (a0 : ByteArray) (a1 : Int) : Option (Int × Bool) := if a0.size ≤ 281474976710656 then some (getNumber a0.data.toList a1) else none
set_option maxHeartbeats 2000000 in
theorem mint_GetNumber.calls (a0 : ByteArray) (a1 : Int) (r1 : Int) (r2 : Bool) (w : World) (hG : GOK w) (h : mint_GetNumber.f a0 a1 = some (r1, r2)) :
    Calls Tryz.prog 42 #[.string a0, .int .i64 a1] w fun e w' => e = .returned (.tuple #[.int .i64 r1, .bool r2]) ∧ Below w.heap.size w w' := by
  unfold mint_GetNumber.f at h
  split at h
  · rename_i hs
    have hr := Option.some.inj h
    clear h
    unfold getNumber at hr
    cases ha : Lib.atoiAll a0.data.toList
    · rename_i v
      rw [ha] at hr
      dsimp only at hr
      obtain ⟨hv0, hv1⟩ := Lib.atoiAll_bounds ha
      have hA := Go.Proofs.Any.strconv_Atoi_ok Go.Proofs.Tryz.laysC172 a0 (by omega) v ha w
      change Calls Tryz.prog 61 _ _ _ at hA
      have hA' : Calls Tryz.prog 61 #[.string a0] w fun e w' => e = .returned (.tuple #[.int .i64 v, .nilIface]) ∧ Below w.heap.size w w' := hA.mono fun e w' ⟨he, hw⟩ => ⟨he, by
        rcases hw with hw | ⟨t, hw⟩
        · subst hw; exact Below.refl _ _
        · subst hw; exact Go.Joins.below_bytesWorld _ _ _ _ (Nat.le_refl _)⟩
      clear hA ha
      by_cases hn : v < 0
      · have hd : decide (v < 0) = true := by simp [hn]
        rw [if_pos hn] at hr
        cases hr
        clear hG
        go_enter Tryz.func42, Tryz.ntmps42
        go_wp2_with (go_at_call 61; refine hA'.mono ?_; rintro e w2 ⟨rfl, hb2⟩)
        go_ret2
        exact ⟨rfl, hb2⟩
      have hd : decide (v < 0) = false := by simp; omega
      rw [if_neg hn] at hr
      by_cases hm : a1 < v
      · have hd2 : decide (a1 < v) = true := by simp [hm]
        rw [if_pos hm] at hr
        cases hr
        clear hG
        go_enter Tryz.func42, Tryz.ntmps42
        go_wp2_with (go_at_call 61; refine hA'.mono ?_; rintro e w2 ⟨rfl, hb2⟩)
        go_ret2
        exact ⟨rfl, hb2⟩
      have hd2 : decide (a1 < v) = false := by simp; omega
      rw [if_neg hm, ← toList_eq] at hr
      have HG := Lib.hid hG
      clear hG
      have hN := fun W (h : GOK W) => number_calls v (by omega) hv1 W h
      have et : (mk (number v)).toList = number v := mk_toList _
      generalize mk (number v) = nv at hN et
      rw [← et] at hr
      clear et
      by_cases hq : nv.toList = a0.toList
      · have e1 : (nv.toList != a0.toList) = false := by simp [hq]
        have e2 : (nv.toList == a0.toList) = true := by simp [hq]
        rw [e2] at hr
        cases hr
        clear hq
        have HN := Lib.hid hN
        clear hN
        go_enter Tryz.func42, Tryz.ntmps42
        go_wp2_with fail
        refine hA'.mono ?_
        rintro e w2 ⟨rfl, hb2⟩
        go_wp2_with (go_at_call 52; refine (HN.out _ (HG.out.below hb2)).mono ?_; rintro e w3 ⟨rfl, hb3⟩)
        go_ret2
        exact ⟨rfl, below_then hb2 hb2.size hb3⟩
      · have e1 : (nv.toList != a0.toList) = true := by simp [hq]
        have e2 : (nv.toList == a0.toList) = false := by simp [hq]
        rw [e2] at hr
        cases hr
        clear hq
        have HN := Lib.hid hN
        clear hN
        go_enter Tryz.func42, Tryz.ntmps42
        go_wp2_with fail
        refine hA'.mono ?_
        rintro e w2 ⟨rfl, hb2⟩
        go_wp2_with (go_at_call 52; refine (HN.out _ (HG.out.below hb2)).mono ?_; rintro e w3 ⟨rfl, hb3⟩)
        go_ret2
        exact ⟨rfl, below_then hb2 hb2.size hb3⟩
    · rw [ha] at hr
      cases hr
      obtain ⟨te, pe, hev⟩ := hG.errS
      have hA := Go.Proofs.Any.strconv_Atoi_syntax Go.Proofs.Tryz.laysC172 a0 hs ha _ w hev (.inr ⟨te, pe, rfl⟩)
      change Calls Tryz.prog 61 _ _ fun e w' => ∃ N, e = .returned (.tuple #[_, .iface 116 _]) ∧ _ at hA
      clear hG hev ha
      go_enter Tryz.func42, Tryz.ntmps42
      go_wp2_with (go_at_call 61; refine hA.mono ?_; rintro e w2 ⟨N, rfl, _, _, hb2⟩)
      go_ret2
      exact ⟨rfl, hb2⟩
    · rw [ha] at hr
      cases hr
      obtain ⟨te, pe, hev⟩ := hG.errR
      have hA := Go.Proofs.Any.strconv_Atoi_range Go.Proofs.Tryz.laysC172 a0 hs ha _ w hev (.inr ⟨te, pe, rfl⟩)
      change Calls Tryz.prog 61 _ _ fun e w' => ∃ N, e = .returned (.tuple #[_, .iface 116 _]) ∧ _ at hA
      clear hG hev ha
      generalize Lib.atoiSat a0.data.toList = sat at hA
      go_enter Tryz.func42, Tryz.ntmps42
      go_wp2_with (go_at_call 61; refine hA.mono ?_; rintro e w2 ⟨N, rfl, _, _, hb2⟩)
      go_ret2
      exact ⟨rfl, hb2⟩
  · cases h

end Go.Proofs.YtobbliglnjgbaaaGreatDoor.X
