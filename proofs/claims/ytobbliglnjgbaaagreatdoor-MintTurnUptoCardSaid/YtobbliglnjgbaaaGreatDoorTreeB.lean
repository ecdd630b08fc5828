/-
  Trees: Write and Erase.
-/
import Derived.Test.YtobbliglnjgbaaaGreatDoorTree
namespace Go.Proofs.YtobbliglnjgbaaaGreatDoor.X
open Go.RowKit Go.Maps Go.Proofs.YtobbliglnjgbaaaGreatDoorW.PrintWords

theorem grown_then {w w1 w2 : World} {row : Option Nat} (h : Below w.heap.size w w1) (hg : w1.grownBy w2 row) : w.grownBy w2 row :=
  ⟨hg.os.trans h.os, hg.tape.trans h.tape, hg.output.trans h.output, Nat.le_trans h.size hg.size, fun i hi hne => (hg.block i (Nat.lt_of_lt_of_le hi h.size) hne).trans (h.block i hi)⟩

set_option maxHeartbeats 4000000 in
set_option maxRecDepth 100000 in
theorem tree_Write.calls (w : World) (hG : GOK w) (g b : Nat) (m : TM) (h : IsTree w g b m) (k v : ByteArray) (hk : k.size ≤ maxLen) (hv : v.size ≤ maxLen) (hm : m.length ≤ 60) :
    Calls Tryz.prog 26 #[.pointer (some ⟨g, 0, none⟩), .string k, .string v] w fun e w' => e = .returned (.int .i64 (writeT m k.data.toList v.data.toList).2) ∧ IsTree w' g b (writeT m k.data.toList v.data.toList).1 ∧ w.grownBy w' (some b) := by
  have hM := path_May.calls k (may k.data.toList) w hG rfl
  have HT : Hid (IsTree w g b m) := h
  have hc := h.c
  have hl := h.look k hk
  unfold writeT
  rw [← Lib.size_eq]
  cases hmay : may k.data.toList with
  | false =>
    rw [if_pos rfl]
    rw [hmay] at hM
    clear hG h hk hv hm hmay
    generalize X.mk ((getT m k.data.toList).getD []) = v0 at hl
    generalize (getT m k.data.toList).isSome = is at hl
    go_enter Tryz.func26, Tryz.ntmps26
    go_wp2_with (go_at_call 19; refine hM.mono ?_; rintro e w2 ⟨rfl, hb2⟩)
    go_ret
    exact ⟨rfl, HT.out.below hb2, grown_of_below hb2 _⟩
  | true =>
    rw [if_neg (by simp)]
    rw [hmay] at hM
    clear hmay hG
    by_cases hv2 : 2000 < v.size
    · rw [if_pos (.inl hv2)]
      clear h hk hv hm
      generalize X.mk ((getT m k.data.toList).getD []) = v0 at hl
      generalize (getT m k.data.toList).isSome = is at hl
      go_enter Tryz.func26, Tryz.ntmps26
      go_wp2_with (go_at_call 19; refine hM.mono ?_; rintro e w2 ⟨rfl, hb2⟩)
      go_ret
      exact ⟨rfl, HT.out.below hb2, grown_of_below hb2 _⟩
    · cases hget : getT m k.data.toList with
      | none =>
        rw [hget] at hl
        simp only [Option.isSome_none, Option.getD_none] at hl
        by_cases h60 : 60 ≤ m.length
        · rw [if_pos (.inr ⟨rfl, h60⟩)]
          clear h hk hv hm hget
          generalize X.mk [] = v0 at hl
          go_enter Tryz.func26, Tryz.ntmps26
          go_wp2_with fail
          refine hM.mono ?_
          rintro e w2 ⟨rfl, hb2⟩
          have hc2 := (HT.out.below hb2).c
          have hl2 := (HT.out.below hb2).len
          go_wp2
          go_ret
          exact ⟨rfl, HT.out.below hb2, grown_of_below hb2 _⟩
        · rw [if_neg (by omega)]
          generalize X.mk [] = v0 at hl
          have HK : Hid (k.size ≤ maxLen) := hk
          have HV : Hid (v.size ≤ maxLen) := hv
          have hm2 : m.length < 60 := by omega
          clear h hget hk hv h60 hm
          go_enter Tryz.func26, Tryz.ntmps26
          go_wp2_with fail
          refine hM.mono ?_
          rintro e w2 ⟨rfl, hb2⟩
          have hc2 := (HT.out.below hb2).c
          have hl2 := (HT.out.below hb2).len
          obtain ⟨w3, hrun, hT3, hg3⟩ := (HT.out.below hb2).store k v HK.out HV.out (by unfold maxLen; omega)
          have HT3 : Hid (IsTree w3 g b (putT m k.data.toList v.data.toList)) := hT3
          have HG3 : Hid (w2.grownBy w3 (some b)) := hg3
          clear hT3 hg3
          go_wp2
          go_ret
          exact ⟨rfl, HT3.out, grown_then hb2 HG3.out⟩
      | some x =>
        rw [hget] at hl
        simp only [Option.isSome_some, Option.getD_some] at hl
        rw [if_neg (by simp; omega)]
        generalize X.mk x = v0 at hl
        have HK : Hid (k.size ≤ maxLen) := hk
        have HV : Hid (v.size ≤ maxLen) := hv
        clear h hget hk hv
        go_enter Tryz.func26, Tryz.ntmps26
        go_wp2_with fail
        refine hM.mono ?_
        rintro e w2 ⟨rfl, hb2⟩
        have hc2 := (HT.out.below hb2).c
        obtain ⟨w3, hrun, hT3, hg3⟩ := (HT.out.below hb2).store k v HK.out HV.out (by unfold maxLen; omega)
        have HT3 : Hid (IsTree w3 g b (putT m k.data.toList v.data.toList)) := hT3
        have HG3 : Hid (w2.grownBy w3 (some b)) := hg3
        clear hT3 hg3
        go_wp2
        go_ret
        exact ⟨rfl, HT3.out, grown_then hb2 HG3.out⟩

set_option maxHeartbeats 4000000 in
set_option maxRecDepth 100000 in
theorem tree_Erase.calls (w : World) (g b : Nat) (m : TM) (h : IsTree w g b m) (k : ByteArray) (hk : k.size ≤ maxLen) :
    Calls Tryz.prog 35 #[.pointer (some ⟨g, 0, none⟩), .string k] w fun e w' => e = .returned (.int .i64 (eraseT m k.data.toList).2) ∧ IsTree w' g b (eraseT m k.data.toList).1 ∧ w.grownBy w' (some b) := by
  have HT : Hid (IsTree w g b m) := h
  have hc := h.c
  have hl := h.look k hk
  unfold eraseT
  cases hget : getT m k.data.toList with
  | none =>
    rw [hget] at hl
    simp only [Option.isSome_none, Option.getD_none] at hl
    rw [if_pos rfl]
    generalize X.mk [] = v0 at hl
    clear h hk hget
    go_enter Tryz.func35, Tryz.ntmps35
    go_wp2
    go_ret
    exact ⟨rfl, HT.out, World.grownBy.refl _ _⟩
  | some x =>
    rw [hget] at hl
    simp only [Option.isSome_some, Option.getD_some] at hl
    rw [if_neg (by simp)]
    generalize X.mk x = v0 at hl
    have hd : ∀ ty, ∃ w', (Builtin.delete_ #[77, 9] ty #[.map (some b), .string k]).run Tryz.prog w = .ok (.tuple #[]) w' ∧ IsTree w' g b (delT m k.data.toList) ∧ w.grownBy w' (some b) := fun ty => h.drop k hk ty
    clear h hk hget
    go_enter Tryz.func35, Tryz.ntmps35
    obtain ⟨w3, hrun, hT3, hg3⟩ := hd 0
    have HT3 : Hid (IsTree w3 g b (delT m k.data.toList)) := hT3
    have HG3 : Hid (w.grownBy w3 (some b)) := hg3
    clear hT3 hg3 hd
    go_wp2
    go_ret
    exact ⟨rfl, HT3.out, HG3.out⟩

end Go.Proofs.YtobbliglnjgbaaaGreatDoor.X
