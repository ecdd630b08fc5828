/-
  path.bad and path.May answer 'bad' and 'may' of the name's bytes, at every string; what was there stays.
-/
import Derived.Test.YtobbliglnjgbaaaGreatDoorExtA
import Derived.Test.YtobbliglnjgbaaaGreatDoorPa
import Derived.Test.YtobbliglnjgbaaaGreatDoorShelfA
import Derived.Laws.RangeAny
namespace Go.Proofs.YtobbliglnjgbaaaGreatDoor.X
open Go.RowKit Go.Proofs.YtobbliglnjgbaaaGreatDoorW.PrintWords

/-! ### plain: a rune that is no sign -/
def signN (n : Nat) : Bool := decide (97 ≤ n ∧ n ≤ 122 ∨ 65 ≤ n ∧ n ≤ 90 ∨ 48 ≤ n ∧ n ≤ 57 ∨ n = 46 ∨ n = 95 ∨ n = 45)
theorem signN_byte (c : UInt8) : signN c.toNat = sign c := by
  unfold signN sign
  rw [Bool.eq_iff_iff]
  simp only [decide_eq_true_eq, Bool.or_eq_true, Bool.and_eq_true, beq_iff_eq, UInt8.le_iff_toNat_le, ← UInt8.toNat_inj]
  simp
  omega
theorem signN_high (n : Nat) (h : 128 ≤ n) : signN n = false := by
  unfold signN
  simp
  omega
theorem path_sign_is (n : Nat) : Pa.path_sign.f (n : Int) = some (signN n) := by
  unfold Pa.path_sign.f signN
  repeat' split
  all_goals (simp only [Option.some.injEq]; rw [Bool.eq_iff_iff]; simp only [decide_eq_true_eq, beq_iff_eq, true_iff]; omega)
theorem idxFuncFrom_any (p : Nat → Bool) (hp : ∀ x, 128 ≤ x → p x = true) (s : ByteArray) : ∀ (f pos : Nat), s.size ≤ pos + f →
    decide (0 ≤ Lib.idxFuncFrom p true s f pos) = (s.data.toList.drop pos).any (fun c => p c.toNat)
  | 0, pos, h => by
    have : s.data.toList.drop pos = [] := List.drop_eq_nil_of_le (by rw [← Lib.size_eq]; omega)
    rw [this]
    rfl
  | f + 1, pos, h => by
    unfold Lib.idxFuncFrom
    by_cases hps : pos < s.size
    · rw [if_pos hps]
      have hl : pos < s.data.toList.length := by rw [← Lib.size_eq]; exact hps
      have hd : s.data.toList.drop pos = s.data.toList[pos] :: s.data.toList.drop (pos + 1) := (List.drop_eq_getElem_cons hl)
      have hb : s.data.toList[pos] = s[pos]'hps := rfl
      rw [hd, hb, List.any_cons]
      by_cases ha : (s[pos]'hps).toNat < 128
      · rw [decode_ascii s pos hps ha]
        by_cases hq : p (s[pos]'hps).toNat = true
        · rw [if_pos hq, hq]
          simp
        · rw [if_neg hq, idxFuncFrom_any p hp s f (pos + 1) (by omega)]
          simp only [Bool.not_eq_true] at hq
          rw [hq]
          simp
      · obtain ⟨h1, _⟩ := decode_high s pos hps (by omega)
        rw [if_pos (hp _ h1), hp _ (by omega)]
        simp
    · rw [if_neg hps]
      have : s.data.toList.drop pos = [] := List.drop_eq_nil_of_le (by rw [← Lib.size_eq]; omega)
      rw [this]
      rfl
theorem idxFunc_any (p : Nat → Bool) (hp : ∀ x, 128 ≤ x → p x = true) (s : ByteArray) : decide (0 ≤ Lib.idxFunc p true s) = s.data.toList.any (fun c => p c.toNat) := by
  unfold Lib.idxFunc
  rw [idxFuncFrom_any p hp s s.size 0 (by omega)]
  rfl

/-! ### path.bad -/
theorem eg64 : ∀ args w, (callFunc 64 args).run Tryz.prog w = .ok (.enter 64 args) w := Go.Proofs.enters_of Tryz.func64 (by kernel_rfl) rfl
theorem contains_bad (s : ByteArray) (w : World) (hG : GOK w) :
    Calls Tryz.prog 63 #[.string s, .func (.func 64) #[] #[]] w fun e w' => e = .returned (.bool (s.data.toList.any (fun c => !sign c))) ∧ Below w.heap.size w w' := by
  have hp : Go.Proofs.PredAtRunes Tryz.prog 64 #[] (fun n => !signN n) w := by
    intro W x _ hb
    refine (Pa.path_bad_1.calls (x : Int) (!signN x) W (hG.below hb) ?_).mono fun e w' ⟨he, hd⟩ => ⟨he, hd.out⟩
    unfold Pa.path_bad_1.f
    rw [path_sign_is]
    rfl
  have h := Go.Proofs.Any.strings_ContainsFunc_runes Go.Proofs.Tryz.laysGw17 64 #[] eg64 (fun n => !signN n) s w hp
  refine h.mono fun e w' ⟨he, hb⟩ => ⟨?_, hb⟩
  rw [he, idxFunc_any _ (fun x hx => by rw [signN_high x hx]; rfl)]
  simp only [signN_byte]

def path_bad.f (a0 : ByteArray) : Option Bool := some (bad a0.data.toList)
set_option maxHeartbeats 1000000 in
theorem path_bad.calls (a0 : ByteArray) (r : Bool) (w : World) (hG : GOK w) (h : path_bad.f a0 = some r) :
    Calls Tryz.prog 44 #[.string a0] w fun e w' => e = .returned (.bool r) ∧ Below w.heap.size w w' := by
  unfold path_bad.f bad at h
  have hc := contains_bad a0 w hG
  generalize (a0.data.toList.any fun c => !sign c) = q at hc h
  rw [← toList_eq] at h
  by_cases h1 : a0.toList = []
  · have e1 : (a0.toList == []) = true := by simp [h1]
    have hr : r = true := by rw [h1] at h; simpa using h.symm
    subst hr
    clear h hc h1
    go_enter Tryz.func44, Tryz.ntmps44
    go_wp2
    go_ret
    exact ⟨rfl, Below.refl _ _⟩
  · have e1 : (a0.toList == []) = false := by simp [h1]
    by_cases h2 : a0.toList = [46]
    · have e2 : (a0.toList == [46]) = true := by simp [h2]
      have hr : r = true := by rw [h2] at h; simpa using h.symm
      subst hr
      clear h hc h1 h2
      go_enter Tryz.func44, Tryz.ntmps44
      go_wp2
      go_ret
      exact ⟨rfl, Below.refl _ _⟩
    · have e2 : (a0.toList == [46]) = false := by simp [h2]
      by_cases h3 : a0.toList = [46, 46]
      · have e3 : (a0.toList == [46, 46]) = true := by simp [h3]
        have hr : r = true := by rw [h3] at h; simpa using h.symm
        subst hr
        clear h hc h1 h2 h3
        go_enter Tryz.func44, Tryz.ntmps44
        go_wp2
        go_ret
        exact ⟨rfl, Below.refl _ _⟩
      · have e3 : (a0.toList == [46, 46]) = false := by simp [h3]
        have hr : r = q := by rw [e1, e2, e3] at h; simpa using h.symm
        subst hr
        clear h h1 h2 h3
        go_enter Tryz.func44, Tryz.ntmps44
        go_wp2_with (go_at_call 63; refine hc.mono ?_; rintro e w2 ⟨rfl, hb2⟩)
        go_ret
        exact ⟨rfl, hb2⟩

end Go.Proofs.YtobbliglnjgbaaaGreatDoor.X
