/-
  A text as a string, plain: what is quoted is read again.
-/
import Derived.Test.YthagibkmfgodgaaGreatDoorParA
namespace Go.Proofs.YthagibkmfgodgaaGreatDoor.X
open Go.RowKit Go.Maps Go.Proofs.YthagibkmfgodgaaGreatDoorW.PrintWords Go.Proofs.YthagibkmfgodgaaGreatDoorW.PrintMore

--BEGIN
def hexD (n : Nat) : UInt8 := UInt8.ofNat (if n < 10 then 48 + n else 87 + n)
def quoteC (c : UInt8) : Bytes :=
  if c = 34 ∨ c = 92 then [92, c] else if c = 10 then [92, 110] else if c = 9 then [92, 116]
  else if c.toNat < 32 ∨ 126 < c.toNat then [92, 120, hexD (c.toNat / 16), hexD (c.toNat % 16)] else [c]
def quoteL : Bytes → Bytes
  | [] => []
  | c :: r => quoteC c ++ quoteL r
def quoteF (s : Bytes) : Bytes := 34 :: (quoteL s ++ [34])
theorem hexD_val : ∀ n : Nat, n < 16 → hexV (hexD n) = n := by decide +kernel
theorem text_esc (k : Nat) (r : Bytes) (e : Nat × Nat) (he : escF r = e) (h0 : e.2 ≠ 0) : textF (k + 1) (92 :: r) = (textF k (r.drop e.2)).map fun p => (UInt8.ofNat e.1 :: p.1, p.2 + e.2 + 1) := by
  subst he
  rw [textF, if_neg (by decide), if_pos rfl, if_neg h0]
theorem text_quote : ∀ (s rest : Bytes) (k : Nat), (quoteL s).length < k → textF k (quoteL s ++ 34 :: rest) = some (s, (quoteL s).length + 1)
  | [], rest, 0, h => absurd h (Nat.not_lt_zero _)
  | [], rest, k + 1, _ => rfl
  | c :: r, rest, 0, h => absurd h (Nat.not_lt_zero _)
  | c :: r, rest, k + 1, h => by
    rw [quoteL, List.length_append] at h
    rw [quoteL, List.append_assoc, List.length_append]
    have ih : ∀ j, (quoteL r).length < j → textF j (quoteL r ++ 34 :: rest) = some (r, (quoteL r).length + 1) := fun j hj => text_quote r rest j hj
    unfold quoteC at h ⊢
    by_cases c1 : c = 34 ∨ c = 92
    · rw [if_pos c1] at h ⊢
      have he : escF (c :: (quoteL r ++ 34 :: rest)) = (c.toNat, 1) := by rcases c1 with rfl | rfl <;> rfl
      show textF (k + 1) (92 :: (c :: (quoteL r ++ 34 :: rest))) = _
      rw [text_esc k _ _ he (by simp), List.drop_succ_cons, List.drop_zero, ih k (by simp at h; omega)]
      simp
      omega
    · rw [if_neg c1] at h ⊢
      by_cases c2 : c = 10
      · rw [if_pos c2] at h ⊢
        have he : escF ((110 : UInt8) :: (quoteL r ++ 34 :: rest)) = (10, 1) := rfl
        show textF (k + 1) (92 :: (110 :: (quoteL r ++ 34 :: rest))) = _
        rw [text_esc k _ _ he (by simp), List.drop_succ_cons, List.drop_zero, ih k (by simp at h; omega), c2]
        simp
        omega
      · rw [if_neg c2] at h ⊢
        by_cases c3 : c = 9
        · rw [if_pos c3] at h ⊢
          have he : escF ((116 : UInt8) :: (quoteL r ++ 34 :: rest)) = (9, 1) := rfl
          show textF (k + 1) (92 :: (116 :: (quoteL r ++ 34 :: rest))) = _
          rw [text_esc k _ _ he (by simp), List.drop_succ_cons, List.drop_zero, ih k (by simp at h; omega), c3]
          simp
          omega
        · rw [if_neg c3] at h ⊢
          by_cases c4 : c.toNat < 32 ∨ 126 < c.toNat
          · rw [if_pos c4] at h ⊢
            have hlt := UInt8.toNat_lt c
            have h1 := hexD_val (c.toNat / 16) (by omega)
            have h2 := hexD_val (c.toNat % 16) (by omega)
            have he : escF ((120 : UInt8) :: hexD (c.toNat / 16) :: hexD (c.toNat % 16) :: (quoteL r ++ 34 :: rest)) = (c.toNat, 3) := by
              show hexF (hexD (c.toNat / 16) :: hexD (c.toNat % 16) :: (quoteL r ++ 34 :: rest)) = _
              show (if 0 ≤ hexV (hexD (c.toNat / 16)) ∧ 0 ≤ hexV (hexD (c.toNat % 16)) then ((16 * hexV (hexD (c.toNat / 16)) + hexV (hexD (c.toNat % 16))).toNat, 3) else (0, 0)) = _
              rw [h1, h2, if_pos ⟨by omega, by omega⟩]
              congr 1
              omega
            show textF (k + 1) (92 :: (120 :: hexD (c.toNat / 16) :: hexD (c.toNat % 16) :: (quoteL r ++ 34 :: rest))) = _
            rw [text_esc k _ _ he (by simp)]
            simp only [List.drop_succ_cons, List.drop_zero]
            rw [ih k (by simp at h; omega)]
            simp
            omega
          · rw [if_neg c4] at h ⊢
            show textF (k + 1) (c :: (quoteL r ++ 34 :: rest)) = _
            rw [textF, if_neg (fun e => c1 (.inl e)), if_neg (fun e => c1 (.inr e)), if_neg c4, ih k (by simp at h; omega)]
            simp
            omega
--END

end Go.Proofs.YthagibkmfgodgaaGreatDoor.X
