/-
  Norm, as a plain law: a stack over a name's parts.
-/
import Derived.Test.YtobbliglnjgbaaaGreatDoorPlain
namespace Go.Proofs.YtobbliglnjgbaaaGreatDoor.X
open Go.RowKit Go.Proofs.YtobbliglnjgbaaaGreatDoorW.PrintWords Go.Proofs.YtobbliglnjgbaaaGreatDoorW.PrintMore Go.Proofs.YtobbliglnjgbaaaGreatDoor.Pb Go.Proofs.YtobbliglnjgbaaaGreatDoor.Pc

def stackN : List Bytes → List Bytes → Option (List Bytes)
  | l, [] => some l
  | l, p :: r => if p = [] then stackN l r else if p = [46] then stackN l r else if p = [46, 46] then (if l = [] then none else stackN l.dropLast r) else stackN (l ++ [p]) r
def endN : Option (List Bytes) → Bytes × Bool
  | none => ([], false)
  | some l => if may (join l) then (join l, true) else ([], false)
def norm (s : Bytes) : Bytes × Bool := endN (stackN [] (parts s))

def weight (l : List Bytes) : Nat := (l.map List.length).sum + l.length
theorem weight_snoc (l : List Bytes) (p : Bytes) : weight (l ++ [p]) = weight l + p.length + 1 := by
  unfold weight
  rw [List.map_append, List.sum_append, List.length_append, List.map_singleton, List.sum_singleton, List.length_singleton]
  omega
theorem weight_dropLast (l : List Bytes) : weight l.dropLast ≤ weight l := by
  cases h : l.reverse with
  | nil => rw [List.reverse_eq_nil_iff] at h; subst h; simp [weight]
  | cons x r =>
    have : l = r.reverse ++ [x] := by rw [← List.reverse_reverse l, h, List.reverse_cons]
    rw [this, List.dropLast_concat, weight_snoc]
    omega
theorem weight_take_succ (l : List Bytes) (i : Nat) (h : i < l.length) : weight (l.take (i + 1)) = weight (l.take i) + l[i].length + 1 := by
  rw [List.take_succ_eq_append_getElem h, weight_snoc]
theorem weight_take_le (l : List Bytes) (i : Nat) : weight (l.take i) ≤ weight l := by
  have h : weight l = weight (l.take i) + weight (l.drop i) := by
    unfold weight
    have h1 : (l.map List.length).sum = ((l.take i).map List.length).sum + ((l.drop i).map List.length).sum := by
      rw [← List.sum_append, ← List.map_append, List.take_append_drop]
    have h2 : l.length = (l.take i).length + (l.drop i).length := by rw [← List.length_append, List.take_append_drop]
    omega
  omega
theorem length_le_weight (l : List Bytes) : l.length ≤ weight l := by unfold weight; omega

theorem norm_loop (P : List Bytes) (hP : weight P ≤ 1000) : ∀ m i l, i + m = P.length → weight l ≤ weight (P.take i) → ∀ k, 2 * m + 1 ≤ k →
    path_Norm.l0 k (l.map mk) (P.map mk) (P.length : Int) (i : Int) = some (mk (endN (stackN l (P.drop i))).1, (endN (stackN l (P.drop i))).2) := by
  have hPl : P.length ≤ 1000 := Nat.le_trans (length_le_weight P) hP
  intro m
  induction m with
  | zero =>
    intro i l hi hw k hk
    obtain ⟨k, rfl⟩ : ∃ k', k = k' + 1 := ⟨k - 1, by omega⟩
    have hw2 : (l.map List.length).sum + l.length ≤ 1000 := Nat.le_trans hw (Nat.le_trans (weight_take_le P i) hP)
    have hll : l.length ≤ 1000 := Nat.le_trans (Nat.le_add_left _ _) hw2
    clear hw hP
    obtain rfl : i = P.length := by omega
    rw [path_Norm.l0, if_neg (by omega), join_f l (by omega) (Nat.le_trans hw2 (by decide)), List.drop_length]
    simp only [Option.bind_some, may_f, stackN, endN]
    cases may (join l) <;> rfl
  | succ m ih =>
    intro i l hi hw k hk
    obtain ⟨k, rfl⟩ : ∃ k', k = k' + 2 := ⟨k - 2, by omega⟩
    have hlt : i < P.length := by omega
    have hsucc := weight_take_succ P i hlt
    have hll : l.length ≤ 1000 := Nat.le_trans (length_le_weight l) (Nat.le_trans hw (Nat.le_trans (weight_take_le P i) hP))
    have hA : weight l ≤ weight (P.take (i + 1)) := Nat.le_trans hw (by rw [hsucc, Nat.add_assoc]; exact Nat.le_add_right _ _)
    have hB : weight (l ++ [P[i]]) ≤ weight (P.take (i + 1)) := by rw [weight_snoc, hsucc]; exact Nat.add_le_add_right (Nat.add_le_add_right hw _) _
    have hC : weight l.dropLast ≤ weight (P.take (i + 1)) := Nat.le_trans (weight_dropLast l) hA
    have ihA := ih (i + 1) l (by omega) hA k (by omega)
    have ihB := ih (i + 1) (l ++ [P[i]]) (by omega) hB k (by omega)
    have ihC := ih (i + 1) l.dropLast (by omega) hC k (by omega)
    clear ih hA hB hC hsucc hw hP
    have e2 : wrap64 ((i : Int) + 1) = ((i + 1 : Nat) : Int) := by unfold wrap64; omega
    have hd : P.drop i = P[i] :: P.drop (i + 1) := List.drop_eq_getElem_cons hlt
    have c1 : ((i : Nat) : Int) < (P.length : Int) := by omega
    have c2 : (0 : Int) ≤ (i : Int) := by omega
    rw [path_Norm.l0, if_pos c1, if_pos c2, List.length_map, if_pos c1, rdOf_mk _ _ hlt, hd, mk_toList]
    generalize P[i] = p at ihB
    have hskip : ∀ x, path_Norm.j1 (k + 1) (l.map mk) x (P.map mk) (P.length : Int) (i : Int) true = some (mk (endN (stackN l (P.drop (i + 1)))).1, (endN (stackN l (P.drop (i + 1)))).2) := by
      intro x
      rw [path_Norm.j1, if_pos rfl, e2]
      exact ihA
    by_cases h0 : p = []
    · subst h0
      rw [if_pos rfl, hskip, stackN, if_pos rfl]
    · rw [if_neg h0]
      by_cases h1 : p = [46]
      · subst h1
        rw [show (([46] : Bytes) == [46]) = true from rfl, hskip, stackN, if_neg (by decide), if_pos rfl]
      · rw [show (p == [46]) = false by simp [h1], stackN, if_neg h0, if_neg h1, path_Norm.j1, if_neg (by simp), mk_toList]
        by_cases h2 : p = [46, 46]
        · rw [if_pos h2, if_pos h2, List.length_map]
          by_cases h3 : l = []
          · subst h3
            rw [if_pos (show (([] : List Bytes).length : Int) = 0 from rfl), if_pos rfl]
            rfl
          · have hl0 : l.length ≠ 0 := by simpa using h3
            have e3 : wrap64 ((l.length : Int) - 1) = ((l.length - 1 : Nat) : Int) := by unfold wrap64; omega
            rw [if_neg (by omega), if_neg h3, e3, if_pos (by omega), if_pos (by omega), e2, Int.toNat_natCast, ← List.map_take, ← List.dropLast_eq_take]
            exact ihC
        · rw [if_neg h2, if_neg h2, List.length_map, if_pos (by omega), e2, show l.map mk ++ [mk p] = (l ++ [p]).map mk by simp]
          exact ihB
theorem norm_f (s : Bytes) (hs : s.length ≤ 900) (k : Nat) (hk : 2 * s.length + 3 ≤ k) : path_Norm.f k (mk s) = some (mk (norm s).1, (norm s).2) := by
  show (path_Parts.f (mk s)).bind _ = _
  rw [parts_f s (by omega)]
  simp only [Option.bind_some, List.length_map]
  have h := cutAt_sizes 47 s
  have hw : weight (parts s) ≤ 1000 := by show ((cutAt 47 s).map List.length).sum + (cutAt 47 s).length ≤ _; omega
  have hl : (parts s).length ≤ s.length + 1 := cutAt_length_le 47 s
  exact norm_loop (parts s) hw (parts s).length 0 [] (by omega) (by simp [weight]) k (by omega)

/-! ### what it tells -/
theorem stackN_good : ∀ (r l : List Bytes), r.any bad = false → stackN l r = some (l ++ r)
  | [], l, _ => by simp [stackN]
  | p :: r, l, h => by
    rw [List.any_cons, Bool.or_eq_false_iff] at h
    obtain ⟨hp, hr⟩ := h
    simp only [bad, Bool.or_eq_false_iff, beq_eq_false_iff_ne] at hp
    obtain ⟨⟨⟨h0, h1⟩, h2⟩, _⟩ := hp
    rw [stackN, if_neg h0, if_neg h1, if_neg h2, stackN_good r _ hr, List.append_assoc]
    rfl
theorem stackN_append : ∀ (a b l : List Bytes), stackN l (a ++ b) = (stackN l a).bind fun m => stackN m b
  | [], b, l => by simp [stackN]
  | p :: a, b, l => by
    rw [List.cons_append, stackN, stackN]
    split
    · exact stackN_append a b _
    · split
      · exact stackN_append a b _
      · split
        · split
          · rfl
          · exact stackN_append a b _
        · exact stackN_append a b _
theorem norm_may {s : Bytes} (h : may s = true) : norm s = (s, true) := by
  have hb : (parts s).any bad = false := by
    unfold may at h
    simp only [Bool.and_eq_true, Bool.not_eq_true'] at h
    exact h.2
  have hne : (parts s).any (· == []) = false := by
    rw [List.any_eq_false] at hb ⊢
    intro x hx
    have := hb x hx
    simp only [bad, Bool.or_eq_true, not_or] at this
    exact this.1.1.1
  unfold norm
  rw [stackN_good _ _ hb, List.nil_append]
  show (if may (join (parts s)) = true then (join (parts s), true) else ([], false)) = _
  rw [join_full _ hne, show parts s = cutAt 47 s from rfl, cutAt_join, if_pos h]
theorem norm_ok (s : Bytes) : ((norm s).2 = true ∧ may (norm s).1 = true) ∨ ((norm s).2 = false ∧ (norm s).1 = []) := by
  unfold norm
  cases h : stackN [] (parts s) with
  | none => exact .inr ⟨rfl, rfl⟩
  | some l =>
    show ((if may (join l) = true then (join l, true) else ([], false)).2 = true ∧ may (if may (join l) = true then (join l, true) else ([], false)).1 = true) ∨ ((if may (join l) = true then (join l, true) else ([], false)).2 = false ∧ (if may (join l) = true then (join l, true) else ([], false)).1 = [])
    cases h2 : may (join l) with
    | true => rw [if_pos rfl]; exact .inl ⟨rfl, h2⟩
    | false => rw [if_neg (by simp)]; exact .inr ⟨rfl, rfl⟩

end Go.Proofs.YtobbliglnjgbaaaGreatDoor.X
