/-
  PathNorm's plain law: a name that may be is plain already; what is made plain may be, and is plain.
-/
import Derived.Test.YtobbliglnjgbaaaGreatDoorNorm
import Derived.Test.YtobbliglnjgbaaaGreatDoorLc
namespace Go.Proofs.YtobbliglnjgbaaaGreatDoor.X
open Go.RowKit Go.Proofs.YtobbliglnjgbaaaGreatDoorW.PrintWords Go.Proofs.YtobbliglnjgbaaaGreatDoorW.PrintMore Go.Proofs.YtobbliglnjgbaaaGreatDoor.Pb Go.Proofs.YtobbliglnjgbaaaGreatDoor.Pc Go.Proofs.YtobbliglnjgbaaaGreatDoor.Lc

theorem cutAt_app (c : UInt8) (b : Bytes) : ∀ a, cutAt c (a ++ c :: b) = cutAt c a ++ cutAt c b
  | [] => by simp [cutAt]
  | x :: r => by
    have ih := cutAt_app c b r
    obtain ⟨p, q, h⟩ := cutAt_cons c r
    rw [List.cons_append, cutAt, ih, cutAt, h]
    split
    · rfl
    · rfl
theorem norm_mid (s t : Bytes) : norm (s ++ [47, 46, 47] ++ t ++ [47, 47]) = norm (s ++ [47] ++ t) := by
  have e1 : parts (s ++ [47, 46, 47] ++ t ++ [47, 47]) = parts s ++ ([[46]] ++ (parts t ++ [[], []])) := by
    unfold parts
    rw [show s ++ [47, 46, 47] ++ t ++ [47, 47] = s ++ 47 :: ([46] ++ 47 :: (t ++ 47 :: ([] ++ 47 :: []))) by simp, cutAt_app, cutAt_app, cutAt_app, cutAt_app]
    rfl
  have e2 : parts (s ++ [47] ++ t) = parts s ++ parts t := by
    unfold parts
    rw [show s ++ [47] ++ t = s ++ 47 :: t by simp, cutAt_app]
  unfold norm
  rw [e1, e2, stackN_append, stackN_append]
  congr 1
  congr 1
  funext m
  rw [List.singleton_append, stackN, if_neg (by decide), if_pos rfl, stackN_append]
  cases stackN m (parts t) with
  | none => rfl
  | some l => simp [stackN]

theorem pure_PathNorm (s t : ByteArray) (_hs : s.size ≤ 140737488351232) (_ht : t.size ≤ 140737488351232) : ∃ k, shipwrightlaw1_PathNorm.f k s t = some true := by
  refine ⟨1000, ?_⟩
  have ha : (s.data.toList.take 50).length ≤ 50 := List.length_take_le _ _
  have hb : (t.data.toList.take 50).length ≤ 50 := List.length_take_le _ _
  show (shipwrightlaw1_begun.f).bind _ = _
  rw [show shipwrightlaw1_begun.f = some true from rfl]
  simp only [Option.bind_some, if_true]
  rw [show (50 : Int) = ((50 : Nat) : Int) from rfl, short_f, short_f]
  generalize s.data.toList.take 50 = a at ha
  generalize t.data.toList.take 50 = b at hb
  simp only [Option.bind_some]
  have hn1 : (norm a).1.length ≤ 100 := by
    rcases norm_ok a with ⟨_, h⟩ | ⟨_, h⟩
    · unfold may at h
      simp only [Bool.and_eq_true, decide_eq_true_eq] at h
      omega
    · rw [h]; simp
  rw [norm_f a (by omega) 1000 (by omega)]
  simp only [Option.bind_some]
  rw [norm_f (norm a).1 (by omega) 1000 (by omega)]
  simp only [Option.bind_some, may_f, mk_toList]
  have hsz : ∀ x : Bytes, (mk x).size = x.length := mk_size
  have hend : Lc.shipwrightlaw1_PathNorm.j1 998 (mk a) (mk b) false = some true := by
    have h1 : ((mk a ++ (⟨#[47, 46, 47]⟩ : ByteArray)) ++ mk b) ++ (⟨#[47, 47]⟩ : ByteArray) = mk (a ++ [47, 46, 47] ++ b ++ [47, 47]) := by
      rw [show (⟨#[47, 46, 47]⟩ : ByteArray) = mk [47, 46, 47] from rfl, show (⟨#[47, 47]⟩ : ByteArray) = mk [47, 47] from rfl, mk_append, mk_append, mk_append]
    have h2 : (mk a ++ (⟨#[47]⟩ : ByteArray)) ++ mk b = mk (a ++ [47] ++ b) := by
      rw [show (⟨#[47]⟩ : ByteArray) = mk [47] from rfl, mk_append, mk_append]
    have z1 : (mk a ++ (⟨#[47, 46, 47]⟩ : ByteArray)).size = a.length + 3 := by
      rw [show (⟨#[47, 46, 47]⟩ : ByteArray) = mk [47, 46, 47] from rfl, mk_append, hsz]; simp
    have z2 : ((mk a ++ (⟨#[47, 46, 47]⟩ : ByteArray)) ++ mk b).size = a.length + 3 + b.length := by
      rw [show (⟨#[47, 46, 47]⟩ : ByteArray) = mk [47, 46, 47] from rfl, mk_append, mk_append, hsz]; simp; omega
    have z3 : (mk a ++ (⟨#[47]⟩ : ByteArray)).size = a.length + 1 := by
      rw [show (⟨#[47]⟩ : ByteArray) = mk [47] from rfl, mk_append, hsz]; simp
    rw [Lc.shipwrightlaw1_PathNorm.j1, if_neg (by simp), hsz, if_pos (by omega), z1, hsz, if_pos (by omega), z2, if_pos (by omega), h1, norm_f _ (by simp; omega) 997 (by simp; omega)]
    simp only [Option.bind_some]
    rw [if_pos (by omega), z3, if_pos (by omega), h2, norm_f _ (by simp; omega) 997 (by simp; omega), norm_mid]
    simp
  have hj0 : Lc.shipwrightlaw1_PathNorm.j0 1000 (mk a) (mk b) (mk (norm a).1) (norm a).2 false = some true := by
    rw [Lc.shipwrightlaw1_PathNorm.j0, if_neg (by simp), may_f]
    simp only [Option.bind_some]
    cases hm : may a with
    | false => rw [if_neg (by simp)]; exact Lc.shipwrightlaw1_PathNorm.mono_l 998 |>.2 _ _ _ _ hend
    | true =>
      rw [norm_may hm, if_pos rfl, if_pos rfl, mk_toList, show ((a, true).1 != (a, true).1) = false by simp]
      exact Lc.shipwrightlaw1_PathNorm.mono_l 998 |>.2 _ _ _ _ hend
  rcases norm_ok a with ⟨h1, h2⟩ | ⟨h1, h2⟩
  · rw [h1] at hj0 ⊢
    rw [if_pos rfl, h2, if_pos rfl, norm_may h2, if_pos rfl, if_pos rfl]
    exact hj0
  · rw [h1, h2] at hj0 ⊢
    rw [if_neg (by simp)]
    exact hj0

end Go.Proofs.YtobbliglnjgbaaaGreatDoor.X
