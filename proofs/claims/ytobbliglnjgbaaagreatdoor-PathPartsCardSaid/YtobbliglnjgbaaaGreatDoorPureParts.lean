/-
  PathParts' plain law: parts, joined, are the name again, if none of them is empty.
-/
import Derived.Test.YtobbliglnjgbaaaGreatDoorPlain
import Derived.Test.YtobbliglnjgbaaaGreatDoorLa
namespace Go.Proofs.YtobbliglnjgbaaaGreatDoor.X
open Go.RowKit Go.Proofs.YtobbliglnjgbaaaGreatDoorW.PrintWords Go.Proofs.YtobbliglnjgbaaaGreatDoorW.PrintMore
open Go.Proofs.YtobbliglnjgbaaaGreatDoor.Pb Go.Proofs.YtobbliglnjgbaaaGreatDoor.Pc Go.Proofs.YtobbliglnjgbaaaGreatDoor.La

theorem sum_take_succ (l : List Bytes) (i : Nat) (h : i < l.length) : ((l.take (i + 1)).map List.length).sum = ((l.take i).map List.length).sum + l[i].length := by
  rw [List.take_succ_eq_append_getElem h, List.map_append, List.sum_append, List.map_singleton, List.sum_singleton]
theorem any_take_succ (l : List Bytes) (i : Nat) (h : i < l.length) : (l.take (i + 1)).any (· == []) = ((l.take i).any (· == []) || l[i] == []) := by
  rw [List.take_succ_eq_append_getElem h, List.any_append]
  simp only [List.any_cons, List.any_nil, Bool.or_false]
theorem sum_take_le (l : List Bytes) (i : Nat) : ((l.take i).map List.length).sum ≤ (l.map List.length).sum := by
  have h : (l.map List.length).sum = ((l.take i).map List.length).sum + ((l.drop i).map List.length).sum := by
    rw [← List.sum_append, ← List.map_append, List.take_append_drop]
  omega
theorem parts_loop (t : Bytes) (ht : t.length ≤ 60) : ∀ m i, i + m = (parts t).length →
    La.shipwrightlaw1_PathParts.l0 (m + 1) (mk t) ((parts t).map mk) (((parts t).take i).any (· == [])) ((((parts t).take i).map List.length).sum : Nat) (i : Int) = some true := by
  have hs := cutAt_sizes 47 t
  rw [show cutAt 47 t = parts t from rfl] at hs
  intro m
  induction m with
  | zero =>
    intro i hi
    obtain rfl : i = (parts t).length := by omega
    rw [La.shipwrightlaw1_PathParts.l0, List.length_map, if_neg (by omega), List.take_length, mk_size]
    have e : wrap64 (wrap64 ((((parts t).map List.length).sum : Nat) + ((parts t).length : Int)) - 1) = (t.length : Int) := by unfold wrap64; omega
    rw [if_pos e]
    cases he : (parts t).any (· == []) with
    | true => rfl
    | false =>
      rw [if_neg (by simp), join_f _ (by omega) (by omega), join_full _ he, show parts t = cutAt 47 t from rfl, cutAt_join]
      simp
  | succ m ih =>
    intro i hi
    have hlt : i < (parts t).length := by omega
    have hsum := sum_take_succ (parts t) i hlt
    have hle := sum_take_le (parts t) (i + 1)
    have hany := any_take_succ (parts t) i hlt
    have ih1 := ih (i + 1) (by omega)
    rw [hany, hsum] at ih1
    rw [La.shipwrightlaw1_PathParts.l0, List.length_map, if_pos (by omega), rdOf_mk _ _ hlt, mk_size, mk_toList]
    have e1 : wrap64 ((((parts t).take i).map List.length).sum + ((parts t)[i].length : Int)) = ((((parts t).take i).map List.length).sum + (parts t)[i].length : Nat) := by unfold wrap64; omega
    have e2 : wrap64 ((i : Int) + 1) = ((i + 1 : Nat) : Int) := by unfold wrap64; omega
    rw [e1, e2]
    cases he : ((parts t).take i).any (· == []) with
    | true =>
      rw [if_pos rfl, if_pos (by omega)]
      rw [he, Bool.true_or] at ih1
      exact ih1
    | false =>
      rw [if_neg (by simp), if_pos (by omega)]
      rw [he, Bool.false_or] at ih1
      exact ih1
theorem pure_PathParts (s : ByteArray) (_hs : s.size ≤ 140737488351232) : ∃ k, shipwrightlaw1_PathParts.f k s = some true := by
  refine ⟨(parts (s.data.toList.take 60)).length + 1, ?_⟩
  have ht : (s.data.toList.take 60).length ≤ 60 := List.length_take_le _ _
  show (shipwrightlaw1_begun.f).bind _ = _
  rw [show shipwrightlaw1_begun.f = some true from rfl]
  simp only [Option.bind_some, if_true]
  rw [show (60 : Int) = ((60 : Nat) : Int) from rfl, short_f]
  simp only [Option.bind_some]
  rw [parts_f _ (by omega)]
  exact parts_loop _ ht _ 0 (by omega)

end Go.Proofs.YtobbliglnjgbaaaGreatDoor.X
