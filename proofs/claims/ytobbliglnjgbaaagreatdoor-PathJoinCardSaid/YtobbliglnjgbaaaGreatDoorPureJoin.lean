/-
  PathJoin's plain law: names that may be, joined, may be, if they are short enough.
-/
import Derived.Test.YtobbliglnjgbaaaGreatDoorPlain
import Derived.Test.YtobbliglnjgbaaaGreatDoorLb
namespace Go.Proofs.YtobbliglnjgbaaaGreatDoor.X
open Go.RowKit Go.Proofs.YtobbliglnjgbaaaGreatDoorW.PrintWords Go.Proofs.YtobbliglnjgbaaaGreatDoorW.PrintMore Go.Proofs.YtobbliglnjgbaaaGreatDoor.Pb Go.Proofs.YtobbliglnjgbaaaGreatDoor.Pc Go.Proofs.YtobbliglnjgbaaaGreatDoor.Lb

theorem cutAt_append (c : UInt8) (b : Bytes) : ∀ a, cutAt c (a ++ c :: b) = cutAt c a ++ cutAt c b
  | [] => by simp [cutAt]
  | x :: r => by
    have ih := cutAt_append c b r
    obtain ⟨p, q, h⟩ := cutAt_cons c r
    rw [List.cons_append, cutAt, ih, cutAt, h]
    split
    · rfl
    · rfl
theorem may_parts {s : Bytes} (h : may s = true) : (parts s).any bad = false := by
  unfold may at h
  simp only [Bool.and_eq_true, Bool.not_eq_true'] at h
  exact h.2
theorem may_ne {s : Bytes} (h : may s = true) : s ≠ [] := by
  rintro rfl
  revert h
  decide
theorem join_nil_right (a : Bytes) : join [a, []] = a := by
  unfold join
  cases a with
  | nil => rfl
  | cons x r => simp [Lib.join_one]
theorem join_nil_left (b : Bytes) : join [[], b] = b := by
  unfold join
  cases b with
  | nil => rfl
  | cons x r => simp [Lib.join_one]
theorem join_pair {a b : Bytes} (ha : a ≠ []) (hb : b ≠ []) : join [a, b] = a ++ [47] ++ b := by
  rw [join_full _ (by simp [ha, hb]), join_two, Lib.join_one]
theorem may_pair {a b : Bytes} (ha : may a = true) (hb : may b = true) : may (a ++ [47] ++ b) = decide ((a ++ [47] ++ b).length ≤ 40) := by
  have hp : (parts (a ++ [47] ++ b)).any bad = false := by
    have : parts (a ++ [47] ++ b) = parts a ++ parts b := by
      unfold parts
      rw [List.append_assoc]
      exact cutAt_append 47 b a
    rw [this, List.any_append, may_parts ha, may_parts hb]
    rfl
  have hm : (47 : UInt8) ∈ a ++ [47] ++ b := by simp
  have hn : ((a ++ [47] ++ b) == [114, 117, 108, 101] || (a ++ [47] ++ b) == [105, 110] || (a ++ [47] ++ b) == [111, 117, 116] || (a ++ [47] ++ b) == [97, 102, 116, 101, 114]) = false := by
    generalize a ++ [47] ++ b = s at hm
    simp only [Bool.or_eq_false_iff, beq_eq_false_iff_ne]
    refine ⟨⟨⟨?_, ?_⟩, ?_⟩, ?_⟩ <;> (rintro rfl; revert hm; decide)
  unfold may
  rw [hn, hp]
  simp

theorem pure_PathJoin (s t : ByteArray) (_hs : s.size ≤ 140737488351232) (_ht : t.size ≤ 140737488351232) : ∃ k, shipwrightlaw1_PathJoin.f k s t = some true := by
  refine ⟨1, ?_⟩
  have ha : (s.data.toList.take 45).length ≤ 45 := List.length_take_le _ _
  have hb : (t.data.toList.take 45).length ≤ 45 := List.length_take_le _ _
  show (shipwrightlaw1_begun.f).bind _ = _
  rw [show shipwrightlaw1_begun.f = some true from rfl]
  simp only [Option.bind_some, if_true]
  rw [show (45 : Int) = ((45 : Nat) : Int) from rfl, short_f, short_f]
  generalize s.data.toList.take 45 = a at ha
  generalize t.data.toList.take 45 = b at hb
  simp only [Option.bind_some]
  have hj : ∀ x y : Bytes, x.length ≤ 45 → y.length ≤ 45 → path_Join.f [mk x, mk y] = some (mk (join [x, y])) := fun x y hx hy => join_f [x, y] (by simp) (by simp; omega)
  have e0 : (⟨#[]⟩ : ByteArray) = mk [] := rfl
  rw [hj a b ha hb]
  simp only [Option.bind_some, may_f]
  have hno : Lb.shipwrightlaw1_PathJoin.j0 1 (mk a) (mk b) (mk (join [a, b])) true = some true := by
    rw [Lb.shipwrightlaw1_PathJoin.j0, if_pos rfl, e0, hj a [] ha (by simp), join_nil_right]
    simp only [Option.bind_some, if_true]
    rw [hj [] b (by simp) hb, join_nil_left]
    simp
  cases hma : may a with
  | false => rw [if_neg (by simp)]; exact hno
  | true =>
    rw [if_pos rfl]
    cases hmb : may b with
    | false => exact hno
    | true =>
      have hsz : ∀ x : Bytes, (mk x).size = x.length := mk_size
      have hpair := may_pair hma hmb
      have hap : (mk a ++ (⟨#[47]⟩ : ByteArray)) ++ mk b = mk (a ++ [47] ++ b) := by
        rw [show (⟨#[47]⟩ : ByteArray) = mk [47] from rfl, mk_append, mk_append]
      have hap1 : (mk a ++ (⟨#[47]⟩ : ByteArray)).size = a.length + 1 := by
        rw [show (⟨#[47]⟩ : ByteArray) = mk [47] from rfl, mk_append, hsz]
        simp
      have hla : (parts a).length ≤ a.length + 1 := cutAt_length_le 47 a
      have hlb : (parts b).length ≤ b.length + 1 := cutAt_length_le 47 b
      have hpp : (parts (a ++ [47] ++ b)).length = (parts a).length + (parts b).length := by
        unfold parts
        rw [List.append_assoc]
        show (cutAt 47 (a ++ 47 :: b)).length = _
        rw [cutAt_append, List.length_append]
      rw [Lb.shipwrightlaw1_PathJoin.j0, if_neg (by simp), hsz, if_pos (by omega), hap1, hsz, if_pos (by omega), hap, join_pair (may_ne hma) (may_ne hmb), if_pos rfl, may_f]
      simp only [Option.bind_some]
      have hlen : (a ++ [47] ++ b).length ≤ 91 := by simp; omega
      rw [hpair, hsz, if_pos (by simp; omega), parts_f _ (by omega), parts_f _ (by omega), parts_f _ (by omega)]
      simp only [Option.bind_some, List.length_map, hpp]
      congr 1
      rw [beq_iff_eq]
      unfold wrap64
      omega

end Go.Proofs.YtobbliglnjgbaaaGreatDoor.X
