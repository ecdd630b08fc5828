/-
  MintUnlike's plain law: parts that are cut elsewhere have another key.
-/
import Derived.Test.YtobbliglnjgbaaaGreatDoorPlain
import Derived.Test.YtobbliglnjgbaaaGreatDoorPutInj
import Derived.Test.YtobbliglnjgbaaaGreatDoorLf
namespace Go.Proofs.YtobbliglnjgbaaaGreatDoor.X
open Go.RowKit Go.Proofs.YtobbliglnjgbaaaGreatDoorW.PrintWords Go.Proofs.YtobbliglnjgbaaaGreatDoorW.PrintMore Go.Proofs.YtobbliglnjgbaaaGreatDoor.Pb Go.Proofs.YtobbliglnjgbaaaGreatDoor.Pc Go.Proofs.YtobbliglnjgbaaaGreatDoor.Lf

theorem cut_front (t : Bytes) (p : Nat) : (mk t).extract 0 p = mk (t.take p) := by
  apply data_inj
  rw [mk_data]
  simp [ByteArray.data_extract, mk]
theorem cut_back (t : Bytes) (p : Nat) : (mk t).extract p t.length = mk (t.drop p) := by
  apply data_inj
  rw [mk_data]
  simp [ByteArray.data_extract, mk]
  rw [List.take_of_length_le (by simp)]
theorem putTwo_f (x y : Bytes) (hx : x.length ≤ 40) (hy : y.length ≤ 40) : mint_Put.f [mk x, mk y] = some (mk (put [x, y])) := by
  have h := put_length_le [x, y]
  simp only [List.map_cons, List.map_nil, List.sum_cons, List.sum_nil, List.length_cons, List.length_nil] at h
  unfold mint_Put.f
  simp only [List.map_cons, List.map_nil, mk_data]
  rw [if_pos (by omega)]
theorem putOne_f (x : Bytes) (hx : x.length ≤ 40) : mint_Put.f [mk x] = some (mk (put [x])) := by
  have h := put_length_le [x]
  simp only [List.map_cons, List.map_nil, List.sum_cons, List.sum_nil, List.length_cons, List.length_nil] at h
  unfold mint_Put.f
  simp only [List.map_cons, List.map_nil, mk_data]
  rw [if_pos (by omega)]
theorem pure_MintUnlike (s : ByteArray) (a b : Int) (_hs : s.size ≤ 140737488351232) (_ha : (Lit.int .i64 a).wf = true) (_hb : (Lit.int .i64 b).wf = true) : ∃ k, shipwrightlaw1_MintUnlike.f k s a b = some true := by
  refine ⟨1, ?_⟩
  have ht : (s.data.toList.take 40).length ≤ 40 := List.length_take_le _ _
  show (shipwrightlaw1_begun.f).bind _ = _
  rw [show shipwrightlaw1_begun.f = some true from rfl]
  simp only [Option.bind_some, if_true]
  rw [show (40 : Int) = ((40 : Nat) : Int) from rfl, short_f]
  generalize s.data.toList.take 40 = t at ht
  simp only [Option.bind_some]
  have e0 : (⟨#[]⟩ : ByteArray) = mk [] := rfl
  by_cases ha : a < 0
  · rw [if_pos ha, Lf.shipwrightlaw1_MintUnlike.j0, if_pos rfl]
  · rw [if_neg ha]
    by_cases hb : b < 0
    · rw [show decide (b < 0) = true by simp [hb], Lf.shipwrightlaw1_MintUnlike.j0, if_pos rfl]
    · have hw : wrap64 (((mk t).size : Int) + 1) = ((t.length + 1 : Nat) : Int) := by rw [mk_size]; unfold wrap64; omega
      obtain ⟨an, rfl⟩ := Int.eq_ofNat_of_zero_le (show 0 ≤ a by omega)
      obtain ⟨bn, rfl⟩ := Int.eq_ofNat_of_zero_le (show 0 ≤ b by omega)
      have hma : Int.tmod (an : Int) ((t.length + 1 : Nat) : Int) = ((an % (t.length + 1) : Nat) : Int) := by rw [Int.tmod_eq_emod_of_nonneg (by omega)]; rfl
      have hmb : Int.tmod (bn : Int) ((t.length + 1 : Nat) : Int) = ((bn % (t.length + 1) : Nat) : Int) := by rw [Int.tmod_eq_emod_of_nonneg (by omega)]; rfl
      have hla : an % (t.length + 1) ≤ t.length := by have := Nat.mod_lt an (show 0 < t.length + 1 by omega); omega
      have hlb : bn % (t.length + 1) ≤ t.length := by have := Nat.mod_lt bn (show 0 < t.length + 1 by omega); omega
      rw [show decide ((bn : Int) < 0) = false by simp, Lf.shipwrightlaw1_MintUnlike.j0, if_neg (by simp), hw, if_neg (by omega), hma, hmb]
      generalize an % (t.length + 1) = p at hla
      generalize bn % (t.length + 1) = q at hlb
      have hsz : ((mk t).size : Int) = (t.length : Int) := by rw [mk_size]
      have l1 : ∀ n, (t.take n).length ≤ 40 := fun n => by rw [List.length_take]; omega
      have l2 : ∀ n, (t.drop n).length ≤ 40 := fun n => by rw [List.length_drop]; omega
      rw [if_pos (by omega), hsz, if_pos (by omega), Int.toNat_natCast, mk_size, cut_front, cut_back, putTwo_f _ _ (l1 p) (l2 p)]
      simp only [Option.bind_some]
      rw [if_pos (by omega), if_pos (by omega), Int.toNat_natCast, cut_front, cut_back, putTwo_f _ _ (l1 q) (l2 q), putOne_f t ht, e0, putTwo_f t [] ht (by simp)]
      simp only [Option.bind_some, mk_toList]
      have k1 : ((put [t.take p, t.drop p] == put [t.take q, t.drop q]) == ((p : Int) == (q : Int))) = true := by
        rw [beq_iff_eq, Bool.eq_iff_iff, beq_iff_eq, beq_iff_eq, put_inj_iff]
        constructor
        · intro h
          simp only [List.cons.injEq, and_true] at h
          have := congrArg List.length h.1
          rw [List.length_take, List.length_take] at this
          omega
        · intro h
          have : p = q := by omega
          rw [this]
      have k2 : ¬ put [t] = put [t, []] := fun h => by
        have := put_inj _ _ h
        simp at this
      have k3 : (put [t.take p, t.drop p] != put [t]) = true := by
        rw [bne_iff_ne]
        intro h
        have := congrArg List.length (put_inj _ _ h)
        simp at this
      rw [if_pos k1, if_neg k2, k3]

end Go.Proofs.YtobbliglnjgbaaaGreatDoor.X
