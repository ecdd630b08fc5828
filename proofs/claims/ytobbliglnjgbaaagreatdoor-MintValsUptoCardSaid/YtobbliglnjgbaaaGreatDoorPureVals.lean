/-
  MintVals' plain law: unlike values have unlike keys.
-/
import Derived.Test.YtobbliglnjgbaaaGreatDoorPlain
import Derived.Test.YtobbliglnjgbaaaGreatDoorPutInj
import Derived.Test.YtobbliglnjgbaaaGreatDoorRef
import Derived.Test.YtobbliglnjgbaaaGreatDoorPg
import Derived.Test.YtobbliglnjgbaaaGreatDoorLe
namespace Go.Proofs.YtobbliglnjgbaaaGreatDoor.X
open Go.RowKit Go.Proofs.YtobbliglnjgbaaaGreatDoorW.PrintWords Go.Proofs.YtobbliglnjgbaaaGreatDoorW.PrintMore Go.Proofs.YtobbliglnjgbaaaGreatDoor.Pb Go.Proofs.YtobbliglnjgbaaaGreatDoor.Pc Go.Proofs.YtobbliglnjgbaaaGreatDoor.Pf Go.Proofs.YtobbliglnjgbaaaGreatDoor.Pg Go.Proofs.YtobbliglnjgbaaaGreatDoor.Le

abbrev SV := S34
def cleanV (v : SV) : SV := if v.f0 = true then v else ⟨false, ⟨#[]⟩⟩
def valsOf (l : List SV) : List SV := (l.take 10).map cleanV
def textV (v : SV) : Bytes := if v.f0 = true then 43 :: v.f1.data.toList else [45]
theorem rd_get (l : List SV) (i : Nat) (h : i < l.length) : rd_T34 l (i : Int) = l[i] := by
  unfold rd_T34
  simp [List.getD_eq_getElem?_getD, List.getElem?_eq_getElem h]
theorem vals_loop (l : List SV) (hl : l.length ≤ 1048576) : ∀ m i, i + m = min l.length 10 → ∀ k, 2 * m + 2 ≤ k → shipwrightlaw1_Vals.l0 k l ((l.take i).map cleanV) (i : Int) = some (valsOf l) := by
  intro m
  induction m with
  | zero =>
    intro i hi k hk
    obtain ⟨k, rfl⟩ : ∃ k', k = k' + 2 := ⟨k - 2, by omega⟩
    have hend : (l.take i).map cleanV = valsOf l := by
      unfold valsOf
      congr 1
      rcases Nat.lt_or_ge l.length 10 with h | h
      · rw [List.take_of_length_le (by omega), List.take_of_length_le (by omega)]
      · rw [show i = 10 by omega]
    rw [hend]
    by_cases h : (i : Int) < (l.length : Int)
    · rw [shipwrightlaw1_Vals.l0, if_pos h, show decide ((i : Int) < 10) = false by simp; omega, shipwrightlaw1_Vals.j1, if_neg (by simp)]
    · rw [shipwrightlaw1_Vals.l0, if_neg h, shipwrightlaw1_Vals.j1, if_neg (by simp)]
  | succ m ih =>
    intro i hi k hk
    obtain ⟨k, rfl⟩ : ∃ k', k = k' + 2 := ⟨k - 2, by omega⟩
    have hlt : i < l.length := by omega
    have h10 : i < 10 := by omega
    have ih1 := ih (i + 1) (by omega) k (by omega)
    have hcl : ((l.take i).map cleanV).length < 5864062014805 := by rw [List.length_map, List.length_take]; omega
    have e2 : wrap64 ((i : Int) + 1) = ((i + 1 : Nat) : Int) := by unfold wrap64; omega
    rw [List.take_succ_eq_append_getElem hlt, List.map_append, List.map_singleton] at ih1
    rw [shipwrightlaw1_Vals.l0, if_pos (by omega), show decide ((i : Int) < 10) = true by simp; omega, shipwrightlaw1_Vals.j1, if_pos rfl, if_pos (by omega), if_pos (by omega), rd_get l i hlt, e2]
    unfold cleanV at ih1
    by_cases hb : l[i].f0 = true
    · rw [if_pos hb, if_pos hcl]
      rw [if_pos hb] at ih1
      exact ih1
    · rw [if_neg hb, if_pos hcl]
      rw [if_neg hb] at ih1
      rw [Bool.not_eq_true] at hb
      rw [hb]
      exact ih1
theorem vals_f (l : List SV) (hl : l.length ≤ 1048576) (k : Nat) (hk : 40 ≤ k) : shipwrightlaw1_Vals.f k l = some (valsOf l) := by
  show shipwrightlaw1_Vals.l0 k l [] 0 = _
  exact vals_loop l hl (min l.length 10) 0 (by omega) k (by omega)

/-! ### mint's key and the reference's -/
def sizeV (l : List SV) : Nat := (l.map fun v => v.f1.size).sum + l.length
theorem text_le (v : SV) : (textV v).length ≤ v.f1.size + 1 := by
  unfold textV
  have := Lib.size_eq v.f1
  split
  · simp only [List.length_cons]; omega
  · simp
theorem texts_le : ∀ l : List SV, ((l.map textV).map List.length).sum ≤ sizeV l
  | [] => by simp [sizeV]
  | v :: l => by
    have ih := texts_le l
    have h1 := text_le v
    unfold sizeV at ih ⊢
    simp only [List.map_cons, List.sum_cons, List.length_cons] at ih ⊢
    omega
theorem mintPut_f (l : List Bytes) (h : (put l).length ≤ 140737488355328) : mint_Put.f (l.map mk) = some (mk (put l)) := by
  unfold mint_Put.f
  rw [map_mk_data, if_pos h]
theorem val_size_le (l : List SV) (i : Nat) (h : i < l.length) : l[i].f1.size ≤ sizeV l := by
  have key : ∀ (l : List SV) (i : Nat) (h : i < l.length), l[i].f1.size ≤ (l.map fun v => v.f1.size).sum := by
    intro l
    induction l with
    | nil => intro i h; simp at h
    | cons v r ih =>
      intro i h
      cases i with
      | zero => simp
      | succ i =>
        have := ih i (by simpa using h)
        simp only [List.getElem_cons_succ, List.map_cons, List.sum_cons]
        omega
  have := key l i h
  unfold sizeV
  omega
theorem mintVals_loop (l : List SV) (hl : sizeV l ≤ 1048576) : ∀ m i, i + m = l.length → ∀ k, m + 1 ≤ k → mint_Vals.l0 k (((l.take i).map textV).map mk) l (l.length : Int) (i : Int) = some (mk (put (l.map textV))) := by
  have hll : l.length ≤ 1048576 := by unfold sizeV at hl; omega
  have ht := texts_le l
  have hp := put_length_le (l.map textV)
  rw [List.length_map] at hp
  intro m
  induction m with
  | zero =>
    intro i hi k hk
    obtain ⟨k, rfl⟩ : ∃ k', k = k' + 1 := ⟨k - 1, by omega⟩
    obtain rfl : i = l.length := by omega
    rw [mint_Vals.l0, if_neg (by omega), List.take_length, mintPut_f _ (by omega)]
    rfl
  | succ m ih =>
    intro i hi k hk
    obtain ⟨k, rfl⟩ : ∃ k', k = k' + 1 := ⟨k - 1, by omega⟩
    have hlt : i < l.length := by omega
    have ih1 := ih (i + 1) (by omega) k (by omega)
    have hcl : (((l.take i).map textV).map mk).length < 8796093022208 := by rw [List.length_map, List.length_map, List.length_take]; omega
    have e2 : wrap64 ((i : Int) + 1) = ((i + 1 : Nat) : Int) := by unfold wrap64; omega
    have hsz := val_size_le l i hlt
    rw [List.take_succ_eq_append_getElem hlt, List.map_append, List.map_singleton, List.map_append, List.map_singleton] at ih1
    rw [mint_Vals.l0, if_pos (by omega), if_pos (by omega), if_pos (by omega), rd_get l i hlt, e2]
    by_cases hb : l[i].f0 = true
    · rw [if_pos hb, if_pos (by omega), if_pos hcl]
      rw [show textV l[i] = 43 :: l[i].f1.data.toList from if_pos hb] at ih1
      have : (⟨#[43]⟩ : ByteArray) ++ l[i].f1 = mk (43 :: l[i].f1.data.toList) := by
        apply data_inj
        rw [data_append, mk_data]
        rfl
      rw [this]
      exact ih1
    · rw [if_neg hb, if_pos hcl]
      rw [show textV l[i] = [45] from if_neg hb] at ih1
      exact ih1
theorem mintVals_f (l : List SV) (hl : sizeV l ≤ 1048576) (k : Nat) (hk : l.length + 1 ≤ k) : mint_Vals.f k l = some (mk (put (l.map textV))) := by
  show mint_Vals.l0 k [] l (l.length : Int) 0 = _
  exact mintVals_loop l hl l.length 0 (by omega) k hk

theorem number_mono (n : Nat) (h : n ≤ 9223372036854775807) (k : Nat) (hk : 20 ≤ k) : shipwrightref1_Number.f k (n : Int) = some (mk (number (n : Int))) := by
  induction k with
  | zero => omega
  | succ k ih =>
    rcases Nat.lt_or_ge k 20 with h1 | h1
    · rw [show k + 1 = 20 by omega]; exact refNumber20 n h
    · exact shipwrightref1_Number.mono (n : Int) k _ (ih h1)
theorem refPut_loop (l : List Bytes) (hl : (put l).length ≤ 100000000) : ∀ m i, i + m = l.length → ∀ k, m + 21 ≤ k → shipwrightref1_Put.l0 k (l.map mk) (mk (put (l.take i))) (i : Int) = some (mk (put l)) := by
  have hle : ∀ i, (put (l.take i)).length ≤ (put l).length := fun i => put_take_le l i
  have hln := Nat.le_trans (put_ge l) hl
  intro m
  induction m with
  | zero =>
    intro i hi k hk
    obtain ⟨k, rfl⟩ : ∃ k', k = k' + 1 := ⟨k - 1, by omega⟩
    obtain rfl : i = l.length := by omega
    rw [shipwrightref1_Put.l0, List.length_map, if_neg (by omega), List.take_length]
  | succ m ih =>
    intro i hi k hk
    obtain ⟨k, rfl⟩ : ∃ k', k = k' + 1 := ⟨k - 1, by omega⟩
    have hlt : i < l.length := by omega
    have ih1 := ih (i + 1) (by omega) k (by omega)
    have h1 := hle (i + 1)
    rw [put_take l i hlt] at ih1 h1
    have e2 : wrap64 ((i : Int) + 1) = ((i + 1 : Nat) : Int) := by unfold wrap64; omega
    have hlen : (number ((l[i].length : Nat) : Int)).length + 1 + l[i].length ≤ 100000000 := by
      simp only [List.length_append, List.length_singleton] at h1
      omega
    rw [shipwrightref1_Put.l0, List.length_map, if_pos (by omega), if_pos (by omega), rdOf_mk _ _ hlt, mk_size, number_mono _ (by omega) k (by omega), e2]
    simp only [Option.bind_some]
    have h58 : (⟨#[58]⟩ : ByteArray) = mk [58] := rfl
    rw [mk_size, if_pos (by omega), h58, mk_append, mk_size, mk_append, if_pos (by simp only [List.length_append, List.length_singleton]; omega), mk_size, mk_size, if_pos (by simp only [List.length_append, List.length_singleton] at h1 ⊢; omega), mk_append]
    exact ih1
theorem refPut_f (l : List Bytes) (hl : (put l).length ≤ 100000000) (k : Nat) (hk : l.length + 21 ≤ k) : shipwrightref1_Put.f k (l.map mk) = some (mk (put l)) := by
  show shipwrightref1_Put.l0 k (l.map mk) (⟨#[]⟩ : ByteArray) 0 = _
  exact refPut_loop l hl l.length 0 (by omega) k hk
theorem refVals_loop (l : List SV) (hl : sizeV l ≤ 1048576) : ∀ m i, i + m = l.length → ∀ k, m + l.length + 22 ≤ k → shipwrightref1_Vals.l0 k l (((l.take i).map textV).map mk) (i : Int) = some (mk (put (l.map textV))) := by
  have hll : l.length ≤ 1048576 := by unfold sizeV at hl; omega
  have ht := texts_le l
  have hp := put_length_le (l.map textV)
  rw [List.length_map] at hp
  intro m
  induction m with
  | zero =>
    intro i hi k hk
    obtain ⟨k, rfl⟩ : ∃ k', k = k' + 1 := ⟨k - 1, by omega⟩
    obtain rfl : i = l.length := by omega
    rw [shipwrightref1_Vals.l0, if_neg (by omega), List.take_length, refPut_f _ (by omega) k (by rw [List.length_map]; omega)]
    rfl
  | succ m ih =>
    intro i hi k hk
    obtain ⟨k, rfl⟩ : ∃ k', k = k' + 1 := ⟨k - 1, by omega⟩
    have hlt : i < l.length := by omega
    have ih1 := ih (i + 1) (by omega) k (by omega)
    have hcl : (((l.take i).map textV).map mk).length < 8796093022208 := by rw [List.length_map, List.length_map, List.length_take]; omega
    have e2 : wrap64 ((i : Int) + 1) = ((i + 1 : Nat) : Int) := by unfold wrap64; omega
    have hsz := val_size_le l i hlt
    rw [List.take_succ_eq_append_getElem hlt, List.map_append, List.map_singleton, List.map_append, List.map_singleton] at ih1
    rw [shipwrightref1_Vals.l0, if_pos (by omega), if_pos (by omega), rd_get l i hlt, e2]
    by_cases hb : l[i].f0 = true
    · rw [if_pos hb, if_pos (by omega), if_pos hcl]
      rw [show textV l[i] = 43 :: l[i].f1.data.toList from if_pos hb] at ih1
      have : (⟨#[43]⟩ : ByteArray) ++ l[i].f1 = mk (43 :: l[i].f1.data.toList) := by
        apply data_inj
        rw [data_append, mk_data]
        rfl
      rw [this]
      exact ih1
    · rw [if_neg hb, if_pos hcl]
      rw [show textV l[i] = [45] from if_neg hb] at ih1
      exact ih1
theorem refVals_f (l : List SV) (hl : sizeV l ≤ 1048576) (k : Nat) (hk : 2 * l.length + 22 ≤ k) : shipwrightref1_Vals.f k l = some (mk (put (l.map textV))) := by
  show shipwrightref1_Vals.l0 k l [] 0 = _
  exact refVals_loop l hl l.length 0 (by omega) k (by omega)

/-! ### the law -/
def clean (v : SV) : Prop := v.f0 = false → v.f1 = ⟨#[]⟩
theorem valsOf_clean (l : List SV) : ∀ v ∈ valsOf l, clean v := by
  intro v hv
  obtain ⟨u, _, rfl⟩ := List.mem_map.1 hv
  unfold cleanV clean
  split
  · rename_i h; intro h2; rw [h] at h2; cases h2
  · intro _; rfl
theorem text_inj {u v : SV} (hu : clean u) (hv : clean v) (h : textV u = textV v) : u = v := by
  obtain ⟨a, b⟩ := u
  obtain ⟨c, d⟩ := v
  unfold textV at h
  cases a <;> cases c <;> simp only [Bool.false_eq_true, if_false, if_true, List.cons.injEq] at h
  · rw [show b = ⟨#[]⟩ from hu rfl, show d = ⟨#[]⟩ from hv rfl]
  · exact absurd h.1 (by decide)
  · exact absurd h.1 (by decide)
  · rw [data_inj h.2]
theorem texts_inj : ∀ (l m : List SV), (∀ v ∈ l, clean v) → (∀ v ∈ m, clean v) → l.map textV = m.map textV → l = m
  | [], [], _, _, _ => rfl
  | [], _ :: _, _, _, h => by simp at h
  | _ :: _, [], _, _, h => by simp at h
  | u :: l, v :: m, h1, h2, h => by
    simp only [List.map_cons, List.cons.injEq] at h
    rw [text_inj (h1 u List.mem_cons_self) (h2 v List.mem_cons_self) h.1, texts_inj l m (fun x hx => h1 x (List.mem_cons_of_mem _ hx)) (fun x hx => h2 x (List.mem_cons_of_mem _ hx)) h.2]
def eqV (u v : SV) : Bool := u.f0 == v.f0 && u.f1.toList == v.f1.toList
theorem eqV_iff (u v : SV) : eqV u v = true ↔ u = v := by
  obtain ⟨a, b⟩ := u
  obtain ⟨c, d⟩ := v
  unfold eqV
  simp only [Bool.and_eq_true, beq_iff_eq, toList_eq]
  constructor
  · rintro ⟨rfl, h⟩; rw [data_inj h]
  · intro h; cases h; exact ⟨rfl, rfl⟩

theorem law_loop (a b : List SV) (ha : sizeV a ≤ 1048576) (hb : sizeV b ≤ 1048576) (ca : ∀ v ∈ a, clean v) (cb : ∀ v ∈ b, clean v) (hal : a.length ≤ 10) (hbl : b.length ≤ 10) :
    ∀ m i, i + m = a.length → ∀ s : Bool, (s = true → a.length = b.length ∧ ∀ j (h1 : j < a.length) (h2 : j < b.length), j < i → a[j] = b[j]) → (s = false → a ≠ b) →
    ∀ k, m + 60 ≤ k → shipwrightlaw1_MintVals.l0 k a b s (i : Int) = some true := by
  have fin : ∀ s : Bool, (s = true ↔ a = b) → ∀ k, 58 ≤ k → shipwrightlaw1_MintVals.j1 k a b s = some true := by
    intro s hs k hk
    obtain ⟨k, rfl⟩ : ∃ k', k = k' + 1 := ⟨k - 1, by omega⟩
    rw [shipwrightlaw1_MintVals.j1, mintVals_f a ha k (by omega), refVals_f a ha k (by omega), mintVals_f b hb k (by omega)]
    simp only [Option.bind_some, if_true, mk_toList]
    congr 1
    rw [beq_iff_eq, Bool.eq_iff_iff, beq_iff_eq, put_inj_iff, hs]
    exact ⟨texts_inj a b ca cb, fun h => by rw [h]⟩
  intro m
  induction m with
  | zero =>
    intro i hi s h1 h2 k hk
    obtain ⟨k, rfl⟩ : ∃ k', k = k' + 1 := ⟨k - 1, by omega⟩
    have hs : s = true ↔ a = b := by
      cases s with
      | true =>
        obtain ⟨h3, h4⟩ := h1 rfl
        exact ⟨fun _ => List.ext_getElem h3 fun j hj1 hj2 => h4 j hj1 hj2 (by omega), fun _ => rfl⟩
      | false => exact ⟨fun h => (by cases h), fun h => absurd h (h2 rfl)⟩
    rw [shipwrightlaw1_MintVals.l0, if_neg (show ¬ (i : Int) < (a.length : Int) by omega)]
    have := fin s hs k (by omega)
    split <;> exact this
  | succ m ih =>
    intro i hi s h1 h2 k hk
    obtain ⟨k, rfl⟩ : ∃ k', k = k' + 1 := ⟨k - 1, by omega⟩
    cases s with
    | false =>
      rw [shipwrightlaw1_MintVals.l0, if_neg (by simp)]
      exact fin false ⟨fun h => (by cases h), fun h => absurd h (h2 rfl)⟩ k (by omega)
    | true =>
      obtain ⟨h3, h4⟩ := h1 rfl
      have e2 : wrap64 ((i : Int) + 1) = ((i + 1 : Nat) : Int) := by unfold wrap64; omega
      have hia : i < a.length := by omega
      have hib : i < b.length := by omega
      rw [shipwrightlaw1_MintVals.l0, if_pos rfl, if_pos (show (i : Int) < (a.length : Int) by omega), if_pos (show (0 : Int) ≤ (i : Int) by omega), if_pos (show (i : Int) < (b.length : Int) by omega), rd_get a i hia, rd_get b i hib, e2]
      refine ih (i + 1) (by omega) (eqV a[i] b[i]) (fun he => ⟨h3, fun j hj1 hj2 hj3 => ?_⟩) (fun he h => ?_) k (by omega)
      · rcases Nat.lt_or_ge j i with h | h
        · exact h4 j hj1 hj2 h
        · obtain rfl : j = i := by omega
          exact (eqV_iff _ _).1 he
      · subst h
        rw [(eqV_iff _ _).2 rfl] at he
        cases he
theorem sum_take_le' (f : SV → Nat) : ∀ (l : List SV) (n : Nat), ((l.take n).map f).sum ≤ (l.map f).sum
  | [], n => by simp
  | v :: l, 0 => by simp
  | v :: l, n + 1 => by
    have := sum_take_le' f l n
    simp only [List.take_succ_cons, List.map_cons, List.sum_cons]
    omega
theorem sizeV_vals (l : List SV) : sizeV (valsOf l) ≤ sizeV l := by
  unfold sizeV valsOf
  rw [List.map_map, List.length_map, List.length_take]
  have h1 := sum_take_le' (fun v => v.f1.size) l 10
  have h2 : ((l.take 10).map ((fun v : SV => v.f1.size) ∘ cleanV)).sum ≤ ((l.take 10).map fun v => v.f1.size).sum := by
    induction l.take 10 with
    | nil => simp
    | cons v r ih =>
      have : (cleanV v).f1.size ≤ v.f1.size := by
        unfold cleanV
        split
        · exact Nat.le_refl _
        · exact Nat.zero_le _
      simp only [List.map_cons, List.sum_cons, Function.comp_apply] at ih ⊢
      omega
  omega
theorem pure_MintVals (l m : List SV) (hl : sizeV l ≤ 1048576) (hm : sizeV m ≤ 1048576) : ∃ k, shipwrightlaw1_MintVals.f k l m = some true := by
  refine ⟨100, ?_⟩
  have hll : l.length ≤ 1048576 := by unfold sizeV at hl; omega
  have hml : m.length ≤ 1048576 := by unfold sizeV at hm; omega
  have h1 : (valsOf l).length ≤ 10 := by unfold valsOf; rw [List.length_map]; exact List.length_take_le _ _
  have h2 : (valsOf m).length ≤ 10 := by unfold valsOf; rw [List.length_map]; exact List.length_take_le _ _
  show (shipwrightlaw1_begun.f).bind _ = _
  rw [show shipwrightlaw1_begun.f = some true from rfl]
  simp only [Option.bind_some, if_true]
  rw [vals_f l hll 100 (by omega), vals_f m hml 100 (by omega)]
  simp only [Option.bind_some]
  have hlen : (((valsOf l).length : Int) == ((valsOf m).length : Int)) = true → (valsOf l).length = (valsOf m).length := fun h => by
    rw [beq_iff_eq] at h
    omega
  refine law_loop (valsOf l) (valsOf m) (Nat.le_trans (sizeV_vals l) hl) (Nat.le_trans (sizeV_vals m) hm) (valsOf_clean l) (valsOf_clean m) h1 h2 (valsOf l).length 0 (by omega) _ (fun h => ⟨hlen h, fun j _ _ hj => (by omega)⟩) (fun h he => ?_) 100 (by omega)
  rw [he] at h
  simp at h

end Go.Proofs.YtobbliglnjgbaaaGreatDoor.X
