/-
  MintTurn, walked by hand: a key of which a byte was turned, or a part is missing.
-/
import Derived.Test.YtobbliglnjgbaaaGreatDoorNum
import Derived.Test.YtobbliglnjgbaaaGreatDoorPlain
import Derived.Test.YtobbliglnjgbaaaGreatDoorLg
import Derived.Test.YtobbliglnjgbaaaGreatDoorNone
namespace Go.Proofs.YtobbliglnjgbaaaGreatDoor.X
open Go.RowKit Go.Shelf Go.Proofs.YtobbliglnjgbaaaGreatDoorW.PrintWords Go.Proofs.YtobbliglnjgbaaaGreatDoor.Pb Go.Proofs.YtobbliglnjgbaaaGreatDoor.Pc Go.Proofs.YtobbliglnjgbaaaGreatDoor.Pg Go.Proofs.YtobbliglnjgbaaaGreatDoor.Lg

/-- The parts of a key. -/
def getS : Nat → Bytes → Option (List Bytes)
  | 0, _ => none
  | k + 1, s => if s = [] then some [] else match s.dropWhile (· != 58) with
    | [] => none
    | _ :: rest => match num (s.takeWhile (· != 58)) rest.length with
      | none => none
      | some n => (getS k (rest.drop n)).map (rest.take n :: ·)
theorem split58 : ∀ s : Bytes, (∀ c ∈ s, c ≠ 58) ∨ ∃ h rest, s = h ++ 58 :: rest ∧ ∀ c ∈ h, c ≠ 58
  | [] => .inl (fun c h => by cases h)
  | c :: r => by
    by_cases hc : c = 58
    · subst hc
      exact .inr ⟨[], r, rfl, fun c h => by cases h⟩
    · rcases split58 r with h | ⟨h, rest, rfl, hh⟩
      · exact .inl (fun x hx => by rcases List.mem_cons.1 hx with rfl | hx; exact hc; exact h x hx)
      · exact .inr ⟨c :: h, rest, rfl, fun x hx => by rcases List.mem_cons.1 hx with rfl | hx; exact hc; exact hh x hx⟩
theorem while_none {s : Bytes} (h : ∀ c ∈ s, c ≠ 58) : s.dropWhile (· != 58) = [] := by
  induction s with
  | nil => rfl
  | cons c r ih =>
    rw [List.dropWhile_cons_of_pos (by simpa using h c List.mem_cons_self)]
    exact ih (fun x hx => h x (List.mem_cons_of_mem _ hx))
theorem while_some {h rest : Bytes} (hh : ∀ c ∈ h, c ≠ 58) : (h ++ 58 :: rest).dropWhile (· != 58) = 58 :: rest ∧ (h ++ 58 :: rest).takeWhile (· != 58) = h := by
  induction h with
  | nil => exact ⟨rfl, rfl⟩
  | cons c r ih =>
    have hc := hh c List.mem_cons_self
    obtain ⟨i1, i2⟩ := ih (fun x hx => hh x (List.mem_cons_of_mem _ hx))
    rw [List.cons_append, List.dropWhile_cons_of_pos (by simpa using hc), List.takeWhile_cons_of_pos (by simpa using hc), i1, i2]
    exact ⟨rfl, rfl⟩
theorem getS_none {s : Bytes} (h0 : s ≠ []) (h : ∀ c ∈ s, c ≠ 58) (k : Nat) : getS (k + 1) s = none := by
  unfold getS
  rw [if_neg h0, while_none h]
theorem getS_some {h rest : Bytes} (hh : ∀ c ∈ h, c ≠ 58) (k : Nat) : getS (k + 1) (h ++ 58 :: rest) = match num h rest.length with | none => none | some n => (getS k (rest.drop n)).map (rest.take n :: ·) := by
  conv => lhs; unfold getS
  rw [if_neg (by simp), (while_some hh).1, (while_some hh).2]
theorem getS_nil (k : Nat) : getS (k + 1) [] = some [] := by
  unfold getS
  rw [if_pos rfl]
theorem getS_put : ∀ (k : Nat) (s : Bytes) (l : List Bytes), getS k s = some l → put l = s
  | 0, s, l, h => by cases h
  | k + 1, s, l, h => by
    by_cases h0 : s = []
    · subst h0
      rw [getS_nil] at h
      obtain rfl := Option.some.inj h
      rfl
    · rcases split58 s with hn | ⟨hd, rest, rfl, hh⟩
      · rw [getS_none h0 hn] at h
        cases h
      · rw [getS_some hh] at h
        cases hn : num hd rest.length with
        | none => rw [hn] at h; cases h
        | some n =>
          rw [hn] at h
          simp only at h
          obtain ⟨q, hq, rfl⟩ := Option.map_eq_some_iff.1 h
          have ih := getS_put k _ q hq
          obtain ⟨rfl, h2⟩ := num_some hn
          rw [put_cons, ih, List.take_append_drop, List.length_take, Nat.min_eq_left h2]
theorem getS_fuel : ∀ (k k' : Nat) (s : Bytes), s.length < k → s.length < k' → getS k s = getS k' s
  | 0, _, s, h, _ => absurd h (Nat.not_lt_zero _)
  | _, 0, s, _, h => absurd h (Nat.not_lt_zero _)
  | k + 1, k' + 1, s, h, h' => by
    by_cases h0 : s = []
    · subst h0
      rw [getS_nil, getS_nil]
    · rcases split58 s with hn | ⟨hd, rest, rfl, hh⟩
      · rw [getS_none h0 hn, getS_none h0 hn]
      · have hl : (hd ++ 58 :: rest).length = hd.length + rest.length + 1 := by simp; omega
        rw [hl] at h h'
        rw [getS_some hh, getS_some hh]
        cases num hd rest.length with
        | none => rfl
        | some n =>
          simp only
          rw [getS_fuel k k' (rest.drop n) (by rw [List.length_drop]; omega) (by rw [List.length_drop]; omega)]

def getR (acc : List ByteArray) : Option (List Bytes) → List ByteArray × Bool
  | some l => (acc ++ l.map mk, true)
  | none => ([], false)
theorem getR_none (acc : List ByteArray) : getR acc none = ([], false) := rfl
theorem getR_some (acc : List ByteArray) (l : List Bytes) : getR acc (some l) = (acc ++ l.map mk, true) := rfl
theorem getR_map (acc : List ByteArray) (x : Bytes) (o : Option (List Bytes)) : getR acc (o.map (x :: ·)) = getR (acc ++ [mk x]) o := by
  cases o <;> simp [getR]
theorem indexByte_none : ∀ s : Bytes, (∀ c ∈ s, c ≠ 58) → Lib.indexByte s 58 = -1
  | [], _ => rfl
  | c :: r, h => by
    have e1 : (c == 58) = false := by simpa using h c List.mem_cons_self
    unfold Lib.indexByte
    rw [e1, indexByte_none r (fun x hx => h x (List.mem_cons_of_mem _ hx))]
    rfl
theorem indexByte_some : ∀ h rest : Bytes, (∀ c ∈ h, c ≠ 58) → Lib.indexByte (h ++ 58 :: rest) 58 = (h.length : Int)
  | [], _, _ => rfl
  | c :: r, rest, h => by
    have e1 : (c == 58) = false := by simpa using h c List.mem_cons_self
    rw [List.cons_append]
    unfold Lib.indexByte
    rw [e1, indexByte_some r rest (fun x hx => h x (List.mem_cons_of_mem _ hx))]
    have e3 : ((r.length : Int) == -1) = false := beq_eq_false_iff_ne.2 (by omega)
    rw [e3, List.length_cons]
    simp
theorem cut_none {s : Bytes} (h : ∀ c ∈ s, c ≠ 58) : Lib.cut s [58] = (s, [], false) := by
  unfold Lib.cut
  rw [Lib.index_one, indexByte_none s h, if_neg (by omega)]
theorem cut_some {h rest : Bytes} (hh : ∀ c ∈ h, c ≠ 58) : Lib.cut (h ++ 58 :: rest) [58] = (h, rest, true) := by
  unfold Lib.cut
  rw [Lib.index_one, indexByte_some h rest hh, if_pos (by omega), Int.toNat_natCast]
  simp only [List.length_cons, List.length_nil, Nat.zero_add, Prod.mk.injEq, and_true]
  refine ⟨List.take_left' rfl, ?_⟩
  rw [show h ++ 58 :: rest = (h ++ [58]) ++ rest by simp, List.drop_left' (by simp)]
theorem extract_take (t : Bytes) (p : Nat) : (mk t).extract 0 p = mk (t.take p) := by
  apply data_inj
  rw [mk_data]
  simp [ByteArray.data_extract, mk]
theorem extract_drop (t : Bytes) (p : Nat) : (mk t).extract p t.length = mk (t.drop p) := by
  apply data_inj
  rw [mk_data]
  simp [ByteArray.data_extract, mk]
  rw [List.take_of_length_le (by simp)]
theorem mintGet_loop : ∀ (k : Nat) (s : Bytes) (acc : List ByteArray), s.length < k → s.length ≤ 100000 → acc.length + s.length ≤ 1000000 → mint_Get.l0 k (mk s) acc = some (getR acc (getS k s))
  | 0, s, acc, h, _, _ => absurd h (Nat.not_lt_zero _)
  | k + 1, s, acc, hk, hs, ha => by
    simp only [mint_Get.l0]
    rw [mk_toList]
    by_cases h0 : s = []
    · subst h0
      rw [if_pos rfl, getS_nil]
      simp [getR]
    · rw [if_neg h0]
      have hcut : strings_Cut.f (mk s) ⟨#[58]⟩ = some (mk (Lib.cut s [58]).1, mk (Lib.cut s [58]).2.1, (Lib.cut s [58]).2.2) := by
        unfold strings_Cut.f
        rw [mk_size, if_pos (by omega), mk_data]
      rw [hcut]
      simp only [Option.bind_some]
      rcases split58 s with hn | ⟨hd, rest, rfl, hh⟩
      · rw [cut_none hn, getS_none h0 hn]
        simp only
        unfold mint_GetNumber.f
        rw [mk_size, if_pos (by omega)]
        simp [getR]
      · have hl : (hd ++ 58 :: rest).length = hd.length + rest.length + 1 := by simp; omega
        rw [hl] at hk hs ha
        rw [cut_some hh, getS_some hh]
        simp only
        unfold mint_GetNumber.f
        rw [mk_size, mk_size, if_pos (by omega), mk_data, getNumber_num _ _ (by omega)]
        unfold numR
        cases hn : num hd rest.length with
        | none => simp [getR]
        | some n =>
          obtain ⟨h1, h2⟩ := num_some hn
          simp only [Option.bind_some, if_true]
          rw [if_pos (by omega), if_pos (by omega), if_pos (by omega), Int.toNat_natCast, extract_take, extract_drop, mintGet_loop k (rest.drop n) _ (by rw [List.length_drop]; omega) (by rw [List.length_drop]; omega) (by rw [List.length_drop, List.length_append]; simp; omega), getR_map]
theorem lift0 {K k : Nat} {x : ByteArray} {acc : List ByteArray} {r : List ByteArray × Bool} (hk : K ≤ k) (h : shipwrightref1_Get.l0 K x acc = some r) : shipwrightref1_Get.l0 k x acc = some r :=
  at_rounds (g := fun k => shipwrightref1_Get.l0 k x acc) (fun k => (shipwrightref1_Get.mono_l k).1 x acc) hk h
theorem num_more {l : Bytes} {a b : Nat} (h : b ≤ a) : num l b = match num l a with | some n => if n ≤ b then some n else none | none => none := by
  cases hn : num l a with
  | some n =>
    obtain ⟨rfl, h1⟩ := num_some hn
    simp only
    by_cases hb : n ≤ b
    · rw [num_dec n b hb, if_pos hb]
    · rw [if_neg hb]
      unfold num
      rw [digVal_digits, if_neg (fun h => hb h.2)]
  | none =>
    simp only
    unfold num
    rw [if_neg]
    rintro ⟨h1, h2⟩
    exact num_none hn _ (by omega) h1
theorem refNum (l : Bytes) (most : Nat) (hl : l.length ≤ 100000) (hm : most ≤ 100000) (k : Nat) (hk : l.length < k) : shipwrightref1_GetNumber.f k (mk l) (most : Int) = some (numR l most) := by
  have := refGetNumber (mk l) most (by omega) (by rw [mk_data]; omega) k (by rw [mk_data]; omega)
  rwa [mk_data] at this
theorem bt_mk (s : Bytes) (i : Nat) (h : i < s.length) : bt (mk s) (i : Int) = (s[i].toNat : Int) := by
  have := bt_list (mk s) i (by rw [mk_data]; exact h)
  simpa only [mk_data] using this
/-- To the place of the first ':'. -/
theorem ref_walk (s : Bytes) (acc : List ByteArray) (hs : s.length ≤ 100000) (r : List ByteArray × Bool) (p : Nat) (hp : p ≤ s.length) (hne : ∀ j (h : j < s.length), j < p → s[j] ≠ 58) (K : Nat) (hK : shipwrightref1_Get.l1 K (mk s) acc p = some r) :
    ∀ d i : Nat, p - i = d → i ≤ p → shipwrightref1_Get.l1 (K + d) (mk s) acc i = some r := by
  intro d
  induction d with
  | zero =>
    intro i hd hi
    obtain rfl : i = p := by omega
    exact hK
  | succ d ih =>
    intro i hd hi
    have h2 := ih (i + 1) (by omega) (by omega)
    have hlt : i < s.length := by omega
    have hb := bt_mk s i hlt
    have hn := hne i hlt (by omega)
    rw [show K + (d + 1) = (K + d) + 1 by omega]
    simp only [shipwrightref1_Get.l1]
    rw [mk_size, if_pos (by omega), if_pos (by omega), hb, if_neg (by
      intro h
      apply hn
      rw [← UInt8.toNat_inj]
      show s[i].toNat = 58
      omega), show wrap64 ((i : Int) + 1) = ((i + 1 : Nat) : Int) by rw [w64 (by omega) (by omega)]; omega]
    exact h2
theorem refGet_loop : ∀ (n : Nat) (s : Bytes) (acc : List ByteArray), s.length = n → s.length ≤ 100000 → acc.length + s.length ≤ 1000000 → ∃ K, shipwrightref1_Get.l0 K (mk s) acc = some (getR acc (getS (s.length + 1) s)) := by
  intro n
  induction n using Nat.strongRecOn with
  | _ n ih =>
    intro s acc hn hs ha
    by_cases h0 : s = []
    · refine ⟨1, ?_⟩
      subst h0
      simp only [shipwrightref1_Get.l0]
      rw [mk_toList, if_pos rfl, getS_nil]
      simp [getR]
    · have enter : ∀ K r, shipwrightref1_Get.l1 K (mk s) acc (0 : Nat) = some r → ∃ K, shipwrightref1_Get.l0 K (mk s) acc = some r := fun K r h => ⟨K + 1, by
        simp only [shipwrightref1_Get.l0]
        rw [mk_toList, if_neg h0]
        exact h⟩
      rcases split58 s with hn | ⟨hd, rest, he, hh⟩
      · rw [getS_none h0 hn]
        have hend : shipwrightref1_Get.l1 (s.length + 2) (mk s) acc (s.length : Nat) = some (getR acc none) := by
          simp only [shipwrightref1_Get.l1]
          rw [mk_size, if_neg (by omega), if_pos (by omega), Int.toNat_natCast, extract_take, List.take_length, refNum s s.length hs hs _ (by omega)]
          unfold numR
          cases num s s.length with
          | none => simp [getR]
          | some n =>
            simp only [Option.bind_some, if_true]
            simp [getR]
        exact enter _ _ (ref_walk s acc hs _ s.length (Nat.le_refl _) (fun j h _ => hn _ (List.getElem_mem h)) _ hend _ 0 rfl (Nat.zero_le _))
      · have hl : s.length = hd.length + rest.length + 1 := by rw [he]; simp; omega
        have hgs : getS (s.length + 1) s = match num hd rest.length with | none => none | some n => (getS s.length (rest.drop n)).map (rest.take n :: ·) := by
          conv => lhs; arg 2; rw [he]
          exact getS_some hh _
        rw [hgs]
        have htk : s.take hd.length = hd := by rw [he]; exact List.take_left' rfl
        have hdrop : s.drop (hd.length + 1) = rest := by
          rw [he, show hd ++ 58 :: rest = (hd ++ [58]) ++ rest by simp, List.drop_left' (by simp)]
        have hlt : hd.length < s.length := by omega
        have hget : s[hd.length] = 58 := by
          have : s[hd.length]? = some 58 := by rw [he]; simp
          rw [List.getElem?_eq_getElem hlt] at this
          exact Option.some.inj this
        have hnej : ∀ j (h : j < s.length), j < hd.length → s[j] ≠ 58 := by
          intro j h hj
          have e : s[j] = hd[j] := by
            have : s[j]? = hd[j]? := by rw [he, List.getElem?_append_left hj]
            rw [List.getElem?_eq_getElem h, List.getElem?_eq_getElem hj] at this
            exact Option.some.inj this
          rw [e]
          exact hh _ (List.getElem_mem hj)
        have hb := bt_mk s hd.length hlt
        rw [hget] at hb
        replace hb : bt (mk s) (hd.length : Int) = 58 := hb
        obtain ⟨p, hp⟩ : ∃ p, p = hd.length := ⟨_, rfl⟩
        rw [← hp] at hl htk hdrop hlt hnej hb
        have hpl : hd.length ≤ 100000 := by omega
        clear hget hgs
        rw [num_more (a := s.length) (b := rest.length) (by omega)]
        have back : ∀ K r, shipwrightref1_Get.l1 K (mk s) acc (p : Nat) = some r → ∃ K, shipwrightref1_Get.l0 K (mk s) acc = some r := fun K r h =>
          enter _ _ (ref_walk s acc hs r p (by omega) hnej K h _ 0 rfl (Nat.zero_le _))
        have W1 : Hid (wrap64 (wrap64 ((s.length : Int) - (p : Int)) - 1) = (rest.length : Int)) := by
          show wrap64 (wrap64 ((s.length : Int) - (p : Int)) - 1) = (rest.length : Int)
          rw [w64 (x := (s.length : Int) - (p : Int)) (by omega) (by omega), w64 (by omega) (by omega)]; omega
        have step : ∀ k, s.length < k → shipwrightref1_Get.l1 (k + 1) (mk s) acc (p : Nat) = (some (numR hd s.length)).bind fun bt101 => (if bt101.2 = true then (if ((p : Nat) : Int) = (s.length : Int) then (some (([] : List ByteArray), false)) else (if (wrap64 ((wrap64 ((s.length : Int) - ((p : Nat) : Int))) - 1)) < bt101.1 then (some (([] : List ByteArray), false)) else (if 0 ≤ (wrap64 (((p : Nat) : Int) + 1)) then (if (wrap64 (((p : Nat) : Int) + 1)) ≤ (wrap64 ((wrap64 (((p : Nat) : Int) + 1)) + bt101.1)) then (if (wrap64 ((wrap64 (((p : Nat) : Int) + 1)) + bt101.1)) ≤ (s.length : Int) then (if acc.length < 8796093022208 then (if 0 ≤ (wrap64 ((wrap64 (((p : Nat) : Int) + 1)) + bt101.1)) then (shipwrightref1_Get.l0 k ((mk s).extract ((wrap64 ((wrap64 (((p : Nat) : Int) + 1)) + bt101.1)) : Int).toNat s.length) (acc ++ [(mk s).extract ((wrap64 (((p : Nat) : Int) + 1)) : Int).toNat ((wrap64 ((wrap64 (((p : Nat) : Int) + 1)) + bt101.1)) : Int).toNat])) else (none)) else (none)) else (none)) else (none)) else (none)))) else (some (([] : List ByteArray), false))) := by
          intro k hk
          simp only [shipwrightref1_Get.l1]
          rw [mk_size, if_pos (by omega), if_pos (by omega), hb, if_pos rfl, if_pos (by omega), Int.toNat_natCast, extract_take, htk, refNum hd s.length hpl hs k (by omega)]
        cases hn : num hd s.length with
        | none =>
          refine back (s.length + 2) _ ?_
          rw [step _ (by omega)]
          unfold numR
          rw [hn]
          simp [getR]
        | some n =>
          obtain ⟨h1, h2⟩ := num_some hn
          by_cases hnr : n ≤ rest.length
          · obtain ⟨K, hK⟩ := ih (rest.drop n).length (by rw [List.length_drop]; omega) (rest.drop n) (acc ++ [mk (rest.take n)]) rfl (by rw [List.length_drop]; omega) (by rw [List.length_append, List.length_drop]; simp; omega)
            refine back (K + s.length + 2) _ ?_
            rw [step _ (by omega)]
            unfold numR
            rw [hn]
            have W2 : Hid (wrap64 ((p : Int) + 1) = ((p + 1 : Nat) : Int)) := by show wrap64 ((p : Int) + 1) = ((p + 1 : Nat) : Int); rw [w64 (by omega) (by omega)]; omega
            have W3 : Hid (wrap64 (((p + 1 : Nat) : Int) + (n : Int)) = ((p + 1 + n : Nat) : Int)) := by show wrap64 (((p + 1 : Nat) : Int) + (n : Int)) = ((p + 1 + n : Nat) : Int); rw [w64 (by omega) (by omega)]; omega
            simp only [Option.bind_some, if_true]
            rw [if_neg (by omega), W1.out, if_neg (by omega), W2.out, W3.out, if_pos (by omega), if_pos (by omega), if_pos (by omega), if_pos (by omega), if_pos (by omega), Int.toNat_natCast, Int.toNat_natCast]
            have e1 : (mk s).extract (p + 1 + n) s.length = mk (rest.drop n) := by
              rw [extract_drop, ← List.drop_drop, hdrop]
            have e2 : (mk s).extract (p + 1) (p + 1 + n) = mk (rest.take n) := by
              apply data_inj
              rw [mk_data]
              simp only [ByteArray.data_extract, mk, Array.toList_extract, List.extract_eq_take_drop]
              rw [show p + 1 + n - (p + 1) = n by omega, hdrop]
            rw [e1, e2, if_pos hnr, lift0 (by omega) hK, getS_fuel ((rest.drop n).length + 1) s.length (rest.drop n) (by omega) (by rw [List.length_drop]; omega)]
            simp only
            rw [getR_map]
          · refine back (s.length + 2) _ ?_
            rw [step _ (by omega)]
            unfold numR
            rw [hn]
            simp only [Option.bind_some, if_true]
            rw [if_neg (by omega), W1.out, if_pos (by omega), if_neg hnr]
            rfl
/-- The two tell the same of any key. -/
theorem both_get (s : Bytes) (hs : s.length ≤ 100000) : (∃ k, mint_Get.f k (mk s) = some (getR [] (getS (s.length + 1) s))) ∧ ∃ k, shipwrightref1_Get.f k (mk s) = some (getR [] (getS (s.length + 1) s)) :=
  ⟨⟨s.length + 1, mintGet_loop (s.length + 1) s [] (by omega) hs (by simp; omega)⟩, refGet_loop _ s [] rfl hs (by simp; omega)⟩

end Go.Proofs.YtobbliglnjgbaaaGreatDoor.X

namespace Go.Proofs.YtobbliglnjgbaaaGreatDoor.X
open Go.RowKit Go.Maps Go.Proofs.YtobbliglnjgbaaaGreatDoorW.PrintWords Go.Proofs.YtobbliglnjgbaaaGreatDoorW.PrintMore Go.Proofs.YtobbliglnjgbaaaGreatDoor.Pb Go.Proofs.YtobbliglnjgbaaaGreatDoor.Pc Go.Proofs.YtobbliglnjgbaaaGreatDoor.Pg Go.Proofs.YtobbliglnjgbaaaGreatDoor.Lg

theorem reads_set {w : World} {g n : Nat} {xs : List Int} (h : ReadsInt w .u8 (some ⟨g, 0, none⟩) n xs) (j : Nat) (y : Int) :
    ReadsInt (w.setCell ⟨g, j, none⟩ (.int .u8 y)) .u8 (some ⟨g, 0, none⟩) n (xs.set j y) := by
  obtain ⟨h1, h2, h3⟩ := h
  refine ⟨by rw [List.length_set]; exact h1, h2, fun hn => ⟨_, rfl, fun i hi => ?_⟩⟩
  obtain ⟨ad, he, hc⟩ := h3 hn
  cases he
  have hci := hc i hi
  rw [add_plain] at hci ⊢
  by_cases e : i = j
  · subst e
    rw [World.cell?_setCell_same w ⟨g, i, none⟩ _ hci]
    simp [List.getD_eq_getElem?_getD, h1, hi]
  · rw [List.getD_eq_getElem?_getD, List.getElem?_set_ne (Ne.symm e), ← List.getD_eq_getElem?_getD, ← hci]
    unfold World.setCell World.cell?
    simp only [Array.getElem?_modify, if_true]
    cases hb : w.heap[g]? with
    | none => rfl
    | some ob =>
      cases ob with
      | cells c e2 f => simp [Ne.symm e]
      | _ => rfl
theorem turned_string {w : World} {g : Nat} {s : ByteArray} (h : ReadsInt w .u8 (some ⟨g, 0, none⟩) s.size (bytesOf s)) (j : Nat) (y : Int) (cp : Nat) :
    ∃ t : ByteArray, t.size = s.size ∧ ∀ n, (convert 43 9 (.slice (some ⟨g, 0, none⟩) s.size cp)).run Tryz.prog ((w.setCell ⟨g, j, none⟩ (.int .u8 y)).drewN n) = .ok (.string t) ((w.setCell ⟨g, j, none⟩ (.int .u8 y)).drewN n) := by
  refine ⟨strOfNums ((bytesOf s).set j y), ?_, fun n => string_of_reads Tryz.underlying43 Tryz.underlying5 Tryz.underlying9 (ReadsInt.drewN (reads_set h j y) n)⟩
  show ((((bytesOf s).set j y).map fun n => UInt8.ofNat n.toNat).toArray).size = s.size
  rw [List.size_toArray, List.length_map, List.length_set, bytesOf_length]

set_option maxHeartbeats 4000000 in
set_option maxRecDepth 100000 in
theorem mintTurn_walk (A : Option Addr) (c : Nat) (l : List ByteArray) (at_ x : Int) (w : World) (hG : GOK w) (hr : Kd.C Kd.string w A l.length l) (hc : l.length ≤ c) (hp : (put ((l.take 6).map (·.data.toList))).length ≤ 140737488355328) :
    Calls Tryz.prog 11 #[.slice A l.length c, .int .i64 at_, .int .u8 x] w fun e w' => e = .returned (.bool true) ∧ Below w.heap.size w w' := by
  have HG := Lib.hid hG
  have HR := Lib.hid hr
  have HP : Hid ((put ((l.take 6).map (·.data.toList))).length ≤ 140737488355328) := hp
  have hlen : l.length ≤ 9223372036854775807 := hr.2.1
  clear hG hr hp
  go_enter Tryz.func11, Tryz.ntmps11
  go_wp2_with fail
  refine (shipwrightlaw1_begun.calls true w HG.out rfl).mono ?_
  rintro e w1 ⟨rfl, hb1⟩
  have HB1 := Lib.hid hb1
  clear hb1
  go_wp2_with fail
  have HRt := Lib.hid (Kd.C_take (Kd.C_below HR.out HB1.out) (show min l.length 6 ≤ l.length by omega))
  have e6 : l.take (min l.length 6) = l.take 6 := by
    rcases Nat.le_total l.length 6 with h | h
    · rw [Nat.min_eq_left h, List.take_length, List.take_of_length_le h]
    · rw [Nat.min_eq_right h]
  rw [e6] at HRt
  rw [show (min (l.length : Int) 6).toNat = (l.take 6).length by rw [List.length_take]; omega]
  have hcl : (l.take 6).length ≤ c := Nat.le_trans (List.length_take_le' _ _) hc
  clear e6 hc
  generalize l.take 6 = q at HRt HP hcl
  obtain ⟨s, hs⟩ : ∃ s, s = mk (put (q.map (·.data.toList))) := ⟨_, rfl⟩
  have HS : Hid (s.data.toList = put (q.map (·.data.toList))) := by rw [hs]; exact mk_data _
  have hsz : s.size = (put (q.map (·.data.toList))).length := by rw [hs]; exact mk_size _
  have HQ : Hid (q.length ≤ s.size) := by
    show q.length ≤ s.size
    rw [hsz]
    have := put_ge (q.map (·.data.toList))
    rwa [List.length_map] at this
  refine (mint_Put.calls A c q s w1 (HG.out.below HB1.out) HRt.out hcl (by unfold mint_Put.f; rw [if_pos HP.out, hs])).mono ?_
  rintro e w2 ⟨rfl, hb2⟩
  have HB2 := Lib.hid (below_then HB1.out HB1.out.size hb2)
  clear hb2 hs hsz hcl HRt
  by_cases h0 : s.size = 0
  · have hq0 : q.length = 0 := by have := HQ.out; omega
    have hse : s = ⟨#[]⟩ := by
      apply data_inj
      rw [Lib.size_eq] at h0
      exact List.eq_nil_of_length_eq_zero h0
    rw [hq0, hse]
    clear h0 hq0 hse HS HQ
    by_cases hat : at_ < 0
    · go_wp2
      go_ret
      exact ⟨by simp, HB2.out⟩
    · go_wp2
      go_ret
      exact ⟨by simp, HB2.out⟩
  have hz : ((s.size : Int) == 0) = false := by simp [h0]
  have hpos : decide (0 < s.size) = true := by simp; omega
  have hpos2 : 0 < s.size := by omega
  by_cases hat : at_ < 0
  · have hatd : decide (at_ < 0) = true := by simp [hat]
    go_wp2
    go_ret
    exact ⟨by simp, HB2.out⟩
  have hatd : decide (at_ < 0) = false := by simp; omega
  by_cases h5 : 500 < s.size
  · have h5d : decide (500 < (s.size : Int)) = true := by simp; omega
    go_wp2
    go_ret
    exact ⟨by simp, HB2.out⟩
  have h5d : decide (500 < (s.size : Int)) = false := by simp; omega
  have hat2 : 0 ≤ at_ := by omega
  obtain ⟨j, hj⟩ : ∃ j : Nat, at_ % (s.size : Int) = (j : Int) := ⟨(at_ % (s.size : Int)).toNat, by have := Int.emod_nonneg at_ (show (s.size : Int) ≠ 0 by omega); omega⟩
  have hjl : j < s.size := by have := Int.emod_lt_of_pos at_ (show (0 : Int) < s.size by omega); omega
  have hjz : (j : Int) < (s.size : Int) := by omega
  have ht : Int.tmod at_ (s.size : Int) = (j : Int) := by rw [Int.tmod_eq_emod_of_nonneg hat2]; exact hj
  have hS5 : s.size ≤ 9223372036854775807 := by omega
  have HSL : Hid (s.size ≤ 500) := by show s.size ≤ 500; omega
  have hconv := print_bytes (P := Tryz.prog) 9 43 5 Tryz.underlying9 Tryz.underlying43 Tryz.underlying5 s w2
  have hrd := bytes_reads w2 5 s hS5
  have HB3 := Lib.hid (bytes_below HB2.out HB2.out.size 5 s)
  have hcj := Lib.bytesWorld_cell w2 5 s j hjl
  have hfj : (Lib.bytesWorld w2 5 s).frozen? ⟨w2.heap.size, j, none⟩ = false := by
    have hb := Lib.bytesWorld_at_new w2 5 s
    have hl : j < (Lib.bytesCells w2 5 s).size := by
      unfold Lib.bytesCells
      rw [Array.size_append, Array.size_map]
      have : s.size = s.data.size := rfl
      omega
    simp [World.frozen?, hb]
    omega
  generalize hw3 : Lib.bytesWorld w2 5 s = w3 at hconv hrd HB3 hcj hfj
  generalize hcp : grownCap w2 s.size 0 5 = cp at hconv
  generalize hv : (s.data.toList.getD j 0).toNat = v at hcj
  obtain ⟨g, hg⟩ : ∃ g, g = w2.heap.size := ⟨_, rfl⟩
  rw [← hg] at hconv hrd hcj hfj
  have HGl : Hid (w.heap.size ≤ g) := by rw [hg]; exact HB2.out.size
  have HRD := Lib.hid hrd
  clear hw3 hcp hv hg hrd h0 hat h5
  go_wp2_with fail
  have HB4 : Hid (Below w.heap.size w (w3.setCell ⟨g, j, none⟩ (.int .u8 (bits BinOp.xor IntKind.u8 (v : Int) x)))) := HB3.out.setCell HGl.out _
  obtain ⟨t, ht0, hconv2⟩ := turned_string HRD.out j (bits BinOp.xor IntKind.u8 (v : Int) x) cp
  have HT0 : Hid (t.size ≤ 500) := by show t.size ≤ 500; rw [ht0]; exact HSL.out
  generalize w3.setCell ⟨g, j, none⟩ (.int .u8 (bits BinOp.xor IntKind.u8 (v : Int) x)) = w4 at HB4 hconv2 ⊢
  have hc1 : (convert 43 9 (.slice (some ⟨g, 0, none⟩) s.size cp)).run Tryz.prog w4.drew = .ok (.string t) w4.drew := hconv2 1
  clear HB3 hcj hfj hconv ht0 HRD hconv2
  go_region
  have HT1 : Hid ((s.extract 0 j).size ≤ 500) := by
    show (s.extract 0 j).size ≤ 500
    rw [ByteArray.size_extract]
    have := HSL.out
    omega
  have HT2 : Hid ((s.extract j s.size).size ≤ 500) := by
    show (s.extract j s.size).size ≤ 500
    rw [ByteArray.size_extract]
    have := HSL.out
    omega
  generalize s.extract 0 j = t1 at HT1 ⊢
  generalize s.extract j s.size = t2 at HT2 ⊢
  have hrow := lit_C Kd.string w4 9 [t, t1, t2] [.string t, .string t1, .string t2] (Kd.reps_scalar _) (by simp)
  have hrow2 := Kd.C_below hrow (Below.drew (Below.refl _ _))
  have hB5 := below_then HB4.out HB4.out.size ((Below.refl w4.heap.size w4).alloc (Nat.le_refl _) (.cells #[Value.string t, Value.string t1, Value.string t2] 9))
  have HB5 : Hid (Below w.heap.size w (w4.alloc (.cells #[Value.string t, Value.string t1, Value.string t2] 9)).drew) := Below.drew hB5
  have HROW := Lib.hid hrow2
  have HTT : Hid (∀ kk, kk < 3 → (([t, t1, t2] : List ByteArray).getD kk ByteArray.empty).size ≤ 500) := by
    intro kk hkk
    have : kk = 0 ∨ kk = 1 ∨ kk = 2 := by omega
    rcases this with rfl | rfl | rfl
    · exact HT0.out
    · exact HT1.out
    · exact HT2.out
  obtain ⟨w5, hw5⟩ : ∃ w5, w5 = (w4.alloc (.cells #[Value.string t, Value.string t1, Value.string t2] 9)).drew := ⟨_, rfl⟩
  obtain ⟨T, hT⟩ : ∃ T : List ByteArray, T = [t, t1, t2] := ⟨_, rfl⟩
  rw [← hT] at HTT
  obtain ⟨g5, hg5⟩ : ∃ g5, g5 = w4.heap.size := ⟨_, rfl⟩
  have hcell : ∀ kk, kk < 3 → w5.cell? ⟨g5, kk, none⟩ = some (.string (T.getD kk ByteArray.empty)) := by
    have h := HROW.out
    rcases row_open (l := [t, t1, t2]) h with h0 | ⟨b', o, he, _, hc⟩
    · cases h0
    · cases he
      intro kk hkk
      have := hc kk (by simpa using hkk)
      rw [Nat.zero_add] at this
      rw [hw5, hg5, hT]
      exact this
  have HCell := Lib.hid hcell
  rw [← hw5] at HB5 ⊢
  have HG5 : Hid (g5 < w5.heap.size) := by
    show g5 < w5.heap.size
    rw [hw5, hg5]
    simp
  rw [← hg5]
  clear hrow hrow2 hB5 HROW hw5 hT hg5 hcell hc1 HB4 HT0 HT1 HT2 hj ht hjl hjz
  go_wp2_with fail
  go_loopg [11, 12, 13, 14, 15, 78] 3 (fun gg _ _ _ _ _ s78 wr => ∃ kk : Nat, kk ≤ 3 ∧ 3 - kk ≤ gg ∧ s78 = .int .i64 kk ∧ Aside0 (Below w5.heap.size w5 wr))
  case atStart => exact ⟨0, by omega, by omega, rfl, ⟨Below.refl _ _⟩⟩
  case round =>
    obtain ⟨kk, hkk, hgk, rfl, HW⟩ := hrel
    by_cases hlt : kk < 3
    · have hltz : (kk : Int) < 3 := by omega
      have hx := cell_keeps HW.out (HCell.out kk hlt)
      have hty := HTT.out kk hlt
      obtain ⟨y, hy⟩ : ∃ y, y = T.getD kk ByteArray.empty := ⟨_, rfl⟩
      rw [← hy] at hx hty
      have hyd : y.data.toList.length ≤ 100000 := by rw [← Lib.size_eq]; omega
      obtain ⟨⟨k1, hm⟩, ⟨k2, hr⟩⟩ := both_get y.data.toList hyd
      rw [data_mk] at hm hr
      have HBr := Lib.hid (below_then HB5.out HB5.out.size HW.out)
      cases hgs : getS (y.data.toList.length + 1) y.data.toList with
      | none =>
        rw [hgs, getR_none] at hm hr
        have HM := Lib.hid hm
        have HRr := Lib.hid hr
        clear hm hr hgs hty hyd hy
        go_wp2_with fail
        refine (Pc.mint_Get.calls k1 y [] false wr (HG.out.below HBr.out) HM.out).mono ?_
        rintro e w6 ⟨v6, rfl, hr6, hb6⟩
        obtain ⟨A6, c6, rfl, _, _⟩ := Kd.R_reads hr6
        have HW6 := Lib.hid (below_then HW.out HW.out.size hb6)
        have HB6 := Lib.hid (below_then HBr.out HBr.out.size hb6)
        clear hr6 hb6
        go_wp2_with fail
        refine (shipwrightref1_Get.calls k2 y [] false w6 (HG.out.below HB6.out) HRr.out).mono ?_
        rintro e w7 ⟨v7, rfl, hr7, hb7⟩
        obtain ⟨A7, c7, rfl, _, _⟩ := Kd.R_reads hr7
        have HW7 := Lib.hid (below_then HW6.out HW6.out.size hb7)
        clear hr7 hb7
        go_wp2
        go_roundg (3 - (kk + 1))
        case measure => omega
        case rel => exact ⟨kk + 1, by omega, by omega, by go_num, ⟨HW7.out⟩⟩
      | some lr =>
        have hput := getS_put _ _ _ hgs
        rw [hgs, getR_some, List.nil_append] at hm hr
        have HM := Lib.hid hm
        have HRr := Lib.hid hr
        have HPf : Hid (mint_Put.f (lr.map mk) = some y) := by
          show mint_Put.f (lr.map mk) = some y
          unfold mint_Put.f
          have e1 : (lr.map mk).map (·.data.toList) = lr := by
            rw [List.map_map, show ((fun x : ByteArray => x.data.toList) ∘ mk) = id from funext mk_data, List.map_id]
          rw [e1, hput, if_pos (by omega), data_mk]
        clear hm hr hgs hty hyd hy hput
        generalize hz : lr.map mk = z at HM HRr HPf
        clear hz
        go_wp2_with fail
        refine (Pc.mint_Get.calls k1 y z true wr (HG.out.below HBr.out) HM.out).mono ?_
        rintro e w6 ⟨v6, rfl, hr6, hb6⟩
        obtain ⟨A6, c6, rfl, hc6, hrd6⟩ := Kd.R_reads hr6
        have HC6 : Hid (z.length ≤ c6) := hc6
        have HRD6 := Lib.hid hrd6
        have HW6 := Lib.hid (below_then HW.out HW.out.size hb6)
        have HB6 := Lib.hid (below_then HBr.out HBr.out.size hb6)
        clear hr6 hb6 hc6 hrd6
        go_wp2_with fail
        refine (shipwrightref1_Get.calls k2 y z true w6 (HG.out.below HB6.out) HRr.out).mono ?_
        rintro e w7 ⟨v7, rfl, hr7, hb7⟩
        obtain ⟨A7, c7, rfl, _, _⟩ := Kd.R_reads hr7
        have HW7 := Lib.hid (below_then HW6.out HW6.out.size hb7)
        have HB7 := Lib.hid (below_then HB6.out HB6.out.size hb7)
        have HRD7 := Lib.hid (Kd.C_below HRD6.out hb7)
        clear hr7 hb7
        go_wp2_with fail
        refine (mint_Put.calls A6 c6 z y w7 (HG.out.below HB7.out) HRD7.out HC6.out HPf.out).mono ?_
        rintro e w8 ⟨rfl, hb8⟩
        have HW8 := Lib.hid (below_then HW7.out HW7.out.size hb8)
        clear hb8
        go_wp2
        go_roundg (3 - (kk + 1))
        case measure => omega
        case rel => exact ⟨kk + 1, by omega, by omega, by go_num, ⟨HW8.out⟩⟩
    · have hltz : ¬ (kk : Int) < 3 := by omega
      go_wp2
      go_ret
      exact ⟨rfl, below_then HB5.out HB5.out.size HW.out⟩

def shipwrightlaw1_MintTurn.f (l : List ByteArray) (at_ x : Int) : Option Bool :=
  if (put ((l.take 6).map (·.data.toList))).length ≤ 140737488355328 ∧ (Lit.int .u8 x).wf = true ∧ (Lit.int .i64 at_).wf = true then some true else none
theorem shipwrightlaw1_MintTurn.calls (A : Option Addr) (c : Nat) (l : List ByteArray) (at_ x : Int) (r : Bool) (w : World) (hG : GOK w) (hr : Kd.C Kd.string w A l.length l) (hc : l.length ≤ c) (h : shipwrightlaw1_MintTurn.f l at_ x = some r) :
    Calls Tryz.prog 11 #[.slice A l.length c, .int .i64 at_, .int .u8 x] w fun e w' => e = .returned (.bool r) ∧ Below w.heap.size w w' := by
  unfold shipwrightlaw1_MintTurn.f at h
  split at h
  · rename_i hs
    obtain rfl := Option.some.inj h
    exact mintTurn_walk A c l at_ x w hG hr hc hs.1
  · cases h
theorem sum_take (l : List ByteArray) (n : Nat) : ((l.take n).map fun y => y.size).sum ≤ (l.map fun y => y.size).sum := by
  induction l generalizing n with
  | nil => simp
  | cons a l ih =>
    cases n with
    | zero => simp
    | succ n =>
      have := ih n
      simp only [List.take_succ_cons, List.map_cons, List.sum_cons]
      omega
theorem pure_MintTurn (l : List ByteArray) (at_ x : Int) (h0 : (l.map fun y => y.size).sum + l.length ≤ 1048576) (ha : (Lit.int .i64 at_).wf = true) (hx : (Lit.int .u8 x).wf = true) : shipwrightlaw1_MintTurn.f l at_ x = some true := by
  have h1 := put_length_le ((l.take 6).map (·.data.toList))
  have h2 := sum_take l 6
  have h3 : (((l.take 6).map (·.data.toList)).map List.length) = (l.take 6).map fun y => y.size := by
    rw [List.map_map]
    congr 1
  rw [h3, List.length_map] at h1
  have h4 : (l.take 6).length ≤ l.length := List.length_take_le' _ _
  have h5 : (put ((l.take 6).map (·.data.toList))).length ≤ 140737488355328 := by omega
  unfold shipwrightlaw1_MintTurn.f
  rw [if_pos ⟨h5, hx, ha⟩]

end Go.Proofs.YtobbliglnjgbaaaGreatDoor.X
