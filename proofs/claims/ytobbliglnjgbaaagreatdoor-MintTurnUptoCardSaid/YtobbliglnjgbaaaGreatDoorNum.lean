/-
  Numbers that are read: mint's GetNumber and the reference's tell the same: a text is a number's if it is written as numbers are.
-/
import Derived.Test.YtobbliglnjgbaaaGreatDoorMint
import Derived.Test.YtobbliglnjgbaaaGreatDoorPutInj
import Derived.Test.YtobbliglnjgbaaaGreatDoorPg
namespace Go.Proofs.YtobbliglnjgbaaaGreatDoor.X
open Go.RowKit Go.Proofs.YtobbliglnjgbaaaGreatDoorW.PrintWords Go.Proofs.YtobbliglnjgbaaaGreatDoor.Pg

theorem dec_lt {u : Nat} (h : u < 10) : Lib.decDigits u = [UInt8.ofNat (48 + u)] := by rw [Lib.decDigits, dif_pos h]
theorem dec_ge {u : Nat} (h : ¬ u < 10) : Lib.decDigits u = Lib.decDigits (u / 10) ++ [UInt8.ofNat (48 + u % 10)] := by rw [Lib.decDigits, dif_neg h]
/-- The number that a text is, if it is one and not greater than most. -/
def num (l : Bytes) (most : Nat) : Option Nat := if l = Lib.decDigits (digVal l) ∧ digVal l ≤ most then some (digVal l) else none
def numR (l : Bytes) (most : Nat) : Int × Bool := match num l most with | some n => (n, true) | none => (0, false)
theorem num_dec (n most : Nat) (h : n ≤ most) : num (Lib.decDigits n) most = some n := by
  unfold num
  rw [digVal_digits, if_pos ⟨rfl, h⟩]
theorem num_some {l : Bytes} {most n : Nat} (h : num l most = some n) : l = Lib.decDigits n ∧ n ≤ most := by
  unfold num at h
  split at h
  · rename_i hc
    obtain rfl := Option.some.inj h
    exact hc
  · cases h
theorem num_none {l : Bytes} {most : Nat} (h : num l most = none) (n : Nat) (hn : n ≤ most) : l ≠ Lib.decDigits n := by
  rintro rfl
  rw [num_dec n most hn] at h
  cases h

def digB (c : UInt8) : Bool := decide (48 ≤ c.toNat) && decide (c.toNat ≤ 57)
theorem digVal_snoc (l : Bytes) (c : UInt8) : digVal (l ++ [c]) = digVal l * 10 + (c.toNat - 48) := by
  unfold digVal
  rw [List.foldl_append]
  rfl
theorem dec_digB : ∀ u c, c ∈ Lib.decDigits u → digB c = true := by
  intro u
  induction u using Nat.strongRecOn with
  | _ u ih =>
    intro c hc
    have one : ∀ d, d < 10 → digB (UInt8.ofNat (48 + d)) = true := by decide
    rw [Lib.decDigits] at hc
    split at hc
    · rw [List.mem_singleton] at hc
      rw [hc]
      exact one u (by assumption)
    · rcases List.mem_append.1 hc with h | h
      · exact ih (u / 10) (by omega) c h
      · rw [List.mem_singleton] at h
        rw [h]
        exact one _ (by omega)
theorem fold_ge : ∀ (l : Bytes) (acc : Nat), acc ≤ l.foldl (fun a c => a * 10 + (c.toNat - 48)) acc
  | [], acc => Nat.le_refl _
  | c :: r, acc => by
    have := fold_ge r (acc * 10 + (c.toNat - 48))
    rw [List.foldl_cons]
    omega
theorem parse10 : ∀ (l : Bytes) (acc : Nat), (∀ c ∈ l, digB c = true) → l.foldl (fun a c => a * 10 + (c.toNat - 48)) acc ≤ 1000000000000000000 → Lib.parseUint10 acc l = .ok (l.foldl (fun a c => a * 10 + (c.toNat - 48)) acc)
  | [], acc, _, _ => rfl
  | c :: r, acc, ha, h => by
    have hc := ha c List.mem_cons_self
    unfold digB at hc
    simp only [Bool.and_eq_true, decide_eq_true_eq] at hc
    rw [List.foldl_cons] at h ⊢
    have h2 := fold_ge r (acc * 10 + (c.toNat - 48))
    rw [Lib.parseUint10, if_pos hc, if_neg (by omega), if_neg (by omega)]
    exact parse10 r _ (fun x hx => ha x (List.mem_cons_of_mem _ hx)) h
theorem dec_ne (u : Nat) : Lib.decDigits u ≠ [] := by
  rw [Lib.decDigits]
  split <;> simp
theorem atoi_dec (n : Nat) (h : n ≤ 1000000000000000000) : Lib.atoiAll (Lib.decDigits n) = .ok n := by
  have hv := digVal_digits n
  have hd := dec_digB n
  have hne := dec_ne n
  cases hl : Lib.decDigits n with
  | nil => exact absurd hl hne
  | cons c r =>
    rw [hl] at hv hd
    have hc := hd c List.mem_cons_self
    unfold digB at hc
    simp only [Bool.and_eq_true, decide_eq_true_eq] at hc
    rw [Lib.atoiAll_plain c r (by omega) (by omega)]
    unfold Lib.parseMag
    unfold digVal at hv
    rw [if_neg (by simp), parse10 _ _ hd (by rw [hv]; exact h), hv]
    unfold Lib.signless
    simp only
    rw [if_neg (by omega)]
theorem getNumber_num (l : Bytes) (most : Nat) (hm : most ≤ 1000000000000000000) : getNumber l most = numR l most := by
  unfold numR
  cases hn : num l most with
  | some n =>
    obtain ⟨rfl, h⟩ := num_some hn
    have hA := atoi_dec n (by omega)
    unfold getNumber
    rw [hA]
    simp only
    rw [if_neg (by omega), if_neg (by omega)]
    unfold number
    simp
  | none =>
    unfold getNumber
    split
    · rename_i v hv
      split
      · rfl
      · split
        · rfl
        · split
          · rename_i h1 h2 h3
            exfalso
            have e : number v = l := by simpa using h3
            exact num_none hn v.toNat (by omega) e.symm
          · rfl
    · rfl

/-! ### the reference's -/
theorem dec_head : ∀ u, 10 ≤ u → ∀ c r, Lib.decDigits u = c :: r → c ≠ 48 := by
  intro u
  induction u using Nat.strongRecOn with
  | _ u ih =>
    intro hu c r hc
    have one : ∀ d, d < 10 → 0 < d → UInt8.ofNat (48 + d) ≠ 48 := by decide
    rw [dec_ge (by omega)] at hc
    by_cases h1 : u / 10 < 10
    · rw [dec_lt h1] at hc
      simp only [List.cons_append, List.nil_append, List.cons.injEq] at hc
      rw [← hc.1]
      exact one _ h1 (by omega)
    · cases hd : Lib.decDigits (u / 10) with
      | nil => exact absurd hd (by rw [dec_ge h1]; simp)
      | cons d q =>
        rw [hd] at hc
        simp only [List.cons_append, List.cons.injEq] at hc
        rw [← hc.1]
        exact ih (u / 10) (by omega) (by omega) d q hd
theorem dec_long (u : Nat) (h : 1 < (Lib.decDigits u).length) : 10 ≤ u := by
  rcases Nat.lt_or_ge u 10 with h1 | h1
  · rw [dec_lt h1] at h
    simp at h
  · exact h1
/-- Written as numbers are: digits, and no nought ahead. -/
theorem dec_of_digits : ∀ (n : Nat) (l : Bytes), l.length = n → l ≠ [] → (∀ c ∈ l, digB c = true) → (1 < l.length → l.head? ≠ some 48) → l = Lib.decDigits (digVal l) := by
  intro n
  induction n with
  | zero => intro l h1 h2; exact absurd (List.eq_nil_of_length_eq_zero h1) h2
  | succ n ih =>
    intro l h1 h2 h3 h4
    have hsn := List.dropLast_concat_getLast h2
    obtain ⟨c, hc⟩ : ∃ c, c = l.getLast h2 := ⟨_, rfl⟩
    obtain ⟨q, hq⟩ : ∃ q, q = l.dropLast := ⟨_, rfl⟩
    rw [← hc, ← hq] at hsn
    subst hsn
    clear hc hq
    have hdc := h3 c (by simp)
    unfold digB at hdc
    simp only [Bool.and_eq_true, decide_eq_true_eq] at hdc
    have hcc : UInt8.ofNat (48 + (c.toNat - 48)) = c := by
      rw [show 48 + (c.toNat - 48) = c.toNat by omega]
      simp
    rw [digVal_snoc]
    by_cases he : q = []
    · subst he
      show [c] = _
      have h0 : digVal [] = 0 := rfl
      rw [h0, Nat.zero_mul, Nat.zero_add, dec_lt (by omega), hcc]
    · have hl : 0 < q.length := List.length_pos_iff.2 he
      have hh : (q ++ [c]).head? = q.head? := by
        cases q with
        | nil => exact absurd rfl he
        | cons a r => rfl
      have h48 : q.head? ≠ some 48 := by
        rw [← hh]
        exact h4 (by simp; omega)
      have iq := ih q (by simpa using h1) he (fun x hx => h3 x (by simp [hx])) (fun _ => h48)
      have hpos : digVal q ≠ 0 := by
        intro h0
        rw [h0] at iq
        rw [iq] at h48
        exact h48 (by decide +kernel)
      rw [dec_ge (by omega), show (digVal q * 10 + (c.toNat - 48)) / 10 = digVal q by omega, show (digVal q * 10 + (c.toNat - 48)) % 10 = c.toNat - 48 by omega, hcc, ← iq]

theorem w64 {x : Int} (h0 : 0 ≤ x) (h1 : x ≤ 9223372036854775807) : wrap64 x = x := by unfold wrap64; omega
theorem bt_list (s : ByteArray) (i : Nat) (h : i < s.data.toList.length) : bt s (i : Int) = ((s.data.toList[i]).toNat : Int) := by
  have h' : i < s.size := by rw [Lib.size_eq]; exact h
  have := bt_at s (i : Int) (by simpa using h')
  rw [← this]
  simp
  rfl
theorem refNumber_loop (s : ByteArray) (most : Nat) (hm : most ≤ 4611686018427387904) (hs : s.data.toList.length ≤ 4611686018427387904) : ∀ d k i, s.data.toList.length - i = d → d < k → i ≤ s.data.toList.length → (∀ c ∈ s.data.toList.take i, digB c = true) → digVal (s.data.toList.take i) ≤ 9223372036854775807 →
    shipwrightref1_GetNumber.l0 k s most (digVal (s.data.toList.take i)) i = some (numR s.data.toList most) := by
  intro d
  induction d with
  | zero =>
    intro k i hd hk hi ha hv
    obtain ⟨k, rfl⟩ : ∃ m, k = m + 1 := ⟨k - 1, by omega⟩
    have hil : i = s.data.toList.length := by omega
    subst hil
    rw [List.take_length] at ha hv ⊢
    have hsz : (s.size : Int) = (s.data.toList.length : Int) := by rw [Lib.size_eq]
    simp only [shipwrightref1_GetNumber.l0]
    rw [hsz, if_neg (by omega), toList_eq]
    unfold numR num
    by_cases h0 : s.data.toList = []
    · rw [if_pos h0, if_neg (by rw [h0]; rintro ⟨h, _⟩; exact absurd h (by decide +kernel))]
    · rw [if_neg h0]
      have hlen : 0 < s.data.toList.length := List.length_pos_iff.2 h0
      by_cases h1 : (s.data.toList.length : Int) > 1
      · rw [if_pos h1, if_pos (by omega)]
        have hb := bt_list s 0 hlen
        rw [show ((0 : Nat) : Int) = 0 from rfl] at hb
        by_cases h48 : bt s 0 = 48
        · rw [if_pos h48, if_neg]
          rintro ⟨h, _⟩
          have hlong : 10 ≤ digVal s.data.toList := dec_long _ (by rw [← h]; omega)
          obtain ⟨c, r, hcr⟩ : ∃ c r, s.data.toList = c :: r := by
            cases hx : s.data.toList with
            | nil => exact absurd hx h0
            | cons c r => exact ⟨c, r, rfl⟩
          have hc : s.data.toList[0] = c := by simp [hcr]
          refine dec_head _ hlong c r (by rw [← h]; exact hcr) ?_
          rw [hb, hc] at h48
          have : c.toNat = 48 := by omega
          rw [← UInt8.toNat_inj]
          exact this
        · rw [if_neg h48]
          have hcan := dec_of_digits _ _ rfl h0 ha (fun _ => by
            rw [List.head?_eq_getElem?, List.getElem?_eq_getElem hlen]
            intro e
            have e2 := Option.some.inj e
            rw [hb, e2] at h48
            exact h48 rfl)
          by_cases hle : digVal s.data.toList ≤ most
          · rw [if_neg (by omega), if_pos ⟨hcan, hle⟩]
          · rw [if_pos (by omega), if_neg (fun h => hle h.2)]
      · rw [if_neg h1]
        have hcan := dec_of_digits _ _ rfl h0 ha (fun h => by omega)
        by_cases hle : digVal s.data.toList ≤ most
        · rw [if_neg (by omega), if_pos ⟨hcan, hle⟩]
        · rw [if_pos (by omega), if_neg (fun h => hle h.2)]
  | succ d ih =>
    intro k i hd hk hi ha hv
    obtain ⟨k, rfl⟩ : ∃ m, k = m + 1 := ⟨k - 1, by omega⟩
    have hlt : i < s.data.toList.length := by omega
    have a1 : s.data.toList.length - (i + 1) = d := by omega
    have a2 : d < k := by omega
    have a3 : i + 1 ≤ s.data.toList.length := by omega
    have hsz : (s.size : Int) = (s.data.toList.length : Int) := by rw [Lib.size_eq]
    have hb := bt_list s i hlt
    have hts := List.take_succ_eq_append_getElem hlt
    have hmem : s.data.toList[i] ∈ s.data.toList := List.getElem_mem hlt
    obtain ⟨c, hc⟩ : ∃ c, c = s.data.toList[i] := ⟨_, rfl⟩
    rw [← hc] at hb hts hmem
    simp only [shipwrightref1_GetNumber.l0]
    rw [hsz, if_pos (by omega), if_pos (by omega), hb]
    have bad : digB c = false → numR s.data.toList most = (0, false) := by
      intro hbad
      unfold numR num
      rw [if_neg]
      rintro ⟨h, _⟩
      have := dec_digB (digVal s.data.toList) c (by rw [← h]; exact hmem)
      rw [hbad] at this
      cases this
    by_cases h1 : (c.toNat : Int) < 48
    · rw [if_pos h1, bad (by unfold digB; simp; omega)]
    · rw [if_neg h1]
      by_cases h2 : (c.toNat : Int) > 57
      · rw [if_pos h2, bad (by unfold digB; simp; omega)]
      · rw [if_neg h2]
        have e : ((c.toNat : Int) - 48) % 256 = ((c.toNat - 48 : Nat) : Int) := by omega
        rw [e]
        by_cases h3 : (digVal (s.data.toList.take i) : Int) > ((9223372036854775807 - ((c.toNat - 48 : Nat) : Int)) / 10)
        · rw [if_pos h3]
          have hbig : most < digVal (s.data.toList.take (i + 1)) := by
            rw [hts, digVal_snoc]
            omega
          have mono : ∀ (y x : Bytes), digVal x ≤ digVal (x ++ y) := by
            intro y
            induction y with
            | nil => intro x; simp
            | cons a y ih2 =>
              intro x
              have h5 := ih2 (x ++ [a])
              rw [digVal_snoc] at h5
              rw [show x ++ a :: y = x ++ [a] ++ y by simp]
              omega
          have h6 := mono (s.data.toList.drop (i + 1)) (s.data.toList.take (i + 1))
          rw [List.take_append_drop] at h6
          unfold numR num
          rw [if_neg (fun h => by omega)]
        · rw [if_neg h3]
          have hV : digVal (s.data.toList.take (i + 1)) = digVal (s.data.toList.take i) * 10 + (c.toNat - 48) := by rw [hts, digVal_snoc]
          generalize digVal (s.data.toList.take i) = V at *
          generalize c.toNat - 48 = D at *
          have hVD : V * 10 + D ≤ 9223372036854775807 := by omega
          have hv2 : digVal (s.data.toList.take (i + 1)) ≤ 9223372036854775807 := by rw [hV]; exact hVD
          have hw : wrap64 (wrap64 ((V : Int) * 10) + (D : Int)) = ((digVal (s.data.toList.take (i + 1)) : Nat) : Int) := by
            rw [hV, w64 (x := (V : Int) * 10) (by omega) (by omega), w64 (by omega) (by omega)]
            omega
          have hw2 : wrap64 ((i : Int) + 1) = ((i + 1 : Nat) : Int) := by rw [w64 (by omega) (by omega)]; omega
          rw [hw, hw2]
          clear hw hw2 hV hVD h3
          refine ih k (i + 1) a1 a2 a3 ?_ hv2
          rw [hts]
          intro x hx
          rcases List.mem_append.1 hx with hx | hx
          · exact ha x hx
          · rw [List.mem_singleton] at hx
            subst hx
            unfold digB
            simp
            omega
theorem refGetNumber (s : ByteArray) (most : Nat) (hm : most ≤ 4611686018427387904) (hs : s.data.toList.length ≤ 4611686018427387904) (k : Nat) (hk : s.data.toList.length < k) : shipwrightref1_GetNumber.f k s most = some (numR s.data.toList most) := by
  have := refNumber_loop s most hm hs s.data.toList.length k 0 (by simp) hk (by simp) (by simp) (by simp [digVal])
  show shipwrightref1_GetNumber.l0 k s most 0 0 = _
  simpa [digVal] using this

end Go.Proofs.YtobbliglnjgbaaaGreatDoor.X
