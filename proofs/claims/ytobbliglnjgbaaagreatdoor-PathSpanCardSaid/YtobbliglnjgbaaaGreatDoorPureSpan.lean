/-
  PathSpan's plain law: names up to forty bytes; each byte that may be, and others.
-/
import Derived.Test.YtobbliglnjgbaaaGreatDoorPlain
import Derived.Test.YtobbliglnjgbaaaGreatDoorLd
namespace Go.Proofs.YtobbliglnjgbaaaGreatDoor.X
open Go.RowKit Go.Proofs.YtobbliglnjgbaaaGreatDoorW.PrintWords Go.Proofs.YtobbliglnjgbaaaGreatDoorW.PrintMore Go.Proofs.YtobbliglnjgbaaaGreatDoor.Pb Go.Proofs.YtobbliglnjgbaaaGreatDoor.Pc Go.Proofs.YtobbliglnjgbaaaGreatDoor.Pe Go.Proofs.YtobbliglnjgbaaaGreatDoor.Ld

theorem span_a : ∀ n, n < 45 → may (List.replicate n 97) = (decide (1 ≤ n) && decide (n ≤ 40)) := by decide +kernel
theorem span_c : ∀ c, c < 256 → (may [120, UInt8.ofNat c, 121] == (sign (UInt8.ofNat c) || decide (c = 47))) = true := by decide +kernel
theorem span_sign : ∀ c : Nat, c < 256 → shipwrightref1_Sign.f (c : Int) = some (sign (UInt8.ofNat c)) := by decide +kernel
theorem span_str : ∀ c : Nat, strOfNums [(c : Int)] = mk [UInt8.ofNat c] := by
  intro c
  apply data_inj
  rw [mk_data]
  simp [strOfNums]

theorem span_loop (n c : Nat) (hn : n < 45) (hc : c < 256) : ∀ m i, i + m = n → Ld.shipwrightlaw1_PathSpan.l0 (m + 1) (n : Int) (c : Int) (mk (List.replicate i 97)) (i : Int) = some true := by
  intro m
  induction m with
  | zero =>
    intro i hi
    obtain rfl : i = n := by omega
    have e1 : (⟨#[120]⟩ : ByteArray) ++ mk [UInt8.ofNat c] = mk [120, UInt8.ofNat c] := by rw [show (⟨#[120]⟩ : ByteArray) = mk [120] from rfl, mk_append]; rfl
    have e2 : mk [120, UInt8.ofNat c] ++ (⟨#[121]⟩ : ByteArray) = mk [120, UInt8.ofNat c, 121] := by rw [show (⟨#[121]⟩ : ByteArray) = mk [121] from rfl, mk_append]; rfl
    have hs := span_c c hc
    rw [beq_iff_eq] at hs
    rw [Ld.shipwrightlaw1_PathSpan.l0, if_neg (by omega)]
    simp only [Option.bind_some]
    rw [span_str, mk_size, if_pos (by simp), e1, mk_size, if_pos (by simp), may_f, span_a i hn]
    simp only [Option.bind_some]
    rw [e2, may_f, hs, span_sign c hc]
    simp only [Option.bind_some]
    have h47 : ((c : Int) == 47) = decide (c = 47) := by
      rw [Bool.eq_iff_iff, beq_iff_eq, decide_eq_true_eq]
      omega
    rw [h47]
    have hd : decide ((i : Int) ≤ 40) = decide (i ≤ 40) := by
      rw [Bool.eq_iff_iff, decide_eq_true_eq, decide_eq_true_eq]
      omega
    rw [hd]
    by_cases h1 : 1 ≤ i
    · rw [if_pos (show (i : Int) ≥ 1 by omega), show decide (1 ≤ i) = true by simp [h1], Bool.true_and, if_pos (by simp)]
      cases sign (UInt8.ofNat c) <;> simp
    · rw [if_neg (show ¬ (i : Int) ≥ 1 by omega), show decide (1 ≤ i) = false by simp [h1], Bool.false_and, show (false == false) = true from rfl, if_pos rfl]
      cases sign (UInt8.ofNat c) <;> simp
  | succ m ih =>
    intro i hi
    have e1 : mk (List.replicate i 97) ++ (⟨#[97]⟩ : ByteArray) = mk (List.replicate (i + 1) 97) := by
      rw [show (⟨#[97]⟩ : ByteArray) = mk [97] from rfl, mk_append, List.replicate_succ']
    have e2 : wrap64 ((i : Int) + 1) = ((i + 1 : Nat) : Int) := by unfold wrap64; omega
    rw [Ld.shipwrightlaw1_PathSpan.l0, if_pos (by omega), mk_size, List.length_replicate, if_pos (by omega), e1, e2]
    exact ih (i + 1) (by omega)
theorem pure_PathSpan (n c : Int) (_hn : (Lit.int .i64 n).wf = true) (hc : (Lit.int .u8 c).wf = true) : ∃ k, shipwrightlaw1_PathSpan.f k n c = some true := by
  have hc2 : 0 ≤ c ∧ c < 256 := by
    simp only [Lit.wf, IntKind.min, IntKind.max, IntKind.signed, IntKind.bits, Bool.and_eq_true] at hc
    simp at hc
    omega
  obtain ⟨cn, rfl⟩ := Int.eq_ofNat_of_zero_le hc2.1
  have h1 : -45 < Int.tmod n 45 ∧ Int.tmod n 45 < 45 := by
    constructor
    · have := Int.lt_tmod_of_pos n (show (0:Int) < 45 by decide); omega
    · exact Int.tmod_lt_of_pos n (by decide)
  have h2 : wrap64 (Int.tmod n 45 + 45) = Int.tmod n 45 + 45 := by unfold wrap64; omega
  have h3 : 0 ≤ Int.tmod (Int.tmod n 45 + 45) 45 ∧ Int.tmod (Int.tmod n 45 + 45) 45 < 45 := ⟨Int.tmod_nonneg _ (by omega), Int.tmod_lt_of_pos _ (by decide)⟩
  obtain ⟨m, hm⟩ := Int.eq_ofNat_of_zero_le h3.1
  refine ⟨m + 1, ?_⟩
  show (shipwrightlaw1_begun.f).bind _ = _
  rw [show shipwrightlaw1_begun.f = some true from rfl]
  simp only [Option.bind_some, if_true]
  rw [h2, hm]
  exact span_loop m cn (by omega) (by omega) m 0 (by omega)

end Go.Proofs.YtobbliglnjgbaaaGreatDoor.X
