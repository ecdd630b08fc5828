/-
  ParseTwo, walked by hand: two rule files, one behind the other, are the rules of both.
-/
import Derived.Test.YthagibkmfgodgaaGreatDoorEqFour
import Derived.Test.YthagibkmfgodgaaGreatDoorShort
namespace Go.Proofs.YthagibkmfgodgaaGreatDoor.X
open Go.RowKit Go.Maps Go.Proofs.YthagibkmfgodgaaGreatDoorW.PrintWords Go.Proofs.YthagibkmfgodgaaGreatDoorW.PrintMore Go.Proofs.YthagibkmfgodgaaGreatDoorW.PrintLast Go.Proofs.YthagibkmfgodgaaGreatDoor.Pb

theorem inv_at : InvP (fun s => GoodW s.1 ∧ -1 ≤ s.2 ∧ s.2 ≤ 100000) := by
  refine ⟨fun s h => ⟨h.1.fails, ?_⟩, fun s h _ hk => ⟨h.1.tail hk, h.2⟩⟩
  unfold failsP
  split
  · obtain ⟨l, d⟩ := s
    match l, h.1.ne, h.1 with
    | x :: r, _, hg => have := hg.2 x (by simp); exact ⟨show -1 ≤ x.f1 by omega, show x.f1 ≤ 100000 from this.2.1⟩
  · exact h.2
theorem file_at (s : Bytes) (hs : s.length ≤ 20000) : -1 ≤ (fileT s).2.2 ∧ (fileT s).2.2 ≤ 100000 := by
  unfold fileT
  rw [if_neg (by omega)]
  cases hall : allF s with
  | error p =>
    rw [allF_lexM] at hall
    cases hl : lexM false s 0 with
    | error e =>
      rw [hl] at hall
      injection hall with hall
      have := lexM_err false s 0 e hl
      exact ⟨show -1 ≤ (p : Int) by omega, show (p : Int) ≤ 100000 by omega⟩
    | ok ws => rw [hl] at hall; cases hall
  | ok l =>
    have hg := allF_good (by omega) hall
    show -1 ≤ (fileP l).2.2 ∧ (fileP l).2.2 ≤ 100000
    rw [fileP_of]
    split
    · exact ⟨by show (-1 : Int) ≤ 0; omega, by show (0 : Int) ≤ 100000; omega⟩
    · exact (inv_at.rules (l.length + 1) (s := (l, -1)) ⟨hg, by show (-1 : Int) ≤ -1; omega, by show (-1 : Int) ≤ 100000; omega⟩).2
theorem file_ok (s : Bytes) (h : (fileT s).2.1 = 0) : fileT s = ((fileT s).1, 0, 0) := by
  revert h
  unfold fileT
  split
  · exact fun h => absurd (show (4 : Int) = 0 from h) (by decide)
  · split
    · exact fun h => absurd (show (1 : Int) = 0 from h) (by decide)
    · rw [fileP_of]
      split
      · exact fun _ => rfl
      · exact fun h => absurd (show (1 : Int) = 0 from h) (by decide)

theorem rules_le : ∀ (n : Nat) (s : PS), (rulesP n s).1.length ≤ n
  | 0, _ => Nat.le_refl _
  | n + 1, s => by
    unfold rulesP
    split
    · have := rules_le n (ruleP s).2
      simp only [List.length_cons]
      omega
    · simp
theorem file_le (s : Bytes) : (fileT s).1.length ≤ s.length + 2 := by
  unfold fileT
  split
  · simp
  · cases hall : allF s with
    | error p => simp
    | ok l =>
      have h1 := allF_len hall
      show (fileP l).1.length ≤ _
      rw [fileP_of]
      split
      · have := rules_le (l.length + 1) (l, -1)
        show (rulesP (l.length + 1) (l, -1)).1.length ≤ _
        omega
      · simp
theorem old_apart {v : Value} {B : Nat} (h : v.ownBlock = none ∨ ∃ k, v.ownBlock = some k ∧ B ≤ k) (k : Nat) (hk : True ∧ k < B) : True ∧ some k ≠ v.ownBlock := by
  refine ⟨trivial, fun he => ?_⟩
  rcases h with h0 | ⟨b, hb, hle⟩
  · rw [h0] at he; cases he
  · rw [hb] at he
    injection he with he
    have := hk.2
    omega
set_option maxHeartbeats 8000000 in
set_option maxRecDepth 100000 in
theorem parseTwo_walk (a b : ByteArray) (w : World) (hG : GOK w) :
    Calls Tryz.prog 14 #[.string a, .string b] w (IsTrue w) := by
  have HG := Lib.hid hG
  clear hG
  obtain ⟨p, hp⟩ : ∃ t, t = mk (a.data.toList.take 300) := ⟨_, rfl⟩
  obtain ⟨q, hq⟩ : ∃ t, t = mk (b.data.toList.take 300) := ⟨_, rfl⟩
  have hpl : p.size ≤ 300 := by rw [hp, mk_size, List.length_take]; omega
  have hql : q.size ≤ 300 := by rw [hq, mk_size, List.length_take]; omega
  have hSa := fun W hW => shipwrightlaw1_Short.calls a 300 p W hW (by rw [hp]; exact short_f a 300)
  have hSb := fun W hW => shipwrightlaw1_Short.calls b 300 q W hW (by rw [hq]; exact short_f b 300)
  clear hp hq
  have hA := fun W hW => file_calls (p ++ (⟨#[10]⟩ : ByteArray)) W hW
  have hB := fun W hW => file_calls q W hW
  have hC := fun W hW => file_calls (p ++ (⟨#[10]⟩ : ByteArray) ++ q) W hW
  have hd1 : (p ++ (⟨#[10]⟩ : ByteArray)).data.toList = p.data.toList ++ [10] := by simp [ByteArray.data_append]
  have hd2 : (p ++ (⟨#[10]⟩ : ByteArray) ++ q).data.toList = p.data.toList ++ [10] ++ q.data.toList := by simp [ByteArray.data_append]
  have h3 : (fileT (p.data.toList ++ [10])).2.1 = 0 → fileT (p.data.toList ++ [10] ++ q.data.toList) = if (fileT q.data.toList).2.1 = 0 then ((fileT (p.data.toList ++ [10])).1 ++ (fileT q.data.toList).1, 0, 0) else ([], (fileT q.data.toList).2.1, (fileT q.data.toList).2.2 + ((p.size : Int) + 1)) := fun h => by
    rw [file_two p.data.toList q.data.toList (by rw [List.length_append, ← Lib.size_eq, ← Lib.size_eq]; simp; omega) _ (file_ok _ h), List.length_append, ← Lib.size_eq]
    simp
  have h4 := file_at q.data.toList (by rw [← Lib.size_eq]; omega)
  have h5 := file_ok q.data.toList
  have hl1 := file_le (p.data.toList ++ [10])
  have hl2 := file_le q.data.toList
  rw [List.length_append, ← Lib.size_eq] at hl1
  rw [← Lib.size_eq] at hl2
  rw [hd1] at hA
  rw [hd2] at hC
  generalize fileT (p.data.toList ++ [10] ++ q.data.toList) = T3 at hC h3
  generalize fileT (p.data.toList ++ [10]) = T1 at hA h3 hl1
  generalize fileT q.data.toList = T2 at hB h3 h4 h5 hl2
  rcases T1 with ⟨l1, c1, p1⟩
  rcases T2 with ⟨l2, c2, p2⟩
  rcases T3 with ⟨l3, c3, p3⟩
  have HT3 : Hid (c1 = 0 → (l3, c3, p3) = if c2 = 0 then (l1 ++ l2, 0, 0) else ([], c2, p2 + ((p.size : Int) + 1))) := h3
  have HT5 : Hid (c2 = 0 → p2 = 0) := fun h => congrArg (fun x => x.2.2) (h5 h)
  have hl1 : l1.length ≤ 1000 := by have : l1.length ≤ p.size + [(10 : UInt8)].length + 2 := hl1; simp only [List.length_singleton] at this; omega
  have hl2 : l2.length ≤ 1000 := by have : l2.length ≤ q.size + 2 := hl2; omega
  have h41 : -1 ≤ p2 := h4.1
  have h42 : p2 ≤ 100000 := h4.2
  clear h3 h4 h5 hd1 hd2
  have n1 : ¬ 9223372036854775807 < p.size + 1 := by omega
  have n2 : ¬ 9223372036854775807 < p.size + 1 + q.size := by omega
  go_enter Tryz.func14, Tryz.ntmps14
  go_wp2_with fail
  refine (begun4_calls _ HG.out).mono ?_
  rintro e w1 ⟨rfl, hb1⟩
  have HB1 := Lib.hid hb1
  clear hb1
  go_wp2_with fail
  refine (hSa _ (HG.out.below HB1.out)).mono ?_
  rintro e w2 ⟨rfl, hb2⟩
  have HB2 := Lib.hid (below_then HB1.out HB1.out.size hb2)
  clear hb2 HB1 hSa
  go_wp2_with fail
  refine (hSb _ (HG.out.below HB2.out)).mono ?_
  rintro e w3 ⟨rfl, hb3⟩
  have HB3 := Lib.hid (below_then HB2.out HB2.out.size hb3)
  clear hb3 HB2 hSb
  go_wp2_with fail
  refine (hA _ (HG.out.below HB3.out)).mono ?_
  rintro e w4 ⟨v1, rfl, hR1, hb4⟩
  obtain ⟨A1, a1, rfl, _, _⟩ := Kd.R_reads hR1
  have HE1 := Lib.hid (blk_new w4 (.cells #[.int .i64 c1, .int .i64 p1] 27))
  have ha5 := (Below.refl w4.heap.size w4).alloc (Nat.le_refl _) (.cells #[.int .i64 c1, .int .i64 p1] 27)
  have HR1 := Lib.hid (Kd.R_below (Kd.R_lower hR1 HB3.out.size) ha5)
  have HB5 := Lib.hid (below_then (below_then HB3.out HB3.out.size hb4) (below_then HB3.out HB3.out.size hb4).size ha5)
  clear hA hR1 hb4 ha5 HB3
  go_wp2_with fail
  generalize w4.alloc (.cells #[.int .i64 c1, .int .i64 p1] 27) = w5 at HE1 HR1 HB5 ⊢
  generalize w4.heap.size = E1 at HE1 ⊢
  refine (hB _ (HG.out.below HB5.out)).mono ?_
  rintro e w6 ⟨v2, rfl, hR2, hb6⟩
  obtain ⟨A2, a2, rfl, _, _⟩ := Kd.R_reads hR2
  have HE2 := Lib.hid (blk_new w6 (.cells #[.int .i64 c2, .int .i64 p2] 27))
  have ha7 := (Below.refl w6.heap.size w6).alloc (Nat.le_refl _) (.cells #[.int .i64 c2, .int .i64 p2] 27)
  have HE1 := Lib.hid (blk_below (blk_below HE1.out hb6) ha7)
  have HR1 := Lib.hid (Kd.R_below (Kd.R_below HR1.out hb6) ha7)
  have HR2 := Lib.hid (Kd.R_below (Kd.R_lower hR2 HB5.out.size) ha7)
  have HB7 := Lib.hid (below_then (below_then HB5.out HB5.out.size hb6) (below_then HB5.out HB5.out.size hb6).size ha7)
  clear hB hR2 hb6 ha7 HB5
  go_wp2_with fail
  generalize w6.alloc (.cells #[.int .i64 c2, .int .i64 p2] 27) = w7 at HE1 HE2 HR1 HR2 HB7 ⊢
  generalize w6.heap.size = E2 at HE2 ⊢
  refine (hC _ (HG.out.below HB7.out)).mono ?_
  rintro e w8 ⟨v3, rfl, hR3, hb8⟩
  obtain ⟨A3, a3, rfl, _, hC3⟩ := Kd.R_reads hR3
  have HE3 := Lib.hid (blk_new w8 (.cells #[.int .i64 c3, .int .i64 p3] 27))
  have ha9 := (Below.refl w8.heap.size w8).alloc (Nat.le_refl _) (.cells #[.int .i64 c3, .int .i64 p3] 27)
  have HE1 := Lib.hid (blk_below (blk_below HE1.out hb8) ha9)
  have HE2 := Lib.hid (blk_below (blk_below HE2.out hb8) ha9)
  have HR1 := Lib.hid (Kd.R_below (Kd.R_below HR1.out hb8) ha9)
  have HR2 := Lib.hid (Kd.R_below (Kd.R_below HR2.out hb8) ha9)
  have HC3 := Lib.hid (Kd.C_below hC3 ha9)
  have HB9 := Lib.hid (below_then (below_then HB7.out HB7.out.size hb8) (below_then HB7.out HB7.out.size hb8).size ha9)
  by_cases h1 : c1 = 0
  rotate_left
  · have d1 : (c1 != 0) = true := by simpa using h1
    have hk : (w8.alloc (.cells #[.int .i64 c3, .int .i64 p3] 27)).cell? ⟨E1, 0, none⟩ = some (.int .i64 c1) := (blk_cell HE1.out 0).trans rfl
    clear hC hR3 hC3 hb8 ha9 HB7 h1
    go_wp2_with fail
    go_ret
    exact ⟨rfl, HB9.out⟩
  have d1 : (c1 != 0) = false := by simpa using h1
  have h3 := HT3.out h1
  have k1 : (w8.alloc (.cells #[.int .i64 c3, .int .i64 p3] 27)).cell? ⟨E1, 0, none⟩ = some (.int .i64 c1) := (blk_cell HE1.out 0).trans rfl
  have k2 : (w8.alloc (.cells #[.int .i64 c3, .int .i64 p3] 27)).cell? ⟨E2, 0, none⟩ = some (.int .i64 c2) := (blk_cell HE2.out 0).trans rfl
  clear hC hR3 hC3 hb8 HB7 h1 HT3
  by_cases h2 : c2 = 0
  rotate_left
  · have d2 : (c2 != 0) = true := by simpa using h2
    rw [if_neg h2] at h3
    injection h3 with h31 h32
    injection h32 with h32 h33
    subst h31 h32 h33
    have k3 : (w8.alloc (.cells #[.int .i64 c3, .int .i64 (p2 + ((p.size : Int) + 1))] 27)).cell? ⟨E2, 1, none⟩ = some (.int .i64 p2) := (blk_cell HE2.out 1).trans rfl
    have k4 : (w8.alloc (.cells #[.int .i64 c3, .int .i64 (p2 + ((p.size : Int) + 1))] 27)).cell? ⟨w8.heap.size, 0, none⟩ = some (.int .i64 c3) := (blk_cell HE3.out 0).trans rfl
    have k5 : (w8.alloc (.cells #[.int .i64 c3, .int .i64 (p2 + ((p.size : Int) + 1))] 27)).cell? ⟨w8.heap.size, 1, none⟩ = some (.int .i64 (p2 + ((p.size : Int) + 1))) := (blk_cell HE3.out 1).trans rfl
    clear ha9 h2 HE1 HE2 HE3 HR1 HR2 HC3 HT5
    go_wp2_with fail
    go_ret
    exact ⟨rfl, HB9.out⟩
  have d2 : (c2 != 0) = false := by simpa using h2
  rw [if_pos h2] at h3
  injection h3 with h31 h32
  injection h32 with h32 h33
  have HL3 : Hid ([] ++ l1 ++ l2 = l3) := by show _ = _; rw [List.nil_append]; exact h31.symm
  clear h31
  subst h32 h33
  have k4 : (w8.alloc (.cells #[.int .i64 0, .int .i64 0] 27)).cell? ⟨w8.heap.size, 0, none⟩ = some (.int .i64 0) := (blk_cell HE3.out 0).trans rfl
  have hN1 := Kd.R_N HR1.out
  have hN2 := Kd.R_N HR2.out
  have HF1 := Lib.hid (Kd.N_F hN1)
  have HN2 := Lib.hid hN2
  clear ha9 h2 HE1 HE2 HE3 HR1 HR2 HT5 hN1 hN2
  go_wp2_with (first
    | ((with_reducible refine gate_builtin (b := .append) (xs := #[.const (.slice none 0 0), .tmp 68]) rfl ?_); refine gate_guard (by rfl) ?_; refine Kd.N_append_rows k49 (w0 := (w8.alloc (.cells #[.int .i64 0, .int .i64 0] 27))) (w8.alloc (.cells #[.int .i64 0, .int .i64 0] 27)).heap.size rfl (.const (.slice none 0 0)) (.tmp 68) 35 49 (.agg #[.string ⟨#[]⟩, .slice none 0 0, .slice none 0 0, .slice none 0 0, .slice none 0 0]) 112 rfl Tryz.underlying35 info49 rfl (by decide) (by decide) (.slice none 0 0) [] l1 A1 l1.length a1 (fun _ => True) (fun _ => True) rfl rfl (Kd.N_nil _ _ _ _ _) HF1.out (fun _ _ => ⟨trivial, by simp [Value.ownBlock]⟩) (fun _ _ => trivial) (Below.refl _ _) (Nat.le_refl _) ?aL ?_; (case aL => simp only [List.length_nil]; omega); intro v5 w10 ho hb hg hat; have HO5 := Lib.hid ho; have HB5 := Lib.hid hb; have HF2 := Lib.hid (Kd.N_F (Kd.N_old HN2.out hb)); have HBs := Lib.hid (Kd.N_base2 ho); have HWs := Lib.hid hb.size; clear ho hb hg hat)
    | ((with_reducible refine gate_builtin (b := .append) (xs := #[.tmp 69, .tmp 70]) rfl ?_); refine gate_guard (by rfl) ?_; refine Kd.N_append_rows k49 (w0 := (w8.alloc (.cells #[.int .i64 0, .int .i64 0] 27))) (w8.alloc (.cells #[.int .i64 0, .int .i64 0] 27)).heap.size rfl (.tmp 69) (.tmp 70) 35 49 (.agg #[.string ⟨#[]⟩, .slice none 0 0, .slice none 0 0, .slice none 0 0, .slice none 0 0]) 112 rfl Tryz.underlying35 info49 rfl (by decide) (by decide) v5 ([] ++ l1) l2 A2 l2.length a2 (fun _ => True) (fun k => True ∧ k < (w8.alloc (.cells #[.int .i64 0, .int .i64 0] 27)).heap.size) rfl rfl HO5.out HF2.out (old_apart HBs.out) (fun _ _ => trivial) HB5.out HWs.out ?aL ?_; (case aL => simp only [List.nil_append]; omega); intro v6 w11 ho hb hg hat; rw [HL3.out] at ho; obtain ⟨A6, a6, rfl, _, hC6⟩ := Kd.N_reads ho; have HC6 := Lib.hid hC6; have HB6 := Lib.hid hb; clear ho hb hg hat hC6))
  refine (eq_same A3 a3 A6 a6 l3 _ (Kd.C_below HC3.out HB6.out) HC6.out).mono ?_
  rintro e w12 ⟨rfl, hb12⟩
  have HB12 := Lib.hid (below_then (below_then HB9.out HB9.out.size HB6.out) (below_then HB9.out HB9.out.size HB6.out).size hb12)
  clear hb12
  go_wp2_with fail
  go_ret
  exact ⟨rfl, HB12.out⟩

def shipwrightlaw4_ParseTwo.f (_ _ : ByteArray) : Option Bool := some true
theorem shipwrightlaw4_ParseTwo.calls (a b : ByteArray) (r : Bool) (w : World) (hG : GOK w) (h : shipwrightlaw4_ParseTwo.f a b = some r) :
    Calls Tryz.prog 14 #[.string a, .string b] w fun e w' => e = .returned (.bool r) ∧ Below w.heap.size w w' := by
  obtain rfl := Option.some.inj h
  exact parseTwo_walk a b w hG
theorem pure_ParseTwo (a b : ByteArray) {p q : Prop} (_ : p) (_ : q) : shipwrightlaw4_ParseTwo.f a b = some true := rfl

end Go.Proofs.YthagibkmfgodgaaGreatDoor.X
