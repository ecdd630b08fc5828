/-
  lex.Quote, walked by hand (texts without signs that are written as numbers).
-/
import Derived.Test.YthagibkmfgodgaaGreatDoorQuote
import Derived.Deep.RegionLaw
namespace Go.Proofs.YthagibkmfgodgaaGreatDoor.X
open Go.RowKit Go.Maps Go.Proofs.YthagibkmfgodgaaGreatDoorW.PrintWords Go.Proofs.YthagibkmfgodgaaGreatDoorW.PrintMore Go.Proofs.YthagibkmfgodgaaGreatDoorW.PrintLast

theorem natsB_app (a b : Bytes) : natsB (a ++ b) = natsB a ++ natsB b := by simp [natsB]
theorem lit_bytes (W : World) (l : Bytes) (h : l.length ≤ 100) : Kd.C (Kd.int .u8) (W.alloc (.cells (nums .u8 (natsB l)).toArray 5)) (some ⟨W.heap.size, 0, none⟩) (natsB l).length (natsB l) :=
  lit_C (Kd.int .u8) W 5 (natsB l) (nums .u8 (natsB l)) (Kd.reps_scalar _) (by simp [natsB]; omega)
abbrev RB (w : World) (base : Nat) (v : Value) (l : Bytes) : Prop := Kd.R (Kd.int .u8) 5 w base (fun _ => True) v (natsB l)
theorem RB.str {w : World} {base : Nat} {v : Value} {l : Bytes} (h : RB w base v l) :
    (convert 38 9 v).run Tryz.prog w = .ok (.string (mk l)) w := by
  have := own_string (dst := 9) Tryz.underlying38 Tryz.underlying5 Tryz.underlying9 (Kd.own_of_R h)
  rw [strOf_natsB] at this
  exact this

section
variable {P : Program} {ops : Array Oper} {rest : List Oper} {o : Oper} {a : Act} {Q : Exit → Act → World → Prop}
/-- append(v, some bytes): the bytes' box is new. -/
theorem RB.app {w0 W : World} (base : Nat) (hgd : o.guard = none) (s x : Operand)
    (ho : o.op = .call { callee := .builtin .append, args := #[s, x], argTypes := #[38, 38] })
    (ht : P.underlying 38 = some (.slice 5)) (hinfo : (P.info? 5).map (fun i => (i.zero, i.size, i.bytes)) = some (some (.int .u8 0), 1, 1))
    (v : Value) (acc l : Bytes) (cs : Array Value) (hcs : cs = (nums .u8 (natsB l)).toArray) (hl : l.length ≤ 100) (n : Nat) (hn : n = l.length) (hs : a.eval s = v) (hx : a.eval x = .slice (some ⟨W.heap.size, 0, none⟩) n n)
    (HO : RB W base v acc) (HB : Below base w0 W) (hbase : base ≤ W.heap.size) (hal : acc.length ≤ 5000000000000)
    (h : ∀ v1 w1, RB w1 base v1 (acc ++ l) → Below base w0 w1 → wpList P ops Q rest (a.put o.dst v1) w1) :
    wpList P ops Q (o :: rest) a (W.alloc (.cells cs 5)) := by
  subst hcs
  subst hn
  have hC := lit_bytes W l hl
  rw [show (natsB l).length = l.length by simp [natsB]] at hC
  refine Kd.R_append_rows (Kd.int .u8) (Rr := (Kd.int .u8).K (W.alloc (.cells (nums .u8 (natsB l)).toArray 5))) (w0 := w0) base hgd s x 38 5 (.int .u8 0) 1 ho ht hinfo rfl (by decide) (by decide) v (natsB acc) (natsB l) (some ⟨W.heap.size, 0, none⟩) l.length l.length (fun _ => True) (fun k_ => True ∧ some k_ ≠ v.ownBlock) hs hx (Kd.R_alloc HO _) hC (fun _ _ h => h) (fun _ hk => hk) (fun _ _ => trivial) (HB.alloc hbase _) (by rw [World.size_alloc]; omega) (by simp only [natsB, List.length_map]; omega) ?_
  intro v1 w1 ho1 hb1 _ _
  rw [← natsB_app] at ho1
  exact h v1 w1 ho1 hb1
/-- append(v, "..."...). -/
theorem RB.str_app {w0 W : World} (base : Nat) (hgd : o.guard = none) (s x : Operand)
    (ho : o.op = .call { callee := .builtin .append, args := #[s, x], argTypes := #[38, 9] })
    (ht : P.underlying 38 = some (.slice 5)) (hu : P.underlying 9 = some .string) (hinfo : (P.info? 5).map (fun i => (i.zero, i.size, i.bytes)) = some (some (.int .u8 0), 1, 1))
    (v : Value) (acc l : Bytes) (hs : a.eval s = v) (hx : a.eval x = .string (mk l)) (hl : l.length ≤ 100)
    (HO : RB W base v acc) (HB : Below base w0 W) (hbase : base ≤ W.heap.size) (hal : acc.length ≤ 5000000000000)
    (h : ∀ v1 w1, RB w1 base v1 (acc ++ l) → Below base w0 w1 → wpList P ops Q rest (a.put o.dst v1) w1) :
    wpList P ops Q (o :: rest) a W := by
  refine print_append_str base hgd s x 38 9 5 ho ht hu hinfo v (natsB acc) (mk l) hs hx (Kd.own_of_R HO) HB hbase (by rw [Lib.size_eq, mk_data]; simp only [natsB, List.length_map]; omega) ?_
  intro v1 w1 ho1 hb1 _
  have hbl : bytesOf (mk l) = natsB l := by unfold bytesOf; rw [mk_data]; rfl
  rw [hbl, ← natsB_app] at ho1
  exact h v1 w1 (Kd.R_of_own (h1 := fun _ => rfl) ho1 (fun _ _ => trivial)) hb1
end
set_option maxHeartbeats 4000000 in
set_option maxRecDepth 100000 in
theorem quote_calls (s : ByteArray) (hs : s.size ≤ 1099511627776) (hpr : ∀ c ∈ s.data.toList, c = 10 ∨ c = 9 ∨ ¬ (c.toNat < 32 ∨ 126 < c.toNat)) (w : World) :
    Calls Tryz.prog 21 #[.string s] w fun e w' => e = .returned (.string (mk (quoteF s.data.toList))) ∧ Below w.heap.size w w' := by
  have HPr := Lib.hid hpr
  clear hpr
  generalize hT : quoteF s.data.toList = T
  have HT := Lib.hid hT
  clear hT
  have hR0 : RB (w.alloc (.cells #[.int .u8 34] 5)) w.heap.size (.slice (some ⟨w.heap.size, 0, none⟩) 1 1) [34] := by
    refine Kd.R_of_own (h1 := fun _ => rfl) ?_ (fun _ _ => trivial)
    exact own_lit w w.heap.size 5 .u8 [34] (Nat.le_refl _) (by simp)
  have HR0 := Lib.hid hR0
  clear hR0
  go_enter Tryz.func21, Tryz.ntmps21
  go_wp2_with fail
  go_loopg [3, 4, 5, 9] s.size (fun gg s3 _ _ s9 wr => ∃ (kk : Nat) (acc : Bytes), kk ≤ s.size ∧ s.size - kk ≤ gg ∧ s9 = .int .i64 kk ∧ acc.length ≤ 1 + 4 * kk ∧ Aside0 (acc ++ (quoteL (s.data.toList.drop kk) ++ [34]) = T) ∧
    Aside0 (RB wr w.heap.size s3 acc) ∧ Aside0 (Below w.heap.size w wr))
  case atStart => exact ⟨0, [34], Nat.zero_le _, by omega, rfl, by simp, ⟨by rw [← HT.out]; rfl⟩, ⟨HR0.out⟩, ⟨(Below.refl _ _).alloc (Nat.le_refl _) _⟩⟩
  case round =>
    obtain ⟨kk, acc, hkk, hgk, rfl, hacc, HK, HO, HB⟩ := hrel
    by_cases hlt : kk < s.size
    · have hltz : (kk : Int) < (s.size : Int) := by omega
      have hdr : s.data.toList.drop kk = s[kk] :: s.data.toList.drop (kk + 1) := by
        rw [List.drop_eq_getElem_cons (by rw [← Lib.size_eq]; exact hlt)]
        rfl
      have hK := HK.out
      rw [hdr, quoteL] at hK
      have HK2 := Lib.hid hK
      clear hK hdr
      have n8 : ∀ (m : Nat) (k : UInt8), k.toNat = m → (s[kk] = k ↔ s[kk].toNat = m) := fun m k hk => by rw [← UInt8.toNat_inj, hk]
      have H34 := Lib.hid (n8 34 34 rfl)
      have H92 := Lib.hid (n8 92 92 rfl)
      have H10 := Lib.hid (n8 10 10 rfl)
      have H9 := Lib.hid (n8 9 9 rfl)
      clear n8
      have HWB := Lib.hid HB.out.size
      have hal2 : acc.length ≤ 5000000000000 := by omega
      have next : ∀ l : Bytes, quoteC s[kk] = l → acc ++ l ++ (quoteL (s.data.toList.drop (kk + 1)) ++ [34]) = T := fun l hl => by
        rw [← HK2.out, hl]
        simp
      have HN := Lib.hid next
      clear next
      obtain ⟨L1, hL1⟩ : ∃ l : Bytes, l = [s[kk]] := ⟨_, rfl⟩
      obtain ⟨L2, hL2⟩ : ∃ l : Bytes, l = [92, s[kk]] := ⟨_, rfl⟩
      have HC1 : Hid (#[Value.int .u8 s[kk].toNat] = (nums .u8 (natsB L1)).toArray) := by show _ = _; rw [hL1]; rfl
      have HC2 : Hid (#[Value.int .u8 92, .int .u8 s[kk].toNat] = (nums .u8 (natsB L2)).toArray) := by show _ = _; rw [hL2]; rfl
      have HL1 := Lib.hid hL1
      have HL2 := Lib.hid hL2
      have hl1 : L1.length = 1 := by rw [hL1]; rfl
      have hl2 : L2.length = 2 := by rw [hL2]; rfl
      have HM1 : Hid (1 = L1.length) := hl1.symm
      have HM2 : Hid (2 = L2.length) := hl2.symm
      have HX1 : Hid (L1.length ≤ 100) := by show _ ≤ _; omega
      have HX2 : Hid (L2.length ≤ 100) := by show _ ≤ _; omega
      clear hL1 hL2
      by_cases c1 : s[kk].toNat = 34
      · have e1 : ((s[kk].toNat : Int) == 34) = true := by simp; omega
        have HV := Lib.hid (HN.out L2 (by unfold quoteC; rw [if_pos (.inl (H34.out.2 c1)), HL2.out]))
        clear c1
        go_wp2_with (first | ((with_reducible refine gate_builtin (b := .append) (xs := #[.tmp 26, .tmp 28]) rfl ?_); at_builtin; refine RB.app (w0 := w) w.heap.size rfl (.tmp 26) (.tmp 28) rfl Tryz.underlying38 infoU u3 acc L2 _ HC2.out HX2.out 2 HM2.out rfl rfl HO.out HB.out HWB.out hal2 ?_; intro v1 w4 ho hb; have HO4 := Lib.hid ho; have HB4 := Lib.hid hb; clear ho hb))
        go_roundg (s.size - (kk + 1))
        case measure => omega
        case rel => exact ⟨kk + 1, acc ++ L2, by omega, by omega, by first | rfl | go_num, by simp only [List.length_append]; omega, ⟨HV.out⟩, ⟨HO4.out⟩, ⟨HB4.out⟩⟩
      have e1 : ((s[kk].toNat : Int) == 34) = false := by simp; omega
      by_cases c2 : s[kk].toNat = 92
      · have e2 : ((s[kk].toNat : Int) == 92) = true := by simp; omega
        have HV := Lib.hid (HN.out L2 (by unfold quoteC; rw [if_pos (.inr (H92.out.2 c2)), HL2.out]))
        clear c1 c2
        go_wp2_with (first | ((with_reducible refine gate_builtin (b := .append) (xs := #[.tmp 26, .tmp 28]) rfl ?_); at_builtin; refine RB.app (w0 := w) w.heap.size rfl (.tmp 26) (.tmp 28) rfl Tryz.underlying38 infoU u3 acc L2 _ HC2.out HX2.out 2 HM2.out rfl rfl HO.out HB.out HWB.out hal2 ?_; intro v1 w4 ho hb; have HO4 := Lib.hid ho; have HB4 := Lib.hid hb; clear ho hb))
        go_roundg (s.size - (kk + 1))
        case measure => omega
        case rel => exact ⟨kk + 1, acc ++ L2, by omega, by omega, by first | rfl | go_num, by simp only [List.length_append]; omega, ⟨HV.out⟩, ⟨HO4.out⟩, ⟨HB4.out⟩⟩
      have e2 : ((s[kk].toNat : Int) == 92) = false := by simp; omega
      have HQ1 : Hid (¬ (s[kk] = 34 ∨ s[kk] = 92)) := fun h => h.elim (fun h => c1 (H34.out.1 h)) (fun h => c2 (H92.out.1 h))
      clear c1 c2
      by_cases c3 : s[kk].toNat = 10
      · have e3 : ((s[kk].toNat : Int) == 10) = true := by simp; omega
        have HV := Lib.hid (HN.out [92, 110] (by unfold quoteC; rw [if_neg HQ1.out, if_pos (H10.out.2 c3)]))
        clear c3
        go_wp2_with (first | ((with_reducible refine gate_builtin (b := .append) (xs := #[.tmp 33, .const (.string ⟨#[92, 110]⟩)]) rfl ?_); at_builtin; refine RB.str_app (w0 := w) w.heap.size rfl (.tmp 33) (.const (.string ⟨#[92, 110]⟩)) rfl Tryz.underlying38 Tryz.underlying9 infoU u3 acc [92, 110] rfl rfl (by decide) HO.out HB.out HWB.out hal2 ?_; intro v1 w4 ho hb; have HO4 := Lib.hid ho; have HB4 := Lib.hid hb; clear ho hb))
        go_roundg (s.size - (kk + 1))
        case measure => omega
        case rel => exact ⟨kk + 1, acc ++ [92, 110], by omega, by omega, by first | rfl | go_num, by simp; omega, ⟨HV.out⟩, ⟨HO4.out⟩, ⟨HB4.out⟩⟩
      have e3 : ((s[kk].toNat : Int) == 10) = false := by simp; omega
      by_cases c4 : s[kk].toNat = 9
      · have e4 : ((s[kk].toNat : Int) == 9) = true := by simp; omega
        have HV := Lib.hid (HN.out [92, 116] (by unfold quoteC; rw [if_neg HQ1.out, if_neg (fun h => c3 (H10.out.1 h)), if_pos (H9.out.2 c4)]))
        clear c3 c4
        go_wp2_with (first | ((with_reducible refine gate_builtin (b := .append) (xs := #[.tmp 38, .const (.string ⟨#[92, 116]⟩)]) rfl ?_); at_builtin; refine RB.str_app (w0 := w) w.heap.size rfl (.tmp 38) (.const (.string ⟨#[92, 116]⟩)) rfl Tryz.underlying38 Tryz.underlying9 infoU u3 acc [92, 116] rfl rfl (by decide) HO.out HB.out HWB.out hal2 ?_; intro v1 w4 ho hb; have HO4 := Lib.hid ho; have HB4 := Lib.hid hb; clear ho hb))
        go_roundg (s.size - (kk + 1))
        case measure => omega
        case rel => exact ⟨kk + 1, acc ++ [92, 116], by omega, by omega, by first | rfl | go_num, by simp; omega, ⟨HV.out⟩, ⟨HO4.out⟩, ⟨HB4.out⟩⟩
      have e4 : ((s[kk].toNat : Int) == 9) = false := by simp; omega
      have HQ2 : Hid (¬ s[kk] = 10) := fun h => c3 (H10.out.1 h)
      have HQ3 : Hid (¬ s[kk] = 9) := fun h => c4 (H9.out.1 h)
      clear c3 c4
      by_cases c5 : s[kk].toNat < 32 ∨ 126 < s[kk].toNat
      · exfalso
        rcases HPr.out s[kk] (List.getElem_mem (h := by rw [← Lib.size_eq]; exact hlt)) with h | h | h
        · exact HQ2.out h
        · exact HQ3.out h
        · exact h c5
      · have HV := Lib.hid (HN.out L1 (by unfold quoteC; rw [if_neg HQ1.out, if_neg HQ2.out, if_neg HQ3.out, if_neg c5, HL1.out]))
        have e5 : decide ((s[kk].toNat : Int) < 32) = false := by simp; omega
        have e6 : decide ((126 : Int) < (s[kk].toNat : Int)) = false := by simp; omega
        clear c5
        go_wp2_with (first | ((with_reducible refine gate_builtin (b := .append) (xs := #[.tmp 15, .tmp 17]) rfl ?_); at_builtin; refine RB.app (w0 := w) w.heap.size rfl (.tmp 15) (.tmp 17) rfl Tryz.underlying38 infoU u3 acc L1 _ HC1.out HX1.out 1 HM1.out rfl rfl HO.out HB.out HWB.out hal2 ?_; intro v1 w4 ho hb; have HO4 := Lib.hid ho; have HB4 := Lib.hid hb; clear ho hb))
        go_roundg (s.size - (kk + 1))
        case measure => omega
        case rel => exact ⟨kk + 1, acc ++ L1, by omega, by omega, by first | rfl | go_num, by simp only [List.length_append]; omega, ⟨HV.out⟩, ⟨HO4.out⟩, ⟨HB4.out⟩⟩
    · have hltz : ¬ (kk : Int) < (s.size : Int) := by omega
      have HWB := Lib.hid HB.out.size
      have hal : acc.length ≤ 4398046511105 := by omega
      have HV : Hid (T = acc ++ [34]) := by
        show T = _
        rw [← HK.out, List.drop_of_length_le (by rw [← Lib.size_eq]; omega)]
        rfl
      have hal2 : acc.length ≤ 5000000000000 := by omega
      go_wp2_with (first | ((with_reducible refine gate_builtin (b := .append) (xs := #[.tmp 57, .tmp 58]) rfl ?_); at_builtin; refine RB.app (w0 := w) w.heap.size rfl (.tmp 57) (.tmp 58) rfl Tryz.underlying38 infoU u3 acc [34] #[.int .u8 34] rfl (by decide) 1 rfl rfl rfl HO.out HB.out HWB.out hal2 ?_; intro v1 w4 ho hb; have hcv := RB.str ho; have HB4 := Lib.hid hb; clear ho hb))
      go_ret
      rw [HV.out]
      exact ⟨rfl, HB4.out⟩

end Go.Proofs.YthagibkmfgodgaaGreatDoor.X
