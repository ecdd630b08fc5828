/-
  The parser, walked by hand: rule. (Printed by gen_rule.py.)
  A text as a string, plain: what is quoted is read again.
  Rule files, plain law: one rule file behind another.
  parse.File, walked by hand.
-/
import Derived.Test.YthagibkmfgodgaaGreatDoorY5
import Derived.Test.YthagibkmfgodgaaGreatDoorY4
namespace Go.Proofs.YthagibkmfgodgaaGreatDoor.X
open Go.RowKit Go.Maps Go.Proofs.YthagibkmfgodgaaGreatDoorW.PrintWords Go.Proofs.YthagibkmfgodgaaGreatDoorW.PrintMore Go.Proofs.YthagibkmfgodgaaGreatDoorW.PrintLast

abbrev wRule : ByteArray := ⟨#[114, 117, 108, 101]⟩
abbrev wIn : ByteArray := ⟨#[105, 110]⟩
abbrev wOut : ByteArray := ⟨#[111, 117, 116]⟩
abbrev wAfter : ByteArray := ⟨#[97, 102, 116, 101, 114]⟩
abbrev wOpen : ByteArray := ⟨#[123]⟩
def ruleS (a : ByteArray) (i o f : List ByteArray) (s : PS) : SRule × PS := (⟨a, i, o, f, (stepsP (s.1.length + 1) s).1⟩, mustP 3 brace (stepsP (s.1.length + 1) s).2)
def ruleF (a : ByteArray) (i o : List ByteArray) (s : PS) : SRule × PS := ruleS a i o (ifP wAfter s).1 (ifP wAfter s).2
def ruleO (a : ByteArray) (i : List ByteArray) (s : PS) : SRule × PS := ruleF a i (listP (mustP 1 wOut s)).1 (listP (mustP 1 wOut s)).2
def ruleI (a : ByteArray) (s : PS) : SRule × PS := ruleO a (ifP wIn s).1 (ifP wIn s).2
abbrev RUz : Array Value := #[.string ⟨#[]⟩, .slice none 0 0, .slice none 0 0, .slice none 0 0, .slice none 0 0]
theorem inv_mS (n : Nat) : InvP (fun s => mS s ≤ n) := by
  refine ⟨fun s h => ?_, fun s h hs _ => ?_⟩
  · unfold failsP
    split
    · next hs =>
      have h1 : mS s = s.1.length + 1 := by unfold mS; rw [if_pos hs]
      have h2 := mS_le (s.1, (headW s.1).f1)
      have h3 : (s.1, (headW s.1).f1).1.length = s.1.length := rfl
      omega
    · exact h
  · have h1 : mS s = s.1.length + 1 := by unfold mS; rw [if_pos hs]
    have h2 := mS_le (s.1.tail, s.2)
    have h3 : (s.1.tail, s.2).1.length ≤ s.1.length := tail_len _
    omega
theorem mS_step {s : PS} (hg : GoodW s.1) (hs : s.2 < 0) : mS (stepP s).2 < mS s := by
  have h1 := mS_name hg hs
  have h2 : mS (stepP s).2 ≤ mS (nameP s).2 := (inv_mS _).tail _ _ ((inv_mS _).next ((inv_mS _).must (Nat.le_refl _) (by decide) _) (by decide) _)
  omega
theorem steps_fuel : ∀ (n m : Nat) (s : PS), GoodW s.1 → mS s ≤ n → mS s ≤ m → stepsP n s = stepsP m s
  | 0, 0, _, _, _, _ => rfl
  | 0, m + 1, s, hg, h, _ => by
    unfold stepsP
    rw [if_neg (fun hc => by have := List.length_pos_iff.2 hg.ne; unfold mS at h; omega)]
  | n + 1, 0, s, hg, _, h => by
    unfold stepsP
    rw [if_neg (fun hc => by have := List.length_pos_iff.2 hg.ne; unfold mS at h; omega)]
  | n + 1, m + 1, s, hg, h1, h2 => by
    unfold stepsP
    by_cases hc : s.2 < 0 ∧ atP 3 brace s = false
    · rw [if_pos hc, if_pos hc]
      have := mS_step hg hc.1
      rw [steps_fuel n m _ (inv_good.step hg) (by omega) (by omega)]
    · rw [if_neg hc, if_neg hc]
/-- A row of another type is written. -/
theorem rs_other {α β : Type} {d : Kd α} {d' : Kd β} {e e' base base' : Nat} {v v' : Value} {xs : List α} {ys : List β} {W W1 : World} (h : d.R e W base (fun _ => True) v xs) (h' : d'.R e' W base' (fun _ => True) v' ys) (hE : ∀ q, q ∈ e :: d.E → q ≠ e') (hg : W.grownBy W1 v'.ownBlock) : d.R e W1 base (fun _ => True) v xs := by
  refine Kd.R_mono (Kd.R_grown (Kd.R_bound h) hg (fun k hk he => ?_)) (fun _ _ => trivial)
  obtain ⟨_, _, _, q, hq, cells, hc⟩ := hk
  obtain ⟨inner, ho⟩ := Kd.R_own h'
  obtain ⟨cells', hc'⟩ := own_typed ho k he.symm
  rw [hc] at hc'
  injection hc' with h1
  injection h1 with _ h1
  exact hE q hq h1

set_option maxHeartbeats 8000000 in
set_option maxRecDepth 100000 in
theorem rule_calls (g : Nat) (s : PS) (w : World) (h : PAR w g s) :
    Calls Tryz.prog 52 #[.pointer (some ⟨g, 0, none⟩)] w fun e w' => ∃ v1 v2 v3 v4, e = .returned (.agg #[.string (ruleP s).1.f0, v1, v2, v3, v4]) ∧
      RS w' w.heap.size v1 (ruleP s).1.f1 ∧ RS w' w.heap.size v2 (ruleP s).1.f2 ∧ RS w' w.heap.size v3 (ruleP s).1.f3 ∧ Kd.R k62 62 w' w.heap.size (fun _ => True) v4 (ruleP s).1.f4 ∧ PAR w' g (ruleP s).2 ∧ w.grownBy w' (some g) := by
  have hF0 := (Fly.start h).alloc (.cells RUz 49)
  have hlt := h.has.lt
  have HL := Lib.hid hlt
  have HT : Hid (ruleP s = ruleI (nameP (mustP 1 wRule s)).1 (mustP 3 wOpen (nameP (mustP 1 wRule s)).2)) := rfl
  have HF0 := Lib.hid hF0
  have HR0 : Hid ((w.alloc (.cells RUz 49)).heap[w.heap.size]? = some (.cells RUz 49 (0, 0))) := blk_new w _
  clear hF0 hlt h
  go_enter Tryz.func52, Tryz.ntmps52
  go_wp2_with fail
  refine (must_par g 1 (by decide) wRule s _ HF0.out.par).mono ?_
  rintro e w1 ⟨rfl, hp1, hg1⟩
  generalize mustP 1 wRule s = s1 at HT hp1
  have HR1 := Lib.hid (HF0.out.keeps (Nat.le_refl _) HR0.out hg1)
  have HF1 := Lib.hid (HF0.out.call hp1 hg1)
  clear hp1 hg1 HF0 HR0
  go_wp2_with fail
  refine (name_calls g s1 w1 HF1.out.par).mono ?_
  rintro e w2 ⟨rfl, hp2, hg2⟩
  generalize (nameP s1).1 = a at HT ⊢
  generalize (nameP s1).2 = s2 at HT hp2
  have HR2 := Lib.hid (HF1.out.keeps (Nat.le_refl _) HR1.out hg2)
  have HF2 := Lib.hid (HF1.out.call hp2 hg2)
  have hS : w.heap.size < w2.heap.size := blk_lt HR2.out
  clear hp2 hg2 HF1 HR1
  have HF3 := Lib.hid (HF2.out.alloc (.cells #[.string a, .slice none 0 0, .slice none 0 0, .slice none 0 0, .slice none 0 0] 49))
  have HR3 := Lib.hid (blk_alloc HR2.out (.cells #[.string a, .slice none 0 0, .slice none 0 0, .slice none 0 0, .slice none 0 0] 49))
  have HS3 := Lib.hid (blk_new w2 (.cells #[.string a, .slice none 0 0, .slice none 0 0, .slice none 0 0, .slice none 0 0] 49))
  go_wp2_with fail
  generalize w2.alloc (.cells #[.string a, .slice none 0 0, .slice none 0 0, .slice none 0 0, .slice none 0 0] 49) = w3 at HF3 HR3 HS3 ⊢
  generalize w2.heap.size = S at HS3 hS ⊢
  clear HF2 HR2
  refine (must_par g 3 (by decide) wOpen s2 w3 HF3.out.par).mono ?_
  rintro e w6 ⟨rfl, hp6, hg6⟩
  generalize mustP 3 wOpen s2 = s4 at HT hp6
  have HF6 := Lib.hid (HF3.out.call hp6 hg6)
  have HR6 := Lib.hid (HF3.out.keeps (Nat.le_refl _) HR3.out hg6)
  have HS6 := Lib.hid (HF3.out.keeps (Nat.le_of_lt hS) HS3.out hg6)
  clear hp6 hg6 HF3 HR3 HS3
  go_wp2_with fail
  unfold ruleI at HT
  have hTk := take_par g 1 (by decide) wIn s4 w6 HF6.out.par
  by_cases hi : isP 1 wIn s4 = true
  · have htk : takeP 1 wIn s4 = (true, ((s4).1.tail, (s4).2)) := by unfold takeP; rw [if_pos hi]
    rw [hi, htk] at hTk
    have hIf : ifP wIn s4 = listP ((s4).1.tail, (s4).2) := by unfold ifP; rw [if_pos hi]
    rw [hIf] at HT
    try dsimp only at HT
    clear hIf htk hi
    refine hTk.mono ?_
    rintro e w7 ⟨rfl, hp7, hg7⟩
    clear hTk
    have HF7 := Lib.hid (HF6.out.call hp7 hg7)
    have HR7 := Lib.hid (HF6.out.keeps (Nat.le_refl _) HR6.out hg7)
    have HS7 := Lib.hid (HF6.out.keeps (Nat.le_of_lt hS) HS6.out hg7)
    clear hp7 hg7 HF6 HR6 HS6
    go_wp2_with fail
    refine (list_calls g ((s4).1.tail, (s4).2) w7 HF7.out.par).mono ?_
    rintro e w8 ⟨v8, rfl, hr8, hp8, hg8⟩
    generalize (listP ((s4).1.tail, (s4).2)).1 = n1 at HT hr8
    generalize (listP ((s4).1.tail, (s4).2)).2 = q1 at HT hp8
    have hr := Kd.R_lower hr8 HF7.out.grown.size
    obtain ⟨A1, c1, rfl, _, _⟩ := Kd.R_reads hr
    have HN1 := Lib.hid hr
    clear hr hr8
    have HF8 := Lib.hid (HF7.out.call hp8 hg8)
    have HR8 := Lib.hid (HF7.out.keeps (Nat.le_refl _) HR7.out hg8)
    have HS8 := Lib.hid (HF7.out.keeps (Nat.le_of_lt hS) HS7.out hg8)
    clear hp8 hg8 HF7 HR7 HS7
    have hSx := HS8.out
    have cx : w8.cell? ⟨S, 1, none⟩ = some (.slice none 0 0) := (blk_cell hSx 1).trans rfl
    have fx := blk_frozen hSx 1
    clear hSx
    go_wp2_with fail
    clear cx fx
    have HF9 := Lib.hid (HF8.out.set (Nat.le_of_lt hS) HS8.out (by decide) (by decide) 1 (.slice A1 n1.length c1))
    have HR9 := Lib.hid (blk_far HR8.out (p := ⟨S, 1, none⟩) (Nat.ne_of_lt hS) (.slice A1 n1.length c1))
    have HS9 : Hid ((w8.setCell ⟨S, 1, none⟩ (.slice A1 n1.length c1)).heap[S]? = some (.cells #[.string a, .slice A1 n1.length c1, .slice none 0 0, .slice none 0 0, .slice none 0 0] 49 (0, 0))) := blk_put HS8.out 1 _ rfl
    have HN1_9 := Lib.hid (Kd.R_set HN1.out HS8.out (by decide) 1 (.slice A1 n1.length c1))
    clear HF8 HR8 HS8 HN1
    generalize w8.setCell ⟨S, 1, none⟩ (.slice A1 n1.length c1) = w9 at HF9 HR9 HS9 HN1_9 ⊢
    have HTo : Hid (ruleP s = ruleO a n1 q1) := HT.out
    clear HT
    unfold ruleO at HTo
    try dsimp only at HTo
    have HT := HTo
    clear HTo
    refine (must_par g 1 (by decide) wOut q1 w9 HF9.out.par).mono ?_
    rintro e w10 ⟨rfl, hp10, hg10⟩
    have HF10 := Lib.hid (HF9.out.call hp10 hg10)
    have HR10 := Lib.hid (HF9.out.keeps (Nat.le_refl _) HR9.out hg10)
    have HS10 := Lib.hid (HF9.out.keeps (Nat.le_of_lt hS) HS9.out hg10)
    have HN1_10 := Lib.hid (row_keep HN1_9.out hg10 HL.out)
    clear hp10 hg10 HF9 HR9 HS9 HN1_9
    generalize mustP 1 wOut q1 = q0 at HT HF10
    go_wp2_with fail
    refine (list_calls g q0 w10 HF10.out.par).mono ?_
    rintro e w11 ⟨v11, rfl, hr11, hp11, hg11⟩
    generalize (listP q0).1 = n2 at HT hr11
    generalize (listP q0).2 = q2 at HT hp11
    have hr := Kd.R_lower hr11 HF10.out.grown.size
    obtain ⟨A2, c2, rfl, _, _⟩ := Kd.R_reads hr
    have HN2 := Lib.hid hr
    clear hr hr11
    have HF11 := Lib.hid (HF10.out.call hp11 hg11)
    have HR11 := Lib.hid (HF10.out.keeps (Nat.le_refl _) HR10.out hg11)
    have HS11 := Lib.hid (HF10.out.keeps (Nat.le_of_lt hS) HS10.out hg11)
    have HN1_11 := Lib.hid (row_keep HN1_10.out hg11 HL.out)
    clear hp11 hg11 HF10 HR10 HS10 HN1_10
    have hSx := HS11.out
    have cx : w11.cell? ⟨S, 2, none⟩ = some (.slice none 0 0) := (blk_cell hSx 2).trans rfl
    have fx := blk_frozen hSx 2
    clear hSx
    go_wp2_with fail
    clear cx fx
    have HF12 := Lib.hid (HF11.out.set (Nat.le_of_lt hS) HS11.out (by decide) (by decide) 2 (.slice A2 n2.length c2))
    have HR12 := Lib.hid (blk_far HR11.out (p := ⟨S, 2, none⟩) (Nat.ne_of_lt hS) (.slice A2 n2.length c2))
    have HS12 : Hid ((w11.setCell ⟨S, 2, none⟩ (.slice A2 n2.length c2)).heap[S]? = some (.cells #[.string a, .slice A1 n1.length c1, .slice A2 n2.length c2, .slice none 0 0, .slice none 0 0] 49 (0, 0))) := blk_put HS11.out 2 _ rfl
    have HN1_12 := Lib.hid (Kd.R_set HN1_11.out HS11.out (by decide) 2 (.slice A2 n2.length c2))
    have HN2_12 := Lib.hid (Kd.R_set HN2.out HS11.out (by decide) 2 (.slice A2 n2.length c2))
    clear HF11 HR11 HS11 HN1_11 HN2
    generalize w11.setCell ⟨S, 2, none⟩ (.slice A2 n2.length c2) = w12 at HF12 HR12 HS12 HN1_12 HN2_12 ⊢
    unfold ruleF at HT
    try dsimp only at HT
    have hTk := take_par g 1 (by decide) wAfter q2 w12 HF12.out.par
    by_cases hi : isP 1 wAfter q2 = true
    · have htk : takeP 1 wAfter q2 = (true, ((q2).1.tail, (q2).2)) := by unfold takeP; rw [if_pos hi]
      rw [hi, htk] at hTk
      have hIf : ifP wAfter q2 = listP ((q2).1.tail, (q2).2) := by unfold ifP; rw [if_pos hi]
      rw [hIf] at HT
      try dsimp only at HT
      clear hIf htk hi
      refine hTk.mono ?_
      rintro e w13 ⟨rfl, hp13, hg13⟩
      clear hTk
      have HF13 := Lib.hid (HF12.out.call hp13 hg13)
      have HR13 := Lib.hid (HF12.out.keeps (Nat.le_refl _) HR12.out hg13)
      have HS13 := Lib.hid (HF12.out.keeps (Nat.le_of_lt hS) HS12.out hg13)
      have HN1_13 := Lib.hid (row_keep HN1_12.out hg13 HL.out)
      have HN2_13 := Lib.hid (row_keep HN2_12.out hg13 HL.out)
      clear hp13 hg13 HF12 HR12 HS12 HN1_12 HN2_12
      go_wp2_with fail
      refine (list_calls g ((q2).1.tail, (q2).2) w13 HF13.out.par).mono ?_
      rintro e w14 ⟨v14, rfl, hr14, hp14, hg14⟩
      generalize (listP ((q2).1.tail, (q2).2)).1 = n3 at HT hr14
      generalize (listP ((q2).1.tail, (q2).2)).2 = q3 at HT hp14
      have hr := Kd.R_lower hr14 HF13.out.grown.size
      obtain ⟨A3, c3, rfl, _, _⟩ := Kd.R_reads hr
      have HN3 := Lib.hid hr
      clear hr hr14
      have HF14 := Lib.hid (HF13.out.call hp14 hg14)
      have HR14 := Lib.hid (HF13.out.keeps (Nat.le_refl _) HR13.out hg14)
      have HS14 := Lib.hid (HF13.out.keeps (Nat.le_of_lt hS) HS13.out hg14)
      have HN1_14 := Lib.hid (row_keep HN1_13.out hg14 HL.out)
      have HN2_14 := Lib.hid (row_keep HN2_13.out hg14 HL.out)
      clear hp14 hg14 HF13 HR13 HS13 HN1_13 HN2_13
      have hSx := HS14.out
      have cx : w14.cell? ⟨S, 3, none⟩ = some (.slice none 0 0) := (blk_cell hSx 3).trans rfl
      have fx := blk_frozen hSx 3
      clear hSx
      go_wp2_with fail
      clear cx fx
      have HF15 := Lib.hid (HF14.out.set (Nat.le_of_lt hS) HS14.out (by decide) (by decide) 3 (.slice A3 n3.length c3))
      have HR15 := Lib.hid (blk_far HR14.out (p := ⟨S, 3, none⟩) (Nat.ne_of_lt hS) (.slice A3 n3.length c3))
      have HS15 : Hid ((w14.setCell ⟨S, 3, none⟩ (.slice A3 n3.length c3)).heap[S]? = some (.cells #[.string a, .slice A1 n1.length c1, .slice A2 n2.length c2, .slice A3 n3.length c3, .slice none 0 0] 49 (0, 0))) := blk_put HS14.out 3 _ rfl
      have HN1_15 := Lib.hid (Kd.R_set HN1_14.out HS14.out (by decide) 3 (.slice A3 n3.length c3))
      have HN2_15 := Lib.hid (Kd.R_set HN2_14.out HS14.out (by decide) 3 (.slice A3 n3.length c3))
      have HN3_15 := Lib.hid (Kd.R_set HN3.out HS14.out (by decide) 3 (.slice A3 n3.length c3))
      clear HF14 HR14 HS14 HN1_14 HN2_14 HN3
      generalize w14.setCell ⟨S, 3, none⟩ (.slice A3 n3.length c3) = w15 at HF15 HR15 HS15 HN1_15 HN2_15 HN3_15 ⊢
      unfold ruleS at HT
      try dsimp only at HT
      have HTA : Hid ((stepsP ((q3).1.length + 1) (q3)).1 = (stepsP (mS (q3)) (q3)).1 ∧ (stepsP ((q3).1.length + 1) (q3)).2 = (stepsP (mS (q3)) (q3)).2) := by
        rw [steps_fuel ((q3).1.length + 1) (mS (q3)) (q3) HF15.out.par.good (mS_le _) (Nat.le_refl _)]
        exact ⟨rfl, rfl⟩
      generalize (stepsP ((q3).1.length + 1) (q3)).1 = T1 at HT HTA
      generalize (stepsP ((q3).1.length + 1) (q3)).2 = T2 at HT HTA
      have hm4 : mS (q3) ≤ 100001 := Nat.le_trans (mS_le _) (Nat.add_le_add_right HF15.out.par.len 1)
      generalize q3 = sL at HTA hm4 HF15
      go_loopg [] (mS sL) (fun gg wr => ∃ (acc : List SStep) (s2 : PS) (A : Option Addr) (c : Nat), mS s2 ≤ gg ∧ acc.length + mS s2 ≤ mS sL ∧ Aside0 (acc ++ (stepsP (mS s2) s2).1 = T1 ∧ (stepsP (mS s2) s2).2 = T2) ∧
        Aside0 (Kd.R k62 62 wr w.heap.size (fun _ => True) (.slice A acc.length c) acc) ∧ Aside0 (Fly w g wr s2) ∧ Aside0 (wr.heap[w.heap.size]? = some (.cells RUz 49 (0, 0))) ∧ Aside0 (wr.heap[S]? = some (.cells #[.string a, .slice A1 n1.length c1, .slice A2 n2.length c2, .slice A3 n3.length c3, .slice A acc.length c] 49 (0, 0))) ∧ Aside0 (RS wr w.heap.size (.slice A1 n1.length c1) n1) ∧ Aside0 (RS wr w.heap.size (.slice A2 n2.length c2) n2) ∧ Aside0 (RS wr w.heap.size (.slice A3 n3.length c3) n3))
      case atStart => exact ⟨[], sL, none, 0, Nat.le_refl _, by simp, ⟨by rw [List.nil_append]; exact ⟨HTA.out.1.symm, HTA.out.2.symm⟩⟩, ⟨Kd.R_nil _ _ _ _ _⟩, ⟨HF15.out⟩, ⟨HR15.out⟩, ⟨HS15.out⟩, ⟨HN1_15.out⟩, ⟨HN2_15.out⟩, ⟨HN3_15.out⟩⟩
      case round =>
        obtain ⟨acc, s2, A, c, hgk, hal, HK, HA7, HF7, HR7, HS7, HN1_7, HN2_7, HN3_7⟩ := hrel
        have hO := ok_calls g s2 wr HF7.out.par.has
        have hIs := is_calls g 3 brace s2 wr HF7.out.par.has HF7.out.par.good.ne
        by_cases hb : s2.2 < 0
        · have hbd : decide (s2.2 < 0) = true := by simpa using hb
          rw [hbd] at hO
          by_cases hk : atP 3 brace s2 = false
          · have hib : isP 3 brace s2 = false := by unfold isP; rw [hk]; simp
            rw [hib] at hIs
            have hN := fun W hW => step_calls g s2 W hW
            have hmn := mS_step HF7.out.par.good hb
            have HKn : Hid (((acc ++ [(stepP s2).1]) ++ (stepsP (mS (stepP s2).2) (stepP s2).2).1 = T1 ∧ (stepsP (mS (stepP s2).2) (stepP s2).2).2 = T2)) := by
              have hK := HK.out
              obtain ⟨n, hn⟩ : ∃ n, mS s2 = n + 1 := ⟨mS s2 - 1, by omega⟩
              rw [hn, stepsP, if_pos ⟨hb, hk⟩, steps_fuel n (mS (stepP s2).2) (stepP s2).2 (inv_good.step HF7.out.par.good) (by omega) (Nat.le_refl _)] at hK
              exact ⟨by rw [← hK.1]; simp, hK.2⟩
            generalize (stepP s2).1 = x at HKn hN
            generalize (stepP s2).2 = s3 at HKn hN hmn
            have hld : wr.cell? ⟨S, 4, none⟩ = some (.slice A acc.length c) := (blk_cell HS7.out 4).trans rfl
            have hal2 : acc.length ≤ 200000 := by omega
            clear hbd hb hk hib
            go_wp2_with (first | (go_at_call 51; refine hO.mono ?_; rintro e w' ⟨rfl, rfl⟩) | (go_at_call 85; refine hIs.mono ?_; rintro e w' ⟨rfl, rfl⟩))
            have HFd := Lib.hid (HF7.out.below (W1 := wr.drew) ⟨rfl, rfl, rfl, Nat.le_refl _, fun _ _ => rfl⟩)
            have HAd : Hid (Kd.R k62 62 wr.drew w.heap.size (fun _ => True) (.slice A acc.length c) acc) := Kd.R_below HA7.out ⟨rfl, rfl, rfl, Nat.le_refl _, fun _ _ => rfl⟩
            have HN1_d : Hid (RS wr.drew w.heap.size (.slice A1 n1.length c1) n1) := Kd.R_below HN1_7.out ⟨rfl, rfl, rfl, Nat.le_refl _, fun _ _ => rfl⟩
            have HN2_d : Hid (RS wr.drew w.heap.size (.slice A2 n2.length c2) n2) := Kd.R_below HN2_7.out ⟨rfl, rfl, rfl, Nat.le_refl _, fun _ _ => rfl⟩
            have HN3_d : Hid (RS wr.drew w.heap.size (.slice A3 n3.length c3) n3) := Kd.R_below HN3_7.out ⟨rfl, rfl, rfl, Nat.le_refl _, fun _ _ => rfl⟩
            have HRd := Lib.hid (blk_drew HR7.out)
            have HSd := Lib.hid (blk_drew HS7.out)
            clear hO hIs
            go_region_law (first
              | (refine Kd.R_append_step k62 (w0 := w8) w.heap.size (by rfl) (.tmp 34) (.tmp 37) 47 62 (.agg #[.string ⟨#[]⟩, .int .i64 0, .slice none 0 0, .slice none 0 0, .int .i64 0]) 80 rfl Tryz.underlying47 info62 rfl (by decide) (by decide) (.slice A acc.length c) acc x [.string x.f0, .int .i64 x.f1, .slice AX x.f2.length cX, .slice AY x.f3.length cY, .int .i64 x.f4] (fun _ => True) (fun k_ => True ∧ some k_ ≠ (Value.slice A acc.length c).ownBlock) (by rfl) (by rfl) (k62_mkM _ _ _ x HX8.out HY8.out) (fun _ hk => hk) (fun _ _ => trivial) HA8.out (Below.refl _ _) HF8.out.grown.size ?aL ?_; (case aL => omega); intro v1 w9 ho hb hg hat; obtain ⟨AN, cN, rfl, _, _⟩ := Kd.R_reads ho; have HA9 := Lib.hid ho; have HF9 := Lib.hid (HF8.out.row (Kd.R_own HA8.out).choose_spec (by decide) (by decide) (Nat.le_refl _) hb hg); have HR9 := Lib.hid (blk_grown HR8.out hg (Kd.R_ne HA8.out HR8.out (by decide))); have HS9 := Lib.hid (blk_grown HS8.out hg (Kd.R_ne HA8.out HS8.out (by decide))); have HN1_9 := Lib.hid (rs_other HN1_8.out HA8.out (by decide) hg); have HN2_9 := Lib.hid (rs_other HN2_8.out HA8.out (by decide) hg); have HN3_9 := Lib.hid (rs_other HN3_8.out HA8.out (by decide) hg); have hst : w9.cell? ⟨S, 4, none⟩ = some (.slice A acc.length c) := (blk_cell HS9.out 4).trans rfl; have hfr : w9.frozen? ⟨S, 4, none⟩ = false := blk_frozen HS9.out 4; clear ho hb hg hat)
              | (go_simp; go_at_call 86; refine (hN _ HFd.out.par).mono ?_; rintro e w8 ⟨vx, vy, rfl, hx, hy, hp8, hg8⟩; obtain ⟨AX, cX, rfl, _, _⟩ := Kd.R_reads hx; obtain ⟨AY, cY, rfl, _, _⟩ := Kd.R_reads hy; have HX8 := Lib.hid (Kd.R_lower (Kd.R_new hx (Kd.R_own HAd.out).choose_spec) HFd.out.grown.size); have HY8 := Lib.hid (Kd.R_lower (Kd.R_new hy (Kd.R_own HAd.out).choose_spec) HFd.out.grown.size); have HF8 := Lib.hid (HFd.out.call hp8 hg8); have HR8 := Lib.hid (HFd.out.keeps (Nat.le_refl _) HRd.out hg8); have HS8 := Lib.hid (HFd.out.keeps (Nat.le_of_lt hS) HSd.out hg8); have HA8 := Lib.hid (row_keep HAd.out hg8 HL.out); have HN1_8 := Lib.hid (row_keep HN1_d.out hg8 HL.out); have HN2_8 := Lib.hid (row_keep HN2_d.out hg8 HL.out); have HN3_8 := Lib.hid (row_keep HN3_d.out hg8 HL.out); have hl8 : w8.cell? ⟨S, 4, none⟩ = some (.slice A acc.length c) := (blk_cell HS8.out 4).trans rfl; have hl8a : ∀ ob : Obj, (w8.alloc ob).cell? ⟨S, 4, none⟩ = some (.slice A acc.length c) := fun ob => (blk_cell (blk_alloc HS8.out ob) 4).trans rfl; clear hx hy hp8 hg8))
            all_goals
              go_wp2
              go_roundg (mS s3)
              case measure => omega
              case rel =>
                have hlen : acc.length + 1 = (acc ++ [x]).length := by simp
                simp only [hlen]
                refine ⟨acc ++ [x], s3, AN, cN, Nat.le_refl _, ?_, ⟨HKn.out⟩, ⟨Kd.R_set HA9.out HS9.out (by decide) 4 _⟩, ⟨HF9.out.set (Nat.le_of_lt hS) HS9.out (by decide) (by decide) 4 _⟩, ⟨blk_far HR9.out (p := ⟨S, 4, none⟩) (Nat.ne_of_lt hS) _⟩, ⟨?_⟩, ⟨Kd.R_set HN1_9.out HS9.out (by decide) 4 _⟩, ⟨Kd.R_set HN2_9.out HS9.out (by decide) 4 _⟩, ⟨Kd.R_set HN3_9.out HS9.out (by decide) 4 _⟩⟩
                · rw [List.length_append, List.length_singleton]; omega
                · exact blk_put HS9.out 4 _ rfl
          · have hib : isP 3 brace s2 = true := by
              unfold isP
              rw [hbd]
              simp at hk
              rw [hk]
              rfl
            rw [hib] at hIs
            have HKn : acc = T1 ∧ s2 = T2 := by
              have hK := HK.out
              have h0 : stepsP (mS s2) s2 = ([], s2) := by
                generalize mS s2 = n
                cases n with
                | zero => rfl
                | succ n => unfold stepsP; rw [if_neg (fun h => hk h.2)]
              rw [h0, List.append_nil] at hK
              exact hK
            obtain ⟨rfl, rfl⟩ := HKn
            clear hbd hb hk hib HK
            go_wp2_with (first | (go_at_call 51; refine hO.mono ?_; rintro e w' ⟨rfl, rfl⟩) | (go_at_call 85; refine hIs.mono ?_; rintro e w' ⟨rfl, rfl⟩))
            clear hO hIs
            have HN4_7 := HA7
            refine (must_par g 3 (by decide) brace s2 wr HF7.out.par).mono ?_
            rintro e w8 ⟨rfl, hp8, hg8⟩
            have HF8 := Lib.hid (HF7.out.call hp8 hg8)
            have HR8 := Lib.hid (HF7.out.keeps (Nat.le_refl _) HR7.out hg8)
            have HS8 := Lib.hid (HF7.out.keeps (Nat.le_of_lt hS) HS7.out hg8)
            have HN1_8 := Lib.hid (row_keep HN1_7.out hg8 HL.out)
            have HN2_8 := Lib.hid (row_keep HN2_7.out hg8 HL.out)
            have HN3_8 := Lib.hid (row_keep HN3_7.out hg8 HL.out)
            have HN4_8 := Lib.hid (row_keep HN4_7.out hg8 HL.out)
            clear hp8 hg8 HF7 HR7 HS7 HN1_7 HN2_7 HN3_7 HN4_7
            have hSe := HS8.out
            have k0 : w8.cell? ⟨S, 0, none⟩ = some (.string a) := (blk_cell hSe 0).trans rfl
            have k1 : w8.cell? ⟨S, 1, none⟩ = some (.slice A1 n1.length c1) := (blk_cell hSe 1).trans rfl
            have k2 : w8.cell? ⟨S, 2, none⟩ = some (.slice A2 n2.length c2) := (blk_cell hSe 2).trans rfl
            have k3 : w8.cell? ⟨S, 3, none⟩ = some (.slice A3 n3.length c3) := (blk_cell hSe 3).trans rfl
            have k4 : w8.cell? ⟨S, 4, none⟩ = some (.slice A acc.length c) := (blk_cell hSe 4).trans rfl
            have hRe := HR8.out
            have r0 : w8.cell? ⟨w.heap.size, 0, none⟩ = some (.string ⟨#[]⟩) := (blk_cell hRe 0).trans rfl
            have z0 := blk_frozen hRe 0
            have r1 : w8.cell? ⟨w.heap.size, 1, none⟩ = some (.slice none 0 0) := (blk_cell hRe 1).trans rfl
            have z1 := blk_frozen hRe 1
            have r2 : w8.cell? ⟨w.heap.size, 2, none⟩ = some (.slice none 0 0) := (blk_cell hRe 2).trans rfl
            have z2 := blk_frozen hRe 2
            have r3 : w8.cell? ⟨w.heap.size, 3, none⟩ = some (.slice none 0 0) := (blk_cell hRe 3).trans rfl
            have z3 := blk_frozen hRe 3
            have r4 : w8.cell? ⟨w.heap.size, 4, none⟩ = some (.slice none 0 0) := (blk_cell hRe 4).trans rfl
            have z4 := blk_frozen hRe 4
            clear hSe hRe
            go_wp2
            have hs := set5_blk (.string a) (.slice A1 n1.length c1) (.slice A2 n2.length c2) (.slice A3 n3.length c3) (.slice A acc.length c) HR8.out
            have hF := HF8.out.set5 (Nat.le_refl _) (.string a) (.slice A1 n1.length c1) (.slice A2 n2.length c2) (.slice A3 n3.length c3) (.slice A acc.length c) HR8.out (by decide) (by decide)
            have hA := RS.set5 HN1_8.out (.string a) (.slice A1 n1.length c1) (.slice A2 n2.length c2) (.slice A3 n3.length c3) (.slice A acc.length c) HR8.out (by decide)
            have hB := RS.set5 HN2_8.out (.string a) (.slice A1 n1.length c1) (.slice A2 n2.length c2) (.slice A3 n3.length c3) (.slice A acc.length c) HR8.out (by decide)
            have hC := RS.set5 HN3_8.out (.string a) (.slice A1 n1.length c1) (.slice A2 n2.length c2) (.slice A3 n3.length c3) (.slice A acc.length c) HR8.out (by decide)
            have hD := R_set5 HN4_8.out (.string a) (.slice A1 n1.length c1) (.slice A2 n2.length c2) (.slice A3 n3.length c3) (.slice A acc.length c) HR8.out (by decide)
            clear k0 k1 k2 k3 k4 r0 r1 r2 r3 r4 z0 z1 z2 z3 z4
            unfold set5 at hs hF hA hB hC hD
            generalize (((((w8.setCell ⟨w.heap.size, 0, none⟩ (.string a)).setCell ⟨w.heap.size, 1, none⟩ (.slice A1 n1.length c1)).setCell ⟨w.heap.size, 2, none⟩ (.slice A2 n2.length c2)).setCell ⟨w.heap.size, 3, none⟩ (.slice A3 n3.length c3)).setCell ⟨w.heap.size, 4, none⟩ (.slice A acc.length c)) = wE at hs hF hA hB hC hD ⊢
            have g0 := (blk_cell hs 0).trans rfl
            have g1 := (blk_cell hs 1).trans rfl
            have g2 := (blk_cell hs 2).trans rfl
            have g3 := (blk_cell hs 3).trans rfl
            have g4 := (blk_cell hs 4).trans rfl
            exact bodyPost_ret (v := .agg #[.string a, .slice A1 n1.length c1, .slice A2 n2.length c2, .slice A3 n3.length c3, .slice A acc.length c]) (by simp [results, Tryz.results52, go_sem, g0, g1, g2, g3, g4]) rfl (by
              rw [HT.out]
              exact ⟨_, _, _, _, rfl, hA, hB, hC, hD, hF.par, hF.grown⟩)
        · have hbd : decide (s2.2 < 0) = false := by simpa using hb
          rw [hbd] at hO
          have HKn : acc = T1 ∧ s2 = T2 := by
            have hK := HK.out
            have h0 : stepsP (mS s2) s2 = ([], s2) := by
              generalize mS s2 = n
              cases n with
              | zero => rfl
              | succ n => unfold stepsP; rw [if_neg (fun h => hb h.1)]
            rw [h0, List.append_nil] at hK
            exact hK
          obtain ⟨rfl, rfl⟩ := HKn
          clear hbd hb HK hIs
          go_wp2_with (go_at_call 51; refine hO.mono ?_; rintro e w' ⟨rfl, rfl⟩)
          clear hO
          have HN4_7 := HA7
          refine (must_par g 3 (by decide) brace s2 wr HF7.out.par).mono ?_
          rintro e w8 ⟨rfl, hp8, hg8⟩
          have HF8 := Lib.hid (HF7.out.call hp8 hg8)
          have HR8 := Lib.hid (HF7.out.keeps (Nat.le_refl _) HR7.out hg8)
          have HS8 := Lib.hid (HF7.out.keeps (Nat.le_of_lt hS) HS7.out hg8)
          have HN1_8 := Lib.hid (row_keep HN1_7.out hg8 HL.out)
          have HN2_8 := Lib.hid (row_keep HN2_7.out hg8 HL.out)
          have HN3_8 := Lib.hid (row_keep HN3_7.out hg8 HL.out)
          have HN4_8 := Lib.hid (row_keep HN4_7.out hg8 HL.out)
          clear hp8 hg8 HF7 HR7 HS7 HN1_7 HN2_7 HN3_7 HN4_7
          have hSe := HS8.out
          have k0 : w8.cell? ⟨S, 0, none⟩ = some (.string a) := (blk_cell hSe 0).trans rfl
          have k1 : w8.cell? ⟨S, 1, none⟩ = some (.slice A1 n1.length c1) := (blk_cell hSe 1).trans rfl
          have k2 : w8.cell? ⟨S, 2, none⟩ = some (.slice A2 n2.length c2) := (blk_cell hSe 2).trans rfl
          have k3 : w8.cell? ⟨S, 3, none⟩ = some (.slice A3 n3.length c3) := (blk_cell hSe 3).trans rfl
          have k4 : w8.cell? ⟨S, 4, none⟩ = some (.slice A acc.length c) := (blk_cell hSe 4).trans rfl
          have hRe := HR8.out
          have r0 : w8.cell? ⟨w.heap.size, 0, none⟩ = some (.string ⟨#[]⟩) := (blk_cell hRe 0).trans rfl
          have z0 := blk_frozen hRe 0
          have r1 : w8.cell? ⟨w.heap.size, 1, none⟩ = some (.slice none 0 0) := (blk_cell hRe 1).trans rfl
          have z1 := blk_frozen hRe 1
          have r2 : w8.cell? ⟨w.heap.size, 2, none⟩ = some (.slice none 0 0) := (blk_cell hRe 2).trans rfl
          have z2 := blk_frozen hRe 2
          have r3 : w8.cell? ⟨w.heap.size, 3, none⟩ = some (.slice none 0 0) := (blk_cell hRe 3).trans rfl
          have z3 := blk_frozen hRe 3
          have r4 : w8.cell? ⟨w.heap.size, 4, none⟩ = some (.slice none 0 0) := (blk_cell hRe 4).trans rfl
          have z4 := blk_frozen hRe 4
          clear hSe hRe
          go_wp2
          have hs := set5_blk (.string a) (.slice A1 n1.length c1) (.slice A2 n2.length c2) (.slice A3 n3.length c3) (.slice A acc.length c) HR8.out
          have hF := HF8.out.set5 (Nat.le_refl _) (.string a) (.slice A1 n1.length c1) (.slice A2 n2.length c2) (.slice A3 n3.length c3) (.slice A acc.length c) HR8.out (by decide) (by decide)
          have hA := RS.set5 HN1_8.out (.string a) (.slice A1 n1.length c1) (.slice A2 n2.length c2) (.slice A3 n3.length c3) (.slice A acc.length c) HR8.out (by decide)
          have hB := RS.set5 HN2_8.out (.string a) (.slice A1 n1.length c1) (.slice A2 n2.length c2) (.slice A3 n3.length c3) (.slice A acc.length c) HR8.out (by decide)
          have hC := RS.set5 HN3_8.out (.string a) (.slice A1 n1.length c1) (.slice A2 n2.length c2) (.slice A3 n3.length c3) (.slice A acc.length c) HR8.out (by decide)
          have hD := R_set5 HN4_8.out (.string a) (.slice A1 n1.length c1) (.slice A2 n2.length c2) (.slice A3 n3.length c3) (.slice A acc.length c) HR8.out (by decide)
          clear k0 k1 k2 k3 k4 r0 r1 r2 r3 r4 z0 z1 z2 z3 z4
          unfold set5 at hs hF hA hB hC hD
          generalize (((((w8.setCell ⟨w.heap.size, 0, none⟩ (.string a)).setCell ⟨w.heap.size, 1, none⟩ (.slice A1 n1.length c1)).setCell ⟨w.heap.size, 2, none⟩ (.slice A2 n2.length c2)).setCell ⟨w.heap.size, 3, none⟩ (.slice A3 n3.length c3)).setCell ⟨w.heap.size, 4, none⟩ (.slice A acc.length c)) = wE at hs hF hA hB hC hD ⊢
          have g0 := (blk_cell hs 0).trans rfl
          have g1 := (blk_cell hs 1).trans rfl
          have g2 := (blk_cell hs 2).trans rfl
          have g3 := (blk_cell hs 3).trans rfl
          have g4 := (blk_cell hs 4).trans rfl
          exact bodyPost_ret (v := .agg #[.string a, .slice A1 n1.length c1, .slice A2 n2.length c2, .slice A3 n3.length c3, .slice A acc.length c]) (by simp [results, Tryz.results52, go_sem, g0, g1, g2, g3, g4]) rfl (by
            rw [HT.out]
            exact ⟨_, _, _, _, rfl, hA, hB, hC, hD, hF.par, hF.grown⟩)
    · have hi' : isP 1 wAfter q2 = false := by simpa using hi
      have htk : takeP 1 wAfter q2 = (false, q2) := by unfold takeP; rw [if_neg hi]
      rw [hi', htk] at hTk
      have hIf : ifP wAfter q2 = ([], q2) := by unfold ifP; rw [if_neg hi]
      rw [hIf] at HT
      try dsimp only at HT
      clear hIf htk hi hi'
      refine hTk.mono ?_
      rintro e w13 ⟨rfl, hp13, hg13⟩
      clear hTk
      have HF13 := Lib.hid (HF12.out.call hp13 hg13)
      have HR13 := Lib.hid (HF12.out.keeps (Nat.le_refl _) HR12.out hg13)
      have HS13 := Lib.hid (HF12.out.keeps (Nat.le_of_lt hS) HS12.out hg13)
      have HN1_13 := Lib.hid (row_keep HN1_12.out hg13 HL.out)
      have HN2_13 := Lib.hid (row_keep HN2_12.out hg13 HL.out)
      clear hp13 hg13 HF12 HR12 HS12 HN1_12 HN2_12
      go_wp2_with fail
      unfold ruleS at HT
      try dsimp only at HT
      have HTA : Hid ((stepsP ((q2).1.length + 1) (q2)).1 = (stepsP (mS (q2)) (q2)).1 ∧ (stepsP ((q2).1.length + 1) (q2)).2 = (stepsP (mS (q2)) (q2)).2) := by
        rw [steps_fuel ((q2).1.length + 1) (mS (q2)) (q2) HF13.out.par.good (mS_le _) (Nat.le_refl _)]
        exact ⟨rfl, rfl⟩
      generalize (stepsP ((q2).1.length + 1) (q2)).1 = T1 at HT HTA
      generalize (stepsP ((q2).1.length + 1) (q2)).2 = T2 at HT HTA
      have hm4 : mS (q2) ≤ 100001 := Nat.le_trans (mS_le _) (Nat.add_le_add_right HF13.out.par.len 1)
      generalize q2 = sL at HTA hm4 HF13
      go_loopg [] (mS sL) (fun gg wr => ∃ (acc : List SStep) (s2 : PS) (A : Option Addr) (c : Nat), mS s2 ≤ gg ∧ acc.length + mS s2 ≤ mS sL ∧ Aside0 (acc ++ (stepsP (mS s2) s2).1 = T1 ∧ (stepsP (mS s2) s2).2 = T2) ∧
        Aside0 (Kd.R k62 62 wr w.heap.size (fun _ => True) (.slice A acc.length c) acc) ∧ Aside0 (Fly w g wr s2) ∧ Aside0 (wr.heap[w.heap.size]? = some (.cells RUz 49 (0, 0))) ∧ Aside0 (wr.heap[S]? = some (.cells #[.string a, .slice A1 n1.length c1, .slice A2 n2.length c2, .slice none 0 0, .slice A acc.length c] 49 (0, 0))) ∧ Aside0 (RS wr w.heap.size (.slice A1 n1.length c1) n1) ∧ Aside0 (RS wr w.heap.size (.slice A2 n2.length c2) n2))
      case atStart => exact ⟨[], sL, none, 0, Nat.le_refl _, by simp, ⟨by rw [List.nil_append]; exact ⟨HTA.out.1.symm, HTA.out.2.symm⟩⟩, ⟨Kd.R_nil _ _ _ _ _⟩, ⟨HF13.out⟩, ⟨HR13.out⟩, ⟨HS13.out⟩, ⟨HN1_13.out⟩, ⟨HN2_13.out⟩⟩
      case round =>
        obtain ⟨acc, s2, A, c, hgk, hal, HK, HA7, HF7, HR7, HS7, HN1_7, HN2_7⟩ := hrel
        have hO := ok_calls g s2 wr HF7.out.par.has
        have hIs := is_calls g 3 brace s2 wr HF7.out.par.has HF7.out.par.good.ne
        by_cases hb : s2.2 < 0
        · have hbd : decide (s2.2 < 0) = true := by simpa using hb
          rw [hbd] at hO
          by_cases hk : atP 3 brace s2 = false
          · have hib : isP 3 brace s2 = false := by unfold isP; rw [hk]; simp
            rw [hib] at hIs
            have hN := fun W hW => step_calls g s2 W hW
            have hmn := mS_step HF7.out.par.good hb
            have HKn : Hid (((acc ++ [(stepP s2).1]) ++ (stepsP (mS (stepP s2).2) (stepP s2).2).1 = T1 ∧ (stepsP (mS (stepP s2).2) (stepP s2).2).2 = T2)) := by
              have hK := HK.out
              obtain ⟨n, hn⟩ : ∃ n, mS s2 = n + 1 := ⟨mS s2 - 1, by omega⟩
              rw [hn, stepsP, if_pos ⟨hb, hk⟩, steps_fuel n (mS (stepP s2).2) (stepP s2).2 (inv_good.step HF7.out.par.good) (by omega) (Nat.le_refl _)] at hK
              exact ⟨by rw [← hK.1]; simp, hK.2⟩
            generalize (stepP s2).1 = x at HKn hN
            generalize (stepP s2).2 = s3 at HKn hN hmn
            have hld : wr.cell? ⟨S, 4, none⟩ = some (.slice A acc.length c) := (blk_cell HS7.out 4).trans rfl
            have hal2 : acc.length ≤ 200000 := by omega
            clear hbd hb hk hib
            go_wp2_with (first | (go_at_call 51; refine hO.mono ?_; rintro e w' ⟨rfl, rfl⟩) | (go_at_call 85; refine hIs.mono ?_; rintro e w' ⟨rfl, rfl⟩))
            have HFd := Lib.hid (HF7.out.below (W1 := wr.drew) ⟨rfl, rfl, rfl, Nat.le_refl _, fun _ _ => rfl⟩)
            have HAd : Hid (Kd.R k62 62 wr.drew w.heap.size (fun _ => True) (.slice A acc.length c) acc) := Kd.R_below HA7.out ⟨rfl, rfl, rfl, Nat.le_refl _, fun _ _ => rfl⟩
            have HN1_d : Hid (RS wr.drew w.heap.size (.slice A1 n1.length c1) n1) := Kd.R_below HN1_7.out ⟨rfl, rfl, rfl, Nat.le_refl _, fun _ _ => rfl⟩
            have HN2_d : Hid (RS wr.drew w.heap.size (.slice A2 n2.length c2) n2) := Kd.R_below HN2_7.out ⟨rfl, rfl, rfl, Nat.le_refl _, fun _ _ => rfl⟩
            have HRd := Lib.hid (blk_drew HR7.out)
            have HSd := Lib.hid (blk_drew HS7.out)
            clear hO hIs
            go_region_law (first
              | (refine Kd.R_append_step k62 (w0 := w8) w.heap.size (by rfl) (.tmp 34) (.tmp 37) 47 62 (.agg #[.string ⟨#[]⟩, .int .i64 0, .slice none 0 0, .slice none 0 0, .int .i64 0]) 80 rfl Tryz.underlying47 info62 rfl (by decide) (by decide) (.slice A acc.length c) acc x [.string x.f0, .int .i64 x.f1, .slice AX x.f2.length cX, .slice AY x.f3.length cY, .int .i64 x.f4] (fun _ => True) (fun k_ => True ∧ some k_ ≠ (Value.slice A acc.length c).ownBlock) (by rfl) (by rfl) (k62_mkM _ _ _ x HX8.out HY8.out) (fun _ hk => hk) (fun _ _ => trivial) HA8.out (Below.refl _ _) HF8.out.grown.size ?aL ?_; (case aL => omega); intro v1 w9 ho hb hg hat; obtain ⟨AN, cN, rfl, _, _⟩ := Kd.R_reads ho; have HA9 := Lib.hid ho; have HF9 := Lib.hid (HF8.out.row (Kd.R_own HA8.out).choose_spec (by decide) (by decide) (Nat.le_refl _) hb hg); have HR9 := Lib.hid (blk_grown HR8.out hg (Kd.R_ne HA8.out HR8.out (by decide))); have HS9 := Lib.hid (blk_grown HS8.out hg (Kd.R_ne HA8.out HS8.out (by decide))); have HN1_9 := Lib.hid (rs_other HN1_8.out HA8.out (by decide) hg); have HN2_9 := Lib.hid (rs_other HN2_8.out HA8.out (by decide) hg); have hst : w9.cell? ⟨S, 4, none⟩ = some (.slice A acc.length c) := (blk_cell HS9.out 4).trans rfl; have hfr : w9.frozen? ⟨S, 4, none⟩ = false := blk_frozen HS9.out 4; clear ho hb hg hat)
              | (go_simp; go_at_call 86; refine (hN _ HFd.out.par).mono ?_; rintro e w8 ⟨vx, vy, rfl, hx, hy, hp8, hg8⟩; obtain ⟨AX, cX, rfl, _, _⟩ := Kd.R_reads hx; obtain ⟨AY, cY, rfl, _, _⟩ := Kd.R_reads hy; have HX8 := Lib.hid (Kd.R_lower (Kd.R_new hx (Kd.R_own HAd.out).choose_spec) HFd.out.grown.size); have HY8 := Lib.hid (Kd.R_lower (Kd.R_new hy (Kd.R_own HAd.out).choose_spec) HFd.out.grown.size); have HF8 := Lib.hid (HFd.out.call hp8 hg8); have HR8 := Lib.hid (HFd.out.keeps (Nat.le_refl _) HRd.out hg8); have HS8 := Lib.hid (HFd.out.keeps (Nat.le_of_lt hS) HSd.out hg8); have HA8 := Lib.hid (row_keep HAd.out hg8 HL.out); have HN1_8 := Lib.hid (row_keep HN1_d.out hg8 HL.out); have HN2_8 := Lib.hid (row_keep HN2_d.out hg8 HL.out); have hl8 : w8.cell? ⟨S, 4, none⟩ = some (.slice A acc.length c) := (blk_cell HS8.out 4).trans rfl; have hl8a : ∀ ob : Obj, (w8.alloc ob).cell? ⟨S, 4, none⟩ = some (.slice A acc.length c) := fun ob => (blk_cell (blk_alloc HS8.out ob) 4).trans rfl; clear hx hy hp8 hg8))
            all_goals
              go_wp2
              go_roundg (mS s3)
              case measure => omega
              case rel =>
                have hlen : acc.length + 1 = (acc ++ [x]).length := by simp
                simp only [hlen]
                refine ⟨acc ++ [x], s3, AN, cN, Nat.le_refl _, ?_, ⟨HKn.out⟩, ⟨Kd.R_set HA9.out HS9.out (by decide) 4 _⟩, ⟨HF9.out.set (Nat.le_of_lt hS) HS9.out (by decide) (by decide) 4 _⟩, ⟨blk_far HR9.out (p := ⟨S, 4, none⟩) (Nat.ne_of_lt hS) _⟩, ⟨?_⟩, ⟨Kd.R_set HN1_9.out HS9.out (by decide) 4 _⟩, ⟨Kd.R_set HN2_9.out HS9.out (by decide) 4 _⟩⟩
                · rw [List.length_append, List.length_singleton]; omega
                · exact blk_put HS9.out 4 _ rfl
          · have hib : isP 3 brace s2 = true := by
              unfold isP
              rw [hbd]
              simp at hk
              rw [hk]
              rfl
            rw [hib] at hIs
            have HKn : acc = T1 ∧ s2 = T2 := by
              have hK := HK.out
              have h0 : stepsP (mS s2) s2 = ([], s2) := by
                generalize mS s2 = n
                cases n with
                | zero => rfl
                | succ n => unfold stepsP; rw [if_neg (fun h => hk h.2)]
              rw [h0, List.append_nil] at hK
              exact hK
            obtain ⟨rfl, rfl⟩ := HKn
            clear hbd hb hk hib HK
            go_wp2_with (first | (go_at_call 51; refine hO.mono ?_; rintro e w' ⟨rfl, rfl⟩) | (go_at_call 85; refine hIs.mono ?_; rintro e w' ⟨rfl, rfl⟩))
            clear hO hIs
            have HN4_7 := HA7
            refine (must_par g 3 (by decide) brace s2 wr HF7.out.par).mono ?_
            rintro e w8 ⟨rfl, hp8, hg8⟩
            have HF8 := Lib.hid (HF7.out.call hp8 hg8)
            have HR8 := Lib.hid (HF7.out.keeps (Nat.le_refl _) HR7.out hg8)
            have HS8 := Lib.hid (HF7.out.keeps (Nat.le_of_lt hS) HS7.out hg8)
            have HN1_8 := Lib.hid (row_keep HN1_7.out hg8 HL.out)
            have HN2_8 := Lib.hid (row_keep HN2_7.out hg8 HL.out)
            have HN4_8 := Lib.hid (row_keep HN4_7.out hg8 HL.out)
            clear hp8 hg8 HF7 HR7 HS7 HN1_7 HN2_7 HN4_7
            have hSe := HS8.out
            have k0 : w8.cell? ⟨S, 0, none⟩ = some (.string a) := (blk_cell hSe 0).trans rfl
            have k1 : w8.cell? ⟨S, 1, none⟩ = some (.slice A1 n1.length c1) := (blk_cell hSe 1).trans rfl
            have k2 : w8.cell? ⟨S, 2, none⟩ = some (.slice A2 n2.length c2) := (blk_cell hSe 2).trans rfl
            have k3 : w8.cell? ⟨S, 3, none⟩ = some (.slice none 0 0) := (blk_cell hSe 3).trans rfl
            have k4 : w8.cell? ⟨S, 4, none⟩ = some (.slice A acc.length c) := (blk_cell hSe 4).trans rfl
            have hRe := HR8.out
            have r0 : w8.cell? ⟨w.heap.size, 0, none⟩ = some (.string ⟨#[]⟩) := (blk_cell hRe 0).trans rfl
            have z0 := blk_frozen hRe 0
            have r1 : w8.cell? ⟨w.heap.size, 1, none⟩ = some (.slice none 0 0) := (blk_cell hRe 1).trans rfl
            have z1 := blk_frozen hRe 1
            have r2 : w8.cell? ⟨w.heap.size, 2, none⟩ = some (.slice none 0 0) := (blk_cell hRe 2).trans rfl
            have z2 := blk_frozen hRe 2
            have r3 : w8.cell? ⟨w.heap.size, 3, none⟩ = some (.slice none 0 0) := (blk_cell hRe 3).trans rfl
            have z3 := blk_frozen hRe 3
            have r4 : w8.cell? ⟨w.heap.size, 4, none⟩ = some (.slice none 0 0) := (blk_cell hRe 4).trans rfl
            have z4 := blk_frozen hRe 4
            clear hSe hRe
            go_wp2
            have hs := set5_blk (.string a) (.slice A1 n1.length c1) (.slice A2 n2.length c2) (.slice none 0 0) (.slice A acc.length c) HR8.out
            have hF := HF8.out.set5 (Nat.le_refl _) (.string a) (.slice A1 n1.length c1) (.slice A2 n2.length c2) (.slice none 0 0) (.slice A acc.length c) HR8.out (by decide) (by decide)
            have hA := RS.set5 HN1_8.out (.string a) (.slice A1 n1.length c1) (.slice A2 n2.length c2) (.slice none 0 0) (.slice A acc.length c) HR8.out (by decide)
            have hB := RS.set5 HN2_8.out (.string a) (.slice A1 n1.length c1) (.slice A2 n2.length c2) (.slice none 0 0) (.slice A acc.length c) HR8.out (by decide)
            have hC := RS.set5 (Kd.R_nil _ _ _ _ _ : RS w8 w.heap.size (.slice none 0 0) []) (.string a) (.slice A1 n1.length c1) (.slice A2 n2.length c2) (.slice none 0 0) (.slice A acc.length c) HR8.out (by decide)
            have hD := R_set5 HN4_8.out (.string a) (.slice A1 n1.length c1) (.slice A2 n2.length c2) (.slice none 0 0) (.slice A acc.length c) HR8.out (by decide)
            clear k0 k1 k2 k3 k4 r0 r1 r2 r3 r4 z0 z1 z2 z3 z4
            unfold set5 at hs hF hA hB hC hD
            generalize (((((w8.setCell ⟨w.heap.size, 0, none⟩ (.string a)).setCell ⟨w.heap.size, 1, none⟩ (.slice A1 n1.length c1)).setCell ⟨w.heap.size, 2, none⟩ (.slice A2 n2.length c2)).setCell ⟨w.heap.size, 3, none⟩ (.slice none 0 0)).setCell ⟨w.heap.size, 4, none⟩ (.slice A acc.length c)) = wE at hs hF hA hB hC hD ⊢
            have g0 := (blk_cell hs 0).trans rfl
            have g1 := (blk_cell hs 1).trans rfl
            have g2 := (blk_cell hs 2).trans rfl
            have g3 := (blk_cell hs 3).trans rfl
            have g4 := (blk_cell hs 4).trans rfl
            exact bodyPost_ret (v := .agg #[.string a, .slice A1 n1.length c1, .slice A2 n2.length c2, .slice none 0 0, .slice A acc.length c]) (by simp [results, Tryz.results52, go_sem, g0, g1, g2, g3, g4]) rfl (by
              rw [HT.out]
              exact ⟨_, _, _, _, rfl, hA, hB, hC, hD, hF.par, hF.grown⟩)
        · have hbd : decide (s2.2 < 0) = false := by simpa using hb
          rw [hbd] at hO
          have HKn : acc = T1 ∧ s2 = T2 := by
            have hK := HK.out
            have h0 : stepsP (mS s2) s2 = ([], s2) := by
              generalize mS s2 = n
              cases n with
              | zero => rfl
              | succ n => unfold stepsP; rw [if_neg (fun h => hb h.1)]
            rw [h0, List.append_nil] at hK
            exact hK
          obtain ⟨rfl, rfl⟩ := HKn
          clear hbd hb HK hIs
          go_wp2_with (go_at_call 51; refine hO.mono ?_; rintro e w' ⟨rfl, rfl⟩)
          clear hO
          have HN4_7 := HA7
          refine (must_par g 3 (by decide) brace s2 wr HF7.out.par).mono ?_
          rintro e w8 ⟨rfl, hp8, hg8⟩
          have HF8 := Lib.hid (HF7.out.call hp8 hg8)
          have HR8 := Lib.hid (HF7.out.keeps (Nat.le_refl _) HR7.out hg8)
          have HS8 := Lib.hid (HF7.out.keeps (Nat.le_of_lt hS) HS7.out hg8)
          have HN1_8 := Lib.hid (row_keep HN1_7.out hg8 HL.out)
          have HN2_8 := Lib.hid (row_keep HN2_7.out hg8 HL.out)
          have HN4_8 := Lib.hid (row_keep HN4_7.out hg8 HL.out)
          clear hp8 hg8 HF7 HR7 HS7 HN1_7 HN2_7 HN4_7
          have hSe := HS8.out
          have k0 : w8.cell? ⟨S, 0, none⟩ = some (.string a) := (blk_cell hSe 0).trans rfl
          have k1 : w8.cell? ⟨S, 1, none⟩ = some (.slice A1 n1.length c1) := (blk_cell hSe 1).trans rfl
          have k2 : w8.cell? ⟨S, 2, none⟩ = some (.slice A2 n2.length c2) := (blk_cell hSe 2).trans rfl
          have k3 : w8.cell? ⟨S, 3, none⟩ = some (.slice none 0 0) := (blk_cell hSe 3).trans rfl
          have k4 : w8.cell? ⟨S, 4, none⟩ = some (.slice A acc.length c) := (blk_cell hSe 4).trans rfl
          have hRe := HR8.out
          have r0 : w8.cell? ⟨w.heap.size, 0, none⟩ = some (.string ⟨#[]⟩) := (blk_cell hRe 0).trans rfl
          have z0 := blk_frozen hRe 0
          have r1 : w8.cell? ⟨w.heap.size, 1, none⟩ = some (.slice none 0 0) := (blk_cell hRe 1).trans rfl
          have z1 := blk_frozen hRe 1
          have r2 : w8.cell? ⟨w.heap.size, 2, none⟩ = some (.slice none 0 0) := (blk_cell hRe 2).trans rfl
          have z2 := blk_frozen hRe 2
          have r3 : w8.cell? ⟨w.heap.size, 3, none⟩ = some (.slice none 0 0) := (blk_cell hRe 3).trans rfl
          have z3 := blk_frozen hRe 3
          have r4 : w8.cell? ⟨w.heap.size, 4, none⟩ = some (.slice none 0 0) := (blk_cell hRe 4).trans rfl
          have z4 := blk_frozen hRe 4
          clear hSe hRe
          go_wp2
          have hs := set5_blk (.string a) (.slice A1 n1.length c1) (.slice A2 n2.length c2) (.slice none 0 0) (.slice A acc.length c) HR8.out
          have hF := HF8.out.set5 (Nat.le_refl _) (.string a) (.slice A1 n1.length c1) (.slice A2 n2.length c2) (.slice none 0 0) (.slice A acc.length c) HR8.out (by decide) (by decide)
          have hA := RS.set5 HN1_8.out (.string a) (.slice A1 n1.length c1) (.slice A2 n2.length c2) (.slice none 0 0) (.slice A acc.length c) HR8.out (by decide)
          have hB := RS.set5 HN2_8.out (.string a) (.slice A1 n1.length c1) (.slice A2 n2.length c2) (.slice none 0 0) (.slice A acc.length c) HR8.out (by decide)
          have hC := RS.set5 (Kd.R_nil _ _ _ _ _ : RS w8 w.heap.size (.slice none 0 0) []) (.string a) (.slice A1 n1.length c1) (.slice A2 n2.length c2) (.slice none 0 0) (.slice A acc.length c) HR8.out (by decide)
          have hD := R_set5 HN4_8.out (.string a) (.slice A1 n1.length c1) (.slice A2 n2.length c2) (.slice none 0 0) (.slice A acc.length c) HR8.out (by decide)
          clear k0 k1 k2 k3 k4 r0 r1 r2 r3 r4 z0 z1 z2 z3 z4
          unfold set5 at hs hF hA hB hC hD
          generalize (((((w8.setCell ⟨w.heap.size, 0, none⟩ (.string a)).setCell ⟨w.heap.size, 1, none⟩ (.slice A1 n1.length c1)).setCell ⟨w.heap.size, 2, none⟩ (.slice A2 n2.length c2)).setCell ⟨w.heap.size, 3, none⟩ (.slice none 0 0)).setCell ⟨w.heap.size, 4, none⟩ (.slice A acc.length c)) = wE at hs hF hA hB hC hD ⊢
          have g0 := (blk_cell hs 0).trans rfl
          have g1 := (blk_cell hs 1).trans rfl
          have g2 := (blk_cell hs 2).trans rfl
          have g3 := (blk_cell hs 3).trans rfl
          have g4 := (blk_cell hs 4).trans rfl
          exact bodyPost_ret (v := .agg #[.string a, .slice A1 n1.length c1, .slice A2 n2.length c2, .slice none 0 0, .slice A acc.length c]) (by simp [results, Tryz.results52, go_sem, g0, g1, g2, g3, g4]) rfl (by
            rw [HT.out]
            exact ⟨_, _, _, _, rfl, hA, hB, hC, hD, hF.par, hF.grown⟩)
  · have hi' : isP 1 wIn s4 = false := by simpa using hi
    have htk : takeP 1 wIn s4 = (false, s4) := by unfold takeP; rw [if_neg hi]
    rw [hi', htk] at hTk
    have hIf : ifP wIn s4 = ([], s4) := by unfold ifP; rw [if_neg hi]
    rw [hIf] at HT
    try dsimp only at HT
    clear hIf htk hi hi'
    refine hTk.mono ?_
    rintro e w7 ⟨rfl, hp7, hg7⟩
    clear hTk
    have HF7 := Lib.hid (HF6.out.call hp7 hg7)
    have HR7 := Lib.hid (HF6.out.keeps (Nat.le_refl _) HR6.out hg7)
    have HS7 := Lib.hid (HF6.out.keeps (Nat.le_of_lt hS) HS6.out hg7)
    clear hp7 hg7 HF6 HR6 HS6
    have HTo : Hid (ruleP s = ruleO a [] s4) := HT.out
    clear HT
    unfold ruleO at HTo
    try dsimp only at HTo
    have HT := HTo
    clear HTo
    go_wp2_with fail
    refine (must_par g 1 (by decide) wOut s4 w7 HF7.out.par).mono ?_
    rintro e w8 ⟨rfl, hp8, hg8⟩
    have HF8 := Lib.hid (HF7.out.call hp8 hg8)
    have HR8 := Lib.hid (HF7.out.keeps (Nat.le_refl _) HR7.out hg8)
    have HS8 := Lib.hid (HF7.out.keeps (Nat.le_of_lt hS) HS7.out hg8)
    clear hp8 hg8 HF7 HR7 HS7
    generalize mustP 1 wOut s4 = q0 at HT HF8
    go_wp2_with fail
    refine (list_calls g q0 w8 HF8.out.par).mono ?_
    rintro e w9 ⟨v9, rfl, hr9, hp9, hg9⟩
    generalize (listP q0).1 = n2 at HT hr9
    generalize (listP q0).2 = q2 at HT hp9
    have hr := Kd.R_lower hr9 HF8.out.grown.size
    obtain ⟨A2, c2, rfl, _, _⟩ := Kd.R_reads hr
    have HN2 := Lib.hid hr
    clear hr hr9
    have HF9 := Lib.hid (HF8.out.call hp9 hg9)
    have HR9 := Lib.hid (HF8.out.keeps (Nat.le_refl _) HR8.out hg9)
    have HS9 := Lib.hid (HF8.out.keeps (Nat.le_of_lt hS) HS8.out hg9)
    clear hp9 hg9 HF8 HR8 HS8
    have hSx := HS9.out
    have cx : w9.cell? ⟨S, 2, none⟩ = some (.slice none 0 0) := (blk_cell hSx 2).trans rfl
    have fx := blk_frozen hSx 2
    clear hSx
    go_wp2_with fail
    clear cx fx
    have HF10 := Lib.hid (HF9.out.set (Nat.le_of_lt hS) HS9.out (by decide) (by decide) 2 (.slice A2 n2.length c2))
    have HR10 := Lib.hid (blk_far HR9.out (p := ⟨S, 2, none⟩) (Nat.ne_of_lt hS) (.slice A2 n2.length c2))
    have HS10 : Hid ((w9.setCell ⟨S, 2, none⟩ (.slice A2 n2.length c2)).heap[S]? = some (.cells #[.string a, .slice none 0 0, .slice A2 n2.length c2, .slice none 0 0, .slice none 0 0] 49 (0, 0))) := blk_put HS9.out 2 _ rfl
    have HN2_10 := Lib.hid (Kd.R_set HN2.out HS9.out (by decide) 2 (.slice A2 n2.length c2))
    clear HF9 HR9 HS9 HN2
    generalize w9.setCell ⟨S, 2, none⟩ (.slice A2 n2.length c2) = w10 at HF10 HR10 HS10 HN2_10 ⊢
    unfold ruleF at HT
    try dsimp only at HT
    have hTk := take_par g 1 (by decide) wAfter q2 w10 HF10.out.par
    by_cases hi : isP 1 wAfter q2 = true
    · have htk : takeP 1 wAfter q2 = (true, ((q2).1.tail, (q2).2)) := by unfold takeP; rw [if_pos hi]
      rw [hi, htk] at hTk
      have hIf : ifP wAfter q2 = listP ((q2).1.tail, (q2).2) := by unfold ifP; rw [if_pos hi]
      rw [hIf] at HT
      try dsimp only at HT
      clear hIf htk hi
      refine hTk.mono ?_
      rintro e w11 ⟨rfl, hp11, hg11⟩
      clear hTk
      have HF11 := Lib.hid (HF10.out.call hp11 hg11)
      have HR11 := Lib.hid (HF10.out.keeps (Nat.le_refl _) HR10.out hg11)
      have HS11 := Lib.hid (HF10.out.keeps (Nat.le_of_lt hS) HS10.out hg11)
      have HN2_11 := Lib.hid (row_keep HN2_10.out hg11 HL.out)
      clear hp11 hg11 HF10 HR10 HS10 HN2_10
      go_wp2_with fail
      refine (list_calls g ((q2).1.tail, (q2).2) w11 HF11.out.par).mono ?_
      rintro e w12 ⟨v12, rfl, hr12, hp12, hg12⟩
      generalize (listP ((q2).1.tail, (q2).2)).1 = n3 at HT hr12
      generalize (listP ((q2).1.tail, (q2).2)).2 = q3 at HT hp12
      have hr := Kd.R_lower hr12 HF11.out.grown.size
      obtain ⟨A3, c3, rfl, _, _⟩ := Kd.R_reads hr
      have HN3 := Lib.hid hr
      clear hr hr12
      have HF12 := Lib.hid (HF11.out.call hp12 hg12)
      have HR12 := Lib.hid (HF11.out.keeps (Nat.le_refl _) HR11.out hg12)
      have HS12 := Lib.hid (HF11.out.keeps (Nat.le_of_lt hS) HS11.out hg12)
      have HN2_12 := Lib.hid (row_keep HN2_11.out hg12 HL.out)
      clear hp12 hg12 HF11 HR11 HS11 HN2_11
      have hSx := HS12.out
      have cx : w12.cell? ⟨S, 3, none⟩ = some (.slice none 0 0) := (blk_cell hSx 3).trans rfl
      have fx := blk_frozen hSx 3
      clear hSx
      go_wp2_with fail
      clear cx fx
      have HF13 := Lib.hid (HF12.out.set (Nat.le_of_lt hS) HS12.out (by decide) (by decide) 3 (.slice A3 n3.length c3))
      have HR13 := Lib.hid (blk_far HR12.out (p := ⟨S, 3, none⟩) (Nat.ne_of_lt hS) (.slice A3 n3.length c3))
      have HS13 : Hid ((w12.setCell ⟨S, 3, none⟩ (.slice A3 n3.length c3)).heap[S]? = some (.cells #[.string a, .slice none 0 0, .slice A2 n2.length c2, .slice A3 n3.length c3, .slice none 0 0] 49 (0, 0))) := blk_put HS12.out 3 _ rfl
      have HN2_13 := Lib.hid (Kd.R_set HN2_12.out HS12.out (by decide) 3 (.slice A3 n3.length c3))
      have HN3_13 := Lib.hid (Kd.R_set HN3.out HS12.out (by decide) 3 (.slice A3 n3.length c3))
      clear HF12 HR12 HS12 HN2_12 HN3
      generalize w12.setCell ⟨S, 3, none⟩ (.slice A3 n3.length c3) = w13 at HF13 HR13 HS13 HN2_13 HN3_13 ⊢
      unfold ruleS at HT
      try dsimp only at HT
      have HTA : Hid ((stepsP ((q3).1.length + 1) (q3)).1 = (stepsP (mS (q3)) (q3)).1 ∧ (stepsP ((q3).1.length + 1) (q3)).2 = (stepsP (mS (q3)) (q3)).2) := by
        rw [steps_fuel ((q3).1.length + 1) (mS (q3)) (q3) HF13.out.par.good (mS_le _) (Nat.le_refl _)]
        exact ⟨rfl, rfl⟩
      generalize (stepsP ((q3).1.length + 1) (q3)).1 = T1 at HT HTA
      generalize (stepsP ((q3).1.length + 1) (q3)).2 = T2 at HT HTA
      have hm4 : mS (q3) ≤ 100001 := Nat.le_trans (mS_le _) (Nat.add_le_add_right HF13.out.par.len 1)
      generalize q3 = sL at HTA hm4 HF13
      go_loopg [] (mS sL) (fun gg wr => ∃ (acc : List SStep) (s2 : PS) (A : Option Addr) (c : Nat), mS s2 ≤ gg ∧ acc.length + mS s2 ≤ mS sL ∧ Aside0 (acc ++ (stepsP (mS s2) s2).1 = T1 ∧ (stepsP (mS s2) s2).2 = T2) ∧
        Aside0 (Kd.R k62 62 wr w.heap.size (fun _ => True) (.slice A acc.length c) acc) ∧ Aside0 (Fly w g wr s2) ∧ Aside0 (wr.heap[w.heap.size]? = some (.cells RUz 49 (0, 0))) ∧ Aside0 (wr.heap[S]? = some (.cells #[.string a, .slice none 0 0, .slice A2 n2.length c2, .slice A3 n3.length c3, .slice A acc.length c] 49 (0, 0))) ∧ Aside0 (RS wr w.heap.size (.slice A2 n2.length c2) n2) ∧ Aside0 (RS wr w.heap.size (.slice A3 n3.length c3) n3))
      case atStart => exact ⟨[], sL, none, 0, Nat.le_refl _, by simp, ⟨by rw [List.nil_append]; exact ⟨HTA.out.1.symm, HTA.out.2.symm⟩⟩, ⟨Kd.R_nil _ _ _ _ _⟩, ⟨HF13.out⟩, ⟨HR13.out⟩, ⟨HS13.out⟩, ⟨HN2_13.out⟩, ⟨HN3_13.out⟩⟩
      case round =>
        obtain ⟨acc, s2, A, c, hgk, hal, HK, HA7, HF7, HR7, HS7, HN2_7, HN3_7⟩ := hrel
        have hO := ok_calls g s2 wr HF7.out.par.has
        have hIs := is_calls g 3 brace s2 wr HF7.out.par.has HF7.out.par.good.ne
        by_cases hb : s2.2 < 0
        · have hbd : decide (s2.2 < 0) = true := by simpa using hb
          rw [hbd] at hO
          by_cases hk : atP 3 brace s2 = false
          · have hib : isP 3 brace s2 = false := by unfold isP; rw [hk]; simp
            rw [hib] at hIs
            have hN := fun W hW => step_calls g s2 W hW
            have hmn := mS_step HF7.out.par.good hb
            have HKn : Hid (((acc ++ [(stepP s2).1]) ++ (stepsP (mS (stepP s2).2) (stepP s2).2).1 = T1 ∧ (stepsP (mS (stepP s2).2) (stepP s2).2).2 = T2)) := by
              have hK := HK.out
              obtain ⟨n, hn⟩ : ∃ n, mS s2 = n + 1 := ⟨mS s2 - 1, by omega⟩
              rw [hn, stepsP, if_pos ⟨hb, hk⟩, steps_fuel n (mS (stepP s2).2) (stepP s2).2 (inv_good.step HF7.out.par.good) (by omega) (Nat.le_refl _)] at hK
              exact ⟨by rw [← hK.1]; simp, hK.2⟩
            generalize (stepP s2).1 = x at HKn hN
            generalize (stepP s2).2 = s3 at HKn hN hmn
            have hld : wr.cell? ⟨S, 4, none⟩ = some (.slice A acc.length c) := (blk_cell HS7.out 4).trans rfl
            have hal2 : acc.length ≤ 200000 := by omega
            clear hbd hb hk hib
            go_wp2_with (first | (go_at_call 51; refine hO.mono ?_; rintro e w' ⟨rfl, rfl⟩) | (go_at_call 85; refine hIs.mono ?_; rintro e w' ⟨rfl, rfl⟩))
            have HFd := Lib.hid (HF7.out.below (W1 := wr.drew) ⟨rfl, rfl, rfl, Nat.le_refl _, fun _ _ => rfl⟩)
            have HAd : Hid (Kd.R k62 62 wr.drew w.heap.size (fun _ => True) (.slice A acc.length c) acc) := Kd.R_below HA7.out ⟨rfl, rfl, rfl, Nat.le_refl _, fun _ _ => rfl⟩
            have HN2_d : Hid (RS wr.drew w.heap.size (.slice A2 n2.length c2) n2) := Kd.R_below HN2_7.out ⟨rfl, rfl, rfl, Nat.le_refl _, fun _ _ => rfl⟩
            have HN3_d : Hid (RS wr.drew w.heap.size (.slice A3 n3.length c3) n3) := Kd.R_below HN3_7.out ⟨rfl, rfl, rfl, Nat.le_refl _, fun _ _ => rfl⟩
            have HRd := Lib.hid (blk_drew HR7.out)
            have HSd := Lib.hid (blk_drew HS7.out)
            clear hO hIs
            go_region_law (first
              | (refine Kd.R_append_step k62 (w0 := w8) w.heap.size (by rfl) (.tmp 34) (.tmp 37) 47 62 (.agg #[.string ⟨#[]⟩, .int .i64 0, .slice none 0 0, .slice none 0 0, .int .i64 0]) 80 rfl Tryz.underlying47 info62 rfl (by decide) (by decide) (.slice A acc.length c) acc x [.string x.f0, .int .i64 x.f1, .slice AX x.f2.length cX, .slice AY x.f3.length cY, .int .i64 x.f4] (fun _ => True) (fun k_ => True ∧ some k_ ≠ (Value.slice A acc.length c).ownBlock) (by rfl) (by rfl) (k62_mkM _ _ _ x HX8.out HY8.out) (fun _ hk => hk) (fun _ _ => trivial) HA8.out (Below.refl _ _) HF8.out.grown.size ?aL ?_; (case aL => omega); intro v1 w9 ho hb hg hat; obtain ⟨AN, cN, rfl, _, _⟩ := Kd.R_reads ho; have HA9 := Lib.hid ho; have HF9 := Lib.hid (HF8.out.row (Kd.R_own HA8.out).choose_spec (by decide) (by decide) (Nat.le_refl _) hb hg); have HR9 := Lib.hid (blk_grown HR8.out hg (Kd.R_ne HA8.out HR8.out (by decide))); have HS9 := Lib.hid (blk_grown HS8.out hg (Kd.R_ne HA8.out HS8.out (by decide))); have HN2_9 := Lib.hid (rs_other HN2_8.out HA8.out (by decide) hg); have HN3_9 := Lib.hid (rs_other HN3_8.out HA8.out (by decide) hg); have hst : w9.cell? ⟨S, 4, none⟩ = some (.slice A acc.length c) := (blk_cell HS9.out 4).trans rfl; have hfr : w9.frozen? ⟨S, 4, none⟩ = false := blk_frozen HS9.out 4; clear ho hb hg hat)
              | (go_simp; go_at_call 86; refine (hN _ HFd.out.par).mono ?_; rintro e w8 ⟨vx, vy, rfl, hx, hy, hp8, hg8⟩; obtain ⟨AX, cX, rfl, _, _⟩ := Kd.R_reads hx; obtain ⟨AY, cY, rfl, _, _⟩ := Kd.R_reads hy; have HX8 := Lib.hid (Kd.R_lower (Kd.R_new hx (Kd.R_own HAd.out).choose_spec) HFd.out.grown.size); have HY8 := Lib.hid (Kd.R_lower (Kd.R_new hy (Kd.R_own HAd.out).choose_spec) HFd.out.grown.size); have HF8 := Lib.hid (HFd.out.call hp8 hg8); have HR8 := Lib.hid (HFd.out.keeps (Nat.le_refl _) HRd.out hg8); have HS8 := Lib.hid (HFd.out.keeps (Nat.le_of_lt hS) HSd.out hg8); have HA8 := Lib.hid (row_keep HAd.out hg8 HL.out); have HN2_8 := Lib.hid (row_keep HN2_d.out hg8 HL.out); have HN3_8 := Lib.hid (row_keep HN3_d.out hg8 HL.out); have hl8 : w8.cell? ⟨S, 4, none⟩ = some (.slice A acc.length c) := (blk_cell HS8.out 4).trans rfl; have hl8a : ∀ ob : Obj, (w8.alloc ob).cell? ⟨S, 4, none⟩ = some (.slice A acc.length c) := fun ob => (blk_cell (blk_alloc HS8.out ob) 4).trans rfl; clear hx hy hp8 hg8))
            all_goals
              go_wp2
              go_roundg (mS s3)
              case measure => omega
              case rel =>
                have hlen : acc.length + 1 = (acc ++ [x]).length := by simp
                simp only [hlen]
                refine ⟨acc ++ [x], s3, AN, cN, Nat.le_refl _, ?_, ⟨HKn.out⟩, ⟨Kd.R_set HA9.out HS9.out (by decide) 4 _⟩, ⟨HF9.out.set (Nat.le_of_lt hS) HS9.out (by decide) (by decide) 4 _⟩, ⟨blk_far HR9.out (p := ⟨S, 4, none⟩) (Nat.ne_of_lt hS) _⟩, ⟨?_⟩, ⟨Kd.R_set HN2_9.out HS9.out (by decide) 4 _⟩, ⟨Kd.R_set HN3_9.out HS9.out (by decide) 4 _⟩⟩
                · rw [List.length_append, List.length_singleton]; omega
                · exact blk_put HS9.out 4 _ rfl
          · have hib : isP 3 brace s2 = true := by
              unfold isP
              rw [hbd]
              simp at hk
              rw [hk]
              rfl
            rw [hib] at hIs
            have HKn : acc = T1 ∧ s2 = T2 := by
              have hK := HK.out
              have h0 : stepsP (mS s2) s2 = ([], s2) := by
                generalize mS s2 = n
                cases n with
                | zero => rfl
                | succ n => unfold stepsP; rw [if_neg (fun h => hk h.2)]
              rw [h0, List.append_nil] at hK
              exact hK
            obtain ⟨rfl, rfl⟩ := HKn
            clear hbd hb hk hib HK
            go_wp2_with (first | (go_at_call 51; refine hO.mono ?_; rintro e w' ⟨rfl, rfl⟩) | (go_at_call 85; refine hIs.mono ?_; rintro e w' ⟨rfl, rfl⟩))
            clear hO hIs
            have HN4_7 := HA7
            refine (must_par g 3 (by decide) brace s2 wr HF7.out.par).mono ?_
            rintro e w8 ⟨rfl, hp8, hg8⟩
            have HF8 := Lib.hid (HF7.out.call hp8 hg8)
            have HR8 := Lib.hid (HF7.out.keeps (Nat.le_refl _) HR7.out hg8)
            have HS8 := Lib.hid (HF7.out.keeps (Nat.le_of_lt hS) HS7.out hg8)
            have HN2_8 := Lib.hid (row_keep HN2_7.out hg8 HL.out)
            have HN3_8 := Lib.hid (row_keep HN3_7.out hg8 HL.out)
            have HN4_8 := Lib.hid (row_keep HN4_7.out hg8 HL.out)
            clear hp8 hg8 HF7 HR7 HS7 HN2_7 HN3_7 HN4_7
            have hSe := HS8.out
            have k0 : w8.cell? ⟨S, 0, none⟩ = some (.string a) := (blk_cell hSe 0).trans rfl
            have k1 : w8.cell? ⟨S, 1, none⟩ = some (.slice none 0 0) := (blk_cell hSe 1).trans rfl
            have k2 : w8.cell? ⟨S, 2, none⟩ = some (.slice A2 n2.length c2) := (blk_cell hSe 2).trans rfl
            have k3 : w8.cell? ⟨S, 3, none⟩ = some (.slice A3 n3.length c3) := (blk_cell hSe 3).trans rfl
            have k4 : w8.cell? ⟨S, 4, none⟩ = some (.slice A acc.length c) := (blk_cell hSe 4).trans rfl
            have hRe := HR8.out
            have r0 : w8.cell? ⟨w.heap.size, 0, none⟩ = some (.string ⟨#[]⟩) := (blk_cell hRe 0).trans rfl
            have z0 := blk_frozen hRe 0
            have r1 : w8.cell? ⟨w.heap.size, 1, none⟩ = some (.slice none 0 0) := (blk_cell hRe 1).trans rfl
            have z1 := blk_frozen hRe 1
            have r2 : w8.cell? ⟨w.heap.size, 2, none⟩ = some (.slice none 0 0) := (blk_cell hRe 2).trans rfl
            have z2 := blk_frozen hRe 2
            have r3 : w8.cell? ⟨w.heap.size, 3, none⟩ = some (.slice none 0 0) := (blk_cell hRe 3).trans rfl
            have z3 := blk_frozen hRe 3
            have r4 : w8.cell? ⟨w.heap.size, 4, none⟩ = some (.slice none 0 0) := (blk_cell hRe 4).trans rfl
            have z4 := blk_frozen hRe 4
            clear hSe hRe
            go_wp2
            have hs := set5_blk (.string a) (.slice none 0 0) (.slice A2 n2.length c2) (.slice A3 n3.length c3) (.slice A acc.length c) HR8.out
            have hF := HF8.out.set5 (Nat.le_refl _) (.string a) (.slice none 0 0) (.slice A2 n2.length c2) (.slice A3 n3.length c3) (.slice A acc.length c) HR8.out (by decide) (by decide)
            have hA := RS.set5 (Kd.R_nil _ _ _ _ _ : RS w8 w.heap.size (.slice none 0 0) []) (.string a) (.slice none 0 0) (.slice A2 n2.length c2) (.slice A3 n3.length c3) (.slice A acc.length c) HR8.out (by decide)
            have hB := RS.set5 HN2_8.out (.string a) (.slice none 0 0) (.slice A2 n2.length c2) (.slice A3 n3.length c3) (.slice A acc.length c) HR8.out (by decide)
            have hC := RS.set5 HN3_8.out (.string a) (.slice none 0 0) (.slice A2 n2.length c2) (.slice A3 n3.length c3) (.slice A acc.length c) HR8.out (by decide)
            have hD := R_set5 HN4_8.out (.string a) (.slice none 0 0) (.slice A2 n2.length c2) (.slice A3 n3.length c3) (.slice A acc.length c) HR8.out (by decide)
            clear k0 k1 k2 k3 k4 r0 r1 r2 r3 r4 z0 z1 z2 z3 z4
            unfold set5 at hs hF hA hB hC hD
            generalize (((((w8.setCell ⟨w.heap.size, 0, none⟩ (.string a)).setCell ⟨w.heap.size, 1, none⟩ (.slice none 0 0)).setCell ⟨w.heap.size, 2, none⟩ (.slice A2 n2.length c2)).setCell ⟨w.heap.size, 3, none⟩ (.slice A3 n3.length c3)).setCell ⟨w.heap.size, 4, none⟩ (.slice A acc.length c)) = wE at hs hF hA hB hC hD ⊢
            have g0 := (blk_cell hs 0).trans rfl
            have g1 := (blk_cell hs 1).trans rfl
            have g2 := (blk_cell hs 2).trans rfl
            have g3 := (blk_cell hs 3).trans rfl
            have g4 := (blk_cell hs 4).trans rfl
            exact bodyPost_ret (v := .agg #[.string a, .slice none 0 0, .slice A2 n2.length c2, .slice A3 n3.length c3, .slice A acc.length c]) (by simp [results, Tryz.results52, go_sem, g0, g1, g2, g3, g4]) rfl (by
              rw [HT.out]
              exact ⟨_, _, _, _, rfl, hA, hB, hC, hD, hF.par, hF.grown⟩)
        · have hbd : decide (s2.2 < 0) = false := by simpa using hb
          rw [hbd] at hO
          have HKn : acc = T1 ∧ s2 = T2 := by
            have hK := HK.out
            have h0 : stepsP (mS s2) s2 = ([], s2) := by
              generalize mS s2 = n
              cases n with
              | zero => rfl
              | succ n => unfold stepsP; rw [if_neg (fun h => hb h.1)]
            rw [h0, List.append_nil] at hK
            exact hK
          obtain ⟨rfl, rfl⟩ := HKn
          clear hbd hb HK hIs
          go_wp2_with (go_at_call 51; refine hO.mono ?_; rintro e w' ⟨rfl, rfl⟩)
          clear hO
          have HN4_7 := HA7
          refine (must_par g 3 (by decide) brace s2 wr HF7.out.par).mono ?_
          rintro e w8 ⟨rfl, hp8, hg8⟩
          have HF8 := Lib.hid (HF7.out.call hp8 hg8)
          have HR8 := Lib.hid (HF7.out.keeps (Nat.le_refl _) HR7.out hg8)
          have HS8 := Lib.hid (HF7.out.keeps (Nat.le_of_lt hS) HS7.out hg8)
          have HN2_8 := Lib.hid (row_keep HN2_7.out hg8 HL.out)
          have HN3_8 := Lib.hid (row_keep HN3_7.out hg8 HL.out)
          have HN4_8 := Lib.hid (row_keep HN4_7.out hg8 HL.out)
          clear hp8 hg8 HF7 HR7 HS7 HN2_7 HN3_7 HN4_7
          have hSe := HS8.out
          have k0 : w8.cell? ⟨S, 0, none⟩ = some (.string a) := (blk_cell hSe 0).trans rfl
          have k1 : w8.cell? ⟨S, 1, none⟩ = some (.slice none 0 0) := (blk_cell hSe 1).trans rfl
          have k2 : w8.cell? ⟨S, 2, none⟩ = some (.slice A2 n2.length c2) := (blk_cell hSe 2).trans rfl
          have k3 : w8.cell? ⟨S, 3, none⟩ = some (.slice A3 n3.length c3) := (blk_cell hSe 3).trans rfl
          have k4 : w8.cell? ⟨S, 4, none⟩ = some (.slice A acc.length c) := (blk_cell hSe 4).trans rfl
          have hRe := HR8.out
          have r0 : w8.cell? ⟨w.heap.size, 0, none⟩ = some (.string ⟨#[]⟩) := (blk_cell hRe 0).trans rfl
          have z0 := blk_frozen hRe 0
          have r1 : w8.cell? ⟨w.heap.size, 1, none⟩ = some (.slice none 0 0) := (blk_cell hRe 1).trans rfl
          have z1 := blk_frozen hRe 1
          have r2 : w8.cell? ⟨w.heap.size, 2, none⟩ = some (.slice none 0 0) := (blk_cell hRe 2).trans rfl
          have z2 := blk_frozen hRe 2
          have r3 : w8.cell? ⟨w.heap.size, 3, none⟩ = some (.slice none 0 0) := (blk_cell hRe 3).trans rfl
          have z3 := blk_frozen hRe 3
          have r4 : w8.cell? ⟨w.heap.size, 4, none⟩ = some (.slice none 0 0) := (blk_cell hRe 4).trans rfl
          have z4 := blk_frozen hRe 4
          clear hSe hRe
          go_wp2
          have hs := set5_blk (.string a) (.slice none 0 0) (.slice A2 n2.length c2) (.slice A3 n3.length c3) (.slice A acc.length c) HR8.out
          have hF := HF8.out.set5 (Nat.le_refl _) (.string a) (.slice none 0 0) (.slice A2 n2.length c2) (.slice A3 n3.length c3) (.slice A acc.length c) HR8.out (by decide) (by decide)
          have hA := RS.set5 (Kd.R_nil _ _ _ _ _ : RS w8 w.heap.size (.slice none 0 0) []) (.string a) (.slice none 0 0) (.slice A2 n2.length c2) (.slice A3 n3.length c3) (.slice A acc.length c) HR8.out (by decide)
          have hB := RS.set5 HN2_8.out (.string a) (.slice none 0 0) (.slice A2 n2.length c2) (.slice A3 n3.length c3) (.slice A acc.length c) HR8.out (by decide)
          have hC := RS.set5 HN3_8.out (.string a) (.slice none 0 0) (.slice A2 n2.length c2) (.slice A3 n3.length c3) (.slice A acc.length c) HR8.out (by decide)
          have hD := R_set5 HN4_8.out (.string a) (.slice none 0 0) (.slice A2 n2.length c2) (.slice A3 n3.length c3) (.slice A acc.length c) HR8.out (by decide)
          clear k0 k1 k2 k3 k4 r0 r1 r2 r3 r4 z0 z1 z2 z3 z4
          unfold set5 at hs hF hA hB hC hD
          generalize (((((w8.setCell ⟨w.heap.size, 0, none⟩ (.string a)).setCell ⟨w.heap.size, 1, none⟩ (.slice none 0 0)).setCell ⟨w.heap.size, 2, none⟩ (.slice A2 n2.length c2)).setCell ⟨w.heap.size, 3, none⟩ (.slice A3 n3.length c3)).setCell ⟨w.heap.size, 4, none⟩ (.slice A acc.length c)) = wE at hs hF hA hB hC hD ⊢
          have g0 := (blk_cell hs 0).trans rfl
          have g1 := (blk_cell hs 1).trans rfl
          have g2 := (blk_cell hs 2).trans rfl
          have g3 := (blk_cell hs 3).trans rfl
          have g4 := (blk_cell hs 4).trans rfl
          exact bodyPost_ret (v := .agg #[.string a, .slice none 0 0, .slice A2 n2.length c2, .slice A3 n3.length c3, .slice A acc.length c]) (by simp [results, Tryz.results52, go_sem, g0, g1, g2, g3, g4]) rfl (by
            rw [HT.out]
            exact ⟨_, _, _, _, rfl, hA, hB, hC, hD, hF.par, hF.grown⟩)
    · have hi' : isP 1 wAfter q2 = false := by simpa using hi
      have htk : takeP 1 wAfter q2 = (false, q2) := by unfold takeP; rw [if_neg hi]
      rw [hi', htk] at hTk
      have hIf : ifP wAfter q2 = ([], q2) := by unfold ifP; rw [if_neg hi]
      rw [hIf] at HT
      try dsimp only at HT
      clear hIf htk hi hi'
      refine hTk.mono ?_
      rintro e w11 ⟨rfl, hp11, hg11⟩
      clear hTk
      have HF11 := Lib.hid (HF10.out.call hp11 hg11)
      have HR11 := Lib.hid (HF10.out.keeps (Nat.le_refl _) HR10.out hg11)
      have HS11 := Lib.hid (HF10.out.keeps (Nat.le_of_lt hS) HS10.out hg11)
      have HN2_11 := Lib.hid (row_keep HN2_10.out hg11 HL.out)
      clear hp11 hg11 HF10 HR10 HS10 HN2_10
      go_wp2_with fail
      unfold ruleS at HT
      try dsimp only at HT
      have HTA : Hid ((stepsP ((q2).1.length + 1) (q2)).1 = (stepsP (mS (q2)) (q2)).1 ∧ (stepsP ((q2).1.length + 1) (q2)).2 = (stepsP (mS (q2)) (q2)).2) := by
        rw [steps_fuel ((q2).1.length + 1) (mS (q2)) (q2) HF11.out.par.good (mS_le _) (Nat.le_refl _)]
        exact ⟨rfl, rfl⟩
      generalize (stepsP ((q2).1.length + 1) (q2)).1 = T1 at HT HTA
      generalize (stepsP ((q2).1.length + 1) (q2)).2 = T2 at HT HTA
      have hm4 : mS (q2) ≤ 100001 := Nat.le_trans (mS_le _) (Nat.add_le_add_right HF11.out.par.len 1)
      generalize q2 = sL at HTA hm4 HF11
      go_loopg [] (mS sL) (fun gg wr => ∃ (acc : List SStep) (s2 : PS) (A : Option Addr) (c : Nat), mS s2 ≤ gg ∧ acc.length + mS s2 ≤ mS sL ∧ Aside0 (acc ++ (stepsP (mS s2) s2).1 = T1 ∧ (stepsP (mS s2) s2).2 = T2) ∧
        Aside0 (Kd.R k62 62 wr w.heap.size (fun _ => True) (.slice A acc.length c) acc) ∧ Aside0 (Fly w g wr s2) ∧ Aside0 (wr.heap[w.heap.size]? = some (.cells RUz 49 (0, 0))) ∧ Aside0 (wr.heap[S]? = some (.cells #[.string a, .slice none 0 0, .slice A2 n2.length c2, .slice none 0 0, .slice A acc.length c] 49 (0, 0))) ∧ Aside0 (RS wr w.heap.size (.slice A2 n2.length c2) n2))
      case atStart => exact ⟨[], sL, none, 0, Nat.le_refl _, by simp, ⟨by rw [List.nil_append]; exact ⟨HTA.out.1.symm, HTA.out.2.symm⟩⟩, ⟨Kd.R_nil _ _ _ _ _⟩, ⟨HF11.out⟩, ⟨HR11.out⟩, ⟨HS11.out⟩, ⟨HN2_11.out⟩⟩
      case round =>
        obtain ⟨acc, s2, A, c, hgk, hal, HK, HA7, HF7, HR7, HS7, HN2_7⟩ := hrel
        have hO := ok_calls g s2 wr HF7.out.par.has
        have hIs := is_calls g 3 brace s2 wr HF7.out.par.has HF7.out.par.good.ne
        by_cases hb : s2.2 < 0
        · have hbd : decide (s2.2 < 0) = true := by simpa using hb
          rw [hbd] at hO
          by_cases hk : atP 3 brace s2 = false
          · have hib : isP 3 brace s2 = false := by unfold isP; rw [hk]; simp
            rw [hib] at hIs
            have hN := fun W hW => step_calls g s2 W hW
            have hmn := mS_step HF7.out.par.good hb
            have HKn : Hid (((acc ++ [(stepP s2).1]) ++ (stepsP (mS (stepP s2).2) (stepP s2).2).1 = T1 ∧ (stepsP (mS (stepP s2).2) (stepP s2).2).2 = T2)) := by
              have hK := HK.out
              obtain ⟨n, hn⟩ : ∃ n, mS s2 = n + 1 := ⟨mS s2 - 1, by omega⟩
              rw [hn, stepsP, if_pos ⟨hb, hk⟩, steps_fuel n (mS (stepP s2).2) (stepP s2).2 (inv_good.step HF7.out.par.good) (by omega) (Nat.le_refl _)] at hK
              exact ⟨by rw [← hK.1]; simp, hK.2⟩
            generalize (stepP s2).1 = x at HKn hN
            generalize (stepP s2).2 = s3 at HKn hN hmn
            have hld : wr.cell? ⟨S, 4, none⟩ = some (.slice A acc.length c) := (blk_cell HS7.out 4).trans rfl
            have hal2 : acc.length ≤ 200000 := by omega
            clear hbd hb hk hib
            go_wp2_with (first | (go_at_call 51; refine hO.mono ?_; rintro e w' ⟨rfl, rfl⟩) | (go_at_call 85; refine hIs.mono ?_; rintro e w' ⟨rfl, rfl⟩))
            have HFd := Lib.hid (HF7.out.below (W1 := wr.drew) ⟨rfl, rfl, rfl, Nat.le_refl _, fun _ _ => rfl⟩)
            have HAd : Hid (Kd.R k62 62 wr.drew w.heap.size (fun _ => True) (.slice A acc.length c) acc) := Kd.R_below HA7.out ⟨rfl, rfl, rfl, Nat.le_refl _, fun _ _ => rfl⟩
            have HN2_d : Hid (RS wr.drew w.heap.size (.slice A2 n2.length c2) n2) := Kd.R_below HN2_7.out ⟨rfl, rfl, rfl, Nat.le_refl _, fun _ _ => rfl⟩
            have HRd := Lib.hid (blk_drew HR7.out)
            have HSd := Lib.hid (blk_drew HS7.out)
            clear hO hIs
            go_region_law (first
              | (refine Kd.R_append_step k62 (w0 := w8) w.heap.size (by rfl) (.tmp 34) (.tmp 37) 47 62 (.agg #[.string ⟨#[]⟩, .int .i64 0, .slice none 0 0, .slice none 0 0, .int .i64 0]) 80 rfl Tryz.underlying47 info62 rfl (by decide) (by decide) (.slice A acc.length c) acc x [.string x.f0, .int .i64 x.f1, .slice AX x.f2.length cX, .slice AY x.f3.length cY, .int .i64 x.f4] (fun _ => True) (fun k_ => True ∧ some k_ ≠ (Value.slice A acc.length c).ownBlock) (by rfl) (by rfl) (k62_mkM _ _ _ x HX8.out HY8.out) (fun _ hk => hk) (fun _ _ => trivial) HA8.out (Below.refl _ _) HF8.out.grown.size ?aL ?_; (case aL => omega); intro v1 w9 ho hb hg hat; obtain ⟨AN, cN, rfl, _, _⟩ := Kd.R_reads ho; have HA9 := Lib.hid ho; have HF9 := Lib.hid (HF8.out.row (Kd.R_own HA8.out).choose_spec (by decide) (by decide) (Nat.le_refl _) hb hg); have HR9 := Lib.hid (blk_grown HR8.out hg (Kd.R_ne HA8.out HR8.out (by decide))); have HS9 := Lib.hid (blk_grown HS8.out hg (Kd.R_ne HA8.out HS8.out (by decide))); have HN2_9 := Lib.hid (rs_other HN2_8.out HA8.out (by decide) hg); have hst : w9.cell? ⟨S, 4, none⟩ = some (.slice A acc.length c) := (blk_cell HS9.out 4).trans rfl; have hfr : w9.frozen? ⟨S, 4, none⟩ = false := blk_frozen HS9.out 4; clear ho hb hg hat)
              | (go_simp; go_at_call 86; refine (hN _ HFd.out.par).mono ?_; rintro e w8 ⟨vx, vy, rfl, hx, hy, hp8, hg8⟩; obtain ⟨AX, cX, rfl, _, _⟩ := Kd.R_reads hx; obtain ⟨AY, cY, rfl, _, _⟩ := Kd.R_reads hy; have HX8 := Lib.hid (Kd.R_lower (Kd.R_new hx (Kd.R_own HAd.out).choose_spec) HFd.out.grown.size); have HY8 := Lib.hid (Kd.R_lower (Kd.R_new hy (Kd.R_own HAd.out).choose_spec) HFd.out.grown.size); have HF8 := Lib.hid (HFd.out.call hp8 hg8); have HR8 := Lib.hid (HFd.out.keeps (Nat.le_refl _) HRd.out hg8); have HS8 := Lib.hid (HFd.out.keeps (Nat.le_of_lt hS) HSd.out hg8); have HA8 := Lib.hid (row_keep HAd.out hg8 HL.out); have HN2_8 := Lib.hid (row_keep HN2_d.out hg8 HL.out); have hl8 : w8.cell? ⟨S, 4, none⟩ = some (.slice A acc.length c) := (blk_cell HS8.out 4).trans rfl; have hl8a : ∀ ob : Obj, (w8.alloc ob).cell? ⟨S, 4, none⟩ = some (.slice A acc.length c) := fun ob => (blk_cell (blk_alloc HS8.out ob) 4).trans rfl; clear hx hy hp8 hg8))
            all_goals
              go_wp2
              go_roundg (mS s3)
              case measure => omega
              case rel =>
                have hlen : acc.length + 1 = (acc ++ [x]).length := by simp
                simp only [hlen]
                refine ⟨acc ++ [x], s3, AN, cN, Nat.le_refl _, ?_, ⟨HKn.out⟩, ⟨Kd.R_set HA9.out HS9.out (by decide) 4 _⟩, ⟨HF9.out.set (Nat.le_of_lt hS) HS9.out (by decide) (by decide) 4 _⟩, ⟨blk_far HR9.out (p := ⟨S, 4, none⟩) (Nat.ne_of_lt hS) _⟩, ⟨?_⟩, ⟨Kd.R_set HN2_9.out HS9.out (by decide) 4 _⟩⟩
                · rw [List.length_append, List.length_singleton]; omega
                · exact blk_put HS9.out 4 _ rfl
          · have hib : isP 3 brace s2 = true := by
              unfold isP
              rw [hbd]
              simp at hk
              rw [hk]
              rfl
            rw [hib] at hIs
            have HKn : acc = T1 ∧ s2 = T2 := by
              have hK := HK.out
              have h0 : stepsP (mS s2) s2 = ([], s2) := by
                generalize mS s2 = n
                cases n with
                | zero => rfl
                | succ n => unfold stepsP; rw [if_neg (fun h => hk h.2)]
              rw [h0, List.append_nil] at hK
              exact hK
            obtain ⟨rfl, rfl⟩ := HKn
            clear hbd hb hk hib HK
            go_wp2_with (first | (go_at_call 51; refine hO.mono ?_; rintro e w' ⟨rfl, rfl⟩) | (go_at_call 85; refine hIs.mono ?_; rintro e w' ⟨rfl, rfl⟩))
            clear hO hIs
            have HN4_7 := HA7
            refine (must_par g 3 (by decide) brace s2 wr HF7.out.par).mono ?_
            rintro e w8 ⟨rfl, hp8, hg8⟩
            have HF8 := Lib.hid (HF7.out.call hp8 hg8)
            have HR8 := Lib.hid (HF7.out.keeps (Nat.le_refl _) HR7.out hg8)
            have HS8 := Lib.hid (HF7.out.keeps (Nat.le_of_lt hS) HS7.out hg8)
            have HN2_8 := Lib.hid (row_keep HN2_7.out hg8 HL.out)
            have HN4_8 := Lib.hid (row_keep HN4_7.out hg8 HL.out)
            clear hp8 hg8 HF7 HR7 HS7 HN2_7 HN4_7
            have hSe := HS8.out
            have k0 : w8.cell? ⟨S, 0, none⟩ = some (.string a) := (blk_cell hSe 0).trans rfl
            have k1 : w8.cell? ⟨S, 1, none⟩ = some (.slice none 0 0) := (blk_cell hSe 1).trans rfl
            have k2 : w8.cell? ⟨S, 2, none⟩ = some (.slice A2 n2.length c2) := (blk_cell hSe 2).trans rfl
            have k3 : w8.cell? ⟨S, 3, none⟩ = some (.slice none 0 0) := (blk_cell hSe 3).trans rfl
            have k4 : w8.cell? ⟨S, 4, none⟩ = some (.slice A acc.length c) := (blk_cell hSe 4).trans rfl
            have hRe := HR8.out
            have r0 : w8.cell? ⟨w.heap.size, 0, none⟩ = some (.string ⟨#[]⟩) := (blk_cell hRe 0).trans rfl
            have z0 := blk_frozen hRe 0
            have r1 : w8.cell? ⟨w.heap.size, 1, none⟩ = some (.slice none 0 0) := (blk_cell hRe 1).trans rfl
            have z1 := blk_frozen hRe 1
            have r2 : w8.cell? ⟨w.heap.size, 2, none⟩ = some (.slice none 0 0) := (blk_cell hRe 2).trans rfl
            have z2 := blk_frozen hRe 2
            have r3 : w8.cell? ⟨w.heap.size, 3, none⟩ = some (.slice none 0 0) := (blk_cell hRe 3).trans rfl
            have z3 := blk_frozen hRe 3
            have r4 : w8.cell? ⟨w.heap.size, 4, none⟩ = some (.slice none 0 0) := (blk_cell hRe 4).trans rfl
            have z4 := blk_frozen hRe 4
            clear hSe hRe
            go_wp2
            have hs := set5_blk (.string a) (.slice none 0 0) (.slice A2 n2.length c2) (.slice none 0 0) (.slice A acc.length c) HR8.out
            have hF := HF8.out.set5 (Nat.le_refl _) (.string a) (.slice none 0 0) (.slice A2 n2.length c2) (.slice none 0 0) (.slice A acc.length c) HR8.out (by decide) (by decide)
            have hA := RS.set5 (Kd.R_nil _ _ _ _ _ : RS w8 w.heap.size (.slice none 0 0) []) (.string a) (.slice none 0 0) (.slice A2 n2.length c2) (.slice none 0 0) (.slice A acc.length c) HR8.out (by decide)
            have hB := RS.set5 HN2_8.out (.string a) (.slice none 0 0) (.slice A2 n2.length c2) (.slice none 0 0) (.slice A acc.length c) HR8.out (by decide)
            have hC := RS.set5 (Kd.R_nil _ _ _ _ _ : RS w8 w.heap.size (.slice none 0 0) []) (.string a) (.slice none 0 0) (.slice A2 n2.length c2) (.slice none 0 0) (.slice A acc.length c) HR8.out (by decide)
            have hD := R_set5 HN4_8.out (.string a) (.slice none 0 0) (.slice A2 n2.length c2) (.slice none 0 0) (.slice A acc.length c) HR8.out (by decide)
            clear k0 k1 k2 k3 k4 r0 r1 r2 r3 r4 z0 z1 z2 z3 z4
            unfold set5 at hs hF hA hB hC hD
            generalize (((((w8.setCell ⟨w.heap.size, 0, none⟩ (.string a)).setCell ⟨w.heap.size, 1, none⟩ (.slice none 0 0)).setCell ⟨w.heap.size, 2, none⟩ (.slice A2 n2.length c2)).setCell ⟨w.heap.size, 3, none⟩ (.slice none 0 0)).setCell ⟨w.heap.size, 4, none⟩ (.slice A acc.length c)) = wE at hs hF hA hB hC hD ⊢
            have g0 := (blk_cell hs 0).trans rfl
            have g1 := (blk_cell hs 1).trans rfl
            have g2 := (blk_cell hs 2).trans rfl
            have g3 := (blk_cell hs 3).trans rfl
            have g4 := (blk_cell hs 4).trans rfl
            exact bodyPost_ret (v := .agg #[.string a, .slice none 0 0, .slice A2 n2.length c2, .slice none 0 0, .slice A acc.length c]) (by simp [results, Tryz.results52, go_sem, g0, g1, g2, g3, g4]) rfl (by
              rw [HT.out]
              exact ⟨_, _, _, _, rfl, hA, hB, hC, hD, hF.par, hF.grown⟩)
        · have hbd : decide (s2.2 < 0) = false := by simpa using hb
          rw [hbd] at hO
          have HKn : acc = T1 ∧ s2 = T2 := by
            have hK := HK.out
            have h0 : stepsP (mS s2) s2 = ([], s2) := by
              generalize mS s2 = n
              cases n with
              | zero => rfl
              | succ n => unfold stepsP; rw [if_neg (fun h => hb h.1)]
            rw [h0, List.append_nil] at hK
            exact hK
          obtain ⟨rfl, rfl⟩ := HKn
          clear hbd hb HK hIs
          go_wp2_with (go_at_call 51; refine hO.mono ?_; rintro e w' ⟨rfl, rfl⟩)
          clear hO
          have HN4_7 := HA7
          refine (must_par g 3 (by decide) brace s2 wr HF7.out.par).mono ?_
          rintro e w8 ⟨rfl, hp8, hg8⟩
          have HF8 := Lib.hid (HF7.out.call hp8 hg8)
          have HR8 := Lib.hid (HF7.out.keeps (Nat.le_refl _) HR7.out hg8)
          have HS8 := Lib.hid (HF7.out.keeps (Nat.le_of_lt hS) HS7.out hg8)
          have HN2_8 := Lib.hid (row_keep HN2_7.out hg8 HL.out)
          have HN4_8 := Lib.hid (row_keep HN4_7.out hg8 HL.out)
          clear hp8 hg8 HF7 HR7 HS7 HN2_7 HN4_7
          have hSe := HS8.out
          have k0 : w8.cell? ⟨S, 0, none⟩ = some (.string a) := (blk_cell hSe 0).trans rfl
          have k1 : w8.cell? ⟨S, 1, none⟩ = some (.slice none 0 0) := (blk_cell hSe 1).trans rfl
          have k2 : w8.cell? ⟨S, 2, none⟩ = some (.slice A2 n2.length c2) := (blk_cell hSe 2).trans rfl
          have k3 : w8.cell? ⟨S, 3, none⟩ = some (.slice none 0 0) := (blk_cell hSe 3).trans rfl
          have k4 : w8.cell? ⟨S, 4, none⟩ = some (.slice A acc.length c) := (blk_cell hSe 4).trans rfl
          have hRe := HR8.out
          have r0 : w8.cell? ⟨w.heap.size, 0, none⟩ = some (.string ⟨#[]⟩) := (blk_cell hRe 0).trans rfl
          have z0 := blk_frozen hRe 0
          have r1 : w8.cell? ⟨w.heap.size, 1, none⟩ = some (.slice none 0 0) := (blk_cell hRe 1).trans rfl
          have z1 := blk_frozen hRe 1
          have r2 : w8.cell? ⟨w.heap.size, 2, none⟩ = some (.slice none 0 0) := (blk_cell hRe 2).trans rfl
          have z2 := blk_frozen hRe 2
          have r3 : w8.cell? ⟨w.heap.size, 3, none⟩ = some (.slice none 0 0) := (blk_cell hRe 3).trans rfl
          have z3 := blk_frozen hRe 3
          have r4 : w8.cell? ⟨w.heap.size, 4, none⟩ = some (.slice none 0 0) := (blk_cell hRe 4).trans rfl
          have z4 := blk_frozen hRe 4
          clear hSe hRe
          go_wp2
          have hs := set5_blk (.string a) (.slice none 0 0) (.slice A2 n2.length c2) (.slice none 0 0) (.slice A acc.length c) HR8.out
          have hF := HF8.out.set5 (Nat.le_refl _) (.string a) (.slice none 0 0) (.slice A2 n2.length c2) (.slice none 0 0) (.slice A acc.length c) HR8.out (by decide) (by decide)
          have hA := RS.set5 (Kd.R_nil _ _ _ _ _ : RS w8 w.heap.size (.slice none 0 0) []) (.string a) (.slice none 0 0) (.slice A2 n2.length c2) (.slice none 0 0) (.slice A acc.length c) HR8.out (by decide)
          have hB := RS.set5 HN2_8.out (.string a) (.slice none 0 0) (.slice A2 n2.length c2) (.slice none 0 0) (.slice A acc.length c) HR8.out (by decide)
          have hC := RS.set5 (Kd.R_nil _ _ _ _ _ : RS w8 w.heap.size (.slice none 0 0) []) (.string a) (.slice none 0 0) (.slice A2 n2.length c2) (.slice none 0 0) (.slice A acc.length c) HR8.out (by decide)
          have hD := R_set5 HN4_8.out (.string a) (.slice none 0 0) (.slice A2 n2.length c2) (.slice none 0 0) (.slice A acc.length c) HR8.out (by decide)
          clear k0 k1 k2 k3 k4 r0 r1 r2 r3 r4 z0 z1 z2 z3 z4
          unfold set5 at hs hF hA hB hC hD
          generalize (((((w8.setCell ⟨w.heap.size, 0, none⟩ (.string a)).setCell ⟨w.heap.size, 1, none⟩ (.slice none 0 0)).setCell ⟨w.heap.size, 2, none⟩ (.slice A2 n2.length c2)).setCell ⟨w.heap.size, 3, none⟩ (.slice none 0 0)).setCell ⟨w.heap.size, 4, none⟩ (.slice A acc.length c)) = wE at hs hF hA hB hC hD ⊢
          have g0 := (blk_cell hs 0).trans rfl
          have g1 := (blk_cell hs 1).trans rfl
          have g2 := (blk_cell hs 2).trans rfl
          have g3 := (blk_cell hs 3).trans rfl
          have g4 := (blk_cell hs 4).trans rfl
          exact bodyPost_ret (v := .agg #[.string a, .slice none 0 0, .slice A2 n2.length c2, .slice none 0 0, .slice A acc.length c]) (by simp [results, Tryz.results52, go_sem, g0, g1, g2, g3, g4]) rfl (by
            rw [HT.out]
            exact ⟨_, _, _, _, rfl, hA, hB, hC, hD, hF.par, hF.grown⟩)

end Go.Proofs.YthagibkmfgodgaaGreatDoor.X

namespace Go.Proofs.YthagibkmfgodgaaGreatDoor.X
open Go.RowKit Go.Maps Go.Proofs.YthagibkmfgodgaaGreatDoorW.PrintWords Go.Proofs.YthagibkmfgodgaaGreatDoorW.PrintMore

--BEGIN
def hexD (n : Nat) : UInt8 := UInt8.ofNat (if n < 10 then 48 + n else 87 + n)
def quoteC (c : UInt8) : Bytes :=
  if c = 34 ∨ c = 92 then [92, c] else if c = 10 then [92, 110] else if c = 9 then [92, 116]
  else if c.toNat < 32 ∨ 126 < c.toNat then [92, 120, hexD (c.toNat / 16), hexD (c.toNat % 16)] else [c]
def quoteL : Bytes → Bytes
  | [] => []
  | c :: r => quoteC c ++ quoteL r
def quoteF (s : Bytes) : Bytes := 34 :: (quoteL s ++ [34])
theorem hexD_val : ∀ n : Nat, n < 16 → hexV (hexD n) = n := by decide +kernel
theorem text_esc (k : Nat) (r : Bytes) (e : Nat × Nat) (he : escF r = e) (h0 : e.2 ≠ 0) : textF (k + 1) (92 :: r) = (textF k (r.drop e.2)).map fun p => (UInt8.ofNat e.1 :: p.1, p.2 + e.2 + 1) := by
  subst he
  rw [textF, if_neg (by decide), if_pos rfl, if_neg h0]
theorem text_quote : ∀ (s rest : Bytes) (k : Nat), (quoteL s).length < k → textF k (quoteL s ++ 34 :: rest) = some (s, (quoteL s).length + 1)
  | [], rest, 0, h => absurd h (Nat.not_lt_zero _)
  | [], rest, k + 1, _ => rfl
  | c :: r, rest, 0, h => absurd h (Nat.not_lt_zero _)
  | c :: r, rest, k + 1, h => by
    rw [quoteL, List.length_append] at h
    rw [quoteL, List.append_assoc, List.length_append]
    have ih : ∀ j, (quoteL r).length < j → textF j (quoteL r ++ 34 :: rest) = some (r, (quoteL r).length + 1) := fun j hj => text_quote r rest j hj
    unfold quoteC at h ⊢
    by_cases c1 : c = 34 ∨ c = 92
    · rw [if_pos c1] at h ⊢
      have he : escF (c :: (quoteL r ++ 34 :: rest)) = (c.toNat, 1) := by rcases c1 with rfl | rfl <;> rfl
      show textF (k + 1) (92 :: (c :: (quoteL r ++ 34 :: rest))) = _
      rw [text_esc k _ _ he (by simp), List.drop_succ_cons, List.drop_zero, ih k (by simp at h; omega)]
      simp
      omega
    · rw [if_neg c1] at h ⊢
      by_cases c2 : c = 10
      · rw [if_pos c2] at h ⊢
        have he : escF ((110 : UInt8) :: (quoteL r ++ 34 :: rest)) = (10, 1) := rfl
        show textF (k + 1) (92 :: (110 :: (quoteL r ++ 34 :: rest))) = _
        rw [text_esc k _ _ he (by simp), List.drop_succ_cons, List.drop_zero, ih k (by simp at h; omega), c2]
        simp
        omega
      · rw [if_neg c2] at h ⊢
        by_cases c3 : c = 9
        · rw [if_pos c3] at h ⊢
          have he : escF ((116 : UInt8) :: (quoteL r ++ 34 :: rest)) = (9, 1) := rfl
          show textF (k + 1) (92 :: (116 :: (quoteL r ++ 34 :: rest))) = _
          rw [text_esc k _ _ he (by simp), List.drop_succ_cons, List.drop_zero, ih k (by simp at h; omega), c3]
          simp
          omega
        · rw [if_neg c3] at h ⊢
          by_cases c4 : c.toNat < 32 ∨ 126 < c.toNat
          · rw [if_pos c4] at h ⊢
            have hlt := UInt8.toNat_lt c
            have h1 := hexD_val (c.toNat / 16) (by omega)
            have h2 := hexD_val (c.toNat % 16) (by omega)
            have he : escF ((120 : UInt8) :: hexD (c.toNat / 16) :: hexD (c.toNat % 16) :: (quoteL r ++ 34 :: rest)) = (c.toNat, 3) := by
              show hexF (hexD (c.toNat / 16) :: hexD (c.toNat % 16) :: (quoteL r ++ 34 :: rest)) = _
              show (if 0 ≤ hexV (hexD (c.toNat / 16)) ∧ 0 ≤ hexV (hexD (c.toNat % 16)) then ((16 * hexV (hexD (c.toNat / 16)) + hexV (hexD (c.toNat % 16))).toNat, 3) else (0, 0)) = _
              rw [h1, h2, if_pos ⟨by omega, by omega⟩]
              congr 1
              omega
            show textF (k + 1) (92 :: (120 :: hexD (c.toNat / 16) :: hexD (c.toNat % 16) :: (quoteL r ++ 34 :: rest))) = _
            rw [text_esc k _ _ he (by simp)]
            simp only [List.drop_succ_cons, List.drop_zero]
            rw [ih k (by simp at h; omega)]
            simp
            omega
          · rw [if_neg c4] at h ⊢
            show textF (k + 1) (c :: (quoteL r ++ 34 :: rest)) = _
            rw [textF, if_neg (fun e => c1 (.inl e)), if_neg (fun e => c1 (.inr e)), if_neg c4, ih k (by simp at h; omega)]
            simp
            omega
--END

end Go.Proofs.YthagibkmfgodgaaGreatDoor.X

namespace Go.Proofs.YthagibkmfgodgaaGreatDoor.X
open Go.RowKit Go.Maps Go.Proofs.YthagibkmfgodgaaGreatDoorW.PrintWords Go.Proofs.YthagibkmfgodgaaGreatDoorW.PrintMore

--BEGIN
/-- Words from a place on (b: within a remark). -/
def lexM (b : Bool) (s : Bytes) (p : Nat) : Except Nat (List SWord) := lexL (s.length + 1) (p + skipN b s) (s.drop (skipN b s))
theorem allF_lexM (s : Bytes) : allF s = (lexM false s 0).map (· ++ [⟨4, (s.length : Nat), ⟨#[]⟩⟩]) := by
  unfold allF lexM
  rw [Nat.zero_add]
theorem lexM_nil (b : Bool) (p : Nat) : lexM b [] p = .ok [] := by cases b <;> rfl
theorem lexM_step (b b' : Bool) (c : UInt8) (r : Bytes) (p : Nat) (h : skipN b (c :: r) = 1 + skipN b' r) : lexM b (c :: r) p = lexM b' r (p + 1) := by
  unfold lexM
  rw [h, Nat.add_comm 1, List.drop_succ_cons, show p + (skipN b' r + 1) = p + 1 + skipN b' r by omega]
  exact lexL_fuel _ _ _ _ (by rw [List.length_drop, List.length_cons]; omega) (by rw [List.length_drop]; omega)
theorem lexM_blank {c : UInt8} (h : blankB c = true) (r : Bytes) (p : Nat) : lexM false (c :: r) p = lexM false r (p + 1) := lexM_step _ _ _ _ _ (by rw [skipN, if_pos h])
theorem lexM_hash (r : Bytes) (p : Nat) : lexM false (35 :: r) p = lexM true r (p + 1) := lexM_step _ _ _ _ _ (by rw [skipN, if_neg (by decide), if_pos rfl])
theorem lexM_nl (r : Bytes) (p : Nat) : lexM true (10 :: r) p = lexM false r (p + 1) := lexM_step _ _ _ _ _ (by rw [skipN, if_pos rfl])
theorem lexM_com {c : UInt8} (h : c ≠ 10) (r : Bytes) (p : Nat) : lexM true (c :: r) p = lexM true r (p + 1) := lexM_step _ _ _ _ _ (by rw [skipN, if_neg h])
theorem head_tells : ∀ c : Nat, c < 256 → blankB (UInt8.ofNat c) = true ∨ UInt8.ofNat c = 35 → letU (UInt8.ofNat c) = false ∧ UInt8.ofNat c ≠ 34 ∧ punctB (UInt8.ofNat c) = false := by decide +kernel
theorem word_head {c : UInt8} {r : Bytes} {q : Nat × Bytes × Nat} (h : wordF (c :: r) = some q) : blankB c = false ∧ c ≠ 35 := by
  have key : ¬ (blankB c = true ∨ c = 35) := by
    intro hc
    have := head_tells c.toNat (UInt8.toNat_lt c)
    rw [show UInt8.ofNat c.toNat = c by simp] at this
    obtain ⟨h1, h2, h3⟩ := this hc
    unfold wordF at h
    rw [if_neg (by rw [runL_cons, h1]; simp)] at h
    simp [h2, h3] at h
  exact ⟨by cases hb : blankB c with
    | false => rfl
    | true => exact absurd (.inl hb) key, fun e => key (.inr e)⟩
theorem wordF_nil : wordF [] = none := by simp [wordF, runL]
theorem skip_word {s : Bytes} {q : Nat × Bytes × Nat} (h : wordF s = some q) : skipN false s = 0 := by
  match s, h with
  | [], h => rw [wordF_nil] at h; cases h
  | c :: r, h =>
    obtain ⟨h1, h2⟩ := word_head h
    rw [skipN, if_neg (by rw [h1]; simp), if_neg h2]
theorem lexM_word {s : Bytes} {q : Nat × Bytes × Nat} (h : wordF s = some q) (p : Nat) : lexM false s p = (lexM false (s.drop q.2.2) (p + q.2.2)).map (⟨(q.1 : Nat), (p : Nat), mk q.2.1⟩ :: ·) := by
  have hp := word_pos h
  have hsk := skip_word h
  unfold lexM
  rw [hsk, List.drop_zero, lexL, if_neg (fun e => by rw [e] at hp; simp at hp; omega), h]
  simp only [Nat.add_zero]
  rw [lexL_fuel s.length ((s.drop q.2.2).length + 1) _ _ (by have := skipN_le false (s.drop q.2.2); rw [List.length_drop, List.length_drop] at *; omega) (by have := skipN_le false (s.drop q.2.2); rw [List.length_drop, List.length_drop] at *; omega)]
theorem lexM_none {c : UInt8} {r : Bytes} (h : wordF (c :: r) = none) (h1 : blankB c = false) (h2 : c ≠ 35) (p : Nat) : lexM false (c :: r) p = .error p := by
  have hsk : skipN false (c :: r) = 0 := by rw [skipN, if_neg (by rw [h1]; simp), if_neg h2]
  unfold lexM
  rw [hsk, List.drop_zero, lexL, if_neg (by simp), h]
  simp only [Nat.add_zero]
/-- Which of the steps a text begins with. -/
theorem lex_cases {P : Bool → Bytes → Nat → Prop} (nil : ∀ b p, P b [] p)
    (blank : ∀ c r p, blankB c = true → P false r (p + 1) → P false (c :: r) p) (hash : ∀ r p, P true r (p + 1) → P false (35 :: r) p) (nl : ∀ r p, P false r (p + 1) → P true (10 :: r) p) (com : ∀ c r p, c ≠ 10 → P true r (p + 1) → P true (c :: r) p)
    (word : ∀ s p q, wordF s = some q → P false (s.drop q.2.2) (p + q.2.2) → P false s p) (bad : ∀ c r p, wordF (c :: r) = none → blankB c = false → c ≠ 35 → P false (c :: r) p) : ∀ b s p, P b s p := by
  have key : ∀ n b s p, s.length < n → P b s p := by
    intro n
    induction n with
    | zero => exact fun b s p h => absurd h (Nat.not_lt_zero _)
    | succ n ih =>
      intro b s p h
      match b, s, h with
      | b, [], _ => exact nil b p
      | true, c :: r, h =>
        by_cases hc : c = 10
        · subst hc; exact nl r p (ih _ _ _ (by simp at h; omega))
        · exact com c r p hc (ih _ _ _ (by simp at h; omega))
      | false, c :: r, h =>
        by_cases hb : blankB c = true
        · exact blank c r p hb (ih _ _ _ (by simp at h; omega))
        · by_cases h35 : c = 35
          · subst h35; exact hash r p (ih _ _ _ (by simp at h; omega))
          · cases hw : wordF (c :: r) with
            | none => exact bad c r p hw (by simpa using hb) h35
            | some q =>
              have hp := word_pos hw
              exact word _ p q hw (ih _ _ _ (by rw [List.length_drop]; omega))
  exact fun b s p => key (s.length + 1) b s p (by omega)
theorem runL_next (l : Bytes) : ∀ c ∈ (l.drop (runL l)).head?, letU c = false := by
  induction l with
  | nil => simp [runL]
  | cons c r ih =>
    rw [runL_cons]
    by_cases hc : letU c = true
    · rw [if_pos hc, Nat.add_comm, List.drop_succ_cons]; exact ih
    · rw [if_neg hc]; simpa using hc
/-- Behind a name no letter comes. -/
theorem word_next {s : Bytes} {q : Nat × Bytes × Nat} (h : wordF s = some q) (h1 : q.1 = 1) : ∀ c ∈ (s.drop q.2.2).head?, letU c = false := by
  unfold wordF at h
  by_cases h0 : 0 < runL s
  · rw [if_pos h0] at h
    cases h
    exact runL_next s
  · rw [if_neg h0] at h
    match s, h with
    | c :: r, h =>
      dsimp only at h
      split at h
      · obtain ⟨p, hp, rfl⟩ := Option.map_eq_some_iff.1 h
        simp at h1
      · split at h
        · cases h; simp at h1
        · cases h
    | [], h => cases h
--END

end Go.Proofs.YthagibkmfgodgaaGreatDoor.X

namespace Go.Proofs.YthagibkmfgodgaaGreatDoor.X
open Go.RowKit Go.Maps Go.Proofs.YthagibkmfgodgaaGreatDoorW.PrintWords Go.Proofs.YthagibkmfgodgaaGreatDoorW.PrintMore

--BEGIN
theorem map_ok {α β : Type} {f : α → β} {r : Except Nat α} {b : β} (h : r.map f = .ok b) : ∃ a, r = .ok a ∧ f a = b := by
  cases r with
  | error e => cases h
  | ok a => exact ⟨a, rfl, by injection h⟩
def Ends (b : Bool) (s : Bytes) : Prop := (s = [] ∧ b = false) ∨ ∃ a, s = a ++ [10]
theorem Ends.cons {b b' : Bool} {c : UInt8} {r : Bytes} (h : Ends b (c :: r)) (hb : c = 10 → b' = false) : Ends b' r := by
  rcases h with ⟨h, _⟩ | ⟨a, h⟩
  · cases h
  · match a, h with
    | [], h =>
      simp at h
      exact .inl ⟨h.2, hb h.1⟩
    | d :: a, h =>
      simp at h
      exact .inr ⟨a, h.2⟩
def Chain (t : Bytes) : Nat → List SWord → Prop
  | _, [] => True
  | lo, x :: r => ∃ a n : Nat, x.f1 = a ∧ lo ≤ a ∧ 0 < n ∧ a + n ≤ t.length ∧ (x.f0 = 2 ∨ (x.f0 = 1 ∨ x.f0 = 3) ∧ x.f2 = mk ((t.drop a).take n)) ∧ Chain t (a + n) r
theorem Chain.low {t : Bytes} {lo lo' : Nat} {l : List SWord} (h : Chain t lo l) (hl : lo' ≤ lo) : Chain t lo' l := by
  match l, h with
  | [], _ => exact trivial
  | x :: r, ⟨a, n, h1, h2, h3⟩ => exact ⟨a, n, h1, by omega, h3⟩
theorem word_said {s : Bytes} {q : Nat × Bytes × Nat} (h : wordF s = some q) : q.1 = 2 ∨ (q.1 = 1 ∨ q.1 = 3) ∧ q.2.1 = s.take q.2.2 := by
  unfold wordF at h
  by_cases h0 : 0 < runL s
  · rw [if_pos h0] at h
    cases h
    exact .inr ⟨.inl rfl, rfl⟩
  · rw [if_neg h0] at h
    match s, h with
    | d :: r, h =>
      dsimp only at h
      split at h
      · obtain ⟨x, _, rfl⟩ := Option.map_eq_some_iff.1 h
        exact .inl rfl
      · split at h
        · cases h; exact .inr ⟨.inr rfl, rfl⟩
        · cases h
    | [], h => cases h
theorem lexM_chain (t : Bytes) : ∀ b s p, p ≤ t.length → t.drop p = s → ∀ ws, lexM b s p = .ok ws → Chain t p ws := by
  have tl : ∀ {c : UInt8} {r : Bytes} {p : Nat}, p ≤ t.length → t.drop p = c :: r → p + 1 ≤ t.length ∧ t.drop (p + 1) = r := by
    intro c r p hp h
    have := congrArg List.length h
    rw [List.length_drop, List.length_cons] at this
    refine ⟨by omega, ?_⟩
    rw [← List.drop_drop, h, List.drop_succ_cons, List.drop_zero]
  apply lex_cases
  · intro b p _ _ ws h; rw [lexM_nil] at h; cases h; trivial
  · intro c r p hc ih hp hd ws h; rw [lexM_blank hc] at h; exact (ih (tl hp hd).1 (tl hp hd).2 ws h).low (by omega)
  · intro r p ih hp hd ws h; rw [lexM_hash] at h; exact (ih (tl hp hd).1 (tl hp hd).2 ws h).low (by omega)
  · intro r p ih hp hd ws h; rw [lexM_nl] at h; exact (ih (tl hp hd).1 (tl hp hd).2 ws h).low (by omega)
  · intro c r p hc ih hp hd ws h; rw [lexM_com hc] at h; exact (ih (tl hp hd).1 (tl hp hd).2 ws h).low (by omega)
  · intro s p q hq ih hp hd ws h
    have hpos := word_pos hq
    rw [lexM_word hq] at h
    obtain ⟨a, ha, rfl⟩ := map_ok h
    have hlen : s.length = t.length - p := by rw [← hd, List.length_drop]
    refine ⟨p, q.2.2, rfl, Nat.le_refl _, hpos.1, by omega, ?_, ih (by omega) (by rw [← hd, List.drop_drop]) a ha⟩
    rcases word_said hq with h2 | ⟨h13, hs⟩
    · exact .inl (by show ((q.1 : Nat) : Int) = 2; omega)
    · refine .inr ⟨?_, ?_⟩
      · show ((q.1 : Nat) : Int) = 1 ∨ ((q.1 : Nat) : Int) = 3
        omega
      · show mk q.2.1 = _
        rw [hs, hd]
  · intro c r p hq h1 h2 _ _ ws h; rw [lexM_none hq h1 h2] at h; cases h
--END

end Go.Proofs.YthagibkmfgodgaaGreatDoor.X

namespace Go.Proofs.YthagibkmfgodgaaGreatDoor.X
open Go.RowKit Go.Maps Go.Proofs.YthagibkmfgodgaaGreatDoorW.PrintWords Go.Proofs.YthagibkmfgodgaaGreatDoorW.PrintMore

--BEGIN
theorem failsP_stop {s : PS} (hg : GoodW s.1) (hs : s.2 < 0) : ¬ (failsP s).2 < 0 := by
  unfold failsP
  rw [if_pos hs]
  obtain ⟨l, d⟩ := s
  match l, hg.ne, hg with
  | x :: r, _, hg => have := (hg.2 x (by simp)).1; show ¬ x.f1 < 0; omega
--END

end Go.Proofs.YthagibkmfgodgaaGreatDoor.X

namespace Go.Proofs.YthagibkmfgodgaaGreatDoor.X
open Go.RowKit Go.Maps Go.Proofs.YthagibkmfgodgaaGreatDoorW.PrintWords Go.Proofs.YthagibkmfgodgaaGreatDoorW.PrintMore

--BEGIN
section
variable {e : SWord} {t : List SWord}
end

theorem textF_size : ∀ (k : Nat) (l : Bytes) (p : Bytes × Nat), textF k l = some p → p.1.length ≤ p.2
  | 0, _, _, h => by cases h
  | k + 1, [], _, h => by cases h
  | k + 1, c :: r, p, h => by
    unfold textF at h
    split at h
    · cases h; simp
    · split at h
      · split at h
        · cases h
        · obtain ⟨q, hq, rfl⟩ := Option.map_eq_some_iff.1 h
          have := textF_size k _ q hq
          simp only [List.length_cons]
          omega
      · split at h
        · cases h
        · obtain ⟨q, hq, rfl⟩ := Option.map_eq_some_iff.1 h
          have := textF_size k _ q hq
          simp only [List.length_cons]
          omega
theorem word_size {s : Bytes} {q : Nat × Bytes × Nat} (h : wordF s = some q) : q.2.1.length ≤ q.2.2 := by
  unfold wordF at h
  by_cases h0 : 0 < runL s
  · rw [if_pos h0] at h
    cases h
    show (s.take (runL s)).length ≤ runL s
    rw [List.length_take]
    omega
  · rw [if_neg h0] at h
    match s, h with
    | d :: r, h =>
      dsimp only at h
      split at h
      · obtain ⟨x, hx, rfl⟩ := Option.map_eq_some_iff.1 h
        have := textF_size _ _ x hx
        dsimp only
        omega
      · split at h
        · cases h; simp
        · cases h
    | [], h => cases h
theorem lexM_sizes : ∀ b s p, ∀ ws, lexM b s p = .ok ws → ∀ x ∈ ws, x.f2.size ≤ s.length := by
  apply lex_cases
  · intro b p ws h x hx; rw [lexM_nil] at h; cases h; cases hx
  · intro c r p hc ih ws h x hx; rw [lexM_blank hc] at h; have := ih ws h x hx; simp; omega
  · intro r p ih ws h x hx; rw [lexM_hash] at h; have := ih ws h x hx; simp; omega
  · intro r p ih ws h x hx; rw [lexM_nl] at h; have := ih ws h x hx; simp; omega
  · intro c r p hc ih ws h x hx; rw [lexM_com hc] at h; have := ih ws h x hx; simp; omega
  · intro s p q hq ih ws h x hx
    have hp := word_pos hq
    rw [lexM_word hq] at h
    obtain ⟨a, ha, rfl⟩ := map_ok h
    rcases List.mem_cons.1 hx with rfl | hx
    · have := word_size hq
      show (mk q.2.1).size ≤ _
      rw [Lib.size_eq, mk_data]
      omega
    · have := ih a ha x hx; rw [List.length_drop] at this; omega
  · intro c r p hq h1 h2 ws h; rw [lexM_none hq h1 h2] at h; cases h
theorem lexM_good {s : Bytes} {ws : List SWord} (hs : s.length ≤ 100000) (h : lexM false s 0 = .ok ws) : (∀ x ∈ ws, x.f0 ≠ 4) ∧ GoodW (ws ++ [⟨4, (s.length : Nat), ⟨#[]⟩⟩]) := by
  have hch := lexM_chain s false s 0 (Nat.zero_le _) List.drop_zero ws h
  have key : ∀ (ws : List SWord) lo, Chain s lo ws → ∀ x ∈ ws, x.f0 ≠ 4 ∧ 0 ≤ x.f1 ∧ x.f1 ≤ 100000 := by
    intro ws
    induction ws with
    | nil => exact fun _ _ x hx => by cases hx
    | cons y r ih =>
      rintro lo ⟨a, n, h1, h2, h3, h4, h5, h6⟩ x hx
      rcases List.mem_cons.1 hx with rfl | hx
      · refine ⟨?_, by omega, by omega⟩
        rcases h5 with h5 | ⟨h5 | h5, _⟩ <;> rw [h5] <;> decide
      · exact ih _ h6 x hx
  refine ⟨fun x hx => (key ws 0 hch x hx).1, ⟨⟨4, (s.length : Nat), ⟨#[]⟩⟩, by simp, rfl⟩, fun x hx => ?_⟩
  rcases List.mem_append.1 hx with hx | hx
  · exact ⟨(key ws 0 hch x hx).2.1, (key ws 0 hch x hx).2.2, Nat.le_trans (lexM_sizes false s 0 ws h x hx) hs⟩
  · rw [List.mem_singleton.1 hx]
    exact ⟨by simp, by simp; omega, show (0 : Nat) ≤ 100000 by omega⟩
theorem allF_good {s : Bytes} {l : List SWord} (hs : s.length ≤ 100000) (h : allF s = .ok l) : GoodW l := by
  rw [allF_lexM] at h
  obtain ⟨ws, h1, rfl⟩ := map_ok h
  exact (lexM_good hs h1).2
theorem fileP_of (l : List SWord) : fileP l = if (rulesP (l.length + 1) (l, -1)).2.2 < 0 then ((rulesP (l.length + 1) (l, -1)).1, 0, 0) else ([], 1, (rulesP (l.length + 1) (l, -1)).2.2) := rfl
--END

end Go.Proofs.YthagibkmfgodgaaGreatDoor.X

namespace Go.Proofs.YthagibkmfgodgaaGreatDoor.X
open Go.RowKit Go.Maps Go.Proofs.YthagibkmfgodgaaGreatDoorW.PrintWords Go.Proofs.YthagibkmfgodgaaGreatDoorW.PrintMore Go.Proofs.YthagibkmfgodgaaGreatDoorW.PrintLast

theorem words_of {W : World} {base : Nat} {v : Value} {l : List SWord} (h : Kd.R k34 34 W base (fun _ => True) v l) (hne : l ≠ []) :
    ∃ b c cur, v = .slice (some ⟨b, 0, none⟩) l.length c ∧ l.length ≤ c ∧ W.heap[b]? = some (.cells cur 34 (0, 0)) ∧ WordsAt cur 0 l := by
  obtain ⟨A, c, he, hc, hC⟩ := Kd.R_reads h
  obtain ⟨inner, ho⟩ := Kd.R_own h
  have hpos : 0 < l.length := List.length_pos_iff.2 hne
  rcases ho.2 with ⟨hv, hn⟩ | ⟨g, cap, cur, hv, hg, hh, r⟩
  · omega
  · rw [he] at hv
    injection hv with h1 h2 h3
    subst h1
    refine ⟨g, c, cur, he, hc, hh, fun j x hj => ?_⟩
    obtain ⟨ad, ha, hcell⟩ := hC.2.2 hpos
    injection ha with ha
    subst ha
    obtain ⟨cs, hl, hK, hcc⟩ := hcell j x hj
    have hcs := k34_open hK
    subst hcs
    have k0 := hcc 0 _ rfl
    have k1 := hcc 1 _ rfl
    have k2 := hcc 2 _ rfl
    rw [add_plain, blk_cell hh] at k0 k1 k2
    have hsz : (k34).sz = 3 := rfl
    rw [hsz] at k0 k1 k2
    refine ⟨?_, ?_, ?_⟩
    · rw [show 0 + 3 * j = j * 3 + 0 by omega]; exact k0
    · rw [show 0 + 3 * j + 1 = j * 3 + 1 by omega]; exact k1
    · rw [show 0 + 3 * j + 2 = j * 3 + 2 by omega]; exact k2
theorem mS_rule {s : PS} (hg : GoodW s.1) (hs : s.2 < 0) : mS (ruleP s).2 < mS s := by
  have hm : mS s = s.1.length + 1 := by unfold mS; rw [if_pos hs]
  have h1 : mS (mustP 1 wRule s) < mS s := by
    rw [hm]
    unfold mustP
    split
    · have h2 := mS_le (s.1.tail, s.2)
      have h3 : 0 < s.1.length := List.length_pos_iff.2 hg.ne
      have h4 : (s.1.tail, s.2).1.length = s.1.length - 1 := List.length_tail
      omega
    · have := failsP_stop hg hs
      unfold mS
      rw [if_neg this, failsP_len]
      omega
  have h2 : mS (ruleP s).2 ≤ mS (mustP 1 wRule s) := by
    have h := inv_mS (mS (mustP 1 wRule s))
    exact h.must (h.steps _ (h.if_ _ (h.list (h.must (h.if_ _ (h.must (h.name (Nat.le_refl _)) (by decide) _)) (by decide) _)))) (by decide) _
  omega
theorem rules_fuel' : ∀ (n m : Nat) (s : PS), GoodW s.1 → mS s ≤ n → mS s ≤ m → rulesP n s = rulesP m s
  | 0, 0, _, _, _, _ => rfl
  | 0, m + 1, s, hg, h, _ => by
    unfold rulesP
    rw [if_neg (fun hc => by have := List.length_pos_iff.2 hg.ne; unfold mS at h; omega)]
  | n + 1, 0, s, hg, _, h => by
    unfold rulesP
    rw [if_neg (fun hc => by have := List.length_pos_iff.2 hg.ne; unfold mS at h; omega)]
  | n + 1, m + 1, s, hg, h1, h2 => by
    unfold rulesP
    by_cases hc : s.2 < 0 ∧ (headW s.1).f0 ≠ 4
    · rw [if_pos hc, if_pos hc]
      have := mS_rule hg hc.1
      rw [rules_fuel' n m _ (inv_good.rule hg) (by omega) (by omega)]
    · rw [if_neg hc, if_neg hc]
theorem lexL_len : ∀ (k p : Nat) (s : Bytes) (l : List SWord), lexL k p s = .ok l → l.length ≤ s.length
  | 0, _, _, _, h => by cases h
  | k + 1, p, s, l, h => by
    unfold lexL at h
    by_cases h0 : s = []
    · rw [if_pos h0] at h; cases h; simp
    · rw [if_neg h0] at h
      cases hw : wordF s with
      | none => rw [hw] at h; cases h
      | some q =>
        rw [hw] at h
        obtain ⟨a, ha, rfl⟩ := map_ok h
        have h1 := lexL_len k _ _ a ha
        have h2 := word_pos hw
        simp only [List.length_drop] at h1
        simp only [List.length_cons]
        omega
theorem allF_len {s : Bytes} {l : List SWord} (h : allF s = .ok l) : l.length ≤ s.length + 1 := by
  unfold allF at h
  obtain ⟨a, ha, rfl⟩ := map_ok h
  have := lexL_len _ _ _ a ha
  rw [List.length_drop] at this
  simp
  omega
/-- What parse.File answers. -/
def IsFileR (r : List SRule × Int × Int) (w : World) (e : Ending) (w' : World) : Prop :=
  ∃ v : Value, e = .returned (.tuple #[v, .agg #[.int .i64 r.2.1, .int .i64 r.2.2]]) ∧ Kd.R k49 49 w' w.heap.size (fun _ => True) v r.1 ∧ Below w.heap.size w w'

set_option maxHeartbeats 8000000 in
set_option maxRecDepth 100000 in
theorem file_calls (s : ByteArray) (w : World) (hG : GOK w) :
    Calls Tryz.prog 28 #[.string s] w (IsFileR (fileT s.data.toList) w) := by
  have HG := Lib.hid hG
  clear hG
  by_cases hbig : 20000 < s.size
  · have hd : decide ((20000 : Int) < (s.size : Int)) = true := by simp; omega
    have HV : Hid (fileT s.data.toList = ([], 4, -1)) := by
      show _ = _
      unfold fileT
      rw [if_pos (by rw [← Lib.size_eq]; exact hbig)]
    clear hbig
    go_enter Tryz.func28, Tryz.ntmps28
    go_wp2
    have hs := blk_new w (.cells #[.int .i64 4, .int .i64 (-1)] 27)
    have hB := (Below.refl w.heap.size w).alloc (Nat.le_refl _) (.cells #[.int .i64 4, .int .i64 (-1)] 27)
    generalize w.alloc (.cells #[.int .i64 4, .int .i64 (-1)] 27) = wE at hs hB ⊢
    have g0 := (blk_cell hs 0).trans rfl
    have g1 := (blk_cell hs 1).trans rfl
    exact bodyPost_ret (v := .tuple #[.slice none 0 0, .agg #[.int .i64 4, .int .i64 (-1)]]) (by simp [results, Tryz.results28, go_sem, g0, g1]) rfl (by
      rw [HV.out]
      exact ⟨_, rfl, Kd.R_nil _ _ _ _ _, hB⟩)
  · have hd : decide ((20000 : Int) < (s.size : Int)) = false := by simp; omega
    have hlen : s.data.toList.length ≤ 20000 := by rw [← Lib.size_eq]; omega
    have hA := fun W => all_calls s (by omega) W
    have hV : fileT s.data.toList = match allF s.data.toList with | .error p => ([], 1, (p : Nat)) | .ok l => fileP l := by
      unfold fileT
      rw [if_neg (by omega)]
      rfl
    clear hbig
    cases hall : allF s.data.toList with
    | error p =>
      have HV : Hid (fileT s.data.toList = ([], 1, ((p : Nat) : Int))) := by show _ = _; rw [hV, hall]
      rw [hall] at hA
      replace hA : ∀ W, Calls Tryz.prog 18 #[.string s] W (IsAllR ([], 1, (p : Nat)) W) := hA
      clear hV hall hlen
      go_enter Tryz.func28, Tryz.ntmps28
      go_wp2_with fail
      refine (hA _).mono ?_
      rintro e w1 ⟨v0, rfl, hr1, hb1⟩
      have hR1 := blk_below (blk_new w (.cells #[.int .i64 0, .int .i64 0] 27)) hb1
      have HB1 := Lib.hid (below_then ((Below.refl w.heap.size w).alloc (Nat.le_refl _) (.cells #[.int .i64 0, .int .i64 0] 27)) (by simp) hb1)
      obtain ⟨A0, c0, rfl, _, _⟩ := Kd.R_reads hr1
      have hR2 := blk_alloc hR1 (.cells #[.int .i64 1, .int .i64 (p : Nat)] 27)
      have hE2 := blk_new w1 (.cells #[.int .i64 1, .int .i64 (p : Nat)] 27)
      have HB2 := Lib.hid (HB1.out.alloc HB1.out.size (.cells #[.int .i64 1, .int .i64 (p : Nat)] 27))
      clear hA hb1 hr1 hR1 HB1
      go_wp2
      generalize w1.alloc (.cells #[.int .i64 1, .int .i64 (p : Nat)] 27) = w2 at hR2 hE2 HB2 ⊢
      generalize w1.heap.size = E at hE2 ⊢
      have HR2 := Lib.hid hR2
      have k0 : w2.cell? ⟨E, 0, none⟩ = some (.int .i64 1) := (blk_cell hE2 0).trans rfl
      have k1 : w2.cell? ⟨E, 1, none⟩ = some (.int .i64 (p : Nat)) := (blk_cell hE2 1).trans rfl
      have r0 : w2.cell? ⟨w.heap.size, 0, none⟩ = some (.int .i64 0) := (blk_cell hR2 0).trans rfl
      have r1 : w2.cell? ⟨w.heap.size, 1, none⟩ = some (.int .i64 0) := (blk_cell hR2 1).trans rfl
      have f0 : w2.frozen? ⟨w.heap.size, 0, none⟩ = false := blk_frozen hR2 0
      have f1 : w2.frozen? ⟨w.heap.size, 1, none⟩ = false := blk_frozen hR2 1
      clear hR2 hE2
      go_region
      all_goals
        have hs := two_set (.int .i64 1) (.int .i64 (p : Nat)) HR2.out
        have hB := (HB2.out.setCell (p := ⟨w.heap.size, 0, none⟩) (Nat.le_refl _) (.int .i64 1)).setCell (p := ⟨w.heap.size, 1, none⟩) (Nat.le_refl _) (.int .i64 (p : Nat))
        go_wp2
        have hs2 := blk_drew hs
        have hB2 := below_drew hB
        generalize ((w2.setCell ⟨w.heap.size, 0, none⟩ (.int .i64 1)).setCell ⟨w.heap.size, 1, none⟩ (.int .i64 (p : Nat))).drew = wE at hs2 hB2 ⊢
        have g0 := (blk_cell hs2 0).trans rfl
        have g1 := (blk_cell hs2 1).trans rfl
        exact bodyPost_ret (v := .tuple #[.slice none 0 0, .agg #[.int .i64 1, .int .i64 (p : Nat)]]) (by simp [results, Tryz.results28, go_sem, g0, g1]) rfl (by
          rw [HV.out]
          exact ⟨_, rfl, Kd.R_nil _ _ _ _ _, hB2⟩)
    | ok l =>
      have HV : Hid (fileT s.data.toList = fileP l) := by show _ = _; rw [hV, hall]
      have hgood : GoodW l := allF_good (by omega) hall
      have hll : l.length ≤ 20001 := Nat.le_trans (allF_len hall) (Nat.add_le_add_right hlen 1)
      rw [hall] at hA
      replace hA : ∀ W, Calls Tryz.prog 18 #[.string s] W (IsAllR (l, 0, 0) W) := hA
      have HGood := Lib.hid hgood
      clear hV hall hlen hgood
      go_enter Tryz.func28, Tryz.ntmps28
      go_wp2_with fail
      refine (hA _).mono ?_
      rintro e w1 ⟨v0, rfl, hr1, hb1⟩
      replace hr1 : Kd.R k34 34 w1 (w.alloc (.cells #[.int .i64 0, .int .i64 0] 27)).heap.size (fun _ => True) v0 l := hr1
      have hR1 := blk_below (blk_new w (.cells #[.int .i64 0, .int .i64 0] 27)) hb1
      have hB1 := below_then ((Below.refl w.heap.size w).alloc (Nat.le_refl _) (.cells #[.int .i64 0, .int .i64 0] 27)) (by simp) hb1
      obtain ⟨b, c, cur, rfl, hc, hbl, hwd⟩ := words_of hr1 HGood.out.ne
      have hs2 := blk_alloc hbl (.cells #[.int .i64 0, .int .i64 0] 27)
      have hs3 := blk_alloc hs2 (.cells #[.slice (some ⟨b, 0, none⟩) l.length c, .int .i64 (-1)] 74)
      have hp3 := blk_new (w1.alloc (.cells #[.int .i64 0, .int .i64 0] 27)) (.cells #[.slice (some ⟨b, 0, none⟩) l.length c, .int .i64 (-1)] 74)
      have hR3 := blk_alloc (blk_alloc hR1 (.cells #[.int .i64 0, .int .i64 0] 27)) (.cells #[.slice (some ⟨b, 0, none⟩) l.length c, .int .i64 (-1)] 74)
      have hB2 := hB1.alloc hB1.size (.cells #[.int .i64 0, .int .i64 0] 27)
      have hB3 := hB2.alloc hB2.size (.cells #[.slice (some ⟨b, 0, none⟩) l.length c, .int .i64 (-1)] 74)
      have hgs : (w1.alloc (.cells #[.int .i64 0, .int .i64 0] 27)).heap.size = w1.heap.size + 1 := by simp
      have hwl : w.heap.size < w1.heap.size := blk_lt hR1
      rw [hgs] at hp3
      have hF : Fly ((w1.alloc (.cells #[.int .i64 0, .int .i64 0] 27)).alloc (.cells #[.slice (some ⟨b, 0, none⟩) l.length c, .int .i64 (-1)] 74)) (w1.heap.size + 1) ((w1.alloc (.cells #[.int .i64 0, .int .i64 0] 27)).alloc (.cells #[.slice (some ⟨b, 0, none⟩) l.length c, .int .i64 (-1)] 74)) (l, -1) := by
        refine Fly.start ⟨⟨b, 0, c, cur, hp3, hc, hs3, hwd⟩, ⟨w, HG.out, by omega, hB3⟩, HGood.out, by show l.length ≤ 100000; omega⟩
      have HF := Lib.hid hF
      have HR := Lib.hid hR3
      have HB := Lib.hid hB3
      have hRg : w.heap.size < w1.heap.size + 1 := by omega
      clear hA hb1 hr1 hR1 hB1 hbl hwd hs2 hs3 hp3 hR3 hB2 hB3 hgs hF hwl hc
      go_wp2_with fail
      generalize (w1.alloc (.cells #[.int .i64 0, .int .i64 0] 27)).alloc (.cells #[.slice (some ⟨b, 0, none⟩) l.length c, .int .i64 (-1)] 74) = wg at HF HR HB ⊢
      generalize w1.heap.size + 1 = g at HF hRg ⊢
      go_loopg [7] (mS (l, -1)) (fun gg s7 wr => ∃ (acc : List SRule) (s2 : PS) (A : Option Addr) (c : Nat), s7 = .slice A acc.length c ∧ mS s2 ≤ gg ∧ acc.length + mS s2 ≤ mS (l, -1) ∧ Aside0 (acc ++ (rulesP (mS s2) s2).1 = (rulesP (mS (l, -1)) (l, -1)).1 ∧ (rulesP (mS s2) s2).2 = (rulesP (mS (l, -1)) (l, -1)).2) ∧
        Aside0 (Kd.R k49 49 wr wg.heap.size (fun _ => True) (.slice A acc.length c) acc) ∧ Aside0 (Fly wg g wr s2) ∧ Aside0 (wr.heap[w.heap.size]? = some (.cells #[.int .i64 0, .int .i64 0] 27 (0, 0))))
      case atStart => exact ⟨[], (l, -1), none, 0, rfl, Nat.le_refl _, by simp, ⟨by simp⟩, ⟨Kd.R_nil _ _ _ _ _⟩, ⟨HF.out⟩, ⟨HR.out⟩⟩
      case round =>
        obtain ⟨acc, s2, A, c, rfl, hgk, hal, HK, HA7, HF7, HR7⟩ := hrel
        have hO := ok_calls g s2 wr HF7.out.par.has
        have hO2 := hO
        by_cases hb : s2.2 < 0
        · have hbd : decide (s2.2 < 0) = true := by simpa using hb
          rw [hbd] at hO
          obtain ⟨b2, o2, cp, cur2, hq⟩ := HF7.out.par.has
          have h0 : wr.cell? ⟨g, 0, none⟩ = some (.slice (some ⟨b2, o2, none⟩) s2.1.length cp) := (blk_cell hq.own 0).trans rfl
          obtain ⟨kk0, _, _⟩ := hq.first HF7.out.par.good.ne
          have hpos : 0 < s2.1.length := List.length_pos_iff.2 HF7.out.par.good.ne
          by_cases hk : (headW s2.1).f0 = 4
          · have hkd : ((headW s2.1).f0 != 4) = false := by simpa using hk
            have HKn : acc = (rulesP (mS (l, -1)) (l, -1)).1 ∧ s2 = (rulesP (mS (l, -1)) (l, -1)).2 := by
              have hK := HK.out
              have h0 : rulesP (mS s2) s2 = ([], s2) := by
                generalize mS s2 = n
                cases n with
                | zero => rfl
                | succ n => unfold rulesP; rw [if_neg (fun h => h.2 hk)]
              rw [h0, List.append_nil] at hK
              exact hK
            have HV2 : Hid (fileT s.data.toList = (acc, 0, 0)) := by
              show _ = _
              rw [HV.out, fileP_of, show l.length + 1 = mS (l, -1) from rfl, if_pos (by rw [← HKn.2]; exact hb), ← HKn.1]
            have HB7 := Lib.hid (HB.out.grown HF7.out.grown HB.out.size (fun k hk => by injection hk with hk; omega))
            have r0 : wr.cell? ⟨w.heap.size, 0, none⟩ = some (.int .i64 0) := (blk_cell HR7.out 0).trans rfl
            have r1 : wr.cell? ⟨w.heap.size, 1, none⟩ = some (.int .i64 0) := (blk_cell HR7.out 1).trans rfl
            have f0 := blk_frozen HR7.out 0
            have f1 := blk_frozen HR7.out 1
            clear hbd hb hk hq HKn HK HV hO2
            go_wp2_with (go_at_call 51; refine hO.mono ?_; rintro e w' ⟨rfl, rfl⟩)
            have hs := two_set (.int .i64 0) (.int .i64 0) HR7.out
            have hB := (HB7.out.setCell (p := ⟨w.heap.size, 0, none⟩) (Nat.le_refl _) (.int .i64 0)).setCell (p := ⟨w.heap.size, 1, none⟩) (Nat.le_refl _) (.int .i64 0)
            have hA9 := Kd.R_set (Kd.R_set (Kd.R_lower HA7.out HB.out.size) HR7.out (by decide) 0 (.int .i64 0)) (blk_put HR7.out 0 (.int .i64 0) rfl) (by decide) 1 (.int .i64 0)
            generalize (wr.setCell ⟨w.heap.size, 0, none⟩ (.int .i64 0)).setCell ⟨w.heap.size, 1, none⟩ (.int .i64 0) = wE at hs hB hA9 ⊢
            have g0 := (blk_cell hs 0).trans rfl
            have g1 := (blk_cell hs 1).trans rfl
            exact bodyPost_ret (v := .tuple #[.slice A acc.length c, .agg #[.int .i64 0, .int .i64 0]]) (by simp [results, Tryz.results28, go_sem, g0, g1]) rfl (by
              rw [HV2.out]
              exact ⟨_, rfl, hA9, hB⟩)
          · have hkd : ((headW s2.1).f0 != 4) = true := by simpa using hk
            have hN := fun W hW => rule_calls g s2 W hW
            have hmn := mS_rule HF7.out.par.good hb
            have HKn : Hid (((acc ++ [(ruleP s2).1]) ++ (rulesP (mS (ruleP s2).2) (ruleP s2).2).1 = (rulesP (mS (l, -1)) (l, -1)).1 ∧ (rulesP (mS (ruleP s2).2) (ruleP s2).2).2 = (rulesP (mS (l, -1)) (l, -1)).2)) := by
              have hK := HK.out
              obtain ⟨n, hn⟩ : ∃ n, mS s2 = n + 1 := ⟨mS s2 - 1, by omega⟩
              rw [hn, rulesP, if_pos ⟨hb, hk⟩, rules_fuel' n (mS (ruleP s2).2) (ruleP s2).2 (inv_good.rule HF7.out.par.good) (by omega) (Nat.le_refl _)] at hK
              exact ⟨by rw [← hK.1]; simp, hK.2⟩
            generalize (ruleP s2).1 = x at HKn hN
            generalize (ruleP s2).2 = s3 at HKn hN hmn
            have hal2 : acc.length ≤ 200000 := by
              have : mS (l, -1) ≤ 20002 := Nat.le_trans (mS_le _) (by show l.length + 1 ≤ 20002; omega)
              omega
            clear hbd hb hk hq
            go_wp2_with (first | (go_at_call 51; refine hO.mono ?_; rintro e w' ⟨rfl, rfl⟩) | (go_at_call 52; refine (hN _ HF7.out.par).mono ?_; rintro e w8 ⟨v1, v2, v3, v4, rfl, hx1, hx2, hx3, hx4, hp8, hg8⟩; obtain ⟨X1, d1, rfl, _, _⟩ := Kd.R_reads hx1; obtain ⟨X2, d2, rfl, _, _⟩ := Kd.R_reads hx2; obtain ⟨X3, d3, rfl, _, _⟩ := Kd.R_reads hx3; obtain ⟨X4, d4, rfl, _, _⟩ := Kd.R_reads hx4; have HX1 := Lib.hid (Kd.R_lower (Kd.R_new hx1 (Kd.R_own HA7.out).choose_spec) HF7.out.grown.size); have HX2 := Lib.hid (Kd.R_lower (Kd.R_new hx2 (Kd.R_own HA7.out).choose_spec) HF7.out.grown.size); have HX3 := Lib.hid (Kd.R_lower (Kd.R_new hx3 (Kd.R_own HA7.out).choose_spec) HF7.out.grown.size); have HX4 := Lib.hid (Kd.R_lower (Kd.R_new hx4 (Kd.R_own HA7.out).choose_spec) HF7.out.grown.size); have HF8 := Lib.hid (HF7.out.call hp8 hg8); have HR8 := Lib.hid (blk_grown HR7.out hg8 (fun e => by injection e with e; omega)); have HA8 := Lib.hid (row_keep HA7.out hg8 HF7.out.lt); clear hx1 hx2 hx3 hx4 hp8 hg8) | ((with_reducible refine gate_builtin (b := .append) (xs := #[.tmp 36, .tmp 39]) rfl ?_); at_builtin; refine Kd.R_append k49 (w0 := w8) wg.heap.size rfl (.tmp 36) (.tmp 39) 35 49 (.agg #[.string ⟨#[]⟩, .slice none 0 0, .slice none 0 0, .slice none 0 0, .slice none 0 0]) 112 rfl Tryz.underlying35 info49 rfl (by decide) (by decide) (.slice A acc.length c) acc x [.string x.f0, .slice X1 x.f1.length d1, .slice X2 x.f2.length d2, .slice X3 x.f3.length d3, .slice X4 x.f4.length d4] (fun _ => True) (fun k_ => True ∧ some k_ ≠ (Value.slice A acc.length c).ownBlock) rfl rfl (k49_mkM _ _ _ x HX1.out HX2.out HX3.out HX4.out) (fun _ hk => hk) (fun _ _ => trivial) HA8.out (Below.refl _ _) HF8.out.grown.size ?aL ?_; (case aL => omega); intro v1 w9 ho hb hg hat; obtain ⟨AN, cN, rfl, _, _⟩ := Kd.R_reads ho; have HA9 := Lib.hid ho; have HF9 := Lib.hid (HF8.out.row (Kd.R_own HA8.out).choose_spec (by decide) (by decide) (Nat.le_refl _) hb hg); have HR9 := Lib.hid (blk_grown HR8.out hg (Kd.R_ne HA8.out HR8.out (by decide))); clear ho hb hg hat))
            have hlen : acc.length + 1 = (acc ++ [x]).length := by simp
            go_roundg (mS s3)
            case measure => omega
            case rel => exact ⟨acc ++ [x], s3, AN, cN, by first | rfl | (simp only [List.length_append, List.length_singleton]), Nat.le_refl _, by rw [List.length_append, List.length_singleton]; omega, ⟨HKn.out⟩, ⟨HA9.out⟩, ⟨HF9.out⟩, ⟨HR9.out⟩⟩
        · have hbd : decide (s2.2 < 0) = false := by simpa using hb
          rw [hbd] at hO
          have HKn : s2 = (rulesP (mS (l, -1)) (l, -1)).2 := by
            have hK := HK.out
            have h0 : rulesP (mS s2) s2 = ([], s2) := by
              generalize mS s2 = n
              cases n with
              | zero => rfl
              | succ n => unfold rulesP; rw [if_neg (fun h => hb h.1)]
            rw [h0] at hK
            exact hK.2
          have HV2 : Hid (fileT s.data.toList = ([], 1, s2.2)) := by
            show _ = _
            rw [HV.out, fileP_of, show l.length + 1 = mS (l, -1) from rfl, if_neg (by rw [← HKn]; exact hb), ← HKn]
          have HB7 := Lib.hid (HB.out.grown HF7.out.grown HB.out.size (fun k hk => by injection hk with hk; omega))
          obtain ⟨b2, o2, cp, cur2, hq⟩ := HF7.out.par.has
          have h1 : wr.cell? ⟨g, 1, none⟩ = some (.int .i64 s2.2) := (blk_cell hq.own 1).trans rfl
          have r0 : wr.cell? ⟨w.heap.size, 0, none⟩ = some (.int .i64 0) := (blk_cell HR7.out 0).trans rfl
          have r1 : wr.cell? ⟨w.heap.size, 1, none⟩ = some (.int .i64 0) := (blk_cell HR7.out 1).trans rfl
          have f0 := blk_frozen HR7.out 0
          have f1 := blk_frozen HR7.out 1
          clear hbd hb hq HKn HK HV hO2
          go_wp2_with (go_at_call 51; refine hO.mono ?_; rintro e w' ⟨rfl, rfl⟩)
          go_region
          all_goals
            have hs := two_set (.int .i64 1) (.int .i64 s2.2) HR7.out
            have hB := (HB7.out.setCell (p := ⟨w.heap.size, 0, none⟩) (Nat.le_refl _) (.int .i64 1)).setCell (p := ⟨w.heap.size, 1, none⟩) (Nat.le_refl _) (.int .i64 s2.2)
            go_wp2
            have hs2 := blk_drew hs
            have hB2 := below_drew hB
            generalize ((wr.setCell ⟨w.heap.size, 0, none⟩ (.int .i64 1)).setCell ⟨w.heap.size, 1, none⟩ (.int .i64 s2.2)).drew = wE at hs2 hB2 ⊢
            have g0 := (blk_cell hs2 0).trans rfl
            have g1 := (blk_cell hs2 1).trans rfl
            exact bodyPost_ret (v := .tuple #[.slice none 0 0, .agg #[.int .i64 1, .int .i64 s2.2]]) (by simp [results, Tryz.results28, go_sem, g0, g1]) rfl (by
              rw [HV2.out]
              exact ⟨_, rfl, Kd.R_nil _ _ _ _ _, hB2⟩)

end Go.Proofs.YthagibkmfgodgaaGreatDoor.X
