/-
  The parser, walked by hand: rule. (Printed by gen_rule.py.)
  The reference's reader, walked by hand: rule. (Printed by gen_rrule.py, out of the parser's walk.)
-/
import Derived.Deep.DeepCutAuto
import Derived.Deep.CutBlock
import Derived.Test.YthagibkmfgodgaaGreatDoorY7
import Derived.Test.YthagibkmfgodgaaGreatDoorY8
namespace Go.Proofs.YthagibkmfgodgaaGreatDoor.X
open Go.RowKit Go.Maps Go.Proofs.YthagibkmfgodgaaGreatDoorW.PrintWords Go.Proofs.YthagibkmfgodgaaGreatDoorW.PrintMore Go.Proofs.YthagibkmfgodgaaGreatDoorW.PrintLast

abbrev wRule : ByteArray := ⟨#[114, 117, 108, 101]⟩
abbrev wIn : ByteArray := ⟨#[105, 110]⟩
abbrev wOut : ByteArray := ⟨#[111, 117, 116]⟩
abbrev wAfter : ByteArray := ⟨#[97, 102, 116, 101, 114]⟩
abbrev wOpen : ByteArray := ⟨#[123]⟩
def ruleS (a : ByteArray) (i o f : List ByteArray) (s : PS) : SRule × PS := (⟨a, i, o, f, (stepsP (s.1.length + 1) s).1⟩, mustP 3 brace (stepsP (s.1.length + 1) s).2)
def ruleF (a : ByteArray) (i o : List ByteArray) (s : PS) : SRule × PS := ruleS a i o (ifP wAfter s).1 (ifP wAfter s).2
def ruleO (a : ByteArray) (i : List ByteArray) (s : PS) : SRule × PS := ruleF a i (listP (mustP 1 wOut s)).1 (listP (mustP 1 wOut s)).2
def ruleI (a : ByteArray) (s : PS) : SRule × PS := ruleO a (ifP wIn s).1 (ifP wIn s).2
abbrev RUz : Array Value := #[.string ⟨#[]⟩, .slice none 0 0, .slice none 0 0, .slice none 0 0, .slice none 0 0]
theorem inv_mS (n : Nat) : InvP (fun s => mS s ≤ n) := by
 refine ⟨fun s h => ?_, fun s h hs _ => ?_⟩
 · unfold failsP
   split
   · next hs =>
     have h1 : mS s = s.1.length + 1 := by unfold mS; rw [if_pos hs]
     have h2 := mS_le (s.1, (headW s.1).f1)
     have h3 : (s.1, (headW s.1).f1).1.length = s.1.length := rfl
     omega
   · exact h
 · have h1 : mS s = s.1.length + 1 := by unfold mS; rw [if_pos hs]
   have h2 := mS_le (s.1.tail, s.2)
   have h3 : (s.1.tail, s.2).1.length ≤ s.1.length := tail_len _
   omega
theorem mS_step {s : PS} (hg : GoodW s.1) (hs : s.2 < 0) : mS (stepP s).2 < mS s := by
 have h1 := mS_name hg hs
 have h2 : mS (stepP s).2 ≤ mS (nameP s).2 := (inv_mS _).tail _ _ ((inv_mS _).next ((inv_mS _).must (Nat.le_refl _) (by decide) _) (by decide) _)
 omega
theorem steps_fuel : ∀ (n m : Nat) (s : PS), GoodW s.1 → mS s ≤ n → mS s ≤ m → stepsP n s = stepsP m s
 | 0, 0, _, _, _, _ => rfl
 | 0, m + 1, s, hg, h, _ => by
  unfold stepsP
  rw [if_neg (fun hc => by have := List.length_pos_iff.2 hg.ne; unfold mS at h; omega)]
 | n + 1, 0, s, hg, _, h => by
  unfold stepsP
  rw [if_neg (fun hc => by have := List.length_pos_iff.2 hg.ne; unfold mS at h; omega)]
 | n + 1, m + 1, s, hg, h1, h2 => by
  unfold stepsP
  by_cases hc : s.2 < 0 ∧ atP 3 brace s = false
  · rw [if_pos hc, if_pos hc]
    have := mS_step hg hc.1
    rw [steps_fuel n m _ (inv_good.step hg) (by omega) (by omega)]
  · rw [if_neg hc, if_neg hc]
theorem rs_other {α β : Type} {d : Kd α} {d' : Kd β} {e e' base base' : Nat} {v v' : Value} {xs : List α} {ys : List β} {W W1 : World} (h : d.R e W base (fun _ => True) v xs) (h' : d'.R e' W base' (fun _ => True) v' ys) (hE : ∀ q, q ∈ e :: d.E → q ≠ e') (hg : W.grownBy W1 v'.ownBlock) : d.R e W1 base (fun _ => True) v xs := by
 refine Kd.R_mono (Kd.R_grown (Kd.R_bound h) hg (fun k hk he => ?_)) (fun _ _ => trivial)
 obtain ⟨_, _, _, q, hq, cells, hc⟩ := hk
 obtain ⟨inner, ho⟩ := Kd.R_own h'
 obtain ⟨cells', hc'⟩ := own_typed ho k he.symm
 rw [hc] at hc'
 injection hc' with h1
 injection h1 with _ h1
 exact hE q hq h1

set_option maxHeartbeats 8000000 in
set_option maxRecDepth 100000 in
theorem rule_calls (g : Nat) (s : PS) (w : World) (h : PAR w g s) :
 Calls Tryz.prog 52 #[.pointer (some ⟨g, 0, none⟩)] w fun e w' => ∃ v1 v2 v3 v4, e = .returned (.agg #[.string (ruleP s).1.f0, v1, v2, v3, v4]) ∧
  RS w' w.heap.size v1 (ruleP s).1.f1 ∧ RS w' w.heap.size v2 (ruleP s).1.f2 ∧ RS w' w.heap.size v3 (ruleP s).1.f3 ∧ Kd.R k62 62 w' w.heap.size (fun _ => True) v4 (ruleP s).1.f4 ∧ PAR w' g (ruleP s).2 ∧ w.grownBy w' (some g) := by
 have hF0 := (Fly.start h).alloc (.cells RUz 49)
 have hlt := h.has.lt
 have HL := Lib.hid hlt
 have HT : Hid (ruleP s = ruleI (nameP (mustP 1 wRule s)).1 (mustP 3 wOpen (nameP (mustP 1 wRule s)).2)) := rfl
 have HF0 := Lib.hid hF0
 have HR0 : Hid ((w.alloc (.cells RUz 49)).heap[w.heap.size]? = some (.cells RUz 49 (0, 0))) := blk_new w _
 clear hF0 hlt h
 go_enter Tryz.func52, Tryz.ntmps52
 go_wp2_with fail
 refine (must_par g 1 (by decide) wRule s _ HF0.out.par).mono ?_
 rintro e w1 ⟨rfl, hp1, hg1⟩
 generalize mustP 1 wRule s = s1 at HT hp1
 have HR1 := Lib.hid (HF0.out.keeps (Nat.le_refl _) HR0.out hg1)
 have HF1 := Lib.hid (HF0.out.call hp1 hg1)
 clear hp1 hg1 HF0 HR0
 go_wp2_with fail
 refine (name_calls g s1 w1 HF1.out.par).mono ?_
 rintro e w2 ⟨rfl, hp2, hg2⟩
 generalize (nameP s1).1 = a at HT ⊢
 generalize (nameP s1).2 = s2 at HT hp2
 have HR2 := Lib.hid (HF1.out.keeps (Nat.le_refl _) HR1.out hg2)
 have HF2 := Lib.hid (HF1.out.call hp2 hg2)
 have hS : w.heap.size < w2.heap.size := blk_lt HR2.out
 clear hp2 hg2 HF1 HR1
 have HF3 := Lib.hid (HF2.out.alloc (.cells #[.string a, .slice none 0 0, .slice none 0 0, .slice none 0 0, .slice none 0 0] 49))
 have HR3 := Lib.hid (blk_alloc HR2.out (.cells #[.string a, .slice none 0 0, .slice none 0 0, .slice none 0 0, .slice none 0 0] 49))
 have HS3 := Lib.hid (blk_new w2 (.cells #[.string a, .slice none 0 0, .slice none 0 0, .slice none 0 0, .slice none 0 0] 49))
 go_wp2_with fail
 generalize w2.alloc (.cells #[.string a, .slice none 0 0, .slice none 0 0, .slice none 0 0, .slice none 0 0] 49) = w3 at HF3 HR3 HS3 ⊢
 generalize w2.heap.size = S at HS3 hS ⊢
 clear HF2 HR2
 refine (must_par g 3 (by decide) wOpen s2 w3 HF3.out.par).mono ?_
 rintro e w6 ⟨rfl, hp6, hg6⟩
 generalize mustP 3 wOpen s2 = s4 at HT hp6
 have HF6 := Lib.hid (HF3.out.call hp6 hg6)
 have HR6 := Lib.hid (HF3.out.keeps (Nat.le_refl _) HR3.out hg6)
 have HS6 := Lib.hid (HF3.out.keeps (Nat.le_of_lt hS) HS3.out hg6)
 clear hp6 hg6 HF3 HR3 HS3
 go_wp2_with fail
 unfold ruleI at HT
 have hTk := take_par g 1 (by decide) wIn s4 w6 HF6.out.par
 by_cases hi : isP 1 wIn s4 = true
 · have htk : takeP 1 wIn s4 = (true, ((s4).1.tail, (s4).2)) := by unfold takeP; rw [if_pos hi]
   rw [hi, htk] at hTk
   have hIf : ifP wIn s4 = listP ((s4).1.tail, (s4).2) := by unfold ifP; rw [if_pos hi]
   rw [hIf] at HT
   try dsimp only at HT
   clear hIf htk hi
   refine hTk.mono ?_
   rintro e w7 ⟨rfl, hp7, hg7⟩
   clear hTk
   have HF7 := Lib.hid (HF6.out.call hp7 hg7)
   have HR7 := Lib.hid (HF6.out.keeps (Nat.le_refl _) HR6.out hg7)
   have HS7 := Lib.hid (HF6.out.keeps (Nat.le_of_lt hS) HS6.out hg7)
   clear hp7 hg7 HF6 HR6 HS6
   go_wp2_with fail
   refine (list_calls g ((s4).1.tail, (s4).2) w7 HF7.out.par).mono ?_
   rintro e w8 ⟨v8, rfl, hr8, hp8, hg8⟩
   generalize (listP ((s4).1.tail, (s4).2)).1 = n1 at HT hr8
   generalize (listP ((s4).1.tail, (s4).2)).2 = q1 at HT hp8
   have hr := Kd.R_lower hr8 HF7.out.grown.size
   obtain ⟨A1, c1, rfl, _, _⟩ := Kd.R_reads hr
   have HN1 := Lib.hid hr
   clear hr hr8
   have HF8 := Lib.hid (HF7.out.call hp8 hg8)
   have HR8 := Lib.hid (HF7.out.keeps (Nat.le_refl _) HR7.out hg8)
   have HS8 := Lib.hid (HF7.out.keeps (Nat.le_of_lt hS) HS7.out hg8)
   clear hp8 hg8 HF7 HR7 HS7
   have hSx := HS8.out
   have cx : w8.cell? ⟨S, 1, none⟩ = some (.slice none 0 0) := (blk_cell hSx 1).trans rfl
   have fx := blk_frozen hSx 1
   clear hSx
   go_wp2_with fail
   clear cx fx
   have HF9 := Lib.hid (HF8.out.set (Nat.le_of_lt hS) HS8.out (by decide) (by decide) 1 (.slice A1 n1.length c1))
   have HR9 := Lib.hid (blk_far HR8.out (p := ⟨S, 1, none⟩) (Nat.ne_of_lt hS) (.slice A1 n1.length c1))
   have HS9 : Hid ((w8.setCell ⟨S, 1, none⟩ (.slice A1 n1.length c1)).heap[S]? = some (.cells #[.string a, .slice A1 n1.length c1, .slice none 0 0, .slice none 0 0, .slice none 0 0] 49 (0, 0))) := blk_put HS8.out 1 _ rfl
   have HN1_9 := Lib.hid (Kd.R_set HN1.out HS8.out (by decide) 1 (.slice A1 n1.length c1))
   clear HF8 HR8 HS8 HN1
   generalize w8.setCell ⟨S, 1, none⟩ (.slice A1 n1.length c1) = w9 at HF9 HR9 HS9 HN1_9 ⊢
   have HTo : Hid (ruleP s = ruleO a n1 q1) := HT.out
   clear HT
   unfold ruleO at HTo
   try dsimp only at HTo
   have HT := HTo
   clear HTo
   refine (must_par g 1 (by decide) wOut q1 w9 HF9.out.par).mono ?_
   rintro e w10 ⟨rfl, hp10, hg10⟩
   have HF10 := Lib.hid (HF9.out.call hp10 hg10)
   have HR10 := Lib.hid (HF9.out.keeps (Nat.le_refl _) HR9.out hg10)
   have HS10 := Lib.hid (HF9.out.keeps (Nat.le_of_lt hS) HS9.out hg10)
   have HN1_10 := Lib.hid (row_keep HN1_9.out hg10 HL.out)
   clear hp10 hg10 HF9 HR9 HS9 HN1_9
   generalize mustP 1 wOut q1 = q0 at HT HF10
   go_wp2_with fail
   refine (list_calls g q0 w10 HF10.out.par).mono ?_
   rintro e w11 ⟨v11, rfl, hr11, hp11, hg11⟩
   generalize (listP q0).1 = n2 at HT hr11
   generalize (listP q0).2 = q2 at HT hp11
   have hr := Kd.R_lower hr11 HF10.out.grown.size
   obtain ⟨A2, c2, rfl, _, _⟩ := Kd.R_reads hr
   have HN2 := Lib.hid hr
   clear hr hr11
   have HF11 := Lib.hid (HF10.out.call hp11 hg11)
   have HR11 := Lib.hid (HF10.out.keeps (Nat.le_refl _) HR10.out hg11)
   have HS11 := Lib.hid (HF10.out.keeps (Nat.le_of_lt hS) HS10.out hg11)
   have HN1_11 := Lib.hid (row_keep HN1_10.out hg11 HL.out)
   clear hp11 hg11 HF10 HR10 HS10 HN1_10
   have hSx := HS11.out
   have cx : w11.cell? ⟨S, 2, none⟩ = some (.slice none 0 0) := (blk_cell hSx 2).trans rfl
   have fx := blk_frozen hSx 2
   clear hSx
   go_wp2_with fail
   clear cx fx
   have HF12 := Lib.hid (HF11.out.set (Nat.le_of_lt hS) HS11.out (by decide) (by decide) 2 (.slice A2 n2.length c2))
   have HR12 := Lib.hid (blk_far HR11.out (p := ⟨S, 2, none⟩) (Nat.ne_of_lt hS) (.slice A2 n2.length c2))
   have HS12 : Hid ((w11.setCell ⟨S, 2, none⟩ (.slice A2 n2.length c2)).heap[S]? = some (.cells #[.string a, .slice A1 n1.length c1, .slice A2 n2.length c2, .slice none 0 0, .slice none 0 0] 49 (0, 0))) := blk_put HS11.out 2 _ rfl
   have HN1_12 := Lib.hid (Kd.R_set HN1_11.out HS11.out (by decide) 2 (.slice A2 n2.length c2))
   have HN2_12 := Lib.hid (Kd.R_set HN2.out HS11.out (by decide) 2 (.slice A2 n2.length c2))
   clear HF11 HR11 HS11 HN1_11 HN2
   generalize w11.setCell ⟨S, 2, none⟩ (.slice A2 n2.length c2) = w12 at HF12 HR12 HS12 HN1_12 HN2_12 ⊢
   unfold ruleF at HT
   try dsimp only at HT
   have hTk := take_par g 1 (by decide) wAfter q2 w12 HF12.out.par
   by_cases hi : isP 1 wAfter q2 = true
   · have htk : takeP 1 wAfter q2 = (true, ((q2).1.tail, (q2).2)) := by unfold takeP; rw [if_pos hi]
     rw [hi, htk] at hTk
     have hIf : ifP wAfter q2 = listP ((q2).1.tail, (q2).2) := by unfold ifP; rw [if_pos hi]
     rw [hIf] at HT
     try dsimp only at HT
     clear hIf htk hi
     refine hTk.mono ?_
     rintro e w13 ⟨rfl, hp13, hg13⟩
     clear hTk
     have HF13 := Lib.hid (HF12.out.call hp13 hg13)
     have HR13 := Lib.hid (HF12.out.keeps (Nat.le_refl _) HR12.out hg13)
     have HS13 := Lib.hid (HF12.out.keeps (Nat.le_of_lt hS) HS12.out hg13)
     have HN1_13 := Lib.hid (row_keep HN1_12.out hg13 HL.out)
     have HN2_13 := Lib.hid (row_keep HN2_12.out hg13 HL.out)
     clear hp13 hg13 HF12 HR12 HS12 HN1_12 HN2_12
     go_wp2_with fail
     refine (list_calls g ((q2).1.tail, (q2).2) w13 HF13.out.par).mono ?_
     rintro e w14 ⟨v14, rfl, hr14, hp14, hg14⟩
     generalize (listP ((q2).1.tail, (q2).2)).1 = n3 at HT hr14
     generalize (listP ((q2).1.tail, (q2).2)).2 = q3 at HT hp14
     have hr := Kd.R_lower hr14 HF13.out.grown.size
     obtain ⟨A3, c3, rfl, _, _⟩ := Kd.R_reads hr
     have HN3 := Lib.hid hr
     clear hr hr14
     have HF14 := Lib.hid (HF13.out.call hp14 hg14)
     have HR14 := Lib.hid (HF13.out.keeps (Nat.le_refl _) HR13.out hg14)
     have HS14 := Lib.hid (HF13.out.keeps (Nat.le_of_lt hS) HS13.out hg14)
     have HN1_14 := Lib.hid (row_keep HN1_13.out hg14 HL.out)
     have HN2_14 := Lib.hid (row_keep HN2_13.out hg14 HL.out)
     clear hp14 hg14 HF13 HR13 HS13 HN1_13 HN2_13
     have hSx := HS14.out
     have cx : w14.cell? ⟨S, 3, none⟩ = some (.slice none 0 0) := (blk_cell hSx 3).trans rfl
     have fx := blk_frozen hSx 3
     clear hSx
     go_wp2_with fail
     clear cx fx
     have HF15 := Lib.hid (HF14.out.set (Nat.le_of_lt hS) HS14.out (by decide) (by decide) 3 (.slice A3 n3.length c3))
     have HR15 := Lib.hid (blk_far HR14.out (p := ⟨S, 3, none⟩) (Nat.ne_of_lt hS) (.slice A3 n3.length c3))
     have HS15 : Hid ((w14.setCell ⟨S, 3, none⟩ (.slice A3 n3.length c3)).heap[S]? = some (.cells #[.string a, .slice A1 n1.length c1, .slice A2 n2.length c2, .slice A3 n3.length c3, .slice none 0 0] 49 (0, 0))) := blk_put HS14.out 3 _ rfl
     have HN1_15 := Lib.hid (Kd.R_set HN1_14.out HS14.out (by decide) 3 (.slice A3 n3.length c3))
     have HN2_15 := Lib.hid (Kd.R_set HN2_14.out HS14.out (by decide) 3 (.slice A3 n3.length c3))
     have HN3_15 := Lib.hid (Kd.R_set HN3.out HS14.out (by decide) 3 (.slice A3 n3.length c3))
     clear HF14 HR14 HS14 HN1_14 HN2_14 HN3
     generalize w14.setCell ⟨S, 3, none⟩ (.slice A3 n3.length c3) = w15 at HF15 HR15 HS15 HN1_15 HN2_15 HN3_15 ⊢
     unfold ruleS at HT
     try dsimp only at HT
     have HTA : Hid ((stepsP ((q3).1.length + 1) (q3)).1 = (stepsP (mS (q3)) (q3)).1 ∧ (stepsP ((q3).1.length + 1) (q3)).2 = (stepsP (mS (q3)) (q3)).2) := by
      rw [steps_fuel ((q3).1.length + 1) (mS (q3)) (q3) HF15.out.par.good (mS_le _) (Nat.le_refl _)]
      exact ⟨rfl, rfl⟩
     generalize (stepsP ((q3).1.length + 1) (q3)).1 = T1 at HT HTA
     generalize (stepsP ((q3).1.length + 1) (q3)).2 = T2 at HT HTA
     have hm4 : mS (q3) ≤ 100001 := Nat.le_trans (mS_le _) (Nat.add_le_add_right HF15.out.par.len 1)
     generalize q3 = sL at HTA hm4 HF15
     go_loopg [] (mS sL) (fun gg wr => ∃ (acc : List SStep) (s2 : PS) (A : Option Addr) (c : Nat), mS s2 ≤ gg ∧ acc.length + mS s2 ≤ mS sL ∧ Aside0 (acc ++ (stepsP (mS s2) s2).1 = T1 ∧ (stepsP (mS s2) s2).2 = T2) ∧
      Aside0 (Kd.R k62 62 wr w.heap.size (fun _ => True) (.slice A acc.length c) acc) ∧ Aside0 (Fly w g wr s2) ∧ Aside0 (wr.heap[w.heap.size]? = some (.cells RUz 49 (0, 0))) ∧ Aside0 (wr.heap[S]? = some (.cells #[.string a, .slice A1 n1.length c1, .slice A2 n2.length c2, .slice A3 n3.length c3, .slice A acc.length c] 49 (0, 0))) ∧ Aside0 (RS wr w.heap.size (.slice A1 n1.length c1) n1) ∧ Aside0 (RS wr w.heap.size (.slice A2 n2.length c2) n2) ∧ Aside0 (RS wr w.heap.size (.slice A3 n3.length c3) n3))
     case atStart => exact ⟨[], sL, none, 0, Nat.le_refl _, by simp, ⟨by rw [List.nil_append]; exact ⟨HTA.out.1.symm, HTA.out.2.symm⟩⟩, ⟨Kd.R_nil _ _ _ _ _⟩, ⟨HF15.out⟩, ⟨HR15.out⟩, ⟨HS15.out⟩, ⟨HN1_15.out⟩, ⟨HN2_15.out⟩, ⟨HN3_15.out⟩⟩
     case round =>
      obtain ⟨acc, s2, A, c, hgk, hal, HK, HA7, HF7, HR7, HS7, HN1_7, HN2_7, HN3_7⟩ := hrel
      have hO := ok_calls g s2 wr HF7.out.par.has
      have hIs := is_calls g 3 brace s2 wr HF7.out.par.has HF7.out.par.good.ne
      by_cases hb : s2.2 < 0
      · have hbd : decide (s2.2 < 0) = true := by simpa using hb
        rw [hbd] at hO
        by_cases hk : atP 3 brace s2 = false
        · have hib : isP 3 brace s2 = false := by unfold isP; rw [hk]; simp
          rw [hib] at hIs
          have hN := fun W hW => step_calls g s2 W hW
          have hmn := mS_step HF7.out.par.good hb
          have HKn : Hid (((acc ++ [(stepP s2).1]) ++ (stepsP (mS (stepP s2).2) (stepP s2).2).1 = T1 ∧ (stepsP (mS (stepP s2).2) (stepP s2).2).2 = T2)) := by
           have hK := HK.out
           obtain ⟨n, hn⟩ : ∃ n, mS s2 = n + 1 := ⟨mS s2 - 1, by omega⟩
           rw [hn, stepsP, if_pos ⟨hb, hk⟩, steps_fuel n (mS (stepP s2).2) (stepP s2).2 (inv_good.step HF7.out.par.good) (by omega) (Nat.le_refl _)] at hK
           exact ⟨by rw [← hK.1]; simp, hK.2⟩
          generalize (stepP s2).1 = x at HKn hN
          generalize (stepP s2).2 = s3 at HKn hN hmn
          have hld : wr.cell? ⟨S, 4, none⟩ = some (.slice A acc.length c) := (blk_cell HS7.out 4).trans rfl
          have hal2 : acc.length ≤ 200000 := by omega
          clear hbd hb hk hib
          go_wp2_with (first | (go_at_call 51; refine hO.mono ?_; rintro e w' ⟨rfl, rfl⟩) | (go_at_call 85; refine hIs.mono ?_; rintro e w' ⟨rfl, rfl⟩))
          have HFd := Lib.hid (HF7.out.below (W1 := wr.drew) ⟨rfl, rfl, rfl, Nat.le_refl _, fun _ _ => rfl⟩)
          have HAd : Hid (Kd.R k62 62 wr.drew w.heap.size (fun _ => True) (.slice A acc.length c) acc) := Kd.R_below HA7.out ⟨rfl, rfl, rfl, Nat.le_refl _, fun _ _ => rfl⟩
          have HN1_d : Hid (RS wr.drew w.heap.size (.slice A1 n1.length c1) n1) := Kd.R_below HN1_7.out ⟨rfl, rfl, rfl, Nat.le_refl _, fun _ _ => rfl⟩
          have HN2_d : Hid (RS wr.drew w.heap.size (.slice A2 n2.length c2) n2) := Kd.R_below HN2_7.out ⟨rfl, rfl, rfl, Nat.le_refl _, fun _ _ => rfl⟩
          have HN3_d : Hid (RS wr.drew w.heap.size (.slice A3 n3.length c3) n3) := Kd.R_below HN3_7.out ⟨rfl, rfl, rfl, Nat.le_refl _, fun _ _ => rfl⟩
          have HRd := Lib.hid (blk_drew HR7.out)
          have HSd := Lib.hid (blk_drew HS7.out)
          clear hO hIs
          go_region_law (first
           | (refine Kd.R_append_step k62 (w0 := w8) w.heap.size (by rfl) (.tmp 34) (.tmp 37) 47 62 (.agg #[.string ⟨#[]⟩, .int .i64 0, .slice none 0 0, .slice none 0 0, .int .i64 0]) 80 rfl Tryz.underlying47 info62 rfl (by decide) (by decide) (.slice A acc.length c) acc x [.string x.f0, .int .i64 x.f1, .slice AX x.f2.length cX, .slice AY x.f3.length cY, .int .i64 x.f4] (fun _ => True) (fun k_ => True ∧ some k_ ≠ (Value.slice A acc.length c).ownBlock) (by rfl) (by rfl) (k62_mkM _ _ _ x HX8.out HY8.out) (fun _ hk => hk) (fun _ _ => trivial) HA8.out (Below.refl _ _) HF8.out.grown.size ?aL ?_; (case aL => omega); intro v1 w9 ho hb hg hat; obtain ⟨AN, cN, rfl, _, _⟩ := Kd.R_reads ho; have HA9 := Lib.hid ho; have HF9 := Lib.hid (HF8.out.row (Kd.R_own HA8.out).choose_spec (by decide) (by decide) (Nat.le_refl _) hb hg); have HR9 := Lib.hid (blk_grown HR8.out hg (Kd.R_ne HA8.out HR8.out (by decide))); have HS9 := Lib.hid (blk_grown HS8.out hg (Kd.R_ne HA8.out HS8.out (by decide))); have HN1_9 := Lib.hid (rs_other HN1_8.out HA8.out (by decide) hg); have HN2_9 := Lib.hid (rs_other HN2_8.out HA8.out (by decide) hg); have HN3_9 := Lib.hid (rs_other HN3_8.out HA8.out (by decide) hg); have hst : w9.cell? ⟨S, 4, none⟩ = some (.slice A acc.length c) := (blk_cell HS9.out 4).trans rfl; have hfr : w9.frozen? ⟨S, 4, none⟩ = false := blk_frozen HS9.out 4; clear ho hb hg hat)
           | (go_simp; go_at_call 86; refine (hN _ HFd.out.par).mono ?_; rintro e w8 ⟨vx, vy, rfl, hx, hy, hp8, hg8⟩; obtain ⟨AX, cX, rfl, _, _⟩ := Kd.R_reads hx; obtain ⟨AY, cY, rfl, _, _⟩ := Kd.R_reads hy; have HX8 := Lib.hid (Kd.R_lower (Kd.R_new hx (Kd.R_own HAd.out).choose_spec) HFd.out.grown.size); have HY8 := Lib.hid (Kd.R_lower (Kd.R_new hy (Kd.R_own HAd.out).choose_spec) HFd.out.grown.size); have HF8 := Lib.hid (HFd.out.call hp8 hg8); have HR8 := Lib.hid (HFd.out.keeps (Nat.le_refl _) HRd.out hg8); have HS8 := Lib.hid (HFd.out.keeps (Nat.le_of_lt hS) HSd.out hg8); have HA8 := Lib.hid (row_keep HAd.out hg8 HL.out); have HN1_8 := Lib.hid (row_keep HN1_d.out hg8 HL.out); have HN2_8 := Lib.hid (row_keep HN2_d.out hg8 HL.out); have HN3_8 := Lib.hid (row_keep HN3_d.out hg8 HL.out); have hl8 : w8.cell? ⟨S, 4, none⟩ = some (.slice A acc.length c) := (blk_cell HS8.out 4).trans rfl; have hl8a : ∀ ob : Obj, (w8.alloc ob).cell? ⟨S, 4, none⟩ = some (.slice A acc.length c) := fun ob => (blk_cell (blk_alloc HS8.out ob) 4).trans rfl; clear hx hy hp8 hg8))
          all_goals
           go_wp2
           go_roundg (mS s3)
           case measure => omega
           case rel =>
            have hlen : acc.length + 1 = (acc ++ [x]).length := by simp
            simp only [hlen]
            refine ⟨acc ++ [x], s3, AN, cN, Nat.le_refl _, ?_, ⟨HKn.out⟩, ⟨Kd.R_set HA9.out HS9.out (by decide) 4 _⟩, ⟨HF9.out.set (Nat.le_of_lt hS) HS9.out (by decide) (by decide) 4 _⟩, ⟨blk_far HR9.out (p := ⟨S, 4, none⟩) (Nat.ne_of_lt hS) _⟩, ⟨?_⟩, ⟨Kd.R_set HN1_9.out HS9.out (by decide) 4 _⟩, ⟨Kd.R_set HN2_9.out HS9.out (by decide) 4 _⟩, ⟨Kd.R_set HN3_9.out HS9.out (by decide) 4 _⟩⟩
            · rw [List.length_append, List.length_singleton]; omega
            · exact blk_put HS9.out 4 _ rfl
        · have hib : isP 3 brace s2 = true := by
           unfold isP
           rw [hbd]
           simp at hk
           rw [hk]
           rfl
          rw [hib] at hIs
          have HKn : acc = T1 ∧ s2 = T2 := by
           have hK := HK.out
           have h0 : stepsP (mS s2) s2 = ([], s2) := by
            generalize mS s2 = n
            cases n with
            | zero => rfl
            | succ n => unfold stepsP; rw [if_neg (fun h => hk h.2)]
           rw [h0, List.append_nil] at hK
           exact hK
          obtain ⟨rfl, rfl⟩ := HKn
          clear hbd hb hk hib HK
          go_wp2_with (first | (go_at_call 51; refine hO.mono ?_; rintro e w' ⟨rfl, rfl⟩) | (go_at_call 85; refine hIs.mono ?_; rintro e w' ⟨rfl, rfl⟩))
          clear hO hIs
          have HN4_7 := HA7
          refine (must_par g 3 (by decide) brace s2 wr HF7.out.par).mono ?_
          rintro e w8 ⟨rfl, hp8, hg8⟩
          have HF8 := Lib.hid (HF7.out.call hp8 hg8)
          have HR8 := Lib.hid (HF7.out.keeps (Nat.le_refl _) HR7.out hg8)
          have HS8 := Lib.hid (HF7.out.keeps (Nat.le_of_lt hS) HS7.out hg8)
          have HN1_8 := Lib.hid (row_keep HN1_7.out hg8 HL.out)
          have HN2_8 := Lib.hid (row_keep HN2_7.out hg8 HL.out)
          have HN3_8 := Lib.hid (row_keep HN3_7.out hg8 HL.out)
          have HN4_8 := Lib.hid (row_keep HN4_7.out hg8 HL.out)
          clear hp8 hg8 HF7 HR7 HS7 HN1_7 HN2_7 HN3_7 HN4_7
          have hSe := HS8.out
          have k0 : w8.cell? ⟨S, 0, none⟩ = some (.string a) := (blk_cell hSe 0).trans rfl
          have k1 : w8.cell? ⟨S, 1, none⟩ = some (.slice A1 n1.length c1) := (blk_cell hSe 1).trans rfl
          have k2 : w8.cell? ⟨S, 2, none⟩ = some (.slice A2 n2.length c2) := (blk_cell hSe 2).trans rfl
          have k3 : w8.cell? ⟨S, 3, none⟩ = some (.slice A3 n3.length c3) := (blk_cell hSe 3).trans rfl
          have k4 : w8.cell? ⟨S, 4, none⟩ = some (.slice A acc.length c) := (blk_cell hSe 4).trans rfl
          have hRe := HR8.out
          have r0 : w8.cell? ⟨w.heap.size, 0, none⟩ = some (.string ⟨#[]⟩) := (blk_cell hRe 0).trans rfl
          have z0 := blk_frozen hRe 0
          have r1 : w8.cell? ⟨w.heap.size, 1, none⟩ = some (.slice none 0 0) := (blk_cell hRe 1).trans rfl
          have z1 := blk_frozen hRe 1
          have r2 : w8.cell? ⟨w.heap.size, 2, none⟩ = some (.slice none 0 0) := (blk_cell hRe 2).trans rfl
          have z2 := blk_frozen hRe 2
          have r3 : w8.cell? ⟨w.heap.size, 3, none⟩ = some (.slice none 0 0) := (blk_cell hRe 3).trans rfl
          have z3 := blk_frozen hRe 3
          have r4 : w8.cell? ⟨w.heap.size, 4, none⟩ = some (.slice none 0 0) := (blk_cell hRe 4).trans rfl
          have z4 := blk_frozen hRe 4
          clear hSe hRe
          go_wp2
          have hs := set5_blk (.string a) (.slice A1 n1.length c1) (.slice A2 n2.length c2) (.slice A3 n3.length c3) (.slice A acc.length c) HR8.out
          have hF := HF8.out.set5 (Nat.le_refl _) (.string a) (.slice A1 n1.length c1) (.slice A2 n2.length c2) (.slice A3 n3.length c3) (.slice A acc.length c) HR8.out (by decide) (by decide)
          have hA := RS.set5 HN1_8.out (.string a) (.slice A1 n1.length c1) (.slice A2 n2.length c2) (.slice A3 n3.length c3) (.slice A acc.length c) HR8.out (by decide)
          have hB := RS.set5 HN2_8.out (.string a) (.slice A1 n1.length c1) (.slice A2 n2.length c2) (.slice A3 n3.length c3) (.slice A acc.length c) HR8.out (by decide)
          have hC := RS.set5 HN3_8.out (.string a) (.slice A1 n1.length c1) (.slice A2 n2.length c2) (.slice A3 n3.length c3) (.slice A acc.length c) HR8.out (by decide)
          have hD := R_set5 HN4_8.out (.string a) (.slice A1 n1.length c1) (.slice A2 n2.length c2) (.slice A3 n3.length c3) (.slice A acc.length c) HR8.out (by decide)
          clear k0 k1 k2 k3 k4 r0 r1 r2 r3 r4 z0 z1 z2 z3 z4
          unfold set5 at hs hF hA hB hC hD
          generalize (((((w8.setCell ⟨w.heap.size, 0, none⟩ (.string a)).setCell ⟨w.heap.size, 1, none⟩ (.slice A1 n1.length c1)).setCell ⟨w.heap.size, 2, none⟩ (.slice A2 n2.length c2)).setCell ⟨w.heap.size, 3, none⟩ (.slice A3 n3.length c3)).setCell ⟨w.heap.size, 4, none⟩ (.slice A acc.length c)) = wE at hs hF hA hB hC hD ⊢
          have g0 := (blk_cell hs 0).trans rfl
          have g1 := (blk_cell hs 1).trans rfl
          have g2 := (blk_cell hs 2).trans rfl
          have g3 := (blk_cell hs 3).trans rfl
          have g4 := (blk_cell hs 4).trans rfl
          exact bodyPost_ret (v := .agg #[.string a, .slice A1 n1.length c1, .slice A2 n2.length c2, .slice A3 n3.length c3, .slice A acc.length c]) (by simp [results, Tryz.results52, go_sem, g0, g1, g2, g3, g4]) rfl (by
           rw [HT.out]
           exact ⟨_, _, _, _, rfl, hA, hB, hC, hD, hF.par, hF.grown⟩)
      · have hbd : decide (s2.2 < 0) = false := by simpa using hb
        rw [hbd] at hO
        have HKn : acc = T1 ∧ s2 = T2 := by
         have hK := HK.out
         have h0 : stepsP (mS s2) s2 = ([], s2) := by
          generalize mS s2 = n
          cases n with
          | zero => rfl
          | succ n => unfold stepsP; rw [if_neg (fun h => hb h.1)]
         rw [h0, List.append_nil] at hK
         exact hK
        obtain ⟨rfl, rfl⟩ := HKn
        clear hbd hb HK hIs
        go_wp2_with (go_at_call 51; refine hO.mono ?_; rintro e w' ⟨rfl, rfl⟩)
        clear hO
        have HN4_7 := HA7
        refine (must_par g 3 (by decide) brace s2 wr HF7.out.par).mono ?_
        rintro e w8 ⟨rfl, hp8, hg8⟩
        have HF8 := Lib.hid (HF7.out.call hp8 hg8)
        have HR8 := Lib.hid (HF7.out.keeps (Nat.le_refl _) HR7.out hg8)
        have HS8 := Lib.hid (HF7.out.keeps (Nat.le_of_lt hS) HS7.out hg8)
        have HN1_8 := Lib.hid (row_keep HN1_7.out hg8 HL.out)
        have HN2_8 := Lib.hid (row_keep HN2_7.out hg8 HL.out)
        have HN3_8 := Lib.hid (row_keep HN3_7.out hg8 HL.out)
        have HN4_8 := Lib.hid (row_keep HN4_7.out hg8 HL.out)
        clear hp8 hg8 HF7 HR7 HS7 HN1_7 HN2_7 HN3_7 HN4_7
        have hSe := HS8.out
        have k0 : w8.cell? ⟨S, 0, none⟩ = some (.string a) := (blk_cell hSe 0).trans rfl
        have k1 : w8.cell? ⟨S, 1, none⟩ = some (.slice A1 n1.length c1) := (blk_cell hSe 1).trans rfl
        have k2 : w8.cell? ⟨S, 2, none⟩ = some (.slice A2 n2.length c2) := (blk_cell hSe 2).trans rfl
        have k3 : w8.cell? ⟨S, 3, none⟩ = some (.slice A3 n3.length c3) := (blk_cell hSe 3).trans rfl
        have k4 : w8.cell? ⟨S, 4, none⟩ = some (.slice A acc.length c) := (blk_cell hSe 4).trans rfl
        have hRe := HR8.out
        have r0 : w8.cell? ⟨w.heap.size, 0, none⟩ = some (.string ⟨#[]⟩) := (blk_cell hRe 0).trans rfl
        have z0 := blk_frozen hRe 0
        have r1 : w8.cell? ⟨w.heap.size, 1, none⟩ = some (.slice none 0 0) := (blk_cell hRe 1).trans rfl
        have z1 := blk_frozen hRe 1
        have r2 : w8.cell? ⟨w.heap.size, 2, none⟩ = some (.slice none 0 0) := (blk_cell hRe 2).trans rfl
        have z2 := blk_frozen hRe 2
        have r3 : w8.cell? ⟨w.heap.size, 3, none⟩ = some (.slice none 0 0) := (blk_cell hRe 3).trans rfl
        have z3 := blk_frozen hRe 3
        have r4 : w8.cell? ⟨w.heap.size, 4, none⟩ = some (.slice none 0 0) := (blk_cell hRe 4).trans rfl
        have z4 := blk_frozen hRe 4
        clear hSe hRe
        go_wp2
        have hs := set5_blk (.string a) (.slice A1 n1.length c1) (.slice A2 n2.length c2) (.slice A3 n3.length c3) (.slice A acc.length c) HR8.out
        have hF := HF8.out.set5 (Nat.le_refl _) (.string a) (.slice A1 n1.length c1) (.slice A2 n2.length c2) (.slice A3 n3.length c3) (.slice A acc.length c) HR8.out (by decide) (by decide)
        have hA := RS.set5 HN1_8.out (.string a) (.slice A1 n1.length c1) (.slice A2 n2.length c2) (.slice A3 n3.length c3) (.slice A acc.length c) HR8.out (by decide)
        have hB := RS.set5 HN2_8.out (.string a) (.slice A1 n1.length c1) (.slice A2 n2.length c2) (.slice A3 n3.length c3) (.slice A acc.length c) HR8.out (by decide)
        have hC := RS.set5 HN3_8.out (.string a) (.slice A1 n1.length c1) (.slice A2 n2.length c2) (.slice A3 n3.length c3) (.slice A acc.length c) HR8.out (by decide)
        have hD := R_set5 HN4_8.out (.string a) (.slice A1 n1.length c1) (.slice A2 n2.length c2) (.slice A3 n3.length c3) (.slice A acc.length c) HR8.out (by decide)
        clear k0 k1 k2 k3 k4 r0 r1 r2 r3 r4 z0 z1 z2 z3 z4
        unfold set5 at hs hF hA hB hC hD
        generalize (((((w8.setCell ⟨w.heap.size, 0, none⟩ (.string a)).setCell ⟨w.heap.size, 1, none⟩ (.slice A1 n1.length c1)).setCell ⟨w.heap.size, 2, none⟩ (.slice A2 n2.length c2)).setCell ⟨w.heap.size, 3, none⟩ (.slice A3 n3.length c3)).setCell ⟨w.heap.size, 4, none⟩ (.slice A acc.length c)) = wE at hs hF hA hB hC hD ⊢
        have g0 := (blk_cell hs 0).trans rfl
        have g1 := (blk_cell hs 1).trans rfl
        have g2 := (blk_cell hs 2).trans rfl
        have g3 := (blk_cell hs 3).trans rfl
        have g4 := (blk_cell hs 4).trans rfl
        exact bodyPost_ret (v := .agg #[.string a, .slice A1 n1.length c1, .slice A2 n2.length c2, .slice A3 n3.length c3, .slice A acc.length c]) (by simp [results, Tryz.results52, go_sem, g0, g1, g2, g3, g4]) rfl (by
         rw [HT.out]
         exact ⟨_, _, _, _, rfl, hA, hB, hC, hD, hF.par, hF.grown⟩)
   · have hi' : isP 1 wAfter q2 = false := by simpa using hi
     have htk : takeP 1 wAfter q2 = (false, q2) := by unfold takeP; rw [if_neg hi]
     rw [hi', htk] at hTk
     have hIf : ifP wAfter q2 = ([], q2) := by unfold ifP; rw [if_neg hi]
     rw [hIf] at HT
     try dsimp only at HT
     clear hIf htk hi hi'
     refine hTk.mono ?_
     rintro e w13 ⟨rfl, hp13, hg13⟩
     clear hTk
     have HF13 := Lib.hid (HF12.out.call hp13 hg13)
     have HR13 := Lib.hid (HF12.out.keeps (Nat.le_refl _) HR12.out hg13)
     have HS13 := Lib.hid (HF12.out.keeps (Nat.le_of_lt hS) HS12.out hg13)
     have HN1_13 := Lib.hid (row_keep HN1_12.out hg13 HL.out)
     have HN2_13 := Lib.hid (row_keep HN2_12.out hg13 HL.out)
     clear hp13 hg13 HF12 HR12 HS12 HN1_12 HN2_12
     go_wp2_with fail
     unfold ruleS at HT
     try dsimp only at HT
     have HTA : Hid ((stepsP ((q2).1.length + 1) (q2)).1 = (stepsP (mS (q2)) (q2)).1 ∧ (stepsP ((q2).1.length + 1) (q2)).2 = (stepsP (mS (q2)) (q2)).2) := by
      rw [steps_fuel ((q2).1.length + 1) (mS (q2)) (q2) HF13.out.par.good (mS_le _) (Nat.le_refl _)]
      exact ⟨rfl, rfl⟩
     generalize (stepsP ((q2).1.length + 1) (q2)).1 = T1 at HT HTA
     generalize (stepsP ((q2).1.length + 1) (q2)).2 = T2 at HT HTA
     have hm4 : mS (q2) ≤ 100001 := Nat.le_trans (mS_le _) (Nat.add_le_add_right HF13.out.par.len 1)
     generalize q2 = sL at HTA hm4 HF13
     go_loopg [] (mS sL) (fun gg wr => ∃ (acc : List SStep) (s2 : PS) (A : Option Addr) (c : Nat), mS s2 ≤ gg ∧ acc.length + mS s2 ≤ mS sL ∧ Aside0 (acc ++ (stepsP (mS s2) s2).1 = T1 ∧ (stepsP (mS s2) s2).2 = T2) ∧
      Aside0 (Kd.R k62 62 wr w.heap.size (fun _ => True) (.slice A acc.length c) acc) ∧ Aside0 (Fly w g wr s2) ∧ Aside0 (wr.heap[w.heap.size]? = some (.cells RUz 49 (0, 0))) ∧ Aside0 (wr.heap[S]? = some (.cells #[.string a, .slice A1 n1.length c1, .slice A2 n2.length c2, .slice none 0 0, .slice A acc.length c] 49 (0, 0))) ∧ Aside0 (RS wr w.heap.size (.slice A1 n1.length c1) n1) ∧ Aside0 (RS wr w.heap.size (.slice A2 n2.length c2) n2))
     case atStart => exact ⟨[], sL, none, 0, Nat.le_refl _, by simp, ⟨by rw [List.nil_append]; exact ⟨HTA.out.1.symm, HTA.out.2.symm⟩⟩, ⟨Kd.R_nil _ _ _ _ _⟩, ⟨HF13.out⟩, ⟨HR13.out⟩, ⟨HS13.out⟩, ⟨HN1_13.out⟩, ⟨HN2_13.out⟩⟩
     case round =>
      obtain ⟨acc, s2, A, c, hgk, hal, HK, HA7, HF7, HR7, HS7, HN1_7, HN2_7⟩ := hrel
      have hO := ok_calls g s2 wr HF7.out.par.has
      have hIs := is_calls g 3 brace s2 wr HF7.out.par.has HF7.out.par.good.ne
      by_cases hb : s2.2 < 0
      · have hbd : decide (s2.2 < 0) = true := by simpa using hb
        rw [hbd] at hO
        by_cases hk : atP 3 brace s2 = false
        · have hib : isP 3 brace s2 = false := by unfold isP; rw [hk]; simp
          rw [hib] at hIs
          have hN := fun W hW => step_calls g s2 W hW
          have hmn := mS_step HF7.out.par.good hb
          have HKn : Hid (((acc ++ [(stepP s2).1]) ++ (stepsP (mS (stepP s2).2) (stepP s2).2).1 = T1 ∧ (stepsP (mS (stepP s2).2) (stepP s2).2).2 = T2)) := by
           have hK := HK.out
           obtain ⟨n, hn⟩ : ∃ n, mS s2 = n + 1 := ⟨mS s2 - 1, by omega⟩
           rw [hn, stepsP, if_pos ⟨hb, hk⟩, steps_fuel n (mS (stepP s2).2) (stepP s2).2 (inv_good.step HF7.out.par.good) (by omega) (Nat.le_refl _)] at hK
           exact ⟨by rw [← hK.1]; simp, hK.2⟩
          generalize (stepP s2).1 = x at HKn hN
          generalize (stepP s2).2 = s3 at HKn hN hmn
          have hld : wr.cell? ⟨S, 4, none⟩ = some (.slice A acc.length c) := (blk_cell HS7.out 4).trans rfl
          have hal2 : acc.length ≤ 200000 := by omega
          clear hbd hb hk hib
          go_wp2_with (first | (go_at_call 51; refine hO.mono ?_; rintro e w' ⟨rfl, rfl⟩) | (go_at_call 85; refine hIs.mono ?_; rintro e w' ⟨rfl, rfl⟩))
          have HFd := Lib.hid (HF7.out.below (W1 := wr.drew) ⟨rfl, rfl, rfl, Nat.le_refl _, fun _ _ => rfl⟩)
          have HAd : Hid (Kd.R k62 62 wr.drew w.heap.size (fun _ => True) (.slice A acc.length c) acc) := Kd.R_below HA7.out ⟨rfl, rfl, rfl, Nat.le_refl _, fun _ _ => rfl⟩
          have HN1_d : Hid (RS wr.drew w.heap.size (.slice A1 n1.length c1) n1) := Kd.R_below HN1_7.out ⟨rfl, rfl, rfl, Nat.le_refl _, fun _ _ => rfl⟩
          have HN2_d : Hid (RS wr.drew w.heap.size (.slice A2 n2.length c2) n2) := Kd.R_below HN2_7.out ⟨rfl, rfl, rfl, Nat.le_refl _, fun _ _ => rfl⟩
          have HRd := Lib.hid (blk_drew HR7.out)
          have HSd := Lib.hid (blk_drew HS7.out)
          clear hO hIs
          go_region_law (first
           | (refine Kd.R_append_step k62 (w0 := w8) w.heap.size (by rfl) (.tmp 34) (.tmp 37) 47 62 (.agg #[.string ⟨#[]⟩, .int .i64 0, .slice none 0 0, .slice none 0 0, .int .i64 0]) 80 rfl Tryz.underlying47 info62 rfl (by decide) (by decide) (.slice A acc.length c) acc x [.string x.f0, .int .i64 x.f1, .slice AX x.f2.length cX, .slice AY x.f3.length cY, .int .i64 x.f4] (fun _ => True) (fun k_ => True ∧ some k_ ≠ (Value.slice A acc.length c).ownBlock) (by rfl) (by rfl) (k62_mkM _ _ _ x HX8.out HY8.out) (fun _ hk => hk) (fun _ _ => trivial) HA8.out (Below.refl _ _) HF8.out.grown.size ?aL ?_; (case aL => omega); intro v1 w9 ho hb hg hat; obtain ⟨AN, cN, rfl, _, _⟩ := Kd.R_reads ho; have HA9 := Lib.hid ho; have HF9 := Lib.hid (HF8.out.row (Kd.R_own HA8.out).choose_spec (by decide) (by decide) (Nat.le_refl _) hb hg); have HR9 := Lib.hid (blk_grown HR8.out hg (Kd.R_ne HA8.out HR8.out (by decide))); have HS9 := Lib.hid (blk_grown HS8.out hg (Kd.R_ne HA8.out HS8.out (by decide))); have HN1_9 := Lib.hid (rs_other HN1_8.out HA8.out (by decide) hg); have HN2_9 := Lib.hid (rs_other HN2_8.out HA8.out (by decide) hg); have hst : w9.cell? ⟨S, 4, none⟩ = some (.slice A acc.length c) := (blk_cell HS9.out 4).trans rfl; have hfr : w9.frozen? ⟨S, 4, none⟩ = false := blk_frozen HS9.out 4; clear ho hb hg hat)
           | (go_simp; go_at_call 86; refine (hN _ HFd.out.par).mono ?_; rintro e w8 ⟨vx, vy, rfl, hx, hy, hp8, hg8⟩; obtain ⟨AX, cX, rfl, _, _⟩ := Kd.R_reads hx; obtain ⟨AY, cY, rfl, _, _⟩ := Kd.R_reads hy; have HX8 := Lib.hid (Kd.R_lower (Kd.R_new hx (Kd.R_own HAd.out).choose_spec) HFd.out.grown.size); have HY8 := Lib.hid (Kd.R_lower (Kd.R_new hy (Kd.R_own HAd.out).choose_spec) HFd.out.grown.size); have HF8 := Lib.hid (HFd.out.call hp8 hg8); have HR8 := Lib.hid (HFd.out.keeps (Nat.le_refl _) HRd.out hg8); have HS8 := Lib.hid (HFd.out.keeps (Nat.le_of_lt hS) HSd.out hg8); have HA8 := Lib.hid (row_keep HAd.out hg8 HL.out); have HN1_8 := Lib.hid (row_keep HN1_d.out hg8 HL.out); have HN2_8 := Lib.hid (row_keep HN2_d.out hg8 HL.out); have hl8 : w8.cell? ⟨S, 4, none⟩ = some (.slice A acc.length c) := (blk_cell HS8.out 4).trans rfl; have hl8a : ∀ ob : Obj, (w8.alloc ob).cell? ⟨S, 4, none⟩ = some (.slice A acc.length c) := fun ob => (blk_cell (blk_alloc HS8.out ob) 4).trans rfl; clear hx hy hp8 hg8))
          all_goals
           go_wp2
           go_roundg (mS s3)
           case measure => omega
           case rel =>
            have hlen : acc.length + 1 = (acc ++ [x]).length := by simp
            simp only [hlen]
            refine ⟨acc ++ [x], s3, AN, cN, Nat.le_refl _, ?_, ⟨HKn.out⟩, ⟨Kd.R_set HA9.out HS9.out (by decide) 4 _⟩, ⟨HF9.out.set (Nat.le_of_lt hS) HS9.out (by decide) (by decide) 4 _⟩, ⟨blk_far HR9.out (p := ⟨S, 4, none⟩) (Nat.ne_of_lt hS) _⟩, ⟨?_⟩, ⟨Kd.R_set HN1_9.out HS9.out (by decide) 4 _⟩, ⟨Kd.R_set HN2_9.out HS9.out (by decide) 4 _⟩⟩
            · rw [List.length_append, List.length_singleton]; omega
            · exact blk_put HS9.out 4 _ rfl
        · have hib : isP 3 brace s2 = true := by
           unfold isP
           rw [hbd]
           simp at hk
           rw [hk]
           rfl
          rw [hib] at hIs
          have HKn : acc = T1 ∧ s2 = T2 := by
           have hK := HK.out
           have h0 : stepsP (mS s2) s2 = ([], s2) := by
            generalize mS s2 = n
            cases n with
            | zero => rfl
            | succ n => unfold stepsP; rw [if_neg (fun h => hk h.2)]
           rw [h0, List.append_nil] at hK
           exact hK
          obtain ⟨rfl, rfl⟩ := HKn
          clear hbd hb hk hib HK
          go_wp2_with (first | (go_at_call 51; refine hO.mono ?_; rintro e w' ⟨rfl, rfl⟩) | (go_at_call 85; refine hIs.mono ?_; rintro e w' ⟨rfl, rfl⟩))
          clear hO hIs
          have HN4_7 := HA7
          refine (must_par g 3 (by decide) brace s2 wr HF7.out.par).mono ?_
          rintro e w8 ⟨rfl, hp8, hg8⟩
          have HF8 := Lib.hid (HF7.out.call hp8 hg8)
          have HR8 := Lib.hid (HF7.out.keeps (Nat.le_refl _) HR7.out hg8)
          have HS8 := Lib.hid (HF7.out.keeps (Nat.le_of_lt hS) HS7.out hg8)
          have HN1_8 := Lib.hid (row_keep HN1_7.out hg8 HL.out)
          have HN2_8 := Lib.hid (row_keep HN2_7.out hg8 HL.out)
          have HN4_8 := Lib.hid (row_keep HN4_7.out hg8 HL.out)
          clear hp8 hg8 HF7 HR7 HS7 HN1_7 HN2_7 HN4_7
          have hSe := HS8.out
          have k0 : w8.cell? ⟨S, 0, none⟩ = some (.string a) := (blk_cell hSe 0).trans rfl
          have k1 : w8.cell? ⟨S, 1, none⟩ = some (.slice A1 n1.length c1) := (blk_cell hSe 1).trans rfl
          have k2 : w8.cell? ⟨S, 2, none⟩ = some (.slice A2 n2.length c2) := (blk_cell hSe 2).trans rfl
          have k3 : w8.cell? ⟨S, 3, none⟩ = some (.slice none 0 0) := (blk_cell hSe 3).trans rfl
          have k4 : w8.cell? ⟨S, 4, none⟩ = some (.slice A acc.length c) := (blk_cell hSe 4).trans rfl
          have hRe := HR8.out
          have r0 : w8.cell? ⟨w.heap.size, 0, none⟩ = some (.string ⟨#[]⟩) := (blk_cell hRe 0).trans rfl
          have z0 := blk_frozen hRe 0
          have r1 : w8.cell? ⟨w.heap.size, 1, none⟩ = some (.slice none 0 0) := (blk_cell hRe 1).trans rfl
          have z1 := blk_frozen hRe 1
          have r2 : w8.cell? ⟨w.heap.size, 2, none⟩ = some (.slice none 0 0) := (blk_cell hRe 2).trans rfl
          have z2 := blk_frozen hRe 2
          have r3 : w8.cell? ⟨w.heap.size, 3, none⟩ = some (.slice none 0 0) := (blk_cell hRe 3).trans rfl
          have z3 := blk_frozen hRe 3
          have r4 : w8.cell? ⟨w.heap.size, 4, none⟩ = some (.slice none 0 0) := (blk_cell hRe 4).trans rfl
          have z4 := blk_frozen hRe 4
          clear hSe hRe
          go_wp2
          have hs := set5_blk (.string a) (.slice A1 n1.length c1) (.slice A2 n2.length c2) (.slice none 0 0) (.slice A acc.length c) HR8.out
          have hF := HF8.out.set5 (Nat.le_refl _) (.string a) (.slice A1 n1.length c1) (.slice A2 n2.length c2) (.slice none 0 0) (.slice A acc.length c) HR8.out (by decide) (by decide)
          have hA := RS.set5 HN1_8.out (.string a) (.slice A1 n1.length c1) (.slice A2 n2.length c2) (.slice none 0 0) (.slice A acc.length c) HR8.out (by decide)
          have hB := RS.set5 HN2_8.out (.string a) (.slice A1 n1.length c1) (.slice A2 n2.length c2) (.slice none 0 0) (.slice A acc.length c) HR8.out (by decide)
          have hC := RS.set5 (Kd.R_nil _ _ _ _ _ : RS w8 w.heap.size (.slice none 0 0) []) (.string a) (.slice A1 n1.length c1) (.slice A2 n2.length c2) (.slice none 0 0) (.slice A acc.length c) HR8.out (by decide)
          have hD := R_set5 HN4_8.out (.string a) (.slice A1 n1.length c1) (.slice A2 n2.length c2) (.slice none 0 0) (.slice A acc.length c) HR8.out (by decide)
          clear k0 k1 k2 k3 k4 r0 r1 r2 r3 r4 z0 z1 z2 z3 z4
          unfold set5 at hs hF hA hB hC hD
          generalize (((((w8.setCell ⟨w.heap.size, 0, none⟩ (.string a)).setCell ⟨w.heap.size, 1, none⟩ (.slice A1 n1.length c1)).setCell ⟨w.heap.size, 2, none⟩ (.slice A2 n2.length c2)).setCell ⟨w.heap.size, 3, none⟩ (.slice none 0 0)).setCell ⟨w.heap.size, 4, none⟩ (.slice A acc.length c)) = wE at hs hF hA hB hC hD ⊢
          have g0 := (blk_cell hs 0).trans rfl
          have g1 := (blk_cell hs 1).trans rfl
          have g2 := (blk_cell hs 2).trans rfl
          have g3 := (blk_cell hs 3).trans rfl
          have g4 := (blk_cell hs 4).trans rfl
          exact bodyPost_ret (v := .agg #[.string a, .slice A1 n1.length c1, .slice A2 n2.length c2, .slice none 0 0, .slice A acc.length c]) (by simp [results, Tryz.results52, go_sem, g0, g1, g2, g3, g4]) rfl (by
           rw [HT.out]
           exact ⟨_, _, _, _, rfl, hA, hB, hC, hD, hF.par, hF.grown⟩)
      · have hbd : decide (s2.2 < 0) = false := by simpa using hb
        rw [hbd] at hO
        have HKn : acc = T1 ∧ s2 = T2 := by
         have hK := HK.out
         have h0 : stepsP (mS s2) s2 = ([], s2) := by
          generalize mS s2 = n
          cases n with
          | zero => rfl
          | succ n => unfold stepsP; rw [if_neg (fun h => hb h.1)]
         rw [h0, List.append_nil] at hK
         exact hK
        obtain ⟨rfl, rfl⟩ := HKn
        clear hbd hb HK hIs
        go_wp2_with (go_at_call 51; refine hO.mono ?_; rintro e w' ⟨rfl, rfl⟩)
        clear hO
        have HN4_7 := HA7
        refine (must_par g 3 (by decide) brace s2 wr HF7.out.par).mono ?_
        rintro e w8 ⟨rfl, hp8, hg8⟩
        have HF8 := Lib.hid (HF7.out.call hp8 hg8)
        have HR8 := Lib.hid (HF7.out.keeps (Nat.le_refl _) HR7.out hg8)
        have HS8 := Lib.hid (HF7.out.keeps (Nat.le_of_lt hS) HS7.out hg8)
        have HN1_8 := Lib.hid (row_keep HN1_7.out hg8 HL.out)
        have HN2_8 := Lib.hid (row_keep HN2_7.out hg8 HL.out)
        have HN4_8 := Lib.hid (row_keep HN4_7.out hg8 HL.out)
        clear hp8 hg8 HF7 HR7 HS7 HN1_7 HN2_7 HN4_7
        have hSe := HS8.out
        have k0 : w8.cell? ⟨S, 0, none⟩ = some (.string a) := (blk_cell hSe 0).trans rfl
        have k1 : w8.cell? ⟨S, 1, none⟩ = some (.slice A1 n1.length c1) := (blk_cell hSe 1).trans rfl
        have k2 : w8.cell? ⟨S, 2, none⟩ = some (.slice A2 n2.length c2) := (blk_cell hSe 2).trans rfl
        have k3 : w8.cell? ⟨S, 3, none⟩ = some (.slice none 0 0) := (blk_cell hSe 3).trans rfl
        have k4 : w8.cell? ⟨S, 4, none⟩ = some (.slice A acc.length c) := (blk_cell hSe 4).trans rfl
        have hRe := HR8.out
        have r0 : w8.cell? ⟨w.heap.size, 0, none⟩ = some (.string ⟨#[]⟩) := (blk_cell hRe 0).trans rfl
        have z0 := blk_frozen hRe 0
        have r1 : w8.cell? ⟨w.heap.size, 1, none⟩ = some (.slice none 0 0) := (blk_cell hRe 1).trans rfl
        have z1 := blk_frozen hRe 1
        have r2 : w8.cell? ⟨w.heap.size, 2, none⟩ = some (.slice none 0 0) := (blk_cell hRe 2).trans rfl
        have z2 := blk_frozen hRe 2
        have r3 : w8.cell? ⟨w.heap.size, 3, none⟩ = some (.slice none 0 0) := (blk_cell hRe 3).trans rfl
        have z3 := blk_frozen hRe 3
        have r4 : w8.cell? ⟨w.heap.size, 4, none⟩ = some (.slice none 0 0) := (blk_cell hRe 4).trans rfl
        have z4 := blk_frozen hRe 4
        clear hSe hRe
        go_wp2
        have hs := set5_blk (.string a) (.slice A1 n1.length c1) (.slice A2 n2.length c2) (.slice none 0 0) (.slice A acc.length c) HR8.out
        have hF := HF8.out.set5 (Nat.le_refl _) (.string a) (.slice A1 n1.length c1) (.slice A2 n2.length c2) (.slice none 0 0) (.slice A acc.length c) HR8.out (by decide) (by decide)
        have hA := RS.set5 HN1_8.out (.string a) (.slice A1 n1.length c1) (.slice A2 n2.length c2) (.slice none 0 0) (.slice A acc.length c) HR8.out (by decide)
        have hB := RS.set5 HN2_8.out (.string a) (.slice A1 n1.length c1) (.slice A2 n2.length c2) (.slice none 0 0) (.slice A acc.length c) HR8.out (by decide)
        have hC := RS.set5 (Kd.R_nil _ _ _ _ _ : RS w8 w.heap.size (.slice none 0 0) []) (.string a) (.slice A1 n1.length c1) (.slice A2 n2.length c2) (.slice none 0 0) (.slice A acc.length c) HR8.out (by decide)
        have hD := R_set5 HN4_8.out (.string a) (.slice A1 n1.length c1) (.slice A2 n2.length c2) (.slice none 0 0) (.slice A acc.length c) HR8.out (by decide)
        clear k0 k1 k2 k3 k4 r0 r1 r2 r3 r4 z0 z1 z2 z3 z4
        unfold set5 at hs hF hA hB hC hD
        generalize (((((w8.setCell ⟨w.heap.size, 0, none⟩ (.string a)).setCell ⟨w.heap.size, 1, none⟩ (.slice A1 n1.length c1)).setCell ⟨w.heap.size, 2, none⟩ (.slice A2 n2.length c2)).setCell ⟨w.heap.size, 3, none⟩ (.slice none 0 0)).setCell ⟨w.heap.size, 4, none⟩ (.slice A acc.length c)) = wE at hs hF hA hB hC hD ⊢
        have g0 := (blk_cell hs 0).trans rfl
        have g1 := (blk_cell hs 1).trans rfl
        have g2 := (blk_cell hs 2).trans rfl
        have g3 := (blk_cell hs 3).trans rfl
        have g4 := (blk_cell hs 4).trans rfl
        exact bodyPost_ret (v := .agg #[.string a, .slice A1 n1.length c1, .slice A2 n2.length c2, .slice none 0 0, .slice A acc.length c]) (by simp [results, Tryz.results52, go_sem, g0, g1, g2, g3, g4]) rfl (by
         rw [HT.out]
         exact ⟨_, _, _, _, rfl, hA, hB, hC, hD, hF.par, hF.grown⟩)
 · have hi' : isP 1 wIn s4 = false := by simpa using hi
   have htk : takeP 1 wIn s4 = (false, s4) := by unfold takeP; rw [if_neg hi]
   rw [hi', htk] at hTk
   have hIf : ifP wIn s4 = ([], s4) := by unfold ifP; rw [if_neg hi]
   rw [hIf] at HT
   try dsimp only at HT
   clear hIf htk hi hi'
   refine hTk.mono ?_
   rintro e w7 ⟨rfl, hp7, hg7⟩
   clear hTk
   have HF7 := Lib.hid (HF6.out.call hp7 hg7)
   have HR7 := Lib.hid (HF6.out.keeps (Nat.le_refl _) HR6.out hg7)
   have HS7 := Lib.hid (HF6.out.keeps (Nat.le_of_lt hS) HS6.out hg7)
   clear hp7 hg7 HF6 HR6 HS6
   have HTo : Hid (ruleP s = ruleO a [] s4) := HT.out
   clear HT
   unfold ruleO at HTo
   try dsimp only at HTo
   have HT := HTo
   clear HTo
   go_wp2_with fail
   refine (must_par g 1 (by decide) wOut s4 w7 HF7.out.par).mono ?_
   rintro e w8 ⟨rfl, hp8, hg8⟩
   have HF8 := Lib.hid (HF7.out.call hp8 hg8)
   have HR8 := Lib.hid (HF7.out.keeps (Nat.le_refl _) HR7.out hg8)
   have HS8 := Lib.hid (HF7.out.keeps (Nat.le_of_lt hS) HS7.out hg8)
   clear hp8 hg8 HF7 HR7 HS7
   generalize mustP 1 wOut s4 = q0 at HT HF8
   go_wp2_with fail
   refine (list_calls g q0 w8 HF8.out.par).mono ?_
   rintro e w9 ⟨v9, rfl, hr9, hp9, hg9⟩
   generalize (listP q0).1 = n2 at HT hr9
   generalize (listP q0).2 = q2 at HT hp9
   have hr := Kd.R_lower hr9 HF8.out.grown.size
   obtain ⟨A2, c2, rfl, _, _⟩ := Kd.R_reads hr
   have HN2 := Lib.hid hr
   clear hr hr9
   have HF9 := Lib.hid (HF8.out.call hp9 hg9)
   have HR9 := Lib.hid (HF8.out.keeps (Nat.le_refl _) HR8.out hg9)
   have HS9 := Lib.hid (HF8.out.keeps (Nat.le_of_lt hS) HS8.out hg9)
   clear hp9 hg9 HF8 HR8 HS8
   have hSx := HS9.out
   have cx : w9.cell? ⟨S, 2, none⟩ = some (.slice none 0 0) := (blk_cell hSx 2).trans rfl
   have fx := blk_frozen hSx 2
   clear hSx
   go_wp2_with fail
   clear cx fx
   have HF10 := Lib.hid (HF9.out.set (Nat.le_of_lt hS) HS9.out (by decide) (by decide) 2 (.slice A2 n2.length c2))
   have HR10 := Lib.hid (blk_far HR9.out (p := ⟨S, 2, none⟩) (Nat.ne_of_lt hS) (.slice A2 n2.length c2))
   have HS10 : Hid ((w9.setCell ⟨S, 2, none⟩ (.slice A2 n2.length c2)).heap[S]? = some (.cells #[.string a, .slice none 0 0, .slice A2 n2.length c2, .slice none 0 0, .slice none 0 0] 49 (0, 0))) := blk_put HS9.out 2 _ rfl
   have HN2_10 := Lib.hid (Kd.R_set HN2.out HS9.out (by decide) 2 (.slice A2 n2.length c2))
   clear HF9 HR9 HS9 HN2
   generalize w9.setCell ⟨S, 2, none⟩ (.slice A2 n2.length c2) = w10 at HF10 HR10 HS10 HN2_10 ⊢
   unfold ruleF at HT
   try dsimp only at HT
   have hTk := take_par g 1 (by decide) wAfter q2 w10 HF10.out.par
   by_cases hi : isP 1 wAfter q2 = true
   · have htk : takeP 1 wAfter q2 = (true, ((q2).1.tail, (q2).2)) := by unfold takeP; rw [if_pos hi]
     rw [hi, htk] at hTk
     have hIf : ifP wAfter q2 = listP ((q2).1.tail, (q2).2) := by unfold ifP; rw [if_pos hi]
     rw [hIf] at HT
     try dsimp only at HT
     clear hIf htk hi
     refine hTk.mono ?_
     rintro e w11 ⟨rfl, hp11, hg11⟩
     clear hTk
     have HF11 := Lib.hid (HF10.out.call hp11 hg11)
     have HR11 := Lib.hid (HF10.out.keeps (Nat.le_refl _) HR10.out hg11)
     have HS11 := Lib.hid (HF10.out.keeps (Nat.le_of_lt hS) HS10.out hg11)
     have HN2_11 := Lib.hid (row_keep HN2_10.out hg11 HL.out)
     clear hp11 hg11 HF10 HR10 HS10 HN2_10
     go_wp2_with fail
     refine (list_calls g ((q2).1.tail, (q2).2) w11 HF11.out.par).mono ?_
     rintro e w12 ⟨v12, rfl, hr12, hp12, hg12⟩
     generalize (listP ((q2).1.tail, (q2).2)).1 = n3 at HT hr12
     generalize (listP ((q2).1.tail, (q2).2)).2 = q3 at HT hp12
     have hr := Kd.R_lower hr12 HF11.out.grown.size
     obtain ⟨A3, c3, rfl, _, _⟩ := Kd.R_reads hr
     have HN3 := Lib.hid hr
     clear hr hr12
     have HF12 := Lib.hid (HF11.out.call hp12 hg12)
     have HR12 := Lib.hid (HF11.out.keeps (Nat.le_refl _) HR11.out hg12)
     have HS12 := Lib.hid (HF11.out.keeps (Nat.le_of_lt hS) HS11.out hg12)
     have HN2_12 := Lib.hid (row_keep HN2_11.out hg12 HL.out)
     clear hp12 hg12 HF11 HR11 HS11 HN2_11
     have hSx := HS12.out
     have cx : w12.cell? ⟨S, 3, none⟩ = some (.slice none 0 0) := (blk_cell hSx 3).trans rfl
     have fx := blk_frozen hSx 3
     clear hSx
     go_wp2_with fail
     clear cx fx
     have HF13 := Lib.hid (HF12.out.set (Nat.le_of_lt hS) HS12.out (by decide) (by decide) 3 (.slice A3 n3.length c3))
     have HR13 := Lib.hid (blk_far HR12.out (p := ⟨S, 3, none⟩) (Nat.ne_of_lt hS) (.slice A3 n3.length c3))
     have HS13 : Hid ((w12.setCell ⟨S, 3, none⟩ (.slice A3 n3.length c3)).heap[S]? = some (.cells #[.string a, .slice none 0 0, .slice A2 n2.length c2, .slice A3 n3.length c3, .slice none 0 0] 49 (0, 0))) := blk_put HS12.out 3 _ rfl
     have HN2_13 := Lib.hid (Kd.R_set HN2_12.out HS12.out (by decide) 3 (.slice A3 n3.length c3))
     have HN3_13 := Lib.hid (Kd.R_set HN3.out HS12.out (by decide) 3 (.slice A3 n3.length c3))
     clear HF12 HR12 HS12 HN2_12 HN3
     generalize w12.setCell ⟨S, 3, none⟩ (.slice A3 n3.length c3) = w13 at HF13 HR13 HS13 HN2_13 HN3_13 ⊢
     unfold ruleS at HT
     try dsimp only at HT
     have HTA : Hid ((stepsP ((q3).1.length + 1) (q3)).1 = (stepsP (mS (q3)) (q3)).1 ∧ (stepsP ((q3).1.length + 1) (q3)).2 = (stepsP (mS (q3)) (q3)).2) := by
      rw [steps_fuel ((q3).1.length + 1) (mS (q3)) (q3) HF13.out.par.good (mS_le _) (Nat.le_refl _)]
      exact ⟨rfl, rfl⟩
     generalize (stepsP ((q3).1.length + 1) (q3)).1 = T1 at HT HTA
     generalize (stepsP ((q3).1.length + 1) (q3)).2 = T2 at HT HTA
     have hm4 : mS (q3) ≤ 100001 := Nat.le_trans (mS_le _) (Nat.add_le_add_right HF13.out.par.len 1)
     generalize q3 = sL at HTA hm4 HF13
     go_loopg [] (mS sL) (fun gg wr => ∃ (acc : List SStep) (s2 : PS) (A : Option Addr) (c : Nat), mS s2 ≤ gg ∧ acc.length + mS s2 ≤ mS sL ∧ Aside0 (acc ++ (stepsP (mS s2) s2).1 = T1 ∧ (stepsP (mS s2) s2).2 = T2) ∧
      Aside0 (Kd.R k62 62 wr w.heap.size (fun _ => True) (.slice A acc.length c) acc) ∧ Aside0 (Fly w g wr s2) ∧ Aside0 (wr.heap[w.heap.size]? = some (.cells RUz 49 (0, 0))) ∧ Aside0 (wr.heap[S]? = some (.cells #[.string a, .slice none 0 0, .slice A2 n2.length c2, .slice A3 n3.length c3, .slice A acc.length c] 49 (0, 0))) ∧ Aside0 (RS wr w.heap.size (.slice A2 n2.length c2) n2) ∧ Aside0 (RS wr w.heap.size (.slice A3 n3.length c3) n3))
     case atStart => exact ⟨[], sL, none, 0, Nat.le_refl _, by simp, ⟨by rw [List.nil_append]; exact ⟨HTA.out.1.symm, HTA.out.2.symm⟩⟩, ⟨Kd.R_nil _ _ _ _ _⟩, ⟨HF13.out⟩, ⟨HR13.out⟩, ⟨HS13.out⟩, ⟨HN2_13.out⟩, ⟨HN3_13.out⟩⟩
     case round =>
      obtain ⟨acc, s2, A, c, hgk, hal, HK, HA7, HF7, HR7, HS7, HN2_7, HN3_7⟩ := hrel
      have hO := ok_calls g s2 wr HF7.out.par.has
      have hIs := is_calls g 3 brace s2 wr HF7.out.par.has HF7.out.par.good.ne
      by_cases hb : s2.2 < 0
      · have hbd : decide (s2.2 < 0) = true := by simpa using hb
        rw [hbd] at hO
        by_cases hk : atP 3 brace s2 = false
        · have hib : isP 3 brace s2 = false := by unfold isP; rw [hk]; simp
          rw [hib] at hIs
          have hN := fun W hW => step_calls g s2 W hW
          have hmn := mS_step HF7.out.par.good hb
          have HKn : Hid (((acc ++ [(stepP s2).1]) ++ (stepsP (mS (stepP s2).2) (stepP s2).2).1 = T1 ∧ (stepsP (mS (stepP s2).2) (stepP s2).2).2 = T2)) := by
           have hK := HK.out
           obtain ⟨n, hn⟩ : ∃ n, mS s2 = n + 1 := ⟨mS s2 - 1, by omega⟩
           rw [hn, stepsP, if_pos ⟨hb, hk⟩, steps_fuel n (mS (stepP s2).2) (stepP s2).2 (inv_good.step HF7.out.par.good) (by omega) (Nat.le_refl _)] at hK
           exact ⟨by rw [← hK.1]; simp, hK.2⟩
          generalize (stepP s2).1 = x at HKn hN
          generalize (stepP s2).2 = s3 at HKn hN hmn
          have hld : wr.cell? ⟨S, 4, none⟩ = some (.slice A acc.length c) := (blk_cell HS7.out 4).trans rfl
          have hal2 : acc.length ≤ 200000 := by omega
          clear hbd hb hk hib
          go_wp2_with (first | (go_at_call 51; refine hO.mono ?_; rintro e w' ⟨rfl, rfl⟩) | (go_at_call 85; refine hIs.mono ?_; rintro e w' ⟨rfl, rfl⟩))
          have HFd := Lib.hid (HF7.out.below (W1 := wr.drew) ⟨rfl, rfl, rfl, Nat.le_refl _, fun _ _ => rfl⟩)
          have HAd : Hid (Kd.R k62 62 wr.drew w.heap.size (fun _ => True) (.slice A acc.length c) acc) := Kd.R_below HA7.out ⟨rfl, rfl, rfl, Nat.le_refl _, fun _ _ => rfl⟩
          have HN2_d : Hid (RS wr.drew w.heap.size (.slice A2 n2.length c2) n2) := Kd.R_below HN2_7.out ⟨rfl, rfl, rfl, Nat.le_refl _, fun _ _ => rfl⟩
          have HN3_d : Hid (RS wr.drew w.heap.size (.slice A3 n3.length c3) n3) := Kd.R_below HN3_7.out ⟨rfl, rfl, rfl, Nat.le_refl _, fun _ _ => rfl⟩
          have HRd := Lib.hid (blk_drew HR7.out)
          have HSd := Lib.hid (blk_drew HS7.out)
          clear hO hIs
          go_region_law (first
           | (refine Kd.R_append_step k62 (w0 := w8) w.heap.size (by rfl) (.tmp 34) (.tmp 37) 47 62 (.agg #[.string ⟨#[]⟩, .int .i64 0, .slice none 0 0, .slice none 0 0, .int .i64 0]) 80 rfl Tryz.underlying47 info62 rfl (by decide) (by decide) (.slice A acc.length c) acc x [.string x.f0, .int .i64 x.f1, .slice AX x.f2.length cX, .slice AY x.f3.length cY, .int .i64 x.f4] (fun _ => True) (fun k_ => True ∧ some k_ ≠ (Value.slice A acc.length c).ownBlock) (by rfl) (by rfl) (k62_mkM _ _ _ x HX8.out HY8.out) (fun _ hk => hk) (fun _ _ => trivial) HA8.out (Below.refl _ _) HF8.out.grown.size ?aL ?_; (case aL => omega); intro v1 w9 ho hb hg hat; obtain ⟨AN, cN, rfl, _, _⟩ := Kd.R_reads ho; have HA9 := Lib.hid ho; have HF9 := Lib.hid (HF8.out.row (Kd.R_own HA8.out).choose_spec (by decide) (by decide) (Nat.le_refl _) hb hg); have HR9 := Lib.hid (blk_grown HR8.out hg (Kd.R_ne HA8.out HR8.out (by decide))); have HS9 := Lib.hid (blk_grown HS8.out hg (Kd.R_ne HA8.out HS8.out (by decide))); have HN2_9 := Lib.hid (rs_other HN2_8.out HA8.out (by decide) hg); have HN3_9 := Lib.hid (rs_other HN3_8.out HA8.out (by decide) hg); have hst : w9.cell? ⟨S, 4, none⟩ = some (.slice A acc.length c) := (blk_cell HS9.out 4).trans rfl; have hfr : w9.frozen? ⟨S, 4, none⟩ = false := blk_frozen HS9.out 4; clear ho hb hg hat)
           | (go_simp; go_at_call 86; refine (hN _ HFd.out.par).mono ?_; rintro e w8 ⟨vx, vy, rfl, hx, hy, hp8, hg8⟩; obtain ⟨AX, cX, rfl, _, _⟩ := Kd.R_reads hx; obtain ⟨AY, cY, rfl, _, _⟩ := Kd.R_reads hy; have HX8 := Lib.hid (Kd.R_lower (Kd.R_new hx (Kd.R_own HAd.out).choose_spec) HFd.out.grown.size); have HY8 := Lib.hid (Kd.R_lower (Kd.R_new hy (Kd.R_own HAd.out).choose_spec) HFd.out.grown.size); have HF8 := Lib.hid (HFd.out.call hp8 hg8); have HR8 := Lib.hid (HFd.out.keeps (Nat.le_refl _) HRd.out hg8); have HS8 := Lib.hid (HFd.out.keeps (Nat.le_of_lt hS) HSd.out hg8); have HA8 := Lib.hid (row_keep HAd.out hg8 HL.out); have HN2_8 := Lib.hid (row_keep HN2_d.out hg8 HL.out); have HN3_8 := Lib.hid (row_keep HN3_d.out hg8 HL.out); have hl8 : w8.cell? ⟨S, 4, none⟩ = some (.slice A acc.length c) := (blk_cell HS8.out 4).trans rfl; have hl8a : ∀ ob : Obj, (w8.alloc ob).cell? ⟨S, 4, none⟩ = some (.slice A acc.length c) := fun ob => (blk_cell (blk_alloc HS8.out ob) 4).trans rfl; clear hx hy hp8 hg8))
          all_goals
           go_wp2
           go_roundg (mS s3)
           case measure => omega
           case rel =>
            have hlen : acc.length + 1 = (acc ++ [x]).length := by simp
            simp only [hlen]
            refine ⟨acc ++ [x], s3, AN, cN, Nat.le_refl _, ?_, ⟨HKn.out⟩, ⟨Kd.R_set HA9.out HS9.out (by decide) 4 _⟩, ⟨HF9.out.set (Nat.le_of_lt hS) HS9.out (by decide) (by decide) 4 _⟩, ⟨blk_far HR9.out (p := ⟨S, 4, none⟩) (Nat.ne_of_lt hS) _⟩, ⟨?_⟩, ⟨Kd.R_set HN2_9.out HS9.out (by decide) 4 _⟩, ⟨Kd.R_set HN3_9.out HS9.out (by decide) 4 _⟩⟩
            · rw [List.length_append, List.length_singleton]; omega
            · exact blk_put HS9.out 4 _ rfl
        · have hib : isP 3 brace s2 = true := by
           unfold isP
           rw [hbd]
           simp at hk
           rw [hk]
           rfl
          rw [hib] at hIs
          have HKn : acc = T1 ∧ s2 = T2 := by
           have hK := HK.out
           have h0 : stepsP (mS s2) s2 = ([], s2) := by
            generalize mS s2 = n
            cases n with
            | zero => rfl
            | succ n => unfold stepsP; rw [if_neg (fun h => hk h.2)]
           rw [h0, List.append_nil] at hK
           exact hK
          obtain ⟨rfl, rfl⟩ := HKn
          clear hbd hb hk hib HK
          go_wp2_with (first | (go_at_call 51; refine hO.mono ?_; rintro e w' ⟨rfl, rfl⟩) | (go_at_call 85; refine hIs.mono ?_; rintro e w' ⟨rfl, rfl⟩))
          clear hO hIs
          have HN4_7 := HA7
          refine (must_par g 3 (by decide) brace s2 wr HF7.out.par).mono ?_
          rintro e w8 ⟨rfl, hp8, hg8⟩
          have HF8 := Lib.hid (HF7.out.call hp8 hg8)
          have HR8 := Lib.hid (HF7.out.keeps (Nat.le_refl _) HR7.out hg8)
          have HS8 := Lib.hid (HF7.out.keeps (Nat.le_of_lt hS) HS7.out hg8)
          have HN2_8 := Lib.hid (row_keep HN2_7.out hg8 HL.out)
          have HN3_8 := Lib.hid (row_keep HN3_7.out hg8 HL.out)
          have HN4_8 := Lib.hid (row_keep HN4_7.out hg8 HL.out)
          clear hp8 hg8 HF7 HR7 HS7 HN2_7 HN3_7 HN4_7
          have hSe := HS8.out
          have k0 : w8.cell? ⟨S, 0, none⟩ = some (.string a) := (blk_cell hSe 0).trans rfl
          have k1 : w8.cell? ⟨S, 1, none⟩ = some (.slice none 0 0) := (blk_cell hSe 1).trans rfl
          have k2 : w8.cell? ⟨S, 2, none⟩ = some (.slice A2 n2.length c2) := (blk_cell hSe 2).trans rfl
          have k3 : w8.cell? ⟨S, 3, none⟩ = some (.slice A3 n3.length c3) := (blk_cell hSe 3).trans rfl
          have k4 : w8.cell? ⟨S, 4, none⟩ = some (.slice A acc.length c) := (blk_cell hSe 4).trans rfl
          have hRe := HR8.out
          have r0 : w8.cell? ⟨w.heap.size, 0, none⟩ = some (.string ⟨#[]⟩) := (blk_cell hRe 0).trans rfl
          have z0 := blk_frozen hRe 0
          have r1 : w8.cell? ⟨w.heap.size, 1, none⟩ = some (.slice none 0 0) := (blk_cell hRe 1).trans rfl
          have z1 := blk_frozen hRe 1
          have r2 : w8.cell? ⟨w.heap.size, 2, none⟩ = some (.slice none 0 0) := (blk_cell hRe 2).trans rfl
          have z2 := blk_frozen hRe 2
          have r3 : w8.cell? ⟨w.heap.size, 3, none⟩ = some (.slice none 0 0) := (blk_cell hRe 3).trans rfl
          have z3 := blk_frozen hRe 3
          have r4 : w8.cell? ⟨w.heap.size, 4, none⟩ = some (.slice none 0 0) := (blk_cell hRe 4).trans rfl
          have z4 := blk_frozen hRe 4
          clear hSe hRe
          go_wp2
          have hs := set5_blk (.string a) (.slice none 0 0) (.slice A2 n2.length c2) (.slice A3 n3.length c3) (.slice A acc.length c) HR8.out
          have hF := HF8.out.set5 (Nat.le_refl _) (.string a) (.slice none 0 0) (.slice A2 n2.length c2) (.slice A3 n3.length c3) (.slice A acc.length c) HR8.out (by decide) (by decide)
          have hA := RS.set5 (Kd.R_nil _ _ _ _ _ : RS w8 w.heap.size (.slice none 0 0) []) (.string a) (.slice none 0 0) (.slice A2 n2.length c2) (.slice A3 n3.length c3) (.slice A acc.length c) HR8.out (by decide)
          have hB := RS.set5 HN2_8.out (.string a) (.slice none 0 0) (.slice A2 n2.length c2) (.slice A3 n3.length c3) (.slice A acc.length c) HR8.out (by decide)
          have hC := RS.set5 HN3_8.out (.string a) (.slice none 0 0) (.slice A2 n2.length c2) (.slice A3 n3.length c3) (.slice A acc.length c) HR8.out (by decide)
          have hD := R_set5 HN4_8.out (.string a) (.slice none 0 0) (.slice A2 n2.length c2) (.slice A3 n3.length c3) (.slice A acc.length c) HR8.out (by decide)
          clear k0 k1 k2 k3 k4 r0 r1 r2 r3 r4 z0 z1 z2 z3 z4
          unfold set5 at hs hF hA hB hC hD
          generalize (((((w8.setCell ⟨w.heap.size, 0, none⟩ (.string a)).setCell ⟨w.heap.size, 1, none⟩ (.slice none 0 0)).setCell ⟨w.heap.size, 2, none⟩ (.slice A2 n2.length c2)).setCell ⟨w.heap.size, 3, none⟩ (.slice A3 n3.length c3)).setCell ⟨w.heap.size, 4, none⟩ (.slice A acc.length c)) = wE at hs hF hA hB hC hD ⊢
          have g0 := (blk_cell hs 0).trans rfl
          have g1 := (blk_cell hs 1).trans rfl
          have g2 := (blk_cell hs 2).trans rfl
          have g3 := (blk_cell hs 3).trans rfl
          have g4 := (blk_cell hs 4).trans rfl
          exact bodyPost_ret (v := .agg #[.string a, .slice none 0 0, .slice A2 n2.length c2, .slice A3 n3.length c3, .slice A acc.length c]) (by simp [results, Tryz.results52, go_sem, g0, g1, g2, g3, g4]) rfl (by
           rw [HT.out]
           exact ⟨_, _, _, _, rfl, hA, hB, hC, hD, hF.par, hF.grown⟩)
      · have hbd : decide (s2.2 < 0) = false := by simpa using hb
        rw [hbd] at hO
        have HKn : acc = T1 ∧ s2 = T2 := by
         have hK := HK.out
         have h0 : stepsP (mS s2) s2 = ([], s2) := by
          generalize mS s2 = n
          cases n with
          | zero => rfl
          | succ n => unfold stepsP; rw [if_neg (fun h => hb h.1)]
         rw [h0, List.append_nil] at hK
         exact hK
        obtain ⟨rfl, rfl⟩ := HKn
        clear hbd hb HK hIs
        go_wp2_with (go_at_call 51; refine hO.mono ?_; rintro e w' ⟨rfl, rfl⟩)
        clear hO
        have HN4_7 := HA7
        refine (must_par g 3 (by decide) brace s2 wr HF7.out.par).mono ?_
        rintro e w8 ⟨rfl, hp8, hg8⟩
        have HF8 := Lib.hid (HF7.out.call hp8 hg8)
        have HR8 := Lib.hid (HF7.out.keeps (Nat.le_refl _) HR7.out hg8)
        have HS8 := Lib.hid (HF7.out.keeps (Nat.le_of_lt hS) HS7.out hg8)
        have HN2_8 := Lib.hid (row_keep HN2_7.out hg8 HL.out)
        have HN3_8 := Lib.hid (row_keep HN3_7.out hg8 HL.out)
        have HN4_8 := Lib.hid (row_keep HN4_7.out hg8 HL.out)
        clear hp8 hg8 HF7 HR7 HS7 HN2_7 HN3_7 HN4_7
        have hSe := HS8.out
        have k0 : w8.cell? ⟨S, 0, none⟩ = some (.string a) := (blk_cell hSe 0).trans rfl
        have k1 : w8.cell? ⟨S, 1, none⟩ = some (.slice none 0 0) := (blk_cell hSe 1).trans rfl
        have k2 : w8.cell? ⟨S, 2, none⟩ = some (.slice A2 n2.length c2) := (blk_cell hSe 2).trans rfl
        have k3 : w8.cell? ⟨S, 3, none⟩ = some (.slice A3 n3.length c3) := (blk_cell hSe 3).trans rfl
        have k4 : w8.cell? ⟨S, 4, none⟩ = some (.slice A acc.length c) := (blk_cell hSe 4).trans rfl
        have hRe := HR8.out
        have r0 : w8.cell? ⟨w.heap.size, 0, none⟩ = some (.string ⟨#[]⟩) := (blk_cell hRe 0).trans rfl
        have z0 := blk_frozen hRe 0
        have r1 : w8.cell? ⟨w.heap.size, 1, none⟩ = some (.slice none 0 0) := (blk_cell hRe 1).trans rfl
        have z1 := blk_frozen hRe 1
        have r2 : w8.cell? ⟨w.heap.size, 2, none⟩ = some (.slice none 0 0) := (blk_cell hRe 2).trans rfl
        have z2 := blk_frozen hRe 2
        have r3 : w8.cell? ⟨w.heap.size, 3, none⟩ = some (.slice none 0 0) := (blk_cell hRe 3).trans rfl
        have z3 := blk_frozen hRe 3
        have r4 : w8.cell? ⟨w.heap.size, 4, none⟩ = some (.slice none 0 0) := (blk_cell hRe 4).trans rfl
        have z4 := blk_frozen hRe 4
        clear hSe hRe
        go_wp2
        have hs := set5_blk (.string a) (.slice none 0 0) (.slice A2 n2.length c2) (.slice A3 n3.length c3) (.slice A acc.length c) HR8.out
        have hF := HF8.out.set5 (Nat.le_refl _) (.string a) (.slice none 0 0) (.slice A2 n2.length c2) (.slice A3 n3.length c3) (.slice A acc.length c) HR8.out (by decide) (by decide)
        have hA := RS.set5 (Kd.R_nil _ _ _ _ _ : RS w8 w.heap.size (.slice none 0 0) []) (.string a) (.slice none 0 0) (.slice A2 n2.length c2) (.slice A3 n3.length c3) (.slice A acc.length c) HR8.out (by decide)
        have hB := RS.set5 HN2_8.out (.string a) (.slice none 0 0) (.slice A2 n2.length c2) (.slice A3 n3.length c3) (.slice A acc.length c) HR8.out (by decide)
        have hC := RS.set5 HN3_8.out (.string a) (.slice none 0 0) (.slice A2 n2.length c2) (.slice A3 n3.length c3) (.slice A acc.length c) HR8.out (by decide)
        have hD := R_set5 HN4_8.out (.string a) (.slice none 0 0) (.slice A2 n2.length c2) (.slice A3 n3.length c3) (.slice A acc.length c) HR8.out (by decide)
        clear k0 k1 k2 k3 k4 r0 r1 r2 r3 r4 z0 z1 z2 z3 z4
        unfold set5 at hs hF hA hB hC hD
        generalize (((((w8.setCell ⟨w.heap.size, 0, none⟩ (.string a)).setCell ⟨w.heap.size, 1, none⟩ (.slice none 0 0)).setCell ⟨w.heap.size, 2, none⟩ (.slice A2 n2.length c2)).setCell ⟨w.heap.size, 3, none⟩ (.slice A3 n3.length c3)).setCell ⟨w.heap.size, 4, none⟩ (.slice A acc.length c)) = wE at hs hF hA hB hC hD ⊢
        have g0 := (blk_cell hs 0).trans rfl
        have g1 := (blk_cell hs 1).trans rfl
        have g2 := (blk_cell hs 2).trans rfl
        have g3 := (blk_cell hs 3).trans rfl
        have g4 := (blk_cell hs 4).trans rfl
        exact bodyPost_ret (v := .agg #[.string a, .slice none 0 0, .slice A2 n2.length c2, .slice A3 n3.length c3, .slice A acc.length c]) (by simp [results, Tryz.results52, go_sem, g0, g1, g2, g3, g4]) rfl (by
         rw [HT.out]
         exact ⟨_, _, _, _, rfl, hA, hB, hC, hD, hF.par, hF.grown⟩)
   · have hi' : isP 1 wAfter q2 = false := by simpa using hi
     have htk : takeP 1 wAfter q2 = (false, q2) := by unfold takeP; rw [if_neg hi]
     rw [hi', htk] at hTk
     have hIf : ifP wAfter q2 = ([], q2) := by unfold ifP; rw [if_neg hi]
     rw [hIf] at HT
     try dsimp only at HT
     clear hIf htk hi hi'
     refine hTk.mono ?_
     rintro e w11 ⟨rfl, hp11, hg11⟩
     clear hTk
     have HF11 := Lib.hid (HF10.out.call hp11 hg11)
     have HR11 := Lib.hid (HF10.out.keeps (Nat.le_refl _) HR10.out hg11)
     have HS11 := Lib.hid (HF10.out.keeps (Nat.le_of_lt hS) HS10.out hg11)
     have HN2_11 := Lib.hid (row_keep HN2_10.out hg11 HL.out)
     clear hp11 hg11 HF10 HR10 HS10 HN2_10
     go_wp2_with fail
     unfold ruleS at HT
     try dsimp only at HT
     have HTA : Hid ((stepsP ((q2).1.length + 1) (q2)).1 = (stepsP (mS (q2)) (q2)).1 ∧ (stepsP ((q2).1.length + 1) (q2)).2 = (stepsP (mS (q2)) (q2)).2) := by
      rw [steps_fuel ((q2).1.length + 1) (mS (q2)) (q2) HF11.out.par.good (mS_le _) (Nat.le_refl _)]
      exact ⟨rfl, rfl⟩
     generalize (stepsP ((q2).1.length + 1) (q2)).1 = T1 at HT HTA
     generalize (stepsP ((q2).1.length + 1) (q2)).2 = T2 at HT HTA
     have hm4 : mS (q2) ≤ 100001 := Nat.le_trans (mS_le _) (Nat.add_le_add_right HF11.out.par.len 1)
     generalize q2 = sL at HTA hm4 HF11
     go_loopg [] (mS sL) (fun gg wr => ∃ (acc : List SStep) (s2 : PS) (A : Option Addr) (c : Nat), mS s2 ≤ gg ∧ acc.length + mS s2 ≤ mS sL ∧ Aside0 (acc ++ (stepsP (mS s2) s2).1 = T1 ∧ (stepsP (mS s2) s2).2 = T2) ∧
      Aside0 (Kd.R k62 62 wr w.heap.size (fun _ => True) (.slice A acc.length c) acc) ∧ Aside0 (Fly w g wr s2) ∧ Aside0 (wr.heap[w.heap.size]? = some (.cells RUz 49 (0, 0))) ∧ Aside0 (wr.heap[S]? = some (.cells #[.string a, .slice none 0 0, .slice A2 n2.length c2, .slice none 0 0, .slice A acc.length c] 49 (0, 0))) ∧ Aside0 (RS wr w.heap.size (.slice A2 n2.length c2) n2))
     case atStart => exact ⟨[], sL, none, 0, Nat.le_refl _, by simp, ⟨by rw [List.nil_append]; exact ⟨HTA.out.1.symm, HTA.out.2.symm⟩⟩, ⟨Kd.R_nil _ _ _ _ _⟩, ⟨HF11.out⟩, ⟨HR11.out⟩, ⟨HS11.out⟩, ⟨HN2_11.out⟩⟩
     case round =>
      obtain ⟨acc, s2, A, c, hgk, hal, HK, HA7, HF7, HR7, HS7, HN2_7⟩ := hrel
      have hO := ok_calls g s2 wr HF7.out.par.has
      have hIs := is_calls g 3 brace s2 wr HF7.out.par.has HF7.out.par.good.ne
      by_cases hb : s2.2 < 0
      · have hbd : decide (s2.2 < 0) = true := by simpa using hb
        rw [hbd] at hO
        by_cases hk : atP 3 brace s2 = false
        · have hib : isP 3 brace s2 = false := by unfold isP; rw [hk]; simp
          rw [hib] at hIs
          have hN := fun W hW => step_calls g s2 W hW
          have hmn := mS_step HF7.out.par.good hb
          have HKn : Hid (((acc ++ [(stepP s2).1]) ++ (stepsP (mS (stepP s2).2) (stepP s2).2).1 = T1 ∧ (stepsP (mS (stepP s2).2) (stepP s2).2).2 = T2)) := by
           have hK := HK.out
           obtain ⟨n, hn⟩ : ∃ n, mS s2 = n + 1 := ⟨mS s2 - 1, by omega⟩
           rw [hn, stepsP, if_pos ⟨hb, hk⟩, steps_fuel n (mS (stepP s2).2) (stepP s2).2 (inv_good.step HF7.out.par.good) (by omega) (Nat.le_refl _)] at hK
           exact ⟨by rw [← hK.1]; simp, hK.2⟩
          generalize (stepP s2).1 = x at HKn hN
          generalize (stepP s2).2 = s3 at HKn hN hmn
          have hld : wr.cell? ⟨S, 4, none⟩ = some (.slice A acc.length c) := (blk_cell HS7.out 4).trans rfl
          have hal2 : acc.length ≤ 200000 := by omega
          clear hbd hb hk hib
          go_wp2_with (first | (go_at_call 51; refine hO.mono ?_; rintro e w' ⟨rfl, rfl⟩) | (go_at_call 85; refine hIs.mono ?_; rintro e w' ⟨rfl, rfl⟩))
          have HFd := Lib.hid (HF7.out.below (W1 := wr.drew) ⟨rfl, rfl, rfl, Nat.le_refl _, fun _ _ => rfl⟩)
          have HAd : Hid (Kd.R k62 62 wr.drew w.heap.size (fun _ => True) (.slice A acc.length c) acc) := Kd.R_below HA7.out ⟨rfl, rfl, rfl, Nat.le_refl _, fun _ _ => rfl⟩
          have HN2_d : Hid (RS wr.drew w.heap.size (.slice A2 n2.length c2) n2) := Kd.R_below HN2_7.out ⟨rfl, rfl, rfl, Nat.le_refl _, fun _ _ => rfl⟩
          have HRd := Lib.hid (blk_drew HR7.out)
          have HSd := Lib.hid (blk_drew HS7.out)
          clear hO hIs
          go_region_law (first
           | (refine Kd.R_append_step k62 (w0 := w8) w.heap.size (by rfl) (.tmp 34) (.tmp 37) 47 62 (.agg #[.string ⟨#[]⟩, .int .i64 0, .slice none 0 0, .slice none 0 0, .int .i64 0]) 80 rfl Tryz.underlying47 info62 rfl (by decide) (by decide) (.slice A acc.length c) acc x [.string x.f0, .int .i64 x.f1, .slice AX x.f2.length cX, .slice AY x.f3.length cY, .int .i64 x.f4] (fun _ => True) (fun k_ => True ∧ some k_ ≠ (Value.slice A acc.length c).ownBlock) (by rfl) (by rfl) (k62_mkM _ _ _ x HX8.out HY8.out) (fun _ hk => hk) (fun _ _ => trivial) HA8.out (Below.refl _ _) HF8.out.grown.size ?aL ?_; (case aL => omega); intro v1 w9 ho hb hg hat; obtain ⟨AN, cN, rfl, _, _⟩ := Kd.R_reads ho; have HA9 := Lib.hid ho; have HF9 := Lib.hid (HF8.out.row (Kd.R_own HA8.out).choose_spec (by decide) (by decide) (Nat.le_refl _) hb hg); have HR9 := Lib.hid (blk_grown HR8.out hg (Kd.R_ne HA8.out HR8.out (by decide))); have HS9 := Lib.hid (blk_grown HS8.out hg (Kd.R_ne HA8.out HS8.out (by decide))); have HN2_9 := Lib.hid (rs_other HN2_8.out HA8.out (by decide) hg); have hst : w9.cell? ⟨S, 4, none⟩ = some (.slice A acc.length c) := (blk_cell HS9.out 4).trans rfl; have hfr : w9.frozen? ⟨S, 4, none⟩ = false := blk_frozen HS9.out 4; clear ho hb hg hat)
           | (go_simp; go_at_call 86; refine (hN _ HFd.out.par).mono ?_; rintro e w8 ⟨vx, vy, rfl, hx, hy, hp8, hg8⟩; obtain ⟨AX, cX, rfl, _, _⟩ := Kd.R_reads hx; obtain ⟨AY, cY, rfl, _, _⟩ := Kd.R_reads hy; have HX8 := Lib.hid (Kd.R_lower (Kd.R_new hx (Kd.R_own HAd.out).choose_spec) HFd.out.grown.size); have HY8 := Lib.hid (Kd.R_lower (Kd.R_new hy (Kd.R_own HAd.out).choose_spec) HFd.out.grown.size); have HF8 := Lib.hid (HFd.out.call hp8 hg8); have HR8 := Lib.hid (HFd.out.keeps (Nat.le_refl _) HRd.out hg8); have HS8 := Lib.hid (HFd.out.keeps (Nat.le_of_lt hS) HSd.out hg8); have HA8 := Lib.hid (row_keep HAd.out hg8 HL.out); have HN2_8 := Lib.hid (row_keep HN2_d.out hg8 HL.out); have hl8 : w8.cell? ⟨S, 4, none⟩ = some (.slice A acc.length c) := (blk_cell HS8.out 4).trans rfl; have hl8a : ∀ ob : Obj, (w8.alloc ob).cell? ⟨S, 4, none⟩ = some (.slice A acc.length c) := fun ob => (blk_cell (blk_alloc HS8.out ob) 4).trans rfl; clear hx hy hp8 hg8))
          all_goals
           go_wp2
           go_roundg (mS s3)
           case measure => omega
           case rel =>
            have hlen : acc.length + 1 = (acc ++ [x]).length := by simp
            simp only [hlen]
            refine ⟨acc ++ [x], s3, AN, cN, Nat.le_refl _, ?_, ⟨HKn.out⟩, ⟨Kd.R_set HA9.out HS9.out (by decide) 4 _⟩, ⟨HF9.out.set (Nat.le_of_lt hS) HS9.out (by decide) (by decide) 4 _⟩, ⟨blk_far HR9.out (p := ⟨S, 4, none⟩) (Nat.ne_of_lt hS) _⟩, ⟨?_⟩, ⟨Kd.R_set HN2_9.out HS9.out (by decide) 4 _⟩⟩
            · rw [List.length_append, List.length_singleton]; omega
            · exact blk_put HS9.out 4 _ rfl
        · have hib : isP 3 brace s2 = true := by
           unfold isP
           rw [hbd]
           simp at hk
           rw [hk]
           rfl
          rw [hib] at hIs
          have HKn : acc = T1 ∧ s2 = T2 := by
           have hK := HK.out
           have h0 : stepsP (mS s2) s2 = ([], s2) := by
            generalize mS s2 = n
            cases n with
            | zero => rfl
            | succ n => unfold stepsP; rw [if_neg (fun h => hk h.2)]
           rw [h0, List.append_nil] at hK
           exact hK
          obtain ⟨rfl, rfl⟩ := HKn
          clear hbd hb hk hib HK
          go_wp2_with (first | (go_at_call 51; refine hO.mono ?_; rintro e w' ⟨rfl, rfl⟩) | (go_at_call 85; refine hIs.mono ?_; rintro e w' ⟨rfl, rfl⟩))
          clear hO hIs
          have HN4_7 := HA7
          refine (must_par g 3 (by decide) brace s2 wr HF7.out.par).mono ?_
          rintro e w8 ⟨rfl, hp8, hg8⟩
          have HF8 := Lib.hid (HF7.out.call hp8 hg8)
          have HR8 := Lib.hid (HF7.out.keeps (Nat.le_refl _) HR7.out hg8)
          have HS8 := Lib.hid (HF7.out.keeps (Nat.le_of_lt hS) HS7.out hg8)
          have HN2_8 := Lib.hid (row_keep HN2_7.out hg8 HL.out)
          have HN4_8 := Lib.hid (row_keep HN4_7.out hg8 HL.out)
          clear hp8 hg8 HF7 HR7 HS7 HN2_7 HN4_7
          have hSe := HS8.out
          have k0 : w8.cell? ⟨S, 0, none⟩ = some (.string a) := (blk_cell hSe 0).trans rfl
          have k1 : w8.cell? ⟨S, 1, none⟩ = some (.slice none 0 0) := (blk_cell hSe 1).trans rfl
          have k2 : w8.cell? ⟨S, 2, none⟩ = some (.slice A2 n2.length c2) := (blk_cell hSe 2).trans rfl
          have k3 : w8.cell? ⟨S, 3, none⟩ = some (.slice none 0 0) := (blk_cell hSe 3).trans rfl
          have k4 : w8.cell? ⟨S, 4, none⟩ = some (.slice A acc.length c) := (blk_cell hSe 4).trans rfl
          have hRe := HR8.out
          have r0 : w8.cell? ⟨w.heap.size, 0, none⟩ = some (.string ⟨#[]⟩) := (blk_cell hRe 0).trans rfl
          have z0 := blk_frozen hRe 0
          have r1 : w8.cell? ⟨w.heap.size, 1, none⟩ = some (.slice none 0 0) := (blk_cell hRe 1).trans rfl
          have z1 := blk_frozen hRe 1
          have r2 : w8.cell? ⟨w.heap.size, 2, none⟩ = some (.slice none 0 0) := (blk_cell hRe 2).trans rfl
          have z2 := blk_frozen hRe 2
          have r3 : w8.cell? ⟨w.heap.size, 3, none⟩ = some (.slice none 0 0) := (blk_cell hRe 3).trans rfl
          have z3 := blk_frozen hRe 3
          have r4 : w8.cell? ⟨w.heap.size, 4, none⟩ = some (.slice none 0 0) := (blk_cell hRe 4).trans rfl
          have z4 := blk_frozen hRe 4
          clear hSe hRe
          go_wp2
          have hs := set5_blk (.string a) (.slice none 0 0) (.slice A2 n2.length c2) (.slice none 0 0) (.slice A acc.length c) HR8.out
          have hF := HF8.out.set5 (Nat.le_refl _) (.string a) (.slice none 0 0) (.slice A2 n2.length c2) (.slice none 0 0) (.slice A acc.length c) HR8.out (by decide) (by decide)
          have hA := RS.set5 (Kd.R_nil _ _ _ _ _ : RS w8 w.heap.size (.slice none 0 0) []) (.string a) (.slice none 0 0) (.slice A2 n2.length c2) (.slice none 0 0) (.slice A acc.length c) HR8.out (by decide)
          have hB := RS.set5 HN2_8.out (.string a) (.slice none 0 0) (.slice A2 n2.length c2) (.slice none 0 0) (.slice A acc.length c) HR8.out (by decide)
          have hC := RS.set5 (Kd.R_nil _ _ _ _ _ : RS w8 w.heap.size (.slice none 0 0) []) (.string a) (.slice none 0 0) (.slice A2 n2.length c2) (.slice none 0 0) (.slice A acc.length c) HR8.out (by decide)
          have hD := R_set5 HN4_8.out (.string a) (.slice none 0 0) (.slice A2 n2.length c2) (.slice none 0 0) (.slice A acc.length c) HR8.out (by decide)
          clear k0 k1 k2 k3 k4 r0 r1 r2 r3 r4 z0 z1 z2 z3 z4
          unfold set5 at hs hF hA hB hC hD
          generalize (((((w8.setCell ⟨w.heap.size, 0, none⟩ (.string a)).setCell ⟨w.heap.size, 1, none⟩ (.slice none 0 0)).setCell ⟨w.heap.size, 2, none⟩ (.slice A2 n2.length c2)).setCell ⟨w.heap.size, 3, none⟩ (.slice none 0 0)).setCell ⟨w.heap.size, 4, none⟩ (.slice A acc.length c)) = wE at hs hF hA hB hC hD ⊢
          have g0 := (blk_cell hs 0).trans rfl
          have g1 := (blk_cell hs 1).trans rfl
          have g2 := (blk_cell hs 2).trans rfl
          have g3 := (blk_cell hs 3).trans rfl
          have g4 := (blk_cell hs 4).trans rfl
          exact bodyPost_ret (v := .agg #[.string a, .slice none 0 0, .slice A2 n2.length c2, .slice none 0 0, .slice A acc.length c]) (by simp [results, Tryz.results52, go_sem, g0, g1, g2, g3, g4]) rfl (by
           rw [HT.out]
           exact ⟨_, _, _, _, rfl, hA, hB, hC, hD, hF.par, hF.grown⟩)
      · have hbd : decide (s2.2 < 0) = false := by simpa using hb
        rw [hbd] at hO
        have HKn : acc = T1 ∧ s2 = T2 := by
         have hK := HK.out
         have h0 : stepsP (mS s2) s2 = ([], s2) := by
          generalize mS s2 = n
          cases n with
          | zero => rfl
          | succ n => unfold stepsP; rw [if_neg (fun h => hb h.1)]
         rw [h0, List.append_nil] at hK
         exact hK
        obtain ⟨rfl, rfl⟩ := HKn
        clear hbd hb HK hIs
        go_wp2_with (go_at_call 51; refine hO.mono ?_; rintro e w' ⟨rfl, rfl⟩)
        clear hO
        have HN4_7 := HA7
        refine (must_par g 3 (by decide) brace s2 wr HF7.out.par).mono ?_
        rintro e w8 ⟨rfl, hp8, hg8⟩
        have HF8 := Lib.hid (HF7.out.call hp8 hg8)
        have HR8 := Lib.hid (HF7.out.keeps (Nat.le_refl _) HR7.out hg8)
        have HS8 := Lib.hid (HF7.out.keeps (Nat.le_of_lt hS) HS7.out hg8)
        have HN2_8 := Lib.hid (row_keep HN2_7.out hg8 HL.out)
        have HN4_8 := Lib.hid (row_keep HN4_7.out hg8 HL.out)
        clear hp8 hg8 HF7 HR7 HS7 HN2_7 HN4_7
        have hSe := HS8.out
        have k0 : w8.cell? ⟨S, 0, none⟩ = some (.string a) := (blk_cell hSe 0).trans rfl
        have k1 : w8.cell? ⟨S, 1, none⟩ = some (.slice none 0 0) := (blk_cell hSe 1).trans rfl
        have k2 : w8.cell? ⟨S, 2, none⟩ = some (.slice A2 n2.length c2) := (blk_cell hSe 2).trans rfl
        have k3 : w8.cell? ⟨S, 3, none⟩ = some (.slice none 0 0) := (blk_cell hSe 3).trans rfl
        have k4 : w8.cell? ⟨S, 4, none⟩ = some (.slice A acc.length c) := (blk_cell hSe 4).trans rfl
        have hRe := HR8.out
        have r0 : w8.cell? ⟨w.heap.size, 0, none⟩ = some (.string ⟨#[]⟩) := (blk_cell hRe 0).trans rfl
        have z0 := blk_frozen hRe 0
        have r1 : w8.cell? ⟨w.heap.size, 1, none⟩ = some (.slice none 0 0) := (blk_cell hRe 1).trans rfl
        have z1 := blk_frozen hRe 1
        have r2 : w8.cell? ⟨w.heap.size, 2, none⟩ = some (.slice none 0 0) := (blk_cell hRe 2).trans rfl
        have z2 := blk_frozen hRe 2
        have r3 : w8.cell? ⟨w.heap.size, 3, none⟩ = some (.slice none 0 0) := (blk_cell hRe 3).trans rfl
        have z3 := blk_frozen hRe 3
        have r4 : w8.cell? ⟨w.heap.size, 4, none⟩ = some (.slice none 0 0) := (blk_cell hRe 4).trans rfl
        have z4 := blk_frozen hRe 4
        clear hSe hRe
        go_wp2
        have hs := set5_blk (.string a) (.slice none 0 0) (.slice A2 n2.length c2) (.slice none 0 0) (.slice A acc.length c) HR8.out
        have hF := HF8.out.set5 (Nat.le_refl _) (.string a) (.slice none 0 0) (.slice A2 n2.length c2) (.slice none 0 0) (.slice A acc.length c) HR8.out (by decide) (by decide)
        have hA := RS.set5 (Kd.R_nil _ _ _ _ _ : RS w8 w.heap.size (.slice none 0 0) []) (.string a) (.slice none 0 0) (.slice A2 n2.length c2) (.slice none 0 0) (.slice A acc.length c) HR8.out (by decide)
        have hB := RS.set5 HN2_8.out (.string a) (.slice none 0 0) (.slice A2 n2.length c2) (.slice none 0 0) (.slice A acc.length c) HR8.out (by decide)
        have hC := RS.set5 (Kd.R_nil _ _ _ _ _ : RS w8 w.heap.size (.slice none 0 0) []) (.string a) (.slice none 0 0) (.slice A2 n2.length c2) (.slice none 0 0) (.slice A acc.length c) HR8.out (by decide)
        have hD := R_set5 HN4_8.out (.string a) (.slice none 0 0) (.slice A2 n2.length c2) (.slice none 0 0) (.slice A acc.length c) HR8.out (by decide)
        clear k0 k1 k2 k3 k4 r0 r1 r2 r3 r4 z0 z1 z2 z3 z4
        unfold set5 at hs hF hA hB hC hD
        generalize (((((w8.setCell ⟨w.heap.size, 0, none⟩ (.string a)).setCell ⟨w.heap.size, 1, none⟩ (.slice none 0 0)).setCell ⟨w.heap.size, 2, none⟩ (.slice A2 n2.length c2)).setCell ⟨w.heap.size, 3, none⟩ (.slice none 0 0)).setCell ⟨w.heap.size, 4, none⟩ (.slice A acc.length c)) = wE at hs hF hA hB hC hD ⊢
        have g0 := (blk_cell hs 0).trans rfl
        have g1 := (blk_cell hs 1).trans rfl
        have g2 := (blk_cell hs 2).trans rfl
        have g3 := (blk_cell hs 3).trans rfl
        have g4 := (blk_cell hs 4).trans rfl
        exact bodyPost_ret (v := .agg #[.string a, .slice none 0 0, .slice A2 n2.length c2, .slice none 0 0, .slice A acc.length c]) (by simp [results, Tryz.results52, go_sem, g0, g1, g2, g3, g4]) rfl (by
         rw [HT.out]
         exact ⟨_, _, _, _, rfl, hA, hB, hC, hD, hF.par, hF.grown⟩)

end Go.Proofs.YthagibkmfgodgaaGreatDoor.X

namespace Go.Proofs.YthagibkmfgodgaaGreatDoor.X
open Go.RowKit Go.Maps Go.Proofs.YthagibkmfgodgaaGreatDoorW.PrintWords Go.Proofs.YthagibkmfgodgaaGreatDoorW.PrintMore Go.Proofs.YthagibkmfgodgaaGreatDoorW.PrintLast

def ruleSR (a : ByteArray) (i o f : List ByteArray) (s : PS) : SRule × PS := (⟨a, i, o, f, (stepsR (s.1.length + 1) s).1⟩, mustP 3 brace (stepsR (s.1.length + 1) s).2)
def ruleFR (a : ByteArray) (i o : List ByteArray) (s : PS) : SRule × PS := ruleSR a i o (ifP wAfter s).1 (ifP wAfter s).2
def ruleOR (a : ByteArray) (i : List ByteArray) (s : PS) : SRule × PS := ruleFR a i (okP (mustP 1 wOut s)).1 (okP (mustP 1 wOut s)).2
def ruleIR (a : ByteArray) (s : PS) : SRule × PS := ruleOR a (ifP wIn s).1 (ifP wIn s).2
theorem good_stepR {s : PS} (h : GoodW s.1) : GoodW (stepR s).2.1 := by rw [(step_agree s h).1]; exact inv_good.step h
theorem mS_stepR {s : PS} (hg : GoodW s.1) (hs : s.2 < 0) : mS (stepR s).2 < mS s := by rw [(step_agree s hg).1]; exact mS_step hg hs
theorem stepsR_fuel : ∀ (n m : Nat) (s : PS), GoodW s.1 → mS s ≤ n → mS s ≤ m → stepsR n s = stepsR m s
 | 0, 0, _, _, _, _ => rfl
 | 0, m + 1, s, hg, h, _ => by
  unfold stepsR
  rw [if_neg (fun hc => by have := List.length_pos_iff.2 hg.ne; unfold mS at h; omega)]
 | n + 1, 0, s, hg, _, h => by
  unfold stepsR
  rw [if_neg (fun hc => by have := List.length_pos_iff.2 hg.ne; unfold mS at h; omega)]
 | n + 1, m + 1, s, hg, h1, h2 => by
  unfold stepsR
  by_cases hc : s.2 < 0 ∧ atP 3 brace s = false
  · rw [if_pos hc, if_pos hc]
    have := mS_stepR hg hc.1
    rw [stepsR_fuel n m _ (good_stepR hg) (by omega) (by omega)]
  · rw [if_neg hc, if_neg hc]
theorem stuck_ok {s : PS} (h : 0 ≤ s.2) : okP s = ([], s) := by unfold okP; rw [if_neg (Int.not_lt.2 h)]
set_option maxHeartbeats 8000000 in
set_option maxRecDepth 100000 in
theorem qrule_calls (g : Nat) (s : PS) (w : World) (h : PAQ w g s) :
 Calls Tryz.prog 74 #[.pointer (some ⟨g, 0, none⟩)] w fun e w' => ∃ v1 v2 v3 v4, e = .returned (.agg #[.string (ruleR s).1.f0, v1, v2, v3, v4]) ∧
  RS w' w.heap.size v1 (ruleR s).1.f1 ∧ RS w' w.heap.size v2 (ruleR s).1.f2 ∧ RS w' w.heap.size v3 (ruleR s).1.f3 ∧ Kd.R k62 62 w' w.heap.size (fun _ => True) v4 (ruleR s).1.f4 ∧ PAQ w' g (ruleR s).2 ∧ w.grownBy w' (some g) := by
 have HF := Lib.hid ((FlyQ.start h).alloc (.cells RUz 49))
 have HL := Lib.hid h.has.lt
 have HT : Hid (ruleR s = ruleIR (nameP (mustP 1 wRule s)).1 (mustP 3 wOpen (nameP (mustP 1 wRule s)).2)) := rfl
 have HR : Hid ((w.alloc (.cells RUz 49)).heap[w.heap.size]? = some (.cells RUz 49 (0, 0))) := blk_new w _
 clear h
 go_enter Tryz.func74, Tryz.ntmps74
 go_wp2_with fail
 refine (qwant_par g 1 (by decide) wRule s _ HF.out.par).mono ?_
 rintro e w1 ⟨rfl, hp, hg⟩
 generalize mustP 1 wRule s = s1 at HT hp
 have HR := Lib.hid (HF.out.keeps (Nat.le_refl _) HR.out hg)
 have HF := Lib.hid (HF.out.call hp hg)
 clear hp hg
 go_wp2_with fail
 refine (qname_calls g s1 w1 HF.out.par).mono ?_
 rintro e w2 ⟨rfl, hp, hg⟩
 generalize (nameP s1).1 = a at HT ⊢
 generalize (nameP s1).2 = s2 at HT hp
 have HR := Lib.hid (HF.out.keeps (Nat.le_refl _) HR.out hg)
 have HF := Lib.hid (HF.out.call hp hg)
 have hS : w.heap.size < w2.heap.size := blk_lt HR.out
 clear hp hg
 have HF := Lib.hid (HF.out.alloc (.cells #[.string a, .slice none 0 0, .slice none 0 0, .slice none 0 0, .slice none 0 0] 49))
 have HR := Lib.hid (blk_alloc HR.out (.cells #[.string a, .slice none 0 0, .slice none 0 0, .slice none 0 0, .slice none 0 0] 49))
 have HS := Lib.hid (blk_new w2 (.cells #[.string a, .slice none 0 0, .slice none 0 0, .slice none 0 0, .slice none 0 0] 49))
 go_wp2_with fail
 generalize w2.alloc (.cells #[.string a, .slice none 0 0, .slice none 0 0, .slice none 0 0, .slice none 0 0] 49) = w3 at HF HR HS ⊢
 generalize w2.heap.size = S at HS hS ⊢
 refine (qwant_par g 3 (by decide) wOpen s2 w3 HF.out.par).mono ?_
 rintro e w6 ⟨rfl, hp, hg⟩
 generalize mustP 3 wOpen s2 = s4 at HT hp
 have HR := Lib.hid (HF.out.keeps (Nat.le_refl _) HR.out hg)
 have HS := Lib.hid (HF.out.keeps (Nat.le_of_lt hS) HS.out hg)
 have HF := Lib.hid (HF.out.call hp hg)
 clear hp hg
 go_upto_region 4 with fail
 go_cut [16] (fun sx wx => sx = .bool (isP 1 wIn s4) ∧ Aside0 (FlyQ w g wx s4) ∧ Aside0 (wx.heap[w.heap.size]? = some (.cells RUz 49 (0, 0))) ∧ Aside0 (wx.heap[S]? = some (.cells #[.string a, .slice none 0 0, .slice none 0 0, .slice none 0 0, .slice none 0 0] 49 (0, 0))))
 case first =>
  have hO := qok_calls g s4 w6 HF.out.par.has
  have hI := qis_calls g 1 wIn s4 w6 HF.out.par.has HF.out.par.good.ne
  by_cases hb : (s4).2 < 0
  · have hd : decide ((s4).2 < 0) = true := by simpa using hb
    rw [hd] at hO
    have hip : isP 1 wIn s4 = atP 1 wIn s4 := by unfold isP; rw [hd]; rfl
    have HP := Lib.hid hip
    generalize atP 1 wIn s4 = b at hI HP
    clear hb hd hip
    go_wp2_with fail
    refine hO.mono ?_
    rintro e w' ⟨rfl, rfl⟩
    clear hO
    go_wp2_with fail
    refine hI.mono ?_
    rintro e w7 ⟨rfl, hb7⟩
    clear hI
    have HF := Lib.hid (HF.out.below hb7)
    have HR := Lib.hid (blk_below HR.out hb7)
    have HS := Lib.hid (blk_below HS.out hb7)
    clear hb7
    go_wp2_with fail
    go_meet
    exact ⟨by rw [HP.out], ⟨HF.out⟩, ⟨HR.out⟩, ⟨HS.out⟩⟩
  · have hd : decide ((s4).2 < 0) = false := by simpa using hb
    rw [hd] at hO
    have hip : isP 1 wIn s4 = false := by unfold isP; rw [hd]; rfl
    have HP := Lib.hid hip
    clear hb hd hip hI
    go_wp2_with fail
    refine hO.mono ?_
    rintro e w' ⟨rfl, rfl⟩
    clear hO
    go_wp2_with fail
    go_meet
    exact ⟨by rw [HP.out], ⟨HF.out⟩, ⟨HR.out⟩, ⟨HS.out⟩⟩
 case rest =>
  obtain ⟨rfl, HF, HR, HS⟩ := hcut
  go_upto_if 16 with fail
  go_cut [] (fun wx => ∃ (n1 : List ByteArray) (q1 : PS) (A1 : Option Addr) (c1 : Nat), Aside0 (ifP wIn s4 = (n1, q1)) ∧ Aside0 (FlyQ w g wx q1) ∧ Aside0 (wx.heap[w.heap.size]? = some (.cells RUz 49 (0, 0))) ∧ Aside0 (wx.heap[S]? = some (.cells #[.string a, .slice A1 n1.length c1, .slice none 0 0, .slice none 0 0, .slice none 0 0] 49 (0, 0))) ∧ Aside0 (RS wx w.heap.size (.slice A1 n1.length c1) n1))
  case first =>
   by_cases hip : isP 1 wIn s4 = true
   · have HBn := Lib.hid (isP_at hip).1
     have HK4 : Hid ((headW (s4).1).f0 ≠ 4) := by show _ ≠ _; rw [(isP_at hip).2.1]; decide
     have HI : Hid (ifP wIn s4 = ((listP ((s4).1.tail, (s4).2)).1, (listP ((s4).1.tail, (s4).2)).2)) := by show _ = _; unfold ifP; rw [if_pos hip]
     rw [hip]
     clear hip
     obtain ⟨b, n_, c_, kk, cur, hq⟩ := HF.out.par.has
     have h1 : wc.cell? ⟨g, 1, none⟩ = some (.int .i64 (kk : Nat)) := (blk_cell hq.own 1).trans rfl
     have hf1 := blk_frozen hq.own 1
     have hkb : (kk : Int) ≤ 200000 := by have := hq.at_; have := hq.big; omega
     have HA := Lib.hid (HF.out.par.adv HBn.out HK4.out hq)
     clear hq HBn HK4
     go_wp2_with fail
     clear h1 hf1
     obtain ⟨hp8, hg8⟩ := HA.out
     clear HA
     generalize wc.setCell ⟨g, 1, none⟩ (.int .i64 ((kk : Int) + 1)) = w8 at hp8 hg8 ⊢
     have HR := Lib.hid (HF.out.keeps (Nat.le_refl _) HR.out hg8)
     have HS := Lib.hid (HF.out.keeps (Nat.le_of_lt hS) HS.out hg8)
     have HF := Lib.hid (HF.out.call hp8 hg8)
     clear hp8 hg8
     refine (qlist_calls g ((s4).1.tail, (s4).2) _ HF.out.par).mono ?_
     rintro e w9 ⟨v, rfl, hr, hp, hg⟩
     generalize (listP ((s4).1.tail, (s4).2)).1 = n1 at HI hr
     generalize (listP ((s4).1.tail, (s4).2)).2 = q1 at HI hp
     have hr := Kd.R_lower hr HF.out.grown.size
     obtain ⟨A1, c1, rfl, _, _⟩ := Kd.R_reads hr
     have HN1 := Lib.hid hr
     clear hr
     have HR := Lib.hid (HF.out.keeps (Nat.le_refl _) HR.out hg)
     have HS := Lib.hid (HF.out.keeps (Nat.le_of_lt hS) HS.out hg)
     have HF := Lib.hid (HF.out.call hp hg)
     clear hp hg
     have cx : w9.cell? ⟨S, 1, none⟩ = some (.slice none 0 0) := (blk_cell HS.out 1).trans rfl
     have fx := blk_frozen HS.out 1
     go_wp2_with fail
     clear cx fx
     have HF := Lib.hid (HF.out.set (Nat.le_of_lt hS) HS.out (by decide) (by decide) 1 (.slice A1 n1.length c1))
     have HR := Lib.hid (blk_far HR.out (p := ⟨S, 1, none⟩) (Nat.ne_of_lt hS) (.slice A1 n1.length c1))
     have HN1 := Lib.hid (Kd.R_set HN1.out HS.out (by decide) 1 (.slice A1 n1.length c1))
     have HS : Hid ((w9.setCell ⟨S, 1, none⟩ (.slice A1 n1.length c1)).heap[S]? = some (.cells #[.string a, .slice A1 n1.length c1, .slice none 0 0, .slice none 0 0, .slice none 0 0] 49 (0, 0))) := blk_put HS.out 1 _ rfl
     go_wp2_with fail
     go_meet
     exact ⟨n1, q1, A1, c1, ⟨HI.out⟩, ⟨HF.out⟩, ⟨HR.out⟩, ⟨HS.out⟩, ⟨HN1.out⟩⟩
   · have hib : isP 1 wIn s4 = false := by simpa using hip
     have HI : Hid (ifP wIn s4 = ([], s4)) := by show _ = _; unfold ifP; rw [if_neg hip]
     rw [hib]
     clear hip hib
     go_wp2_with fail
     go_meet
     exact ⟨[], s4, none, 0, ⟨HI.out⟩, ⟨HF.out⟩, ⟨HR.out⟩, ⟨HS.out⟩, ⟨Kd.R_nil _ _ _ _ _⟩⟩
  case rest =>
   obtain ⟨n1, q1, A1, c1, HI, HF, HR, HS, HN1⟩ := hcut
   have HT : Hid (ruleR s = ruleFR a n1 (okP (mustP 1 wOut q1)).1 (okP (mustP 1 wOut q1)).2) := by show _ = _; rw [HT.out]; unfold ruleIR; rw [HI.out]; rfl
   go_wp2_with fail
   refine (qwant_par g 1 (by decide) wOut q1 wc HF.out.par).mono ?_
   rintro e w6 ⟨rfl, hp, hg⟩
   generalize mustP 1 wOut q1 = s5 at HT hp
   have HR := Lib.hid (HF.out.keeps (Nat.le_refl _) HR.out hg)
   have HS := Lib.hid (HF.out.keeps (Nat.le_of_lt hS) HS.out hg)
   have HN1 := Lib.hid (row_keep HN1.out hg HL.out)
   have HF := Lib.hid (HF.out.call hp hg)
   clear hp hg
   go_upto_region 8 with fail
   go_cut [30] (fun sx wx => sx = .bool (decide (s5.2 < 0)) ∧ wx = w6)
   case first =>
    have hO := qok_calls g s5 w6 HF.out.par.has
    go_wp2_with fail
    refine hO.mono ?_
    rintro e w' ⟨rfl, rfl⟩
    clear hO
    go_wp2_with fail
    go_meet
    exact ⟨rfl, rfl⟩
   case rest =>
    obtain ⟨rfl, rfl⟩ := hcut
    go_upto_if 30 with fail
    go_cut [] (fun wx => ∃ (n2 : List ByteArray) (q2 : PS) (A2 : Option Addr) (c2 : Nat), Aside0 (okP s5 = (n2, q2)) ∧ Aside0 (FlyQ w g wx q2) ∧ Aside0 (wx.heap[w.heap.size]? = some (.cells RUz 49 (0, 0))) ∧ Aside0 (wx.heap[S]? = some (.cells #[.string a, .slice A1 n1.length c1, .slice A2 n2.length c2, .slice none 0 0, .slice none 0 0] 49 (0, 0))) ∧ Aside0 (RS wx w.heap.size (.slice A1 n1.length c1) n1) ∧ Aside0 (RS wx w.heap.size (.slice A2 n2.length c2) n2))
    case first =>
     by_cases hb : (s5).2 < 0
     · have hd : decide ((s5).2 < 0) = true := by simpa using hb
       rw [hd]
       have HI : Hid (okP s5 = ((listP s5).1, (listP s5).2)) := by show _ = _; unfold okP; rw [if_pos hb]
       clear hb hd
       go_wp2_with fail
       refine (qlist_calls g s5 _ HF.out.par).mono ?_
       rintro e w9 ⟨v, rfl, hr, hp, hg⟩
       generalize (listP s5).1 = n2 at HI hr
       generalize (listP s5).2 = q2 at HI hp
       have hr := Kd.R_lower hr HF.out.grown.size
       obtain ⟨A2, c2, rfl, _, _⟩ := Kd.R_reads hr
       have HN2 := Lib.hid hr
       clear hr
       have HR := Lib.hid (HF.out.keeps (Nat.le_refl _) HR.out hg)
       have HS := Lib.hid (HF.out.keeps (Nat.le_of_lt hS) HS.out hg)
       have HN1 := Lib.hid (row_keep HN1.out hg HL.out)
       have HF := Lib.hid (HF.out.call hp hg)
       clear hp hg
       have cx : w9.cell? ⟨S, 2, none⟩ = some (.slice none 0 0) := (blk_cell HS.out 2).trans rfl
       have fx := blk_frozen HS.out 2
       go_wp2_with fail
       clear cx fx
       have HF := Lib.hid (HF.out.set (Nat.le_of_lt hS) HS.out (by decide) (by decide) 2 (.slice A2 n2.length c2))
       have HR := Lib.hid (blk_far HR.out (p := ⟨S, 2, none⟩) (Nat.ne_of_lt hS) (.slice A2 n2.length c2))
       have HN1 := Lib.hid (Kd.R_set HN1.out HS.out (by decide) 2 (.slice A2 n2.length c2))
       have HN2 := Lib.hid (Kd.R_set HN2.out HS.out (by decide) 2 (.slice A2 n2.length c2))
       have HS : Hid ((w9.setCell ⟨S, 2, none⟩ (.slice A2 n2.length c2)).heap[S]? = some (.cells #[.string a, .slice A1 n1.length c1, .slice A2 n2.length c2, .slice none 0 0, .slice none 0 0] 49 (0, 0))) := blk_put HS.out 2 _ rfl
       go_wp2_with fail
       go_meet
       exact ⟨n2, q2, A2, c2, ⟨HI.out⟩, ⟨HF.out⟩, ⟨HR.out⟩, ⟨HS.out⟩, ⟨HN1.out⟩, ⟨HN2.out⟩⟩
     · have hd : decide ((s5).2 < 0) = false := by simpa using hb
       rw [hd]
       have HI : Hid (okP s5 = ([], s5)) := stuck_ok (Int.not_lt.1 hb)
       clear hb hd
       go_wp2_with fail
       go_meet
       exact ⟨[], s5, none, 0, ⟨HI.out⟩, ⟨HF.out⟩, ⟨HR.out⟩, ⟨HS.out⟩, ⟨HN1.out⟩, ⟨Kd.R_nil _ _ _ _ _⟩⟩
    case rest =>
     obtain ⟨n2, q2, A2, c2, HI, HF, HR, HS, HN1, HN2⟩ := hcut
     have HT : Hid (ruleR s = ruleFR a n1 n2 q2) := by show _ = _; rw [HT.out, HI.out]
     go_upto_region 10 with fail
     go_cut [39] (fun sx wx => sx = .bool (isP 1 wAfter q2) ∧ Aside0 (FlyQ w g wx q2) ∧ Aside0 (wx.heap[w.heap.size]? = some (.cells RUz 49 (0, 0))) ∧ Aside0 (wx.heap[S]? = some (.cells #[.string a, .slice A1 n1.length c1, .slice A2 n2.length c2, .slice none 0 0, .slice none 0 0] 49 (0, 0))) ∧ Aside0 (RS wx w.heap.size (.slice A1 n1.length c1) n1) ∧ Aside0 (RS wx w.heap.size (.slice A2 n2.length c2) n2))
     case first =>
      have hO := qok_calls g q2 wc HF.out.par.has
      have hI := qis_calls g 1 wAfter q2 wc HF.out.par.has HF.out.par.good.ne
      by_cases hb : (q2).2 < 0
      · have hd : decide ((q2).2 < 0) = true := by simpa using hb
        rw [hd] at hO
        have hip : isP 1 wAfter q2 = atP 1 wAfter q2 := by unfold isP; rw [hd]; rfl
        have HP := Lib.hid hip
        generalize atP 1 wAfter q2 = b at hI HP
        clear hb hd hip
        go_wp2_with fail
        refine hO.mono ?_
        rintro e w' ⟨rfl, rfl⟩
        clear hO
        go_wp2_with fail
        refine hI.mono ?_
        rintro e w7 ⟨rfl, hb7⟩
        clear hI
        have HF := Lib.hid (HF.out.below hb7)
        have HR := Lib.hid (blk_below HR.out hb7)
        have HS := Lib.hid (blk_below HS.out hb7)
        have HN1 := Lib.hid (Kd.R_below HN1.out hb7)
        have HN2 := Lib.hid (Kd.R_below HN2.out hb7)
        clear hb7
        go_wp2_with fail
        go_meet
        exact ⟨by rw [HP.out], ⟨HF.out⟩, ⟨HR.out⟩, ⟨HS.out⟩, ⟨HN1.out⟩, ⟨HN2.out⟩⟩
      · have hd : decide ((q2).2 < 0) = false := by simpa using hb
        rw [hd] at hO
        have hip : isP 1 wAfter q2 = false := by unfold isP; rw [hd]; rfl
        have HP := Lib.hid hip
        clear hb hd hip hI
        go_wp2_with fail
        refine hO.mono ?_
        rintro e w' ⟨rfl, rfl⟩
        clear hO
        go_wp2_with fail
        go_meet
        exact ⟨by rw [HP.out], ⟨HF.out⟩, ⟨HR.out⟩, ⟨HS.out⟩, ⟨HN1.out⟩, ⟨HN2.out⟩⟩
     case rest =>
      obtain ⟨rfl, HF, HR, HS, HN1, HN2⟩ := hcut
      go_upto_if 39 with fail
      go_cut [] (fun wx => ∃ (n3 : List ByteArray) (q3 : PS) (A3 : Option Addr) (c3 : Nat), Aside0 (ifP wAfter q2 = (n3, q3)) ∧ Aside0 (FlyQ w g wx q3) ∧ Aside0 (wx.heap[w.heap.size]? = some (.cells RUz 49 (0, 0))) ∧ Aside0 (wx.heap[S]? = some (.cells #[.string a, .slice A1 n1.length c1, .slice A2 n2.length c2, .slice A3 n3.length c3, .slice none 0 0] 49 (0, 0))) ∧ Aside0 (RS wx w.heap.size (.slice A1 n1.length c1) n1) ∧ Aside0 (RS wx w.heap.size (.slice A2 n2.length c2) n2) ∧ Aside0 (RS wx w.heap.size (.slice A3 n3.length c3) n3))
      case first =>
       by_cases hip : isP 1 wAfter q2 = true
       · have HBn := Lib.hid (isP_at hip).1
         have HK4 : Hid ((headW (q2).1).f0 ≠ 4) := by show _ ≠ _; rw [(isP_at hip).2.1]; decide
         have HI : Hid (ifP wAfter q2 = ((listP ((q2).1.tail, (q2).2)).1, (listP ((q2).1.tail, (q2).2)).2)) := by show _ = _; unfold ifP; rw [if_pos hip]
         rw [hip]
         clear hip
         obtain ⟨b, n_, c_, kk, cur, hq⟩ := HF.out.par.has
         have h1 : wc.cell? ⟨g, 1, none⟩ = some (.int .i64 (kk : Nat)) := (blk_cell hq.own 1).trans rfl
         have hf1 := blk_frozen hq.own 1
         have hkb : (kk : Int) ≤ 200000 := by have := hq.at_; have := hq.big; omega
         have HA := Lib.hid (HF.out.par.adv HBn.out HK4.out hq)
         clear hq HBn HK4
         go_wp2_with fail
         clear h1 hf1
         obtain ⟨hp8, hg8⟩ := HA.out
         clear HA
         generalize wc.setCell ⟨g, 1, none⟩ (.int .i64 ((kk : Int) + 1)) = w8 at hp8 hg8 ⊢
         have HR := Lib.hid (HF.out.keeps (Nat.le_refl _) HR.out hg8)
         have HS := Lib.hid (HF.out.keeps (Nat.le_of_lt hS) HS.out hg8)
         have HN1 := Lib.hid (row_keep HN1.out hg8 HL.out)
         have HN2 := Lib.hid (row_keep HN2.out hg8 HL.out)
         have HF := Lib.hid (HF.out.call hp8 hg8)
         clear hp8 hg8
         refine (qlist_calls g ((q2).1.tail, (q2).2) _ HF.out.par).mono ?_
         rintro e w9 ⟨v, rfl, hr, hp, hg⟩
         generalize (listP ((q2).1.tail, (q2).2)).1 = n3 at HI hr
         generalize (listP ((q2).1.tail, (q2).2)).2 = q3 at HI hp
         have hr := Kd.R_lower hr HF.out.grown.size
         obtain ⟨A3, c3, rfl, _, _⟩ := Kd.R_reads hr
         have HN3 := Lib.hid hr
         clear hr
         have HR := Lib.hid (HF.out.keeps (Nat.le_refl _) HR.out hg)
         have HS := Lib.hid (HF.out.keeps (Nat.le_of_lt hS) HS.out hg)
         have HN1 := Lib.hid (row_keep HN1.out hg HL.out)
         have HN2 := Lib.hid (row_keep HN2.out hg HL.out)
         have HF := Lib.hid (HF.out.call hp hg)
         clear hp hg
         have cx : w9.cell? ⟨S, 3, none⟩ = some (.slice none 0 0) := (blk_cell HS.out 3).trans rfl
         have fx := blk_frozen HS.out 3
         go_wp2_with fail
         clear cx fx
         have HF := Lib.hid (HF.out.set (Nat.le_of_lt hS) HS.out (by decide) (by decide) 3 (.slice A3 n3.length c3))
         have HR := Lib.hid (blk_far HR.out (p := ⟨S, 3, none⟩) (Nat.ne_of_lt hS) (.slice A3 n3.length c3))
         have HN1 := Lib.hid (Kd.R_set HN1.out HS.out (by decide) 3 (.slice A3 n3.length c3))
         have HN2 := Lib.hid (Kd.R_set HN2.out HS.out (by decide) 3 (.slice A3 n3.length c3))
         have HN3 := Lib.hid (Kd.R_set HN3.out HS.out (by decide) 3 (.slice A3 n3.length c3))
         have HS : Hid ((w9.setCell ⟨S, 3, none⟩ (.slice A3 n3.length c3)).heap[S]? = some (.cells #[.string a, .slice A1 n1.length c1, .slice A2 n2.length c2, .slice A3 n3.length c3, .slice none 0 0] 49 (0, 0))) := blk_put HS.out 3 _ rfl
         go_wp2_with fail
         go_meet
         exact ⟨n3, q3, A3, c3, ⟨HI.out⟩, ⟨HF.out⟩, ⟨HR.out⟩, ⟨HS.out⟩, ⟨HN1.out⟩, ⟨HN2.out⟩, ⟨HN3.out⟩⟩
       · have hib : isP 1 wAfter q2 = false := by simpa using hip
         have HI : Hid (ifP wAfter q2 = ([], q2)) := by show _ = _; unfold ifP; rw [if_neg hip]
         rw [hib]
         clear hip hib
         go_wp2_with fail
         go_meet
         exact ⟨[], q2, none, 0, ⟨HI.out⟩, ⟨HF.out⟩, ⟨HR.out⟩, ⟨HS.out⟩, ⟨HN1.out⟩, ⟨HN2.out⟩, ⟨Kd.R_nil _ _ _ _ _⟩⟩
      case rest =>
       obtain ⟨n3, q3, A3, c3, HI, HF, HR, HS, HN1, HN2, HN3⟩ := hcut
       have HT : Hid (ruleR s = ruleSR a n1 n2 n3 q3) := by show _ = _; rw [HT.out]; unfold ruleFR; rw [HI.out]
       unfold ruleSR at HT
       try dsimp only at HT
       have HTA : Hid ((stepsR ((q3).1.length + 1) (q3)).1 = (stepsR (mS (q3)) (q3)).1 ∧ (stepsR ((q3).1.length + 1) (q3)).2 = (stepsR (mS (q3)) (q3)).2) := by
        rw [stepsR_fuel ((q3).1.length + 1) (mS (q3)) (q3) HF.out.par.good (mS_le _) (Nat.le_refl _)]
        exact ⟨rfl, rfl⟩
       generalize (stepsR ((q3).1.length + 1) (q3)).1 = T1 at HT HTA
       generalize (stepsR ((q3).1.length + 1) (q3)).2 = T2 at HT HTA
       have hm4 : mS (q3) ≤ 100001 := Nat.le_trans (mS_le _) (Nat.add_le_add_right HF.out.par.len 1)
       generalize q3 = sL at HTA hm4 HF
       go_upto_block 0 with fail
       go_cut [] (fun wx => ∃ (acc : List SStep) (A : Option Addr) (c : Nat), Aside0 (acc = T1) ∧ Aside0 (Kd.R k62 62 wx w.heap.size (fun _ => True) (.slice A acc.length c) acc) ∧ Aside0 (FlyQ w g wx T2) ∧ Aside0 (wx.heap[w.heap.size]? = some (.cells RUz 49 (0, 0))) ∧ Aside0 (wx.heap[S]? = some (.cells #[.string a, .slice A1 n1.length c1, .slice A2 n2.length c2, .slice A3 n3.length c3, .slice A acc.length c] 49 (0, 0))) ∧ Aside0 (RS wx w.heap.size (.slice A1 n1.length c1) n1) ∧ Aside0 (RS wx w.heap.size (.slice A2 n2.length c2) n2) ∧ Aside0 (RS wx w.heap.size (.slice A3 n3.length c3) n3))
       case first =>
        go_wp2_with fail
        go_loopg [] (mS sL) (fun gg wr => ∃ (acc : List SStep) (s2 : PS) (A : Option Addr) (c : Nat), mS s2 ≤ gg ∧ acc.length + mS s2 ≤ mS sL ∧ Aside0 (acc ++ (stepsR (mS s2) s2).1 = T1 ∧ (stepsR (mS s2) s2).2 = T2) ∧
         Aside0 (Kd.R k62 62 wr w.heap.size (fun _ => True) (.slice A acc.length c) acc) ∧ Aside0 (FlyQ w g wr s2) ∧ Aside0 (wr.heap[w.heap.size]? = some (.cells RUz 49 (0, 0))) ∧ Aside0 (wr.heap[S]? = some (.cells #[.string a, .slice A1 n1.length c1, .slice A2 n2.length c2, .slice A3 n3.length c3, .slice A acc.length c] 49 (0, 0))) ∧ Aside0 (RS wr w.heap.size (.slice A1 n1.length c1) n1) ∧ Aside0 (RS wr w.heap.size (.slice A2 n2.length c2) n2) ∧ Aside0 (RS wr w.heap.size (.slice A3 n3.length c3) n3))
        case atStart => exact ⟨[], sL, none, 0, Nat.le_refl _, by simp, ⟨by rw [List.nil_append]; exact ⟨HTA.out.1.symm, HTA.out.2.symm⟩⟩, ⟨Kd.R_nil _ _ _ _ _⟩, ⟨HF.out⟩, ⟨HR.out⟩, ⟨HS.out⟩, ⟨HN1.out⟩, ⟨HN2.out⟩, ⟨HN3.out⟩⟩
        case round =>
         obtain ⟨acc, s2, A, c, hgk, hal, HK, HA7, HF7, HR7, HS7, HN1_7, HN2_7, HN3_7⟩ := hrel
         have hO := qok_calls g s2 wr HF7.out.par.has
         have hIs := qis_calls g 3 brace s2 wr HF7.out.par.has HF7.out.par.good.ne
         by_cases hb : s2.2 < 0
         · have hbd : decide (s2.2 < 0) = true := by simpa using hb
           rw [hbd] at hO
           by_cases hk : atP 3 brace s2 = false
           · have hib : atP 3 brace s2 = false := hk
             rw [hib] at hIs
             have hN := fun W hW => qstep_calls g s2 W hW
             have hmn := mS_stepR HF7.out.par.good hb
             have HKn : Hid (((acc ++ [(stepR s2).1]) ++ (stepsR (mS (stepR s2).2) (stepR s2).2).1 = T1 ∧ (stepsR (mS (stepR s2).2) (stepR s2).2).2 = T2)) := by
              have hK := HK.out
              obtain ⟨n, hn⟩ : ∃ n, mS s2 = n + 1 := ⟨mS s2 - 1, by omega⟩
              rw [hn, stepsR, if_pos ⟨hb, hk⟩, stepsR_fuel n (mS (stepR s2).2) (stepR s2).2 (good_stepR HF7.out.par.good) (by omega) (Nat.le_refl _)] at hK
              exact ⟨by rw [← hK.1]; simp, hK.2⟩
             generalize (stepR s2).1 = x at HKn hN
             generalize (stepR s2).2 = s3 at HKn hN hmn
             have hal2 : acc.length ≤ 200000 := by omega
             clear hbd hb hk hib
             go_wp2_with fail
             refine hO.mono ?_
             rintro e w' ⟨rfl, rfl⟩
             clear hO
             go_wp2_with fail
             refine hIs.mono ?_
             rintro e wr ⟨rfl, hbi⟩
             have HF7 := Lib.hid (HF7.out.below hbi)
             have HA7 := Lib.hid (Kd.R_below HA7.out hbi)
             have HR7 := Lib.hid (blk_below HR7.out hbi)
             have HS7 := Lib.hid (blk_below HS7.out hbi)
             have HN1_7 := Lib.hid (Kd.R_below HN1_7.out hbi)
             have HN2_7 := Lib.hid (Kd.R_below HN2_7.out hbi)
             have HN3_7 := Lib.hid (Kd.R_below HN3_7.out hbi)
             clear hIs hbi
             have hld : wr.cell? ⟨S, 4, none⟩ = some (.slice A acc.length c) := (blk_cell HS7.out 4).trans rfl
             go_wp2_with fail
             have HFd := Lib.hid (HF7.out.below (W1 := wr.drew) ⟨rfl, rfl, rfl, Nat.le_refl _, fun _ _ => rfl⟩)
             have HAd : Hid (Kd.R k62 62 wr.drew w.heap.size (fun _ => True) (.slice A acc.length c) acc) := Kd.R_below HA7.out ⟨rfl, rfl, rfl, Nat.le_refl _, fun _ _ => rfl⟩
             have HN1_d : Hid (RS wr.drew w.heap.size (.slice A1 n1.length c1) n1) := Kd.R_below HN1_7.out ⟨rfl, rfl, rfl, Nat.le_refl _, fun _ _ => rfl⟩
             have HN2_d : Hid (RS wr.drew w.heap.size (.slice A2 n2.length c2) n2) := Kd.R_below HN2_7.out ⟨rfl, rfl, rfl, Nat.le_refl _, fun _ _ => rfl⟩
             have HN3_d : Hid (RS wr.drew w.heap.size (.slice A3 n3.length c3) n3) := Kd.R_below HN3_7.out ⟨rfl, rfl, rfl, Nat.le_refl _, fun _ _ => rfl⟩
             have HRd := Lib.hid (blk_drew HR7.out)
             have HSd := Lib.hid (blk_drew HS7.out)
             go_region_law (first
              | (refine Kd.R_append_step k62 (w0 := w8) w.heap.size (by rfl) (.tmp 58) (.tmp 61) 47 62 (.agg #[.string ⟨#[]⟩, .int .i64 0, .slice none 0 0, .slice none 0 0, .int .i64 0]) 80 rfl Tryz.underlying47 info62 rfl (by decide) (by decide) (.slice A acc.length c) acc x [.string x.f0, .int .i64 x.f1, .slice AX x.f2.length cX, .slice AY x.f3.length cY, .int .i64 x.f4] (fun _ => True) (fun k_ => True ∧ some k_ ≠ (Value.slice A acc.length c).ownBlock) (by rfl) (by rfl) (k62_mkM _ _ _ x HX8.out HY8.out) (fun _ hk => hk) (fun _ _ => trivial) HA8.out (Below.refl _ _) HF8.out.grown.size ?aL ?_; (case aL => omega); intro v1 w9 ho hb hg hat; obtain ⟨AN, cN, rfl, _, _⟩ := Kd.R_reads ho; have HA9 := Lib.hid ho; have HF9 := Lib.hid (HF8.out.row (Kd.R_own HA8.out).choose_spec (by decide) (by decide) (Nat.le_refl _) hb hg); have HR9 := Lib.hid (blk_grown HR8.out hg (Kd.R_ne HA8.out HR8.out (by decide))); have HS9 := Lib.hid (blk_grown HS8.out hg (Kd.R_ne HA8.out HS8.out (by decide))); have HN1_9 := Lib.hid (rs_other HN1_8.out HA8.out (by decide) hg); have HN2_9 := Lib.hid (rs_other HN2_8.out HA8.out (by decide) hg); have HN3_9 := Lib.hid (rs_other HN3_8.out HA8.out (by decide) hg); have hst : w9.cell? ⟨S, 4, none⟩ = some (.slice A acc.length c) := (blk_cell HS9.out 4).trans rfl; have hfr : w9.frozen? ⟨S, 4, none⟩ = false := blk_frozen HS9.out 4; clear ho hb hg hat)
              | (go_simp; go_at_call 121; refine (hN _ HFd.out.par).mono ?_; rintro e w8 ⟨vx, vy, rfl, hx, hy, hp8, hg8⟩; obtain ⟨AX, cX, rfl, _, _⟩ := Kd.R_reads hx; obtain ⟨AY, cY, rfl, _, _⟩ := Kd.R_reads hy; have HX8 := Lib.hid (Kd.R_lower (Kd.R_new hx (Kd.R_own HAd.out).choose_spec) HFd.out.grown.size); have HY8 := Lib.hid (Kd.R_lower (Kd.R_new hy (Kd.R_own HAd.out).choose_spec) HFd.out.grown.size); have HF8 := Lib.hid (HFd.out.call hp8 hg8); have HR8 := Lib.hid (HFd.out.keeps (Nat.le_refl _) HRd.out hg8); have HS8 := Lib.hid (HFd.out.keeps (Nat.le_of_lt hS) HSd.out hg8); have HA8 := Lib.hid (row_keep HAd.out hg8 HL.out); have HN1_8 := Lib.hid (row_keep HN1_d.out hg8 HL.out); have HN2_8 := Lib.hid (row_keep HN2_d.out hg8 HL.out); have HN3_8 := Lib.hid (row_keep HN3_d.out hg8 HL.out); have hl8 : w8.cell? ⟨S, 4, none⟩ = some (.slice A acc.length c) := (blk_cell HS8.out 4).trans rfl; have hl8a : ∀ ob : Obj, (w8.alloc ob).cell? ⟨S, 4, none⟩ = some (.slice A acc.length c) := fun ob => (blk_cell (blk_alloc HS8.out ob) 4).trans rfl; clear hx hy hp8 hg8))
             all_goals
              go_wp2
              go_roundg (mS s3)
              case measure => omega
              case rel =>
               have hlen : acc.length + 1 = (acc ++ [x]).length := by simp
               simp only [hlen]
               refine ⟨acc ++ [x], s3, AN, cN, Nat.le_refl _, ?_, ⟨HKn.out⟩, ⟨Kd.R_set HA9.out HS9.out (by decide) 4 _⟩, ⟨HF9.out.set (Nat.le_of_lt hS) HS9.out (by decide) (by decide) 4 _⟩, ⟨blk_far HR9.out (p := ⟨S, 4, none⟩) (Nat.ne_of_lt hS) _⟩, ⟨?_⟩, ⟨Kd.R_set HN1_9.out HS9.out (by decide) 4 _⟩, ⟨Kd.R_set HN2_9.out HS9.out (by decide) 4 _⟩, ⟨Kd.R_set HN3_9.out HS9.out (by decide) 4 _⟩⟩
               · rw [List.length_append, List.length_singleton]; omega
               · exact blk_put HS9.out 4 _ rfl
           · have hib : atP 3 brace s2 = true := by simpa using hk
             rw [hib] at hIs
             have HKn : acc = T1 ∧ s2 = T2 := by
              have hK := HK.out
              have h0 : stepsR (mS s2) s2 = ([], s2) := by
               generalize mS s2 = n
               cases n with
               | zero => rfl
               | succ n => unfold stepsR; rw [if_neg (fun h => hk h.2)]
              rw [h0, List.append_nil] at hK
              exact hK
             obtain ⟨rfl, rfl⟩ := HKn
             clear hbd hb hk hib HK
             go_wp2_with fail
             refine hO.mono ?_
             rintro e w' ⟨rfl, rfl⟩
             clear hO
             go_wp2_with fail
             refine hIs.mono ?_
             rintro e wr ⟨rfl, hbi⟩
             have HF7 := Lib.hid (HF7.out.below hbi)
             have HA7 := Lib.hid (Kd.R_below HA7.out hbi)
             have HR7 := Lib.hid (blk_below HR7.out hbi)
             have HS7 := Lib.hid (blk_below HS7.out hbi)
             have HN1_7 := Lib.hid (Kd.R_below HN1_7.out hbi)
             have HN2_7 := Lib.hid (Kd.R_below HN2_7.out hbi)
             have HN3_7 := Lib.hid (Kd.R_below HN3_7.out hbi)
             clear hIs hbi
             go_wp2_with fail
             go_meet
             exact ⟨_, A, c, ⟨rfl⟩, ⟨HA7.out⟩, ⟨HF7.out⟩, ⟨HR7.out⟩, ⟨HS7.out⟩, ⟨HN1_7.out⟩, ⟨HN2_7.out⟩, ⟨HN3_7.out⟩⟩
         · have hbd : decide (s2.2 < 0) = false := by simpa using hb
           rw [hbd] at hO
           have HKn : acc = T1 ∧ s2 = T2 := by
            have hK := HK.out
            have h0 : stepsR (mS s2) s2 = ([], s2) := by
             generalize mS s2 = n
             cases n with
             | zero => rfl
             | succ n => unfold stepsR; rw [if_neg (fun h => hb h.1)]
            rw [h0, List.append_nil] at hK
            exact hK
           obtain ⟨rfl, rfl⟩ := HKn
           clear hbd hb HK hIs
           go_wp2_with (go_at_call 73; refine hO.mono ?_; rintro e w' ⟨rfl, rfl⟩)
           clear hO
           go_wp2_with fail
           go_meet
           exact ⟨_, A, c, ⟨rfl⟩, ⟨HA7.out⟩, ⟨HF7.out⟩, ⟨HR7.out⟩, ⟨HS7.out⟩, ⟨HN1_7.out⟩, ⟨HN2_7.out⟩, ⟨HN3_7.out⟩⟩
       case rest =>
        obtain ⟨acc, A, c, HAc, HA7, HF7, HR7, HS7, HN1_7, HN2_7, HN3_7⟩ := hcut
        go_wp2_with fail
        have HN4_7 := HA7
        refine (qwant_par g 3 (by decide) brace T2 wc HF7.out.par).mono ?_
        rintro e w8 ⟨rfl, hp8, hg8⟩
        have HF8 := Lib.hid (HF7.out.call hp8 hg8)
        have HR8 := Lib.hid (HF7.out.keeps (Nat.le_refl _) HR7.out hg8)
        have HS8 := Lib.hid (HF7.out.keeps (Nat.le_of_lt hS) HS7.out hg8)
        have HN1_8 := Lib.hid (row_keep HN1_7.out hg8 HL.out)
        have HN2_8 := Lib.hid (row_keep HN2_7.out hg8 HL.out)
        have HN3_8 := Lib.hid (row_keep HN3_7.out hg8 HL.out)
        have HN4_8 := Lib.hid (row_keep HN4_7.out hg8 HL.out)
        clear hp8 hg8 HF7 HR7 HS7 HN1_7 HN2_7 HN3_7 HN4_7
        have hSe := HS8.out
        have k0 : w8.cell? ⟨S, 0, none⟩ = some (.string a) := (blk_cell hSe 0).trans rfl
        have k1 : w8.cell? ⟨S, 1, none⟩ = some (.slice A1 n1.length c1) := (blk_cell hSe 1).trans rfl
        have k2 : w8.cell? ⟨S, 2, none⟩ = some (.slice A2 n2.length c2) := (blk_cell hSe 2).trans rfl
        have k3 : w8.cell? ⟨S, 3, none⟩ = some (.slice A3 n3.length c3) := (blk_cell hSe 3).trans rfl
        have k4 : w8.cell? ⟨S, 4, none⟩ = some (.slice A acc.length c) := (blk_cell hSe 4).trans rfl
        have hRe := HR8.out
        have r0 : w8.cell? ⟨w.heap.size, 0, none⟩ = some (.string ⟨#[]⟩) := (blk_cell hRe 0).trans rfl
        have z0 := blk_frozen hRe 0
        have r1 : w8.cell? ⟨w.heap.size, 1, none⟩ = some (.slice none 0 0) := (blk_cell hRe 1).trans rfl
        have z1 := blk_frozen hRe 1
        have r2 : w8.cell? ⟨w.heap.size, 2, none⟩ = some (.slice none 0 0) := (blk_cell hRe 2).trans rfl
        have z2 := blk_frozen hRe 2
        have r3 : w8.cell? ⟨w.heap.size, 3, none⟩ = some (.slice none 0 0) := (blk_cell hRe 3).trans rfl
        have z3 := blk_frozen hRe 3
        have r4 : w8.cell? ⟨w.heap.size, 4, none⟩ = some (.slice none 0 0) := (blk_cell hRe 4).trans rfl
        have z4 := blk_frozen hRe 4
        clear hSe hRe
        go_wp2
        have hs := set5_blk (.string a) (.slice A1 n1.length c1) (.slice A2 n2.length c2) (.slice A3 n3.length c3) (.slice A acc.length c) HR8.out
        have hF := HF8.out.set5 (Nat.le_refl _) (.string a) (.slice A1 n1.length c1) (.slice A2 n2.length c2) (.slice A3 n3.length c3) (.slice A acc.length c) HR8.out (by decide) (by decide)
        have hA := RS.set5 HN1_8.out (.string a) (.slice A1 n1.length c1) (.slice A2 n2.length c2) (.slice A3 n3.length c3) (.slice A acc.length c) HR8.out (by decide)
        have hB := RS.set5 HN2_8.out (.string a) (.slice A1 n1.length c1) (.slice A2 n2.length c2) (.slice A3 n3.length c3) (.slice A acc.length c) HR8.out (by decide)
        have hC := RS.set5 HN3_8.out (.string a) (.slice A1 n1.length c1) (.slice A2 n2.length c2) (.slice A3 n3.length c3) (.slice A acc.length c) HR8.out (by decide)
        have hD := R_set5 HN4_8.out (.string a) (.slice A1 n1.length c1) (.slice A2 n2.length c2) (.slice A3 n3.length c3) (.slice A acc.length c) HR8.out (by decide)
        clear k0 k1 k2 k3 k4 r0 r1 r2 r3 r4 z0 z1 z2 z3 z4
        unfold set5 at hs hF hA hB hC hD
        generalize (((((w8.setCell ⟨w.heap.size, 0, none⟩ (.string a)).setCell ⟨w.heap.size, 1, none⟩ (.slice A1 n1.length c1)).setCell ⟨w.heap.size, 2, none⟩ (.slice A2 n2.length c2)).setCell ⟨w.heap.size, 3, none⟩ (.slice A3 n3.length c3)).setCell ⟨w.heap.size, 4, none⟩ (.slice A acc.length c)) = wE at hs hF hA hB hC hD ⊢
        have g0 := (blk_cell hs 0).trans rfl
        have g1 := (blk_cell hs 1).trans rfl
        have g2 := (blk_cell hs 2).trans rfl
        have g3 := (blk_cell hs 3).trans rfl
        have g4 := (blk_cell hs 4).trans rfl
        exact bodyPost_ret (v := .agg #[.string a, .slice A1 n1.length c1, .slice A2 n2.length c2, .slice A3 n3.length c3, .slice A acc.length c]) (by simp [results, Tryz.results74, go_sem, g0, g1, g2, g3, g4]) rfl (by
         rw [HT.out, ← HAc.out]
         exact ⟨_, _, _, _, rfl, hA, hB, hC, hD, hF.par, hF.grown⟩)

end Go.Proofs.YthagibkmfgodgaaGreatDoor.X
