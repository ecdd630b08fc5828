/-
  parse.File, walked by hand.
  The reference's lexer, walked by hand: All, over the same words.
  The reference's File, walked by hand: a text's rule file, as the parser has it.
  slices.Sorted(slices.Values(l)) at lists of strings: the list, sorted. (The iterator's and the loop's walks after the how-to's worked texts.)
  lex.Quote, walked by hand (texts without signs that are written as numbers).
  print, walked by hand: slices.Clone of steps.
-/
import Derived.RangeFuncBox
import Derived.RangeFuncLeaves
import Derived.RangeFuncNested
import Derived.RangeFuncBound
import Derived.RangeFuncCalls
import Derived.Shelf.Abstract
import Derived.OwnWalkIn
import Derived.TacticsInMore
import Derived.LoopNIn
import Derived.LoopIn
import Derived.Maps.AppendAt
import Derived.Sort.OwnSorted
import Derived.Deep.RegionLaw
import Derived.Test.YthagibkmfgodgaaGreatDoorY9
import Derived.Test.YthagibkmfgodgaaGreatDoorY6
namespace Go.Proofs.YthagibkmfgodgaaGreatDoor.X
open Go.RowKit Go.Maps Go.Proofs.YthagibkmfgodgaaGreatDoorW.PrintWords Go.Proofs.YthagibkmfgodgaaGreatDoorW.PrintMore Go.Proofs.YthagibkmfgodgaaGreatDoorW.PrintLast

theorem words_of {W : World} {base : Nat} {v : Value} {l : List SWord} (h : Kd.R k34 34 W base (fun _ => True) v l) (hne : l ≠ []) :
 ∃ b c cur, v = .slice (some ⟨b, 0, none⟩) l.length c ∧ l.length ≤ c ∧ W.heap[b]? = some (.cells cur 34 (0, 0)) ∧ WordsAt cur 0 l := by
 obtain ⟨A, c, he, hc, hC⟩ := Kd.R_reads h
 obtain ⟨inner, ho⟩ := Kd.R_own h
 have hpos : 0 < l.length := List.length_pos_iff.2 hne
 rcases ho.2 with ⟨hv, hn⟩ | ⟨g, cap, cur, hv, hg, hh, r⟩
 · omega
 · rw [he] at hv
   injection hv with h1 h2 h3
   subst h1
   refine ⟨g, c, cur, he, hc, hh, fun j x hj => ?_⟩
   obtain ⟨ad, ha, hcell⟩ := hC.2.2 hpos
   injection ha with ha
   subst ha
   obtain ⟨cs, hl, hK, hcc⟩ := hcell j x hj
   have hcs := k34_open hK
   subst hcs
   have k0 := hcc 0 _ rfl
   have k1 := hcc 1 _ rfl
   have k2 := hcc 2 _ rfl
   rw [add_plain, blk_cell hh] at k0 k1 k2
   have hsz : (k34).sz = 3 := rfl
   rw [hsz] at k0 k1 k2
   refine ⟨?_, ?_, ?_⟩
   · rw [show 0 + 3 * j = j * 3 + 0 by omega]; exact k0
   · rw [show 0 + 3 * j + 1 = j * 3 + 1 by omega]; exact k1
   · rw [show 0 + 3 * j + 2 = j * 3 + 2 by omega]; exact k2
theorem mS_rule {s : PS} (hg : GoodW s.1) (hs : s.2 < 0) : mS (ruleP s).2 < mS s := by
 have hm : mS s = s.1.length + 1 := by unfold mS; rw [if_pos hs]
 have h1 : mS (mustP 1 wRule s) < mS s := by
  rw [hm]
  unfold mustP
  split
  · have h2 := mS_le (s.1.tail, s.2)
    have h3 : 0 < s.1.length := List.length_pos_iff.2 hg.ne
    have h4 : (s.1.tail, s.2).1.length = s.1.length - 1 := List.length_tail
    omega
  · have := failsP_stop hg hs
    unfold mS
    rw [if_neg this, failsP_len]
    omega
 have h2 : mS (ruleP s).2 ≤ mS (mustP 1 wRule s) := by
  have h := inv_mS (mS (mustP 1 wRule s))
  exact h.must (h.steps _ (h.if_ _ (h.list (h.must (h.if_ _ (h.must (h.name (Nat.le_refl _)) (by decide) _)) (by decide) _)))) (by decide) _
 omega
theorem rules_fuel' : ∀ (n m : Nat) (s : PS), GoodW s.1 → mS s ≤ n → mS s ≤ m → rulesP n s = rulesP m s
 | 0, 0, _, _, _, _ => rfl
 | 0, m + 1, s, hg, h, _ => by
  unfold rulesP
  rw [if_neg (fun hc => by have := List.length_pos_iff.2 hg.ne; unfold mS at h; omega)]
 | n + 1, 0, s, hg, _, h => by
  unfold rulesP
  rw [if_neg (fun hc => by have := List.length_pos_iff.2 hg.ne; unfold mS at h; omega)]
 | n + 1, m + 1, s, hg, h1, h2 => by
  unfold rulesP
  by_cases hc : s.2 < 0 ∧ (headW s.1).f0 ≠ 4
  · rw [if_pos hc, if_pos hc]
    have := mS_rule hg hc.1
    rw [rules_fuel' n m _ (inv_good.rule hg) (by omega) (by omega)]
  · rw [if_neg hc, if_neg hc]
theorem lexL_len : ∀ (k p : Nat) (s : Bytes) (l : List SWord), lexL k p s = .ok l → l.length ≤ s.length
 | 0, _, _, _, h => by cases h
 | k + 1, p, s, l, h => by
  unfold lexL at h
  by_cases h0 : s = []
  · rw [if_pos h0] at h; cases h; simp
  · rw [if_neg h0] at h
    cases hw : wordF s with
    | none => rw [hw] at h; cases h
    | some q =>
     rw [hw] at h
     obtain ⟨a, ha, rfl⟩ := map_ok h
     have h1 := lexL_len k _ _ a ha
     have h2 := word_pos hw
     simp only [List.length_drop] at h1
     simp only [List.length_cons]
     omega
theorem allF_len {s : Bytes} {l : List SWord} (h : allF s = .ok l) : l.length ≤ s.length + 1 := by
 unfold allF at h
 obtain ⟨a, ha, rfl⟩ := map_ok h
 have := lexL_len _ _ _ a ha
 rw [List.length_drop] at this
 simp
 omega
def IsFileR (r : List SRule × Int × Int) (w : World) (e : Ending) (w' : World) : Prop :=
 ∃ v : Value, e = .returned (.tuple #[v, .agg #[.int .i64 r.2.1, .int .i64 r.2.2]]) ∧ Kd.R k49 49 w' w.heap.size (fun _ => True) v r.1 ∧ Below w.heap.size w w'

set_option maxHeartbeats 8000000 in
set_option maxRecDepth 100000 in
theorem file_calls (s : ByteArray) (w : World) (hG : GOK w) :
 Calls Tryz.prog 28 #[.string s] w (IsFileR (fileT s.data.toList) w) := by
 have HG := Lib.hid hG
 clear hG
 by_cases hbig : 20000 < s.size
 · have hd : decide ((20000 : Int) < (s.size : Int)) = true := by simp; omega
   have HV : Hid (fileT s.data.toList = ([], 4, -1)) := by
    show _ = _
    unfold fileT
    rw [if_pos (by rw [← Lib.size_eq]; exact hbig)]
   clear hbig
   go_enter Tryz.func28, Tryz.ntmps28
   go_wp2
   have hs := blk_new w (.cells #[.int .i64 4, .int .i64 (-1)] 27)
   have hB := (Below.refl w.heap.size w).alloc (Nat.le_refl _) (.cells #[.int .i64 4, .int .i64 (-1)] 27)
   generalize w.alloc (.cells #[.int .i64 4, .int .i64 (-1)] 27) = wE at hs hB ⊢
   have g0 := (blk_cell hs 0).trans rfl
   have g1 := (blk_cell hs 1).trans rfl
   exact bodyPost_ret (v := .tuple #[.slice none 0 0, .agg #[.int .i64 4, .int .i64 (-1)]]) (by simp [results, Tryz.results28, go_sem, g0, g1]) rfl (by
    rw [HV.out]
    exact ⟨_, rfl, Kd.R_nil _ _ _ _ _, hB⟩)
 · have hd : decide ((20000 : Int) < (s.size : Int)) = false := by simp; omega
   have hlen : s.data.toList.length ≤ 20000 := by rw [← Lib.size_eq]; omega
   have hA := fun W => all_calls s (by omega) W
   have hV : fileT s.data.toList = match allF s.data.toList with | .error p => ([], 1, (p : Nat)) | .ok l => fileP l := by
    unfold fileT
    rw [if_neg (by omega)]
    rfl
   clear hbig
   cases hall : allF s.data.toList with
   | error p =>
    have HV : Hid (fileT s.data.toList = ([], 1, ((p : Nat) : Int))) := by show _ = _; rw [hV, hall]
    rw [hall] at hA
    replace hA : ∀ W, Calls Tryz.prog 18 #[.string s] W (IsAllR ([], 1, (p : Nat)) W) := hA
    clear hV hall hlen
    go_enter Tryz.func28, Tryz.ntmps28
    go_wp2_with fail
    refine (hA _).mono ?_
    rintro e w1 ⟨v0, rfl, hr1, hb1⟩
    have hR1 := blk_below (blk_new w (.cells #[.int .i64 0, .int .i64 0] 27)) hb1
    have HB1 := Lib.hid (below_then ((Below.refl w.heap.size w).alloc (Nat.le_refl _) (.cells #[.int .i64 0, .int .i64 0] 27)) (by simp) hb1)
    obtain ⟨A0, c0, rfl, _, _⟩ := Kd.R_reads hr1
    have hR2 := blk_alloc hR1 (.cells #[.int .i64 1, .int .i64 (p : Nat)] 27)
    have hE2 := blk_new w1 (.cells #[.int .i64 1, .int .i64 (p : Nat)] 27)
    have HB2 := Lib.hid (HB1.out.alloc HB1.out.size (.cells #[.int .i64 1, .int .i64 (p : Nat)] 27))
    clear hA hb1 hr1 hR1 HB1
    go_wp2
    generalize w1.alloc (.cells #[.int .i64 1, .int .i64 (p : Nat)] 27) = w2 at hR2 hE2 HB2 ⊢
    generalize w1.heap.size = E at hE2 ⊢
    have HR2 := Lib.hid hR2
    have k0 : w2.cell? ⟨E, 0, none⟩ = some (.int .i64 1) := (blk_cell hE2 0).trans rfl
    have k1 : w2.cell? ⟨E, 1, none⟩ = some (.int .i64 (p : Nat)) := (blk_cell hE2 1).trans rfl
    have r0 : w2.cell? ⟨w.heap.size, 0, none⟩ = some (.int .i64 0) := (blk_cell hR2 0).trans rfl
    have r1 : w2.cell? ⟨w.heap.size, 1, none⟩ = some (.int .i64 0) := (blk_cell hR2 1).trans rfl
    have f0 : w2.frozen? ⟨w.heap.size, 0, none⟩ = false := blk_frozen hR2 0
    have f1 : w2.frozen? ⟨w.heap.size, 1, none⟩ = false := blk_frozen hR2 1
    clear hR2 hE2
    go_region
    all_goals
     have hs := two_set (.int .i64 1) (.int .i64 (p : Nat)) HR2.out
     have hB := (HB2.out.setCell (p := ⟨w.heap.size, 0, none⟩) (Nat.le_refl _) (.int .i64 1)).setCell (p := ⟨w.heap.size, 1, none⟩) (Nat.le_refl _) (.int .i64 (p : Nat))
     go_wp2
     have hs2 := blk_drew hs
     have hB2 := below_drew hB
     generalize ((w2.setCell ⟨w.heap.size, 0, none⟩ (.int .i64 1)).setCell ⟨w.heap.size, 1, none⟩ (.int .i64 (p : Nat))).drew = wE at hs2 hB2 ⊢
     have g0 := (blk_cell hs2 0).trans rfl
     have g1 := (blk_cell hs2 1).trans rfl
     exact bodyPost_ret (v := .tuple #[.slice none 0 0, .agg #[.int .i64 1, .int .i64 (p : Nat)]]) (by simp [results, Tryz.results28, go_sem, g0, g1]) rfl (by
      rw [HV.out]
      exact ⟨_, rfl, Kd.R_nil _ _ _ _ _, hB2⟩)
   | ok l =>
    have HV : Hid (fileT s.data.toList = fileP l) := by show _ = _; rw [hV, hall]
    have hgood : GoodW l := allF_good (by omega) hall
    have hll : l.length ≤ 20001 := Nat.le_trans (allF_len hall) (Nat.add_le_add_right hlen 1)
    rw [hall] at hA
    replace hA : ∀ W, Calls Tryz.prog 18 #[.string s] W (IsAllR (l, 0, 0) W) := hA
    have HGood := Lib.hid hgood
    clear hV hall hlen hgood
    go_enter Tryz.func28, Tryz.ntmps28
    go_wp2_with fail
    refine (hA _).mono ?_
    rintro e w1 ⟨v0, rfl, hr1, hb1⟩
    replace hr1 : Kd.R k34 34 w1 (w.alloc (.cells #[.int .i64 0, .int .i64 0] 27)).heap.size (fun _ => True) v0 l := hr1
    have hR1 := blk_below (blk_new w (.cells #[.int .i64 0, .int .i64 0] 27)) hb1
    have hB1 := below_then ((Below.refl w.heap.size w).alloc (Nat.le_refl _) (.cells #[.int .i64 0, .int .i64 0] 27)) (by simp) hb1
    obtain ⟨b, c, cur, rfl, hc, hbl, hwd⟩ := words_of hr1 HGood.out.ne
    have hs2 := blk_alloc hbl (.cells #[.int .i64 0, .int .i64 0] 27)
    have hs3 := blk_alloc hs2 (.cells #[.slice (some ⟨b, 0, none⟩) l.length c, .int .i64 (-1)] 74)
    have hp3 := blk_new (w1.alloc (.cells #[.int .i64 0, .int .i64 0] 27)) (.cells #[.slice (some ⟨b, 0, none⟩) l.length c, .int .i64 (-1)] 74)
    have hR3 := blk_alloc (blk_alloc hR1 (.cells #[.int .i64 0, .int .i64 0] 27)) (.cells #[.slice (some ⟨b, 0, none⟩) l.length c, .int .i64 (-1)] 74)
    have hB2 := hB1.alloc hB1.size (.cells #[.int .i64 0, .int .i64 0] 27)
    have hB3 := hB2.alloc hB2.size (.cells #[.slice (some ⟨b, 0, none⟩) l.length c, .int .i64 (-1)] 74)
    have hgs : (w1.alloc (.cells #[.int .i64 0, .int .i64 0] 27)).heap.size = w1.heap.size + 1 := by simp
    have hwl : w.heap.size < w1.heap.size := blk_lt hR1
    rw [hgs] at hp3
    have hF : Fly ((w1.alloc (.cells #[.int .i64 0, .int .i64 0] 27)).alloc (.cells #[.slice (some ⟨b, 0, none⟩) l.length c, .int .i64 (-1)] 74)) (w1.heap.size + 1) ((w1.alloc (.cells #[.int .i64 0, .int .i64 0] 27)).alloc (.cells #[.slice (some ⟨b, 0, none⟩) l.length c, .int .i64 (-1)] 74)) (l, -1) := by
     refine Fly.start ⟨⟨b, 0, c, cur, hp3, hc, hs3, hwd⟩, ⟨w, HG.out, by omega, hB3⟩, HGood.out, by show l.length ≤ 100000; omega⟩
    have HF := Lib.hid hF
    have HR := Lib.hid hR3
    have HB := Lib.hid hB3
    have hRg : w.heap.size < w1.heap.size + 1 := by omega
    clear hA hb1 hr1 hR1 hB1 hbl hwd hs2 hs3 hp3 hR3 hB2 hB3 hgs hF hwl hc
    go_wp2_with fail
    generalize (w1.alloc (.cells #[.int .i64 0, .int .i64 0] 27)).alloc (.cells #[.slice (some ⟨b, 0, none⟩) l.length c, .int .i64 (-1)] 74) = wg at HF HR HB ⊢
    generalize w1.heap.size + 1 = g at HF hRg ⊢
    go_loopg [7] (mS (l, -1)) (fun gg s7 wr => ∃ (acc : List SRule) (s2 : PS) (A : Option Addr) (c : Nat), s7 = .slice A acc.length c ∧ mS s2 ≤ gg ∧ acc.length + mS s2 ≤ mS (l, -1) ∧ Aside0 (acc ++ (rulesP (mS s2) s2).1 = (rulesP (mS (l, -1)) (l, -1)).1 ∧ (rulesP (mS s2) s2).2 = (rulesP (mS (l, -1)) (l, -1)).2) ∧
     Aside0 (Kd.R k49 49 wr wg.heap.size (fun _ => True) (.slice A acc.length c) acc) ∧ Aside0 (Fly wg g wr s2) ∧ Aside0 (wr.heap[w.heap.size]? = some (.cells #[.int .i64 0, .int .i64 0] 27 (0, 0))))
    case atStart => exact ⟨[], (l, -1), none, 0, rfl, Nat.le_refl _, by simp, ⟨by simp⟩, ⟨Kd.R_nil _ _ _ _ _⟩, ⟨HF.out⟩, ⟨HR.out⟩⟩
    case round =>
     obtain ⟨acc, s2, A, c, rfl, hgk, hal, HK, HA7, HF7, HR7⟩ := hrel
     have hO := ok_calls g s2 wr HF7.out.par.has
     have hO2 := hO
     by_cases hb : s2.2 < 0
     · have hbd : decide (s2.2 < 0) = true := by simpa using hb
       rw [hbd] at hO
       obtain ⟨b2, o2, cp, cur2, hq⟩ := HF7.out.par.has
       have h0 : wr.cell? ⟨g, 0, none⟩ = some (.slice (some ⟨b2, o2, none⟩) s2.1.length cp) := (blk_cell hq.own 0).trans rfl
       obtain ⟨kk0, _, _⟩ := hq.first HF7.out.par.good.ne
       have hpos : 0 < s2.1.length := List.length_pos_iff.2 HF7.out.par.good.ne
       by_cases hk : (headW s2.1).f0 = 4
       · have hkd : ((headW s2.1).f0 != 4) = false := by simpa using hk
         have HKn : acc = (rulesP (mS (l, -1)) (l, -1)).1 ∧ s2 = (rulesP (mS (l, -1)) (l, -1)).2 := by
          have hK := HK.out
          have h0 : rulesP (mS s2) s2 = ([], s2) := by
           generalize mS s2 = n
           cases n with
           | zero => rfl
           | succ n => unfold rulesP; rw [if_neg (fun h => h.2 hk)]
          rw [h0, List.append_nil] at hK
          exact hK
         have HV2 : Hid (fileT s.data.toList = (acc, 0, 0)) := by
          show _ = _
          rw [HV.out, fileP_of, show l.length + 1 = mS (l, -1) from rfl, if_pos (by rw [← HKn.2]; exact hb), ← HKn.1]
         have HB7 := Lib.hid (HB.out.grown HF7.out.grown HB.out.size (fun k hk => by injection hk with hk; omega))
         have r0 : wr.cell? ⟨w.heap.size, 0, none⟩ = some (.int .i64 0) := (blk_cell HR7.out 0).trans rfl
         have r1 : wr.cell? ⟨w.heap.size, 1, none⟩ = some (.int .i64 0) := (blk_cell HR7.out 1).trans rfl
         have f0 := blk_frozen HR7.out 0
         have f1 := blk_frozen HR7.out 1
         clear hbd hb hk hq HKn HK HV hO2
         go_wp2_with (go_at_call 51; refine hO.mono ?_; rintro e w' ⟨rfl, rfl⟩)
         have hs := two_set (.int .i64 0) (.int .i64 0) HR7.out
         have hB := (HB7.out.setCell (p := ⟨w.heap.size, 0, none⟩) (Nat.le_refl _) (.int .i64 0)).setCell (p := ⟨w.heap.size, 1, none⟩) (Nat.le_refl _) (.int .i64 0)
         have hA9 := Kd.R_set (Kd.R_set (Kd.R_lower HA7.out HB.out.size) HR7.out (by decide) 0 (.int .i64 0)) (blk_put HR7.out 0 (.int .i64 0) rfl) (by decide) 1 (.int .i64 0)
         generalize (wr.setCell ⟨w.heap.size, 0, none⟩ (.int .i64 0)).setCell ⟨w.heap.size, 1, none⟩ (.int .i64 0) = wE at hs hB hA9 ⊢
         have g0 := (blk_cell hs 0).trans rfl
         have g1 := (blk_cell hs 1).trans rfl
         exact bodyPost_ret (v := .tuple #[.slice A acc.length c, .agg #[.int .i64 0, .int .i64 0]]) (by simp [results, Tryz.results28, go_sem, g0, g1]) rfl (by
          rw [HV2.out]
          exact ⟨_, rfl, hA9, hB⟩)
       · have hkd : ((headW s2.1).f0 != 4) = true := by simpa using hk
         have hN := fun W hW => rule_calls g s2 W hW
         have hmn := mS_rule HF7.out.par.good hb
         have HKn : Hid (((acc ++ [(ruleP s2).1]) ++ (rulesP (mS (ruleP s2).2) (ruleP s2).2).1 = (rulesP (mS (l, -1)) (l, -1)).1 ∧ (rulesP (mS (ruleP s2).2) (ruleP s2).2).2 = (rulesP (mS (l, -1)) (l, -1)).2)) := by
          have hK := HK.out
          obtain ⟨n, hn⟩ : ∃ n, mS s2 = n + 1 := ⟨mS s2 - 1, by omega⟩
          rw [hn, rulesP, if_pos ⟨hb, hk⟩, rules_fuel' n (mS (ruleP s2).2) (ruleP s2).2 (inv_good.rule HF7.out.par.good) (by omega) (Nat.le_refl _)] at hK
          exact ⟨by rw [← hK.1]; simp, hK.2⟩
         generalize (ruleP s2).1 = x at HKn hN
         generalize (ruleP s2).2 = s3 at HKn hN hmn
         have hal2 : acc.length ≤ 200000 := by
          have : mS (l, -1) ≤ 20002 := Nat.le_trans (mS_le _) (by show l.length + 1 ≤ 20002; omega)
          omega
         clear hbd hb hk hq
         go_wp2_with (first | (go_at_call 51; refine hO.mono ?_; rintro e w' ⟨rfl, rfl⟩) | (go_at_call 52; refine (hN _ HF7.out.par).mono ?_; rintro e w8 ⟨v1, v2, v3, v4, rfl, hx1, hx2, hx3, hx4, hp8, hg8⟩; obtain ⟨X1, d1, rfl, _, _⟩ := Kd.R_reads hx1; obtain ⟨X2, d2, rfl, _, _⟩ := Kd.R_reads hx2; obtain ⟨X3, d3, rfl, _, _⟩ := Kd.R_reads hx3; obtain ⟨X4, d4, rfl, _, _⟩ := Kd.R_reads hx4; have HX1 := Lib.hid (Kd.R_lower (Kd.R_new hx1 (Kd.R_own HA7.out).choose_spec) HF7.out.grown.size); have HX2 := Lib.hid (Kd.R_lower (Kd.R_new hx2 (Kd.R_own HA7.out).choose_spec) HF7.out.grown.size); have HX3 := Lib.hid (Kd.R_lower (Kd.R_new hx3 (Kd.R_own HA7.out).choose_spec) HF7.out.grown.size); have HX4 := Lib.hid (Kd.R_lower (Kd.R_new hx4 (Kd.R_own HA7.out).choose_spec) HF7.out.grown.size); have HF8 := Lib.hid (HF7.out.call hp8 hg8); have HR8 := Lib.hid (blk_grown HR7.out hg8 (fun e => by injection e with e; omega)); have HA8 := Lib.hid (row_keep HA7.out hg8 HF7.out.lt); clear hx1 hx2 hx3 hx4 hp8 hg8) | ((with_reducible refine gate_builtin (b := .append) (xs := #[.tmp 36, .tmp 39]) rfl ?_); at_builtin; refine Kd.R_append k49 (w0 := w8) wg.heap.size rfl (.tmp 36) (.tmp 39) 35 49 (.agg #[.string ⟨#[]⟩, .slice none 0 0, .slice none 0 0, .slice none 0 0, .slice none 0 0]) 112 rfl Tryz.underlying35 info49 rfl (by decide) (by decide) (.slice A acc.length c) acc x [.string x.f0, .slice X1 x.f1.length d1, .slice X2 x.f2.length d2, .slice X3 x.f3.length d3, .slice X4 x.f4.length d4] (fun _ => True) (fun k_ => True ∧ some k_ ≠ (Value.slice A acc.length c).ownBlock) rfl rfl (k49_mkM _ _ _ x HX1.out HX2.out HX3.out HX4.out) (fun _ hk => hk) (fun _ _ => trivial) HA8.out (Below.refl _ _) HF8.out.grown.size ?aL ?_; (case aL => omega); intro v1 w9 ho hb hg hat; obtain ⟨AN, cN, rfl, _, _⟩ := Kd.R_reads ho; have HA9 := Lib.hid ho; have HF9 := Lib.hid (HF8.out.row (Kd.R_own HA8.out).choose_spec (by decide) (by decide) (Nat.le_refl _) hb hg); have HR9 := Lib.hid (blk_grown HR8.out hg (Kd.R_ne HA8.out HR8.out (by decide))); clear ho hb hg hat))
         have hlen : acc.length + 1 = (acc ++ [x]).length := by simp
         go_roundg (mS s3)
         case measure => omega
         case rel => exact ⟨acc ++ [x], s3, AN, cN, by first | rfl | (simp only [List.length_append, List.length_singleton]), Nat.le_refl _, by rw [List.length_append, List.length_singleton]; omega, ⟨HKn.out⟩, ⟨HA9.out⟩, ⟨HF9.out⟩, ⟨HR9.out⟩⟩
     · have hbd : decide (s2.2 < 0) = false := by simpa using hb
       rw [hbd] at hO
       have HKn : s2 = (rulesP (mS (l, -1)) (l, -1)).2 := by
        have hK := HK.out
        have h0 : rulesP (mS s2) s2 = ([], s2) := by
         generalize mS s2 = n
         cases n with
         | zero => rfl
         | succ n => unfold rulesP; rw [if_neg (fun h => hb h.1)]
        rw [h0] at hK
        exact hK.2
       have HV2 : Hid (fileT s.data.toList = ([], 1, s2.2)) := by
        show _ = _
        rw [HV.out, fileP_of, show l.length + 1 = mS (l, -1) from rfl, if_neg (by rw [← HKn]; exact hb), ← HKn]
       have HB7 := Lib.hid (HB.out.grown HF7.out.grown HB.out.size (fun k hk => by injection hk with hk; omega))
       obtain ⟨b2, o2, cp, cur2, hq⟩ := HF7.out.par.has
       have h1 : wr.cell? ⟨g, 1, none⟩ = some (.int .i64 s2.2) := (blk_cell hq.own 1).trans rfl
       have r0 : wr.cell? ⟨w.heap.size, 0, none⟩ = some (.int .i64 0) := (blk_cell HR7.out 0).trans rfl
       have r1 : wr.cell? ⟨w.heap.size, 1, none⟩ = some (.int .i64 0) := (blk_cell HR7.out 1).trans rfl
       have f0 := blk_frozen HR7.out 0
       have f1 := blk_frozen HR7.out 1
       clear hbd hb hq HKn HK HV hO2
       go_wp2_with (go_at_call 51; refine hO.mono ?_; rintro e w' ⟨rfl, rfl⟩)
       go_region
       all_goals
        have hs := two_set (.int .i64 1) (.int .i64 s2.2) HR7.out
        have hB := (HB7.out.setCell (p := ⟨w.heap.size, 0, none⟩) (Nat.le_refl _) (.int .i64 1)).setCell (p := ⟨w.heap.size, 1, none⟩) (Nat.le_refl _) (.int .i64 s2.2)
        go_wp2
        have hs2 := blk_drew hs
        have hB2 := below_drew hB
        generalize ((wr.setCell ⟨w.heap.size, 0, none⟩ (.int .i64 1)).setCell ⟨w.heap.size, 1, none⟩ (.int .i64 s2.2)).drew = wE at hs2 hB2 ⊢
        have g0 := (blk_cell hs2 0).trans rfl
        have g1 := (blk_cell hs2 1).trans rfl
        exact bodyPost_ret (v := .tuple #[.slice none 0 0, .agg #[.int .i64 1, .int .i64 s2.2]]) (by simp [results, Tryz.results28, go_sem, g0, g1]) rfl (by
         rw [HV2.out]
         exact ⟨_, rfl, Kd.R_nil _ _ _ _ _, hB2⟩)

end Go.Proofs.YthagibkmfgodgaaGreatDoor.X

namespace Go.Proofs.YthagibkmfgodgaaGreatDoor.X
open Go.RowKit Go.Maps Go.Proofs.YthagibkmfgodgaaGreatDoorW.PrintWords Go.Proofs.YthagibkmfgodgaaGreatDoorW.PrintMore Go.Proofs.YthagibkmfgodgaaGreatDoorW.PrintLast

theorem let_sig (c : Int) : letB c = (sigB c || c == 47) := rfl
def AtW (L : Bytes) (T : Except Nat (List SWord)) (b : Bool) (kk : Nat) (acc : List SWord) : Prop :=
 ((lexM b (L.drop kk) kk).map (acc ++ ·)).map (· ++ [⟨4, (L.length : Nat), ⟨#[]⟩⟩]) = T
variable {L : Bytes} {T : Except Nat (List SWord)} {kk : Nat} {acc : List SWord}
theorem atW_start : AtW L (allF L) false 0 [] := by
 unfold AtW
 rw [allF_lexM, List.drop_zero]
 cases lexM false L 0 <;> simp [Except.map]
theorem atW_blank {c : UInt8} (hd : L.drop kk = c :: L.drop (kk + 1)) (hc : blankB c = true) (h : AtW L T false kk acc) : AtW L T false (kk + 1) acc := by
 unfold AtW at h ⊢
 rwa [hd, lexM_blank hc] at h
theorem atW_hash (hd : L.drop kk = 35 :: L.drop (kk + 1)) (h : AtW L T false kk acc) : AtW L T true (kk + 1) acc := by
 unfold AtW at h ⊢
 rwa [hd, lexM_hash] at h
theorem atW_com {c : UInt8} (hd : L.drop kk = c :: L.drop (kk + 1)) (hc : c ≠ 10) (h : AtW L T true kk acc) : AtW L T true (kk + 1) acc := by
 unfold AtW at h ⊢
 rwa [hd, lexM_com hc] at h
theorem atW_nl (hd : L.drop kk = 10 :: L.drop (kk + 1)) (h : AtW L T true kk acc) : AtW L T false kk acc := by
 unfold AtW at h ⊢
 rwa [hd, lexM_nl, ← lexM_blank (c := 10) (by decide), ← hd] at h
theorem atW_out (hk : L.length ≤ kk) (h : AtW L T true kk acc) : AtW L T false kk acc := by
 unfold AtW at h ⊢
 rw [List.drop_eq_nil_of_le hk, lexM_nil] at h ⊢
 exact h
theorem atW_word {q : Nat × Bytes × Nat} (hq : wordF (L.drop kk) = some q) (h : AtW L T false kk acc) : AtW L T false (kk + q.2.2) (acc ++ [⟨(q.1 : Nat), (kk : Nat), mk q.2.1⟩]) := by
 unfold AtW at h ⊢
 rw [lexM_word hq, List.drop_drop] at h
 rw [← h]
 cases lexM false (L.drop (kk + q.2.2)) (kk + q.2.2) <;> simp [Except.map]
theorem atW_none {c : UInt8} (hd : L.drop kk = c :: L.drop (kk + 1)) (hw : wordF (L.drop kk) = none) (h1 : blankB c = false) (h2 : c ≠ 35) (h : AtW L T false kk acc) : T = .error kk := by
 unfold AtW at h
 rw [hd] at h hw
 rw [lexM_none hw h1 h2] at h
 exact h.symm
theorem atW_end (hk : L.length ≤ kk) (h : AtW L T false kk acc) : T = .ok (acc ++ [⟨4, (L.length : Nat), ⟨#[]⟩⟩]) := by
 unfold AtW at h
 rw [List.drop_eq_nil_of_le hk, lexM_nil] at h
 rw [← h]
 simp [Except.map]
theorem word_str {L : Bytes} {r : Bytes} (hr : L = 34 :: r) : wordF L = (textF (r.length + 1) r).map fun p => (2, p.1, p.2 + 1) := by
 subst hr
 unfold wordF
 rw [if_neg (by rw [runL_cons]; simp [letU, letB])]
 simp
theorem word_punct {c : UInt8} {r : Bytes} (hp : punctB c = true) : wordF (c :: r) = some (3, [c], 1) := by
 have key : ∀ c : Nat, c < 256 → punctB (UInt8.ofNat c) = true → letU (UInt8.ofNat c) = false ∧ UInt8.ofNat c ≠ 34 := by decide +kernel
 have := key c.toNat (UInt8.toNat_lt c)
 rw [show UInt8.ofNat c.toNat = c by simp] at this
 obtain ⟨h1, h2⟩ := this hp
 unfold wordF
 rw [if_neg (by rw [runL_cons, h1]; simp)]
 simp [h2, hp]
theorem word_punct_at {L : Bytes} {kk : Nat} {c : UInt8} (hd : L.drop kk = c :: L.drop (kk + 1)) (hp : punctB c = true) : wordF (L.drop kk) = some (3, [c], 1) := by rw [hd]; exact word_punct hp
theorem word_bad {c : UInt8} {r : Bytes} (h1 : letU c = false) (h2 : c ≠ 34) (h3 : punctB c = false) : wordF (c :: r) = none := by
 unfold wordF
 rw [if_neg (by rw [runL_cons, h1]; simp)]
 simp [h2, h3]
theorem punct_tells : ∀ c : Nat, c < 256 → punctB (UInt8.ofNat c) = (c == 123 || c == 125 || c == 44 || c == 59 || c == 61 || c == 40 || c == 41 || c == 43 || c == 94 || c == 58 || c == 36) := by decide +kernel

--WALK
set_option maxHeartbeats 8000000 in
set_option maxRecDepth 100000 in
theorem refAll_calls (s : ByteArray) (hs : s.size ≤ 100000) (w : World) :
 Calls Tryz.prog 19 #[.string s] w (IsAllR (allR (allF s.data.toList)) w) := by
 have HLen : Hid (s.data.toList.length = s.size) := (Lib.size_eq s).symm
 generalize hT : allF s.data.toList = T
 have HT : Hid (AtW s.data.toList T false 0 []) := by show AtW _ _ _ _ _; rw [← hT]; exact atW_start
 clear hT
 go_enter Tryz.func19, Tryz.ntmps19
 go_wp2_with fail
 go_loopg [4, 5, 6, 7, 8, 9, 10] s.size (fun gg s4 s5 _ _ _ _ _ wr => ∃ (kk : Nat) (acc : List SWord), kk ≤ s.size ∧ s.size - kk ≤ gg ∧ s5 = .int .i64 kk ∧ acc.length ≤ kk ∧ Aside0 (AtW s.data.toList T false kk acc) ∧
  Aside0 (Kd.R k34 34 wr w.heap.size (fun _ => True) s4 acc) ∧ Aside0 (Below w.heap.size w wr) ∧ Aside0 (wr.heap[w.heap.size]? = some (.cells #[.int .i64 0, .int .i64 0] 27 (0, 0))))
 case atStart => exact ⟨0, [], Nat.zero_le _, by omega, rfl, Nat.le_refl _, ⟨HT.out⟩, ⟨Kd.R_nil _ _ _ _ _⟩, ⟨(Below.refl _ _).alloc (Nat.le_refl _) _⟩, ⟨heap_alloc_new w _⟩⟩
 case round =>
  obtain ⟨kk, acc, hkk, hgk, rfl, hacc, HK, HO, HB, HC⟩ := hrel
  have HWB := Lib.hid HB.out.size
  have HNE : Hid (some w.heap.size ≠ u4.ownBlock) := by
   obtain ⟨_, inner, hown, _⟩ := HO.out
   exact own_ne hown HC.out (by decide)
  have hal : acc.length ≤ 100000 := by omega
  by_cases hlt : kk < s.size
  · have hltz : (kk : Int) < (s.size : Int) := by omega
    have HD : Hid (s.data.toList.drop kk = s[kk] :: s.data.toList.drop (kk + 1)) := drop_at s kk hlt
    obtain ⟨c, hc⟩ : ∃ c, c = s[kk] := ⟨_, rfl⟩
    have HCc := Lib.hid hc
    have hcn := UInt8.toNat_lt c
    have hctn : s[kk].toNat = c.toNat := by rw [hc]
    rw [← hc] at HD
    have ofc : ∀ n : Nat, n < 256 → c.toNat = n → c = UInt8.ofNat n := fun n hn h => by rw [← h]; simp
    clear hc
    by_cases c32 : c.toNat = 32
    · have HA : Hid (AtW s.data.toList T false (kk + 1) acc) := atW_blank HD.out (by rw [ofc 32 (by decide) c32]; decide) HK.out
      rw [c32] at hctn
      clear ofc
      go_wp2
      go_roundg (s.size - (kk + 1))
      case measure => omega
      case rel => exact ⟨kk + 1, acc, by omega, by omega, by first | rfl | go_num, by first | omega | (simp; omega), ⟨HA.out⟩, ⟨HO.out⟩, ⟨HB.out⟩, ⟨HC.out⟩⟩
    by_cases c9 : c.toNat = 9
    · have HA : Hid (AtW s.data.toList T false (kk + 1) acc) := atW_blank HD.out (by rw [ofc 9 (by decide) c9]; decide) HK.out
      rw [c9] at hctn
      clear ofc
      go_wp2
      go_roundg (s.size - (kk + 1))
      case measure => omega
      case rel => exact ⟨kk + 1, acc, by omega, by omega, by first | rfl | go_num, by first | omega | (simp; omega), ⟨HA.out⟩, ⟨HO.out⟩, ⟨HB.out⟩, ⟨HC.out⟩⟩
    by_cases c10 : c.toNat = 10
    · have HA : Hid (AtW s.data.toList T false (kk + 1) acc) := atW_blank HD.out (by rw [ofc 10 (by decide) c10]; decide) HK.out
      rw [c10] at hctn
      clear ofc
      go_wp2
      go_roundg (s.size - (kk + 1))
      case measure => omega
      case rel => exact ⟨kk + 1, acc, by omega, by omega, by first | rfl | go_num, by first | omega | (simp; omega), ⟨HA.out⟩, ⟨HO.out⟩, ⟨HB.out⟩, ⟨HC.out⟩⟩
    by_cases c13 : c.toNat = 13
    · have HA : Hid (AtW s.data.toList T false (kk + 1) acc) := atW_blank HD.out (by rw [ofc 13 (by decide) c13]; decide) HK.out
      rw [c13] at hctn
      clear ofc
      go_wp2
      go_roundg (s.size - (kk + 1))
      case measure => omega
      case rel => exact ⟨kk + 1, acc, by omega, by omega, by first | rfl | go_num, by first | omega | (simp; omega), ⟨HA.out⟩, ⟨HO.out⟩, ⟨HB.out⟩, ⟨HC.out⟩⟩
    by_cases c35 : c.toNat = 35
    · have HA : Hid (AtW s.data.toList T true (kk + 1) acc) := atW_hash (by rw [HD.out, ofc 35 (by decide) c35]; rfl) HK.out
      rw [c35] at hctn
      clear ofc c32 c9 c10 c13 c35
      go_wp2_with fail
      go_loopg [5] s.size (fun gg s5 wr' => ∃ k : Nat, kk ≤ k ∧ k ≤ s.size ∧ s.size - k ≤ gg ∧ s5 = .int .i64 k ∧ Aside0 (kk < k → AtW s.data.toList T true k acc) ∧ wr' = wr)
      case atStart => exact ⟨kk, by omega, by omega, by omega, rfl, ⟨fun h => absurd h (Nat.lt_irrefl _)⟩, rfl⟩
      case round =>
       obtain ⟨k, hk1, hk2, hgk2, rfl, HW, rfl⟩ := hrel
       by_cases hkl : k < s.size
       · have hklz : (k : Int) < (s.size : Int) := by omega
         rcases Nat.eq_or_lt_of_le hk1 with he | hkk1
         · subst he
           go_wp2
           go_roundg (s.size - (kk + 1))
           case measure => omega
           case rel => exact ⟨kk + 1, by omega, by omega, by omega, by first | rfl | go_num, ⟨fun _ => HA.out⟩, rfl⟩
         · have HDk : Hid (s.data.toList.drop k = s[k] :: s.data.toList.drop (k + 1)) := drop_at s k hkl
           by_cases d10 : s[k].toNat = 10
           · have HX : Hid (AtW s.data.toList T false k acc) := atW_nl (by rw [HDk.out, show s[k] = 10 from (byte_iff s[k] 10 10 rfl).2 d10]) (HW.out hkk1)
             go_wp2
             go_roundg (s.size - (k))
             case measure => omega
             case rel => exact ⟨k, acc, by omega, by omega, by first | rfl | go_num, by first | omega | (simp; omega), ⟨HX.out⟩, ⟨HO.out⟩, ⟨HB.out⟩, ⟨HC.out⟩⟩
           · have HX : Hid (AtW s.data.toList T true (k + 1) acc) := atW_com HDk.out (fun h => d10 ((byte_iff s[k] 10 10 rfl).1 h)) (HW.out hkk1)
             have e10 : ((s[k].toNat : Int) != 10) = true := by simp; omega
             have e10' : ¬ (s[k].toNat : Int) = 10 := by omega
             go_wp2
             go_roundg (s.size - (k + 1))
             case measure => omega
             case rel => exact ⟨k + 1, by omega, by omega, by omega, by first | rfl | go_num, ⟨fun _ => HX.out⟩, rfl⟩
       · have hklz : ¬ (k : Int) < (s.size : Int) := by omega
         have HX : Hid (AtW s.data.toList T false k acc) := atW_out (by rw [HLen.out]; omega) (HW.out (by omega))
         go_wp2
         go_roundg (s.size - (k))
         case measure => omega
         case rel => exact ⟨k, acc, by omega, by omega, by first | rfl | go_num, by first | omega | (simp; omega), ⟨HX.out⟩, ⟨HO.out⟩, ⟨HB.out⟩, ⟨HC.out⟩⟩
    have f32 : ((c.toNat : Int) == 32) = false := by rw [beq_eq_false_iff_ne]; omega
    have f9 : ((c.toNat : Int) == 9) = false := by rw [beq_eq_false_iff_ne]; omega
    have f10 : ((c.toNat : Int) == 10) = false := by rw [beq_eq_false_iff_ne]; omega
    have f13 : ((c.toNat : Int) == 13) = false := by rw [beq_eq_false_iff_ne]; omega
    have f35 : ((c.toNat : Int) == 35) = false := by rw [beq_eq_false_iff_ne]; omega
    have hbl : blankB c = false := by
     unfold blankB
     rw [Bool.eq_false_iff]
     simp only [ne_eq, Bool.or_eq_true, beq_iff_eq, not_or]
     refine ⟨⟨⟨fun h => c32 (by rw [h]; rfl), fun h => c10 (by rw [h]; rfl)⟩, fun h => c9 (by rw [h]; rfl)⟩, fun h => c13 (by rw [h]; rfl)⟩
    have h35 : c ≠ 35 := fun h => c35 (by rw [h]; rfl)
    have HBl := Lib.hid hbl
    have H35 := Lib.hid h35
    clear c32 c9 c10 c13 c35 hbl h35
    have hsc := fun W => sign_calls (c.toNat : Int) W
    by_cases hl : letU c = true
    · have HRn : Hid (0 < runL (s.data.toList.drop kk)) := by show 0 < _; rw [HD.out, runL_cons, if_pos hl]; omega
      have HRl : Hid (runL (s.data.toList.drop kk) ≤ s.size - kk) := by show _ ≤ _; have := runL_le (s.data.toList.drop kk); rw [List.length_drop, HLen.out] at this; exact this
      have hls : sigB (c.toNat : Int) = true ∨ sigB (c.toNat : Int) = false ∧ ((c.toNat : Int) == 47) = true := by
       have : letB (c.toNat : Int) = true := hl
       rw [let_sig] at this
       cases hsb : sigB (c.toNat : Int) with
       | true => exact .inl rfl
       | false => rw [hsb] at this; exact .inr ⟨rfl, by simpa using this⟩
      clear ofc hl
      rcases hls with hls | ⟨hls, h47⟩
      all_goals
       rw [hls] at hsc
       go_wp2_with (go_at_call 42; refine (hsc _).mono ?_; rintro e w' ⟨rfl, rfl⟩)
       go_loopg [7] s.size (fun gg s7 wr' => ∃ k : Nat, kk ≤ k ∧ k ≤ s.size ∧ s.size - k ≤ gg ∧ s7 = .int .i64 k ∧ Aside0 (k + runL (s.data.toList.drop k) = kk + runL (s.data.toList.drop kk)) ∧ wr' = wr)
       case atStart => exact ⟨kk, by omega, by omega, by omega, rfl, ⟨rfl⟩, rfl⟩
       case round =>
        obtain ⟨k, hk1, hk2, hgk2, rfl, HW, rfl⟩ := hrel
        by_cases hkl : k < s.size
        · have hklz : (k : Int) < (s.size : Int) := by omega
          have HDk : Hid (s.data.toList.drop k = s[k] :: s.data.toList.drop (k + 1)) := drop_at s k hkl
          have hsd := fun W => sign_calls (s[k].toNat : Int) W
          have hlq : letU s[k] = (sigB (s[k].toNat : Int) || (s[k].toNat : Int) == 47) := rfl
          cases hsb : sigB (s[k].toNat : Int) with
          | true =>
           rw [hsb] at hsd hlq
           have HN : Hid (k + 1 + runL (s.data.toList.drop (k + 1)) = kk + runL (s.data.toList.drop kk)) := by
            show _ = _
            rw [← HW.out, HDk.out, runL_cons, if_pos (by rw [hlq]; rfl)]
            omega
           clear hlq
           go_wp2_with (go_at_call 42; refine (hsd _).mono ?_; rintro e w' ⟨rfl, rfl⟩)
           go_roundg (s.size - (k + 1))
           case measure => omega
           case rel => exact ⟨k + 1, by omega, by omega, by omega, by first | rfl | go_num, ⟨HN.out⟩, rfl⟩
          | false =>
           rw [hsb] at hsd hlq
           cases h4 : ((s[k].toNat : Int) == 47) with
           | true =>
            rw [h4] at hlq
            have HN : Hid (k + 1 + runL (s.data.toList.drop (k + 1)) = kk + runL (s.data.toList.drop kk)) := by
             show _ = _
             rw [← HW.out, HDk.out, runL_cons, if_pos (by rw [hlq]; rfl)]
             omega
            clear hlq
            go_wp2_with (go_at_call 42; refine (hsd _).mono ?_; rintro e w' ⟨rfl, rfl⟩)
            go_roundg (s.size - (k + 1))
            case measure => omega
            case rel => exact ⟨k + 1, by omega, by omega, by omega, by first | rfl | go_num, ⟨HN.out⟩, rfl⟩
           | false =>
            rw [h4] at hlq
            have HN : Hid (runL (s.data.toList.drop kk) = k - kk) := by
             show _ = _
             have := HW.out
             rw [HDk.out, runL_cons, if_neg (by rw [hlq]; decide)] at this
             omega
            clear hlq
            have hkk1 : kk < k := by have := HRn.out; rw [HN.out] at this; omega
            have HX : Hid (AtW s.data.toList T false k (acc ++ [⟨1, (kk : Nat), s.extract kk k⟩])) := by
             have hq : wordF (s.data.toList.drop kk) = some (1, (s.data.toList.drop kk).take (k - kk), k - kk) := by unfold wordF; rw [if_pos HRn.out, HN.out]
             have h := atW_word hq HK.out
             rw [show kk + (k - kk) = k by omega, ← extract_mk] at h
             exact h
            have hsl1 : (kk : Int) ≤ (k : Int) := by omega
            have hsl2 : (k : Int) ≤ (s.size : Int) := by omega
            go_wp2_with (first | ((with_reducible refine gate_builtin (b := .append) (xs := #[.tmp 78, .tmp 85]) rfl ?_); at_builtin; refine Kd.R_append k34 (w0 := w) w.heap.size rfl (.tmp 78) (.tmp 85) 24 34 (.agg #[.int .i64 0, .int .i64 0, .string ⟨#[]⟩]) 32 rfl Tryz.underlying24 infoW rfl (by decide) (by decide) u4 acc ⟨1, (kk : Nat), s.extract kk k⟩ [.int .i64 1, .int .i64 (kk : Nat), .string (s.extract kk k)] (fun _ => True) (fun k_ => True ∧ some k_ ≠ u4.ownBlock) rfl (by first | rfl | (go_simp; done) | (go_simp; rfl)) (k34_mkM _ _ _ ⟨1, (kk : Nat), s.extract kk k⟩) (fun _ hk => hk) (fun _ _ => trivial) HO.out HB.out HWB.out ?aL ?_; (case aL => omega); intro v1 w4 ho hb hg hat; have hblk := (hg.block w.heap.size (blk_lt HC.out) HNE.out).trans HC.out; have HO4 := Lib.hid ho; have HB4 := Lib.hid hb; have HBlk := Lib.hid hblk; clear ho hb hg hat hblk) | (go_at_call 42; refine (hsd _).mono ?_; rintro e w' ⟨rfl, rfl⟩))
            go_roundg (s.size - (k))
            case measure => omega
            case rel => exact ⟨k, acc ++ [⟨1, (kk : Nat), s.extract kk k⟩], by omega, by omega, by first | rfl | go_num, by first | omega | (simp; omega), ⟨HX.out⟩, ⟨HO4.out⟩, ⟨HB4.out⟩, ⟨HBlk.out⟩⟩
        · have hklz : ¬ (k : Int) < (s.size : Int) := by omega
          have HN : Hid (runL (s.data.toList.drop kk) = k - kk) := by
           show _ = _
           have := HW.out
           rw [List.drop_eq_nil_of_le (by rw [HLen.out]; omega), show runL [] = 0 from rfl] at this
           omega
          have hkk1 : kk < k := by omega
          have HX : Hid (AtW s.data.toList T false k (acc ++ [⟨1, (kk : Nat), s.extract kk k⟩])) := by
           have hq : wordF (s.data.toList.drop kk) = some (1, (s.data.toList.drop kk).take (k - kk), k - kk) := by unfold wordF; rw [if_pos HRn.out, HN.out]
           have h := atW_word hq HK.out
           rw [show kk + (k - kk) = k by omega, ← extract_mk] at h
           exact h
          have hsl1 : (kk : Int) ≤ (k : Int) := by omega
          have hsl2 : (k : Int) ≤ (s.size : Int) := by omega
          go_wp2_with (first | ((with_reducible refine gate_builtin (b := .append) (xs := #[.tmp 78, .tmp 85]) rfl ?_); at_builtin; refine Kd.R_append k34 (w0 := w) w.heap.size rfl (.tmp 78) (.tmp 85) 24 34 (.agg #[.int .i64 0, .int .i64 0, .string ⟨#[]⟩]) 32 rfl Tryz.underlying24 infoW rfl (by decide) (by decide) u4 acc ⟨1, (kk : Nat), s.extract kk k⟩ [.int .i64 1, .int .i64 (kk : Nat), .string (s.extract kk k)] (fun _ => True) (fun k_ => True ∧ some k_ ≠ u4.ownBlock) rfl (by first | rfl | (go_simp; done) | (go_simp; rfl)) (k34_mkM _ _ _ ⟨1, (kk : Nat), s.extract kk k⟩) (fun _ hk => hk) (fun _ _ => trivial) HO.out HB.out HWB.out ?aL ?_; (case aL => omega); intro v1 w4 ho hb hg hat; have hblk := (hg.block w.heap.size (blk_lt HC.out) HNE.out).trans HC.out; have HO4 := Lib.hid ho; have HB4 := Lib.hid hb; have HBlk := Lib.hid hblk; clear ho hb hg hat hblk))
          go_roundg (s.size - (k))
          case measure => omega
          case rel => exact ⟨k, acc ++ [⟨1, (kk : Nat), s.extract kk k⟩], by omega, by omega, by first | rfl | go_num, by first | omega | (simp; omega), ⟨HX.out⟩, ⟨HO4.out⟩, ⟨HB4.out⟩, ⟨HBlk.out⟩⟩
    have hls : sigB (c.toNat : Int) = false := by
     have : ¬ letB (c.toNat : Int) = true := hl
     rw [let_sig] at this
     cases hsb : sigB (c.toNat : Int) with
     | true => rw [hsb] at this; exact absurd rfl this
     | false => rfl
    have h47 : ((c.toNat : Int) == 47) = false := by
     have : ¬ letB (c.toNat : Int) = true := hl
     rw [let_sig, hls] at this
     simpa using this
    by_cases hp : c.toNat = 123 ∨ c.toNat = 125 ∨ c.toNat = 44 ∨ c.toNat = 59 ∨ c.toNat = 61 ∨ c.toNat = 40 ∨ c.toNat = 41 ∨ c.toNat = 43 ∨ c.toNat = 94 ∨ c.toNat = 58 ∨ c.toNat = 36
    · rcases hp with d | d | d | d | d | d | d | d | d | d | d
      all_goals as_aux_lemma =>
       have hX := atW_word (word_punct_at HD.out (by rw [show c = UInt8.ofNat c.toNat by simp, d]; decide)) HK.out
       have HX : Hid (AtW s.data.toList T false (kk + 1) (acc ++ [⟨3, (kk : Nat), s.extract kk (kk + 1)⟩])) := by
        show AtW _ _ _ _ _
        rw [extract_mk, show kk + 1 - kk = 1 by omega, HD.out]
        exact hX
       clear hX
       rw [hls] at hsc
       rw [d] at hctn hsc
       clear ofc f32 f9 f10 f13 f35 hl hls h47
       have hk1z : (kk : Int) + 1 ≤ (s.size : Int) := by omega
       go_wp2_with (first | ((with_reducible refine gate_builtin (b := .append) (xs := #[.tmp 153, .tmp 161]) rfl ?_); at_builtin; refine Kd.R_append k34 (w0 := w) w.heap.size rfl (.tmp 153) (.tmp 161) 24 34 (.agg #[.int .i64 0, .int .i64 0, .string ⟨#[]⟩]) 32 rfl Tryz.underlying24 infoW rfl (by decide) (by decide) u4 acc ⟨3, (kk : Nat), s.extract kk (kk + 1)⟩ [.int .i64 3, .int .i64 (kk : Nat), .string (s.extract kk (kk + 1))] (fun _ => True) (fun k_ => True ∧ some k_ ≠ u4.ownBlock) rfl (by first | rfl | (go_simp; done) | (go_simp; rfl)) (k34_mkM _ _ _ ⟨3, (kk : Nat), s.extract kk (kk + 1)⟩) (fun _ hk => hk) (fun _ _ => trivial) HO.out HB.out HWB.out ?aL ?_; (case aL => omega); intro v1 w4 ho hb hg hat; have hblk := (hg.block w.heap.size (blk_lt HC.out) HNE.out).trans HC.out; have HO4 := Lib.hid ho; have HB4 := Lib.hid hb; have HBlk := Lib.hid hblk; clear ho hb hg hat hblk) | (go_at_call 42; refine (hsc _).mono ?_; rintro e w' ⟨rfl, rfl⟩))
       go_roundg (s.size - (kk + 1))
       case measure => omega
       case rel => exact ⟨kk + 1, acc ++ [⟨3, (kk : Nat), s.extract kk (kk + 1)⟩], by omega, by omega, by first | rfl | go_num, by first | omega | (simp; omega), ⟨HX.out⟩, ⟨HO4.out⟩, ⟨HB4.out⟩, ⟨HBlk.out⟩⟩
    simp only [not_or] at hp
    obtain ⟨d123, d125, d44, d59, d61, d40, d41, d43, d94, d58, d36⟩ := hp
    by_cases d34 : c.toNat = 34
    · as_aux_lemma =>
       have hr : s.data.toList.drop kk = 34 :: s.data.toList.drop (kk + 1) := by rw [HD.out, ofc 34 (by decide) d34]; rfl
       have hws := word_str hr
       have hrl : (s.data.toList.drop (kk + 1)).length = s.size - (kk + 1) := by rw [List.length_drop, HLen.out]
       rw [hrl] at hws
       have hst : ∀ W, Calls Tryz.prog 43 #[.string s, .int .i64 ((kk : Int) + 1)] W fun e w' => e = .returned (strR ((textF (s.size - (kk + 1) + 1) (s.data.toList.drop (kk + 1))).map fun p => (p.1, kk + 1 + p.2))) ∧ Below W.heap.size W w' := fun W => by
        have h := str_calls s (kk + 1) (by omega) hs W
        rwa [show ((kk + 1 : Nat) : Int) = (kk : Int) + 1 from by omega] at h
       rw [d34] at hctn hsc
       rw [show sigB ((34 : Nat) : Int) = false from by decide] at hsc
       clear ofc f32 f9 f10 f13 f35 hl hls h47
       cases htx : textF (s.size - (kk + 1) + 1) (s.data.toList.drop (kk + 1)) with
       | none =>
        rw [htx] at hst hws
        have HV : Hid (allR T = ([], 1, ((kk : Nat) : Int))) := by
         show _ = _
         rw [atW_none HD.out hws HBl.out H35.out HK.out]
         rfl
        have HSt := Lib.hid hst
        clear hst hws htx hr hrl
        go_wp2_with (first | (go_at_call 42; refine (hsc _).mono ?_; rintro e w' ⟨rfl, rfl⟩) | (go_at_call 43; refine (HSt.out _).mono ?_; rintro e w2 ⟨rfl, hb2⟩; have HC2 := Lib.hid ((hb2.block w.heap.size (blk_lt HC.out)).trans HC.out); have HB2 := Lib.hid (below_then HB.out HB.out.size hb2); have hc0 : w2.cell? ⟨w.heap.size, 0, none⟩ = some (.int .i64 0) := (blk_cell HC2.out 0).trans rfl; have hc1 : w2.cell? ⟨w.heap.size, 1, none⟩ = some (.int .i64 0) := (blk_cell HC2.out 1).trans rfl; have hf0 := blk_frozen HC2.out 0; have hf1 := blk_frozen HC2.out 1; clear hb2; simp only [Option.map_none, strR]))
        have hs2 := two_set (.int .i64 1) (.int .i64 kk) HC2.out
        have hB5 : Below w.heap.size w ((w2.setCell ⟨w.heap.size, 0, none⟩ (.int .i64 1)).setCell ⟨w.heap.size, 1, none⟩ (.int .i64 kk)) := (HB2.out.setCell (Nat.le_refl _) _).setCell (Nat.le_refl _) _
        generalize (w2.setCell ⟨w.heap.size, 0, none⟩ (.int .i64 1)).setCell ⟨w.heap.size, 1, none⟩ (.int .i64 kk) = w5 at hs2 hB5 ⊢
        have g0 := (blk_cell hs2 0).trans rfl
        have g1 := (blk_cell hs2 1).trans rfl
        exact bodyPost_ret (v := .tuple #[.slice none 0 0, .agg #[.int .i64 1, .int .i64 kk]]) (by simp [results, Tryz.results19, go_sem, g0, g1]) rfl (by
         rw [HV.out]
         exact ⟨_, rfl, Kd.R_nil _ _ _ _ _, hB5⟩)
       | some p =>
        rw [htx] at hst hws
        have hpl := text_len _ _ _ htx
        rw [hrl] at hpl
        have HX : Hid (AtW s.data.toList T false (kk + 1 + p.2) (acc ++ [⟨2, (kk : Nat), mk p.1⟩])) := by
         have h := atW_word hws HK.out
         rw [show kk + 1 + p.2 = kk + (p.2 + 1) by omega]
         exact h
        have HSt := Lib.hid hst
        clear hst hws htx hr hrl
        go_wp2_with (first | ((with_reducible refine gate_builtin (b := .append) (xs := #[.tmp 103, .tmp 107]) rfl ?_); at_builtin; refine Kd.R_append k34 (w0 := w) w.heap.size rfl (.tmp 103) (.tmp 107) 24 34 (.agg #[.int .i64 0, .int .i64 0, .string ⟨#[]⟩]) 32 rfl Tryz.underlying24 infoW rfl (by decide) (by decide) u4 acc ⟨2, (kk : Nat), mk p.1⟩ [.int .i64 2, .int .i64 (kk : Nat), .string (mk p.1)] (fun _ => True) (fun k_ => True ∧ some k_ ≠ u4.ownBlock) rfl (by first | rfl | (go_simp; done) | (go_simp; rfl)) (k34_mkM _ _ _ ⟨2, (kk : Nat), mk p.1⟩) (fun _ hk => hk) (fun _ _ => trivial) HO2.out HB2.out HWB2.out ?aL ?_; (case aL => omega); intro v1 w4 ho hb hg hat; have hblk := (hg.block w.heap.size (blk_lt HC2.out) HNE.out).trans HC2.out; have HO4 := Lib.hid ho; have HB4 := Lib.hid hb; have HBlk := Lib.hid hblk; clear ho hb hg hat hblk) | (go_at_call 42; refine (hsc _).mono ?_; rintro e w' ⟨rfl, rfl⟩) | (go_at_call 43; refine (HSt.out _).mono ?_; rintro e w2 ⟨rfl, hb2⟩; have HC2 := Lib.hid ((hb2.block w.heap.size (blk_lt HC.out)).trans HC.out); have HB2 := Lib.hid (below_then HB.out HB.out.size hb2); have HO2 := Lib.hid (Kd.R_below HO.out hb2); have HWB2 : Hid (w.heap.size ≤ w2.heap.size) := HB2.out.size; clear hb2; simp only [Option.map_some, strR]))
        go_roundg (s.size - (kk + 1 + p.2))
        case measure => omega
        case rel => exact ⟨kk + 1 + p.2, acc ++ [⟨2, (kk : Nat), mk p.1⟩], by omega, by omega, by first | rfl | go_num, by first | omega | (simp; omega), ⟨HX.out⟩, ⟨HO4.out⟩, ⟨HB4.out⟩, ⟨HBlk.out⟩⟩
    have f123 : ((c.toNat : Int) == 123) = false := by rw [beq_eq_false_iff_ne]; omega
    have f125 : ((c.toNat : Int) == 125) = false := by rw [beq_eq_false_iff_ne]; omega
    have f44 : ((c.toNat : Int) == 44) = false := by rw [beq_eq_false_iff_ne]; omega
    have f59 : ((c.toNat : Int) == 59) = false := by rw [beq_eq_false_iff_ne]; omega
    have f61 : ((c.toNat : Int) == 61) = false := by rw [beq_eq_false_iff_ne]; omega
    have f40 : ((c.toNat : Int) == 40) = false := by rw [beq_eq_false_iff_ne]; omega
    have f41 : ((c.toNat : Int) == 41) = false := by rw [beq_eq_false_iff_ne]; omega
    have f43 : ((c.toNat : Int) == 43) = false := by rw [beq_eq_false_iff_ne]; omega
    have f94 : ((c.toNat : Int) == 94) = false := by rw [beq_eq_false_iff_ne]; omega
    have f58 : ((c.toNat : Int) == 58) = false := by rw [beq_eq_false_iff_ne]; omega
    have f36 : ((c.toNat : Int) == 36) = false := by rw [beq_eq_false_iff_ne]; omega
    have f34 : ((c.toNat : Int) == 34) = false := by rw [beq_eq_false_iff_ne]; omega
    have HV : Hid (allR T = ([], 1, ((kk : Nat) : Int))) := by
     show _ = _
     have hp := punct_tells c.toNat hcn
     rw [show UInt8.ofNat c.toNat = c by simp] at hp
     have hp2 : punctB c = false := by rw [hp]; simp only [Bool.or_eq_false_iff, beq_eq_false_iff_ne]; omega
     rw [atW_none HD.out (by rw [HD.out]; exact word_bad (by simpa using hl) (fun h => d34 (by rw [h]; rfl)) hp2) HBl.out H35.out HK.out]
     rfl
    have hc0 : wr.cell? ⟨w.heap.size, 0, none⟩ = some (.int .i64 0) := (blk_cell HC.out 0).trans rfl
    have hc1 : wr.cell? ⟨w.heap.size, 1, none⟩ = some (.int .i64 0) := (blk_cell HC.out 1).trans rfl
    have hf0 := blk_frozen HC.out 0
    have hf1 := blk_frozen HC.out 1
    clear ofc hl d123 d125 d44 d59 d61 d40 d41 d43 d94 d58 d36 d34
    go_wp2_with (go_at_call 42; refine (hsc _).mono ?_; rintro e w' ⟨rfl, rfl⟩)
    have hs2 := two_set (.int .i64 1) (.int .i64 kk) HC.out
    have hB5 : Below w.heap.size w ((wr.setCell ⟨w.heap.size, 0, none⟩ (.int .i64 1)).setCell ⟨w.heap.size, 1, none⟩ (.int .i64 kk)) := (HB.out.setCell (Nat.le_refl _) _).setCell (Nat.le_refl _) _
    generalize (wr.setCell ⟨w.heap.size, 0, none⟩ (.int .i64 1)).setCell ⟨w.heap.size, 1, none⟩ (.int .i64 kk) = w5 at hs2 hB5 ⊢
    have g0 := (blk_cell hs2 0).trans rfl
    have g1 := (blk_cell hs2 1).trans rfl
    exact bodyPost_ret (v := .tuple #[.slice none 0 0, .agg #[.int .i64 1, .int .i64 kk]]) (by simp [results, Tryz.results19, go_sem, g0, g1]) rfl (by
     rw [HV.out]
     exact ⟨_, rfl, Kd.R_nil _ _ _ _ _, hB5⟩)
  · have hltz : ¬ (kk : Int) < (s.size : Int) := by omega
    have HV : Hid (allR T = (acc ++ [⟨4, (s.size : Nat), ⟨#[]⟩⟩], 0, 0)) := by
     show _ = _
     rw [atW_end (by rw [HLen.out]; omega) HK.out, HLen.out]
     rfl
    go_wp2_with (first | ((with_reducible refine gate_builtin (b := .append) (xs := #[.tmp 165, .tmp 169]) rfl ?_); at_builtin; refine Kd.R_append k34 (w0 := w) w.heap.size rfl (.tmp 165) (.tmp 169) 24 34 (.agg #[.int .i64 0, .int .i64 0, .string ⟨#[]⟩]) 32 rfl Tryz.underlying24 infoW rfl (by decide) (by decide) u4 acc ⟨4, (s.size : Nat), ⟨#[]⟩⟩ [.int .i64 4, .int .i64 (s.size : Nat), .string ⟨#[]⟩] (fun _ => True) (fun k_ => True ∧ some k_ ≠ u4.ownBlock) rfl (by first | rfl | (go_simp; done) | (go_simp; rfl)) (k34_mkM _ _ _ ⟨4, (s.size : Nat), ⟨#[]⟩⟩) (fun _ hk => hk) (fun _ _ => trivial) HO.out HB.out HWB.out ?aL ?_; (case aL => omega); intro v1 w4 ho hb hg hat; have hblk := (hg.block w.heap.size (blk_lt HC.out) HNE.out).trans HC.out; have HO4 := Lib.hid ho; have HB4 := Lib.hid hb; have hc0 : w4.cell? ⟨w.heap.size, 0, none⟩ = some (.int .i64 0) := (blk_cell hblk 0).trans rfl; have hc1 : w4.cell? ⟨w.heap.size, 1, none⟩ = some (.int .i64 0) := (blk_cell hblk 1).trans rfl; have hf0 := blk_frozen hblk 0; have hf1 := blk_frozen hblk 1; have HBlk := Lib.hid hblk; clear ho hb hg hat hblk))
    have hs2 := two_set (.int .i64 0) (.int .i64 0) HBlk.out
    have hR5 := words_far (.int .i64 0) (.int .i64 0) HO4.out HBlk.out (by decide)
    have hB5 : Below w.heap.size w ((w4.setCell ⟨w.heap.size, 0, none⟩ (.int .i64 0)).setCell ⟨w.heap.size, 1, none⟩ (.int .i64 0)) := (HB4.out.setCell (Nat.le_refl _) _).setCell (Nat.le_refl _) _
    generalize (w4.setCell ⟨w.heap.size, 0, none⟩ (.int .i64 0)).setCell ⟨w.heap.size, 1, none⟩ (.int .i64 0) = w5 at hs2 hR5 hB5 ⊢
    have g0 := (blk_cell hs2 0).trans rfl
    have g1 := (blk_cell hs2 1).trans rfl
    exact bodyPost_ret (v := .tuple #[v1, .agg #[.int .i64 0, .int .i64 0]]) (by simp [results, Tryz.results19, go_sem, g0, g1]) rfl (by
     rw [HV.out]
     exact ⟨v1, rfl, hR5, hB5⟩)

end Go.Proofs.YthagibkmfgodgaaGreatDoor.X

namespace Go.Proofs.YthagibkmfgodgaaGreatDoor.X
open Go.RowKit Go.Maps Go.Proofs.YthagibkmfgodgaaGreatDoorW.PrintWords Go.Proofs.YthagibkmfgodgaaGreatDoorW.PrintMore Go.Proofs.YthagibkmfgodgaaGreatDoorW.PrintLast

theorem fileR_of (l : List SWord) : fileR l = if (rulesR (l.length + 1) (l, -1)).2.2 < 0 then ((rulesR (l.length + 1) (l, -1)).1, 0, 0) else ([], 1, (rulesR (l.length + 1) (l, -1)).2.2) := rfl
theorem good_ruleR {s : PS} (h : GoodW s.1) : GoodW (ruleR s).2.1 := by rw [(rule_agree s h).1]; exact inv_good.rule h
theorem mS_ruleR {s : PS} (hg : GoodW s.1) (hs : s.2 < 0) : mS (ruleR s).2 < mS s := by rw [(rule_agree s hg).1]; exact mS_rule hg hs
theorem rulesR_fuel : ∀ (n m : Nat) (s : PS), GoodW s.1 → mS s ≤ n → mS s ≤ m → rulesR n s = rulesR m s
 | 0, 0, _, _, _, _ => rfl
 | 0, m + 1, s, hg, h, _ => by
  unfold rulesR
  rw [if_neg (fun hc => by have := List.length_pos_iff.2 hg.ne; unfold mS at h; omega)]
 | n + 1, 0, s, hg, _, h => by
  unfold rulesR
  rw [if_neg (fun hc => by have := List.length_pos_iff.2 hg.ne; unfold mS at h; omega)]
 | n + 1, m + 1, s, hg, h1, h2 => by
  unfold rulesR
  by_cases hc : s.2 < 0 ∧ (headW s.1).f0 ≠ 4
  · rw [if_pos hc, if_pos hc]
    have := mS_ruleR hg hc.1
    rw [rulesR_fuel n m _ (good_ruleR hg) (by omega) (by omega)]
  · rw [if_neg hc, if_neg hc]

set_option maxHeartbeats 8000000 in
set_option maxRecDepth 100000 in
theorem rfile_calls (s : ByteArray) (w : World) (hG : GOK w) :
 Calls Tryz.prog 44 #[.string s] w (IsFileR (fileT s.data.toList) w) := by
 have HG := Lib.hid hG
 clear hG
 by_cases hbig : 20000 < s.size
 · have hd : decide ((20000 : Int) < (s.size : Int)) = true := by simp; omega
   have HV : Hid (fileT s.data.toList = ([], 4, -1)) := by
    show _ = _
    unfold fileT
    rw [if_pos (by rw [← Lib.size_eq]; exact hbig)]
   clear hbig
   go_enter Tryz.func44, Tryz.ntmps44
   go_wp2
   have hs := blk_new w (.cells #[.int .i64 4, .int .i64 (-1)] 27)
   have hB := (Below.refl w.heap.size w).alloc (Nat.le_refl _) (.cells #[.int .i64 4, .int .i64 (-1)] 27)
   generalize w.alloc (.cells #[.int .i64 4, .int .i64 (-1)] 27) = wE at hs hB ⊢
   have g0 := (blk_cell hs 0).trans rfl
   have g1 := (blk_cell hs 1).trans rfl
   exact bodyPost_ret (v := .tuple #[.slice none 0 0, .agg #[.int .i64 4, .int .i64 (-1)]]) (by simp [results, Tryz.results44, go_sem, g0, g1]) rfl (by
    rw [HV.out]
    exact ⟨_, rfl, Kd.R_nil _ _ _ _ _, hB⟩)
 · have hd : decide ((20000 : Int) < (s.size : Int)) = false := by simp; omega
   have hlen : s.data.toList.length ≤ 20000 := by rw [← Lib.size_eq]; omega
   have hA := fun W => refAll_calls s (by omega) W
   have hV : fileT s.data.toList = match allF s.data.toList with | .error p => ([], 1, (p : Nat)) | .ok l => fileP l := by
    unfold fileT
    rw [if_neg (by omega)]
    rfl
   clear hbig
   cases hall : allF s.data.toList with
   | error p =>
    have HV : Hid (fileT s.data.toList = ([], 1, ((p : Nat) : Int))) := by show _ = _; rw [hV, hall]
    rw [hall] at hA
    replace hA : ∀ W, Calls Tryz.prog 19 #[.string s] W (IsAllR ([], 1, (p : Nat)) W) := hA
    clear hV hall hlen
    go_enter Tryz.func44, Tryz.ntmps44
    go_wp2_with fail
    refine (hA _).mono ?_
    rintro e w1 ⟨v0, rfl, hr1, hb1⟩
    have hR1 := blk_below (blk_new w (.cells #[.int .i64 0, .int .i64 0] 27)) hb1
    have HB1 := Lib.hid (below_then ((Below.refl w.heap.size w).alloc (Nat.le_refl _) (.cells #[.int .i64 0, .int .i64 0] 27)) (by simp) hb1)
    obtain ⟨A0, c0, rfl, _, _⟩ := Kd.R_reads hr1
    have hR2 := blk_alloc hR1 (.cells #[.int .i64 1, .int .i64 (p : Nat)] 27)
    have hE2 := blk_new w1 (.cells #[.int .i64 1, .int .i64 (p : Nat)] 27)
    have HB2 := Lib.hid (HB1.out.alloc HB1.out.size (.cells #[.int .i64 1, .int .i64 (p : Nat)] 27))
    clear hA hb1 hr1 hR1 HB1
    go_wp2
    generalize w1.alloc (.cells #[.int .i64 1, .int .i64 (p : Nat)] 27) = w2 at hR2 hE2 HB2 ⊢
    generalize w1.heap.size = E at hE2 ⊢
    have HR2 := Lib.hid hR2
    have k0 : w2.cell? ⟨E, 0, none⟩ = some (.int .i64 1) := (blk_cell hE2 0).trans rfl
    have k1 : w2.cell? ⟨E, 1, none⟩ = some (.int .i64 (p : Nat)) := (blk_cell hE2 1).trans rfl
    have r0 : w2.cell? ⟨w.heap.size, 0, none⟩ = some (.int .i64 0) := (blk_cell hR2 0).trans rfl
    have r1 : w2.cell? ⟨w.heap.size, 1, none⟩ = some (.int .i64 0) := (blk_cell hR2 1).trans rfl
    have f0 : w2.frozen? ⟨w.heap.size, 0, none⟩ = false := blk_frozen hR2 0
    have f1 : w2.frozen? ⟨w.heap.size, 1, none⟩ = false := blk_frozen hR2 1
    clear hR2 hE2
    go_region
    all_goals
     have hs := two_set (.int .i64 1) (.int .i64 (p : Nat)) HR2.out
     have hB := (HB2.out.setCell (p := ⟨w.heap.size, 0, none⟩) (Nat.le_refl _) (.int .i64 1)).setCell (p := ⟨w.heap.size, 1, none⟩) (Nat.le_refl _) (.int .i64 (p : Nat))
     go_wp2
     have hs2 := blk_drew hs
     have hB2 := below_drew hB
     generalize ((w2.setCell ⟨w.heap.size, 0, none⟩ (.int .i64 1)).setCell ⟨w.heap.size, 1, none⟩ (.int .i64 (p : Nat))).drew = wE at hs2 hB2 ⊢
     have g0 := (blk_cell hs2 0).trans rfl
     have g1 := (blk_cell hs2 1).trans rfl
     exact bodyPost_ret (v := .tuple #[.slice none 0 0, .agg #[.int .i64 1, .int .i64 (p : Nat)]]) (by simp [results, Tryz.results44, go_sem, g0, g1]) rfl (by
      rw [HV.out]
      exact ⟨_, rfl, Kd.R_nil _ _ _ _ _, hB2⟩)
   | ok l =>
    have HV : Hid (fileT s.data.toList = fileP l) := by show _ = _; rw [hV, hall]
    have hgood : GoodW l := allF_good (by omega) hall
    have hll : l.length ≤ 20001 := Nat.le_trans (allF_len hall) (Nat.add_le_add_right hlen 1)
    rw [hall] at hA
    replace hA : ∀ W, Calls Tryz.prog 19 #[.string s] W (IsAllR (l, 0, 0) W) := hA
    have HGood := Lib.hid hgood
    clear hV hall hlen hgood
    go_enter Tryz.func44, Tryz.ntmps44
    go_wp2_with fail
    refine (hA _).mono ?_
    rintro e w1 ⟨v0, rfl, hr1, hb1⟩
    replace hr1 : Kd.R k34 34 w1 (w.alloc (.cells #[.int .i64 0, .int .i64 0] 27)).heap.size (fun _ => True) v0 l := hr1
    have hR1 := blk_below (blk_new w (.cells #[.int .i64 0, .int .i64 0] 27)) hb1
    have hB1 := below_then ((Below.refl w.heap.size w).alloc (Nat.le_refl _) (.cells #[.int .i64 0, .int .i64 0] 27)) (by simp) hb1
    obtain ⟨b, c, cur, rfl, hc, hbl, hwd⟩ := words_of hr1 HGood.out.ne
    have hs2 := blk_alloc hbl (.cells #[.int .i64 0, .int .i64 0] 27)
    have hs3 := blk_alloc hs2 (.cells #[.slice (some ⟨b, 0, none⟩) l.length c, .int .i64 0, .int .i64 (-1)] 94)
    have hp3 := blk_new (w1.alloc (.cells #[.int .i64 0, .int .i64 0] 27)) (.cells #[.slice (some ⟨b, 0, none⟩) l.length c, .int .i64 0, .int .i64 (-1)] 94)
    have hR3 := blk_alloc (blk_alloc hR1 (.cells #[.int .i64 0, .int .i64 0] 27)) (.cells #[.slice (some ⟨b, 0, none⟩) l.length c, .int .i64 0, .int .i64 (-1)] 94)
    have hB2 := hB1.alloc hB1.size (.cells #[.int .i64 0, .int .i64 0] 27)
    have hB3 := hB2.alloc hB2.size (.cells #[.slice (some ⟨b, 0, none⟩) l.length c, .int .i64 0, .int .i64 (-1)] 94)
    have hgs : (w1.alloc (.cells #[.int .i64 0, .int .i64 0] 27)).heap.size = w1.heap.size + 1 := by simp
    have hwl : w.heap.size < w1.heap.size := blk_lt hR1
    rw [hgs] at hp3
    have hF : FlyQ ((w1.alloc (.cells #[.int .i64 0, .int .i64 0] 27)).alloc (.cells #[.slice (some ⟨b, 0, none⟩) l.length c, .int .i64 0, .int .i64 (-1)] 94)) (w1.heap.size + 1) ((w1.alloc (.cells #[.int .i64 0, .int .i64 0] 27)).alloc (.cells #[.slice (some ⟨b, 0, none⟩) l.length c, .int .i64 0, .int .i64 (-1)] 94)) (l, -1) := by
     refine FlyQ.start ⟨⟨b, l.length, c, 0, cur, hp3, hc, Nat.zero_add _, by omega, hs3, hwd⟩, ⟨w, HG.out, by omega, hB3⟩, HGood.out, by show l.length ≤ 100000; omega⟩
    have HF := Lib.hid hF
    have HR := Lib.hid hR3
    have HB := Lib.hid hB3
    have hRg : w.heap.size < w1.heap.size + 1 := by omega
    clear hA hb1 hr1 hR1 hB1 hbl hwd hs2 hs3 hp3 hR3 hB2 hB3 hgs hF hwl hc
    go_wp2_with fail
    generalize (w1.alloc (.cells #[.int .i64 0, .int .i64 0] 27)).alloc (.cells #[.slice (some ⟨b, 0, none⟩) l.length c, .int .i64 0, .int .i64 (-1)] 94) = wg at HF HR HB ⊢
    generalize w1.heap.size + 1 = g at HF hRg ⊢
    go_loopg [7] (mS (l, -1)) (fun gg s7 wr => ∃ (acc : List SRule) (s2 : PS) (A : Option Addr) (c : Nat), s7 = .slice A acc.length c ∧ mS s2 ≤ gg ∧ acc.length + mS s2 ≤ mS (l, -1) ∧ Aside0 (acc ++ (rulesR (mS s2) s2).1 = (rulesR (mS (l, -1)) (l, -1)).1 ∧ (rulesR (mS s2) s2).2 = (rulesR (mS (l, -1)) (l, -1)).2) ∧
     Aside0 (Kd.R k49 49 wr wg.heap.size (fun _ => True) (.slice A acc.length c) acc) ∧ Aside0 (FlyQ wg g wr s2) ∧ Aside0 (wr.heap[w.heap.size]? = some (.cells #[.int .i64 0, .int .i64 0] 27 (0, 0))))
    case atStart => exact ⟨[], (l, -1), none, 0, rfl, Nat.le_refl _, by simp, ⟨by simp⟩, ⟨Kd.R_nil _ _ _ _ _⟩, ⟨HF.out⟩, ⟨HR.out⟩⟩
    case round =>
     obtain ⟨acc, s2, A, c, rfl, hgk, hal, HK, HA7, HF7, HR7⟩ := hrel
     obtain ⟨b2, n2_, cp, kk, cur2, hq⟩ := HF7.out.par.has
     have h0 : wr.cell? ⟨g, 0, none⟩ = some (.slice (some ⟨b2, 0, none⟩) n2_ cp) := (blk_cell hq.own 0).trans rfl
     have h1 : wr.cell? ⟨g, 1, none⟩ = some (.int .i64 (kk : Nat)) := (blk_cell hq.own 1).trans rfl
     have k0 := (hq.first HF7.out.par.good.ne).1
     have hkn := word_take hq HF7.out.par.good.ne
     have hkz : (kk : Int) < (n2_ : Int) := by omega
     have hOq : ∀ n : Nat, Calls Tryz.prog 73 #[.pointer (some ⟨g, 0, none⟩)] (wr.drewN n) fun e w' => e = .returned (.bool (decide (s2.2 < 0))) ∧ w' = wr.drewN n := fun n => (qok_calls g s2 _ (HF7.out.par.has.below (bdq (Below.refl _ _) n))).mono fun _ _ ⟨he, hw⟩ => ⟨he, hw.symm⟩
     have hO2 := fun W hW => qok_calls g s2 W hW
     clear hkn hq
     by_cases hb : s2.2 < 0
     · have hbd : decide (s2.2 < 0) = true := by simpa using hb
       rw [hbd] at hOq
       have HOq := Lib.hid hOq
       clear hOq
       by_cases hk : (headW s2.1).f0 = 4
       · have hkd : ((headW s2.1).f0 != 4) = false := by simpa using hk
         have HKn : acc = (rulesR (mS (l, -1)) (l, -1)).1 ∧ s2 = (rulesR (mS (l, -1)) (l, -1)).2 := by
          have hK := HK.out
          have h0 : rulesR (mS s2) s2 = ([], s2) := by
           generalize mS s2 = n
           cases n with
           | zero => rfl
           | succ n => unfold rulesR; rw [if_neg (fun h => h.2 hk)]
          rw [h0, List.append_nil] at hK
          exact hK
         have HV2 : Hid (fileT s.data.toList = (acc, 0, 0)) := by
          show _ = _
          rw [HV.out, ← file_agree l HGood.out, fileR_of, show l.length + 1 = mS (l, -1) from rfl, if_pos (by rw [← HKn.2]; exact hb), ← HKn.1]
         clear HKn HK HV hk hb
         go_wp2_with fail
         go_quiet ((go_at_call 73; exact Calls.quiet_of_same (HOq.out _)))
         have HF7 := Lib.hid (HF7.out.below (bdq (Below.refl wr.heap.size wr) nq))
         have HR7 := Lib.hid (blk_drewN HR7.out nq)
         have HA7 := Lib.hid (Kd.R_below HA7.out (bdq (Below.refl wr.heap.size wr) nq))
         clear h0 h1 k0 hkz HOq
         generalize wr.drewN nq = wr at HF7 HR7 HA7 ⊢
         go_wp2_with fail
         have hO := hO2 wr HF7.out.par.has
         rw [hbd] at hO
         refine hO.mono ?_
         rintro e w' ⟨rfl, rfl⟩
         clear hO hO2
         have HB7 := Lib.hid (HB.out.grown HF7.out.grown HB.out.size (fun k hk => by injection hk with hk; omega))
         have r0 : wr.cell? ⟨w.heap.size, 0, none⟩ = some (.int .i64 0) := (blk_cell HR7.out 0).trans rfl
         have r1 : wr.cell? ⟨w.heap.size, 1, none⟩ = some (.int .i64 0) := (blk_cell HR7.out 1).trans rfl
         have f0 := blk_frozen HR7.out 0
         have f1 := blk_frozen HR7.out 1
         clear hbd hkd
         go_wp2_with fail
         have hs := two_set (.int .i64 0) (.int .i64 0) HR7.out
         have hB := (HB7.out.setCell (p := ⟨w.heap.size, 0, none⟩) (Nat.le_refl _) (.int .i64 0)).setCell (p := ⟨w.heap.size, 1, none⟩) (Nat.le_refl _) (.int .i64 0)
         have hA9 := Kd.R_set (Kd.R_set (Kd.R_lower HA7.out HB.out.size) HR7.out (by decide) 0 (.int .i64 0)) (blk_put HR7.out 0 (.int .i64 0) rfl) (by decide) 1 (.int .i64 0)
         generalize (wr.setCell ⟨w.heap.size, 0, none⟩ (.int .i64 0)).setCell ⟨w.heap.size, 1, none⟩ (.int .i64 0) = wE at hs hB hA9 ⊢
         have g0 := (blk_cell hs 0).trans rfl
         have g1 := (blk_cell hs 1).trans rfl
         exact bodyPost_ret (v := .tuple #[.slice A acc.length c, .agg #[.int .i64 0, .int .i64 0]]) (by simp [results, Tryz.results44, go_sem, g0, g1]) rfl (by
          rw [HV2.out]
          exact ⟨_, rfl, hA9, hB⟩)
       · have hkd : ((headW s2.1).f0 != 4) = true := by simpa using hk
         have hN := fun W hW => qrule_calls g s2 W hW
         have hmn := mS_ruleR HF7.out.par.good hb
         have HKn : Hid (((acc ++ [(ruleR s2).1]) ++ (rulesR (mS (ruleR s2).2) (ruleR s2).2).1 = (rulesR (mS (l, -1)) (l, -1)).1 ∧ (rulesR (mS (ruleR s2).2) (ruleR s2).2).2 = (rulesR (mS (l, -1)) (l, -1)).2)) := by
          have hK := HK.out
          obtain ⟨n, hn⟩ : ∃ n, mS s2 = n + 1 := ⟨mS s2 - 1, by omega⟩
          rw [hn, rulesR, if_pos ⟨hb, hk⟩, rulesR_fuel n (mS (ruleR s2).2) (ruleR s2).2 (good_ruleR HF7.out.par.good) (by omega) (Nat.le_refl _)] at hK
          exact ⟨by rw [← hK.1]; simp, hK.2⟩
         generalize (ruleR s2).1 = x at HKn hN
         generalize (ruleR s2).2 = s3 at HKn hN hmn
         have hal2 : acc.length ≤ 200000 := by
          have : mS (l, -1) ≤ 20002 := Nat.le_trans (mS_le _) (by show l.length + 1 ≤ 20002; omega)
          omega
         clear hb hk hO2
         go_wp2_with fail
         go_quiet ((go_at_call 73; exact Calls.quiet_of_same (HOq.out _)))
         have HF7 := Lib.hid (HF7.out.below (bdq (Below.refl wr.heap.size wr) nq))
         have HR7 := Lib.hid (blk_drewN HR7.out nq)
         have HA7 := Lib.hid (Kd.R_below HA7.out (bdq (Below.refl wr.heap.size wr) nq))
         clear h0 h1 k0 hkz HOq
         generalize wr.drewN nq = wr at HF7 HR7 HA7 ⊢
         clear hbd hkd
         go_wp2_with (first | (go_at_call 74; refine (hN _ HF7.out.par).mono ?_; rintro e w8 ⟨v1, v2, v3, v4, rfl, hx1, hx2, hx3, hx4, hp8, hg8⟩; obtain ⟨X1, d1, rfl, _, _⟩ := Kd.R_reads hx1; obtain ⟨X2, d2, rfl, _, _⟩ := Kd.R_reads hx2; obtain ⟨X3, d3, rfl, _, _⟩ := Kd.R_reads hx3; obtain ⟨X4, d4, rfl, _, _⟩ := Kd.R_reads hx4; have HX1 := Lib.hid (Kd.R_lower (Kd.R_new hx1 (Kd.R_own HA7.out).choose_spec) HF7.out.grown.size); have HX2 := Lib.hid (Kd.R_lower (Kd.R_new hx2 (Kd.R_own HA7.out).choose_spec) HF7.out.grown.size); have HX3 := Lib.hid (Kd.R_lower (Kd.R_new hx3 (Kd.R_own HA7.out).choose_spec) HF7.out.grown.size); have HX4 := Lib.hid (Kd.R_lower (Kd.R_new hx4 (Kd.R_own HA7.out).choose_spec) HF7.out.grown.size); have HF8 := Lib.hid (HF7.out.call hp8 hg8); have HR8 := Lib.hid (blk_grown HR7.out hg8 (fun e => by injection e with e; omega)); have HA8 := Lib.hid (row_keep HA7.out hg8 HF7.out.lt); clear hx1 hx2 hx3 hx4 hp8 hg8) | ((with_reducible refine gate_builtin (b := .append) (xs := #[.tmp 40, .tmp 43]) rfl ?_); at_builtin; refine Kd.R_append k49 (w0 := w8) wg.heap.size rfl (.tmp 40) (.tmp 43) 35 49 (.agg #[.string ⟨#[]⟩, .slice none 0 0, .slice none 0 0, .slice none 0 0, .slice none 0 0]) 112 rfl Tryz.underlying35 info49 rfl (by decide) (by decide) (.slice A acc.length c) acc x [.string x.f0, .slice X1 x.f1.length d1, .slice X2 x.f2.length d2, .slice X3 x.f3.length d3, .slice X4 x.f4.length d4] (fun _ => True) (fun k_ => True ∧ some k_ ≠ (Value.slice A acc.length c).ownBlock) rfl rfl (k49_mkM _ _ _ x HX1.out HX2.out HX3.out HX4.out) (fun _ hk => hk) (fun _ _ => trivial) HA8.out (Below.refl _ _) HF8.out.grown.size ?aL ?_; (case aL => omega); intro v1 w9 ho hb hg hat; obtain ⟨AN, cN, rfl, _, _⟩ := Kd.R_reads ho; have HA9 := Lib.hid ho; have HF9 := Lib.hid (HF8.out.row (Kd.R_own HA8.out).choose_spec (by decide) (by decide) (Nat.le_refl _) hb hg); have HR9 := Lib.hid (blk_grown HR8.out hg (Kd.R_ne HA8.out HR8.out (by decide))); clear ho hb hg hat))
         have hlen : acc.length + 1 = (acc ++ [x]).length := by simp
         go_roundg (mS s3)
         case measure => omega
         case rel => exact ⟨acc ++ [x], s3, AN, cN, by first | rfl | (simp only [List.length_append, List.length_singleton]), Nat.le_refl _, by rw [List.length_append, List.length_singleton]; omega, ⟨HKn.out⟩, ⟨HA9.out⟩, ⟨HF9.out⟩, ⟨HR9.out⟩⟩
     · have hbd : decide (s2.2 < 0) = false := by simpa using hb
       rw [hbd] at hOq
       have HOq := Lib.hid hOq
       clear hOq
       have HKn : s2 = (rulesR (mS (l, -1)) (l, -1)).2 := by
        have hK := HK.out
        have h0 : rulesR (mS s2) s2 = ([], s2) := by
         generalize mS s2 = n
         cases n with
         | zero => rfl
         | succ n => unfold rulesR; rw [if_neg (fun h => hb h.1)]
        rw [h0] at hK
        exact hK.2
       have HV2 : Hid (fileT s.data.toList = ([], 1, s2.2)) := by
        show _ = _
        rw [HV.out, ← file_agree l HGood.out, fileR_of, show l.length + 1 = mS (l, -1) from rfl, if_neg (by rw [← HKn]; exact hb), ← HKn]
       clear HKn HK HV hb
       go_wp2_with fail
       go_quiet ((go_at_call 73; exact Calls.quiet_of_same (HOq.out _)))
       have HF7 := Lib.hid (HF7.out.below (bdq (Below.refl wr.heap.size wr) nq))
       have HR7 := Lib.hid (blk_drewN HR7.out nq)
       have HA7 := Lib.hid (Kd.R_below HA7.out (bdq (Below.refl wr.heap.size wr) nq))
       clear h0 h1 k0 hkz HOq
       generalize wr.drewN nq = wr at HF7 HR7 HA7 ⊢
       go_wp2_with fail
       have hO := hO2 wr HF7.out.par.has
       rw [hbd] at hO
       refine hO.mono ?_
       rintro e w' ⟨rfl, rfl⟩
       clear hO hO2
       have HB7 := Lib.hid (HB.out.grown HF7.out.grown HB.out.size (fun k hk => by injection hk with hk; omega))
       obtain ⟨b2, n2_, cp, kk, cur2, hq⟩ := HF7.out.par.has
       have h1 : wr.cell? ⟨g, 2, none⟩ = some (.int .i64 s2.2) := (blk_cell hq.own 2).trans rfl
       have r0 : wr.cell? ⟨w.heap.size, 0, none⟩ = some (.int .i64 0) := (blk_cell HR7.out 0).trans rfl
       have r1 : wr.cell? ⟨w.heap.size, 1, none⟩ = some (.int .i64 0) := (blk_cell HR7.out 1).trans rfl
       have f0 := blk_frozen HR7.out 0
       have f1 := blk_frozen HR7.out 1
       clear hbd hq
       go_wp2_with fail
       go_region
       all_goals
        have hs := two_set (.int .i64 1) (.int .i64 s2.2) HR7.out
        have hB := (HB7.out.setCell (p := ⟨w.heap.size, 0, none⟩) (Nat.le_refl _) (.int .i64 1)).setCell (p := ⟨w.heap.size, 1, none⟩) (Nat.le_refl _) (.int .i64 s2.2)
        go_wp2
        have hs2 := blk_drew hs
        have hB2 := below_drew hB
        generalize ((wr.setCell ⟨w.heap.size, 0, none⟩ (.int .i64 1)).setCell ⟨w.heap.size, 1, none⟩ (.int .i64 s2.2)).drew = wE at hs2 hB2 ⊢
        have g0 := (blk_cell hs2 0).trans rfl
        have g1 := (blk_cell hs2 1).trans rfl
        exact bodyPost_ret (v := .tuple #[.slice none 0 0, .agg #[.int .i64 1, .int .i64 s2.2]]) (by simp [results, Tryz.results44, go_sem, g0, g1]) rfl (by
         rw [HV2.out]
         exact ⟨_, rfl, Kd.R_nil _ _ _ _ _, hB2⟩)

end Go.Proofs.YthagibkmfgodgaaGreatDoor.X

namespace Go.Proofs.YthagibkmfgodgaaGreatDoor.X
open Go.RowKit Go.Maps Go.Sort Go.Proofs.YthagibkmfgodgaaGreatDoorW.PrintWords Go.Proofs.YthagibkmfgodgaaGreatDoorW.PrintMore Go.Proofs.YthagibkmfgodgaaGreatDoorW.PrintLast

attribute [local go_sem] Oper.semAt_some

def uptoS (zs : List ByteArray) (k : Nat) : List ByteArray := (List.range k).map fun j => zs[j]?.getD ByteArray.empty
theorem uptoS_succ (zs : List ByteArray) (k : Nat) : uptoS zs (k + 1) = uptoS zs k ++ [zs[k]?.getD ByteArray.empty] := by simp [uptoS, List.range_succ]
theorem uptoS_length (zs : List ByteArray) (k : Nat) : (uptoS zs k).length = k := by simp [uptoS]
theorem uptoS_take (zs : List ByteArray) {k : Nat} (hk : k ≤ zs.length) : uptoS zs k = zs.take k := by
 apply List.ext_getElem
 · simp [uptoS, hk]
 · intro i h1 h2
   have : i < zs.length := by simp [uptoS] at h1; omega
   simp [uptoS, this]
theorem uptoS_all (zs : List ByteArray) : uptoS zs zs.length = zs := by rw [uptoS_take zs (Nat.le_refl _), List.take_length]

set_option maxRecDepth 100000 in
set_option maxHeartbeats 4000000 in
theorem values1_in (n : Nat) (hn : 1 ≤ n) (l Bs n₀ b off len cap : Nat) (zs : List ByteArray) (hreach : len * 16 ≤ 140737488355328) (hb : b < n₀) (J Jx : List ByteArray → World → Prop)
 (hY : ∀ pre x W, J pre W → pre.length < len → YieldAt Fence.wide (n - 1) Tryz.prog l #[.string x] W fun e W' =>
  (e = .returned (.bool true) ∧ J (pre ++ [x]) W' ∧ Below n₀ W W') ∨ (e = .returned (.bool false) ∧ Jx (pre ++ [x]) W'))
 (W : World) (hBs : W.cell? ⟨Bs, 0, none⟩ = some (.slice (some ⟨b, off, none⟩) len cap)) (hc : ∀ j, j < len → W.cell? ⟨b, off + j, none⟩ = some (.string (zs[j]?.getD ByteArray.empty))) (h0 : J [] W) :
 CallsIn Fence.wide n Tryz.prog 155 #[.func (.yield l) #[] #[], .pointer (some ⟨Bs, 0, none⟩)] W fun e W' => (∃ v, e = .returned v) ∧
  ((∃ ys, ys = uptoS zs len ∧ J ys W') ∨ (∃ pre, (∃ k, k ≤ len ∧ pre = uptoS zs k) ∧ Jx pre W')) := by
 refine callsIn_of_wp Tryz.func155 rfl trivial ?_ rfl
 simp only [Tryz.ntmps155, List.size_toArray, List.length_cons, List.length_nil, Nat.reduceAdd, Nat.reduceSub, Array.replicate_succ, Array.replicate_zero, List.push_toArray, List.append_toArray, List.nil_append, List.cons_append]
 gi_wp2
 gi_loopw [7] (fun i wr => ∃ k : Nat, k ≤ len ∧ i = .int .i64 k ∧ J (uptoS zs k) wr ∧ Below n₀ W wr)
  (fun i _ => len - (intOf i).toNat)
 case atStart => exact ⟨0, Nat.zero_le _, rfl, h0, Below.refl _ _⟩
 case round =>
  obtain ⟨k, hk, rfl, hJs, hnx⟩ := hrel
  have hcx : k < len → wr.cell? ⟨b, off + k, none⟩ = some (.string (zs[k]?.getD ByteArray.empty)) := fun h => (hnx.cell (p := ⟨b, off + k, none⟩) hb).trans (hc k h)
  by_cases hlt : k < len
  · obtain ⟨fn, tmps, assign, body, hy, hR⟩ := hY _ (zs[k]?.getD ByteArray.empty) wr hJs (by rw [uptoS_length]; exact hlt)
    have hcx' := hcx hlt
    gi_wp2
    refine hR.mono ?_
    rintro e W3 (⟨rfl, hJ3, hk3⟩ | ⟨rfl, hJx3⟩)
    · gi_wp2
      go_roundw
      case rel => exact ⟨k + 1, by omega, by simp, by rw [uptoS_succ]; exact hJ3, hnx.trans hk3⟩
      case measure => simp [intOf]; omega
    · gi_wp2
      refine bodyPost_ret (results_none rfl _ _ _) rfl ?_
      exact ⟨⟨_, rfl⟩, .inr ⟨_, ⟨k + 1, by omega, (uptoS_succ _ _).symm⟩, hJx3⟩⟩
  · obtain rfl : k = len := by omega
    gi_wp2
    go_end0
    exact ⟨⟨_, rfl⟩, .inl ⟨_, rfl, hJs⟩⟩
def StrsAt (n₀ : Nat) (W : World) (sv : Value) (zs : List ByteArray) : Prop :=
 ((∃ A c, sv = .slice A 0 c) ∧ zs = []) ∨ ∃ b off cap, sv = .slice (some ⟨b, off, none⟩) zs.length cap ∧ b < n₀ ∧ ∀ j, j < zs.length → W.cell? ⟨b, off + j, none⟩ = some (.string (zs[j]?.getD ByteArray.empty))
theorem StrsAt.below {n₀ : Nat} {A B : World} (h : Below n₀ A B) {sv : Value} {zs : List ByteArray} : StrsAt n₀ A sv zs → StrsAt n₀ B sv zs
 | .inl e => .inl e
 | .inr ⟨b, off, cap, e, hb, hc⟩ => .inr ⟨b, off, cap, e, hb, fun j hj => (h.cell (p := ⟨b, off + j, none⟩) hb).trans (hc j hj)⟩
set_option maxRecDepth 100000 in
set_option maxHeartbeats 1000000 in
theorem values1_nil_in (n l Bs : Nat) (A : Option Addr) (c : Nat) (J : List ByteArray → World → Prop) (W : World) (hBs : W.cell? ⟨Bs, 0, none⟩ = some (.slice A 0 c)) (h0 : J [] W) :
 CallsIn Fence.wide n Tryz.prog 155 #[.func (.yield l) #[] #[], .pointer (some ⟨Bs, 0, none⟩)] W fun e W' => (∃ v, e = .returned v) ∧ J [] W' := by
 refine callsIn_of_wp Tryz.func155 rfl trivial ?_ rfl
 simp only [Tryz.ntmps155, List.size_toArray, List.length_cons, List.length_nil, Nat.reduceAdd, Nat.reduceSub, Array.replicate_succ, Array.replicate_zero, List.push_toArray, List.append_toArray, List.nil_append, List.cons_append]
 gi_wp2
 gi_loopw [7] (fun i wr => i = .int .i64 0 ∧ J [] wr) (fun _ _ => 0)
 case atStart => exact ⟨rfl, h0⟩
 case round =>
  obtain ⟨rfl, hJs⟩ := hrel
  gi_wp2
  go_end0
  exact ⟨⟨_, rfl⟩, hJs⟩
theorem values_stops (n : Nat) (hn : 1 ≤ n) (Bs n₀ : Nat) (sv : Value) (zs : List ByteArray) (hreach : zs.length * 16 ≤ 140737488355328) (w : World) (hBs : Bs < w.heap.size) (hn₀ : n₀ ≤ w.heap.size)
 (hc : w.cell? ⟨Bs, 0, none⟩ = some sv) (hI : StrsAt n₀ w sv zs) :
 SeqStopsK Fence.wide n Tryz.prog 155 #[.pointer (some ⟨Bs, 0, none⟩)] (fun x : ByteArray => #[Value.string x]) (Below n₀) (fun ys => ys = zs) (fun pre => pre <+: zs) zs.length w := fun l J Jx W hW _ _ hY h0 => by
 have hc' := (hW.cell (p := ⟨Bs, 0, none⟩) hBs).trans hc
 rcases hI.below (hW.mono hn₀) with ⟨⟨A, c, rfl⟩, rfl⟩ | ⟨b, off, cap, rfl, hb, hcs⟩
 · exact (values1_nil_in n l Bs A c J W hc' h0).mono fun e W' ⟨he, hj⟩ => ⟨he, .inl ⟨_, rfl, hj⟩⟩
 · refine (values1_in n hn l Bs n₀ b off zs.length cap zs hreach hb J Jx hY W hc' hcs h0).mono ?_
   rintro e W' ⟨he, ⟨ys, rfl, hj⟩ | ⟨pre, ⟨k, hk, rfl⟩, hj⟩⟩
   · exact ⟨he, .inl ⟨_, uptoS_all zs, hj⟩⟩
   · exact ⟨he, .inr ⟨_, by rw [uptoS_take zs hk]; exact List.take_prefix _ _, hj⟩⟩
theorem eg_values1 : ∀ args w, (callFunc 155 args).run Tryz.prog w = .ok (.enter 155 args) w := Go.Proofs.enters_of Tryz.func155 (by kernel_rfl) rfl

set_option maxRecDepth 100000 in
set_option maxHeartbeats 4000000 in
theorem appendSeq_in (n : Nat) (hn : 3 ≤ n) (Bs : Nat) (sv : Value) (zs : List ByteArray) (hlen : zs.length ≤ 4611686018427387904) (hbytes : zs.length * 16 ≤ 140737488355328) (w : World) (hBs : Bs < w.heap.size)
 (hc : w.cell? ⟨Bs, 0, none⟩ = some sv) (hI : StrsAt w.heap.size w sv zs) :
 CallsIn Fence.wide n Tryz.prog 169 #[.slice none 0 0, .func (.func 155) #[] #[.pointer (some ⟨Bs, 0, none⟩)]] w fun e W' => ∃ v, e = .returned v ∧
  W'.ownsRow w.heap.size 9 1 v zs.length (zs.map Value.string) ∧ Below w.heap.size w W' := by
 have h1 : 1 ≤ n := by omega
 obtain ⟨i0, hi, hz0, hz1, hz2⟩ := info_parts infoStr
 refine callsIn_of_wp_marks Tryz.func169 rfl trivial ?_ rfl
 simp only [Tryz.ntmps169, List.size_toArray, List.length_cons, List.length_nil, Nat.reduceAdd, Nat.reduceSub, Array.replicate_succ, Array.replicate_zero, List.push_toArray, List.append_toArray, List.nil_append, List.cons_append]
 gi_wp2
 have bO := Boxed.new w 46 (.slice none 0 0)
 have hB0 : Below w.heap.size w (w.alloc (.cells #[.slice none 0 0] 46)) := (Below.refl _ w).alloc (Nat.le_refl _) _
 refine wpIn_rangeFunc_ownG rfl h1 (gf := 155) (lb := #[.pointer (some ⟨Bs, 0, none⟩)]) rfl trivial eg_values1
  (values_stops (n - 1) (by omega) Bs w.heap.size sv zs hbytes _ (by simp; omega) (by simp) ((hB0.cell (p := ⟨Bs, 0, none⟩) hBs).trans hc) (hI.below hB0)) belowK_t (belowK_b (by simp)) (Below.refl _ _) (fun _ => rfl)
  (fun pre W => (∃ v, Boxed W w.heap.size 46 v ∧ W.ownsRow w.heap.size 9 1 v pre.length (pre.map Value.string) ∧ True) ∧ Below w.heap.size w W)
  (fun _ _ _ => False)
  (OwnFrom.and (Own.from (holdsRow_own w.heap.size w.heap.size 46 9 1 (fun pre : List ByteArray => pre.length) (fun pre : List ByteArray => pre.map Value.string) (fun _ _ => True)) _) (ownFrom_below (Nat.le_refl _) (by simp)))
  (fun _ _ _ _ _ hs _ _ => hs)
  ⟨⟨_, bO, World.ownsRow_nil _ _ _ _, trivial⟩, hB0⟩
  (fun x => { tmps := #[.slice none 0 0, .func (.func 155) #[] #[.pointer (some ⟨Bs, 0, none⟩)], .pointer (some ⟨w.heap.size, 0, none⟩), undef, .slice none 0 0, .string x, .func (.func 155) #[] #[.pointer (some ⟨Bs, 0, none⟩)], .string x, undef, undef, undef, undef, undef], defers := [] }) ?assign ?body ?done ?stop
 case assign =>
  intro l x W K hK
  gi_wp2
  exact hK
 case body =>
  rintro l pre x W ⟨⟨v, hv, hrow, _⟩, hB⟩ hlt
  have hc := hv.cell
  gi_wp2_with (gi_at_builtin; refine wpListIn_append_own _ rfl _ _ 46 rfl w.heap.size 9 i0 (.string ⟨#[]⟩) 1 16 Tryz.underlying46 hi hz0 hz1 hz2 rfl (by decide) _ _ _ rfl (hrow.alloc _) ⟨W.heap.size, 0, none⟩ 1 1 [.string x] rfl rfl (cell_one_new _ _ _) (by simp [Value.oneCell']) (by unfold maxLen; omega) (by omega) (by have := hB.size; simp; omega) ?_; intro v' w1 hown' hgrow _; obtain ⟨g', cap', rfl⟩ := ownsRow_succ hown'; obtain ⟨hv1, hv2, hr2, hk2, hb2⟩ := hv.appended (by decide) hrow hB.size (Nat.le_refl _) hown' hgrow; have hc1 := hv1.cell; have hf1 := hv1.frozen)
  exact ⟨hk2.from _, hb2, ⟨_, hv2, by simpa using hr2, trivial⟩, hB.trans hb2⟩
 case done =>
  rintro D ys W hD rfl ⟨⟨v, hv, hrow, _⟩, hB⟩ hK
  have hc := hv.cell
  gi_wp2
  refine ⟨by simp, .inl ⟨_, _, rfl, run_takeDeferred hK, ?_⟩⟩
  exact ⟨_, results_tmp rfl _ _ _, v, rfl, ownsRow_putObj hrow _ hK rfl, hB.trans (belowK_b (w := w) (Nat.le_refl _) W D _ _ (by simp at hD; omega) hK rfl rfl)⟩
 case stop =>
  rintro D c pre W _ _ h _
  exact h.elim

def risingF (zs : List ByteArray) : List ByteArray := ((zs.map fun x => x.data.toList).mergeSort fun x y => decide (x ≤ y)).map mk
theorem encStr_list (zs : List ByteArray) : zs.map Value.string = (zs.map fun x => x.data.toList).map encStr := by
 rw [List.map_map]
 apply List.map_congr_left
 intro x _
 show Value.string x = Value.string (mk x.data.toList)
 rfl
theorem appendSeq_calls (Bs : Nat) (sv : Value) (zs : List ByteArray) (hbytes : zs.length * 16 ≤ 140737488355328) (w : World) (hBs : Bs < w.heap.size)
 (hc : w.cell? ⟨Bs, 0, none⟩ = some sv) (hI : StrsAt w.heap.size w sv zs) :
 Calls Tryz.prog 169 #[.slice none 0 0, .func (.func 155) #[] #[.pointer (some ⟨Bs, 0, none⟩)]] w fun e W' => ∃ v, e = .returned v ∧
  W'.ownsRow w.heap.size 9 1 v zs.length (zs.map Value.string) ∧ Below w.heap.size w W' :=
 callsIn_wide.1 (appendSeq_in 3 (Nat.le_refl _) Bs sv zs (by omega) hbytes w hBs hc hI)
set_option maxHeartbeats 1000000 in
theorem collect_calls (Bs : Nat) (sv : Value) (zs : List ByteArray) (hbytes : zs.length * 16 ≤ 140737488355328) (w : World) (hBs : Bs < w.heap.size)
 (hc : w.cell? ⟨Bs, 0, none⟩ = some sv) (hI : StrsAt w.heap.size w sv zs) :
 Calls Tryz.prog 153 #[.func (.func 155) #[] #[.pointer (some ⟨Bs, 0, none⟩)]] w fun e W' => ∃ v, e = .returned v ∧
  W'.ownsRow w.heap.size 9 1 v zs.length (zs.map Value.string) ∧ Below w.heap.size w W' := by
 have h := appendSeq_calls Bs sv zs hbytes w hBs hc hI
 go_enter Tryz.func153, Tryz.ntmps153
 go_wp2_with (go_at_call 169; refine h.mono ?_; rintro e w2 ⟨v, rfl, ho, hb⟩)
 go_ret
 exact ⟨v, rfl, ho, hb⟩
set_option maxHeartbeats 1000000 in
theorem sorted_calls (Bs : Nat) (sv : Value) (zs : List ByteArray) (hbytes : zs.length * 16 ≤ 140737488355328) (w : World) (hBs : Bs < w.heap.size)
 (hc : w.cell? ⟨Bs, 0, none⟩ = some sv) (hI : StrsAt w.heap.size w sv zs) :
 Calls Tryz.prog 130 #[.func (.func 155) #[] #[.pointer (some ⟨Bs, 0, none⟩)]] w fun e W' => ∃ v, e = .returned v ∧
  RS W' w.heap.size v (risingF zs) ∧ Below w.heap.size w W' := by
 have h := collect_calls Bs sv zs hbytes w hBs hc hI
 have hlen : (risingF zs).length = zs.length := by unfold risingF; rw [List.length_map, List.length_mergeSort, List.length_map]
 have hrs : encs Value.string (risingF zs) = ((zs.map fun x => x.data.toList).mergeSort fun x y => decide (x ≤ y)).map encStr := by
  unfold risingF encs
  rw [List.map_map]
  rfl
 have HLen := Lib.hid hlen
 have HRs := Lib.hid hrs
 clear hlen hrs
 go_enter Tryz.func130, Tryz.ntmps130
 go_wp2_with fail
 refine h.mono ?_
 rintro e W ⟨v, rfl, hrow, hb⟩
 have HB := Lib.hid hb
 clear h hb
 rcases hrow.2 with ⟨rfl, hz⟩ | ⟨gb, cap, cur, rfl, hbase, hgb, r1, r2, r3, r4⟩
 · have hss : zs = [] := List.eq_nil_of_length_eq_zero hz
   subst hss
   have cS := Go.Proofs.AnyM.slices_Sort_string_none Go.Proofs.Tryz.laysSort none 0 W
   change Calls Tryz.prog 154 _ _ _ at cS
   go_wp2_with (go_at_call 154; refine cS.mono ?_; rintro e w' ⟨rfl, rfl⟩)
   go_ret
   exact ⟨.slice none 0 0, rfl, by rw [show risingF [] = [] by simp [risingF]]; exact Kd.R_nil _ _ _ _ _, HB.out⟩
 · rw [encStr_list] at r4
   have hH : Holds encStr W gb 0 (zs.map fun x => x.data.toList).toArray := Go.holds_of_block hgb (by simpa using r4)
   have hgl : gb < W.heap.size := (Array.getElem?_eq_some_iff.1 hgb).1
   have hsz : (zs.map fun x => x.data.toList).length < 4611686018427387904 := by rw [List.length_map]; omega
   have cS := Go.Proofs.AnyM.slices_Sort_string Go.Proofs.Tryz.laysSort gb 0 cap (zs.map fun x => x.data.toList) W hH hgl hsz
   change Calls Tryz.prog 154 _ _ _ at cS
   rw [List.length_map] at cS
   go_wp2_with (go_at_call 154; refine cS.mono ?_; rintro e w' ⟨rfl, nn, os, rfl⟩)
   go_ret
   refine ⟨_, rfl, Kd.R_of_own (h1 := fun _ => rfl) ?_ (fun _ _ => trivial), HB.out.grown (grownBy_sorted _) HB.out.size (fun j hj => by cases hj; exact hbase)⟩
   rw [HRs.out, HLen.out]
   have hos := ownsRow_sorted (n := nn) (os := os) (ss := zs.map fun x => x.data.toList) (ts := (zs.map fun x => x.data.toList).mergeSort fun x y => decide (x ≤ y)) (by simp) hbase hgb (by rw [List.length_map]; exact r1) r2 r3
   rw [List.length_map] at hos
   exact hos
set_option maxHeartbeats 1000000 in
theorem rising_calls (A : Option Addr) (c : Nat) (l : List ByteArray) (w : World) (hr : Kd.C Kd.string w A l.length l) (hbytes : l.length * 16 ≤ 140737488355328) :
 Calls Tryz.prog 92 #[.slice A l.length c] w fun e W' => ∃ v, e = .returned v ∧ RS W' w.heap.size v (risingF l) ∧ Below w.heap.size w W' := by
 have hV : ∀ W, Calls Tryz.prog 131 #[.slice A l.length c] W fun e W' => e = .returned (.func (.func 155) #[] #[.pointer (some ⟨W.heap.size, 0, none⟩)]) ∧ W' = W.alloc (.cells #[.slice A l.length c] 46) := by
  intro W
  go_enter Tryz.func131, Tryz.ntmps131
  go_wp2
  go_ret
  exact ⟨rfl, rfl⟩
 have hS0 : StrsAt w.heap.size w (.slice A l.length c) l := by
  rcases row_open hr with h0 | ⟨b, o, rfl, hb, hcell⟩
  · subst h0
    exact .inl ⟨⟨A, c, rfl⟩, rfl⟩
  · refine .inr ⟨b, o, c, rfl, hb, fun j hj => ?_⟩
    have := hcell j hj
    rwa [List.getD_eq_getElem?_getD] at this
 have hS := hS0.below ((Below.refl w.heap.size w).alloc (Nat.le_refl _) (.cells #[.slice A l.length c] 46))
 have hS1 : StrsAt (w.alloc (.cells #[.slice A l.length c] 46)).heap.size (w.alloc (.cells #[.slice A l.length c] 46)) (.slice A l.length c) l := by
  rcases hS with h | ⟨b, o, cc, h1, hb, h2⟩
  · exact .inl h
  · exact .inr ⟨b, o, cc, h1, by simp; omega, h2⟩
 have h := sorted_calls w.heap.size _ l hbytes (w.alloc (.cells #[.slice A l.length c] 46)) (by simp) ((blk_cell (blk_new w _) 0).trans rfl) hS1
 clear hS hS0 hS1 hr
 go_enter Tryz.func92, Tryz.ntmps92
 go_wp2_with (first | (go_at_call 131; refine (hV _).mono ?_; rintro e w' ⟨rfl, rfl⟩) | (go_at_call 130; refine h.mono ?_; rintro e w2 ⟨v, rfl, ho, hb⟩))
 go_ret
 exact ⟨v, rfl, Kd.R_lower ho (by simp), below_then ((Below.refl w.heap.size w).alloc (Nat.le_refl _) _) (by simp) hb⟩

end Go.Proofs.YthagibkmfgodgaaGreatDoor.X

namespace Go.Proofs.YthagibkmfgodgaaGreatDoor.X
open Go.RowKit Go.Maps Go.Proofs.YthagibkmfgodgaaGreatDoorW.PrintWords Go.Proofs.YthagibkmfgodgaaGreatDoorW.PrintMore Go.Proofs.YthagibkmfgodgaaGreatDoorW.PrintLast

theorem natsB_app (a b : Bytes) : natsB (a ++ b) = natsB a ++ natsB b := by simp [natsB]
theorem lit_bytes (W : World) (l : Bytes) (h : l.length ≤ 100) : Kd.C (Kd.int .u8) (W.alloc (.cells (nums .u8 (natsB l)).toArray 5)) (some ⟨W.heap.size, 0, none⟩) (natsB l).length (natsB l) :=
 lit_C (Kd.int .u8) W 5 (natsB l) (nums .u8 (natsB l)) (Kd.reps_scalar _) (by simp [natsB]; omega)
abbrev RB (w : World) (base : Nat) (v : Value) (l : Bytes) : Prop := Kd.R (Kd.int .u8) 5 w base (fun _ => True) v (natsB l)
theorem RB.str {w : World} {base : Nat} {v : Value} {l : Bytes} (h : RB w base v l) :
 (convert 38 9 v).run Tryz.prog w = .ok (.string (mk l)) w := by
 have := own_string (dst := 9) Tryz.underlying38 Tryz.underlying5 Tryz.underlying9 (Kd.own_of_R h)
 rw [strOf_natsB] at this
 exact this

section
variable {P : Program} {ops : Array Oper} {rest : List Oper} {o : Oper} {a : Act} {Q : Exit → Act → World → Prop}
theorem RB.app {w0 W : World} (base : Nat) (hgd : o.guard = none) (s x : Operand)
 (ho : o.op = .call { callee := .builtin .append, args := #[s, x], argTypes := #[38, 38] })
 (ht : P.underlying 38 = some (.slice 5)) (hinfo : (P.info? 5).map (fun i => (i.zero, i.size, i.bytes)) = some (some (.int .u8 0), 1, 1))
 (v : Value) (acc l : Bytes) (cs : Array Value) (hcs : cs = (nums .u8 (natsB l)).toArray) (hl : l.length ≤ 100) (n : Nat) (hn : n = l.length) (hs : a.eval s = v) (hx : a.eval x = .slice (some ⟨W.heap.size, 0, none⟩) n n)
 (HO : RB W base v acc) (HB : Below base w0 W) (hbase : base ≤ W.heap.size) (hal : acc.length ≤ 5000000000000)
 (h : ∀ v1 w1, RB w1 base v1 (acc ++ l) → Below base w0 w1 → wpList P ops Q rest (a.put o.dst v1) w1) :
 wpList P ops Q (o :: rest) a (W.alloc (.cells cs 5)) := by
 subst hcs
 subst hn
 have hC := lit_bytes W l hl
 rw [show (natsB l).length = l.length by simp [natsB]] at hC
 refine Kd.R_append_rows (Kd.int .u8) (Rr := (Kd.int .u8).K (W.alloc (.cells (nums .u8 (natsB l)).toArray 5))) (w0 := w0) base hgd s x 38 5 (.int .u8 0) 1 ho ht hinfo rfl (by decide) (by decide) v (natsB acc) (natsB l) (some ⟨W.heap.size, 0, none⟩) l.length l.length (fun _ => True) (fun k_ => True ∧ some k_ ≠ v.ownBlock) hs hx (Kd.R_alloc HO _) hC (fun _ _ h => h) (fun _ hk => hk) (fun _ _ => trivial) (HB.alloc hbase _) (by rw [World.size_alloc]; omega) (by simp only [natsB, List.length_map]; omega) ?_
 intro v1 w1 ho1 hb1 _ _
 rw [← natsB_app] at ho1
 exact h v1 w1 ho1 hb1
theorem RB.str_app {w0 W : World} (base : Nat) (hgd : o.guard = none) (s x : Operand)
 (ho : o.op = .call { callee := .builtin .append, args := #[s, x], argTypes := #[38, 9] })
 (ht : P.underlying 38 = some (.slice 5)) (hu : P.underlying 9 = some .string) (hinfo : (P.info? 5).map (fun i => (i.zero, i.size, i.bytes)) = some (some (.int .u8 0), 1, 1))
 (v : Value) (acc l : Bytes) (hs : a.eval s = v) (hx : a.eval x = .string (mk l)) (hl : l.length ≤ 100)
 (HO : RB W base v acc) (HB : Below base w0 W) (hbase : base ≤ W.heap.size) (hal : acc.length ≤ 5000000000000)
 (h : ∀ v1 w1, RB w1 base v1 (acc ++ l) → Below base w0 w1 → wpList P ops Q rest (a.put o.dst v1) w1) :
 wpList P ops Q (o :: rest) a W := by
 refine print_append_str base hgd s x 38 9 5 ho ht hu hinfo v (natsB acc) (mk l) hs hx (Kd.own_of_R HO) HB hbase (by rw [Lib.size_eq, mk_data]; simp only [natsB, List.length_map]; omega) ?_
 intro v1 w1 ho1 hb1 _
 have hbl : bytesOf (mk l) = natsB l := by unfold bytesOf; rw [mk_data]; rfl
 rw [hbl, ← natsB_app] at ho1
 exact h v1 w1 (Kd.R_of_own (h1 := fun _ => rfl) ho1 (fun _ _ => trivial)) hb1
end
set_option maxHeartbeats 4000000 in
set_option maxRecDepth 100000 in
theorem quote_calls (s : ByteArray) (hs : s.size ≤ 1099511627776) (hpr : ∀ c ∈ s.data.toList, c = 10 ∨ c = 9 ∨ ¬ (c.toNat < 32 ∨ 126 < c.toNat)) (w : World) :
 Calls Tryz.prog 21 #[.string s] w fun e w' => e = .returned (.string (mk (quoteF s.data.toList))) ∧ Below w.heap.size w w' := by
 have HPr := Lib.hid hpr
 clear hpr
 generalize hT : quoteF s.data.toList = T
 have HT := Lib.hid hT
 clear hT
 have hR0 : RB (w.alloc (.cells #[.int .u8 34] 5)) w.heap.size (.slice (some ⟨w.heap.size, 0, none⟩) 1 1) [34] := by
  refine Kd.R_of_own (h1 := fun _ => rfl) ?_ (fun _ _ => trivial)
  exact own_lit w w.heap.size 5 .u8 [34] (Nat.le_refl _) (by simp)
 have HR0 := Lib.hid hR0
 clear hR0
 go_enter Tryz.func21, Tryz.ntmps21
 go_wp2_with fail
 go_loopg [3, 4, 5, 9] s.size (fun gg s3 _ _ s9 wr => ∃ (kk : Nat) (acc : Bytes), kk ≤ s.size ∧ s.size - kk ≤ gg ∧ s9 = .int .i64 kk ∧ acc.length ≤ 1 + 4 * kk ∧ Aside0 (acc ++ (quoteL (s.data.toList.drop kk) ++ [34]) = T) ∧
  Aside0 (RB wr w.heap.size s3 acc) ∧ Aside0 (Below w.heap.size w wr))
 case atStart => exact ⟨0, [34], Nat.zero_le _, by omega, rfl, by simp, ⟨by rw [← HT.out]; rfl⟩, ⟨HR0.out⟩, ⟨(Below.refl _ _).alloc (Nat.le_refl _) _⟩⟩
 case round =>
  obtain ⟨kk, acc, hkk, hgk, rfl, hacc, HK, HO, HB⟩ := hrel
  by_cases hlt : kk < s.size
  · have hltz : (kk : Int) < (s.size : Int) := by omega
    have hdr : s.data.toList.drop kk = s[kk] :: s.data.toList.drop (kk + 1) := by
     rw [List.drop_eq_getElem_cons (by rw [← Lib.size_eq]; exact hlt)]
     rfl
    have hK := HK.out
    rw [hdr, quoteL] at hK
    have HK2 := Lib.hid hK
    clear hK hdr
    have n8 : ∀ (m : Nat) (k : UInt8), k.toNat = m → (s[kk] = k ↔ s[kk].toNat = m) := fun m k hk => by rw [← UInt8.toNat_inj, hk]
    have H34 := Lib.hid (n8 34 34 rfl)
    have H92 := Lib.hid (n8 92 92 rfl)
    have H10 := Lib.hid (n8 10 10 rfl)
    have H9 := Lib.hid (n8 9 9 rfl)
    clear n8
    have HWB := Lib.hid HB.out.size
    have hal2 : acc.length ≤ 5000000000000 := by omega
    have next : ∀ l : Bytes, quoteC s[kk] = l → acc ++ l ++ (quoteL (s.data.toList.drop (kk + 1)) ++ [34]) = T := fun l hl => by
     rw [← HK2.out, hl]
     simp
    have HN := Lib.hid next
    clear next
    obtain ⟨L1, hL1⟩ : ∃ l : Bytes, l = [s[kk]] := ⟨_, rfl⟩
    obtain ⟨L2, hL2⟩ : ∃ l : Bytes, l = [92, s[kk]] := ⟨_, rfl⟩
    have HC1 : Hid (#[Value.int .u8 s[kk].toNat] = (nums .u8 (natsB L1)).toArray) := by show _ = _; rw [hL1]; rfl
    have HC2 : Hid (#[Value.int .u8 92, .int .u8 s[kk].toNat] = (nums .u8 (natsB L2)).toArray) := by show _ = _; rw [hL2]; rfl
    have HL1 := Lib.hid hL1
    have HL2 := Lib.hid hL2
    have hl1 : L1.length = 1 := by rw [hL1]; rfl
    have hl2 : L2.length = 2 := by rw [hL2]; rfl
    have HM1 : Hid (1 = L1.length) := hl1.symm
    have HM2 : Hid (2 = L2.length) := hl2.symm
    have HX1 : Hid (L1.length ≤ 100) := by show _ ≤ _; omega
    have HX2 : Hid (L2.length ≤ 100) := by show _ ≤ _; omega
    clear hL1 hL2
    by_cases c1 : s[kk].toNat = 34
    · have e1 : ((s[kk].toNat : Int) == 34) = true := by simp; omega
      have HV := Lib.hid (HN.out L2 (by unfold quoteC; rw [if_pos (.inl (H34.out.2 c1)), HL2.out]))
      clear c1
      go_wp2_with (first | ((with_reducible refine gate_builtin (b := .append) (xs := #[.tmp 26, .tmp 28]) rfl ?_); at_builtin; refine RB.app (w0 := w) w.heap.size rfl (.tmp 26) (.tmp 28) rfl Tryz.underlying38 infoU u3 acc L2 _ HC2.out HX2.out 2 HM2.out rfl rfl HO.out HB.out HWB.out hal2 ?_; intro v1 w4 ho hb; have HO4 := Lib.hid ho; have HB4 := Lib.hid hb; clear ho hb))
      go_roundg (s.size - (kk + 1))
      case measure => omega
      case rel => exact ⟨kk + 1, acc ++ L2, by omega, by omega, by first | rfl | go_num, by simp only [List.length_append]; omega, ⟨HV.out⟩, ⟨HO4.out⟩, ⟨HB4.out⟩⟩
    have e1 : ((s[kk].toNat : Int) == 34) = false := by simp; omega
    by_cases c2 : s[kk].toNat = 92
    · have e2 : ((s[kk].toNat : Int) == 92) = true := by simp; omega
      have HV := Lib.hid (HN.out L2 (by unfold quoteC; rw [if_pos (.inr (H92.out.2 c2)), HL2.out]))
      clear c1 c2
      go_wp2_with (first | ((with_reducible refine gate_builtin (b := .append) (xs := #[.tmp 26, .tmp 28]) rfl ?_); at_builtin; refine RB.app (w0 := w) w.heap.size rfl (.tmp 26) (.tmp 28) rfl Tryz.underlying38 infoU u3 acc L2 _ HC2.out HX2.out 2 HM2.out rfl rfl HO.out HB.out HWB.out hal2 ?_; intro v1 w4 ho hb; have HO4 := Lib.hid ho; have HB4 := Lib.hid hb; clear ho hb))
      go_roundg (s.size - (kk + 1))
      case measure => omega
      case rel => exact ⟨kk + 1, acc ++ L2, by omega, by omega, by first | rfl | go_num, by simp only [List.length_append]; omega, ⟨HV.out⟩, ⟨HO4.out⟩, ⟨HB4.out⟩⟩
    have e2 : ((s[kk].toNat : Int) == 92) = false := by simp; omega
    have HQ1 : Hid (¬ (s[kk] = 34 ∨ s[kk] = 92)) := fun h => h.elim (fun h => c1 (H34.out.1 h)) (fun h => c2 (H92.out.1 h))
    clear c1 c2
    by_cases c3 : s[kk].toNat = 10
    · have e3 : ((s[kk].toNat : Int) == 10) = true := by simp; omega
      have HV := Lib.hid (HN.out [92, 110] (by unfold quoteC; rw [if_neg HQ1.out, if_pos (H10.out.2 c3)]))
      clear c3
      go_wp2_with (first | ((with_reducible refine gate_builtin (b := .append) (xs := #[.tmp 33, .const (.string ⟨#[92, 110]⟩)]) rfl ?_); at_builtin; refine RB.str_app (w0 := w) w.heap.size rfl (.tmp 33) (.const (.string ⟨#[92, 110]⟩)) rfl Tryz.underlying38 Tryz.underlying9 infoU u3 acc [92, 110] rfl rfl (by decide) HO.out HB.out HWB.out hal2 ?_; intro v1 w4 ho hb; have HO4 := Lib.hid ho; have HB4 := Lib.hid hb; clear ho hb))
      go_roundg (s.size - (kk + 1))
      case measure => omega
      case rel => exact ⟨kk + 1, acc ++ [92, 110], by omega, by omega, by first | rfl | go_num, by simp; omega, ⟨HV.out⟩, ⟨HO4.out⟩, ⟨HB4.out⟩⟩
    have e3 : ((s[kk].toNat : Int) == 10) = false := by simp; omega
    by_cases c4 : s[kk].toNat = 9
    · have e4 : ((s[kk].toNat : Int) == 9) = true := by simp; omega
      have HV := Lib.hid (HN.out [92, 116] (by unfold quoteC; rw [if_neg HQ1.out, if_neg (fun h => c3 (H10.out.1 h)), if_pos (H9.out.2 c4)]))
      clear c3 c4
      go_wp2_with (first | ((with_reducible refine gate_builtin (b := .append) (xs := #[.tmp 38, .const (.string ⟨#[92, 116]⟩)]) rfl ?_); at_builtin; refine RB.str_app (w0 := w) w.heap.size rfl (.tmp 38) (.const (.string ⟨#[92, 116]⟩)) rfl Tryz.underlying38 Tryz.underlying9 infoU u3 acc [92, 116] rfl rfl (by decide) HO.out HB.out HWB.out hal2 ?_; intro v1 w4 ho hb; have HO4 := Lib.hid ho; have HB4 := Lib.hid hb; clear ho hb))
      go_roundg (s.size - (kk + 1))
      case measure => omega
      case rel => exact ⟨kk + 1, acc ++ [92, 116], by omega, by omega, by first | rfl | go_num, by simp; omega, ⟨HV.out⟩, ⟨HO4.out⟩, ⟨HB4.out⟩⟩
    have e4 : ((s[kk].toNat : Int) == 9) = false := by simp; omega
    have HQ2 : Hid (¬ s[kk] = 10) := fun h => c3 (H10.out.1 h)
    have HQ3 : Hid (¬ s[kk] = 9) := fun h => c4 (H9.out.1 h)
    clear c3 c4
    by_cases c5 : s[kk].toNat < 32 ∨ 126 < s[kk].toNat
    · exfalso
      rcases HPr.out s[kk] (List.getElem_mem (h := by rw [← Lib.size_eq]; exact hlt)) with h | h | h
      · exact HQ2.out h
      · exact HQ3.out h
      · exact h c5
    · have HV := Lib.hid (HN.out L1 (by unfold quoteC; rw [if_neg HQ1.out, if_neg HQ2.out, if_neg HQ3.out, if_neg c5, HL1.out]))
      have e5 : decide ((s[kk].toNat : Int) < 32) = false := by simp; omega
      have e6 : decide ((126 : Int) < (s[kk].toNat : Int)) = false := by simp; omega
      clear c5
      go_wp2_with (first | ((with_reducible refine gate_builtin (b := .append) (xs := #[.tmp 15, .tmp 17]) rfl ?_); at_builtin; refine RB.app (w0 := w) w.heap.size rfl (.tmp 15) (.tmp 17) rfl Tryz.underlying38 infoU u3 acc L1 _ HC1.out HX1.out 1 HM1.out rfl rfl HO.out HB.out HWB.out hal2 ?_; intro v1 w4 ho hb; have HO4 := Lib.hid ho; have HB4 := Lib.hid hb; clear ho hb))
      go_roundg (s.size - (kk + 1))
      case measure => omega
      case rel => exact ⟨kk + 1, acc ++ L1, by omega, by omega, by first | rfl | go_num, by simp only [List.length_append]; omega, ⟨HV.out⟩, ⟨HO4.out⟩, ⟨HB4.out⟩⟩
  · have hltz : ¬ (kk : Int) < (s.size : Int) := by omega
    have HWB := Lib.hid HB.out.size
    have hal : acc.length ≤ 4398046511105 := by omega
    have HV : Hid (T = acc ++ [34]) := by
     show T = _
     rw [← HK.out, List.drop_of_length_le (by rw [← Lib.size_eq]; omega)]
     rfl
    have hal2 : acc.length ≤ 5000000000000 := by omega
    go_wp2_with (first | ((with_reducible refine gate_builtin (b := .append) (xs := #[.tmp 57, .tmp 58]) rfl ?_); at_builtin; refine RB.app (w0 := w) w.heap.size rfl (.tmp 57) (.tmp 58) rfl Tryz.underlying38 infoU u3 acc [34] #[.int .u8 34] rfl (by decide) 1 rfl rfl rfl HO.out HB.out HWB.out hal2 ?_; intro v1 w4 ho hb; have hcv := RB.str ho; have HB4 := Lib.hid hb; clear ho hb))
    go_ret
    rw [HV.out]
    exact ⟨rfl, HB4.out⟩

end Go.Proofs.YthagibkmfgodgaaGreatDoor.X

namespace Go.Proofs.YthagibkmfgodgaaGreatDoor.X
open Go.RowKit Go.Maps Go.Proofs.YthagibkmfgodgaaGreatDoorW.PrintWords Go.Proofs.YthagibkmfgodgaaGreatDoorW.PrintMore Go.Proofs.YthagibkmfgodgaaGreatDoorW.PrintLast

theorem app_mk (a b : Bytes) : mk a ++ mk b = mk (a ++ b) := by
 apply data_inj
 rw [mk_data, ByteArray.data_append, Array.toList_append, mk_data, mk_data]
abbrev datas (l : List ByteArray) : List Bytes := l.map fun x => x.data.toList
theorem join_f {l : List ByteArray} {sep : Bytes} (hl : l.length * 16 ≤ 140737488355328) (hsum : (Lib.join (datas l) sep).length ≤ 70368744177664) : strings_Join.f l (mk sep) = some (mk (Lib.join (datas l) sep)) := by
 unfold strings_Join.f
 rw [mk_data, if_pos ⟨by omega, Nat.le_trans hsum (by omega)⟩]
def clauseF (word : Bytes) (l : List ByteArray) : Bytes := if l = [] then [] else [32, 32] ++ word ++ [32] ++ Lib.join (datas l) [44, 32] ++ [59, 10]
set_option maxHeartbeats 2000000 in
theorem clause_calls (word : Bytes) (A : Option Addr) (c : Nat) (l : List ByteArray) (w : World) (hG : GOK w) (hr : Kd.C Kd.string w A l.length l) (hc : l.length ≤ c) (hw : word.length ≤ 100) (hl : l.length * 16 ≤ 140737488355328) (hsum : (Lib.join (datas l) [44, 32]).length ≤ 70368744177664) :
 Calls Tryz.prog 80 #[.string (mk word), .slice A l.length c] w fun e w' => e = .returned (.string (mk (clauseF word l))) ∧ Below w.heap.size w w' := by
 by_cases h0 : l = []
 · have hd : ((l.length : Int) == 0) = true := by rw [h0]; rfl
   have HE : Hid (clauseF word l = []) := by show _ = _; unfold clauseF; rw [if_pos h0]
   clear h0 hr
   go_enter Tryz.func80, Tryz.ntmps80
   go_wp2
   go_ret
   exact ⟨by rw [HE.out]; rfl, Below.refl _ _⟩
 · have hpos : 0 < l.length := List.length_pos_iff.2 h0
   have hd : ((l.length : Int) == 0) = false := by simp; exact h0
   have HE : Hid (clauseF word l = [32, 32] ++ word ++ [32] ++ Lib.join (datas l) [44, 32] ++ [59, 10]) := by show _ = _; unfold clauseF; rw [if_neg h0]
   have hJ := strings_Join.calls A c l (mk [44, 32]) (mk (Lib.join (datas l) [44, 32])) w hG hr hc (join_f hl hsum)
   generalize Lib.join (datas l) [44, 32] = J at HE hJ hsum
   have n1 : ¬ 9223372036854775807 < 2 + (mk word).size := by rw [mk_size]; omega
   have n2 : ¬ 9223372036854775807 < 2 + (mk word).size + 1 := by rw [mk_size]; omega
   have n3 : ¬ 9223372036854775807 < 2 + (mk word).size + 1 + (mk J).size := by rw [mk_size, mk_size]; omega
   have n4 : ¬ 9223372036854775807 < 2 + (mk word).size + 1 + (mk J).size + 2 := by rw [mk_size, mk_size]; omega
   clear h0 hr
   go_enter Tryz.func80, Tryz.ntmps80
   go_wp2_with (go_at_call 68; refine hJ.mono ?_; rintro e w2 ⟨rfl, hb2⟩)
   go_ret
   refine ⟨?_, hb2⟩
   rw [HE.out, ← app_mk, ← app_mk, ← app_mk, ← app_mk]
   rfl

def quoteS (x : ByteArray) : ByteArray := mk (quoteF x.data.toList)
def PlainB (x : ByteArray) : Prop := x.size ≤ 1099511627776 ∧ ∀ c ∈ x.data.toList, c = 10 ∨ c = 9 ∨ ¬ (c.toNat < 32 ∨ 126 < c.toNat)
def stepL (s : SStep) : List ByteArray := [s.f0, ⟨#[61]⟩, opNameF s.f1] ++ s.f3.map quoteS ++ s.f2
def stepT (s : SStep) : Bytes := Lib.join (datas (stepL s)) [32] ++ [59]
set_option maxHeartbeats 4000000 in
set_option maxRecDepth 100000 in
theorem pstep_calls (s : SStep) (A2 : Option Addr) (c2 : Nat) (A3 : Option Addr) (c3 : Nat) (w : World) (hG : GOK w) (h2 : Kd.C Kd.string w A2 s.f2.length s.f2) (h3 : Kd.C Kd.string w A3 s.f3.length s.f3)
 (h9 : s.f1 ≠ 9) (hpr : ∀ x ∈ s.f3, PlainB x) (hl2 : s.f2.length ≤ 1000) (hl3 : s.f3.length ≤ 1000) (hsum : (Lib.join (datas (stepL s)) [32]).length ≤ 70368744177664) :
 Calls Tryz.prog 39 #[.agg #[.string s.f0, .int .i64 s.f1, .slice A2 s.f2.length c2, .slice A3 s.f3.length c3, .int .i64 s.f4]] w fun e w' => e = .returned (.string (mk (stepT s))) ∧ Below w.heap.size w w' := by
 have hB0 := (Below.refl w.heap.size w).alloc (Nat.le_refl _) (.cells #[.string s.f0, .int .i64 s.f1, .slice A2 s.f2.length c2, .slice A3 s.f3.length c3, .int .i64 s.f4] 62)
 have hb0 := blk_new w (.cells #[.string s.f0, .int .i64 s.f1, .slice A2 s.f2.length c2, .slice A3 s.f3.length c3, .int .i64 s.f4] 62)
 have HB0 := Lib.hid hB0
 have HBlk := Lib.hid hb0
 have HG := Lib.hid hG
 have HPr := Lib.hid hpr
 have HSum := Lib.hid hsum
 have H2 := Lib.hid h2
 have H3 := Lib.hid h3
 have e9 : (s.f1 == 9) = false := by simpa using h9
 clear hB0 hb0 hG hpr hsum h9
 go_enter Tryz.func39, Tryz.ntmps39
 go_wp2
 generalize w.alloc (.cells #[.string s.f0, .int .i64 s.f1, .slice A2 s.f2.length c2, .slice A3 s.f3.length c3, .int .i64 s.f4] 62) = w1 at HB0 HBlk ⊢
 have k0 : w1.cell? ⟨w.heap.size, 0, none⟩ = some (.string s.f0) := (blk_cell HBlk.out 0).trans rfl
 have k1 : w1.cell? ⟨w.heap.size, 1, none⟩ = some (.int .i64 s.f1) := (blk_cell HBlk.out 1).trans rfl
 have hOp := opName_calls s.f1 w1.drew
 have HB0d := Lib.hid (below_drew HB0.out)
 have HBd := Lib.hid (blk_drew HBlk.out)
 go_region_law (first | (go_simp; go_at_call 35; refine hOp.mono ?_; rintro e w2 ⟨rfl, hb2⟩; have HB2 := Lib.hid (below_then HB0d.out HB0d.out.size hb2); have HBlk2 := Lib.hid (blk_below HBd.out hb2); have k02 : w2.cell? ⟨w.heap.size, 0, none⟩ = some (.string s.f0) := (blk_cell HBlk2.out 0).trans rfl; clear hb2))
 all_goals
  have k13 : ∀ ob : Obj, (w2.alloc ob).cell? ⟨w.heap.size, 1, none⟩ = some (.int .i64 s.f1) := fun ob => (blk_cell (blk_alloc HBlk2.out ob) 1).trans rfl
  have k33 : ∀ ob : Obj, (w2.alloc ob).cell? ⟨w.heap.size, 3, none⟩ = some (.slice A3 s.f3.length c3) := fun ob => (blk_cell (blk_alloc HBlk2.out ob) 3).trans rfl
  have HB3 := Lib.hid (HB2.out.alloc HB2.out.size (.cells #[.string s.f0, .string ⟨#[61]⟩, .string (opNameF s.f1)] 9))
  have HBlk3 := Lib.hid (blk_alloc HBlk2.out (.cells #[.string s.f0, .string ⟨#[61]⟩, .string (opNameF s.f1)] 9))
  have HL3 : Hid (RS (w2.alloc (.cells #[.string s.f0, .string ⟨#[61]⟩, .string (opNameF s.f1)] 9)) w.heap.size (.slice (some ⟨w2.heap.size, 0, none⟩) 3 3) [s.f0, ⟨#[61]⟩, opNameF s.f1]) := rs_lit w2 w.heap.size [s.f0, ⟨#[61]⟩, opNameF s.f1] HB2.out.size (by simp)
  go_wp2_with fail
  generalize w2.alloc (.cells #[.string s.f0, .string ⟨#[61]⟩, .string (opNameF s.f1)] 9) = w3 at HB3 HBlk3 HL3 ⊢
  generalize (some (⟨w2.heap.size, 0, none⟩ : Addr)) = AL at HL3 ⊢
  clear k02 HBlk2 HB2 k13 k33
  go_loopg [3, 5, 24] s.f3.length (fun gg s3 _ s24 wr => ∃ (kk : Nat) (A : Option Addr) (c : Nat), kk ≤ s.f3.length ∧ s.f3.length - kk ≤ gg ∧ s24 = .int .i64 kk ∧ s3 = .slice A (3 + kk) c ∧ 3 + kk ≤ c ∧
   Aside0 (RS wr w.heap.size (.slice A (3 + kk) c) ([s.f0, ⟨#[61]⟩, opNameF s.f1] ++ (s.f3.take kk).map quoteS)) ∧ Aside0 (Below w.heap.size w wr) ∧
   Aside0 (wr.heap[w.heap.size]? = some (.cells #[.string s.f0, .int .i64 s.f1, .slice A2 s.f2.length c2, .slice A3 s.f3.length c3, .int .i64 s.f4] 62 (0, 0))))
  case atStart => exact ⟨0, AL, 3, Nat.zero_le _, by omega, rfl, rfl, by omega, ⟨by simpa using HL3.out⟩, ⟨HB3.out⟩, ⟨HBlk3.out⟩⟩
  case round =>
   obtain ⟨kk, A, c, hkk, hgk, rfl, rfl, hcc, HO, HB, HBk⟩ := hrel
   by_cases hlt : kk < s.f3.length
   · have hltz : (kk : Int) < (s.f3.length : Int) := by omega
     rcases row_open (Kd.C_below H3.out HB.out) with h0 | ⟨b, o, rfl, _, hcell⟩
     · rw [h0] at hlt; simp at hlt
     · have hx : wr.cell? ⟨b, o + kk, none⟩ = some (.string (s.f3.getD kk ByteArray.empty)) := hcell kk hlt
       obtain ⟨y, hy⟩ : ∃ y, y = s.f3.getD kk ByteArray.empty := ⟨_, rfl⟩
       rw [← hy] at hx
       have hym : y = s.f3[kk] := by rw [hy]; simp [List.getD_eq_getElem?_getD, List.getElem?_eq_getElem hlt]
       have hyP := HPr.out y (by rw [hym]; exact List.getElem_mem _)
       have hq := fun W => quote_calls y hyP.1 hyP.2 W
       have HN : Hid ((s.f3.take kk).map quoteS ++ [quoteS y] = (s.f3.take (kk + 1)).map quoteS) := by
        show _ = _
        rw [List.take_succ_eq_append_getElem hlt, List.map_append, hym]
        rfl
       have HNl : Hid (([s.f0, (⟨#[61]⟩ : ByteArray), opNameF s.f1] ++ (s.f3.take kk).map quoteS).length = 3 + kk) := by
        show _ = _
        simp only [List.length_append, List.length_map, List.length_take, List.length_cons, List.length_nil]
        omega
       clear hcell hy hym hyP
       go_wp2_with (first | (go_at_call 21; refine (hq _).mono ?_; rintro e w4 ⟨rfl, hb4⟩; have HB4 := Lib.hid (below_then HB.out HB.out.size hb4); have HO4 := Lib.hid (Kd.R_below HO.out hb4); have HBk4 := Lib.hid (blk_below HBk.out hb4); have HS4 : Hid (w.heap.size ≤ w4.heap.size) := HB4.out.size; clear hb4) | ((with_reducible refine gate_builtin (b := .append) (xs := #[.tmp 28, .tmp 31]) rfl ?_); at_builtin; refine Kd.R_append Kd.string (w0 := w) w.heap.size rfl (.tmp 28) (.tmp 31) 46 9 (.string ⟨#[]⟩) 16 rfl Tryz.underlying46 infoStr rfl (by decide) (by decide) (.slice A (3 + kk) c) ([s.f0, ⟨#[61]⟩, opNameF s.f1] ++ (s.f3.take kk).map quoteS) (quoteS y) [.string (quoteS y)] (fun _ => True) (fun k_ => True ∧ some k_ ≠ (Value.slice A (3 + kk) c).ownBlock) rfl rfl rfl (fun _ hk => hk) (fun _ _ => trivial) HO4.out HB4.out HS4.out ?aL ?_; (case aL => rw [HNl.out]; omega); intro v1 w5 ho hb hg hat; obtain ⟨AN, cN, rfl, hcN, _⟩ := Kd.R_reads ho; have HO5 := Lib.hid ho; have HB5 := Lib.hid hb; have HBk5 := Lib.hid (blk_grown HBk4.out hg (Kd.R_ne HO4.out HBk4.out (by decide))); have HcN := Lib.hid hcN; clear ho hb hg hat hcN))
       have hLn : ([s.f0, (⟨#[61]⟩ : ByteArray), opNameF s.f1] ++ (s.f3.take kk).map quoteS ++ [quoteS y]).length = 3 + (kk + 1) := by rw [List.length_append, HNl.out]; rfl
       have hO5 := HO5.out
       have hcN := HcN.out
       rw [hLn] at hO5 hcN
       rw [List.append_assoc, HN.out] at hO5
       go_roundg (s.f3.length - (kk + 1))
       case measure => omega
       case rel =>
        exact ⟨kk + 1, AN, cN, by omega, by omega, by go_num, by first | rfl | (congr 1; omega) | (simp; omega), hcN, ⟨hO5⟩, ⟨HB5.out⟩, ⟨HBk5.out⟩⟩
   · have hltz : ¬ (kk : Int) < (s.f3.length : Int) := by omega
     obtain rfl : kk = s.f3.length := by omega
     have hLL : [s.f0, (⟨#[61]⟩ : ByteArray), opNameF s.f1] ++ (s.f3.take s.f3.length).map quoteS ++ s.f2 = stepL s := by rw [List.take_length]; rfl
     have hLn : ([s.f0, (⟨#[61]⟩ : ByteArray), opNameF s.f1] ++ (s.f3.take s.f3.length).map quoteS).length = 3 + s.f3.length := by
      simp only [List.length_append, List.length_map, List.length_take, List.length_cons, List.length_nil, Nat.min_self]
     have HLL := Lib.hid hLL
     have HLn := Lib.hid hLn
     have HWB := Lib.hid HB.out.size
     have H2r := Lib.hid (Kd.C_below H2.out HB.out)
     have k2 : wr.cell? ⟨w.heap.size, 2, none⟩ = some (.slice A2 s.f2.length c2) := (blk_cell HBk.out 2).trans rfl
     have hlS : (stepL s).length = 3 + s.f3.length + s.f2.length := by rw [← hLL, List.length_append, hLn]
     have HlS : Hid ((stepL s).length * 16 ≤ 140737488355328) := by show _ ≤ _; rw [hlS]; omega
     clear hLL hLn hlS
     go_wp2_with (first | ((with_reducible refine gate_builtin (b := .append) (xs := #[.tmp 34, .tmp 36]) rfl ?_); at_builtin; refine Kd.R_append_rows Kd.string (Rr := Kd.string.K wr) (w0 := w) w.heap.size rfl (.tmp 34) (.tmp 36) 46 9 (.string ⟨#[]⟩) 16 rfl Tryz.underlying46 infoStr rfl (by decide) (by decide) (.slice A (3 + s.f3.length) c) ([s.f0, ⟨#[61]⟩, opNameF s.f1] ++ (s.f3.take s.f3.length).map quoteS) s.f2 A2 s.f2.length c2 (fun _ => True) (fun k_ => True ∧ some k_ ≠ (Value.slice A (3 + s.f3.length) c).ownBlock) rfl rfl HO.out H2r.out (fun _ _ h => h) (fun _ hk => hk) (fun _ _ => trivial) HB.out HWB.out ?aL ?_; (case aL => rw [HLn.out]; omega); intro v1 w5 ho hb hg hat; rw [HLL.out] at ho; obtain ⟨AN, cN, rfl, hcN, hrN⟩ := Kd.R_reads ho; have HB5 := Lib.hid hb; have HcN := Lib.hid hcN; have HrN := Lib.hid hrN; have hJ := strings_Join.calls AN cN (stepL s) (mk [32]) (mk (Lib.join (datas (stepL s)) [32])) w5 (HG.out.below hb) hrN hcN (join_f HlS.out HSum.out); have hn1 : ¬ 9223372036854775807 < (mk (Lib.join (datas (stepL s)) [32])).size + 1 := (by rw [mk_size]; have := HSum.out; omega); clear ho hb hg hat hcN hrN) | (go_at_call 68; refine hJ.mono ?_; rintro e w6 ⟨rfl, hb6⟩; have HB6 := Lib.hid (below_then HB5.out HB5.out.size hb6); clear hb6))
     go_ret
     refine ⟨?_, HB6.out⟩
     unfold stepT
     rw [← app_mk]
     rfl

end Go.Proofs.YthagibkmfgodgaaGreatDoor.X

namespace Go.Proofs.YthagibkmfgodgaaGreatDoor.X
open Go.RowKit Go.Maps Go.Proofs.YthagibkmfgodgaaGreatDoorW.PrintWords Go.Proofs.YthagibkmfgodgaaGreatDoorW.PrintMore Go.Proofs.YthagibkmfgodgaaGreatDoorW.PrintLast

structure Sl where
 a : Option Addr
 n : Nat
 c : Nat
def Sl.v (s : Sl) : Value := .slice s.a s.n s.c
def kSl : Kd Sl := Kd.scalar Sl.v (fun _ => rfl)
abbrev Sh := ByteArray × Int × Sl × Sl × Int
def kSh : Kd Sh := Kd.pair Kd.string (Kd.pair (Kd.int .i64) (Kd.pair kSl (Kd.pair kSl (Kd.int .i64))))
theorem sh_K {w : World} (x : Sh) {cs : List Value} : kSh.K w x cs ↔ cs = [.string x.1, .int .i64 x.2.1, x.2.2.1.v, x.2.2.2.1.v, .int .i64 x.2.2.2.2] := by
 constructor
 · rintro ⟨_, _, rfl, rfl, _, _, rfl, rfl, _, _, rfl, rfl, _, _, rfl, rfl, rfl⟩
   rfl
 · rintro rfl
   exact ⟨[_], [_, _, _, _], rfl, rfl, [_], [_, _, _], rfl, rfl, [_], [_, _], rfl, rfl, [_], [_], rfl, rfl, rfl⟩
theorem sh_M {w : World} {base : Nat} {ok : Nat → Prop} (x : Sh) {cs : List Value} : kSh.M w base ok x cs ↔ cs = [.string x.1, .int .i64 x.2.1, x.2.2.1.v, x.2.2.2.1.v, .int .i64 x.2.2.2.2] := by
 constructor
 · rintro ⟨_, _, rfl, rfl, _, _, rfl, rfl, _, _, rfl, rfl, _, _, rfl, rfl, rfl⟩
   rfl
 · rintro rfl
   exact ⟨[_], [_, _, _, _], rfl, rfl, [_], [_, _, _], rfl, rfl, [_], [_, _], rfl, rfl, [_], [_], rfl, rfl, rfl⟩
set_option maxHeartbeats 4000000 in
set_option maxRecDepth 100000 in
theorem cloneS_calls (ad : Addr) (c : Nat) (l : List Sh) (w : World) (hr : Kd.C kSh w (some ad) l.length l) (hl : l.length ≤ 1000) :
 Calls Tryz.prog 93 #[.slice (some ad) l.length c] w fun e w' => ∃ v, e = .returned v ∧ Kd.R kSh 62 w' w.heap.size (fun _ => True) v l ∧ Below w.heap.size w w' := by
 have HO : Hid (Kd.R kSh 62 (w.alloc (.cells #[] 62)) w.heap.size (fun _ => True) (.slice (some ⟨w.heap.size, 0, none⟩) 0 0) []) :=
  ⟨fun _ _ => trivial, OwnRow.lit (ps := []) (inner := []) w w.heap.size (Reps.none _ _) (Nat.le_refl _) (by simp)⟩
 have HC := Lib.hid (Kd.C_below hr ((Below.refl w.heap.size w).alloc (Nat.le_refl _) (.cells #[] 62)))
 have HB := Lib.hid ((Below.refl w.heap.size w).alloc (Nat.le_refl _) (.cells #[] 62))
 have hnil : ∀ W, (binOp .eql 47 (.slice (some ad) l.length c) (.slice none 0 0)).run Tryz.prog W = .ok (.bool false) W := fun _ => rfl
 clear hr
 go_enter Tryz.func93, Tryz.ntmps93
 go_wp2_with (first | ((with_reducible refine gate_builtin (b := .append) (xs := #[.tmp 5, .tmp 6]) rfl ?_); at_builtin; refine Kd.R_append_rows kSh (Rr := kSh.K (w.alloc (.cells #[] 62))) (w0 := w) w.heap.size rfl (.tmp 5) (.tmp 6) 47 62 (.agg #[.string ⟨#[]⟩, .int .i64 0, .slice none 0 0, .slice none 0 0, .int .i64 0]) 80 rfl Tryz.underlying47 info62 rfl (by decide) (by decide) (.slice (some ⟨w.heap.size, 0, none⟩) 0 0) [] l (some ad) l.length c (fun _ => True) (fun k_ => True ∧ some k_ ≠ (Value.slice (some (⟨w.heap.size, 0, none⟩ : Addr)) 0 0).ownBlock) rfl rfl HO.out HC.out (fun x cs h => (sh_M x).2 ((sh_K x).1 h)) (fun _ hk => hk) (fun _ _ => trivial) HB.out HB.out.size ?aL ?_; (case aL => simp; omega); intro v1 w4 ho hb hg hat; have HO4 := Lib.hid ho; have HB4 := Lib.hid hb; clear ho hb hg hat))
 go_ret
 exact ⟨v1, rfl, HO4.out, HB4.out⟩

end Go.Proofs.YthagibkmfgodgaaGreatDoor.X
