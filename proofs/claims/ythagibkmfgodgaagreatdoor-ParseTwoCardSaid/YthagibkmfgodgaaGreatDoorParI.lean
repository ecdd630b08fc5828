/-
  parse.File, walked by hand.
-/
import Derived.Test.YthagibkmfgodgaaGreatDoorParH
import Derived.Test.YthagibkmfgodgaaGreatDoorPlainTwo
namespace Go.Proofs.YthagibkmfgodgaaGreatDoor.X
open Go.RowKit Go.Maps Go.Proofs.YthagibkmfgodgaaGreatDoorW.PrintWords Go.Proofs.YthagibkmfgodgaaGreatDoorW.PrintMore Go.Proofs.YthagibkmfgodgaaGreatDoorW.PrintLast

theorem words_of {W : World} {base : Nat} {v : Value} {l : List SWord} (h : Kd.R k34 34 W base (fun _ => True) v l) (hne : l ≠ []) :
    ∃ b c cur, v = .slice (some ⟨b, 0, none⟩) l.length c ∧ l.length ≤ c ∧ W.heap[b]? = some (.cells cur 34 (0, 0)) ∧ WordsAt cur 0 l := by
  obtain ⟨A, c, he, hc, hC⟩ := Kd.R_reads h
  obtain ⟨inner, ho⟩ := Kd.R_own h
  have hpos : 0 < l.length := List.length_pos_iff.2 hne
  rcases ho.2 with ⟨hv, hn⟩ | ⟨g, cap, cur, hv, hg, hh, r⟩
  · omega
  · rw [he] at hv
    injection hv with h1 h2 h3
    subst h1
    refine ⟨g, c, cur, he, hc, hh, fun j x hj => ?_⟩
    obtain ⟨ad, ha, hcell⟩ := hC.2.2 hpos
    injection ha with ha
    subst ha
    obtain ⟨cs, hl, hK, hcc⟩ := hcell j x hj
    have hcs := k34_open hK
    subst hcs
    have k0 := hcc 0 _ rfl
    have k1 := hcc 1 _ rfl
    have k2 := hcc 2 _ rfl
    rw [add_plain, blk_cell hh] at k0 k1 k2
    have hsz : (k34).sz = 3 := rfl
    rw [hsz] at k0 k1 k2
    refine ⟨?_, ?_, ?_⟩
    · rw [show 0 + 3 * j = j * 3 + 0 by omega]; exact k0
    · rw [show 0 + 3 * j + 1 = j * 3 + 1 by omega]; exact k1
    · rw [show 0 + 3 * j + 2 = j * 3 + 2 by omega]; exact k2
theorem mS_rule {s : PS} (hg : GoodW s.1) (hs : s.2 < 0) : mS (ruleP s).2 < mS s := by
  have hm : mS s = s.1.length + 1 := by unfold mS; rw [if_pos hs]
  have h1 : mS (mustP 1 wRule s) < mS s := by
    rw [hm]
    unfold mustP
    split
    · have h2 := mS_le (s.1.tail, s.2)
      have h3 : 0 < s.1.length := List.length_pos_iff.2 hg.ne
      have h4 : (s.1.tail, s.2).1.length = s.1.length - 1 := List.length_tail
      omega
    · have := failsP_stop hg hs
      unfold mS
      rw [if_neg this, failsP_len]
      omega
  have h2 : mS (ruleP s).2 ≤ mS (mustP 1 wRule s) := by
    have h := inv_mS (mS (mustP 1 wRule s))
    exact h.must (h.steps _ (h.if_ _ (h.list (h.must (h.if_ _ (h.must (h.name (Nat.le_refl _)) (by decide) _)) (by decide) _)))) (by decide) _
  omega
theorem rules_fuel' : ∀ (n m : Nat) (s : PS), GoodW s.1 → mS s ≤ n → mS s ≤ m → rulesP n s = rulesP m s
  | 0, 0, _, _, _, _ => rfl
  | 0, m + 1, s, hg, h, _ => by
    unfold rulesP
    rw [if_neg (fun hc => by have := List.length_pos_iff.2 hg.ne; unfold mS at h; omega)]
  | n + 1, 0, s, hg, _, h => by
    unfold rulesP
    rw [if_neg (fun hc => by have := List.length_pos_iff.2 hg.ne; unfold mS at h; omega)]
  | n + 1, m + 1, s, hg, h1, h2 => by
    unfold rulesP
    by_cases hc : s.2 < 0 ∧ (headW s.1).f0 ≠ 4
    · rw [if_pos hc, if_pos hc]
      have := mS_rule hg hc.1
      rw [rules_fuel' n m _ (inv_good.rule hg) (by omega) (by omega)]
    · rw [if_neg hc, if_neg hc]
theorem lexL_len : ∀ (k p : Nat) (s : Bytes) (l : List SWord), lexL k p s = .ok l → l.length ≤ s.length
  | 0, _, _, _, h => by cases h
  | k + 1, p, s, l, h => by
    unfold lexL at h
    by_cases h0 : s = []
    · rw [if_pos h0] at h; cases h; simp
    · rw [if_neg h0] at h
      cases hw : wordF s with
      | none => rw [hw] at h; cases h
      | some q =>
        rw [hw] at h
        obtain ⟨a, ha, rfl⟩ := map_ok h
        have h1 := lexL_len k _ _ a ha
        have h2 := word_pos hw
        simp only [List.length_drop] at h1
        simp only [List.length_cons]
        omega
theorem allF_len {s : Bytes} {l : List SWord} (h : allF s = .ok l) : l.length ≤ s.length + 1 := by
  unfold allF at h
  obtain ⟨a, ha, rfl⟩ := map_ok h
  have := lexL_len _ _ _ a ha
  rw [List.length_drop] at this
  simp
  omega
/-- What parse.File answers. -/
def IsFileR (r : List SRule × Int × Int) (w : World) (e : Ending) (w' : World) : Prop :=
  ∃ v : Value, e = .returned (.tuple #[v, .agg #[.int .i64 r.2.1, .int .i64 r.2.2]]) ∧ Kd.R k49 49 w' w.heap.size (fun _ => True) v r.1 ∧ Below w.heap.size w w'

set_option maxHeartbeats 8000000 in
set_option maxRecDepth 100000 in
theorem file_calls (s : ByteArray) (w : World) (hG : GOK w) :
    Calls Tryz.prog 28 #[.string s] w (IsFileR (fileT s.data.toList) w) := by
  have HG := Lib.hid hG
  clear hG
  by_cases hbig : 20000 < s.size
  · have hd : decide ((20000 : Int) < (s.size : Int)) = true := by simp; omega
    have HV : Hid (fileT s.data.toList = ([], 4, -1)) := by
      show _ = _
      unfold fileT
      rw [if_pos (by rw [← Lib.size_eq]; exact hbig)]
    clear hbig
    go_enter Tryz.func28, Tryz.ntmps28
    go_wp2
    have hs := blk_new w (.cells #[.int .i64 4, .int .i64 (-1)] 27)
    have hB := (Below.refl w.heap.size w).alloc (Nat.le_refl _) (.cells #[.int .i64 4, .int .i64 (-1)] 27)
    generalize w.alloc (.cells #[.int .i64 4, .int .i64 (-1)] 27) = wE at hs hB ⊢
    have g0 := (blk_cell hs 0).trans rfl
    have g1 := (blk_cell hs 1).trans rfl
    exact bodyPost_ret (v := .tuple #[.slice none 0 0, .agg #[.int .i64 4, .int .i64 (-1)]]) (by simp [results, Tryz.results28, go_sem, g0, g1]) rfl (by
      rw [HV.out]
      exact ⟨_, rfl, Kd.R_nil _ _ _ _ _, hB⟩)
  · have hd : decide ((20000 : Int) < (s.size : Int)) = false := by simp; omega
    have hlen : s.data.toList.length ≤ 20000 := by rw [← Lib.size_eq]; omega
    have hA := fun W => all_calls s (by omega) W
    have hV : fileT s.data.toList = match allF s.data.toList with | .error p => ([], 1, (p : Nat)) | .ok l => fileP l := by
      unfold fileT
      rw [if_neg (by omega)]
      rfl
    clear hbig
    cases hall : allF s.data.toList with
    | error p =>
      have HV : Hid (fileT s.data.toList = ([], 1, ((p : Nat) : Int))) := by show _ = _; rw [hV, hall]
      rw [hall] at hA
      replace hA : ∀ W, Calls Tryz.prog 18 #[.string s] W (IsAllR ([], 1, (p : Nat)) W) := hA
      clear hV hall hlen
      go_enter Tryz.func28, Tryz.ntmps28
      go_wp2_with fail
      refine (hA _).mono ?_
      rintro e w1 ⟨v0, rfl, hr1, hb1⟩
      have hR1 := blk_below (blk_new w (.cells #[.int .i64 0, .int .i64 0] 27)) hb1
      have HB1 := Lib.hid (below_then ((Below.refl w.heap.size w).alloc (Nat.le_refl _) (.cells #[.int .i64 0, .int .i64 0] 27)) (by simp) hb1)
      obtain ⟨A0, c0, rfl, _, _⟩ := Kd.R_reads hr1
      have hR2 := blk_alloc hR1 (.cells #[.int .i64 1, .int .i64 (p : Nat)] 27)
      have hE2 := blk_new w1 (.cells #[.int .i64 1, .int .i64 (p : Nat)] 27)
      have HB2 := Lib.hid (HB1.out.alloc HB1.out.size (.cells #[.int .i64 1, .int .i64 (p : Nat)] 27))
      clear hA hb1 hr1 hR1 HB1
      go_wp2
      generalize w1.alloc (.cells #[.int .i64 1, .int .i64 (p : Nat)] 27) = w2 at hR2 hE2 HB2 ⊢
      generalize w1.heap.size = E at hE2 ⊢
      have HR2 := Lib.hid hR2
      have k0 : w2.cell? ⟨E, 0, none⟩ = some (.int .i64 1) := (blk_cell hE2 0).trans rfl
      have k1 : w2.cell? ⟨E, 1, none⟩ = some (.int .i64 (p : Nat)) := (blk_cell hE2 1).trans rfl
      have r0 : w2.cell? ⟨w.heap.size, 0, none⟩ = some (.int .i64 0) := (blk_cell hR2 0).trans rfl
      have r1 : w2.cell? ⟨w.heap.size, 1, none⟩ = some (.int .i64 0) := (blk_cell hR2 1).trans rfl
      have f0 : w2.frozen? ⟨w.heap.size, 0, none⟩ = false := blk_frozen hR2 0
      have f1 : w2.frozen? ⟨w.heap.size, 1, none⟩ = false := blk_frozen hR2 1
      clear hR2 hE2
      go_region
      all_goals
        have hs := two_set (.int .i64 1) (.int .i64 (p : Nat)) HR2.out
        have hB := (HB2.out.setCell (p := ⟨w.heap.size, 0, none⟩) (Nat.le_refl _) (.int .i64 1)).setCell (p := ⟨w.heap.size, 1, none⟩) (Nat.le_refl _) (.int .i64 (p : Nat))
        go_wp2
        have hs2 := blk_drew hs
        have hB2 := below_drew hB
        generalize ((w2.setCell ⟨w.heap.size, 0, none⟩ (.int .i64 1)).setCell ⟨w.heap.size, 1, none⟩ (.int .i64 (p : Nat))).drew = wE at hs2 hB2 ⊢
        have g0 := (blk_cell hs2 0).trans rfl
        have g1 := (blk_cell hs2 1).trans rfl
        exact bodyPost_ret (v := .tuple #[.slice none 0 0, .agg #[.int .i64 1, .int .i64 (p : Nat)]]) (by simp [results, Tryz.results28, go_sem, g0, g1]) rfl (by
          rw [HV.out]
          exact ⟨_, rfl, Kd.R_nil _ _ _ _ _, hB2⟩)
    | ok l =>
      have HV : Hid (fileT s.data.toList = fileP l) := by show _ = _; rw [hV, hall]
      have hgood : GoodW l := allF_good (by omega) hall
      have hll : l.length ≤ 20001 := Nat.le_trans (allF_len hall) (Nat.add_le_add_right hlen 1)
      rw [hall] at hA
      replace hA : ∀ W, Calls Tryz.prog 18 #[.string s] W (IsAllR (l, 0, 0) W) := hA
      have HGood := Lib.hid hgood
      clear hV hall hlen hgood
      go_enter Tryz.func28, Tryz.ntmps28
      go_wp2_with fail
      refine (hA _).mono ?_
      rintro e w1 ⟨v0, rfl, hr1, hb1⟩
      replace hr1 : Kd.R k34 34 w1 (w.alloc (.cells #[.int .i64 0, .int .i64 0] 27)).heap.size (fun _ => True) v0 l := hr1
      have hR1 := blk_below (blk_new w (.cells #[.int .i64 0, .int .i64 0] 27)) hb1
      have hB1 := below_then ((Below.refl w.heap.size w).alloc (Nat.le_refl _) (.cells #[.int .i64 0, .int .i64 0] 27)) (by simp) hb1
      obtain ⟨b, c, cur, rfl, hc, hbl, hwd⟩ := words_of hr1 HGood.out.ne
      have hs2 := blk_alloc hbl (.cells #[.int .i64 0, .int .i64 0] 27)
      have hs3 := blk_alloc hs2 (.cells #[.slice (some ⟨b, 0, none⟩) l.length c, .int .i64 (-1)] 74)
      have hp3 := blk_new (w1.alloc (.cells #[.int .i64 0, .int .i64 0] 27)) (.cells #[.slice (some ⟨b, 0, none⟩) l.length c, .int .i64 (-1)] 74)
      have hR3 := blk_alloc (blk_alloc hR1 (.cells #[.int .i64 0, .int .i64 0] 27)) (.cells #[.slice (some ⟨b, 0, none⟩) l.length c, .int .i64 (-1)] 74)
      have hB2 := hB1.alloc hB1.size (.cells #[.int .i64 0, .int .i64 0] 27)
      have hB3 := hB2.alloc hB2.size (.cells #[.slice (some ⟨b, 0, none⟩) l.length c, .int .i64 (-1)] 74)
      have hgs : (w1.alloc (.cells #[.int .i64 0, .int .i64 0] 27)).heap.size = w1.heap.size + 1 := by simp
      have hwl : w.heap.size < w1.heap.size := blk_lt hR1
      rw [hgs] at hp3
      have hF : Fly ((w1.alloc (.cells #[.int .i64 0, .int .i64 0] 27)).alloc (.cells #[.slice (some ⟨b, 0, none⟩) l.length c, .int .i64 (-1)] 74)) (w1.heap.size + 1) ((w1.alloc (.cells #[.int .i64 0, .int .i64 0] 27)).alloc (.cells #[.slice (some ⟨b, 0, none⟩) l.length c, .int .i64 (-1)] 74)) (l, -1) := by
        refine Fly.start ⟨⟨b, 0, c, cur, hp3, hc, hs3, hwd⟩, ⟨w, HG.out, by omega, hB3⟩, HGood.out, by show l.length ≤ 100000; omega⟩
      have HF := Lib.hid hF
      have HR := Lib.hid hR3
      have HB := Lib.hid hB3
      have hRg : w.heap.size < w1.heap.size + 1 := by omega
      clear hA hb1 hr1 hR1 hB1 hbl hwd hs2 hs3 hp3 hR3 hB2 hB3 hgs hF hwl hc
      go_wp2_with fail
      generalize (w1.alloc (.cells #[.int .i64 0, .int .i64 0] 27)).alloc (.cells #[.slice (some ⟨b, 0, none⟩) l.length c, .int .i64 (-1)] 74) = wg at HF HR HB ⊢
      generalize w1.heap.size + 1 = g at HF hRg ⊢
      go_loopg [7] (mS (l, -1)) (fun gg s7 wr => ∃ (acc : List SRule) (s2 : PS) (A : Option Addr) (c : Nat), s7 = .slice A acc.length c ∧ mS s2 ≤ gg ∧ acc.length + mS s2 ≤ mS (l, -1) ∧ Aside0 (acc ++ (rulesP (mS s2) s2).1 = (rulesP (mS (l, -1)) (l, -1)).1 ∧ (rulesP (mS s2) s2).2 = (rulesP (mS (l, -1)) (l, -1)).2) ∧
        Aside0 (Kd.R k49 49 wr wg.heap.size (fun _ => True) (.slice A acc.length c) acc) ∧ Aside0 (Fly wg g wr s2) ∧ Aside0 (wr.heap[w.heap.size]? = some (.cells #[.int .i64 0, .int .i64 0] 27 (0, 0))))
      case atStart => exact ⟨[], (l, -1), none, 0, rfl, Nat.le_refl _, by simp, ⟨by simp⟩, ⟨Kd.R_nil _ _ _ _ _⟩, ⟨HF.out⟩, ⟨HR.out⟩⟩
      case round =>
        obtain ⟨acc, s2, A, c, rfl, hgk, hal, HK, HA7, HF7, HR7⟩ := hrel
        have hO := ok_calls g s2 wr HF7.out.par.has
        have hO2 := hO
        by_cases hb : s2.2 < 0
        · have hbd : decide (s2.2 < 0) = true := by simpa using hb
          rw [hbd] at hO
          obtain ⟨b2, o2, cp, cur2, hq⟩ := HF7.out.par.has
          have h0 : wr.cell? ⟨g, 0, none⟩ = some (.slice (some ⟨b2, o2, none⟩) s2.1.length cp) := (blk_cell hq.own 0).trans rfl
          obtain ⟨kk0, _, _⟩ := hq.first HF7.out.par.good.ne
          have hpos : 0 < s2.1.length := List.length_pos_iff.2 HF7.out.par.good.ne
          by_cases hk : (headW s2.1).f0 = 4
          · have hkd : ((headW s2.1).f0 != 4) = false := by simpa using hk
            have HKn : acc = (rulesP (mS (l, -1)) (l, -1)).1 ∧ s2 = (rulesP (mS (l, -1)) (l, -1)).2 := by
              have hK := HK.out
              have h0 : rulesP (mS s2) s2 = ([], s2) := by
                generalize mS s2 = n
                cases n with
                | zero => rfl
                | succ n => unfold rulesP; rw [if_neg (fun h => h.2 hk)]
              rw [h0, List.append_nil] at hK
              exact hK
            have HV2 : Hid (fileT s.data.toList = (acc, 0, 0)) := by
              show _ = _
              rw [HV.out, fileP_of, show l.length + 1 = mS (l, -1) from rfl, if_pos (by rw [← HKn.2]; exact hb), ← HKn.1]
            have HB7 := Lib.hid (HB.out.grown HF7.out.grown HB.out.size (fun k hk => by injection hk with hk; omega))
            have r0 : wr.cell? ⟨w.heap.size, 0, none⟩ = some (.int .i64 0) := (blk_cell HR7.out 0).trans rfl
            have r1 : wr.cell? ⟨w.heap.size, 1, none⟩ = some (.int .i64 0) := (blk_cell HR7.out 1).trans rfl
            have f0 := blk_frozen HR7.out 0
            have f1 := blk_frozen HR7.out 1
            clear hbd hb hk hq HKn HK HV hO2
            go_wp2_with (go_at_call 51; refine hO.mono ?_; rintro e w' ⟨rfl, rfl⟩)
            have hs := two_set (.int .i64 0) (.int .i64 0) HR7.out
            have hB := (HB7.out.setCell (p := ⟨w.heap.size, 0, none⟩) (Nat.le_refl _) (.int .i64 0)).setCell (p := ⟨w.heap.size, 1, none⟩) (Nat.le_refl _) (.int .i64 0)
            have hA9 := Kd.R_set (Kd.R_set (Kd.R_lower HA7.out HB.out.size) HR7.out (by decide) 0 (.int .i64 0)) (blk_put HR7.out 0 (.int .i64 0) rfl) (by decide) 1 (.int .i64 0)
            generalize (wr.setCell ⟨w.heap.size, 0, none⟩ (.int .i64 0)).setCell ⟨w.heap.size, 1, none⟩ (.int .i64 0) = wE at hs hB hA9 ⊢
            have g0 := (blk_cell hs 0).trans rfl
            have g1 := (blk_cell hs 1).trans rfl
            exact bodyPost_ret (v := .tuple #[.slice A acc.length c, .agg #[.int .i64 0, .int .i64 0]]) (by simp [results, Tryz.results28, go_sem, g0, g1]) rfl (by
              rw [HV2.out]
              exact ⟨_, rfl, hA9, hB⟩)
          · have hkd : ((headW s2.1).f0 != 4) = true := by simpa using hk
            have hN := fun W hW => rule_calls g s2 W hW
            have hmn := mS_rule HF7.out.par.good hb
            have HKn : Hid (((acc ++ [(ruleP s2).1]) ++ (rulesP (mS (ruleP s2).2) (ruleP s2).2).1 = (rulesP (mS (l, -1)) (l, -1)).1 ∧ (rulesP (mS (ruleP s2).2) (ruleP s2).2).2 = (rulesP (mS (l, -1)) (l, -1)).2)) := by
              have hK := HK.out
              obtain ⟨n, hn⟩ : ∃ n, mS s2 = n + 1 := ⟨mS s2 - 1, by omega⟩
              rw [hn, rulesP, if_pos ⟨hb, hk⟩, rules_fuel' n (mS (ruleP s2).2) (ruleP s2).2 (inv_good.rule HF7.out.par.good) (by omega) (Nat.le_refl _)] at hK
              exact ⟨by rw [← hK.1]; simp, hK.2⟩
            generalize (ruleP s2).1 = x at HKn hN
            generalize (ruleP s2).2 = s3 at HKn hN hmn
            have hal2 : acc.length ≤ 200000 := by
              have : mS (l, -1) ≤ 20002 := Nat.le_trans (mS_le _) (by show l.length + 1 ≤ 20002; omega)
              omega
            clear hbd hb hk hq
            go_wp2_with (first | (go_at_call 51; refine hO.mono ?_; rintro e w' ⟨rfl, rfl⟩) | (go_at_call 52; refine (hN _ HF7.out.par).mono ?_; rintro e w8 ⟨v1, v2, v3, v4, rfl, hx1, hx2, hx3, hx4, hp8, hg8⟩; obtain ⟨X1, d1, rfl, _, _⟩ := Kd.R_reads hx1; obtain ⟨X2, d2, rfl, _, _⟩ := Kd.R_reads hx2; obtain ⟨X3, d3, rfl, _, _⟩ := Kd.R_reads hx3; obtain ⟨X4, d4, rfl, _, _⟩ := Kd.R_reads hx4; have HX1 := Lib.hid (Kd.R_lower (Kd.R_new hx1 (Kd.R_own HA7.out).choose_spec) HF7.out.grown.size); have HX2 := Lib.hid (Kd.R_lower (Kd.R_new hx2 (Kd.R_own HA7.out).choose_spec) HF7.out.grown.size); have HX3 := Lib.hid (Kd.R_lower (Kd.R_new hx3 (Kd.R_own HA7.out).choose_spec) HF7.out.grown.size); have HX4 := Lib.hid (Kd.R_lower (Kd.R_new hx4 (Kd.R_own HA7.out).choose_spec) HF7.out.grown.size); have HF8 := Lib.hid (HF7.out.call hp8 hg8); have HR8 := Lib.hid (blk_grown HR7.out hg8 (fun e => by injection e with e; omega)); have HA8 := Lib.hid (row_keep HA7.out hg8 HF7.out.lt); clear hx1 hx2 hx3 hx4 hp8 hg8) | ((with_reducible refine gate_builtin (b := .append) (xs := #[.tmp 36, .tmp 39]) rfl ?_); at_builtin; refine Kd.R_append k49 (w0 := w8) wg.heap.size rfl (.tmp 36) (.tmp 39) 35 49 (.agg #[.string ⟨#[]⟩, .slice none 0 0, .slice none 0 0, .slice none 0 0, .slice none 0 0]) 112 rfl Tryz.underlying35 info49 rfl (by decide) (by decide) (.slice A acc.length c) acc x [.string x.f0, .slice X1 x.f1.length d1, .slice X2 x.f2.length d2, .slice X3 x.f3.length d3, .slice X4 x.f4.length d4] (fun _ => True) (fun k_ => True ∧ some k_ ≠ (Value.slice A acc.length c).ownBlock) rfl rfl (k49_mkM _ _ _ x HX1.out HX2.out HX3.out HX4.out) (fun _ hk => hk) (fun _ _ => trivial) HA8.out (Below.refl _ _) HF8.out.grown.size ?aL ?_; (case aL => omega); intro v1 w9 ho hb hg hat; obtain ⟨AN, cN, rfl, _, _⟩ := Kd.R_reads ho; have HA9 := Lib.hid ho; have HF9 := Lib.hid (HF8.out.row (Kd.R_own HA8.out).choose_spec (by decide) (by decide) (Nat.le_refl _) hb hg); have HR9 := Lib.hid (blk_grown HR8.out hg (Kd.R_ne HA8.out HR8.out (by decide))); clear ho hb hg hat))
            have hlen : acc.length + 1 = (acc ++ [x]).length := by simp
            go_roundg (mS s3)
            case measure => omega
            case rel => exact ⟨acc ++ [x], s3, AN, cN, by first | rfl | (simp only [List.length_append, List.length_singleton]), Nat.le_refl _, by rw [List.length_append, List.length_singleton]; omega, ⟨HKn.out⟩, ⟨HA9.out⟩, ⟨HF9.out⟩, ⟨HR9.out⟩⟩
        · have hbd : decide (s2.2 < 0) = false := by simpa using hb
          rw [hbd] at hO
          have HKn : s2 = (rulesP (mS (l, -1)) (l, -1)).2 := by
            have hK := HK.out
            have h0 : rulesP (mS s2) s2 = ([], s2) := by
              generalize mS s2 = n
              cases n with
              | zero => rfl
              | succ n => unfold rulesP; rw [if_neg (fun h => hb h.1)]
            rw [h0] at hK
            exact hK.2
          have HV2 : Hid (fileT s.data.toList = ([], 1, s2.2)) := by
            show _ = _
            rw [HV.out, fileP_of, show l.length + 1 = mS (l, -1) from rfl, if_neg (by rw [← HKn]; exact hb), ← HKn]
          have HB7 := Lib.hid (HB.out.grown HF7.out.grown HB.out.size (fun k hk => by injection hk with hk; omega))
          obtain ⟨b2, o2, cp, cur2, hq⟩ := HF7.out.par.has
          have h1 : wr.cell? ⟨g, 1, none⟩ = some (.int .i64 s2.2) := (blk_cell hq.own 1).trans rfl
          have r0 : wr.cell? ⟨w.heap.size, 0, none⟩ = some (.int .i64 0) := (blk_cell HR7.out 0).trans rfl
          have r1 : wr.cell? ⟨w.heap.size, 1, none⟩ = some (.int .i64 0) := (blk_cell HR7.out 1).trans rfl
          have f0 := blk_frozen HR7.out 0
          have f1 := blk_frozen HR7.out 1
          clear hbd hb hq HKn HK HV hO2
          go_wp2_with (go_at_call 51; refine hO.mono ?_; rintro e w' ⟨rfl, rfl⟩)
          go_region
          all_goals
            have hs := two_set (.int .i64 1) (.int .i64 s2.2) HR7.out
            have hB := (HB7.out.setCell (p := ⟨w.heap.size, 0, none⟩) (Nat.le_refl _) (.int .i64 1)).setCell (p := ⟨w.heap.size, 1, none⟩) (Nat.le_refl _) (.int .i64 s2.2)
            go_wp2
            have hs2 := blk_drew hs
            have hB2 := below_drew hB
            generalize ((wr.setCell ⟨w.heap.size, 0, none⟩ (.int .i64 1)).setCell ⟨w.heap.size, 1, none⟩ (.int .i64 s2.2)).drew = wE at hs2 hB2 ⊢
            have g0 := (blk_cell hs2 0).trans rfl
            have g1 := (blk_cell hs2 1).trans rfl
            exact bodyPost_ret (v := .tuple #[.slice none 0 0, .agg #[.int .i64 1, .int .i64 s2.2]]) (by simp [results, Tryz.results28, go_sem, g0, g1]) rfl (by
              rw [HV2.out]
              exact ⟨_, rfl, Kd.R_nil _ _ _ _ _, hB2⟩)

end Go.Proofs.YthagibkmfgodgaaGreatDoor.X
