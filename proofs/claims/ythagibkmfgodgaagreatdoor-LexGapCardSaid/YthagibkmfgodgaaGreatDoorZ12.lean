/-
  LexGap, walked by hand: a blank more, or a remark, at a word's beginning.
-/
import Derived.Test.YthagibkmfgodgaaGreatDoorZ8
import Derived.Test.YthagibkmfgodgaaGreatDoorZ6
import Derived.Test.YthagibkmfgodgaaGreatDoorZ9
namespace Go.Proofs.YthagibkmfgodgaaGreatDoor.X
open Go.RowKit Go.Maps Go.Proofs.YthagibkmfgodgaaGreatDoorW.PrintWords Go.Proofs.YthagibkmfgodgaaGreatDoorW.PrintMore Go.Proofs.YthagibkmfgodgaaGreatDoorW.PrintLast Go.Proofs.YthagibkmfgodgaaGreatDoor.Pb

theorem gap_all {t : Bytes} {l : List SWord} (h : allF t = .ok l) (i : Nat) (x : SWord) (hx : l[i]? = some x) :
    ∃ k : Nat, x.f1 = k ∧ k ≤ t.length ∧ allF (t.take k ++ (gapL ++ t.drop k)) = .ok (l.map (shiftW k)) := by
  rw [allF_lexM] at h
  obtain ⟨ws, hw, rfl⟩ := map_ok h
  have hch := lexM_chain t false t 0 (Nat.zero_le _) List.drop_zero ws hw
  have key : ∀ (ws : List SWord) lo, Chain t lo ws → ∀ x ∈ ws, ∃ k : Nat, x.f1 = k ∧ k ≤ t.length := by
    intro ws
    induction ws with
    | nil => exact fun _ _ x hx => by cases hx
    | cons y r ih =>
      rintro lo ⟨a, n, h1, h2, h3, h4, h5, h6⟩ x hx
      rcases List.mem_cons.1 hx with rfl | hx
      · exact ⟨a, h1, by omega⟩
      · exact ih _ h6 x hx
  have fin : ∀ k : Nat, k ≤ t.length → (k = t.length ∨ ∃ x ∈ ws, x.f1 = ((0 + k : Nat) : Int)) → allF (t.take k ++ (gapL ++ t.drop k)) = .ok ((ws ++ [(⟨4, (t.length : Nat), ⟨#[]⟩⟩ : SWord)]).map (shiftW k)) := by
    intro k hk hor
    have hp := lexM_put false t 0 ws hw k hk hor
    rw [allF_lexM, hp, Nat.zero_add]
    have hlen : (t.take k ++ (gapL ++ t.drop k)).length = t.length + 15 := by
      simp only [List.length_append, List.length_take, List.length_drop, show gapL.length = 15 from rfl]
      omega
    rw [hlen, List.map_append]
    have hs : shiftW k ⟨4, (t.length : Nat), ⟨#[]⟩⟩ = ⟨4, ((t.length + 15 : Nat) : Int), ⟨#[]⟩⟩ := by
      unfold shiftW
      rw [if_pos (by show (k : Int) ≤ (t.length : Nat); omega)]
      rfl
    rw [List.map_cons, List.map_nil, hs]
    rfl
  have hm : x ∈ ws ++ [(⟨4, (t.length : Nat), ⟨#[]⟩⟩ : SWord)] := List.mem_of_getElem? hx
  rcases List.mem_append.1 hm with hm | hm
  · obtain ⟨k, hk, hkl⟩ := key ws 0 hch x hm
    exact ⟨k, hk, hkl, fin k hkl (.inr ⟨x, hm, by rw [hk, Nat.zero_add]⟩)⟩
  · obtain rfl := List.mem_singleton.1 hm
    exact ⟨t.length, rfl, Nat.le_refl _, fin _ (Nat.le_refl _) (.inl rfl)⟩

set_option maxHeartbeats 8000000 in
set_option maxRecDepth 100000 in
theorem lexGap_walk (s : ByteArray) (at_ : Int) (w : World) (hG : GOK w) :
    Calls Tryz.prog 11 #[.string s, .int .i64 at_] w (IsTrue w) := by
  have HG := Lib.hid hG
  clear hG
  obtain ⟨t, ht⟩ : ∃ t, t = mk (s.data.toList.take 150) := ⟨_, rfl⟩
  have htl : t.size ≤ 150 := by rw [ht, mk_size, List.length_take]; omega
  have hSh := fun W hW => shipwrightlaw1_Short.calls s 150 t W hW (by rw [ht]; exact short_f s 150)
  have hA := fun W => all_calls t (by omega) W
  clear ht
  go_enter Tryz.func11, Tryz.ntmps11
  go_wp2_with fail
  refine (begun4_calls _ HG.out).mono ?_
  rintro e w1 ⟨rfl, hb1⟩
  have HB1 := Lib.hid hb1
  clear hb1
  go_wp2_with fail
  refine (hSh _ (HG.out.below HB1.out)).mono ?_
  rintro e w2 ⟨rfl, hb2⟩
  have HB2 := Lib.hid (below_then HB1.out HB1.out.size hb2)
  clear hb2 HB1
  go_wp2_with fail
  refine (hA _).mono ?_
  cases hall : allF t.data.toList with
  | error p =>
    rw [show allR (.error p) = ([], 1, ((p : Nat) : Int)) from rfl]
    rintro e w3 ⟨v, rfl, hR, hb3⟩
    obtain ⟨A, c, rfl, _, _⟩ := Kd.R_reads hR
    have hE := blk_new w3 (.cells #[.int .i64 1, .int .i64 (p : Nat)] 27)
    have hb4 := (Below.refl w3.heap.size w3).alloc (Nat.le_refl _) (.cells #[.int .i64 1, .int .i64 (p : Nat)] 27)
    have HB4 := Lib.hid (below_then (below_then HB2.out HB2.out.size hb3) (below_then HB2.out HB2.out.size hb3).size hb4)
    clear hA hSh hR hb3 hb4 hE hall
    go_wp2_with fail
    go_ret
    exact ⟨rfl, HB4.out⟩
  | ok l =>
    rw [show allR (.ok l) = (l, 0, 0) from rfl]
    rintro e w3 ⟨v, rfl, hR, hb3⟩
    obtain ⟨A, c, rfl, hc, hr3⟩ := Kd.R_reads hR
    have hE := blk_new w3 (.cells #[.int .i64 0, .int .i64 0] 27)
    have hb4 := (Below.refl w3.heap.size w3).alloc (Nat.le_refl _) (.cells #[.int .i64 0, .int .i64 0] 27)
    have hr4 : Kd.C k34 (w3.alloc (.cells #[.int .i64 0, .int .i64 0] 27)) A l.length l := Kd.C_below hr3 hb4
    have HR4 := Lib.hid hr4
    have HE4 := Lib.hid hE
    have HB4 := Lib.hid (below_then (below_then HB2.out HB2.out.size hb3) (below_then HB2.out HB2.out.size hb3).size hb4)
    have HAll := Lib.hid hall
    by_cases hneg : at_ < 0
    · clear hA hSh hR hb3 hr3 hb4 hE hall hr4 hc
      go_wp2_with fail
      go_ret
      exact ⟨rfl, HB4.out⟩
    · have hlp : 0 < l.length := by
        have := hall
        rw [allF_lexM] at this
        obtain ⟨ws, _, rfl⟩ := map_ok this
        simp
      have hl0 : ¬ (l.length : Int) = 0 := by omega
      obtain ⟨i, hi, hil⟩ : ∃ i : Nat, Int.tmod at_ (l.length : Int) = (i : Int) ∧ i < l.length := by
        have h1 := Int.tmod_nonneg (l.length : Int) (a := at_) (by omega)
        have h2 := Int.tmod_lt_of_pos at_ (b := (l.length : Int)) (by omega)
        exact ⟨(Int.tmod at_ (l.length : Int)).toNat, by omega, by omega⟩
      obtain ⟨k, hk, hkt, hput⟩ := gap_all hall i l[i] (List.getElem?_eq_getElem hil)
      rw [← Lib.size_eq] at hkt
      obtain ⟨ad, rfl, p0, p1, p2⟩ := at_T34 hr4 (i : Int) (by omega) (by omega)
      have hxi : rd_T34 l (i : Int) = l[i] := by unfold rd_T34; simp [List.getD_eq_getElem?_getD, List.getElem?_eq_getElem hil]
      rw [hxi, hk] at p1
      rw [Int.toNat_natCast] at p1
      have hil' : (i : Int) < (l.length : Int) := by omega
      have hx1 : t.extract 0 k = mk (t.data.toList.take k) := by
        apply data_inj
        rw [mk_data]
        simp [ByteArray.data_extract]
      have hx2 : t.extract k t.size = mk (t.data.toList.drop k) := by
        apply data_inj
        rw [mk_data]
        simp only [ByteArray.data_extract, Array.toList_extract]
        rw [List.extract_eq_take_drop, List.take_of_length_le]
        rw [List.length_drop, Lib.size_eq]
        exact Nat.le_refl _
      have hq1 := mk_size (t.data.toList.take k)
      have hq2 := mk_size (t.data.toList.drop k)
      rw [List.length_take] at hq1
      rw [List.length_drop] at hq2
      have hsz := Lib.size_eq t
      have HP2 : Hid (allF (mk (t.data.toList.take k) ++ (⟨#[32, 9, 35, 32, 97, 32, 114, 101, 109, 97, 114, 107, 32, 34, 10]⟩ : ByteArray) ++ mk (t.data.toList.drop k)).data.toList = .ok (l.map (shiftW k))) := by
        show _ = _
        rw [← hput, show (⟨#[32, 9, 35, 32, 97, 32, 114, 101, 109, 97, 114, 107, 32, 34, 10]⟩ : ByteArray) = mk gapL from rfl, app_mk, app_mk, mk_data, List.append_assoc]
      have hkz : (k : Int) ≤ (t.size : Int) := by omega
      have hk0 : (0 : Int) ≤ (k : Int) := by omega
      obtain ⟨P1, hP1⟩ : ∃ P, P = mk (t.data.toList.take k) := ⟨_, rfl⟩
      obtain ⟨P2, hP2⟩ : ∃ P, P = mk (t.data.toList.drop k) := ⟨_, rfl⟩
      rw [← hP1] at hx1 hq1 HP2
      rw [← hP2] at hx2 hq2 HP2
      have n1 : ¬ 9223372036854775807 < P1.size + 15 := by omega
      have n2 : ¬ 9223372036854775807 < P1.size + 15 + P2.size := by omega
      have hA2 := fun W => all_calls (P1 ++ (⟨#[32, 9, 35, 32, 97, 32, 114, 101, 109, 97, 114, 107, 32, 34, 10]⟩ : ByteArray) ++ P2) (by rw [ByteArray.size_append, ByteArray.size_append]; show P1.size + 15 + P2.size ≤ _; omega) W
      rw [HP2.out, show allR (.ok (l.map (shiftW k))) = (l.map (shiftW k), 0, 0) from rfl] at hA2
      have HA2 := Lib.hid hA2
      clear hA hSh hR hb3 hr3 hb4 hE hall hr4 hc p0 p2 hxi hlp hP1 hP2 hsz hput hq1 hq2 hA2 HP2
      go_wp2_with fail
      generalize w3.alloc (.cells #[.int .i64 0, .int .i64 0] 27) = w4 at HR4 HE4 HB4 p1 ⊢
      generalize w3.heap.size = E1 at HE4 ⊢
      have HBd := Lib.hid (below_drew HB4.out)
      have HRd := Lib.hid (Kd.C_below HR4.out (below_drew (Below.refl w4.heap.size w4)))
      clear p1 HB2
      have hn1 := blk_new w4.drew (.cells #[.int .i64 0, .int .i64 0] 27)
      have ha1 := (Below.refl w4.drew.heap.size w4.drew).alloc (Nat.le_refl _) (.cells #[.int .i64 0, .int .i64 0] 27)
      have HN1 := Lib.hid hn1
      have HA1 := Lib.hid ha1
      clear hn1 ha1
      go_region_law (first | (go_simp; go_at_call 18; refine (HA2.out _).mono ?_; rintro e w5 ⟨v5, rfl, hR5, hb5⟩; obtain ⟨M, d, rfl, hd5, _⟩ := Kd.R_reads hR5; first | (have hz := blk_below HN1.out hb5; have k50 : w5.cell? ⟨w4.heap.size, 0, none⟩ = some (.int .i64 0) := (blk_cell hz 0).trans rfl; have k51 : w5.cell? ⟨w4.heap.size, 1, none⟩ = some (.int .i64 0) := (blk_cell hz 1).trans rfl; have f50 : w5.frozen? ⟨w4.heap.size, 0, none⟩ = false := blk_frozen hz 0; have f51 : w5.frozen? ⟨w4.heap.size, 1, none⟩ = false := blk_frozen hz 1) | skip))
      have ha := (Below.refl w5.heap.size w5).alloc (Nat.le_refl _) (.cells #[.int .i64 0, .int .i64 0] 27)
      have hE2 := blk_new w5 (.cells #[.int .i64 0, .int .i64 0] 27)
      obtain ⟨_, _, eM, hdM, hM5⟩ := Kd.R_reads hR5
      injection eM with eM1 eM2 eM3
      subst eM1 eM3
      have HE2 := Lib.hid hE2
      have HL := Lib.hid (Kd.C_below (Kd.C_below HRd.out hb5) ha)
      have HM := Lib.hid (Kd.C_below hM5 ha)
      have HBf := Lib.hid (below_then (below_then HBd.out HBd.out.size hb5) (below_then HBd.out HBd.out.size hb5).size ha)
      clear hb5 hR5 ha hE2 hM5 eM2 HN1 HA1 HRd HBd HB4 HE4 HR4
      generalize w5.alloc (.cells #[.int .i64 0, .int .i64 0] 27) = W at HE2 HL HM HBf ⊢
      generalize w5.heap.size = E2 at HE2 ⊢
      rotate_left
      replace hz : w5.heap[w4.heap.size]? = some (.cells #[.int .i64 0, .int .i64 0] 27 (0, 0)) := hz
      have hs2 := two_set (.int .i64 0) (.int .i64 0) hz
      have hB2 := ((HA1.out.trans (hb5.mono (HA1.out.size))).setCell (p := ⟨w4.heap.size, 0, none⟩) (Nat.le_refl _) (.int .i64 0)).setCell (p := ⟨w4.heap.size, 1, none⟩) (Nat.le_refl _) (.int .i64 0)
      obtain ⟨_, _, eM, hdM, hM5⟩ := Kd.R_reads (words_far (.int .i64 0) (.int .i64 0) hR5 hz (by decide))
      injection eM with eM1 eM2 eM3
      subst eM1 eM3
      have HE2 := Lib.hid hs2
      have HL := Lib.hid (Kd.C_below HRd.out hB2)
      have HM := Lib.hid hM5
      have HBf := Lib.hid (below_then HBd.out HBd.out.size hB2)
      clear hb5 hR5 hz k50 k51 f50 f51 hs2 hB2 hM5 eM2 HN1 HA1 HRd HBd HB4 HE4 HR4
      generalize (w5.setCell ⟨w4.heap.size, 0, none⟩ (.int .i64 0)).setCell ⟨w4.heap.size, 1, none⟩ (.int .i64 0) = W at HE2 HL HM HBf ⊢
      generalize w4.heap.size = E2 at HE2 ⊢
      rotate_left
      all_goals
        have hlm := HL.out.2.1
        have e20 : W.cell? ⟨E2, 0, none⟩ = some (.int .i64 0) := (blk_cell HE2.out 0).trans rfl
        obtain ⟨bd, rfl, _⟩ := at_T34 HM.out 0 (by omega) (by rw [List.length_map]; omega)
        go_wp2_with fail
        clear e20
        go_loopg [12, 13, 64] l.length (fun gg _ _ s64 wr => ∃ kk : Nat, kk ≤ l.length ∧ l.length - kk ≤ gg ∧ s64 = .int .i64 kk ∧ Aside0 (Below W.heap.size W wr))
        case atStart => exact ⟨0, by omega, by omega, rfl, ⟨Below.refl _ _⟩⟩
        case round =>
          obtain ⟨kk, hkk, hgk, rfl, HB⟩ := hrel
          by_cases hlt : kk < l.length
          · have hltz : (kk : Int) < (l.length : Int) := by omega
            obtain ⟨k', hk', hk't, _⟩ := gap_all HAll.out kk l[kk] (List.getElem?_eq_getElem hlt)
            rw [← Lib.size_eq] at hk't
            obtain ⟨ad', e', p0, p1, p2⟩ := at_T34 (Kd.C_below HL.out HB.out) (kk : Int) (by omega) hltz
            obtain rfl := Option.some.inj e'
            obtain ⟨bd', e', q0, q1, q2⟩ := at_T34 (Kd.C_below HM.out HB.out) (kk : Int) (by omega) (by rw [List.length_map]; exact hltz)
            obtain rfl := Option.some.inj e'
            have hx : rd_T34 l (kk : Int) = l[kk] := by unfold rd_T34; simp [List.getD_eq_getElem?_getD, List.getElem?_eq_getElem hlt]
            have hy : rd_T34 (l.map (shiftW k)) (kk : Int) = shiftW k l[kk] := by unfold rd_T34; simp [List.getD_eq_getElem?_getD, List.getElem?_eq_getElem hlt]
            rw [hx] at p0 p1 p2
            rw [hy] at q0 q1 q2
            rw [Int.toNat_natCast] at p0 p1 p2 q0 q1 q2
            have HBd2 := Lib.hid (below_drew HB.out)
            by_cases hge : (k : Int) ≤ (k' : Int)
            · have hsh : shiftW k l[kk] = ⟨l[kk].f0, l[kk].f1 + 15, l[kk].f2⟩ := by unfold shiftW; rw [if_pos (by rw [hk']; exact hge)]
              rw [hsh, hk'] at q1
              rw [hsh] at q0 q2
              rw [hk'] at p1
              replace q0 : wr.cell? (bd.add (kk * 3)) = some (.int .i64 l[kk].f0) := q0
              replace q1 : wr.cell? ⟨(bd.add (kk * 3)).block, (bd.add (kk * 3)).off + 1, none⟩ = some (.int .i64 ((k' : Int) + 15)) := q1
              replace q2 : wr.cell? ⟨(bd.add (kk * 3)).block, (bd.add (kk * 3)).off + 2, none⟩ = some (.string l[kk].f2) := q2
              generalize l[kk].f0 = y0 at p0 q0
              generalize l[kk].f2 = y2 at p2 q2
              clear hx hy hsh hk'
              go_wp2_with fail
              go_region
              all_goals
                go_wp2
                go_roundg (l.length - (kk + 1))
                case measure => omega
                case rel => exact ⟨kk + 1, by omega, by omega, by go_num, ⟨HBd2.out⟩⟩
            · have hsh : shiftW k l[kk] = l[kk] := by unfold shiftW; rw [if_neg (by rw [hk']; exact hge)]
              rw [hsh, hk'] at q1
              rw [hsh] at q0 q2
              rw [hk'] at p1
              generalize l[kk].f0 = y0 at p0 q0
              generalize l[kk].f2 = y2 at p2 q2
              clear hx hy hsh hk'
              go_wp2_with fail
              go_region
              all_goals
                go_wp2
                go_roundg (l.length - (kk + 1))
                case measure => omega
                case rel => exact ⟨kk + 1, by omega, by omega, by go_num, ⟨HBd2.out⟩⟩
          · have hltz : ¬ (kk : Int) < (l.length : Int) := by omega
            go_wp2
            go_ret
            exact ⟨rfl, below_then HBf.out HBf.out.size HB.out⟩

def shipwrightlaw4_LexGap.f (_ : ByteArray) (_ : Int) : Option Bool := some true
theorem shipwrightlaw4_LexGap.calls (s : ByteArray) (at_ : Int) (r : Bool) (w : World) (hG : GOK w) (h : shipwrightlaw4_LexGap.f s at_ = some r) :
    Calls Tryz.prog 11 #[.string s, .int .i64 at_] w fun e w' => e = .returned (.bool r) ∧ Below w.heap.size w w' := by
  obtain rfl := Option.some.inj h
  exact lexGap_walk s at_ w hG
theorem pure_LexGap (s : ByteArray) (at_ : Int) {p q : Prop} (_ : p) (_ : q) : shipwrightlaw4_LexGap.f s at_ = some true := rfl

end Go.Proofs.YthagibkmfgodgaaGreatDoor.X
