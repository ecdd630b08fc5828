/-
  LexPlaces, walked by hand: words stand one behind the other, each where it was said.
-/
import Derived.BigQuiet
import Derived.Test.YthagibkmfgodgaaGreatDoorZ6
import Derived.Test.YthagibkmfgodgaaGreatDoorZ9
import Derived.Test.YthagibkmfgodgaaGreatDoorZ8
namespace Go.Proofs.YthagibkmfgodgaaGreatDoor.X
open Go.RowKit Go.Maps Go.Proofs.YthagibkmfgodgaaGreatDoorW.PrintWords Go.Proofs.YthagibkmfgodgaaGreatDoorW.PrintMore Go.Proofs.YthagibkmfgodgaaGreatDoorW.PrintLast Go.Proofs.YthagibkmfgodgaaGreatDoor.Pb

theorem places_all {t : Bytes} {l : List SWord} (h : allF t = .ok l) : ∃ ws, l = ws ++ [⟨4, (t.length : Nat), ⟨#[]⟩⟩] ∧ Chain t 0 ws := by
  rw [allF_lexM] at h
  obtain ⟨ws, hw, rfl⟩ := map_ok h
  exact ⟨ws, rfl, lexM_chain t false t 0 (Nat.zero_le _) List.drop_zero ws hw⟩
theorem places_err {t : Bytes} {p : Nat} (h : allF t = .error p) : p < t.length := by
  rw [allF_lexM] at h
  cases hl : lexM false t 0 with
  | error e =>
    rw [hl] at h
    injection h with h
    have := lexM_err false t 0 e hl
    omega
  | ok ws => rw [hl] at h; cases h

theorem bdN {B : Nat} {w W : World} (h : Below B w W) (n : Nat) : Below B w (W.drewN n) := by
  induction n with
  | zero => exact h
  | succ n ih => exact below_drew ih
theorem place_at {t : Bytes} {ws : List SWord} {lo kk : Nat} (h : Chain t lo (ws.drop kk)) (hk : kk ≤ ws.length) (hlo : lo ≤ t.length) :
    ∃ (x : SWord) (a m : Nat), (ws ++ [(⟨4, (t.length : Nat), ⟨#[]⟩⟩ : SWord)])[kk]? = some x ∧ x.f1 = (a : Nat) ∧ lo ≤ a ∧ a + m ≤ t.length ∧ (kk < ws.length → 0 < m) ∧
      ((x.f0 = 4 ∨ x.f0 = 2) ∨ (x.f0 = 1 ∨ x.f0 = 3) ∧ 0 < m ∧ x.f2 = mk ((t.drop a).take m)) ∧ Chain t (a + m) (ws.drop (kk + 1)) := by
  rcases Nat.lt_or_ge kk ws.length with hlt | hge
  · rw [List.drop_eq_getElem_cons hlt] at h
    obtain ⟨a, m, h1, h2, h3, h4, h5, h6⟩ := h
    refine ⟨ws[kk], a, m, by rw [List.getElem?_append_left hlt, List.getElem?_eq_getElem hlt], h1, h2, h4, fun _ => h3, ?_, h6⟩
    rcases h5 with h5 | h5
    · exact .inl (.inr h5)
    · exact .inr ⟨h5.1, h3, h5.2⟩
  · obtain rfl : kk = ws.length := Nat.le_antisymm hk hge
    refine ⟨⟨4, (t.length : Nat), ⟨#[]⟩⟩, t.length, 0, by simp, rfl, hlo, Nat.le_refl _, fun h => absurd h (Nat.lt_irrefl _), .inl (.inl rfl), ?_⟩
    rw [List.drop_eq_nil_of_le (Nat.le_succ _)]
    trivial

set_option maxHeartbeats 8000000 in
set_option maxRecDepth 100000 in
theorem lexPlaces_walk (s : ByteArray) (w : World) (hG : GOK w) :
    Calls Tryz.prog 10 #[.string s] w (IsTrue w) := by
  have HG := Lib.hid hG
  clear hG
  obtain ⟨t, ht⟩ : ∃ t, t = mk (s.data.toList.take 200) := ⟨_, rfl⟩
  have htl : t.size ≤ 200 := by rw [ht, mk_size, List.length_take]; omega
  have hSh := fun W hW => shipwrightlaw1_Short.calls s 200 t W hW (by rw [ht]; exact short_f s 200)
  have hA := fun W => all_calls t (by omega) W
  clear ht
  go_enter Tryz.func10, Tryz.ntmps10
  go_wp2_with fail
  refine (begun4_calls _ HG.out).mono ?_
  rintro e w1 ⟨rfl, hb1⟩
  have HB1 := Lib.hid hb1
  clear hb1
  go_wp2_with fail
  refine (hSh _ (HG.out.below HB1.out)).mono ?_
  rintro e w2 ⟨rfl, hb2⟩
  have HB2 := Lib.hid (below_then HB1.out HB1.out.size hb2)
  clear hb2 HB1
  go_wp2_with fail
  refine (hA _).mono ?_
  cases hall : allF t.data.toList with
  | error p =>
    rw [show allR (.error p) = ([], 1, ((p : Nat) : Int)) from rfl]
    rintro e w3 ⟨v, rfl, hR, hb3⟩
    obtain ⟨A, c, rfl, _, _⟩ := Kd.R_reads hR
    have hp := places_err hall
    rw [← Lib.size_eq] at hp
    have hpz : (p : Int) < (t.size : Int) := by omega
    have hpn : (0 : Int) ≤ (p : Int) := by omega
    have hb4 := (Below.refl w3.heap.size w3).alloc (Nat.le_refl _) (.cells #[.int .i64 1, .int .i64 (p : Nat)] 27)
    have HB4 := Lib.hid (below_then (below_then HB2.out HB2.out.size hb3) (below_then HB2.out HB2.out.size hb3).size hb4)
    clear hA hSh hR hb3 hb4 hall
    go_wp2_with fail
    go_ret
    exact ⟨rfl, HB4.out⟩
  | ok l =>
    rw [show allR (.ok l) = (l, 0, 0) from rfl]
    rintro e w3 ⟨v, rfl, hR, hb3⟩
    obtain ⟨A, c, rfl, hc, hr3⟩ := Kd.R_reads hR
    obtain ⟨ws, hl, hch⟩ := places_all hall
    have hlen : l.length = ws.length + 1 := by rw [hl]; simp
    have hb4 := (Below.refl w3.heap.size w3).alloc (Nat.le_refl _) (.cells #[.int .i64 0, .int .i64 0] 27)
    have hr4 : Kd.C k34 (w3.alloc (.cells #[.int .i64 0, .int .i64 0] 27)) A l.length l := Kd.C_below hr3 hb4
    have hlm := hr3.2.1
    replace hlm : l.length ≤ 9223372036854775807 := hlm
    obtain ⟨ad, rfl, p0, p1, p2⟩ := at_T34 hr4 (ws.length : Int) (by omega) (by omega)
    have hx : rd_T34 l (ws.length : Int) = ⟨4, (t.size : Nat), ⟨#[]⟩⟩ := by
      unfold rd_T34
      rw [Int.toNat_natCast, hl, Lib.size_eq]
      simp [List.getD_eq_getElem?_getD]
    rw [hx, Int.toNat_natCast] at p0 p1 p2
    replace p0 : (w3.alloc (.cells #[.int .i64 0, .int .i64 0] 27)).cell? (ad.add (ws.length * 3)) = some (.int .i64 4) := p0
    replace p1 : (w3.alloc (.cells #[.int .i64 0, .int .i64 0] 27)).cell? ⟨(ad.add (ws.length * 3)).block, (ad.add (ws.length * 3)).off + 1, none⟩ = some (.int .i64 (t.size : Nat)) := p1
    replace p2 : (w3.alloc (.cells #[.int .i64 0, .int .i64 0] 27)).cell? ⟨(ad.add (ws.length * 3)).block, (ad.add (ws.length * 3)).off + 2, none⟩ = some (.string ⟨#[]⟩) := p2
    have hl0 : ((ws.length : Int) + 1 == 0) = false := by simp; omega
    have hl0' : ¬ ((ws.length : Int) + 1 = 0) := by omega
    have HR4 := Lib.hid hr4
    have HB4 := Lib.hid (below_then (below_then HB2.out HB2.out.size hb3) (below_then HB2.out HB2.out.size hb3).size hb4)
    have HL : Hid (l = ws ++ [⟨4, (t.data.toList.length : Nat), ⟨#[]⟩⟩]) := hl
    have HCh := Lib.hid hch
    clear hA hSh hR hb3 hr3 hb4 hall hr4 hc hl hch hx
    go_wp2_with fail
    clear p0 p1 p2
    generalize w3.alloc (.cells #[.int .i64 0, .int .i64 0] 27) = w4 at HR4 HB4 ⊢
    go_loopg [6, 7, 58] (ws.length + 1) (fun gg s6 _ s58 wr => ∃ kk e lo : Nat, kk ≤ ws.length + 1 ∧ ws.length + 1 - kk ≤ gg ∧ s58 = .int .i64 kk ∧ s6 = .int .i64 (e : Nat) ∧ e ≤ lo ∧ lo ≤ t.size ∧
      Aside0 (Chain t.data.toList lo (ws.drop kk)) ∧ Aside0 (kk ≤ ws.length → ∀ j, kk = j + 1 → ∃ q : Nat, (rd_T34 l (j : Int)).f1 = (q : Nat) ∧ q < lo) ∧ Aside0 (Below w4.heap.size w4 wr))
    case atStart => exact ⟨0, 0, 0, by omega, by omega, rfl, rfl, by omega, by omega, ⟨HCh.out⟩, ⟨fun _ j h => by omega⟩, ⟨Below.refl _ _⟩⟩
    case round =>
      obtain ⟨kk, e, lo, hkk, hgk, rfl, rfl, helo, hlo, HC, HP, HB⟩ := hrel
      by_cases hlt : kk < ws.length + 1
      · have hltz : (kk : Int) < (ws.length : Int) + 1 := by omega
        obtain ⟨x, a, m, hxk, ha, hla, ham, hm0, hkind, hnext⟩ := place_at HC.out (by omega) (by rw [← Lib.size_eq]; exact hlo)
        rw [← Lib.size_eq] at ham
        obtain ⟨ad', e', p0, p1, p2⟩ := at_T34 (Kd.C_below HR4.out HB.out) (kk : Int) (by omega) (by omega)
        obtain rfl := Option.some.inj e'
        have hx : rd_T34 l (kk : Int) = x := by
          unfold rd_T34
          rw [Int.toNat_natCast, HL.out, List.getD_eq_getElem?_getD, hxk]
          rfl
        have HPrev : Hid (kk + 1 ≤ ws.length → ∀ j, kk + 1 = j + 1 → ∃ q : Nat, (rd_T34 l (j : Int)).f1 = (q : Nat) ∧ q < a + m) := fun h j hj => by
          obtain rfl : kk = j := by omega
          exact ⟨a, by rw [hx]; exact ha, by have := hm0 (by omega); omega⟩
        have HChN := Lib.hid hnext
        rw [hx, Int.toNat_natCast] at p0 p1 p2
        rw [ha] at p1
        have HBd := Lib.hid (below_drew HB.out)
        have hae : ¬ (a : Int) < (e : Int) := by omega
        have hx2 : ∀ n : Nat, x.f2 = mk ((t.data.toList.drop a).take n) → a + n ≤ t.size → x.f2.size = n ∧ t.extract a (a + n) = x.f2 := by
          intro n hn hnl
          have hlen : ((t.data.toList.drop a).take n).length = n := by rw [List.length_take, List.length_drop, ← Lib.size_eq]; omega
          refine ⟨by rw [hn, mk_size, hlen], ?_⟩
          rw [hn]
          apply data_inj
          rw [mk_data]
          simp only [ByteArray.data_extract, Array.toList_extract]
          rw [List.extract_eq_take_drop, Nat.add_sub_cancel_left]
        clear hx hnext hxk hm0
        have dae : decide ((a : Int) < (e : Int)) = false := by simp; omega
        have daeN : decide (a < e) = false := by simp; omega
        rcases Nat.eq_zero_or_pos kk with hk0 | hk0
        · subst hk0
          rw [Nat.zero_mul] at p0 p1 p2
          have a0 : ad.add 0 = ad := by have := at_zero (ad := ad) (m := 0); simpa using this
          rw [a0] at p0 p1 p2
          rcases hkind with (h4 | h4) | ⟨h13, hm, hf2⟩
          · rw [h4] at p0
            clear hx2 h4 hae
            go_wp2_with fail
            go_quiet (fail)
            go_wp2_with fail
            go_roundg (ws.length + 1 - (0 + 1))
            case measure => omega
            case rel => exact ⟨0 + 1, a, a + m, by omega, by omega, by first | rfl | go_num, by first | rfl | go_num, by omega, by omega, ⟨HChN.out⟩, ⟨HPrev.out⟩, ⟨by first | exact bdN HB.out _ | exact bdN (bdN HB.out _) _⟩⟩
          · rw [h4] at p0
            clear hx2 h4 hae
            go_wp2_with fail
            go_quiet (fail)
            go_wp2_with fail
            go_roundg (ws.length + 1 - (0 + 1))
            case measure => omega
            case rel => exact ⟨0 + 1, a, a + m, by omega, by omega, by first | rfl | go_num, by first | rfl | go_num, by omega, by omega, ⟨HChN.out⟩, ⟨HPrev.out⟩, ⟨by first | exact bdN HB.out _ | exact bdN (bdN HB.out _) _⟩⟩
          · obtain ⟨hsz, hex⟩ := hx2 m hf2 ham
            clear hx2 hf2 hae
            subst hsz
            generalize x.f2 = y2 at p2 hm ham hex HChN HPrev
            have d1 : ((y2.size : Int) == 0) = false := by rw [beq_eq_false_iff_ne]; omega
            have d1N : (y2.size == 0) = false := by rw [beq_eq_false_iff_ne]; omega
            have d1' : ¬ y2.size = 0 := by omega
            have d2 : decide ((t.size : Int) < (a : Int) + (y2.size : Int)) = false := by simp; omega
            have d2N : decide (t.size < a + y2.size) = false := by simp; omega
            have d3 : (a : Int) + (y2.size : Int) ≤ (t.size : Int) := by omega
            rcases h13 with h4 | h4
            · rw [h4] at p0
              clear h4
              go_wp2_with fail
              go_quiet (fail)
              go_wp2_with fail
              go_quiet (fail)
              go_wp2_with fail
              go_roundg (ws.length + 1 - (0 + 1))
              case measure => omega
              case rel => exact ⟨0 + 1, a + y2.size, a + y2.size, by omega, by omega, by first | rfl | go_num, by first | rfl | go_num, by omega, by omega, ⟨HChN.out⟩, ⟨HPrev.out⟩, ⟨by first | exact bdN HB.out _ | exact bdN (bdN HB.out _) _⟩⟩
            · rw [h4] at p0
              clear h4
              go_wp2_with fail
              go_quiet (fail)
              go_wp2_with fail
              go_quiet (fail)
              go_wp2_with fail
              go_roundg (ws.length + 1 - (0 + 1))
              case measure => omega
              case rel => exact ⟨0 + 1, a + y2.size, a + y2.size, by omega, by omega, by first | rfl | go_num, by first | rfl | go_num, by omega, by omega, ⟨HChN.out⟩, ⟨HPrev.out⟩, ⟨by first | exact bdN HB.out _ | exact bdN (bdN HB.out _) _⟩⟩
        · have hz : decide ((0 : Int) < (kk : Int)) = true := by simp; omega
          have hzN : decide (0 < kk) = true := by simp; omega
          obtain ⟨q, hq, hqlo⟩ := HP.out (by omega) (kk - 1) (by omega)
          obtain ⟨ad', e', _, r1, _⟩ := at_T34 (Kd.C_below HR4.out HB.out) ((kk : Int) - 1) (by omega) (by omega)
          obtain rfl := Option.some.inj e'
          rw [show (kk : Int) - 1 = ((kk - 1 : Nat) : Int) by omega, hq, Int.toNat_natCast] at r1
          have haq : decide ((a : Int) ≤ (q : Int)) = false := by simp; omega
          have haqN : decide (a ≤ q) = false := by simp; omega
          have hk1 : (0 : Int) ≤ (kk : Int) - 1 := by omega
          have hk2 : (kk : Int) - 1 < (ws.length : Int) + 1 := by omega
          rcases hkind with (h4 | h4) | ⟨h13, hm, hf2⟩
          · rw [h4] at p0
            clear hx2 h4 hae
            go_wp2_with fail
            go_quiet (fail)
            go_wp2_with fail
            go_roundg (ws.length + 1 - (kk + 1))
            case measure => omega
            case rel => exact ⟨kk + 1, a, a + m, by omega, by omega, by first | rfl | go_num, by first | rfl | go_num, by omega, by omega, ⟨HChN.out⟩, ⟨HPrev.out⟩, ⟨by first | exact bdN HB.out _ | exact bdN (bdN HB.out _) _⟩⟩
          · rw [h4] at p0
            clear hx2 h4 hae
            go_wp2_with fail
            go_quiet (fail)
            go_wp2_with fail
            go_roundg (ws.length + 1 - (kk + 1))
            case measure => omega
            case rel => exact ⟨kk + 1, a, a + m, by omega, by omega, by first | rfl | go_num, by first | rfl | go_num, by omega, by omega, ⟨HChN.out⟩, ⟨HPrev.out⟩, ⟨by first | exact bdN HB.out _ | exact bdN (bdN HB.out _) _⟩⟩
          · obtain ⟨hsz, hex⟩ := hx2 m hf2 ham
            clear hx2 hf2 hae
            subst hsz
            generalize x.f2 = y2 at p2 hm ham hex HChN HPrev
            have d1 : ((y2.size : Int) == 0) = false := by rw [beq_eq_false_iff_ne]; omega
            have d1N : (y2.size == 0) = false := by rw [beq_eq_false_iff_ne]; omega
            have d1' : ¬ y2.size = 0 := by omega
            have d2 : decide ((t.size : Int) < (a : Int) + (y2.size : Int)) = false := by simp; omega
            have d2N : decide (t.size < a + y2.size) = false := by simp; omega
            have d3 : (a : Int) + (y2.size : Int) ≤ (t.size : Int) := by omega
            rcases h13 with h4 | h4
            · rw [h4] at p0
              clear h4
              go_wp2_with fail
              go_quiet (fail)
              go_wp2_with fail
              go_quiet (fail)
              go_wp2_with fail
              go_roundg (ws.length + 1 - (kk + 1))
              case measure => omega
              case rel => exact ⟨kk + 1, a + y2.size, a + y2.size, by omega, by omega, by first | rfl | go_num, by first | rfl | go_num, by omega, by omega, ⟨HChN.out⟩, ⟨HPrev.out⟩, ⟨by first | exact bdN HB.out _ | exact bdN (bdN HB.out _) _⟩⟩
            · rw [h4] at p0
              clear h4
              go_wp2_with fail
              go_quiet (fail)
              go_wp2_with fail
              go_quiet (fail)
              go_wp2_with fail
              go_roundg (ws.length + 1 - (kk + 1))
              case measure => omega
              case rel => exact ⟨kk + 1, a + y2.size, a + y2.size, by omega, by omega, by first | rfl | go_num, by first | rfl | go_num, by omega, by omega, ⟨HChN.out⟩, ⟨HPrev.out⟩, ⟨by first | exact bdN HB.out _ | exact bdN (bdN HB.out _) _⟩⟩
      · have hltz : ¬ (kk : Int) < (ws.length : Int) + 1 := by omega
        go_wp2
        go_ret
        exact ⟨rfl, below_then HB4.out HB4.out.size HB.out⟩

def shipwrightlaw4_LexPlaces.f (_ : ByteArray) : Option Bool := some true
theorem shipwrightlaw4_LexPlaces.calls (s : ByteArray) (r : Bool) (w : World) (hG : GOK w) (h : shipwrightlaw4_LexPlaces.f s = some r) :
    Calls Tryz.prog 10 #[.string s] w fun e w' => e = .returned (.bool r) ∧ Below w.heap.size w w' := by
  obtain rfl := Option.some.inj h
  exact lexPlaces_walk s w hG
theorem pure_LexPlaces (s : ByteArray) {p : Prop} (_ : p) : shipwrightlaw4_LexPlaces.f s = some true := rfl

end Go.Proofs.YthagibkmfgodgaaGreatDoor.X
