/-
  The reference's Eq, walked by hand, at equal rules.
-/
import Derived.Test.YthagibkmfgodgaaGreatDoorBegin
import Derived.BigRegion
import Derived.BigQuiet
namespace Go.Proofs.YthagibkmfgodgaaGreatDoor.X
open Go.RowKit Go.Maps Go.Proofs.YthagibkmfgodgaaGreatDoorW.PrintWords Go.Proofs.YthagibkmfgodgaaGreatDoorW.PrintMore Go.Proofs.YthagibkmfgodgaaGreatDoorW.PrintLast

set_option maxHeartbeats 2000000 in
theorem eqStr_same (A : Option Addr) (c : Nat) (B : Option Addr) (d : Nat) (l : List ByteArray) (w : World) (h1 : Kd.C Kd.string w A l.length l) (h2 : Kd.C Kd.string w B l.length l) :
    Calls Tryz.prog 53 #[.slice A l.length c, .slice B l.length d] w fun e w' => e = .returned (.bool true) ∧ Below w.heap.size w w' := by
  have hm := h1.2.1
  have H1 := Lib.hid h1
  have H2 := Lib.hid h2
  clear h1 h2
  go_enter Tryz.func53, Tryz.ntmps53
  go_wp2_with fail
  go_loopg [5] l.length (fun gg s13 wr => ∃ kk : Nat, kk ≤ l.length ∧ l.length - kk ≤ gg ∧ s13 = .int .i64 kk ∧ Aside0 (Below w.heap.size w wr))
  case atStart => exact ⟨0, by omega, by omega, rfl, ⟨Below.refl _ _⟩⟩
  case round =>
    obtain ⟨kk, hkk, hgk, rfl, HB⟩ := hrel
    by_cases hlt : kk < l.length
    · have hltz : (kk : Int) < (l.length : Int) := by omega
      rcases row_open (Kd.C_below H1.out HB.out) with h0 | ⟨b, o, rfl, _, hcell⟩
      · rw [h0] at hlt; simp at hlt
      rcases row_open (Kd.C_below H2.out HB.out) with h0 | ⟨b', o', rfl, _, hcell'⟩
      · rw [h0] at hlt; simp at hlt
      have hx : wr.cell? ⟨b, o + kk, none⟩ = some (.string (l.getD kk ByteArray.empty)) := hcell kk hlt
      have hx' : wr.cell? ⟨b', o' + kk, none⟩ = some (.string (l.getD kk ByteArray.empty)) := hcell' kk hlt
      generalize l.getD kk ByteArray.empty = y at hx hx'
      have HBd := Lib.hid (below_drew HB.out)
      clear hcell hcell'
      go_wp2_with fail
      go_region
      all_goals
        go_wp2
        go_roundg (l.length - (kk + 1))
        case measure => omega
        case rel => exact ⟨kk + 1, by omega, by omega, by go_num, ⟨HBd.out⟩⟩
    · have hltz : ¬ (kk : Int) < (l.length : Int) := by omega
      go_wp2
      go_ret
      exact ⟨rfl, HB.out⟩

set_option maxHeartbeats 4000000 in
set_option maxRecDepth 100000 in
theorem eqStep_same (x : SStep) (A2 : Option Addr) (c2 : Nat) (A3 : Option Addr) (c3 : Nat) (B2 : Option Addr) (d2 : Nat) (B3 : Option Addr) (d3 : Nat) (w : World)
    (h2 : Kd.C Kd.string w A2 x.f2.length x.f2) (h3 : Kd.C Kd.string w A3 x.f3.length x.f3) (g2 : Kd.C Kd.string w B2 x.f2.length x.f2) (g3 : Kd.C Kd.string w B3 x.f3.length x.f3) :
    Calls Tryz.prog 54 #[.agg #[.string x.f0, .int .i64 x.f1, .slice A2 x.f2.length c2, .slice A3 x.f3.length c3, .int .i64 x.f4], .agg #[.string x.f0, .int .i64 x.f1, .slice B2 x.f2.length d2, .slice B3 x.f3.length d3, .int .i64 x.f4]] w
      fun e w' => e = .returned (.bool true) ∧ Below w.heap.size w w' := by
  have hb1 := (Below.refl w.heap.size w).alloc (Nat.le_refl _) (.cells #[.string x.f0, .int .i64 x.f1, .slice A2 x.f2.length c2, .slice A3 x.f3.length c3, .int .i64 x.f4] 62)
  have hb2 := hb1.alloc hb1.size (.cells #[.string x.f0, .int .i64 x.f1, .slice B2 x.f2.length d2, .slice B3 x.f3.length d3, .int .i64 x.f4] 62)
  have hk := blk_alloc (blk_new w (.cells #[.string x.f0, .int .i64 x.f1, .slice A2 x.f2.length c2, .slice A3 x.f3.length c3, .int .i64 x.f4] 62)) (.cells #[.string x.f0, .int .i64 x.f1, .slice B2 x.f2.length d2, .slice B3 x.f3.length d3, .int .i64 x.f4] 62)
  have hz := blk_new (w.alloc (.cells #[.string x.f0, .int .i64 x.f1, .slice A2 x.f2.length c2, .slice A3 x.f3.length c3, .int .i64 x.f4] 62)) (.cells #[.string x.f0, .int .i64 x.f1, .slice B2 x.f2.length d2, .slice B3 x.f3.length d3, .int .i64 x.f4] 62)
  rw [World.size_alloc] at hz
  have HB2 := Lib.hid hb2
  have HK2 := Lib.hid hk
  have HZ2 := Lib.hid hz
  have hE2 : Hid (∀ W, Below w.heap.size w W → Calls Tryz.prog 53 #[.slice A2 x.f2.length c2, .slice B2 x.f2.length d2] W fun e w' => e = .returned (.bool true) ∧ Below W.heap.size W w') := fun W hW => eqStr_same A2 c2 B2 d2 x.f2 W (Kd.C_below h2 hW) (Kd.C_below g2 hW)
  have hE3 : Hid (∀ W, Below w.heap.size w W → Calls Tryz.prog 53 #[.slice A3 x.f3.length c3, .slice B3 x.f3.length d3] W fun e w' => e = .returned (.bool true) ∧ Below W.heap.size W w') := fun W hW => eqStr_same A3 c3 B3 d3 x.f3 W (Kd.C_below h3 hW) (Kd.C_below g3 hW)
  clear hb1 hb2 hk hz h2 h3 g2 g3
  go_enter Tryz.func54, Tryz.ntmps54
  go_wp2_with fail
  generalize (w.alloc (.cells #[.string x.f0, .int .i64 x.f1, .slice A2 x.f2.length c2, .slice A3 x.f3.length c3, .int .i64 x.f4] 62)).alloc (.cells #[.string x.f0, .int .i64 x.f1, .slice B2 x.f2.length d2, .slice B3 x.f3.length d3, .int .i64 x.f4] 62) = w2 at HB2 HK2 HZ2 ⊢
  refine (hE2.out _ HB2.out).mono ?_
  rintro e w3 ⟨rfl, hb3⟩
  have HB3 := Lib.hid (below_then HB2.out HB2.out.size hb3)
  have k3 : w3.cell? ⟨w.heap.size, 3, none⟩ = some (.slice A3 x.f3.length c3) := (blk_cell (blk_below HK2.out hb3) 3).trans rfl
  have j3 : w3.cell? ⟨w.heap.size + 1, 3, none⟩ = some (.slice B3 x.f3.length d3) := (blk_cell (blk_below HZ2.out hb3) 3).trans rfl
  clear hb3
  go_wp2_with fail
  refine (hE3.out _ HB3.out).mono ?_
  rintro e w4 ⟨rfl, hb4⟩
  have HB4 := Lib.hid (below_then HB3.out HB3.out.size hb4)
  clear hb4
  go_wp2_with fail
  go_ret
  exact ⟨rfl, HB4.out⟩


set_option maxHeartbeats 8000000 in
set_option maxRecDepth 100000 in
theorem eq_same (A : Option Addr) (c : Nat) (B : Option Addr) (d : Nat) (l : List SRule) (w : World) (h1 : Kd.C k49 w A l.length l) (h2 : Kd.C k49 w B l.length l) :
    Calls Tryz.prog 29 #[.slice A l.length c, .slice B l.length d] w (IsTrue w) := by
  have hlm : l.length ≤ 9223372036854775807 := h1.2.1
  have H1 := Lib.hid h1
  have H2 := Lib.hid h2
  clear h1 h2
  go_enter Tryz.func29, Tryz.ntmps29
  go_wp2_with fail
  go_loopg [5, 6, 7, 8] l.length (fun gg s5 _ _ _ wr => ∃ kk : Nat, kk ≤ l.length ∧ l.length - kk ≤ gg ∧ s5 = .int .i64 kk ∧ Aside0 (Below w.heap.size w wr))
  case atStart => exact ⟨0, Nat.zero_le _, by omega, rfl, ⟨Below.refl _ _⟩⟩
  case round =>
    obtain ⟨kk, hkk, hgk, rfl, HW⟩ := hrel
    obtain ⟨wo, hwo⟩ : ∃ v, v = wr := ⟨_, rfl⟩
    subst hwo
    by_cases hlt : kk < l.length
    · have hltz : (kk : Int) < (l.length : Int) := by omega
      obtain ⟨ad, A1, a1, A2, a2, A3, a3, A4, a4, e1, p0, p1, p2, p3, p4, q1, q2, q3, q4⟩ := at_T49 (Kd.C_below H1.out HW.out) (kk : Int) (by omega) hltz
      obtain ⟨bd, B1, b1, B2, b2, B3, b3, B4, b4, e2, n0, n1, n2, n3, n4, m1, m2, m3, m4⟩ := at_T49 (Kd.C_below H2.out HW.out) (kk : Int) (by omega) hltz
      subst e1 e2
      rw [Int.toNat_natCast] at p0 p1 p2 p3 p4 n0 n1 n2 n3 n4
      generalize rd_T49 l (kk : Int) = x at p0 p1 p2 p3 p4 q1 q2 q3 q4 n0 n1 n2 n3 n4 m1 m2 m3 m4
      have r0 := alloc_keep p0
      have r1 := alloc_keep p1
      have r2 := alloc_keep p2
      have r3 := alloc_keep p3
      have r4 := alloc_keep p4
      have s0 := alloc_keep n0
      have s1 := alloc_keep n1
      have s2 := alloc_keep n2
      have s3 := alloc_keep n3
      have s4 := alloc_keep n4
      have rr0 := fun ob => alloc_keep (r0 ob)
      have rr1 := fun ob => alloc_keep (r1 ob)
      have rr2 := fun ob => alloc_keep (r2 ob)
      have rr3 := fun ob => alloc_keep (r3 ob)
      have rr4 := fun ob => alloc_keep (r4 ob)
      have ss0 := fun ob => alloc_keep (s0 ob)
      have ss1 := fun ob => alloc_keep (s1 ob)
      have ss2 := fun ob => alloc_keep (s2 ob)
      have ss3 := fun ob => alloc_keep (s3 ob)
      have ss4 := fun ob => alloc_keep (s4 ob)
      have HE1 : Hid (∀ W', Below wo.heap.size wo W' → Calls Tryz.prog 53 #[.slice A1 x.f1.length a1, .slice B1 x.f1.length b1] W' (IsTrue W')) := fun W' hW => eqStr_same A1 a1 B1 b1 x.f1 W' (Kd.C_below q2 hW) (Kd.C_below m2 hW)
      have HE2 : Hid (∀ W', Below wo.heap.size wo W' → Calls Tryz.prog 53 #[.slice A2 x.f2.length a2, .slice B2 x.f2.length b2] W' (IsTrue W')) := fun W' hW => eqStr_same A2 a2 B2 b2 x.f2 W' (Kd.C_below q4.1 hW) (Kd.C_below m4.1 hW)
      have HE3 : Hid (∀ W', Below wo.heap.size wo W' → Calls Tryz.prog 53 #[.slice A3 x.f3.length a3, .slice B3 x.f3.length b3] W' (IsTrue W')) := fun W' hW => eqStr_same A3 a3 B3 b3 x.f3 W' (Kd.C_below q4.2.2.1 hW) (Kd.C_below m4.2.2.1 hW)
      have HA4 := Lib.hid q4.2.2.2.2
      have HB4 := Lib.hid m4.2.2.2.2
      have hl4 : x.f4.length ≤ 9223372036854775807 := HA4.out.2.1
      clear q1 q2 q3 q4 m1 m2 m3 m4
      go_wp2_with fail
      go_region
      clear p0 p1 p2 p3 p4 n0 n1 n2 n3 n4 r0 r1 r2 r3 r4 s0 s1 s2 s3 s4 rr0 rr1 rr2 rr3 rr4 ss0 ss1 ss2 ss3 ss4
      have hB := below_drew (((Below.refl wo.heap.size wo).alloc (Nat.le_refl _) (.cells #[.string x.f0, .slice A1 x.f1.length a1, .slice A2 x.f2.length a2, .slice A3 x.f3.length a3, .slice A4 x.f4.length a4] 49)).alloc (by rw [World.size_alloc]; omega) (.cells #[.string x.f0, .slice B1 x.f1.length b1, .slice B2 x.f2.length b2, .slice B3 x.f3.length b3, .slice B4 x.f4.length b4] 49))
      have hX := blk_drew (blk_alloc (blk_new wo (.cells #[.string x.f0, .slice A1 x.f1.length a1, .slice A2 x.f2.length a2, .slice A3 x.f3.length a3, .slice A4 x.f4.length a4] 49)) (.cells #[.string x.f0, .slice B1 x.f1.length b1, .slice B2 x.f2.length b2, .slice B3 x.f3.length b3, .slice B4 x.f4.length b4] 49))
      have hY := blk_drew (blk_new (wo.alloc (.cells #[.string x.f0, .slice A1 x.f1.length a1, .slice A2 x.f2.length a2, .slice A3 x.f3.length a3, .slice A4 x.f4.length a4] 49)) (.cells #[.string x.f0, .slice B1 x.f1.length b1, .slice B2 x.f2.length b2, .slice B3 x.f3.length b3, .slice B4 x.f4.length b4] 49))
      rw [World.size_alloc] at hY
      generalize ((wo.alloc (.cells #[.string x.f0, .slice A1 x.f1.length a1, .slice A2 x.f2.length a2, .slice A3 x.f3.length a3, .slice A4 x.f4.length a4] 49)).alloc (.cells #[.string x.f0, .slice B1 x.f1.length b1, .slice B2 x.f2.length b2, .slice B3 x.f3.length b3, .slice B4 x.f4.length b4] 49)).drew = W at hB hX hY ⊢
      generalize wo.heap.size + 1 = Q at hY ⊢
      have HB := Lib.hid (below_then HW.out HW.out.size hB)
      have HBr := Lib.hid hB
      clear hB
      generalize wo.heap.size = P at hX ⊢
      rotate_left
      clear p0 p1 p2 p3 p4 n0 n1 n2 n3 n4 r0 r1 r2 r3 r4 s0 s1 s2 s3 s4 rr0 rr1 rr2 rr3 rr4 ss0 ss1 ss2 ss3 ss4
      have hB := below_drew (((Below.refl wo.heap.size wo).alloc (Nat.le_refl _) (.cells #[.string x.f0, .slice B1 x.f1.length b1, .slice B2 x.f2.length b2, .slice B3 x.f3.length b3, .slice B4 x.f4.length b4] 49)).alloc (by rw [World.size_alloc]; omega) (.cells #[.string x.f0, .slice A1 x.f1.length a1, .slice A2 x.f2.length a2, .slice A3 x.f3.length a3, .slice A4 x.f4.length a4] 49))
      have hY := blk_drew (blk_alloc (blk_new wo (.cells #[.string x.f0, .slice B1 x.f1.length b1, .slice B2 x.f2.length b2, .slice B3 x.f3.length b3, .slice B4 x.f4.length b4] 49)) (.cells #[.string x.f0, .slice A1 x.f1.length a1, .slice A2 x.f2.length a2, .slice A3 x.f3.length a3, .slice A4 x.f4.length a4] 49))
      have hX := blk_drew (blk_new (wo.alloc (.cells #[.string x.f0, .slice B1 x.f1.length b1, .slice B2 x.f2.length b2, .slice B3 x.f3.length b3, .slice B4 x.f4.length b4] 49)) (.cells #[.string x.f0, .slice A1 x.f1.length a1, .slice A2 x.f2.length a2, .slice A3 x.f3.length a3, .slice A4 x.f4.length a4] 49))
      rw [World.size_alloc] at hX
      generalize ((wo.alloc (.cells #[.string x.f0, .slice B1 x.f1.length b1, .slice B2 x.f2.length b2, .slice B3 x.f3.length b3, .slice B4 x.f4.length b4] 49)).alloc (.cells #[.string x.f0, .slice A1 x.f1.length a1, .slice A2 x.f2.length a2, .slice A3 x.f3.length a3, .slice A4 x.f4.length a4] 49)).drew = W at hB hX hY ⊢
      generalize wo.heap.size + 1 = P at hX ⊢
      have HB := Lib.hid (below_then HW.out HW.out.size hB)
      have HBr := Lib.hid hB
      clear hB
      generalize wo.heap.size = Q at hY ⊢
      rotate_left
      all_goals
        have HX := Lib.hid hX
        have HY := Lib.hid hY
        have x0 : W.cell? ⟨P, 0, none⟩ = some (.string x.f0) := (blk_cell hX 0).trans rfl
        have x1 : W.cell? ⟨P, 1, none⟩ = some (.slice A1 x.f1.length a1) := (blk_cell hX 1).trans rfl
        have y0 : W.cell? ⟨Q, 0, none⟩ = some (.string x.f0) := (blk_cell hY 0).trans rfl
        have y1 : W.cell? ⟨Q, 1, none⟩ = some (.slice B1 x.f1.length b1) := (blk_cell hY 1).trans rfl
        clear hX hY
        go_wp2_with fail
        refine (HE1.out _ HBr.out).mono ?_
        rintro e W1 ⟨rfl, hb1⟩
        have HB1 := Lib.hid (HBr.out.trans (hb1.mono HBr.out.size))
        have HX1 := Lib.hid (blk_below HX.out hb1)
        have HY1 := Lib.hid (blk_below HY.out hb1)
        clear x0 x1 y0 y1 hb1 HX HY HBr HB
        have x2 : W1.cell? ⟨P, 2, none⟩ = some (.slice A2 x.f2.length a2) := (blk_cell HX1.out 2).trans rfl
        have y2 : W1.cell? ⟨Q, 2, none⟩ = some (.slice B2 x.f2.length b2) := (blk_cell HY1.out 2).trans rfl
        go_wp2_with fail
        refine (HE2.out _ HB1.out).mono ?_
        rintro e W2 ⟨rfl, hb2⟩
        have HB2 := Lib.hid (HB1.out.trans (hb2.mono HB1.out.size))
        have HX2 := Lib.hid (blk_below HX1.out hb2)
        have HY2 := Lib.hid (blk_below HY1.out hb2)
        clear x2 y2 hb2 HX1 HY1 HB1
        have x3 : W2.cell? ⟨P, 3, none⟩ = some (.slice A3 x.f3.length a3) := (blk_cell HX2.out 3).trans rfl
        have y3 : W2.cell? ⟨Q, 3, none⟩ = some (.slice B3 x.f3.length b3) := (blk_cell HY2.out 3).trans rfl
        go_wp2_with fail
        refine (HE3.out _ HB2.out).mono ?_
        rintro e W3 ⟨rfl, hb3⟩
        have HB3 := Lib.hid (HB2.out.trans (hb3.mono HB2.out.size))
        have HX3 := Lib.hid (blk_below HX2.out hb3)
        have HY3 := Lib.hid (blk_below HY2.out hb3)
        clear x3 y3 hb3 HX2 HY2 HB2
        have x4 : W3.cell? ⟨P, 4, none⟩ = some (.slice A4 x.f4.length a4) := (blk_cell HX3.out 4).trans rfl
        have y4 : W3.cell? ⟨Q, 4, none⟩ = some (.slice B4 x.f4.length b4) := (blk_cell HY3.out 4).trans rfl
        go_wp2_with fail
        clear x4 y4
        go_loopg [8] x.f4.length (fun gj s8 wr => ∃ jj : Nat, jj ≤ x.f4.length ∧ x.f4.length - jj ≤ gj ∧ s8 = .int .i64 jj ∧ Aside0 (Below wo.heap.size wo wr) ∧ Aside0 (Below W3.heap.size W3 wr))
        case atStart => exact ⟨0, Nat.zero_le _, by omega, rfl, ⟨HB3.out⟩, ⟨Below.refl _ _⟩⟩
        case round =>
          obtain ⟨jj, hjj, hgj, rfl, HI, HJ⟩ := hrel
          have x4 : wr.cell? ⟨P, 4, none⟩ = some (.slice A4 x.f4.length a4) := (blk_cell (blk_below HX3.out HJ.out) 4).trans rfl
          have y4 : wr.cell? ⟨Q, 4, none⟩ = some (.slice B4 x.f4.length b4) := (blk_cell (blk_below HY3.out HJ.out) 4).trans rfl
          by_cases hlj : jj < x.f4.length
          · have hljz : (jj : Int) < (x.f4.length : Int) := by omega
            obtain ⟨ed, C2, c2, C3, c3, e1, p0, p1, p2, p3, p4, q1, q2, q3, q4⟩ := at_T62 (Kd.C_below HA4.out HI.out) (jj : Int) (by omega) hljz
            obtain ⟨fd, D2, d2, D3, d3, e2, n0, n1, n2, n3, n4, m1, m2, m3, m4⟩ := at_T62 (Kd.C_below HB4.out HI.out) (jj : Int) (by omega) hljz
            subst e1 e2
            rw [Int.toNat_natCast] at p0 p1 p2 p3 p4 n0 n1 n2 n3 n4
            have hS := fun W' (hW : Below wr.heap.size wr W') => eqStep_same (rd_T62 x.f4 (jj : Int)) C2 c2 C3 c3 D2 d2 D3 d3 W' (Kd.C_below q2 hW) (Kd.C_below q4 hW) (Kd.C_below m2 hW) (Kd.C_below m4 hW)
            generalize rd_T62 x.f4 (jj : Int) = z at p0 p1 p2 p3 p4 n0 n1 n2 n3 n4 hS
            have HS := Lib.hid hS
            clear q1 q2 q3 q4 m1 m2 m3 m4 hS
            go_wp2_with fail
            go_region_law (go_simp; go_at_call 54; refine (HS.out _ (below_drew (Below.refl _ _))).mono ?_; rintro e w5 ⟨rfl, hb5⟩; have HI5 := Lib.hid (HI.out.trans ((below_drew (Below.refl _ _)).trans hb5 |>.mono HI.out.size)); have HJ5 := Lib.hid (HJ.out.trans ((below_drew (Below.refl _ _)).trans hb5 |>.mono HJ.out.size)); clear hb5)
            all_goals
              go_wp2_with fail
              go_roundg (x.f4.length - (jj + 1))
              case measure => omega
              case rel => exact ⟨jj + 1, by omega, by omega, by go_num, ⟨HI5.out⟩, ⟨HJ5.out⟩⟩
          · have hljz : ¬ (jj : Int) < (x.f4.length : Int) := by omega
            go_wp2_with fail
            go_roundg (l.length - (kk + 1))
            case measure => omega
            case rel => exact ⟨kk + 1, by omega, by omega, by go_num, ⟨HW.out.trans (HI.out.mono HW.out.size)⟩⟩
    · have hltz : ¬ (kk : Int) < (l.length : Int) := by omega
      go_wp2
      go_ret
      exact ⟨rfl, HW.out⟩

end Go.Proofs.YthagibkmfgodgaaGreatDoor.X
