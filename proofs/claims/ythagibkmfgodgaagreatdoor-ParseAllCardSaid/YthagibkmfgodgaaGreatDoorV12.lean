/-
  begun of law4 answers true: every contract at its closed values.
  The reference's Eq, walked by hand, at equal rules.
  A text cut short, plainly.
  reads, walked by hand: a text as the document says; ParseAll.
  ParseAll, walked by hand: any text is a rule file's, or it is told where it is none, as the reference tells.
-/
import Derived.BigRegion
import Derived.BigQuiet
import Derived.Test.YthagibkmfgodgaaGreatDoorV11
import Derived.Test.YthagibkmfgodgaaGreatDoorV10
namespace Go.Proofs.YthagibkmfgodgaaGreatDoor.X
open Go.RowKit Go.Maps Go.Proofs.YthagibkmfgodgaaGreatDoorW.PrintWords Go.Proofs.YthagibkmfgodgaaGreatDoorW.PrintMore Go.Proofs.YthagibkmfgodgaaGreatDoorW.PrintLast

set_option maxHeartbeats 2000000 in
theorem equalSame_calls (A : Option Addr) (c : Nat) (B : Option Addr) (d : Nat) (l : List ByteArray) (w : World) (h1 : Kd.C Kd.string w A l.length l) (h2 : Kd.C Kd.string w B l.length l) :
    Calls Tryz.prog 89 #[.slice A l.length c, .slice B l.length d] w fun e w' => e = .returned (.bool true) ∧ Below w.heap.size w w' := by
  have hm := h1.2.1
  have H1 := Lib.hid h1
  have H2 := Lib.hid h2
  clear h1 h2
  go_enter Tryz.func89, Tryz.ntmps89
  go_wp2_with fail
  go_loopg [5, 13] l.length (fun gg _ s13 wr => ∃ kk : Nat, kk ≤ l.length ∧ l.length - kk ≤ gg ∧ s13 = .int .i64 kk ∧ Aside0 (Below w.heap.size w wr))
  case atStart => exact ⟨0, by omega, by omega, rfl, ⟨Below.refl _ _⟩⟩
  case round =>
    obtain ⟨kk, hkk, hgk, rfl, HB⟩ := hrel
    by_cases hlt : kk < l.length
    · have hltz : (kk : Int) < (l.length : Int) := by omega
      rcases row_open (Kd.C_below H1.out HB.out) with h0 | ⟨b, o, rfl, _, hcell⟩
      · rw [h0] at hlt; simp at hlt
      rcases row_open (Kd.C_below H2.out HB.out) with h0 | ⟨b', o', rfl, _, hcell'⟩
      · rw [h0] at hlt; simp at hlt
      have hx : wr.cell? ⟨b, o + kk, none⟩ = some (.string (l.getD kk ByteArray.empty)) := hcell kk hlt
      have hx' : wr.cell? ⟨b', o' + kk, none⟩ = some (.string (l.getD kk ByteArray.empty)) := hcell' kk hlt
      generalize l.getD kk ByteArray.empty = y at hx hx'
      have HBd := Lib.hid (below_drew HB.out)
      clear hcell hcell'
      go_wp2_with fail
      go_region
      all_goals
        go_wp2
        go_roundg (l.length - (kk + 1))
        case measure => omega
        case rel => exact ⟨kk + 1, by omega, by omega, by go_num, ⟨HBd.out⟩⟩
    · have hltz : ¬ (kk : Int) < (l.length : Int) := by omega
      go_wp2
      go_ret
      exact ⟨rfl, HB.out⟩

set_option maxHeartbeats 4000000 in
set_option maxRecDepth 100000 in
theorem stepsSame_calls (x : SStep) (A2 : Option Addr) (c2 : Nat) (A3 : Option Addr) (c3 : Nat) (B2 : Option Addr) (d2 : Nat) (B3 : Option Addr) (d3 : Nat) (w : World)
    (h2 : Kd.C Kd.string w A2 x.f2.length x.f2) (h3 : Kd.C Kd.string w A3 x.f3.length x.f3) (g2 : Kd.C Kd.string w B2 x.f2.length x.f2) (g3 : Kd.C Kd.string w B3 x.f3.length x.f3) :
    Calls Tryz.prog 91 #[.agg #[.string x.f0, .int .i64 x.f1, .slice A2 x.f2.length c2, .slice A3 x.f3.length c3, .int .i64 x.f4], .agg #[.string x.f0, .int .i64 x.f1, .slice B2 x.f2.length d2, .slice B3 x.f3.length d3, .int .i64 x.f4]] w
      fun e w' => e = .returned (.bool true) ∧ Below w.heap.size w w' := by
  have hb1 := (Below.refl w.heap.size w).alloc (Nat.le_refl _) (.cells #[.string x.f0, .int .i64 x.f1, .slice A2 x.f2.length c2, .slice A3 x.f3.length c3, .int .i64 x.f4] 62)
  have hb2 := hb1.alloc hb1.size (.cells #[.string x.f0, .int .i64 x.f1, .slice B2 x.f2.length d2, .slice B3 x.f3.length d3, .int .i64 x.f4] 62)
  have hk := blk_alloc (blk_new w (.cells #[.string x.f0, .int .i64 x.f1, .slice A2 x.f2.length c2, .slice A3 x.f3.length c3, .int .i64 x.f4] 62)) (.cells #[.string x.f0, .int .i64 x.f1, .slice B2 x.f2.length d2, .slice B3 x.f3.length d3, .int .i64 x.f4] 62)
  have hz := blk_new (w.alloc (.cells #[.string x.f0, .int .i64 x.f1, .slice A2 x.f2.length c2, .slice A3 x.f3.length c3, .int .i64 x.f4] 62)) (.cells #[.string x.f0, .int .i64 x.f1, .slice B2 x.f2.length d2, .slice B3 x.f3.length d3, .int .i64 x.f4] 62)
  rw [World.size_alloc] at hz
  have HB2 := Lib.hid hb2
  have HK2 := Lib.hid hk
  have HZ2 := Lib.hid hz
  have hE2 : Hid (∀ W, Below w.heap.size w W → Calls Tryz.prog 89 #[.slice A2 x.f2.length c2, .slice B2 x.f2.length d2] W fun e w' => e = .returned (.bool true) ∧ Below W.heap.size W w') := fun W hW => equalSame_calls A2 c2 B2 d2 x.f2 W (Kd.C_below h2 hW) (Kd.C_below g2 hW)
  have hE3 : Hid (∀ W, Below w.heap.size w W → Calls Tryz.prog 89 #[.slice A3 x.f3.length c3, .slice B3 x.f3.length d3] W fun e w' => e = .returned (.bool true) ∧ Below W.heap.size W w') := fun W hW => equalSame_calls A3 c3 B3 d3 x.f3 W (Kd.C_below h3 hW) (Kd.C_below g3 hW)
  clear hb1 hb2 hk hz h2 h3 g2 g3
  go_enter Tryz.func91, Tryz.ntmps91
  go_wp2_with fail
  generalize (w.alloc (.cells #[.string x.f0, .int .i64 x.f1, .slice A2 x.f2.length c2, .slice A3 x.f3.length c3, .int .i64 x.f4] 62)).alloc (.cells #[.string x.f0, .int .i64 x.f1, .slice B2 x.f2.length d2, .slice B3 x.f3.length d3, .int .i64 x.f4] 62) = w2 at HB2 HK2 HZ2 ⊢
  refine (hE2.out _ HB2.out).mono ?_
  rintro e w3 ⟨rfl, hb3⟩
  have HB3 := Lib.hid (below_then HB2.out HB2.out.size hb3)
  have k3 : w3.cell? ⟨w.heap.size, 3, none⟩ = some (.slice A3 x.f3.length c3) := (blk_cell (blk_below HK2.out hb3) 3).trans rfl
  have j3 : w3.cell? ⟨w.heap.size + 1, 3, none⟩ = some (.slice B3 x.f3.length d3) := (blk_cell (blk_below HZ2.out hb3) 3).trans rfl
  clear hb3
  go_wp2_with fail
  refine (hE3.out _ HB3.out).mono ?_
  rintro e w4 ⟨rfl, hb4⟩
  have HB4 := Lib.hid (below_then HB3.out HB3.out.size hb4)
  clear hb4
  go_wp2_with fail
  go_ret
  exact ⟨rfl, HB4.out⟩

theorem alloc_keep {w : World} {a : Addr} {v : Value} (h : w.cell? a = some v) (ob : Obj) : (w.alloc ob).cell? a = some v := (World.cell?_alloc_some w a ob (by rw [h]; rfl)).trans h
abbrev IsTrue (w : World) (e : Ending) (w' : World) : Prop := e = .returned (.bool true) ∧ Below w.heap.size w w'
theorem step_at {w : World} {x : SStep} {A : Option Addr} (h : Kd.C k62 w A 1 [x]) :
    ∃ ad A2 c2 A3 c3, A = some ad ∧ Kd.C Kd.string w A2 x.f2.length x.f2 ∧ Kd.C Kd.string w A3 x.f3.length x.f3 ∧ w.cell? ad = some (.string x.f0) ∧ w.cell? ⟨ad.block, ad.off + 1, none⟩ = some (.int .i64 x.f1) ∧
      w.cell? ⟨ad.block, ad.off + 2, none⟩ = some (.slice A2 x.f2.length c2) ∧ w.cell? ⟨ad.block, ad.off + 3, none⟩ = some (.slice A3 x.f3.length c3) ∧ w.cell? ⟨ad.block, ad.off + 4, none⟩ = some (.int .i64 x.f4) := by
  obtain ⟨ad, cs, rfl, hcl, hK, hcell⟩ := Kd.C_get h x 0 (by simp) (by simp)
  obtain ⟨A5, c5, A6, c6, hcs, hc5, h5, hc6, h6⟩ := k62_open hK
  subst hcs
  refine ⟨ad, A5, c5, A6, c6, rfl, h5, h6, ?_, ?_, ?_, ?_, ?_⟩
  · have := hcell 0 _ rfl; rwa [at_zero] at this
  · have := hcell 1 _ rfl; rwa [at_next ad 1 (by decide)] at this
  · have := hcell 2 _ rfl; rwa [at_next ad 2 (by decide)] at this
  · have := hcell 3 _ rfl; rwa [at_next ad 3 (by decide)] at this
  · have := hcell 4 _ rfl; rwa [at_next ad 4 (by decide)] at this
theorem rule_at {w : World} {r : SRule} {A : Option Addr} (h : Kd.C k49 w A 1 [r]) :
    ∃ ad A1 c1 A2 c2 A3 c3 A4 c4, A = some ad ∧ Kd.C Kd.string w A1 r.f1.length r.f1 ∧ Kd.C Kd.string w A2 r.f2.length r.f2 ∧ Kd.C Kd.string w A3 r.f3.length r.f3 ∧ Kd.C k62 w A4 r.f4.length r.f4 ∧
      w.cell? ad = some (.string r.f0) ∧ w.cell? ⟨ad.block, ad.off + 1, none⟩ = some (.slice A1 r.f1.length c1) ∧
      w.cell? ⟨ad.block, ad.off + 2, none⟩ = some (.slice A2 r.f2.length c2) ∧ w.cell? ⟨ad.block, ad.off + 3, none⟩ = some (.slice A3 r.f3.length c3) ∧ w.cell? ⟨ad.block, ad.off + 4, none⟩ = some (.slice A4 r.f4.length c4) := by
  obtain ⟨ad, cs, rfl, hcl, hK, hcell⟩ := Kd.C_get h r 0 (by simp) (by simp)
  obtain ⟨A1, c1, A2, c2, A3, c3, A4, c4, hcs, _, h1, _, h2, _, h3, _, h4⟩ := k49_open hK
  subst hcs
  refine ⟨ad, A1, c1, A2, c2, A3, c3, A4, c4, rfl, h1, h2, h3, h4, ?_, ?_, ?_, ?_, ?_⟩
  · have := hcell 0 _ rfl; rwa [at_zero] at this
  · have := hcell 1 _ rfl; rwa [at_next ad 1 (by decide)] at this
  · have := hcell 2 _ rfl; rwa [at_next ad 2 (by decide)] at this
  · have := hcell 3 _ rfl; rwa [at_next ad 3 (by decide)] at this
  · have := hcell 4 _ rfl; rwa [at_next ad 4 (by decide)] at this

set_option maxHeartbeats 4000000 in
set_option maxRecDepth 100000 in
theorem eqStep_calls (x : SStep) (A : Option Addr) (c : Nat) (B : Option Addr) (d : Nat) (w : World) (h1 : Kd.C k62 w A 1 [x]) (h2 : Kd.C k62 w B 1 [x]) :
    Calls Tryz.prog 90 #[.slice A 1 c, .slice B 1 d, .func (.func 91) #[] #[]] w (IsTrue w) := by
  obtain ⟨ad, A2, c2, A3, c3, rfl, hA2, hA3, m0, m1, m2, m3, m4⟩ := step_at h1
  obtain ⟨bd, B2, d2, B3, d3, rfl, hB2, hB3, n0, n1, n2, n3, n4⟩ := step_at h2
  have hS : Hid (∀ W, Below w.heap.size w W → Calls Tryz.prog 91 #[.agg #[.string x.f0, .int .i64 x.f1, .slice A2 x.f2.length c2, .slice A3 x.f3.length c3, .int .i64 x.f4], .agg #[.string x.f0, .int .i64 x.f1, .slice B2 x.f2.length d2, .slice B3 x.f3.length d3, .int .i64 x.f4]] W
      fun e w' => e = .returned (.bool true) ∧ Below W.heap.size W w') := fun W hW => stepsSame_calls x A2 c2 A3 c3 B2 d2 B3 d3 W (Kd.C_below hA2 hW) (Kd.C_below hA3 hW) (Kd.C_below hB2 hW) (Kd.C_below hB3 hW)
  clear h1 h2 hA2 hA3 hB2 hB3
  go_enter Tryz.func90, Tryz.ntmps90
  go_wp2_with fail
  go_loopg [17] 1 (fun gg s17 wr => ∃ kk : Nat, kk ≤ 1 ∧ 1 - kk ≤ gg ∧ s17 = .int .i64 kk ∧ Aside0 (kk = 0 → wr = w) ∧ Aside0 (kk = 1 → Below w.heap.size w wr))
  case atStart => exact ⟨0, by omega, by omega, rfl, ⟨fun _ => rfl⟩, ⟨fun h => by omega⟩⟩
  case round =>
    obtain ⟨kk, hkk, hgk, rfl, HP0, HP1⟩ := hrel
    by_cases h0 : kk = 0
    · subst h0
      obtain rfl := HP0.out rfl
      clear HP0 HP1
      have p0 := alloc_keep n0
      have p1 := alloc_keep n1
      have p2 := alloc_keep n2
      have p3 := alloc_keep n3
      have p4 := alloc_keep n4
      have hb := ((Below.refl wr.heap.size wr).alloc (Nat.le_refl _) (.cells #[.string x.f0, .int .i64 x.f1, .slice A2 x.f2.length c2, .slice A3 x.f3.length c3, .int .i64 x.f4] 62)).alloc (by rw [World.size_alloc]; omega) (.cells #[.string x.f0, .int .i64 x.f1, .slice B2 x.f2.length d2, .slice B3 x.f3.length d3, .int .i64 x.f4] 62)
      have HB := Lib.hid hb
      have hcall := hS.out _ hb
      clear hb
      go_wp2_with (go_at_call 91; refine hcall.mono ?_; rintro e w2 ⟨rfl, hb2⟩; have HB2 := Lib.hid (below_then HB.out HB.out.size hb2); clear hb2)
      go_roundg 0
      case measure => omega
      case rel => exact ⟨1, by omega, by omega, by first | rfl | go_num, ⟨fun h => by omega⟩, ⟨fun _ => HB2.out⟩⟩
    · obtain rfl : kk = 1 := by omega
      have HB := Lib.hid (HP1.out rfl)
      clear HP0 HP1
      go_wp2_with fail
      go_ret
      exact ⟨rfl, HB.out⟩

set_option maxHeartbeats 8000000 in
set_option maxRecDepth 100000 in
theorem sameSame_calls (f0 : ByteArray) (l1 l2 l3 : List ByteArray) (x : SStep) (A1 : Option Addr) (c1 : Nat) (A2 : Option Addr) (c2 : Nat) (A3 : Option Addr) (c3 : Nat) (A4 : Option Addr) (c4 : Nat) (B1 : Option Addr) (d1 : Nat) (B2 : Option Addr) (d2 : Nat) (B3 : Option Addr) (d3 : Nat) (B4 : Option Addr) (d4 : Nat) (w : World)
    (h1 : Kd.C Kd.string w A1 l1.length l1) (h2 : Kd.C Kd.string w A2 l2.length l2) (h3 : Kd.C Kd.string w A3 l3.length l3) (h4 : Kd.C k62 w A4 1 [x])
    (g1 : Kd.C Kd.string w B1 l1.length l1) (g2 : Kd.C Kd.string w B2 l2.length l2) (g3 : Kd.C Kd.string w B3 l3.length l3) (g4 : Kd.C k62 w B4 1 [x]) :
    Calls Tryz.prog 61 #[.agg #[.string f0, .slice A1 l1.length c1, .slice A2 l2.length c2, .slice A3 l3.length c3, .slice A4 1 c4], .agg #[.string f0, .slice B1 l1.length d1, .slice B2 l2.length d2, .slice B3 l3.length d3, .slice B4 1 d4]] w (IsTrue w) := by
  have hb1 := (Below.refl w.heap.size w).alloc (Nat.le_refl _) (.cells #[.string f0, .slice A1 l1.length c1, .slice A2 l2.length c2, .slice A3 l3.length c3, .slice A4 1 c4] 49)
  have hb2 := hb1.alloc hb1.size (.cells #[.string f0, .slice B1 l1.length d1, .slice B2 l2.length d2, .slice B3 l3.length d3, .slice B4 1 d4] 49)
  have hk := blk_alloc (blk_new w (.cells #[.string f0, .slice A1 l1.length c1, .slice A2 l2.length c2, .slice A3 l3.length c3, .slice A4 1 c4] 49)) (.cells #[.string f0, .slice B1 l1.length d1, .slice B2 l2.length d2, .slice B3 l3.length d3, .slice B4 1 d4] 49)
  have hz := blk_new (w.alloc (.cells #[.string f0, .slice A1 l1.length c1, .slice A2 l2.length c2, .slice A3 l3.length c3, .slice A4 1 c4] 49)) (.cells #[.string f0, .slice B1 l1.length d1, .slice B2 l2.length d2, .slice B3 l3.length d3, .slice B4 1 d4] 49)
  rw [World.size_alloc] at hz
  have HB2 := Lib.hid hb2
  have HK2 := Lib.hid hk
  have HZ2 := Lib.hid hz
  have hE1 : Hid (∀ W, Below w.heap.size w W → Calls Tryz.prog 89 #[.slice A1 l1.length c1, .slice B1 l1.length d1] W fun e w' => e = .returned (.bool true) ∧ Below W.heap.size W w') := fun W hW => equalSame_calls A1 c1 B1 d1 l1 W (Kd.C_below h1 hW) (Kd.C_below g1 hW)
  have hE2 : Hid (∀ W, Below w.heap.size w W → Calls Tryz.prog 89 #[.slice A2 l2.length c2, .slice B2 l2.length d2] W fun e w' => e = .returned (.bool true) ∧ Below W.heap.size W w') := fun W hW => equalSame_calls A2 c2 B2 d2 l2 W (Kd.C_below h2 hW) (Kd.C_below g2 hW)
  have hE3 : Hid (∀ W, Below w.heap.size w W → Calls Tryz.prog 89 #[.slice A3 l3.length c3, .slice B3 l3.length d3] W fun e w' => e = .returned (.bool true) ∧ Below W.heap.size W w') := fun W hW => equalSame_calls A3 c3 B3 d3 l3 W (Kd.C_below h3 hW) (Kd.C_below g3 hW)
  have hE4 : Hid (∀ W, Below w.heap.size w W → Calls Tryz.prog 90 #[.slice A4 1 c4, .slice B4 1 d4, .func (.func 91) #[] #[]] W (IsTrue W)) := fun W hW => eqStep_calls x A4 c4 B4 d4 W (Kd.C_below h4 hW) (Kd.C_below g4 hW)
  clear hb1 hb2 hk hz h1 h2 h3 h4 g1 g2 g3 g4
  go_enter Tryz.func61, Tryz.ntmps61
  go_wp2_with fail
  generalize (w.alloc (.cells #[.string f0, .slice A1 l1.length c1, .slice A2 l2.length c2, .slice A3 l3.length c3, .slice A4 1 c4] 49)).alloc (.cells #[.string f0, .slice B1 l1.length d1, .slice B2 l2.length d2, .slice B3 l3.length d3, .slice B4 1 d4] 49) = w2 at HB2 HK2 HZ2 ⊢
  refine (hE1.out _ HB2.out).mono ?_
  rintro e w3 ⟨rfl, hb3⟩
  have HB3 := Lib.hid (below_then HB2.out HB2.out.size hb3)
  have HK3 := Lib.hid (blk_below HK2.out hb3)
  have HZ3 := Lib.hid (blk_below HZ2.out hb3)
  have k3 : w3.cell? ⟨w.heap.size, 2, none⟩ = some (.slice A2 l2.length c2) := (blk_cell HK3.out 2).trans rfl
  have j3 : w3.cell? ⟨w.heap.size + 1, 2, none⟩ = some (.slice B2 l2.length d2) := (blk_cell HZ3.out 2).trans rfl
  clear hb3
  go_wp2_with fail
  refine (hE2.out _ HB3.out).mono ?_
  rintro e w4 ⟨rfl, hb4⟩
  have HB4 := Lib.hid (below_then HB3.out HB3.out.size hb4)
  have HK4 := Lib.hid (blk_below HK3.out hb4)
  have HZ4 := Lib.hid (blk_below HZ3.out hb4)
  have k4 : w4.cell? ⟨w.heap.size, 3, none⟩ = some (.slice A3 l3.length c3) := (blk_cell HK4.out 3).trans rfl
  have j4 : w4.cell? ⟨w.heap.size + 1, 3, none⟩ = some (.slice B3 l3.length d3) := (blk_cell HZ4.out 3).trans rfl
  clear hb4
  go_wp2_with fail
  refine (hE3.out _ HB4.out).mono ?_
  rintro e w5 ⟨rfl, hb5⟩
  have HB5 := Lib.hid (below_then HB4.out HB4.out.size hb5)
  have HK5 := Lib.hid (blk_below HK4.out hb5)
  have HZ5 := Lib.hid (blk_below HZ4.out hb5)
  have k5 : w5.cell? ⟨w.heap.size, 4, none⟩ = some (.slice A4 1 c4) := (blk_cell HK5.out 4).trans rfl
  have j5 : w5.cell? ⟨w.heap.size + 1, 4, none⟩ = some (.slice B4 1 d4) := (blk_cell HZ5.out 4).trans rfl
  clear hb5
  go_wp2_with fail
  refine (hE4.out _ HB5.out).mono ?_
  rintro e w6 ⟨rfl, hb6⟩
  have HB6 := Lib.hid (below_then HB5.out HB5.out.size hb6)
  clear hb6
  go_wp2_with fail
  go_ret
  exact ⟨rfl, HB6.out⟩

set_option maxHeartbeats 8000000 in
set_option maxRecDepth 100000 in
theorem eqRule_calls (f0 : ByteArray) (l1 l2 l3 : List ByteArray) (x : SStep) (A : Option Addr) (c : Nat) (B : Option Addr) (d : Nat) (w : World) (h1 : Kd.C k49 w A 1 [⟨f0, l1, l2, l3, [x]⟩]) (h2 : Kd.C k49 w B 1 [⟨f0, l1, l2, l3, [x]⟩]) :
    Calls Tryz.prog 60 #[.slice A 1 c, .slice B 1 d, .func (.func 61) #[] #[]] w (IsTrue w) := by
  obtain ⟨ad, A1, c1, A2, c2, A3, c3, A4, c4, rfl, hA1, hA2, hA3, hA4, m0, m1, m2, m3, m4⟩ := rule_at h1
  obtain ⟨bd, B1, d1, B2, d2, B3, d3, B4, d4, rfl, hB1, hB2, hB3, hB4, n0, n1, n2, n3, n4⟩ := rule_at h2
  replace m0 : w.cell? ad = some (.string f0) := m0
  replace m1 : w.cell? ⟨ad.block, ad.off + 1, none⟩ = some (.slice A1 l1.length c1) := m1
  replace m2 : w.cell? ⟨ad.block, ad.off + 2, none⟩ = some (.slice A2 l2.length c2) := m2
  replace m3 : w.cell? ⟨ad.block, ad.off + 3, none⟩ = some (.slice A3 l3.length c3) := m3
  replace m4 : w.cell? ⟨ad.block, ad.off + 4, none⟩ = some (.slice A4 1 c4) := m4
  replace n0 : w.cell? bd = some (.string f0) := n0
  replace n1 : w.cell? ⟨bd.block, bd.off + 1, none⟩ = some (.slice B1 l1.length d1) := n1
  replace n2 : w.cell? ⟨bd.block, bd.off + 2, none⟩ = some (.slice B2 l2.length d2) := n2
  replace n3 : w.cell? ⟨bd.block, bd.off + 3, none⟩ = some (.slice B3 l3.length d3) := n3
  replace n4 : w.cell? ⟨bd.block, bd.off + 4, none⟩ = some (.slice B4 1 d4) := n4
  have hS : Hid (∀ W, Below w.heap.size w W → Calls Tryz.prog 61 #[.agg #[.string f0, .slice A1 l1.length c1, .slice A2 l2.length c2, .slice A3 l3.length c3, .slice A4 1 c4], .agg #[.string f0, .slice B1 l1.length d1, .slice B2 l2.length d2, .slice B3 l3.length d3, .slice B4 1 d4]] W (IsTrue W)) := fun W hW => sameSame_calls f0 l1 l2 l3 x A1 c1 A2 c2 A3 c3 A4 c4 B1 d1 B2 d2 B3 d3 B4 d4 W (Kd.C_below hA1 hW) (Kd.C_below hA2 hW) (Kd.C_below hA3 hW) (Kd.C_below hA4 hW) (Kd.C_below hB1 hW) (Kd.C_below hB2 hW) (Kd.C_below hB3 hW) (Kd.C_below hB4 hW)
  clear h1 h2 hA1 hA2 hA3 hA4 hB1 hB2 hB3 hB4
  go_enter Tryz.func60, Tryz.ntmps60
  go_wp2_with fail
  go_loopg [17] 1 (fun gg s17 wr => ∃ kk : Nat, kk ≤ 1 ∧ 1 - kk ≤ gg ∧ s17 = .int .i64 kk ∧ Aside0 (kk = 0 → wr = w) ∧ Aside0 (kk = 1 → Below w.heap.size w wr))
  case atStart => exact ⟨0, by omega, by omega, rfl, ⟨fun _ => rfl⟩, ⟨fun h => by omega⟩⟩
  case round =>
    obtain ⟨kk, hkk, hgk, rfl, HP0, HP1⟩ := hrel
    by_cases h0 : kk = 0
    · subst h0
      obtain rfl := HP0.out rfl
      clear HP0 HP1
      have p0 := alloc_keep n0
      have p1 := alloc_keep n1
      have p2 := alloc_keep n2
      have p3 := alloc_keep n3
      have p4 := alloc_keep n4
      have hb := ((Below.refl wr.heap.size wr).alloc (Nat.le_refl _) (.cells #[.string f0, .slice A1 l1.length c1, .slice A2 l2.length c2, .slice A3 l3.length c3, .slice A4 1 c4] 49)).alloc (by rw [World.size_alloc]; omega) (.cells #[.string f0, .slice B1 l1.length d1, .slice B2 l2.length d2, .slice B3 l3.length d3, .slice B4 1 d4] 49)
      have HB := Lib.hid hb
      have hcall := hS.out _ hb
      clear hb
      go_wp2_with (go_at_call 61; refine hcall.mono ?_; rintro e w2 ⟨rfl, hb2⟩; have HB2 := Lib.hid (below_then HB.out HB.out.size hb2); clear hb2)
      go_roundg 0
      case measure => omega
      case rel => exact ⟨1, by omega, by omega, by first | rfl | go_num, ⟨fun h => by omega⟩, ⟨fun _ => HB2.out⟩⟩
    · obtain rfl : kk = 1 := by omega
      have HB := Lib.hid (HP1.out rfl)
      clear HP0 HP1
      go_wp2_with fail
      go_ret
      exact ⟨rfl, HB.out⟩
set_option maxHeartbeats 1000000 in
theorem eqOne_calls (f0 : ByteArray) (l1 l2 l3 : List ByteArray) (x : SStep) (A : Option Addr) (c : Nat) (B : Option Addr) (d : Nat) (w : World) (h1 : Kd.C k49 w A 1 [⟨f0, l1, l2, l3, [x]⟩]) (h2 : Kd.C k49 w B 1 [⟨f0, l1, l2, l3, [x]⟩]) :
    Calls Tryz.prog 36 #[.slice A 1 c, .slice B 1 d] w (IsTrue w) := by
  have hE := eqRule_calls f0 l1 l2 l3 x A c B d w h1 h2
  clear h1 h2
  go_enter Tryz.func36, Tryz.ntmps36
  go_wp2_with fail
  refine hE.mono ?_
  rintro e w2 ⟨rfl, hb2⟩
  go_wp2_with fail
  go_ret
  exact ⟨rfl, hb2⟩
end Go.Proofs.YthagibkmfgodgaaGreatDoor.X

namespace Go.Proofs.YthagibkmfgodgaaGreatDoor.X
open Go.RowKit Go.Maps

def begW : Bytes := [97, 32, 34, 92, 120, 52, 49, 34, 32, 59]
theorem begW_all : allR (allF begW) = ([⟨1, 0, ⟨#[97]⟩⟩, ⟨2, 2, ⟨#[65]⟩⟩, ⟨3, 9, ⟨#[59]⟩⟩, ⟨4, 10, ⟨#[]⟩⟩], 0, 0) := by kernel_rfl
def begS : Bytes := "rule r { in b, a; out x; # no\n x = select \"q\\n\" a; }".toUTF8.data.toList
def begX : SStep := ⟨⟨#[120]⟩, 7, [⟨#[97]⟩], [⟨#[113, 10]⟩], 0⟩
theorem begS_file : fileT begS = ([⟨⟨#[114]⟩, [⟨#[98]⟩, ⟨#[97]⟩], [⟨#[120]⟩], [], [begX]⟩], 0, 0) := by kernel_rfl
def begE : Bytes := "rule in {".toUTF8.data.toList
theorem begE_file : fileT begE = ([], 1, 5) := by kernel_rfl
theorem begOp : opF ⟨#[99, 111, 117, 110, 116]⟩ = 4 := by kernel_rfl
theorem begName : opNameF 4 = ⟨#[99, 111, 117, 110, 116]⟩ := by kernel_rfl
theorem begQ : quoteF [97, 34, 10] = [34, 97, 92, 34, 92, 110, 34] := by kernel_rfl
theorem begStep : stepT begX = "x = select \"q\\n\" a;".toUTF8.data.toList := by kernel_rfl

theorem rising_nil : risingF [] = [] := by simp [risingF]
theorem rising_one (x : ByteArray) : risingF [x] = [x] := by
  unfold risingF
  rw [List.map_cons, List.map_nil, List.mergeSort_singleton]
  rfl
theorem rising_ba : risingF [⟨#[98]⟩, ⟨#[97]⟩] = [⟨#[97]⟩, ⟨#[98]⟩] := by
  unfold risingF
  show List.map mk (List.mergeSort [[98], [97]] _) = _
  simp [List.mergeSort, List.MergeSort.Internal.splitInTwo, List.merge]
  first | done | decide
theorem rising_ab : risingF [⟨#[97]⟩, ⟨#[98]⟩] = [⟨#[97]⟩, ⟨#[98]⟩] := by
  unfold risingF
  show List.map mk (List.mergeSort [[97], [98]] _) = _
  simp [List.mergeSort, List.MergeSort.Internal.splitInTwo, List.merge]
  first | done | decide
theorem begRule : ruleT ⟨#[114]⟩ [⟨#[97]⟩, ⟨#[98]⟩] [⟨#[120]⟩] [] begX = "rule r {\n  in a, b;\n  out x;\n  x = select \"q\\n\" a;\n}\n".toUTF8.data.toList := by
  unfold ruleT headT
  rw [rising_ab, rising_one, rising_nil]
  kernel_rfl
theorem begSmall : SmallR ⟨#[114]⟩ [⟨#[97]⟩, ⟨#[98]⟩] [⟨#[120]⟩] [] begX := by
  constructor
  · decide
  · decide
  · decide
  · decide
  · rw [rising_ab]; decide
  · rw [rising_one]; decide
  · rw [rising_nil]; decide
  · decide
  · decide
  · decide
  · intro y hy
    obtain rfl : y = ⟨#[113, 10]⟩ := by simpa [begX] using hy
    refine ⟨by decide, fun c hc => ?_⟩
    have : c = 113 ∨ c = 10 := by simpa using hc
    rcases this with rfl | rfl
    · right; right; decide
    · left; rfl
  · decide

end Go.Proofs.YthagibkmfgodgaaGreatDoor.X

namespace Go.Proofs.YthagibkmfgodgaaGreatDoor.X
open Go.RowKit Go.Maps Go.Proofs.YthagibkmfgodgaaGreatDoorW.PrintWords Go.Proofs.YthagibkmfgodgaaGreatDoorW.PrintMore Go.Proofs.YthagibkmfgodgaaGreatDoorW.PrintLast

set_option maxHeartbeats 1000000 in
theorem Begun1_calls (w : World) (hG : GOK w) : Calls Tryz.prog 38 #[] w (IsTrue w) := by
  have hB := shipwrightlaw1_begun.calls true w hG rfl
  clear hG
  go_enter Tryz.func38, Tryz.ntmps38
  go_wp2_with fail
  refine hB.mono ?_
  rintro e w2 ⟨rfl, hb2⟩
  go_wp2_with fail
  go_ret
  exact ⟨rfl, hb2⟩

theorem beg_quote (w : World) : Calls Tryz.prog 21 #[.string ⟨#[97, 34, 10]⟩] w fun e w' => e = .returned (.string ⟨#[34, 97, 92, 34, 92, 110, 34]⟩) ∧ Below w.heap.size w w' := by
  have h := quote_calls ⟨#[97, 34, 10]⟩ (by decide) (fun c hc => by
    have : c = 97 ∨ c = 34 ∨ c = 10 := by simpa using hc
    rcases this with rfl | rfl | rfl
    · right; right; decide
    · right; right; decide
    · left; rfl) w
  rw [show quoteF (⟨#[97, 34, 10]⟩ : ByteArray).data.toList = _ from begQ] at h
  exact h
def begR : SRule := ⟨⟨#[114]⟩, [⟨#[98]⟩, ⟨#[97]⟩], [⟨#[120]⟩], [], [begX]⟩
def begRs : SRule := ⟨⟨#[114]⟩, [⟨#[97]⟩, ⟨#[98]⟩], [⟨#[120]⟩], [], [begX]⟩
theorem beg_file (A : Option Addr) (c : Nat) (w : World) (hG : GOK w) (h : Kd.C k49 w A 1 [begR]) :
    Calls Tryz.prog 27 #[.slice A 1 c] w fun e w' => e = .returned (.string ⟨#[114, 117, 108, 101, 32, 114, 32, 123, 10, 32, 32, 105, 110, 32, 97, 44, 32, 98, 59, 10, 32, 32, 111, 117, 116, 32, 120, 59, 10, 32, 32, 120, 32, 61, 32, 115, 101, 108, 101, 99, 116, 32, 34, 113, 92, 110, 34, 32, 97, 59, 10, 125, 10]⟩) ∧ Below w.heap.size w w' := by
  have hc := pfileOne_calls ⟨#[114]⟩ [⟨#[98]⟩, ⟨#[97]⟩] [⟨#[120]⟩] [] begX A c w hG h (by decide) (by decide) (by decide) (by rw [rising_ba, rising_one, rising_nil]; exact begSmall)
  rw [rising_ba, rising_one, rising_nil, begRule] at hc
  rw [show mk "rule r {\n  in a, b;\n  out x;\n  x = select \"q\\n\" a;\n}\n".toUTF8.data.toList = ⟨#[114, 117, 108, 101, 32, 114, 32, 123, 10, 32, 32, 105, 110, 32, 97, 44, 32, 98, 59, 10, 32, 32, 111, 117, 116, 32, 120, 59, 10, 32, 32, 120, 32, 61, 32, 115, 101, 108, 101, 99, 116, 32, 34, 113, 92, 110, 34, 32, 97, 59, 10, 125, 10]⟩ from by kernel_rfl] at hc
  exact hc
theorem beg_sorted (A : Option Addr) (c : Nat) (w : World) (h : Kd.C k49 w A 1 [begR]) :
    Calls Tryz.prog 37 #[.slice A 1 c] w fun e w' => ∃ X d, e = .returned (.slice X 1 d) ∧ Kd.C k49 w' X 1 [begRs] ∧ Below w.heap.size w w' := by
  have hc := sortedOne_calls ⟨#[114]⟩ [⟨#[98]⟩, ⟨#[97]⟩] [⟨#[120]⟩] [] begX A c w h (by decide) (by decide) (by decide) (by decide) (by decide)
  rw [rising_ba, rising_one, rising_nil] at hc
  refine hc.mono ?_
  rintro e w2 ⟨X, d, rfl, hR, hb⟩
  obtain ⟨X', d', e', _, hC⟩ := Kd.R_reads hR
  injection e' with e1 e2 e3
  subst e1 e3
  exact ⟨X, d, rfl, hC, hb⟩
theorem beg_eq (A : Option Addr) (c : Nat) (B : Option Addr) (d : Nat) (w : World) (h : Kd.C k49 w A 1 [begRs]) (h2 : Kd.C k49 w B 1 [begRs]) :
    Calls Tryz.prog 36 #[.slice A 1 c, .slice B 1 d] w (IsTrue w) :=
  eqOne_calls ⟨#[114]⟩ [⟨#[97]⟩, ⟨#[98]⟩] [⟨#[120]⟩] [] begX A c B d w h h2
theorem beg_step (A2 : Option Addr) (c2 : Nat) (A3 : Option Addr) (c3 : Nat) (w : World) (hG : GOK w) (h2 : Kd.C Kd.string w A2 1 [⟨#[97]⟩]) (h3 : Kd.C Kd.string w A3 1 [⟨#[113, 10]⟩]) :
    Calls Tryz.prog 39 #[.agg #[.string ⟨#[120]⟩, .int .i64 7, .slice A2 1 c2, .slice A3 1 c3, .int .i64 0]] w fun e w' => e = .returned (.string ⟨#[120, 32, 61, 32, 115, 101, 108, 101, 99, 116, 32, 34, 113, 92, 110, 34, 32, 97, 59]⟩) ∧ Below w.heap.size w w' := by
  have hc := pstep_calls begX A2 c2 A3 c3 w hG h2 h3 begSmall.s1 begSmall.sp begSmall.s2 begSmall.s3 (Nat.le_trans begSmall.sj (by omega))
  rw [begStep] at hc
  rw [show mk "x = select \"q\\n\" a;".toUTF8.data.toList = ⟨#[120, 32, 61, 32, 115, 101, 108, 101, 99, 116, 32, 34, 113, 92, 110, 34, 32, 97, 59]⟩ from by kernel_rfl] at hc
  exact hc
theorem add_far (ad : Addr) (n : Nat) (hn : 0 < n) : ad.add n = ⟨ad.block, ad.off + n, none⟩ := by
  have := at_next ad n hn (m := 0)
  simpa using this
set_option maxHeartbeats 8000000 in
set_option maxRecDepth 100000 in
theorem begun4_calls (w : World) (hG : GOK w) : Calls Tryz.prog 16 #[] w (IsTrue w) := by
  have HG := Lib.hid hG
  clear hG
  have hF := fun W hW => file_calls ⟨begS.toArray⟩ W hW
  rw [show fileT (⟨begS.toArray⟩ : ByteArray).data.toList = _ from begS_file] at hF
  have hX := fun W hW => file_calls ⟨begE.toArray⟩ W hW
  rw [show fileT (⟨begE.toArray⟩ : ByteArray).data.toList = _ from begE_file] at hX
  have hA := fun W => all_calls ⟨#[97, 32, 34, 92, 120, 52, 49, 34, 32, 59]⟩ (by decide) W
  rw [show allR (allF (⟨#[97, 32, 34, 92, 120, 52, 49, 34, 32, 59]⟩ : ByteArray).data.toList) = _ from begW_all] at hA
  go_enter Tryz.func16, Tryz.ntmps16
  go_wp2_with fail
  refine (hA _).mono ?_
  rintro e w1 ⟨v, rfl, hR, hb1⟩
  obtain ⟨A, c, rfl, _, hr1⟩ := Kd.R_reads hR
  have hE1 := blk_new w1 (.cells #[.int .i64 0, .int .i64 0] 27)
  have hb2 := (Below.refl w1.heap.size w1).alloc (Nat.le_refl _) (.cells #[.int .i64 0, .int .i64 0] 27)
  have hr2 := Kd.C_below hr1 hb2
  replace hb2 := below_then hb1 hb1.size hb2
  have HE2 := Lib.hid hE1
  have HR2 := Lib.hid hr2
  have HB2 := Lib.hid hb2
  clear hA hR hb1 hr1 hE1 hr2 hb2
  go_wp2_with fail
  generalize w1.alloc (.cells #[.int .i64 0, .int .i64 0] 27) = w2 at HE2 HR2 HB2 ⊢
  generalize w1.heap.size = E1 at HE2 ⊢
  refine (hF _ (HG.out.below HB2.out)).mono ?_
  rintro e w3 ⟨v, rfl, hR, hb3⟩
  obtain ⟨AR, cR, rfl, _, hr3⟩ := Kd.R_reads hR
  have hE3 := blk_new w3 (.cells #[.int .i64 0, .int .i64 0] 27)
  have hb4 := (Below.refl w3.heap.size w3).alloc (Nat.le_refl _) (.cells #[.int .i64 0, .int .i64 0] 27)
  have HE4a := Lib.hid (blk_alloc (blk_below HE2.out hb3) (.cells #[.int .i64 0, .int .i64 0] 27))
  have HR4a := Lib.hid (Kd.C_below (Kd.C_below HR2.out hb3) hb4)
  have HR4b := Lib.hid (Kd.C_below hr3 hb4)
  have HE4b := Lib.hid hE3
  have HB4 := Lib.hid (below_then (below_then HB2.out HB2.out.size hb3) (below_then HB2.out HB2.out.size hb3).size hb4)
  clear hF hR hb3 hr3 hE3 hb4 HE2 HR2 HB2
  go_wp2_with fail
  generalize w3.alloc (.cells #[.int .i64 0, .int .i64 0] 27) = w4 at HE4a HE4b HR4a HR4b HB4 ⊢
  generalize w3.heap.size = E2 at HE4b ⊢
  refine (hX _ (HG.out.below HB4.out)).mono ?_
  rintro e w5 ⟨v, rfl, hR, hb5⟩
  obtain ⟨AX, cX, rfl, _, _⟩ := Kd.R_reads hR
  have hE5 := blk_new w5 (.cells #[.int .i64 1, .int .i64 5] 27)
  have hb6 := (Below.refl w5.heap.size w5).alloc (Nat.le_refl _) (.cells #[.int .i64 1, .int .i64 5] 27)
  have HE6a := Lib.hid (blk_alloc (blk_below HE4a.out hb5) (.cells #[.int .i64 1, .int .i64 5] 27))
  have HE6b := Lib.hid (blk_alloc (blk_below HE4b.out hb5) (.cells #[.int .i64 1, .int .i64 5] 27))
  have HR6a := Lib.hid (Kd.C_below (Kd.C_below HR4a.out hb5) hb6)
  have HR6b := Lib.hid (Kd.C_below (Kd.C_below HR4b.out hb5) hb6)
  have HE6c := Lib.hid hE5
  have HB6 := Lib.hid (below_then (below_then HB4.out HB4.out.size hb5) (below_then HB4.out HB4.out.size hb5).size hb6)
  clear hX hR hb5 hE5 hb6 HE4a HE4b HR4a HR4b HB4
  obtain ⟨ad, A1, c1, A2, c2, A3, c3, A4, c4, rfl, -, -, -, hA4, m0, m1, m2, m3, m4⟩ := rule_at HR6b.out
  obtain ⟨bd, B2, d2, B3, d3, rfl, -, hB3, n0, n1, n2, n3, n4⟩ := step_at hA4
  have m4' : (w5.alloc (.cells #[.int .i64 1, .int .i64 5] 27)).cell? ⟨ad.block, ad.off + 4, none⟩ = some (.slice (some bd) 1 c4) := m4
  have n3' : (w5.alloc (.cells #[.int .i64 1, .int .i64 5] 27)).cell? ⟨bd.block, bd.off + 3, none⟩ = some (.slice B3 1 d3) := n3
  have HB7 := fun W (hW : Below (w5.alloc (.cells #[.int .i64 1, .int .i64 5] 27)).heap.size (w5.alloc (.cells #[.int .i64 1, .int .i64 5] 27)) W) => Begun1_calls W
  clear m0 m1 m2 m3 m4 n0 n1 n2 n3 n4 hA4 hB3 HB7
  go_wp2_with fail
  generalize w5.alloc (.cells #[.int .i64 1, .int .i64 5] 27) = w6 at HE6a HE6b HE6c HR6a HR6b HB6 m4' n3' ⊢
  generalize w5.heap.size = E3 at HE6c ⊢
  clear m4' n3'
  refine (Begun1_calls _ (HG.out.below HB6.out)).mono ?_
  rintro e w7 ⟨rfl, hb7⟩
  have HE7a := Lib.hid (blk_below HE6a.out hb7)
  have HE7b := Lib.hid (blk_below HE6b.out hb7)
  have HE7c := Lib.hid (blk_below HE6c.out hb7)
  have HR7a := Lib.hid (Kd.C_below HR6a.out hb7)
  have HR7b := Lib.hid (Kd.C_below HR6b.out hb7)
  have HB7 := Lib.hid (below_then HB6.out HB6.out.size hb7)
  clear hb7 HE6a HE6b HE6c HR6a HR6b HB6
  obtain ⟨aw, rfl, p10, _, p12⟩ := at_T34 HR7a.out 1 (by simp) (by simp)
  obtain ⟨aw2, e2, _, p21, _⟩ := at_T34 HR7a.out 2 (by simp) (by simp)
  obtain rfl := Option.some.inj e2
  obtain ⟨aw3, e3, p30, _, _⟩ := at_T34 HR7a.out 3 (by simp) (by simp)
  obtain rfl := Option.some.inj e3
  clear e2 e3
  rw [show (1 : Int).toNat * 3 = 3 from rfl, add_far _ 3 (by decide)] at p10 p12
  rw [show (2 : Int).toNat * 3 = 6 from rfl, add_far _ 6 (by decide)] at p21
  rw [show (3 : Int).toNat * 3 = 9 from rfl, add_far _ 9 (by decide)] at p30
  replace p10 : w7.cell? ⟨aw.block, aw.off + 3, none⟩ = some (.int .i64 2) := p10
  replace p12 : w7.cell? ⟨aw.block, aw.off + 3 + 2, none⟩ = some (.string ⟨#[65]⟩) := p12
  replace p21 : w7.cell? ⟨aw.block, aw.off + 6 + 1, none⟩ = some (.int .i64 9) := p21
  replace p30 : w7.cell? ⟨aw.block, aw.off + 9, none⟩ = some (.int .i64 4) := p30
  have k1 : w7.cell? ⟨E1, 0, none⟩ = some (.int .i64 0) := (blk_cell HE7a.out 0).trans rfl
  go_wp2_with fail
  refine (beg_quote _).mono ?_
  rintro e w8 ⟨rfl, hb8⟩
  have HE8b := Lib.hid (blk_below HE7b.out hb8)
  have HE8c := Lib.hid (blk_below HE7c.out hb8)
  have HR8b := Lib.hid (Kd.C_below HR7b.out hb8)
  have HB8 := Lib.hid (below_then HB7.out HB7.out.size hb8)
  clear hb8 HE7a HE7b HE7c HR7a HR7b HB7 p10 p12 p21 p30 k1
  have hw : ∃ A1 c1 bd c4 B3 d3, w8.cell? ⟨ad.block, ad.off + 1, none⟩ = some (.slice A1 2 c1) ∧ w8.cell? ⟨ad.block, ad.off + 4, none⟩ = some (.slice (some bd) 1 c4) ∧ w8.cell? ⟨bd.block, bd.off + 3, none⟩ = some (.slice (some B3) 1 d3) ∧ w8.cell? B3 = some (.string ⟨#[113, 10]⟩) := by
    obtain ⟨ad', A1, c1, A2, c2, A3, c3, A4, c4, e', -, -, -, hA4, m0, m1, m2, m3, m4⟩ := rule_at HR8b.out
    obtain rfl := Option.some.inj e'
    obtain ⟨bd, B2, d2, B3, d3, rfl, -, hB3, n0, n1, n2, n3, n4⟩ := step_at hA4
    obtain ⟨B, cs, rfl, hcl, hK, hcell⟩ := Kd.C_get hB3 (⟨#[113, 10]⟩ : ByteArray) 0 (by decide) (by decide)
    refine ⟨A1, c1, bd, c4, B, d3, m1, m4, n3, ?_⟩
    have := hcell 0 _ (show cs[0]? = some (.string ⟨#[113, 10]⟩) from by rw [show cs = [.string ⟨#[113, 10]⟩] from hK]; rfl)
    rwa [at_zero] at this
  obtain ⟨A1, c1, bd, c4, B3, d3, m1, m4, n3, n30⟩ := hw
  have k20 : w8.cell? ⟨E2, 0, none⟩ = some (.int .i64 0) := (blk_cell HE8b.out 0).trans rfl
  have k30 : w8.cell? ⟨E3, 0, none⟩ = some (.int .i64 1) := (blk_cell HE8c.out 0).trans rfl
  have k31 : w8.cell? ⟨E3, 1, none⟩ = some (.int .i64 5) := (blk_cell HE8c.out 1).trans rfl
  go_wp2_with fail
  refine (beg_file _ _ _ (HG.out.below HB8.out) HR8b.out).mono ?_
  rintro e w9 ⟨rfl, hb9⟩
  have HR9 := Lib.hid (Kd.C_below HR8b.out hb9)
  have HB9 := Lib.hid (below_then HB8.out HB8.out.size hb9)
  clear hb9 HE8b HE8c HR8b HB8 m1 m4 n3 n30 k20 k30 k31
  go_wp2_with fail
  refine (op_calls _ _).mono ?_
  rintro e w10 ⟨rfl, hw⟩
  rw [begOp]
  have hb10 : Below w9.heap.size w9 w10 := by rw [hw]; exact (Below.refl _ _).alloc (Nat.le_refl _) _
  have HR10 := Lib.hid (Kd.C_below HR9.out hb10)
  have HB10 := Lib.hid (below_then HB9.out HB9.out.size hb10)
  clear hw hb10 HR9 HB9
  go_wp2_with fail
  refine (opName_calls _ _).mono ?_
  rintro e w11 ⟨rfl, hb11⟩
  rw [begName]
  have HR11 := Lib.hid (Kd.C_below HR10.out hb11)
  have HB11 := Lib.hid (below_then HB10.out HB10.out.size hb11)
  clear hb11 HR10 HB10
  go_wp2_with fail
  refine (beg_sorted _ _ _ HR11.out).mono ?_
  rintro e w12 ⟨X, dX, rfl, hX, hb12⟩
  have HR12 := Lib.hid (Kd.C_below HR11.out hb12)
  have HX12 := Lib.hid hX
  have HB12 := Lib.hid (below_then HB11.out HB11.out.size hb12)
  clear hb12 hX HR11 HB11
  go_wp2_with fail
  refine (beg_sorted _ _ _ HR12.out).mono ?_
  rintro e w13 ⟨Y, dY, rfl, hY, hb13⟩
  have HR13 := Lib.hid (Kd.C_below HR12.out hb13)
  have HX13 := Lib.hid (Kd.C_below HX12.out hb13)
  have HY13 := Lib.hid hY
  have HB13 := Lib.hid (below_then HB12.out HB12.out.size hb13)
  clear hb13 hY HR12 HX12 HB12
  go_wp2_with fail
  refine (beg_eq _ _ _ _ _ HX13.out HY13.out).mono ?_
  rintro e w14 ⟨rfl, hb14⟩
  have HR14 := Lib.hid (Kd.C_below HR13.out hb14)
  have HB14 := Lib.hid (below_then HB13.out HB13.out.size hb14)
  clear hb14 HR13 HX13 HY13 HB13
  have hw : ∃ bd c4 B2 d2 B3 d3, w14.cell? ⟨ad.block, ad.off + 4, none⟩ = some (.slice (some bd) 1 c4) ∧ w14.cell? bd = some (.string ⟨#[120]⟩) ∧ w14.cell? ⟨bd.block, bd.off + 1, none⟩ = some (.int .i64 7) ∧ w14.cell? ⟨bd.block, bd.off + 2, none⟩ = some (.slice B2 1 d2) ∧ w14.cell? ⟨bd.block, bd.off + 3, none⟩ = some (.slice B3 1 d3) ∧ w14.cell? ⟨bd.block, bd.off + 4, none⟩ = some (.int .i64 0) ∧ Kd.C Kd.string w14 B2 1 [⟨#[97]⟩] ∧ Kd.C Kd.string w14 B3 1 [⟨#[113, 10]⟩] := by
    obtain ⟨ad', A1, c1, A2, c2, A3, c3, A4, c4, e', -, -, -, hA4, m0, m1, m2, m3, m4⟩ := rule_at HR14.out
    obtain rfl := Option.some.inj e'
    obtain ⟨bd, B2, d2, B3, d3, rfl, hB2, hB3, n0, n1, n2, n3, n4⟩ := step_at hA4
    exact ⟨bd, c4, B2, d2, B3, d3, m4, n0, n1, n2, n3, n4, hB2, hB3⟩
  obtain ⟨bd, c4, B2, d2, B3, d3, m4, n0, n1, n2, n3, n4, hB2, hB3⟩ := hw
  have hS := beg_step B2 d2 B3 d3 w14 (HG.out.below HB14.out) hB2 hB3
  clear hB2 hB3
  go_wp2_with fail
  refine hS.mono ?_
  rintro e w15 ⟨rfl, hb15⟩
  have HB15 := Lib.hid (below_then HB14.out HB14.out.size hb15)
  clear hb15
  go_wp2_with fail
  go_ret
  exact ⟨rfl, HB15.out⟩

end Go.Proofs.YthagibkmfgodgaaGreatDoor.X

namespace Go.Proofs.YthagibkmfgodgaaGreatDoor.X
open Go.RowKit Go.Maps Go.Proofs.YthagibkmfgodgaaGreatDoorW.PrintWords Go.Proofs.YthagibkmfgodgaaGreatDoorW.PrintMore Go.Proofs.YthagibkmfgodgaaGreatDoorW.PrintLast

set_option maxHeartbeats 2000000 in
theorem eqStr_same (A : Option Addr) (c : Nat) (B : Option Addr) (d : Nat) (l : List ByteArray) (w : World) (h1 : Kd.C Kd.string w A l.length l) (h2 : Kd.C Kd.string w B l.length l) :
    Calls Tryz.prog 53 #[.slice A l.length c, .slice B l.length d] w fun e w' => e = .returned (.bool true) ∧ Below w.heap.size w w' := by
  have hm := h1.2.1
  have H1 := Lib.hid h1
  have H2 := Lib.hid h2
  clear h1 h2
  go_enter Tryz.func53, Tryz.ntmps53
  go_wp2_with fail
  go_loopg [5] l.length (fun gg s13 wr => ∃ kk : Nat, kk ≤ l.length ∧ l.length - kk ≤ gg ∧ s13 = .int .i64 kk ∧ Aside0 (Below w.heap.size w wr))
  case atStart => exact ⟨0, by omega, by omega, rfl, ⟨Below.refl _ _⟩⟩
  case round =>
    obtain ⟨kk, hkk, hgk, rfl, HB⟩ := hrel
    by_cases hlt : kk < l.length
    · have hltz : (kk : Int) < (l.length : Int) := by omega
      rcases row_open (Kd.C_below H1.out HB.out) with h0 | ⟨b, o, rfl, _, hcell⟩
      · rw [h0] at hlt; simp at hlt
      rcases row_open (Kd.C_below H2.out HB.out) with h0 | ⟨b', o', rfl, _, hcell'⟩
      · rw [h0] at hlt; simp at hlt
      have hx : wr.cell? ⟨b, o + kk, none⟩ = some (.string (l.getD kk ByteArray.empty)) := hcell kk hlt
      have hx' : wr.cell? ⟨b', o' + kk, none⟩ = some (.string (l.getD kk ByteArray.empty)) := hcell' kk hlt
      generalize l.getD kk ByteArray.empty = y at hx hx'
      have HBd := Lib.hid (below_drew HB.out)
      clear hcell hcell'
      go_wp2_with fail
      go_region
      all_goals
        go_wp2
        go_roundg (l.length - (kk + 1))
        case measure => omega
        case rel => exact ⟨kk + 1, by omega, by omega, by go_num, ⟨HBd.out⟩⟩
    · have hltz : ¬ (kk : Int) < (l.length : Int) := by omega
      go_wp2
      go_ret
      exact ⟨rfl, HB.out⟩

set_option maxHeartbeats 4000000 in
set_option maxRecDepth 100000 in
theorem eqStep_same (x : SStep) (A2 : Option Addr) (c2 : Nat) (A3 : Option Addr) (c3 : Nat) (B2 : Option Addr) (d2 : Nat) (B3 : Option Addr) (d3 : Nat) (w : World)
    (h2 : Kd.C Kd.string w A2 x.f2.length x.f2) (h3 : Kd.C Kd.string w A3 x.f3.length x.f3) (g2 : Kd.C Kd.string w B2 x.f2.length x.f2) (g3 : Kd.C Kd.string w B3 x.f3.length x.f3) :
    Calls Tryz.prog 54 #[.agg #[.string x.f0, .int .i64 x.f1, .slice A2 x.f2.length c2, .slice A3 x.f3.length c3, .int .i64 x.f4], .agg #[.string x.f0, .int .i64 x.f1, .slice B2 x.f2.length d2, .slice B3 x.f3.length d3, .int .i64 x.f4]] w
      fun e w' => e = .returned (.bool true) ∧ Below w.heap.size w w' := by
  have hb1 := (Below.refl w.heap.size w).alloc (Nat.le_refl _) (.cells #[.string x.f0, .int .i64 x.f1, .slice A2 x.f2.length c2, .slice A3 x.f3.length c3, .int .i64 x.f4] 62)
  have hb2 := hb1.alloc hb1.size (.cells #[.string x.f0, .int .i64 x.f1, .slice B2 x.f2.length d2, .slice B3 x.f3.length d3, .int .i64 x.f4] 62)
  have hk := blk_alloc (blk_new w (.cells #[.string x.f0, .int .i64 x.f1, .slice A2 x.f2.length c2, .slice A3 x.f3.length c3, .int .i64 x.f4] 62)) (.cells #[.string x.f0, .int .i64 x.f1, .slice B2 x.f2.length d2, .slice B3 x.f3.length d3, .int .i64 x.f4] 62)
  have hz := blk_new (w.alloc (.cells #[.string x.f0, .int .i64 x.f1, .slice A2 x.f2.length c2, .slice A3 x.f3.length c3, .int .i64 x.f4] 62)) (.cells #[.string x.f0, .int .i64 x.f1, .slice B2 x.f2.length d2, .slice B3 x.f3.length d3, .int .i64 x.f4] 62)
  rw [World.size_alloc] at hz
  have HB2 := Lib.hid hb2
  have HK2 := Lib.hid hk
  have HZ2 := Lib.hid hz
  have hE2 : Hid (∀ W, Below w.heap.size w W → Calls Tryz.prog 53 #[.slice A2 x.f2.length c2, .slice B2 x.f2.length d2] W fun e w' => e = .returned (.bool true) ∧ Below W.heap.size W w') := fun W hW => eqStr_same A2 c2 B2 d2 x.f2 W (Kd.C_below h2 hW) (Kd.C_below g2 hW)
  have hE3 : Hid (∀ W, Below w.heap.size w W → Calls Tryz.prog 53 #[.slice A3 x.f3.length c3, .slice B3 x.f3.length d3] W fun e w' => e = .returned (.bool true) ∧ Below W.heap.size W w') := fun W hW => eqStr_same A3 c3 B3 d3 x.f3 W (Kd.C_below h3 hW) (Kd.C_below g3 hW)
  clear hb1 hb2 hk hz h2 h3 g2 g3
  go_enter Tryz.func54, Tryz.ntmps54
  go_wp2_with fail
  generalize (w.alloc (.cells #[.string x.f0, .int .i64 x.f1, .slice A2 x.f2.length c2, .slice A3 x.f3.length c3, .int .i64 x.f4] 62)).alloc (.cells #[.string x.f0, .int .i64 x.f1, .slice B2 x.f2.length d2, .slice B3 x.f3.length d3, .int .i64 x.f4] 62) = w2 at HB2 HK2 HZ2 ⊢
  refine (hE2.out _ HB2.out).mono ?_
  rintro e w3 ⟨rfl, hb3⟩
  have HB3 := Lib.hid (below_then HB2.out HB2.out.size hb3)
  have k3 : w3.cell? ⟨w.heap.size, 3, none⟩ = some (.slice A3 x.f3.length c3) := (blk_cell (blk_below HK2.out hb3) 3).trans rfl
  have j3 : w3.cell? ⟨w.heap.size + 1, 3, none⟩ = some (.slice B3 x.f3.length d3) := (blk_cell (blk_below HZ2.out hb3) 3).trans rfl
  clear hb3
  go_wp2_with fail
  refine (hE3.out _ HB3.out).mono ?_
  rintro e w4 ⟨rfl, hb4⟩
  have HB4 := Lib.hid (below_then HB3.out HB3.out.size hb4)
  clear hb4
  go_wp2_with fail
  go_ret
  exact ⟨rfl, HB4.out⟩


set_option maxHeartbeats 8000000 in
set_option maxRecDepth 100000 in
theorem eq_same (A : Option Addr) (c : Nat) (B : Option Addr) (d : Nat) (l : List SRule) (w : World) (h1 : Kd.C k49 w A l.length l) (h2 : Kd.C k49 w B l.length l) :
    Calls Tryz.prog 29 #[.slice A l.length c, .slice B l.length d] w (IsTrue w) := by
  have hlm : l.length ≤ 9223372036854775807 := h1.2.1
  have H1 := Lib.hid h1
  have H2 := Lib.hid h2
  clear h1 h2
  go_enter Tryz.func29, Tryz.ntmps29
  go_wp2_with fail
  go_loopg [5, 6, 7, 8] l.length (fun gg s5 _ _ _ wr => ∃ kk : Nat, kk ≤ l.length ∧ l.length - kk ≤ gg ∧ s5 = .int .i64 kk ∧ Aside0 (Below w.heap.size w wr))
  case atStart => exact ⟨0, Nat.zero_le _, by omega, rfl, ⟨Below.refl _ _⟩⟩
  case round =>
    obtain ⟨kk, hkk, hgk, rfl, HW⟩ := hrel
    obtain ⟨wo, hwo⟩ : ∃ v, v = wr := ⟨_, rfl⟩
    subst hwo
    by_cases hlt : kk < l.length
    · have hltz : (kk : Int) < (l.length : Int) := by omega
      obtain ⟨ad, A1, a1, A2, a2, A3, a3, A4, a4, e1, p0, p1, p2, p3, p4, q1, q2, q3, q4⟩ := at_T49 (Kd.C_below H1.out HW.out) (kk : Int) (by omega) hltz
      obtain ⟨bd, B1, b1, B2, b2, B3, b3, B4, b4, e2, n0, n1, n2, n3, n4, m1, m2, m3, m4⟩ := at_T49 (Kd.C_below H2.out HW.out) (kk : Int) (by omega) hltz
      subst e1 e2
      rw [Int.toNat_natCast] at p0 p1 p2 p3 p4 n0 n1 n2 n3 n4
      generalize rd_T49 l (kk : Int) = x at p0 p1 p2 p3 p4 q1 q2 q3 q4 n0 n1 n2 n3 n4 m1 m2 m3 m4
      have r0 := alloc_keep p0
      have r1 := alloc_keep p1
      have r2 := alloc_keep p2
      have r3 := alloc_keep p3
      have r4 := alloc_keep p4
      have s0 := alloc_keep n0
      have s1 := alloc_keep n1
      have s2 := alloc_keep n2
      have s3 := alloc_keep n3
      have s4 := alloc_keep n4
      have rr0 := fun ob => alloc_keep (r0 ob)
      have rr1 := fun ob => alloc_keep (r1 ob)
      have rr2 := fun ob => alloc_keep (r2 ob)
      have rr3 := fun ob => alloc_keep (r3 ob)
      have rr4 := fun ob => alloc_keep (r4 ob)
      have ss0 := fun ob => alloc_keep (s0 ob)
      have ss1 := fun ob => alloc_keep (s1 ob)
      have ss2 := fun ob => alloc_keep (s2 ob)
      have ss3 := fun ob => alloc_keep (s3 ob)
      have ss4 := fun ob => alloc_keep (s4 ob)
      have HE1 : Hid (∀ W', Below wo.heap.size wo W' → Calls Tryz.prog 53 #[.slice A1 x.f1.length a1, .slice B1 x.f1.length b1] W' (IsTrue W')) := fun W' hW => eqStr_same A1 a1 B1 b1 x.f1 W' (Kd.C_below q2 hW) (Kd.C_below m2 hW)
      have HE2 : Hid (∀ W', Below wo.heap.size wo W' → Calls Tryz.prog 53 #[.slice A2 x.f2.length a2, .slice B2 x.f2.length b2] W' (IsTrue W')) := fun W' hW => eqStr_same A2 a2 B2 b2 x.f2 W' (Kd.C_below q4.1 hW) (Kd.C_below m4.1 hW)
      have HE3 : Hid (∀ W', Below wo.heap.size wo W' → Calls Tryz.prog 53 #[.slice A3 x.f3.length a3, .slice B3 x.f3.length b3] W' (IsTrue W')) := fun W' hW => eqStr_same A3 a3 B3 b3 x.f3 W' (Kd.C_below q4.2.2.1 hW) (Kd.C_below m4.2.2.1 hW)
      have HA4 := Lib.hid q4.2.2.2.2
      have HB4 := Lib.hid m4.2.2.2.2
      have hl4 : x.f4.length ≤ 9223372036854775807 := HA4.out.2.1
      clear q1 q2 q3 q4 m1 m2 m3 m4
      go_wp2_with fail
      go_region
      clear p0 p1 p2 p3 p4 n0 n1 n2 n3 n4 r0 r1 r2 r3 r4 s0 s1 s2 s3 s4 rr0 rr1 rr2 rr3 rr4 ss0 ss1 ss2 ss3 ss4
      have hB := below_drew (((Below.refl wo.heap.size wo).alloc (Nat.le_refl _) (.cells #[.string x.f0, .slice A1 x.f1.length a1, .slice A2 x.f2.length a2, .slice A3 x.f3.length a3, .slice A4 x.f4.length a4] 49)).alloc (by rw [World.size_alloc]; omega) (.cells #[.string x.f0, .slice B1 x.f1.length b1, .slice B2 x.f2.length b2, .slice B3 x.f3.length b3, .slice B4 x.f4.length b4] 49))
      have hX := blk_drew (blk_alloc (blk_new wo (.cells #[.string x.f0, .slice A1 x.f1.length a1, .slice A2 x.f2.length a2, .slice A3 x.f3.length a3, .slice A4 x.f4.length a4] 49)) (.cells #[.string x.f0, .slice B1 x.f1.length b1, .slice B2 x.f2.length b2, .slice B3 x.f3.length b3, .slice B4 x.f4.length b4] 49))
      have hY := blk_drew (blk_new (wo.alloc (.cells #[.string x.f0, .slice A1 x.f1.length a1, .slice A2 x.f2.length a2, .slice A3 x.f3.length a3, .slice A4 x.f4.length a4] 49)) (.cells #[.string x.f0, .slice B1 x.f1.length b1, .slice B2 x.f2.length b2, .slice B3 x.f3.length b3, .slice B4 x.f4.length b4] 49))
      rw [World.size_alloc] at hY
      generalize ((wo.alloc (.cells #[.string x.f0, .slice A1 x.f1.length a1, .slice A2 x.f2.length a2, .slice A3 x.f3.length a3, .slice A4 x.f4.length a4] 49)).alloc (.cells #[.string x.f0, .slice B1 x.f1.length b1, .slice B2 x.f2.length b2, .slice B3 x.f3.length b3, .slice B4 x.f4.length b4] 49)).drew = W at hB hX hY ⊢
      generalize wo.heap.size + 1 = Q at hY ⊢
      have HB := Lib.hid (below_then HW.out HW.out.size hB)
      have HBr := Lib.hid hB
      clear hB
      generalize wo.heap.size = P at hX ⊢
      rotate_left
      clear p0 p1 p2 p3 p4 n0 n1 n2 n3 n4 r0 r1 r2 r3 r4 s0 s1 s2 s3 s4 rr0 rr1 rr2 rr3 rr4 ss0 ss1 ss2 ss3 ss4
      have hB := below_drew (((Below.refl wo.heap.size wo).alloc (Nat.le_refl _) (.cells #[.string x.f0, .slice B1 x.f1.length b1, .slice B2 x.f2.length b2, .slice B3 x.f3.length b3, .slice B4 x.f4.length b4] 49)).alloc (by rw [World.size_alloc]; omega) (.cells #[.string x.f0, .slice A1 x.f1.length a1, .slice A2 x.f2.length a2, .slice A3 x.f3.length a3, .slice A4 x.f4.length a4] 49))
      have hY := blk_drew (blk_alloc (blk_new wo (.cells #[.string x.f0, .slice B1 x.f1.length b1, .slice B2 x.f2.length b2, .slice B3 x.f3.length b3, .slice B4 x.f4.length b4] 49)) (.cells #[.string x.f0, .slice A1 x.f1.length a1, .slice A2 x.f2.length a2, .slice A3 x.f3.length a3, .slice A4 x.f4.length a4] 49))
      have hX := blk_drew (blk_new (wo.alloc (.cells #[.string x.f0, .slice B1 x.f1.length b1, .slice B2 x.f2.length b2, .slice B3 x.f3.length b3, .slice B4 x.f4.length b4] 49)) (.cells #[.string x.f0, .slice A1 x.f1.length a1, .slice A2 x.f2.length a2, .slice A3 x.f3.length a3, .slice A4 x.f4.length a4] 49))
      rw [World.size_alloc] at hX
      generalize ((wo.alloc (.cells #[.string x.f0, .slice B1 x.f1.length b1, .slice B2 x.f2.length b2, .slice B3 x.f3.length b3, .slice B4 x.f4.length b4] 49)).alloc (.cells #[.string x.f0, .slice A1 x.f1.length a1, .slice A2 x.f2.length a2, .slice A3 x.f3.length a3, .slice A4 x.f4.length a4] 49)).drew = W at hB hX hY ⊢
      generalize wo.heap.size + 1 = P at hX ⊢
      have HB := Lib.hid (below_then HW.out HW.out.size hB)
      have HBr := Lib.hid hB
      clear hB
      generalize wo.heap.size = Q at hY ⊢
      rotate_left
      all_goals
        have HX := Lib.hid hX
        have HY := Lib.hid hY
        have x0 : W.cell? ⟨P, 0, none⟩ = some (.string x.f0) := (blk_cell hX 0).trans rfl
        have x1 : W.cell? ⟨P, 1, none⟩ = some (.slice A1 x.f1.length a1) := (blk_cell hX 1).trans rfl
        have y0 : W.cell? ⟨Q, 0, none⟩ = some (.string x.f0) := (blk_cell hY 0).trans rfl
        have y1 : W.cell? ⟨Q, 1, none⟩ = some (.slice B1 x.f1.length b1) := (blk_cell hY 1).trans rfl
        clear hX hY
        go_wp2_with fail
        refine (HE1.out _ HBr.out).mono ?_
        rintro e W1 ⟨rfl, hb1⟩
        have HB1 := Lib.hid (HBr.out.trans (hb1.mono HBr.out.size))
        have HX1 := Lib.hid (blk_below HX.out hb1)
        have HY1 := Lib.hid (blk_below HY.out hb1)
        clear x0 x1 y0 y1 hb1 HX HY HBr HB
        have x2 : W1.cell? ⟨P, 2, none⟩ = some (.slice A2 x.f2.length a2) := (blk_cell HX1.out 2).trans rfl
        have y2 : W1.cell? ⟨Q, 2, none⟩ = some (.slice B2 x.f2.length b2) := (blk_cell HY1.out 2).trans rfl
        go_wp2_with fail
        refine (HE2.out _ HB1.out).mono ?_
        rintro e W2 ⟨rfl, hb2⟩
        have HB2 := Lib.hid (HB1.out.trans (hb2.mono HB1.out.size))
        have HX2 := Lib.hid (blk_below HX1.out hb2)
        have HY2 := Lib.hid (blk_below HY1.out hb2)
        clear x2 y2 hb2 HX1 HY1 HB1
        have x3 : W2.cell? ⟨P, 3, none⟩ = some (.slice A3 x.f3.length a3) := (blk_cell HX2.out 3).trans rfl
        have y3 : W2.cell? ⟨Q, 3, none⟩ = some (.slice B3 x.f3.length b3) := (blk_cell HY2.out 3).trans rfl
        go_wp2_with fail
        refine (HE3.out _ HB2.out).mono ?_
        rintro e W3 ⟨rfl, hb3⟩
        have HB3 := Lib.hid (HB2.out.trans (hb3.mono HB2.out.size))
        have HX3 := Lib.hid (blk_below HX2.out hb3)
        have HY3 := Lib.hid (blk_below HY2.out hb3)
        clear x3 y3 hb3 HX2 HY2 HB2
        have x4 : W3.cell? ⟨P, 4, none⟩ = some (.slice A4 x.f4.length a4) := (blk_cell HX3.out 4).trans rfl
        have y4 : W3.cell? ⟨Q, 4, none⟩ = some (.slice B4 x.f4.length b4) := (blk_cell HY3.out 4).trans rfl
        go_wp2_with fail
        clear x4 y4
        go_loopg [8] x.f4.length (fun gj s8 wr => ∃ jj : Nat, jj ≤ x.f4.length ∧ x.f4.length - jj ≤ gj ∧ s8 = .int .i64 jj ∧ Aside0 (Below wo.heap.size wo wr) ∧ Aside0 (Below W3.heap.size W3 wr))
        case atStart => exact ⟨0, Nat.zero_le _, by omega, rfl, ⟨HB3.out⟩, ⟨Below.refl _ _⟩⟩
        case round =>
          obtain ⟨jj, hjj, hgj, rfl, HI, HJ⟩ := hrel
          have x4 : wr.cell? ⟨P, 4, none⟩ = some (.slice A4 x.f4.length a4) := (blk_cell (blk_below HX3.out HJ.out) 4).trans rfl
          have y4 : wr.cell? ⟨Q, 4, none⟩ = some (.slice B4 x.f4.length b4) := (blk_cell (blk_below HY3.out HJ.out) 4).trans rfl
          by_cases hlj : jj < x.f4.length
          · have hljz : (jj : Int) < (x.f4.length : Int) := by omega
            obtain ⟨ed, C2, c2, C3, c3, e1, p0, p1, p2, p3, p4, q1, q2, q3, q4⟩ := at_T62 (Kd.C_below HA4.out HI.out) (jj : Int) (by omega) hljz
            obtain ⟨fd, D2, d2, D3, d3, e2, n0, n1, n2, n3, n4, m1, m2, m3, m4⟩ := at_T62 (Kd.C_below HB4.out HI.out) (jj : Int) (by omega) hljz
            subst e1 e2
            rw [Int.toNat_natCast] at p0 p1 p2 p3 p4 n0 n1 n2 n3 n4
            have hS := fun W' (hW : Below wr.heap.size wr W') => eqStep_same (rd_T62 x.f4 (jj : Int)) C2 c2 C3 c3 D2 d2 D3 d3 W' (Kd.C_below q2 hW) (Kd.C_below q4 hW) (Kd.C_below m2 hW) (Kd.C_below m4 hW)
            generalize rd_T62 x.f4 (jj : Int) = z at p0 p1 p2 p3 p4 n0 n1 n2 n3 n4 hS
            have HS := Lib.hid hS
            clear q1 q2 q3 q4 m1 m2 m3 m4 hS
            go_wp2_with fail
            go_region_law (go_simp; go_at_call 54; refine (HS.out _ (below_drew (Below.refl _ _))).mono ?_; rintro e w5 ⟨rfl, hb5⟩; have HI5 := Lib.hid (HI.out.trans ((below_drew (Below.refl _ _)).trans hb5 |>.mono HI.out.size)); have HJ5 := Lib.hid (HJ.out.trans ((below_drew (Below.refl _ _)).trans hb5 |>.mono HJ.out.size)); clear hb5)
            all_goals
              go_wp2_with fail
              go_roundg (x.f4.length - (jj + 1))
              case measure => omega
              case rel => exact ⟨jj + 1, by omega, by omega, by go_num, ⟨HI5.out⟩, ⟨HJ5.out⟩⟩
          · have hljz : ¬ (jj : Int) < (x.f4.length : Int) := by omega
            go_wp2_with fail
            go_roundg (l.length - (kk + 1))
            case measure => omega
            case rel => exact ⟨kk + 1, by omega, by omega, by go_num, ⟨HW.out.trans (HI.out.mono HW.out.size)⟩⟩
    · have hltz : ¬ (kk : Int) < (l.length : Int) := by omega
      go_wp2
      go_ret
      exact ⟨rfl, HW.out⟩

end Go.Proofs.YthagibkmfgodgaaGreatDoor.X

namespace Go.Proofs.YthagibkmfgodgaaGreatDoor.X
open Go.RowKit Go.Maps Go.Proofs.YthagibkmfgodgaaGreatDoorW.PrintWords Go.Proofs.YthagibkmfgodgaaGreatDoorW.PrintMore Go.Proofs.YthagibkmfgodgaaGreatDoor.Pb

theorem short_f (s : ByteArray) (n : Nat) : shipwrightlaw1_Short.f s (n : Int) = some (mk (s.data.toList.take n)) := by
  unfold shipwrightlaw1_Short.f mn
  have hz := Lib.size_eq s
  have key : ∀ m : Nat, m ≤ s.size → s.data.toList.take m = s.data.toList.take n → (s.extract 0 ((m : Int)).toNat) = mk (s.data.toList.take n) := by
    intro m _ hm
    apply data_inj
    rw [mk_data, ← hm]
    simp [ByteArray.data_extract]
  rcases Nat.lt_or_ge n s.size with h | h
  · rw [if_pos (show (n : Int) < (s.size : Int) by omega), if_pos (show (0 : Int) ≤ (n : Int) by omega), if_pos (show (n : Int) ≤ (s.size : Int) by omega), key n (by omega) rfl]
  · rw [if_neg (show ¬ (n : Int) < (s.size : Int) by omega), if_pos (show (0 : Int) ≤ (s.size : Int) by omega), if_pos (Int.le_refl _), key s.size (Nat.le_refl _) (by rw [List.take_of_length_le (by omega), List.take_of_length_le (by omega)])]

end Go.Proofs.YthagibkmfgodgaaGreatDoor.X

namespace Go.Proofs.YthagibkmfgodgaaGreatDoor.X
open Go.RowKit Go.Maps Go.Proofs.YthagibkmfgodgaaGreatDoorW.PrintWords Go.Proofs.YthagibkmfgodgaaGreatDoorW.PrintMore Go.Proofs.YthagibkmfgodgaaGreatDoorW.PrintLast Go.Proofs.YthagibkmfgodgaaGreatDoor.Pb

set_option maxHeartbeats 4000000 in
theorem reads_calls (t : ByteArray) (w : World) (hG : GOK w) :
    Calls Tryz.prog 23 #[.string t] w (IsTrue w) := by
  have hA := fun W hW => file_calls t W hW
  have hB := fun W hW => rfile_calls t W hW
  generalize fileT t.data.toList = T at hA hB
  have HG := Lib.hid hG
  clear hG
  go_enter Tryz.func23, Tryz.ntmps23
  go_wp2_with fail
  refine (hA _ HG.out).mono ?_
  rintro e w3 ⟨v, rfl, hR, hb3⟩
  obtain ⟨A, c, rfl, hc, hr3⟩ := Kd.R_reads hR
  have hb4 := (Below.refl w3.heap.size w3).alloc (Nat.le_refl _) (.cells #[.int .i64 T.2.1, .int .i64 T.2.2] 27)
  have HE4 := Lib.hid (blk_new w3 (.cells #[.int .i64 T.2.1, .int .i64 T.2.2] 27))
  have HR4 := Lib.hid (Kd.C_below hr3 hb4)
  have HB4 := Lib.hid (below_then hb3 hb3.size hb4)
  clear hA hR hb3 hr3 hb4 hc
  go_wp2_with fail
  generalize w3.alloc (.cells #[.int .i64 T.2.1, .int .i64 T.2.2] 27) = w4 at HE4 HR4 HB4 ⊢
  generalize w3.heap.size = E1 at HE4 ⊢
  refine (hB _ (HG.out.below HB4.out)).mono ?_
  rintro e w5 ⟨v, rfl, hR, hb5⟩
  obtain ⟨B, d, rfl, hd, hr5⟩ := Kd.R_reads hR
  have hb6 := (Below.refl w5.heap.size w5).alloc (Nat.le_refl _) (.cells #[.int .i64 T.2.1, .int .i64 T.2.2] 27)
  have HE6 := Lib.hid (blk_new w5 (.cells #[.int .i64 T.2.1, .int .i64 T.2.2] 27))
  have HE5 := Lib.hid (blk_below (blk_below HE4.out hb5) hb6)
  have HR6 := Lib.hid (Kd.C_below hr5 hb6)
  have HR5 := Lib.hid (Kd.C_below (Kd.C_below HR4.out hb5) hb6)
  have HB6 := Lib.hid (below_then (below_then HB4.out HB4.out.size hb5) (below_then HB4.out HB4.out.size hb5).size hb6)
  clear hB hR hb5 hr5 hb6 hd HB4 HR4 HE4
  go_wp2_with fail
  generalize w5.alloc (.cells #[.int .i64 T.2.1, .int .i64 T.2.2] 27) = w6 at HE6 HE5 HR6 HR5 HB6 ⊢
  generalize w5.heap.size = E2 at HE6 ⊢
  refine (eq_same A c B d T.1 _ HR5.out HR6.out).mono ?_
  rintro e w7 ⟨rfl, hb7⟩
  have h1 := blk_below HE5.out hb7
  have h2 := blk_below HE6.out hb7
  have k10 : w7.cell? ⟨E1, 0, none⟩ = some (.int .i64 T.2.1) := (blk_cell h1 0).trans rfl
  have k11 : w7.cell? ⟨E1, 1, none⟩ = some (.int .i64 T.2.2) := (blk_cell h1 1).trans rfl
  have k20 : w7.cell? ⟨E2, 0, none⟩ = some (.int .i64 T.2.1) := (blk_cell h2 0).trans rfl
  have k21 : w7.cell? ⟨E2, 1, none⟩ = some (.int .i64 T.2.2) := (blk_cell h2 1).trans rfl
  have HB7 := Lib.hid (below_then HB6.out HB6.out.size hb7)
  clear h1 h2 hb7 HE5 HE6 HR5 HR6 HB6
  go_wp2_with fail
  go_ret
  exact ⟨rfl, HB7.out⟩

end Go.Proofs.YthagibkmfgodgaaGreatDoor.X

namespace Go.Proofs.YthagibkmfgodgaaGreatDoor.X
open Go.RowKit Go.Maps Go.Proofs.YthagibkmfgodgaaGreatDoorW.PrintWords Go.Proofs.YthagibkmfgodgaaGreatDoorW.PrintMore Go.Proofs.YthagibkmfgodgaaGreatDoorW.PrintLast Go.Proofs.YthagibkmfgodgaaGreatDoor.Pb

set_option maxHeartbeats 4000000 in
theorem parseAll_walk (s : ByteArray) (w : World) (hG : GOK w) :
    Calls Tryz.prog 5 #[.string s] w (IsTrue w) := by
  have HG := Lib.hid hG
  clear hG
  obtain ⟨t, ht⟩ : ∃ t, t = mk (s.data.toList.take 400) := ⟨_, rfl⟩
  have hSh := fun W hW => shipwrightlaw1_Short.calls s 400 t W hW (by rw [ht]; exact short_f s 400)
  clear ht
  go_enter Tryz.func5, Tryz.ntmps5
  go_wp2_with fail
  refine (begun4_calls _ HG.out).mono ?_
  rintro e w1 ⟨rfl, hb1⟩
  have HB1 := Lib.hid hb1
  clear hb1
  go_wp2_with fail
  refine (hSh _ (HG.out.below HB1.out)).mono ?_
  rintro e w2 ⟨rfl, hb2⟩
  have HB2 := Lib.hid (below_then HB1.out HB1.out.size hb2)
  clear hb2 HB1 hSh
  go_wp2_with fail
  refine (reads_calls t _ (HG.out.below HB2.out)).mono ?_
  rintro e w3 ⟨rfl, hb3⟩
  have HB3 := Lib.hid (below_then HB2.out HB2.out.size hb3)
  clear hb3
  go_wp2_with fail
  go_ret
  exact ⟨rfl, HB3.out⟩

def shipwrightlaw4_ParseAll.f (_ : ByteArray) : Option Bool := some true
theorem shipwrightlaw4_ParseAll.calls (s : ByteArray) (r : Bool) (w : World) (hG : GOK w) (h : shipwrightlaw4_ParseAll.f s = some r) :
    Calls Tryz.prog 5 #[.string s] w fun e w' => e = .returned (.bool r) ∧ Below w.heap.size w w' := by
  obtain rfl := Option.some.inj h
  exact parseAll_walk s w hG
theorem pure_ParseAll (s : ByteArray) {p : Prop} (_ : p) : shipwrightlaw4_ParseAll.f s = some true := rfl

end Go.Proofs.YthagibkmfgodgaaGreatDoor.X
