/-
  begun of law4 answers true: every contract at its closed values.
  The reference's Eq, walked by hand, at equal rules.
  A text cut short, plainly.
  reads, walked by hand: a text as the document says; ParseAll.
  The reference's Copy, walked by hand: a rule of its own.
  Rules of the draws, cut: Rule, walked by hand.
  Arguments that are rows: what a row's reading gives the walks (Kd.C), and its bulk.
-/
import Derived.BigRegion
import Derived.BigQuiet
import Derived.Deep.RegionHeld3
import Derived.Test.YthagibkmfgodgaaGreatDoorRows
import Derived.Deep.Slices
import Derived.ChangeSame
import Derived.SizedLaws
import Derived.Test.YthagibkmfgodgaaGreatDoorY11
import Derived.Test.YthagibkmfgodgaaGreatDoorY10
import Derived.Test.YthagibkmfgodgaaGreatDoorY1
import Derived.Test.YthagibkmfgodgaaGreatDoorY0
namespace Go.Proofs.YthagibkmfgodgaaGreatDoor.X
open Go.RowKit Go.Maps Go.Proofs.YthagibkmfgodgaaGreatDoorW.PrintWords Go.Proofs.YthagibkmfgodgaaGreatDoorW.PrintMore Go.Proofs.YthagibkmfgodgaaGreatDoorW.PrintLast

set_option maxHeartbeats 2000000 in
theorem equalSame_calls (A : Option Addr) (c : Nat) (B : Option Addr) (d : Nat) (l : List ByteArray) (w : World) (h1 : Kd.C Kd.string w A l.length l) (h2 : Kd.C Kd.string w B l.length l) :
 Calls Tryz.prog 89 #[.slice A l.length c, .slice B l.length d] w fun e w' => e = .returned (.bool true) ∧ Below w.heap.size w w' := by
 have hm := h1.2.1
 have H1 := Lib.hid h1
 have H2 := Lib.hid h2
 clear h1 h2
 go_enter Tryz.func89, Tryz.ntmps89
 go_wp2_with fail
 go_loopg [5, 13] l.length (fun gg _ s13 wr => ∃ kk : Nat, kk ≤ l.length ∧ l.length - kk ≤ gg ∧ s13 = .int .i64 kk ∧ Aside0 (Below w.heap.size w wr))
 case atStart => exact ⟨0, by omega, by omega, rfl, ⟨Below.refl _ _⟩⟩
 case round =>
  obtain ⟨kk, hkk, hgk, rfl, HB⟩ := hrel
  by_cases hlt : kk < l.length
  · have hltz : (kk : Int) < (l.length : Int) := by omega
    rcases row_open (Kd.C_below H1.out HB.out) with h0 | ⟨b, o, rfl, _, hcell⟩
    · rw [h0] at hlt; simp at hlt
    rcases row_open (Kd.C_below H2.out HB.out) with h0 | ⟨b', o', rfl, _, hcell'⟩
    · rw [h0] at hlt; simp at hlt
    have hx : wr.cell? ⟨b, o + kk, none⟩ = some (.string (l.getD kk ByteArray.empty)) := hcell kk hlt
    have hx' : wr.cell? ⟨b', o' + kk, none⟩ = some (.string (l.getD kk ByteArray.empty)) := hcell' kk hlt
    generalize l.getD kk ByteArray.empty = y at hx hx'
    have HBd := Lib.hid (below_drew HB.out)
    clear hcell hcell'
    go_wp2_with fail
    go_region
    all_goals
     go_wp2
     go_roundg (l.length - (kk + 1))
     case measure => omega
     case rel => exact ⟨kk + 1, by omega, by omega, by go_num, ⟨HBd.out⟩⟩
  · have hltz : ¬ (kk : Int) < (l.length : Int) := by omega
    go_wp2
    go_ret
    exact ⟨rfl, HB.out⟩

set_option maxHeartbeats 4000000 in
set_option maxRecDepth 100000 in
theorem stepsSame_calls (x : SStep) (A2 : Option Addr) (c2 : Nat) (A3 : Option Addr) (c3 : Nat) (B2 : Option Addr) (d2 : Nat) (B3 : Option Addr) (d3 : Nat) (w : World)
 (h2 : Kd.C Kd.string w A2 x.f2.length x.f2) (h3 : Kd.C Kd.string w A3 x.f3.length x.f3) (g2 : Kd.C Kd.string w B2 x.f2.length x.f2) (g3 : Kd.C Kd.string w B3 x.f3.length x.f3) :
 Calls Tryz.prog 91 #[.agg #[.string x.f0, .int .i64 x.f1, .slice A2 x.f2.length c2, .slice A3 x.f3.length c3, .int .i64 x.f4], .agg #[.string x.f0, .int .i64 x.f1, .slice B2 x.f2.length d2, .slice B3 x.f3.length d3, .int .i64 x.f4]] w
  fun e w' => e = .returned (.bool true) ∧ Below w.heap.size w w' := by
 have hb1 := (Below.refl w.heap.size w).alloc (Nat.le_refl _) (.cells #[.string x.f0, .int .i64 x.f1, .slice A2 x.f2.length c2, .slice A3 x.f3.length c3, .int .i64 x.f4] 62)
 have hb2 := hb1.alloc hb1.size (.cells #[.string x.f0, .int .i64 x.f1, .slice B2 x.f2.length d2, .slice B3 x.f3.length d3, .int .i64 x.f4] 62)
 have hk := blk_alloc (blk_new w (.cells #[.string x.f0, .int .i64 x.f1, .slice A2 x.f2.length c2, .slice A3 x.f3.length c3, .int .i64 x.f4] 62)) (.cells #[.string x.f0, .int .i64 x.f1, .slice B2 x.f2.length d2, .slice B3 x.f3.length d3, .int .i64 x.f4] 62)
 have hz := blk_new (w.alloc (.cells #[.string x.f0, .int .i64 x.f1, .slice A2 x.f2.length c2, .slice A3 x.f3.length c3, .int .i64 x.f4] 62)) (.cells #[.string x.f0, .int .i64 x.f1, .slice B2 x.f2.length d2, .slice B3 x.f3.length d3, .int .i64 x.f4] 62)
 rw [World.size_alloc] at hz
 have HB2 := Lib.hid hb2
 have HK2 := Lib.hid hk
 have HZ2 := Lib.hid hz
 have hE2 : Hid (∀ W, Below w.heap.size w W → Calls Tryz.prog 89 #[.slice A2 x.f2.length c2, .slice B2 x.f2.length d2] W fun e w' => e = .returned (.bool true) ∧ Below W.heap.size W w') := fun W hW => equalSame_calls A2 c2 B2 d2 x.f2 W (Kd.C_below h2 hW) (Kd.C_below g2 hW)
 have hE3 : Hid (∀ W, Below w.heap.size w W → Calls Tryz.prog 89 #[.slice A3 x.f3.length c3, .slice B3 x.f3.length d3] W fun e w' => e = .returned (.bool true) ∧ Below W.heap.size W w') := fun W hW => equalSame_calls A3 c3 B3 d3 x.f3 W (Kd.C_below h3 hW) (Kd.C_below g3 hW)
 clear hb1 hb2 hk hz h2 h3 g2 g3
 go_enter Tryz.func91, Tryz.ntmps91
 go_wp2_with fail
 generalize (w.alloc (.cells #[.string x.f0, .int .i64 x.f1, .slice A2 x.f2.length c2, .slice A3 x.f3.length c3, .int .i64 x.f4] 62)).alloc (.cells #[.string x.f0, .int .i64 x.f1, .slice B2 x.f2.length d2, .slice B3 x.f3.length d3, .int .i64 x.f4] 62) = w2 at HB2 HK2 HZ2 ⊢
 refine (hE2.out _ HB2.out).mono ?_
 rintro e w3 ⟨rfl, hb3⟩
 have HB3 := Lib.hid (below_then HB2.out HB2.out.size hb3)
 have k3 : w3.cell? ⟨w.heap.size, 3, none⟩ = some (.slice A3 x.f3.length c3) := (blk_cell (blk_below HK2.out hb3) 3).trans rfl
 have j3 : w3.cell? ⟨w.heap.size + 1, 3, none⟩ = some (.slice B3 x.f3.length d3) := (blk_cell (blk_below HZ2.out hb3) 3).trans rfl
 clear hb3
 go_wp2_with fail
 refine (hE3.out _ HB3.out).mono ?_
 rintro e w4 ⟨rfl, hb4⟩
 have HB4 := Lib.hid (below_then HB3.out HB3.out.size hb4)
 clear hb4
 go_wp2_with fail
 go_ret
 exact ⟨rfl, HB4.out⟩

theorem alloc_keep {w : World} {a : Addr} {v : Value} (h : w.cell? a = some v) (ob : Obj) : (w.alloc ob).cell? a = some v := (World.cell?_alloc_some w a ob (by rw [h]; rfl)).trans h
abbrev IsTrue (w : World) (e : Ending) (w' : World) : Prop := e = .returned (.bool true) ∧ Below w.heap.size w w'
theorem step_at {w : World} {x : SStep} {A : Option Addr} (h : Kd.C k62 w A 1 [x]) :
 ∃ ad A2 c2 A3 c3, A = some ad ∧ Kd.C Kd.string w A2 x.f2.length x.f2 ∧ Kd.C Kd.string w A3 x.f3.length x.f3 ∧ w.cell? ad = some (.string x.f0) ∧ w.cell? ⟨ad.block, ad.off + 1, none⟩ = some (.int .i64 x.f1) ∧
  w.cell? ⟨ad.block, ad.off + 2, none⟩ = some (.slice A2 x.f2.length c2) ∧ w.cell? ⟨ad.block, ad.off + 3, none⟩ = some (.slice A3 x.f3.length c3) ∧ w.cell? ⟨ad.block, ad.off + 4, none⟩ = some (.int .i64 x.f4) := by
 obtain ⟨ad, cs, rfl, hcl, hK, hcell⟩ := Kd.C_get h x 0 (by simp) (by simp)
 obtain ⟨A5, c5, A6, c6, hcs, hc5, h5, hc6, h6⟩ := k62_open hK
 subst hcs
 refine ⟨ad, A5, c5, A6, c6, rfl, h5, h6, ?_, ?_, ?_, ?_, ?_⟩
 · have := hcell 0 _ rfl; rwa [at_zero] at this
 · have := hcell 1 _ rfl; rwa [at_next ad 1 (by decide)] at this
 · have := hcell 2 _ rfl; rwa [at_next ad 2 (by decide)] at this
 · have := hcell 3 _ rfl; rwa [at_next ad 3 (by decide)] at this
 · have := hcell 4 _ rfl; rwa [at_next ad 4 (by decide)] at this
theorem rule_at {w : World} {r : SRule} {A : Option Addr} (h : Kd.C k49 w A 1 [r]) :
 ∃ ad A1 c1 A2 c2 A3 c3 A4 c4, A = some ad ∧ Kd.C Kd.string w A1 r.f1.length r.f1 ∧ Kd.C Kd.string w A2 r.f2.length r.f2 ∧ Kd.C Kd.string w A3 r.f3.length r.f3 ∧ Kd.C k62 w A4 r.f4.length r.f4 ∧
  w.cell? ad = some (.string r.f0) ∧ w.cell? ⟨ad.block, ad.off + 1, none⟩ = some (.slice A1 r.f1.length c1) ∧
  w.cell? ⟨ad.block, ad.off + 2, none⟩ = some (.slice A2 r.f2.length c2) ∧ w.cell? ⟨ad.block, ad.off + 3, none⟩ = some (.slice A3 r.f3.length c3) ∧ w.cell? ⟨ad.block, ad.off + 4, none⟩ = some (.slice A4 r.f4.length c4) := by
 obtain ⟨ad, cs, rfl, hcl, hK, hcell⟩ := Kd.C_get h r 0 (by simp) (by simp)
 obtain ⟨A1, c1, A2, c2, A3, c3, A4, c4, hcs, _, h1, _, h2, _, h3, _, h4⟩ := k49_open hK
 subst hcs
 refine ⟨ad, A1, c1, A2, c2, A3, c3, A4, c4, rfl, h1, h2, h3, h4, ?_, ?_, ?_, ?_, ?_⟩
 · have := hcell 0 _ rfl; rwa [at_zero] at this
 · have := hcell 1 _ rfl; rwa [at_next ad 1 (by decide)] at this
 · have := hcell 2 _ rfl; rwa [at_next ad 2 (by decide)] at this
 · have := hcell 3 _ rfl; rwa [at_next ad 3 (by decide)] at this
 · have := hcell 4 _ rfl; rwa [at_next ad 4 (by decide)] at this

set_option maxHeartbeats 4000000 in
set_option maxRecDepth 100000 in
theorem eqStep_calls (x : SStep) (A : Option Addr) (c : Nat) (B : Option Addr) (d : Nat) (w : World) (h1 : Kd.C k62 w A 1 [x]) (h2 : Kd.C k62 w B 1 [x]) :
 Calls Tryz.prog 90 #[.slice A 1 c, .slice B 1 d, .func (.func 91) #[] #[]] w (IsTrue w) := by
 obtain ⟨ad, A2, c2, A3, c3, rfl, hA2, hA3, m0, m1, m2, m3, m4⟩ := step_at h1
 obtain ⟨bd, B2, d2, B3, d3, rfl, hB2, hB3, n0, n1, n2, n3, n4⟩ := step_at h2
 have hS : Hid (∀ W, Below w.heap.size w W → Calls Tryz.prog 91 #[.agg #[.string x.f0, .int .i64 x.f1, .slice A2 x.f2.length c2, .slice A3 x.f3.length c3, .int .i64 x.f4], .agg #[.string x.f0, .int .i64 x.f1, .slice B2 x.f2.length d2, .slice B3 x.f3.length d3, .int .i64 x.f4]] W
  fun e w' => e = .returned (.bool true) ∧ Below W.heap.size W w') := fun W hW => stepsSame_calls x A2 c2 A3 c3 B2 d2 B3 d3 W (Kd.C_below hA2 hW) (Kd.C_below hA3 hW) (Kd.C_below hB2 hW) (Kd.C_below hB3 hW)
 clear h1 h2 hA2 hA3 hB2 hB3
 go_enter Tryz.func90, Tryz.ntmps90
 go_wp2_with fail
 go_loopg [17] 1 (fun gg s17 wr => ∃ kk : Nat, kk ≤ 1 ∧ 1 - kk ≤ gg ∧ s17 = .int .i64 kk ∧ Aside0 (kk = 0 → wr = w) ∧ Aside0 (kk = 1 → Below w.heap.size w wr))
 case atStart => exact ⟨0, by omega, by omega, rfl, ⟨fun _ => rfl⟩, ⟨fun h => by omega⟩⟩
 case round =>
  obtain ⟨kk, hkk, hgk, rfl, HP0, HP1⟩ := hrel
  by_cases h0 : kk = 0
  · subst h0
    obtain rfl := HP0.out rfl
    clear HP0 HP1
    have p0 := alloc_keep n0
    have p1 := alloc_keep n1
    have p2 := alloc_keep n2
    have p3 := alloc_keep n3
    have p4 := alloc_keep n4
    have hb := ((Below.refl wr.heap.size wr).alloc (Nat.le_refl _) (.cells #[.string x.f0, .int .i64 x.f1, .slice A2 x.f2.length c2, .slice A3 x.f3.length c3, .int .i64 x.f4] 62)).alloc (by rw [World.size_alloc]; omega) (.cells #[.string x.f0, .int .i64 x.f1, .slice B2 x.f2.length d2, .slice B3 x.f3.length d3, .int .i64 x.f4] 62)
    have HB := Lib.hid hb
    have hcall := hS.out _ hb
    clear hb
    go_wp2_with (go_at_call 91; refine hcall.mono ?_; rintro e w2 ⟨rfl, hb2⟩; have HB2 := Lib.hid (below_then HB.out HB.out.size hb2); clear hb2)
    go_roundg 0
    case measure => omega
    case rel => exact ⟨1, by omega, by omega, by first | rfl | go_num, ⟨fun h => by omega⟩, ⟨fun _ => HB2.out⟩⟩
  · obtain rfl : kk = 1 := by omega
    have HB := Lib.hid (HP1.out rfl)
    clear HP0 HP1
    go_wp2_with fail
    go_ret
    exact ⟨rfl, HB.out⟩

set_option maxHeartbeats 8000000 in
set_option maxRecDepth 100000 in
theorem sameSame_calls (f0 : ByteArray) (l1 l2 l3 : List ByteArray) (x : SStep) (A1 : Option Addr) (c1 : Nat) (A2 : Option Addr) (c2 : Nat) (A3 : Option Addr) (c3 : Nat) (A4 : Option Addr) (c4 : Nat) (B1 : Option Addr) (d1 : Nat) (B2 : Option Addr) (d2 : Nat) (B3 : Option Addr) (d3 : Nat) (B4 : Option Addr) (d4 : Nat) (w : World)
 (h1 : Kd.C Kd.string w A1 l1.length l1) (h2 : Kd.C Kd.string w A2 l2.length l2) (h3 : Kd.C Kd.string w A3 l3.length l3) (h4 : Kd.C k62 w A4 1 [x])
 (g1 : Kd.C Kd.string w B1 l1.length l1) (g2 : Kd.C Kd.string w B2 l2.length l2) (g3 : Kd.C Kd.string w B3 l3.length l3) (g4 : Kd.C k62 w B4 1 [x]) :
 Calls Tryz.prog 61 #[.agg #[.string f0, .slice A1 l1.length c1, .slice A2 l2.length c2, .slice A3 l3.length c3, .slice A4 1 c4], .agg #[.string f0, .slice B1 l1.length d1, .slice B2 l2.length d2, .slice B3 l3.length d3, .slice B4 1 d4]] w (IsTrue w) := by
 have hb1 := (Below.refl w.heap.size w).alloc (Nat.le_refl _) (.cells #[.string f0, .slice A1 l1.length c1, .slice A2 l2.length c2, .slice A3 l3.length c3, .slice A4 1 c4] 49)
 have hb2 := hb1.alloc hb1.size (.cells #[.string f0, .slice B1 l1.length d1, .slice B2 l2.length d2, .slice B3 l3.length d3, .slice B4 1 d4] 49)
 have hk := blk_alloc (blk_new w (.cells #[.string f0, .slice A1 l1.length c1, .slice A2 l2.length c2, .slice A3 l3.length c3, .slice A4 1 c4] 49)) (.cells #[.string f0, .slice B1 l1.length d1, .slice B2 l2.length d2, .slice B3 l3.length d3, .slice B4 1 d4] 49)
 have hz := blk_new (w.alloc (.cells #[.string f0, .slice A1 l1.length c1, .slice A2 l2.length c2, .slice A3 l3.length c3, .slice A4 1 c4] 49)) (.cells #[.string f0, .slice B1 l1.length d1, .slice B2 l2.length d2, .slice B3 l3.length d3, .slice B4 1 d4] 49)
 rw [World.size_alloc] at hz
 have HB2 := Lib.hid hb2
 have HK2 := Lib.hid hk
 have HZ2 := Lib.hid hz
 have hE1 : Hid (∀ W, Below w.heap.size w W → Calls Tryz.prog 89 #[.slice A1 l1.length c1, .slice B1 l1.length d1] W fun e w' => e = .returned (.bool true) ∧ Below W.heap.size W w') := fun W hW => equalSame_calls A1 c1 B1 d1 l1 W (Kd.C_below h1 hW) (Kd.C_below g1 hW)
 have hE2 : Hid (∀ W, Below w.heap.size w W → Calls Tryz.prog 89 #[.slice A2 l2.length c2, .slice B2 l2.length d2] W fun e w' => e = .returned (.bool true) ∧ Below W.heap.size W w') := fun W hW => equalSame_calls A2 c2 B2 d2 l2 W (Kd.C_below h2 hW) (Kd.C_below g2 hW)
 have hE3 : Hid (∀ W, Below w.heap.size w W → Calls Tryz.prog 89 #[.slice A3 l3.length c3, .slice B3 l3.length d3] W fun e w' => e = .returned (.bool true) ∧ Below W.heap.size W w') := fun W hW => equalSame_calls A3 c3 B3 d3 l3 W (Kd.C_below h3 hW) (Kd.C_below g3 hW)
 have hE4 : Hid (∀ W, Below w.heap.size w W → Calls Tryz.prog 90 #[.slice A4 1 c4, .slice B4 1 d4, .func (.func 91) #[] #[]] W (IsTrue W)) := fun W hW => eqStep_calls x A4 c4 B4 d4 W (Kd.C_below h4 hW) (Kd.C_below g4 hW)
 clear hb1 hb2 hk hz h1 h2 h3 h4 g1 g2 g3 g4
 go_enter Tryz.func61, Tryz.ntmps61
 go_wp2_with fail
 generalize (w.alloc (.cells #[.string f0, .slice A1 l1.length c1, .slice A2 l2.length c2, .slice A3 l3.length c3, .slice A4 1 c4] 49)).alloc (.cells #[.string f0, .slice B1 l1.length d1, .slice B2 l2.length d2, .slice B3 l3.length d3, .slice B4 1 d4] 49) = w2 at HB2 HK2 HZ2 ⊢
 refine (hE1.out _ HB2.out).mono ?_
 rintro e w3 ⟨rfl, hb3⟩
 have HB3 := Lib.hid (below_then HB2.out HB2.out.size hb3)
 have HK3 := Lib.hid (blk_below HK2.out hb3)
 have HZ3 := Lib.hid (blk_below HZ2.out hb3)
 have k3 : w3.cell? ⟨w.heap.size, 2, none⟩ = some (.slice A2 l2.length c2) := (blk_cell HK3.out 2).trans rfl
 have j3 : w3.cell? ⟨w.heap.size + 1, 2, none⟩ = some (.slice B2 l2.length d2) := (blk_cell HZ3.out 2).trans rfl
 clear hb3
 go_wp2_with fail
 refine (hE2.out _ HB3.out).mono ?_
 rintro e w4 ⟨rfl, hb4⟩
 have HB4 := Lib.hid (below_then HB3.out HB3.out.size hb4)
 have HK4 := Lib.hid (blk_below HK3.out hb4)
 have HZ4 := Lib.hid (blk_below HZ3.out hb4)
 have k4 : w4.cell? ⟨w.heap.size, 3, none⟩ = some (.slice A3 l3.length c3) := (blk_cell HK4.out 3).trans rfl
 have j4 : w4.cell? ⟨w.heap.size + 1, 3, none⟩ = some (.slice B3 l3.length d3) := (blk_cell HZ4.out 3).trans rfl
 clear hb4
 go_wp2_with fail
 refine (hE3.out _ HB4.out).mono ?_
 rintro e w5 ⟨rfl, hb5⟩
 have HB5 := Lib.hid (below_then HB4.out HB4.out.size hb5)
 have HK5 := Lib.hid (blk_below HK4.out hb5)
 have HZ5 := Lib.hid (blk_below HZ4.out hb5)
 have k5 : w5.cell? ⟨w.heap.size, 4, none⟩ = some (.slice A4 1 c4) := (blk_cell HK5.out 4).trans rfl
 have j5 : w5.cell? ⟨w.heap.size + 1, 4, none⟩ = some (.slice B4 1 d4) := (blk_cell HZ5.out 4).trans rfl
 clear hb5
 go_wp2_with fail
 refine (hE4.out _ HB5.out).mono ?_
 rintro e w6 ⟨rfl, hb6⟩
 have HB6 := Lib.hid (below_then HB5.out HB5.out.size hb6)
 clear hb6
 go_wp2_with fail
 go_ret
 exact ⟨rfl, HB6.out⟩

set_option maxHeartbeats 8000000 in
set_option maxRecDepth 100000 in
theorem eqRule_calls (f0 : ByteArray) (l1 l2 l3 : List ByteArray) (x : SStep) (A : Option Addr) (c : Nat) (B : Option Addr) (d : Nat) (w : World) (h1 : Kd.C k49 w A 1 [⟨f0, l1, l2, l3, [x]⟩]) (h2 : Kd.C k49 w B 1 [⟨f0, l1, l2, l3, [x]⟩]) :
 Calls Tryz.prog 60 #[.slice A 1 c, .slice B 1 d, .func (.func 61) #[] #[]] w (IsTrue w) := by
 obtain ⟨ad, A1, c1, A2, c2, A3, c3, A4, c4, rfl, hA1, hA2, hA3, hA4, m0, m1, m2, m3, m4⟩ := rule_at h1
 obtain ⟨bd, B1, d1, B2, d2, B3, d3, B4, d4, rfl, hB1, hB2, hB3, hB4, n0, n1, n2, n3, n4⟩ := rule_at h2
 replace m0 : w.cell? ad = some (.string f0) := m0
 replace m1 : w.cell? ⟨ad.block, ad.off + 1, none⟩ = some (.slice A1 l1.length c1) := m1
 replace m2 : w.cell? ⟨ad.block, ad.off + 2, none⟩ = some (.slice A2 l2.length c2) := m2
 replace m3 : w.cell? ⟨ad.block, ad.off + 3, none⟩ = some (.slice A3 l3.length c3) := m3
 replace m4 : w.cell? ⟨ad.block, ad.off + 4, none⟩ = some (.slice A4 1 c4) := m4
 replace n0 : w.cell? bd = some (.string f0) := n0
 replace n1 : w.cell? ⟨bd.block, bd.off + 1, none⟩ = some (.slice B1 l1.length d1) := n1
 replace n2 : w.cell? ⟨bd.block, bd.off + 2, none⟩ = some (.slice B2 l2.length d2) := n2
 replace n3 : w.cell? ⟨bd.block, bd.off + 3, none⟩ = some (.slice B3 l3.length d3) := n3
 replace n4 : w.cell? ⟨bd.block, bd.off + 4, none⟩ = some (.slice B4 1 d4) := n4
 have hS : Hid (∀ W, Below w.heap.size w W → Calls Tryz.prog 61 #[.agg #[.string f0, .slice A1 l1.length c1, .slice A2 l2.length c2, .slice A3 l3.length c3, .slice A4 1 c4], .agg #[.string f0, .slice B1 l1.length d1, .slice B2 l2.length d2, .slice B3 l3.length d3, .slice B4 1 d4]] W (IsTrue W)) := fun W hW => sameSame_calls f0 l1 l2 l3 x A1 c1 A2 c2 A3 c3 A4 c4 B1 d1 B2 d2 B3 d3 B4 d4 W (Kd.C_below hA1 hW) (Kd.C_below hA2 hW) (Kd.C_below hA3 hW) (Kd.C_below hA4 hW) (Kd.C_below hB1 hW) (Kd.C_below hB2 hW) (Kd.C_below hB3 hW) (Kd.C_below hB4 hW)
 clear h1 h2 hA1 hA2 hA3 hA4 hB1 hB2 hB3 hB4
 go_enter Tryz.func60, Tryz.ntmps60
 go_wp2_with fail
 go_loopg [17] 1 (fun gg s17 wr => ∃ kk : Nat, kk ≤ 1 ∧ 1 - kk ≤ gg ∧ s17 = .int .i64 kk ∧ Aside0 (kk = 0 → wr = w) ∧ Aside0 (kk = 1 → Below w.heap.size w wr))
 case atStart => exact ⟨0, by omega, by omega, rfl, ⟨fun _ => rfl⟩, ⟨fun h => by omega⟩⟩
 case round =>
  obtain ⟨kk, hkk, hgk, rfl, HP0, HP1⟩ := hrel
  by_cases h0 : kk = 0
  · subst h0
    obtain rfl := HP0.out rfl
    clear HP0 HP1
    have p0 := alloc_keep n0
    have p1 := alloc_keep n1
    have p2 := alloc_keep n2
    have p3 := alloc_keep n3
    have p4 := alloc_keep n4
    have hb := ((Below.refl wr.heap.size wr).alloc (Nat.le_refl _) (.cells #[.string f0, .slice A1 l1.length c1, .slice A2 l2.length c2, .slice A3 l3.length c3, .slice A4 1 c4] 49)).alloc (by rw [World.size_alloc]; omega) (.cells #[.string f0, .slice B1 l1.length d1, .slice B2 l2.length d2, .slice B3 l3.length d3, .slice B4 1 d4] 49)
    have HB := Lib.hid hb
    have hcall := hS.out _ hb
    clear hb
    go_wp2_with (go_at_call 61; refine hcall.mono ?_; rintro e w2 ⟨rfl, hb2⟩; have HB2 := Lib.hid (below_then HB.out HB.out.size hb2); clear hb2)
    go_roundg 0
    case measure => omega
    case rel => exact ⟨1, by omega, by omega, by first | rfl | go_num, ⟨fun h => by omega⟩, ⟨fun _ => HB2.out⟩⟩
  · obtain rfl : kk = 1 := by omega
    have HB := Lib.hid (HP1.out rfl)
    clear HP0 HP1
    go_wp2_with fail
    go_ret
    exact ⟨rfl, HB.out⟩
set_option maxHeartbeats 1000000 in
theorem eqOne_calls (f0 : ByteArray) (l1 l2 l3 : List ByteArray) (x : SStep) (A : Option Addr) (c : Nat) (B : Option Addr) (d : Nat) (w : World) (h1 : Kd.C k49 w A 1 [⟨f0, l1, l2, l3, [x]⟩]) (h2 : Kd.C k49 w B 1 [⟨f0, l1, l2, l3, [x]⟩]) :
 Calls Tryz.prog 36 #[.slice A 1 c, .slice B 1 d] w (IsTrue w) := by
 have hE := eqRule_calls f0 l1 l2 l3 x A c B d w h1 h2
 clear h1 h2
 go_enter Tryz.func36, Tryz.ntmps36
 go_wp2_with fail
 refine hE.mono ?_
 rintro e w2 ⟨rfl, hb2⟩
 go_wp2_with fail
 go_ret
 exact ⟨rfl, hb2⟩
end Go.Proofs.YthagibkmfgodgaaGreatDoor.X

namespace Go.Proofs.YthagibkmfgodgaaGreatDoor.X
open Go.RowKit Go.Maps

def begW : Bytes := [97, 32, 34, 92, 120, 52, 49, 34, 32, 59]
theorem begW_all : allR (allF begW) = ([⟨1, 0, ⟨#[97]⟩⟩, ⟨2, 2, ⟨#[65]⟩⟩, ⟨3, 9, ⟨#[59]⟩⟩, ⟨4, 10, ⟨#[]⟩⟩], 0, 0) := by kernel_rfl
def begS : Bytes := "rule r { in b, a; out x; # no\n x = select \"q\\n\" a; }".toUTF8.data.toList
def begX : SStep := ⟨⟨#[120]⟩, 7, [⟨#[97]⟩], [⟨#[113, 10]⟩], 0⟩
theorem begS_file : fileT begS = ([⟨⟨#[114]⟩, [⟨#[98]⟩, ⟨#[97]⟩], [⟨#[120]⟩], [], [begX]⟩], 0, 0) := by kernel_rfl
def begE : Bytes := "rule in {".toUTF8.data.toList
theorem begE_file : fileT begE = ([], 1, 5) := by kernel_rfl
theorem begOp : opF ⟨#[99, 111, 117, 110, 116]⟩ = 4 := by kernel_rfl
theorem begName : opNameF 4 = ⟨#[99, 111, 117, 110, 116]⟩ := by kernel_rfl
theorem begQ : quoteF [97, 34, 10] = [34, 97, 92, 34, 92, 110, 34] := by kernel_rfl
theorem begStep : stepT begX = "x = select \"q\\n\" a;".toUTF8.data.toList := by kernel_rfl

theorem rising_nil : risingF [] = [] := by simp [risingF]
theorem rising_one (x : ByteArray) : risingF [x] = [x] := by
 unfold risingF
 rw [List.map_cons, List.map_nil, List.mergeSort_singleton]
 rfl
theorem rising_ba : risingF [⟨#[98]⟩, ⟨#[97]⟩] = [⟨#[97]⟩, ⟨#[98]⟩] := by
 unfold risingF
 show List.map mk (List.mergeSort [[98], [97]] _) = _
 simp [List.mergeSort, List.MergeSort.Internal.splitInTwo, List.merge]
 first | done | decide
theorem rising_ab : risingF [⟨#[97]⟩, ⟨#[98]⟩] = [⟨#[97]⟩, ⟨#[98]⟩] := by
 unfold risingF
 show List.map mk (List.mergeSort [[97], [98]] _) = _
 simp [List.mergeSort, List.MergeSort.Internal.splitInTwo, List.merge]
 first | done | decide
theorem begRule : ruleT ⟨#[114]⟩ [⟨#[97]⟩, ⟨#[98]⟩] [⟨#[120]⟩] [] begX = "rule r {\n  in a, b;\n  out x;\n  x = select \"q\\n\" a;\n}\n".toUTF8.data.toList := by
 unfold ruleT headT
 rw [rising_ab, rising_one, rising_nil]
 kernel_rfl
theorem begSmall : SmallR ⟨#[114]⟩ [⟨#[97]⟩, ⟨#[98]⟩] [⟨#[120]⟩] [] begX := by
 constructor
 · decide
 · decide
 · decide
 · decide
 · rw [rising_ab]; decide
 · rw [rising_one]; decide
 · rw [rising_nil]; decide
 · decide
 · decide
 · decide
 · intro y hy
   obtain rfl : y = ⟨#[113, 10]⟩ := by simpa [begX] using hy
   refine ⟨by decide, fun c hc => ?_⟩
   have : c = 113 ∨ c = 10 := by simpa using hc
   rcases this with rfl | rfl
   · right; right; decide
   · left; rfl
 · decide

end Go.Proofs.YthagibkmfgodgaaGreatDoor.X

namespace Go.Proofs.YthagibkmfgodgaaGreatDoor.X
open Go.RowKit Go.Maps Go.Proofs.YthagibkmfgodgaaGreatDoorW.PrintWords Go.Proofs.YthagibkmfgodgaaGreatDoorW.PrintMore Go.Proofs.YthagibkmfgodgaaGreatDoorW.PrintLast

set_option maxHeartbeats 1000000 in
theorem Begun1_calls (w : World) (hG : GOK w) : Calls Tryz.prog 38 #[] w (IsTrue w) := by
 have hB := shipwrightlaw1_begun.calls true w hG rfl
 clear hG
 go_enter Tryz.func38, Tryz.ntmps38
 go_wp2_with fail
 refine hB.mono ?_
 rintro e w2 ⟨rfl, hb2⟩
 go_wp2_with fail
 go_ret
 exact ⟨rfl, hb2⟩

theorem beg_quote (w : World) : Calls Tryz.prog 21 #[.string ⟨#[97, 34, 10]⟩] w fun e w' => e = .returned (.string ⟨#[34, 97, 92, 34, 92, 110, 34]⟩) ∧ Below w.heap.size w w' := by
 have h := quote_calls ⟨#[97, 34, 10]⟩ (by decide) (fun c hc => by
  have : c = 97 ∨ c = 34 ∨ c = 10 := by simpa using hc
  rcases this with rfl | rfl | rfl
  · right; right; decide
  · right; right; decide
  · left; rfl) w
 rw [show quoteF (⟨#[97, 34, 10]⟩ : ByteArray).data.toList = _ from begQ] at h
 exact h
def begR : SRule := ⟨⟨#[114]⟩, [⟨#[98]⟩, ⟨#[97]⟩], [⟨#[120]⟩], [], [begX]⟩
def begRs : SRule := ⟨⟨#[114]⟩, [⟨#[97]⟩, ⟨#[98]⟩], [⟨#[120]⟩], [], [begX]⟩
theorem beg_file (A : Option Addr) (c : Nat) (w : World) (hG : GOK w) (h : Kd.C k49 w A 1 [begR]) :
 Calls Tryz.prog 27 #[.slice A 1 c] w fun e w' => e = .returned (.string ⟨#[114, 117, 108, 101, 32, 114, 32, 123, 10, 32, 32, 105, 110, 32, 97, 44, 32, 98, 59, 10, 32, 32, 111, 117, 116, 32, 120, 59, 10, 32, 32, 120, 32, 61, 32, 115, 101, 108, 101, 99, 116, 32, 34, 113, 92, 110, 34, 32, 97, 59, 10, 125, 10]⟩) ∧ Below w.heap.size w w' := by
 have hc := pfileOne_calls ⟨#[114]⟩ [⟨#[98]⟩, ⟨#[97]⟩] [⟨#[120]⟩] [] begX A c w hG h (by decide) (by decide) (by decide) (by rw [rising_ba, rising_one, rising_nil]; exact begSmall)
 rw [rising_ba, rising_one, rising_nil, begRule] at hc
 rw [show mk "rule r {\n  in a, b;\n  out x;\n  x = select \"q\\n\" a;\n}\n".toUTF8.data.toList = ⟨#[114, 117, 108, 101, 32, 114, 32, 123, 10, 32, 32, 105, 110, 32, 97, 44, 32, 98, 59, 10, 32, 32, 111, 117, 116, 32, 120, 59, 10, 32, 32, 120, 32, 61, 32, 115, 101, 108, 101, 99, 116, 32, 34, 113, 92, 110, 34, 32, 97, 59, 10, 125, 10]⟩ from by kernel_rfl] at hc
 exact hc
theorem beg_sorted (A : Option Addr) (c : Nat) (w : World) (h : Kd.C k49 w A 1 [begR]) :
 Calls Tryz.prog 37 #[.slice A 1 c] w fun e w' => ∃ X d, e = .returned (.slice X 1 d) ∧ Kd.C k49 w' X 1 [begRs] ∧ Below w.heap.size w w' := by
 have hc := sortedOne_calls ⟨#[114]⟩ [⟨#[98]⟩, ⟨#[97]⟩] [⟨#[120]⟩] [] begX A c w h (by decide) (by decide) (by decide) (by decide) (by decide)
 rw [rising_ba, rising_one, rising_nil] at hc
 refine hc.mono ?_
 rintro e w2 ⟨X, d, rfl, hR, hb⟩
 obtain ⟨X', d', e', _, hC⟩ := Kd.R_reads hR
 injection e' with e1 e2 e3
 subst e1 e3
 exact ⟨X, d, rfl, hC, hb⟩
theorem beg_eq (A : Option Addr) (c : Nat) (B : Option Addr) (d : Nat) (w : World) (h : Kd.C k49 w A 1 [begRs]) (h2 : Kd.C k49 w B 1 [begRs]) :
 Calls Tryz.prog 36 #[.slice A 1 c, .slice B 1 d] w (IsTrue w) :=
 eqOne_calls ⟨#[114]⟩ [⟨#[97]⟩, ⟨#[98]⟩] [⟨#[120]⟩] [] begX A c B d w h h2
theorem beg_step (A2 : Option Addr) (c2 : Nat) (A3 : Option Addr) (c3 : Nat) (w : World) (hG : GOK w) (h2 : Kd.C Kd.string w A2 1 [⟨#[97]⟩]) (h3 : Kd.C Kd.string w A3 1 [⟨#[113, 10]⟩]) :
 Calls Tryz.prog 39 #[.agg #[.string ⟨#[120]⟩, .int .i64 7, .slice A2 1 c2, .slice A3 1 c3, .int .i64 0]] w fun e w' => e = .returned (.string ⟨#[120, 32, 61, 32, 115, 101, 108, 101, 99, 116, 32, 34, 113, 92, 110, 34, 32, 97, 59]⟩) ∧ Below w.heap.size w w' := by
 have hc := pstep_calls begX A2 c2 A3 c3 w hG h2 h3 begSmall.s1 begSmall.sp begSmall.s2 begSmall.s3 (Nat.le_trans begSmall.sj (by omega))
 rw [begStep] at hc
 rw [show mk "x = select \"q\\n\" a;".toUTF8.data.toList = ⟨#[120, 32, 61, 32, 115, 101, 108, 101, 99, 116, 32, 34, 113, 92, 110, 34, 32, 97, 59]⟩ from by kernel_rfl] at hc
 exact hc
theorem add_far (ad : Addr) (n : Nat) (hn : 0 < n) : ad.add n = ⟨ad.block, ad.off + n, none⟩ := by
 have := at_next ad n hn (m := 0)
 simpa using this
set_option maxHeartbeats 8000000 in
set_option maxRecDepth 100000 in
theorem begun4_calls (w : World) (hG : GOK w) : Calls Tryz.prog 16 #[] w (IsTrue w) := by
 have HG := Lib.hid hG
 clear hG
 have hF := fun W hW => file_calls ⟨begS.toArray⟩ W hW
 rw [show fileT (⟨begS.toArray⟩ : ByteArray).data.toList = _ from begS_file] at hF
 have hX := fun W hW => file_calls ⟨begE.toArray⟩ W hW
 rw [show fileT (⟨begE.toArray⟩ : ByteArray).data.toList = _ from begE_file] at hX
 have hA := fun W => all_calls ⟨#[97, 32, 34, 92, 120, 52, 49, 34, 32, 59]⟩ (by decide) W
 rw [show allR (allF (⟨#[97, 32, 34, 92, 120, 52, 49, 34, 32, 59]⟩ : ByteArray).data.toList) = _ from begW_all] at hA
 go_enter Tryz.func16, Tryz.ntmps16
 go_wp2_with fail
 refine (hA _).mono ?_
 rintro e w1 ⟨v, rfl, hR, hb1⟩
 obtain ⟨A, c, rfl, _, hr1⟩ := Kd.R_reads hR
 have hE1 := blk_new w1 (.cells #[.int .i64 0, .int .i64 0] 27)
 have hb2 := (Below.refl w1.heap.size w1).alloc (Nat.le_refl _) (.cells #[.int .i64 0, .int .i64 0] 27)
 have hr2 := Kd.C_below hr1 hb2
 replace hb2 := below_then hb1 hb1.size hb2
 have HE2 := Lib.hid hE1
 have HR2 := Lib.hid hr2
 have HB2 := Lib.hid hb2
 clear hA hR hb1 hr1 hE1 hr2 hb2
 go_wp2_with fail
 generalize w1.alloc (.cells #[.int .i64 0, .int .i64 0] 27) = w2 at HE2 HR2 HB2 ⊢
 generalize w1.heap.size = E1 at HE2 ⊢
 refine (hF _ (HG.out.below HB2.out)).mono ?_
 rintro e w3 ⟨v, rfl, hR, hb3⟩
 obtain ⟨AR, cR, rfl, _, hr3⟩ := Kd.R_reads hR
 have hE3 := blk_new w3 (.cells #[.int .i64 0, .int .i64 0] 27)
 have hb4 := (Below.refl w3.heap.size w3).alloc (Nat.le_refl _) (.cells #[.int .i64 0, .int .i64 0] 27)
 have HE4a := Lib.hid (blk_alloc (blk_below HE2.out hb3) (.cells #[.int .i64 0, .int .i64 0] 27))
 have HR4a := Lib.hid (Kd.C_below (Kd.C_below HR2.out hb3) hb4)
 have HR4b := Lib.hid (Kd.C_below hr3 hb4)
 have HE4b := Lib.hid hE3
 have HB4 := Lib.hid (below_then (below_then HB2.out HB2.out.size hb3) (below_then HB2.out HB2.out.size hb3).size hb4)
 clear hF hR hb3 hr3 hE3 hb4 HE2 HR2 HB2
 go_wp2_with fail
 generalize w3.alloc (.cells #[.int .i64 0, .int .i64 0] 27) = w4 at HE4a HE4b HR4a HR4b HB4 ⊢
 generalize w3.heap.size = E2 at HE4b ⊢
 refine (hX _ (HG.out.below HB4.out)).mono ?_
 rintro e w5 ⟨v, rfl, hR, hb5⟩
 obtain ⟨AX, cX, rfl, _, _⟩ := Kd.R_reads hR
 have hE5 := blk_new w5 (.cells #[.int .i64 1, .int .i64 5] 27)
 have hb6 := (Below.refl w5.heap.size w5).alloc (Nat.le_refl _) (.cells #[.int .i64 1, .int .i64 5] 27)
 have HE6a := Lib.hid (blk_alloc (blk_below HE4a.out hb5) (.cells #[.int .i64 1, .int .i64 5] 27))
 have HE6b := Lib.hid (blk_alloc (blk_below HE4b.out hb5) (.cells #[.int .i64 1, .int .i64 5] 27))
 have HR6a := Lib.hid (Kd.C_below (Kd.C_below HR4a.out hb5) hb6)
 have HR6b := Lib.hid (Kd.C_below (Kd.C_below HR4b.out hb5) hb6)
 have HE6c := Lib.hid hE5
 have HB6 := Lib.hid (below_then (below_then HB4.out HB4.out.size hb5) (below_then HB4.out HB4.out.size hb5).size hb6)
 clear hX hR hb5 hE5 hb6 HE4a HE4b HR4a HR4b HB4
 obtain ⟨ad, A1, c1, A2, c2, A3, c3, A4, c4, rfl, -, -, -, hA4, m0, m1, m2, m3, m4⟩ := rule_at HR6b.out
 obtain ⟨bd, B2, d2, B3, d3, rfl, -, hB3, n0, n1, n2, n3, n4⟩ := step_at hA4
 have m4' : (w5.alloc (.cells #[.int .i64 1, .int .i64 5] 27)).cell? ⟨ad.block, ad.off + 4, none⟩ = some (.slice (some bd) 1 c4) := m4
 have n3' : (w5.alloc (.cells #[.int .i64 1, .int .i64 5] 27)).cell? ⟨bd.block, bd.off + 3, none⟩ = some (.slice B3 1 d3) := n3
 have HB7 := fun W (hW : Below (w5.alloc (.cells #[.int .i64 1, .int .i64 5] 27)).heap.size (w5.alloc (.cells #[.int .i64 1, .int .i64 5] 27)) W) => Begun1_calls W
 clear m0 m1 m2 m3 m4 n0 n1 n2 n3 n4 hA4 hB3 HB7
 go_wp2_with fail
 generalize w5.alloc (.cells #[.int .i64 1, .int .i64 5] 27) = w6 at HE6a HE6b HE6c HR6a HR6b HB6 m4' n3' ⊢
 generalize w5.heap.size = E3 at HE6c ⊢
 clear m4' n3'
 refine (Begun1_calls _ (HG.out.below HB6.out)).mono ?_
 rintro e w7 ⟨rfl, hb7⟩
 have HE7a := Lib.hid (blk_below HE6a.out hb7)
 have HE7b := Lib.hid (blk_below HE6b.out hb7)
 have HE7c := Lib.hid (blk_below HE6c.out hb7)
 have HR7a := Lib.hid (Kd.C_below HR6a.out hb7)
 have HR7b := Lib.hid (Kd.C_below HR6b.out hb7)
 have HB7 := Lib.hid (below_then HB6.out HB6.out.size hb7)
 clear hb7 HE6a HE6b HE6c HR6a HR6b HB6
 obtain ⟨aw, rfl, p10, _, p12⟩ := at_T34 HR7a.out 1 (by simp) (by simp)
 obtain ⟨aw2, e2, _, p21, _⟩ := at_T34 HR7a.out 2 (by simp) (by simp)
 obtain rfl := Option.some.inj e2
 obtain ⟨aw3, e3, p30, _, _⟩ := at_T34 HR7a.out 3 (by simp) (by simp)
 obtain rfl := Option.some.inj e3
 clear e2 e3
 rw [show (1 : Int).toNat * 3 = 3 from rfl, add_far _ 3 (by decide)] at p10 p12
 rw [show (2 : Int).toNat * 3 = 6 from rfl, add_far _ 6 (by decide)] at p21
 rw [show (3 : Int).toNat * 3 = 9 from rfl, add_far _ 9 (by decide)] at p30
 replace p10 : w7.cell? ⟨aw.block, aw.off + 3, none⟩ = some (.int .i64 2) := p10
 replace p12 : w7.cell? ⟨aw.block, aw.off + 3 + 2, none⟩ = some (.string ⟨#[65]⟩) := p12
 replace p21 : w7.cell? ⟨aw.block, aw.off + 6 + 1, none⟩ = some (.int .i64 9) := p21
 replace p30 : w7.cell? ⟨aw.block, aw.off + 9, none⟩ = some (.int .i64 4) := p30
 have k1 : w7.cell? ⟨E1, 0, none⟩ = some (.int .i64 0) := (blk_cell HE7a.out 0).trans rfl
 go_wp2_with fail
 refine (beg_quote _).mono ?_
 rintro e w8 ⟨rfl, hb8⟩
 have HE8b := Lib.hid (blk_below HE7b.out hb8)
 have HE8c := Lib.hid (blk_below HE7c.out hb8)
 have HR8b := Lib.hid (Kd.C_below HR7b.out hb8)
 have HB8 := Lib.hid (below_then HB7.out HB7.out.size hb8)
 clear hb8 HE7a HE7b HE7c HR7a HR7b HB7 p10 p12 p21 p30 k1
 have hw : ∃ A1 c1 bd c4 B3 d3, w8.cell? ⟨ad.block, ad.off + 1, none⟩ = some (.slice A1 2 c1) ∧ w8.cell? ⟨ad.block, ad.off + 4, none⟩ = some (.slice (some bd) 1 c4) ∧ w8.cell? ⟨bd.block, bd.off + 3, none⟩ = some (.slice (some B3) 1 d3) ∧ w8.cell? B3 = some (.string ⟨#[113, 10]⟩) := by
  obtain ⟨ad', A1, c1, A2, c2, A3, c3, A4, c4, e', -, -, -, hA4, m0, m1, m2, m3, m4⟩ := rule_at HR8b.out
  obtain rfl := Option.some.inj e'
  obtain ⟨bd, B2, d2, B3, d3, rfl, -, hB3, n0, n1, n2, n3, n4⟩ := step_at hA4
  obtain ⟨B, cs, rfl, hcl, hK, hcell⟩ := Kd.C_get hB3 (⟨#[113, 10]⟩ : ByteArray) 0 (by decide) (by decide)
  refine ⟨A1, c1, bd, c4, B, d3, m1, m4, n3, ?_⟩
  have := hcell 0 _ (show cs[0]? = some (.string ⟨#[113, 10]⟩) from by rw [show cs = [.string ⟨#[113, 10]⟩] from hK]; rfl)
  rwa [at_zero] at this
 obtain ⟨A1, c1, bd, c4, B3, d3, m1, m4, n3, n30⟩ := hw
 have k20 : w8.cell? ⟨E2, 0, none⟩ = some (.int .i64 0) := (blk_cell HE8b.out 0).trans rfl
 have k30 : w8.cell? ⟨E3, 0, none⟩ = some (.int .i64 1) := (blk_cell HE8c.out 0).trans rfl
 have k31 : w8.cell? ⟨E3, 1, none⟩ = some (.int .i64 5) := (blk_cell HE8c.out 1).trans rfl
 go_wp2_with fail
 refine (beg_file _ _ _ (HG.out.below HB8.out) HR8b.out).mono ?_
 rintro e w9 ⟨rfl, hb9⟩
 have HR9 := Lib.hid (Kd.C_below HR8b.out hb9)
 have HB9 := Lib.hid (below_then HB8.out HB8.out.size hb9)
 clear hb9 HE8b HE8c HR8b HB8 m1 m4 n3 n30 k20 k30 k31
 go_wp2_with fail
 refine (op_calls _ _).mono ?_
 rintro e w10 ⟨rfl, hw⟩
 rw [begOp]
 have hb10 : Below w9.heap.size w9 w10 := by rw [hw]; exact (Below.refl _ _).alloc (Nat.le_refl _) _
 have HR10 := Lib.hid (Kd.C_below HR9.out hb10)
 have HB10 := Lib.hid (below_then HB9.out HB9.out.size hb10)
 clear hw hb10 HR9 HB9
 go_wp2_with fail
 refine (opName_calls _ _).mono ?_
 rintro e w11 ⟨rfl, hb11⟩
 rw [begName]
 have HR11 := Lib.hid (Kd.C_below HR10.out hb11)
 have HB11 := Lib.hid (below_then HB10.out HB10.out.size hb11)
 clear hb11 HR10 HB10
 go_wp2_with fail
 refine (beg_sorted _ _ _ HR11.out).mono ?_
 rintro e w12 ⟨X, dX, rfl, hX, hb12⟩
 have HR12 := Lib.hid (Kd.C_below HR11.out hb12)
 have HX12 := Lib.hid hX
 have HB12 := Lib.hid (below_then HB11.out HB11.out.size hb12)
 clear hb12 hX HR11 HB11
 go_wp2_with fail
 refine (beg_sorted _ _ _ HR12.out).mono ?_
 rintro e w13 ⟨Y, dY, rfl, hY, hb13⟩
 have HR13 := Lib.hid (Kd.C_below HR12.out hb13)
 have HX13 := Lib.hid (Kd.C_below HX12.out hb13)
 have HY13 := Lib.hid hY
 have HB13 := Lib.hid (below_then HB12.out HB12.out.size hb13)
 clear hb13 hY HR12 HX12 HB12
 go_wp2_with fail
 refine (beg_eq _ _ _ _ _ HX13.out HY13.out).mono ?_
 rintro e w14 ⟨rfl, hb14⟩
 have HR14 := Lib.hid (Kd.C_below HR13.out hb14)
 have HB14 := Lib.hid (below_then HB13.out HB13.out.size hb14)
 clear hb14 HR13 HX13 HY13 HB13
 have hw : ∃ bd c4 B2 d2 B3 d3, w14.cell? ⟨ad.block, ad.off + 4, none⟩ = some (.slice (some bd) 1 c4) ∧ w14.cell? bd = some (.string ⟨#[120]⟩) ∧ w14.cell? ⟨bd.block, bd.off + 1, none⟩ = some (.int .i64 7) ∧ w14.cell? ⟨bd.block, bd.off + 2, none⟩ = some (.slice B2 1 d2) ∧ w14.cell? ⟨bd.block, bd.off + 3, none⟩ = some (.slice B3 1 d3) ∧ w14.cell? ⟨bd.block, bd.off + 4, none⟩ = some (.int .i64 0) ∧ Kd.C Kd.string w14 B2 1 [⟨#[97]⟩] ∧ Kd.C Kd.string w14 B3 1 [⟨#[113, 10]⟩] := by
  obtain ⟨ad', A1, c1, A2, c2, A3, c3, A4, c4, e', -, -, -, hA4, m0, m1, m2, m3, m4⟩ := rule_at HR14.out
  obtain rfl := Option.some.inj e'
  obtain ⟨bd, B2, d2, B3, d3, rfl, hB2, hB3, n0, n1, n2, n3, n4⟩ := step_at hA4
  exact ⟨bd, c4, B2, d2, B3, d3, m4, n0, n1, n2, n3, n4, hB2, hB3⟩
 obtain ⟨bd, c4, B2, d2, B3, d3, m4, n0, n1, n2, n3, n4, hB2, hB3⟩ := hw
 have hS := beg_step B2 d2 B3 d3 w14 (HG.out.below HB14.out) hB2 hB3
 clear hB2 hB3
 go_wp2_with fail
 refine hS.mono ?_
 rintro e w15 ⟨rfl, hb15⟩
 have HB15 := Lib.hid (below_then HB14.out HB14.out.size hb15)
 clear hb15
 go_wp2_with fail
 go_ret
 exact ⟨rfl, HB15.out⟩

end Go.Proofs.YthagibkmfgodgaaGreatDoor.X

namespace Go.Proofs.YthagibkmfgodgaaGreatDoor.X
open Go.RowKit Go.Maps Go.Proofs.YthagibkmfgodgaaGreatDoorW.PrintWords Go.Proofs.YthagibkmfgodgaaGreatDoorW.PrintMore Go.Proofs.YthagibkmfgodgaaGreatDoorW.PrintLast

set_option maxHeartbeats 2000000 in
theorem eqStr_same (A : Option Addr) (c : Nat) (B : Option Addr) (d : Nat) (l : List ByteArray) (w : World) (h1 : Kd.C Kd.string w A l.length l) (h2 : Kd.C Kd.string w B l.length l) :
 Calls Tryz.prog 53 #[.slice A l.length c, .slice B l.length d] w fun e w' => e = .returned (.bool true) ∧ Below w.heap.size w w' := by
 have hm := h1.2.1
 have H1 := Lib.hid h1
 have H2 := Lib.hid h2
 clear h1 h2
 go_enter Tryz.func53, Tryz.ntmps53
 go_wp2_with fail
 go_loopg [5] l.length (fun gg s13 wr => ∃ kk : Nat, kk ≤ l.length ∧ l.length - kk ≤ gg ∧ s13 = .int .i64 kk ∧ Aside0 (Below w.heap.size w wr))
 case atStart => exact ⟨0, by omega, by omega, rfl, ⟨Below.refl _ _⟩⟩
 case round =>
  obtain ⟨kk, hkk, hgk, rfl, HB⟩ := hrel
  by_cases hlt : kk < l.length
  · have hltz : (kk : Int) < (l.length : Int) := by omega
    rcases row_open (Kd.C_below H1.out HB.out) with h0 | ⟨b, o, rfl, _, hcell⟩
    · rw [h0] at hlt; simp at hlt
    rcases row_open (Kd.C_below H2.out HB.out) with h0 | ⟨b', o', rfl, _, hcell'⟩
    · rw [h0] at hlt; simp at hlt
    have hx : wr.cell? ⟨b, o + kk, none⟩ = some (.string (l.getD kk ByteArray.empty)) := hcell kk hlt
    have hx' : wr.cell? ⟨b', o' + kk, none⟩ = some (.string (l.getD kk ByteArray.empty)) := hcell' kk hlt
    generalize l.getD kk ByteArray.empty = y at hx hx'
    have HBd := Lib.hid (below_drew HB.out)
    clear hcell hcell'
    go_wp2_with fail
    go_region
    all_goals
     go_wp2
     go_roundg (l.length - (kk + 1))
     case measure => omega
     case rel => exact ⟨kk + 1, by omega, by omega, by go_num, ⟨HBd.out⟩⟩
  · have hltz : ¬ (kk : Int) < (l.length : Int) := by omega
    go_wp2
    go_ret
    exact ⟨rfl, HB.out⟩

set_option maxHeartbeats 4000000 in
set_option maxRecDepth 100000 in
theorem eqStep_same (x : SStep) (A2 : Option Addr) (c2 : Nat) (A3 : Option Addr) (c3 : Nat) (B2 : Option Addr) (d2 : Nat) (B3 : Option Addr) (d3 : Nat) (w : World)
 (h2 : Kd.C Kd.string w A2 x.f2.length x.f2) (h3 : Kd.C Kd.string w A3 x.f3.length x.f3) (g2 : Kd.C Kd.string w B2 x.f2.length x.f2) (g3 : Kd.C Kd.string w B3 x.f3.length x.f3) :
 Calls Tryz.prog 54 #[.agg #[.string x.f0, .int .i64 x.f1, .slice A2 x.f2.length c2, .slice A3 x.f3.length c3, .int .i64 x.f4], .agg #[.string x.f0, .int .i64 x.f1, .slice B2 x.f2.length d2, .slice B3 x.f3.length d3, .int .i64 x.f4]] w
  fun e w' => e = .returned (.bool true) ∧ Below w.heap.size w w' := by
 have hb1 := (Below.refl w.heap.size w).alloc (Nat.le_refl _) (.cells #[.string x.f0, .int .i64 x.f1, .slice A2 x.f2.length c2, .slice A3 x.f3.length c3, .int .i64 x.f4] 62)
 have hb2 := hb1.alloc hb1.size (.cells #[.string x.f0, .int .i64 x.f1, .slice B2 x.f2.length d2, .slice B3 x.f3.length d3, .int .i64 x.f4] 62)
 have hk := blk_alloc (blk_new w (.cells #[.string x.f0, .int .i64 x.f1, .slice A2 x.f2.length c2, .slice A3 x.f3.length c3, .int .i64 x.f4] 62)) (.cells #[.string x.f0, .int .i64 x.f1, .slice B2 x.f2.length d2, .slice B3 x.f3.length d3, .int .i64 x.f4] 62)
 have hz := blk_new (w.alloc (.cells #[.string x.f0, .int .i64 x.f1, .slice A2 x.f2.length c2, .slice A3 x.f3.length c3, .int .i64 x.f4] 62)) (.cells #[.string x.f0, .int .i64 x.f1, .slice B2 x.f2.length d2, .slice B3 x.f3.length d3, .int .i64 x.f4] 62)
 rw [World.size_alloc] at hz
 have HB2 := Lib.hid hb2
 have HK2 := Lib.hid hk
 have HZ2 := Lib.hid hz
 have hE2 : Hid (∀ W, Below w.heap.size w W → Calls Tryz.prog 53 #[.slice A2 x.f2.length c2, .slice B2 x.f2.length d2] W fun e w' => e = .returned (.bool true) ∧ Below W.heap.size W w') := fun W hW => eqStr_same A2 c2 B2 d2 x.f2 W (Kd.C_below h2 hW) (Kd.C_below g2 hW)
 have hE3 : Hid (∀ W, Below w.heap.size w W → Calls Tryz.prog 53 #[.slice A3 x.f3.length c3, .slice B3 x.f3.length d3] W fun e w' => e = .returned (.bool true) ∧ Below W.heap.size W w') := fun W hW => eqStr_same A3 c3 B3 d3 x.f3 W (Kd.C_below h3 hW) (Kd.C_below g3 hW)
 clear hb1 hb2 hk hz h2 h3 g2 g3
 go_enter Tryz.func54, Tryz.ntmps54
 go_wp2_with fail
 generalize (w.alloc (.cells #[.string x.f0, .int .i64 x.f1, .slice A2 x.f2.length c2, .slice A3 x.f3.length c3, .int .i64 x.f4] 62)).alloc (.cells #[.string x.f0, .int .i64 x.f1, .slice B2 x.f2.length d2, .slice B3 x.f3.length d3, .int .i64 x.f4] 62) = w2 at HB2 HK2 HZ2 ⊢
 refine (hE2.out _ HB2.out).mono ?_
 rintro e w3 ⟨rfl, hb3⟩
 have HB3 := Lib.hid (below_then HB2.out HB2.out.size hb3)
 have k3 : w3.cell? ⟨w.heap.size, 3, none⟩ = some (.slice A3 x.f3.length c3) := (blk_cell (blk_below HK2.out hb3) 3).trans rfl
 have j3 : w3.cell? ⟨w.heap.size + 1, 3, none⟩ = some (.slice B3 x.f3.length d3) := (blk_cell (blk_below HZ2.out hb3) 3).trans rfl
 clear hb3
 go_wp2_with fail
 refine (hE3.out _ HB3.out).mono ?_
 rintro e w4 ⟨rfl, hb4⟩
 have HB4 := Lib.hid (below_then HB3.out HB3.out.size hb4)
 clear hb4
 go_wp2_with fail
 go_ret
 exact ⟨rfl, HB4.out⟩


set_option maxHeartbeats 8000000 in
set_option maxRecDepth 100000 in
theorem eq_same (A : Option Addr) (c : Nat) (B : Option Addr) (d : Nat) (l : List SRule) (w : World) (h1 : Kd.C k49 w A l.length l) (h2 : Kd.C k49 w B l.length l) :
 Calls Tryz.prog 29 #[.slice A l.length c, .slice B l.length d] w (IsTrue w) := by
 have hlm : l.length ≤ 9223372036854775807 := h1.2.1
 have H1 := Lib.hid h1
 have H2 := Lib.hid h2
 clear h1 h2
 go_enter Tryz.func29, Tryz.ntmps29
 go_wp2_with fail
 go_loopg [5, 6, 7, 8] l.length (fun gg s5 _ _ _ wr => ∃ kk : Nat, kk ≤ l.length ∧ l.length - kk ≤ gg ∧ s5 = .int .i64 kk ∧ Aside0 (Below w.heap.size w wr))
 case atStart => exact ⟨0, Nat.zero_le _, by omega, rfl, ⟨Below.refl _ _⟩⟩
 case round =>
  obtain ⟨kk, hkk, hgk, rfl, HW⟩ := hrel
  obtain ⟨wo, hwo⟩ : ∃ v, v = wr := ⟨_, rfl⟩
  subst hwo
  by_cases hlt : kk < l.length
  · have hltz : (kk : Int) < (l.length : Int) := by omega
    obtain ⟨ad, A1, a1, A2, a2, A3, a3, A4, a4, e1, p0, p1, p2, p3, p4, q1, q2, q3, q4⟩ := at_T49 (Kd.C_below H1.out HW.out) (kk : Int) (by omega) hltz
    obtain ⟨bd, B1, b1, B2, b2, B3, b3, B4, b4, e2, n0, n1, n2, n3, n4, m1, m2, m3, m4⟩ := at_T49 (Kd.C_below H2.out HW.out) (kk : Int) (by omega) hltz
    subst e1 e2
    rw [Int.toNat_natCast] at p0 p1 p2 p3 p4 n0 n1 n2 n3 n4
    generalize rd_T49 l (kk : Int) = x at p0 p1 p2 p3 p4 q1 q2 q3 q4 n0 n1 n2 n3 n4 m1 m2 m3 m4
    have r0 := alloc_keep p0
    have r1 := alloc_keep p1
    have r2 := alloc_keep p2
    have r3 := alloc_keep p3
    have r4 := alloc_keep p4
    have s0 := alloc_keep n0
    have s1 := alloc_keep n1
    have s2 := alloc_keep n2
    have s3 := alloc_keep n3
    have s4 := alloc_keep n4
    have rr0 := fun ob => alloc_keep (r0 ob)
    have rr1 := fun ob => alloc_keep (r1 ob)
    have rr2 := fun ob => alloc_keep (r2 ob)
    have rr3 := fun ob => alloc_keep (r3 ob)
    have rr4 := fun ob => alloc_keep (r4 ob)
    have ss0 := fun ob => alloc_keep (s0 ob)
    have ss1 := fun ob => alloc_keep (s1 ob)
    have ss2 := fun ob => alloc_keep (s2 ob)
    have ss3 := fun ob => alloc_keep (s3 ob)
    have ss4 := fun ob => alloc_keep (s4 ob)
    have HE1 : Hid (∀ W', Below wo.heap.size wo W' → Calls Tryz.prog 53 #[.slice A1 x.f1.length a1, .slice B1 x.f1.length b1] W' (IsTrue W')) := fun W' hW => eqStr_same A1 a1 B1 b1 x.f1 W' (Kd.C_below q2 hW) (Kd.C_below m2 hW)
    have HE2 : Hid (∀ W', Below wo.heap.size wo W' → Calls Tryz.prog 53 #[.slice A2 x.f2.length a2, .slice B2 x.f2.length b2] W' (IsTrue W')) := fun W' hW => eqStr_same A2 a2 B2 b2 x.f2 W' (Kd.C_below q4.1 hW) (Kd.C_below m4.1 hW)
    have HE3 : Hid (∀ W', Below wo.heap.size wo W' → Calls Tryz.prog 53 #[.slice A3 x.f3.length a3, .slice B3 x.f3.length b3] W' (IsTrue W')) := fun W' hW => eqStr_same A3 a3 B3 b3 x.f3 W' (Kd.C_below q4.2.2.1 hW) (Kd.C_below m4.2.2.1 hW)
    have HA4 := Lib.hid q4.2.2.2.2
    have HB4 := Lib.hid m4.2.2.2.2
    have hl4 : x.f4.length ≤ 9223372036854775807 := HA4.out.2.1
    clear q1 q2 q3 q4 m1 m2 m3 m4
    go_wp2_with fail
    go_region
    clear p0 p1 p2 p3 p4 n0 n1 n2 n3 n4 r0 r1 r2 r3 r4 s0 s1 s2 s3 s4 rr0 rr1 rr2 rr3 rr4 ss0 ss1 ss2 ss3 ss4
    have hB := below_drew (((Below.refl wo.heap.size wo).alloc (Nat.le_refl _) (.cells #[.string x.f0, .slice A1 x.f1.length a1, .slice A2 x.f2.length a2, .slice A3 x.f3.length a3, .slice A4 x.f4.length a4] 49)).alloc (by rw [World.size_alloc]; omega) (.cells #[.string x.f0, .slice B1 x.f1.length b1, .slice B2 x.f2.length b2, .slice B3 x.f3.length b3, .slice B4 x.f4.length b4] 49))
    have hX := blk_drew (blk_alloc (blk_new wo (.cells #[.string x.f0, .slice A1 x.f1.length a1, .slice A2 x.f2.length a2, .slice A3 x.f3.length a3, .slice A4 x.f4.length a4] 49)) (.cells #[.string x.f0, .slice B1 x.f1.length b1, .slice B2 x.f2.length b2, .slice B3 x.f3.length b3, .slice B4 x.f4.length b4] 49))
    have hY := blk_drew (blk_new (wo.alloc (.cells #[.string x.f0, .slice A1 x.f1.length a1, .slice A2 x.f2.length a2, .slice A3 x.f3.length a3, .slice A4 x.f4.length a4] 49)) (.cells #[.string x.f0, .slice B1 x.f1.length b1, .slice B2 x.f2.length b2, .slice B3 x.f3.length b3, .slice B4 x.f4.length b4] 49))
    rw [World.size_alloc] at hY
    generalize ((wo.alloc (.cells #[.string x.f0, .slice A1 x.f1.length a1, .slice A2 x.f2.length a2, .slice A3 x.f3.length a3, .slice A4 x.f4.length a4] 49)).alloc (.cells #[.string x.f0, .slice B1 x.f1.length b1, .slice B2 x.f2.length b2, .slice B3 x.f3.length b3, .slice B4 x.f4.length b4] 49)).drew = W at hB hX hY ⊢
    generalize wo.heap.size + 1 = Q at hY ⊢
    have HB := Lib.hid (below_then HW.out HW.out.size hB)
    have HBr := Lib.hid hB
    clear hB
    generalize wo.heap.size = P at hX ⊢
    rotate_left
    clear p0 p1 p2 p3 p4 n0 n1 n2 n3 n4 r0 r1 r2 r3 r4 s0 s1 s2 s3 s4 rr0 rr1 rr2 rr3 rr4 ss0 ss1 ss2 ss3 ss4
    have hB := below_drew (((Below.refl wo.heap.size wo).alloc (Nat.le_refl _) (.cells #[.string x.f0, .slice B1 x.f1.length b1, .slice B2 x.f2.length b2, .slice B3 x.f3.length b3, .slice B4 x.f4.length b4] 49)).alloc (by rw [World.size_alloc]; omega) (.cells #[.string x.f0, .slice A1 x.f1.length a1, .slice A2 x.f2.length a2, .slice A3 x.f3.length a3, .slice A4 x.f4.length a4] 49))
    have hY := blk_drew (blk_alloc (blk_new wo (.cells #[.string x.f0, .slice B1 x.f1.length b1, .slice B2 x.f2.length b2, .slice B3 x.f3.length b3, .slice B4 x.f4.length b4] 49)) (.cells #[.string x.f0, .slice A1 x.f1.length a1, .slice A2 x.f2.length a2, .slice A3 x.f3.length a3, .slice A4 x.f4.length a4] 49))
    have hX := blk_drew (blk_new (wo.alloc (.cells #[.string x.f0, .slice B1 x.f1.length b1, .slice B2 x.f2.length b2, .slice B3 x.f3.length b3, .slice B4 x.f4.length b4] 49)) (.cells #[.string x.f0, .slice A1 x.f1.length a1, .slice A2 x.f2.length a2, .slice A3 x.f3.length a3, .slice A4 x.f4.length a4] 49))
    rw [World.size_alloc] at hX
    generalize ((wo.alloc (.cells #[.string x.f0, .slice B1 x.f1.length b1, .slice B2 x.f2.length b2, .slice B3 x.f3.length b3, .slice B4 x.f4.length b4] 49)).alloc (.cells #[.string x.f0, .slice A1 x.f1.length a1, .slice A2 x.f2.length a2, .slice A3 x.f3.length a3, .slice A4 x.f4.length a4] 49)).drew = W at hB hX hY ⊢
    generalize wo.heap.size + 1 = P at hX ⊢
    have HB := Lib.hid (below_then HW.out HW.out.size hB)
    have HBr := Lib.hid hB
    clear hB
    generalize wo.heap.size = Q at hY ⊢
    rotate_left
    all_goals
     have HX := Lib.hid hX
     have HY := Lib.hid hY
     have x0 : W.cell? ⟨P, 0, none⟩ = some (.string x.f0) := (blk_cell hX 0).trans rfl
     have x1 : W.cell? ⟨P, 1, none⟩ = some (.slice A1 x.f1.length a1) := (blk_cell hX 1).trans rfl
     have y0 : W.cell? ⟨Q, 0, none⟩ = some (.string x.f0) := (blk_cell hY 0).trans rfl
     have y1 : W.cell? ⟨Q, 1, none⟩ = some (.slice B1 x.f1.length b1) := (blk_cell hY 1).trans rfl
     clear hX hY
     go_wp2_with fail
     refine (HE1.out _ HBr.out).mono ?_
     rintro e W1 ⟨rfl, hb1⟩
     have HB1 := Lib.hid (HBr.out.trans (hb1.mono HBr.out.size))
     have HX1 := Lib.hid (blk_below HX.out hb1)
     have HY1 := Lib.hid (blk_below HY.out hb1)
     clear x0 x1 y0 y1 hb1 HX HY HBr HB
     have x2 : W1.cell? ⟨P, 2, none⟩ = some (.slice A2 x.f2.length a2) := (blk_cell HX1.out 2).trans rfl
     have y2 : W1.cell? ⟨Q, 2, none⟩ = some (.slice B2 x.f2.length b2) := (blk_cell HY1.out 2).trans rfl
     go_wp2_with fail
     refine (HE2.out _ HB1.out).mono ?_
     rintro e W2 ⟨rfl, hb2⟩
     have HB2 := Lib.hid (HB1.out.trans (hb2.mono HB1.out.size))
     have HX2 := Lib.hid (blk_below HX1.out hb2)
     have HY2 := Lib.hid (blk_below HY1.out hb2)
     clear x2 y2 hb2 HX1 HY1 HB1
     have x3 : W2.cell? ⟨P, 3, none⟩ = some (.slice A3 x.f3.length a3) := (blk_cell HX2.out 3).trans rfl
     have y3 : W2.cell? ⟨Q, 3, none⟩ = some (.slice B3 x.f3.length b3) := (blk_cell HY2.out 3).trans rfl
     go_wp2_with fail
     refine (HE3.out _ HB2.out).mono ?_
     rintro e W3 ⟨rfl, hb3⟩
     have HB3 := Lib.hid (HB2.out.trans (hb3.mono HB2.out.size))
     have HX3 := Lib.hid (blk_below HX2.out hb3)
     have HY3 := Lib.hid (blk_below HY2.out hb3)
     clear x3 y3 hb3 HX2 HY2 HB2
     have x4 : W3.cell? ⟨P, 4, none⟩ = some (.slice A4 x.f4.length a4) := (blk_cell HX3.out 4).trans rfl
     have y4 : W3.cell? ⟨Q, 4, none⟩ = some (.slice B4 x.f4.length b4) := (blk_cell HY3.out 4).trans rfl
     go_wp2_with fail
     clear x4 y4
     go_loopg [8] x.f4.length (fun gj s8 wr => ∃ jj : Nat, jj ≤ x.f4.length ∧ x.f4.length - jj ≤ gj ∧ s8 = .int .i64 jj ∧ Aside0 (Below wo.heap.size wo wr) ∧ Aside0 (Below W3.heap.size W3 wr))
     case atStart => exact ⟨0, Nat.zero_le _, by omega, rfl, ⟨HB3.out⟩, ⟨Below.refl _ _⟩⟩
     case round =>
      obtain ⟨jj, hjj, hgj, rfl, HI, HJ⟩ := hrel
      have x4 : wr.cell? ⟨P, 4, none⟩ = some (.slice A4 x.f4.length a4) := (blk_cell (blk_below HX3.out HJ.out) 4).trans rfl
      have y4 : wr.cell? ⟨Q, 4, none⟩ = some (.slice B4 x.f4.length b4) := (blk_cell (blk_below HY3.out HJ.out) 4).trans rfl
      by_cases hlj : jj < x.f4.length
      · have hljz : (jj : Int) < (x.f4.length : Int) := by omega
        obtain ⟨ed, C2, c2, C3, c3, e1, p0, p1, p2, p3, p4, q1, q2, q3, q4⟩ := at_T62 (Kd.C_below HA4.out HI.out) (jj : Int) (by omega) hljz
        obtain ⟨fd, D2, d2, D3, d3, e2, n0, n1, n2, n3, n4, m1, m2, m3, m4⟩ := at_T62 (Kd.C_below HB4.out HI.out) (jj : Int) (by omega) hljz
        subst e1 e2
        rw [Int.toNat_natCast] at p0 p1 p2 p3 p4 n0 n1 n2 n3 n4
        have hS := fun W' (hW : Below wr.heap.size wr W') => eqStep_same (rd_T62 x.f4 (jj : Int)) C2 c2 C3 c3 D2 d2 D3 d3 W' (Kd.C_below q2 hW) (Kd.C_below q4 hW) (Kd.C_below m2 hW) (Kd.C_below m4 hW)
        generalize rd_T62 x.f4 (jj : Int) = z at p0 p1 p2 p3 p4 n0 n1 n2 n3 n4 hS
        have HS := Lib.hid hS
        clear q1 q2 q3 q4 m1 m2 m3 m4 hS
        go_wp2_with fail
        go_region_law (go_simp; go_at_call 54; refine (HS.out _ (below_drew (Below.refl _ _))).mono ?_; rintro e w5 ⟨rfl, hb5⟩; have HI5 := Lib.hid (HI.out.trans ((below_drew (Below.refl _ _)).trans hb5 |>.mono HI.out.size)); have HJ5 := Lib.hid (HJ.out.trans ((below_drew (Below.refl _ _)).trans hb5 |>.mono HJ.out.size)); clear hb5)
        all_goals
         go_wp2_with fail
         go_roundg (x.f4.length - (jj + 1))
         case measure => omega
         case rel => exact ⟨jj + 1, by omega, by omega, by go_num, ⟨HI5.out⟩, ⟨HJ5.out⟩⟩
      · have hljz : ¬ (jj : Int) < (x.f4.length : Int) := by omega
        go_wp2_with fail
        go_roundg (l.length - (kk + 1))
        case measure => omega
        case rel => exact ⟨kk + 1, by omega, by omega, by go_num, ⟨HW.out.trans (HI.out.mono HW.out.size)⟩⟩
  · have hltz : ¬ (kk : Int) < (l.length : Int) := by omega
    go_wp2
    go_ret
    exact ⟨rfl, HW.out⟩

end Go.Proofs.YthagibkmfgodgaaGreatDoor.X

namespace Go.Proofs.YthagibkmfgodgaaGreatDoor.X
open Go.RowKit Go.Maps Go.Proofs.YthagibkmfgodgaaGreatDoorW.PrintWords Go.Proofs.YthagibkmfgodgaaGreatDoorW.PrintMore Go.Proofs.YthagibkmfgodgaaGreatDoor.Pb

theorem short_f (s : ByteArray) (n : Nat) : shipwrightlaw1_Short.f s (n : Int) = some (mk (s.data.toList.take n)) := by
 unfold shipwrightlaw1_Short.f mn
 have hz := Lib.size_eq s
 have key : ∀ m : Nat, m ≤ s.size → s.data.toList.take m = s.data.toList.take n → (s.extract 0 ((m : Int)).toNat) = mk (s.data.toList.take n) := by
  intro m _ hm
  apply data_inj
  rw [mk_data, ← hm]
  simp [ByteArray.data_extract]
 rcases Nat.lt_or_ge n s.size with h | h
 · rw [if_pos (show (n : Int) < (s.size : Int) by omega), if_pos (show (0 : Int) ≤ (n : Int) by omega), if_pos (show (n : Int) ≤ (s.size : Int) by omega), key n (by omega) rfl]
 · rw [if_neg (show ¬ (n : Int) < (s.size : Int) by omega), if_pos (show (0 : Int) ≤ (s.size : Int) by omega), if_pos (Int.le_refl _), key s.size (Nat.le_refl _) (by rw [List.take_of_length_le (by omega), List.take_of_length_le (by omega)])]

end Go.Proofs.YthagibkmfgodgaaGreatDoor.X

namespace Go.Proofs.YthagibkmfgodgaaGreatDoor.X
open Go.RowKit Go.Maps Go.Proofs.YthagibkmfgodgaaGreatDoorW.PrintWords Go.Proofs.YthagibkmfgodgaaGreatDoorW.PrintMore Go.Proofs.YthagibkmfgodgaaGreatDoorW.PrintLast Go.Proofs.YthagibkmfgodgaaGreatDoor.Pb

set_option maxHeartbeats 4000000 in
theorem reads_calls (t : ByteArray) (w : World) (hG : GOK w) :
 Calls Tryz.prog 23 #[.string t] w (IsTrue w) := by
 have hA := fun W hW => file_calls t W hW
 have hB := fun W hW => rfile_calls t W hW
 generalize fileT t.data.toList = T at hA hB
 have HG := Lib.hid hG
 clear hG
 go_enter Tryz.func23, Tryz.ntmps23
 go_wp2_with fail
 refine (hA _ HG.out).mono ?_
 rintro e w3 ⟨v, rfl, hR, hb3⟩
 obtain ⟨A, c, rfl, hc, hr3⟩ := Kd.R_reads hR
 have hb4 := (Below.refl w3.heap.size w3).alloc (Nat.le_refl _) (.cells #[.int .i64 T.2.1, .int .i64 T.2.2] 27)
 have HE4 := Lib.hid (blk_new w3 (.cells #[.int .i64 T.2.1, .int .i64 T.2.2] 27))
 have HR4 := Lib.hid (Kd.C_below hr3 hb4)
 have HB4 := Lib.hid (below_then hb3 hb3.size hb4)
 clear hA hR hb3 hr3 hb4 hc
 go_wp2_with fail
 generalize w3.alloc (.cells #[.int .i64 T.2.1, .int .i64 T.2.2] 27) = w4 at HE4 HR4 HB4 ⊢
 generalize w3.heap.size = E1 at HE4 ⊢
 refine (hB _ (HG.out.below HB4.out)).mono ?_
 rintro e w5 ⟨v, rfl, hR, hb5⟩
 obtain ⟨B, d, rfl, hd, hr5⟩ := Kd.R_reads hR
 have hb6 := (Below.refl w5.heap.size w5).alloc (Nat.le_refl _) (.cells #[.int .i64 T.2.1, .int .i64 T.2.2] 27)
 have HE6 := Lib.hid (blk_new w5 (.cells #[.int .i64 T.2.1, .int .i64 T.2.2] 27))
 have HE5 := Lib.hid (blk_below (blk_below HE4.out hb5) hb6)
 have HR6 := Lib.hid (Kd.C_below hr5 hb6)
 have HR5 := Lib.hid (Kd.C_below (Kd.C_below HR4.out hb5) hb6)
 have HB6 := Lib.hid (below_then (below_then HB4.out HB4.out.size hb5) (below_then HB4.out HB4.out.size hb5).size hb6)
 clear hB hR hb5 hr5 hb6 hd HB4 HR4 HE4
 go_wp2_with fail
 generalize w5.alloc (.cells #[.int .i64 T.2.1, .int .i64 T.2.2] 27) = w6 at HE6 HE5 HR6 HR5 HB6 ⊢
 generalize w5.heap.size = E2 at HE6 ⊢
 refine (eq_same A c B d T.1 _ HR5.out HR6.out).mono ?_
 rintro e w7 ⟨rfl, hb7⟩
 have h1 := blk_below HE5.out hb7
 have h2 := blk_below HE6.out hb7
 have k10 : w7.cell? ⟨E1, 0, none⟩ = some (.int .i64 T.2.1) := (blk_cell h1 0).trans rfl
 have k11 : w7.cell? ⟨E1, 1, none⟩ = some (.int .i64 T.2.2) := (blk_cell h1 1).trans rfl
 have k20 : w7.cell? ⟨E2, 0, none⟩ = some (.int .i64 T.2.1) := (blk_cell h2 0).trans rfl
 have k21 : w7.cell? ⟨E2, 1, none⟩ = some (.int .i64 T.2.2) := (blk_cell h2 1).trans rfl
 have HB7 := Lib.hid (below_then HB6.out HB6.out.size hb7)
 clear h1 h2 hb7 HE5 HE6 HR5 HR6 HB6
 go_wp2_with fail
 go_ret
 exact ⟨rfl, HB7.out⟩

end Go.Proofs.YthagibkmfgodgaaGreatDoor.X

namespace Go.Proofs.YthagibkmfgodgaaGreatDoor.X
open Go.RowKit Go.Maps Go.Proofs.YthagibkmfgodgaaGreatDoorW.PrintWords Go.Proofs.YthagibkmfgodgaaGreatDoorW.PrintMore Go.Proofs.YthagibkmfgodgaaGreatDoorW.PrintLast

set_option linter.unusedSimpArgs false
theorem share8 {α1 α2 α3 α4 α5 α6 α7 α8 : Type} {F G : α1 → α2 → α3 → α4 → α5 → α6 → α7 → α8 → Prop} {R : Prop}
 (main : (∀ a b c d e f g h, F a b c d e f g h → G a b c d e f g h) → R) (tail : ∀ a b c d e f g h, F a b c d e f g h → G a b c d e f g h) : R := main tail
theorem share5 {α1 α2 α3 α4 α5 : Type} {F G : α1 → α2 → α3 → α4 → α5 → Prop} {R : Prop}
 (main : (∀ a b c d e, F a b c d e → G a b c d e) → R) (tail : ∀ a b c d e, F a b c d e → G a b c d e) : R := main tail
theorem to_alloc {w2 wc W : World} (hb : Below w2.heap.size w2 wc) (h : W = wc ∨ ∃ ob, W = wc.alloc ob) : Below w2.heap.size w2 W := by
 rcases h with rfl | ⟨ob, rfl⟩
 · exact hb
 · exact hb.alloc hb.size _
theorem nxt {wc W w4 : World} (hb : Below W.heap.size W w4) (h : W = wc ∨ ∃ ob, W = wc.alloc ob) : Below wc.heap.size wc w4 :=
 below_then (to_alloc (Below.refl _ _) h) (to_alloc (Below.refl _ _) h).size hb
section
variable {P : Program} {ops : Array Oper} {o : Oper} {a : Act} {Kc : Act → World → Prop} {Q : Exit → Act → World → Prop} {W : World}
theorem app_nil_step (hw : Region.wanted o (yielded ops a.tmps) = true) (x : Operand)
 (ho : o.op = .call { callee := .builtin .append, args := #[.const (.slice none 0 0), x], argTypes := #[46, 46] })
 (ht : P.underlying 46 = some (.slice 9)) (hinfo : (P.info? 9).map (fun i => (i.zero, i.size, i.bytes)) = some (some (.string ⟨#[]⟩), 1, 16))
 (l : List ByteArray) (A : Option Addr) (c : Nat) (hx : a.eval x = .slice A l.length c) (HR : Kd.C Kd.string W A l.length l) (hl : l.length * 16 ≤ 140737488355328)
 (h : ∀ X d w1, RS w1 W.heap.size (.slice X l.length d) l → Below W.heap.size W w1 → Kc (a.put o.dst (.slice X l.length d)) w1) :
 if Region.wanted o (yielded ops a.tmps) = true then Oper.wp P o a W Kc Q else Kc (a.put o.dst undef) W := by
 refine Kd.R_append_rows_step Kd.string (w0 := W) W.heap.size hw (.const (.slice none 0 0)) x 46 9 (.string ⟨#[]⟩) 16 ho ht hinfo rfl (by decide) (by decide) (.slice none 0 0) [] l A l.length c (fun _ => True) (fun k_ => True ∧ some k_ ≠ (Value.slice none 0 0).ownBlock) rfl hx (Kd.R_nil _ _ _ _ _) HR (fun _ _ h => h) (fun _ hk => hk) (fun _ _ => trivial) (Below.refl _ _) (Nat.le_refl _) (by simpa using hl) ?_
 intro v1 w1 ho1 hb1 _ _
 obtain ⟨X, d, rfl, _, _⟩ := Kd.R_reads ho1
 exact h X d w1 ho1 hb1
end

def CopyF (w2 : World) (f0 : ByteArray) (l1 l2 l3 : List ByteArray) (X1 : Option Addr) (d1 : Nat) (X2 : Option Addr) (d2 : Nat) (X3 : Option Addr) (d3 : Nat) (G : Nat) (W : World) : Prop :=
 Below w2.heap.size w2 W ∧ W.heap[G]? = some (.cells #[.string f0, .slice X1 l1.length d1, .slice X2 l2.length d2, .slice X3 l3.length d3, .slice none 0 0] 49 (0, 0)) ∧ w2.heap.size ≤ G ∧ RS W w2.heap.size (.slice X1 l1.length d1) l1 ∧ RS W w2.heap.size (.slice X2 l2.length d2) l2 ∧ RS W w2.heap.size (.slice X3 l3.length d3) l3
def IsRule (r : SRule) (w : World) (e : Ending) (w' : World) : Prop :=
 ∃ X1 d1 X2 d2 X3 d3 X4 d4, e = .returned (.agg #[.string r.f0, .slice X1 r.f1.length d1, .slice X2 r.f2.length d2, .slice X3 r.f3.length d3, .slice X4 r.f4.length d4]) ∧
  RS w' w.heap.size (.slice X1 r.f1.length d1) r.f1 ∧ RS w' w.heap.size (.slice X2 r.f2.length d2) r.f2 ∧ RS w' w.heap.size (.slice X3 r.f3.length d3) r.f3 ∧ Kd.R k62 62 w' w.heap.size (fun _ => True) (.slice X4 r.f4.length d4) r.f4 ∧ Below w.heap.size w w'
set_option maxHeartbeats 8000000 in
set_option maxRecDepth 100000 in
theorem copy_calls (r : SRule) (A1 : Option Addr) (c1 : Nat) (A2 : Option Addr) (c2 : Nat) (A3 : Option Addr) (c3 : Nat) (A4 : Option Addr) (c4 : Nat) (w : World)
 (h1 : Kd.C Kd.string w A1 r.f1.length r.f1) (h2 : Kd.C Kd.string w A2 r.f2.length r.f2) (h3 : Kd.C Kd.string w A3 r.f3.length r.f3) (h4 : Kd.C k62 w A4 r.f4.length r.f4)
 (hls : ∀ x ∈ r.f4, x.f2.length * 16 ≤ 140737488355328 ∧ x.f3.length * 16 ≤ 140737488355328)
 (hl1 : r.f1.length * 16 ≤ 140737488355328) (hl2 : r.f2.length * 16 ≤ 140737488355328) (hl3 : r.f3.length * 16 ≤ 140737488355328) (hl4 : r.f4.length * 80 ≤ 140737488355328) :
 Calls Tryz.prog 31 #[.agg #[.string r.f0, .slice A1 r.f1.length c1, .slice A2 r.f2.length c2, .slice A3 r.f3.length c3, .slice A4 r.f4.length c4]] w (IsRule r w) := by
 obtain ⟨f0, l1, l2, l3, l4⟩ := r
 dsimp only at *
 have hb1 := (Below.refl w.heap.size w).alloc (Nat.le_refl _) (.cells #[.string f0, .slice A1 l1.length c1, .slice A2 l2.length c2, .slice A3 l3.length c3, .slice A4 l4.length c4] 49)
 have hb2 := hb1.alloc hb1.size (.cells RUz 49)
 have hk := blk_alloc (blk_new w (.cells #[.string f0, .slice A1 l1.length c1, .slice A2 l2.length c2, .slice A3 l3.length c3, .slice A4 l4.length c4] 49)) (.cells RUz 49)
 have hz := blk_new (w.alloc (.cells #[.string f0, .slice A1 l1.length c1, .slice A2 l2.length c2, .slice A3 l3.length c3, .slice A4 l4.length c4] 49)) (.cells RUz 49)
 rw [World.size_alloc] at hz
 have HB2 := Lib.hid hb2
 have HK2 := Lib.hid hk
 have HZ2 := Lib.hid hz
 have H1 := Lib.hid (Kd.C_below h1 hb2)
 have H2 := Lib.hid (Kd.C_below h2 hb2)
 have H3 := Lib.hid (Kd.C_below h3 hb2)
 have H4 := Lib.hid (Kd.C_below h4 hb2)
 have HL1 := Lib.hid hl1
 have HL2 := Lib.hid hl2
 have HL3 := Lib.hid hl3
 have HL4 := Lib.hid hl4
 have HLS := Lib.hid hls
 clear hb1 hb2 hk hz h1 h2 h3 h4 hl1 hl2 hl3 hl4 hls
 go_enter Tryz.func31, Tryz.ntmps31
 go_wp2_with fail
 generalize (w.alloc (.cells #[.string f0, .slice A1 l1.length c1, .slice A2 l2.length c2, .slice A3 l3.length c3, .slice A4 l4.length c4] 49)).alloc (.cells RUz 49) = w2 at HB2 HK2 HZ2 H1 H2 H3 H4 ⊢
 have HBc : Hid (Below w2.heap.size w2 w2.drew) := Lib.hid (below_drew (Below.refl _ _))
 have Sof : ∀ W, Below w2.heap.size w2 W → W.cell? ⟨w.heap.size, 0, none⟩ = some (.string f0) ∧ W.cell? ⟨w.heap.size, 1, none⟩ = some (.slice A1 l1.length c1) ∧ W.cell? ⟨w.heap.size, 2, none⟩ = some (.slice A2 l2.length c2) ∧ W.cell? ⟨w.heap.size, 3, none⟩ = some (.slice A3 l3.length c3) := fun W hW =>
  ⟨(blk_cell (blk_below HK2.out hW) 0).trans rfl, (blk_cell (blk_below HK2.out hW) 1).trans rfl, (blk_cell (blk_below HK2.out hW) 2).trans rfl, (blk_cell (blk_below HK2.out hW) 3).trans rfl⟩
 have HS := Lib.hid Sof
 clear Sof
 apply share8 (F := CopyF w2 f0 l1 l2 l3)
 · intro tail
   go_region_held3 (fun W => W.cell? ⟨w.heap.size, 0, none⟩ = some (.string f0) ∧ W.cell? ⟨w.heap.size, 1, none⟩ = some (.slice A1 l1.length c1) ∧ W.cell? ⟨w.heap.size, 2, none⟩ = some (.slice A2 l2.length c2) ∧ W.cell? ⟨w.heap.size, 3, none⟩ = some (.slice A3 l3.length c3))
    (exact HS.out _ (by first | exact HBc.out | exact to_alloc HBc.out (.inr ⟨_, rfl⟩) | exact ((((HBc.out.setCell HXG.out _).setCell HXG.out _).setCell HXG.out _).setCell HXG.out _).setCell HXG.out _))
    (first
     | (refine app_nil_step (by rfl) (.tmp 9) rfl Tryz.underlying46 infoStr l1 A1 c1 (by rfl) (Kd.C_below H1.out (to_alloc HBc.out (by first | exact .inl rfl | exact .inr ⟨_, rfl⟩))) HL1.out ?_; intro X1 d1 w4 ho hb; replace ho := Kd.R_lower ho (to_alloc HBc.out (by first | exact .inl rfl | exact .inr ⟨_, rfl⟩)).size; (try first | (replace HX := Lib.hid (blk_below HX.out (nxt hb (by first | exact .inl rfl | exact .inr ⟨_, rfl⟩)))) | (have HX := Lib.hid (blk_below (blk_new _ _) hb); have HXG := Lib.hid HBc.out.size) | (have HX := Lib.hid (blk_below (blk_drew (blk_new w2 _)) hb); have HXG := Lib.hid (Nat.le_refl w2.heap.size))); have HBc := Lib.hid (below_then HBc.out HBc.out.size (nxt hb (by first | exact .inl rfl | exact .inr ⟨_, rfl⟩))); have HO1 := Lib.hid ho; (try (have z0 := (blk_cell HX.out 0).trans rfl; have z1 := (blk_cell HX.out 1).trans rfl; have z2 := (blk_cell HX.out 2).trans rfl; have z3 := (blk_cell HX.out 3).trans rfl; have z4 := (blk_cell HX.out 4).trans rfl; have y0 := blk_frozen HX.out 0; have y1 := blk_frozen HX.out 1; have y2 := blk_frozen HX.out 2; have y3 := blk_frozen HX.out 3; have y4 := blk_frozen HX.out 4)); clear ho hb)
     | (refine app_nil_step (by rfl) (.tmp 12) rfl Tryz.underlying46 infoStr l2 A2 c2 (by rfl) (Kd.C_below H2.out (to_alloc HBc.out (by first | exact .inl rfl | exact .inr ⟨_, rfl⟩))) HL2.out ?_; intro X2 d2 w4 ho hb; replace ho := Kd.R_lower ho (to_alloc HBc.out (by first | exact .inl rfl | exact .inr ⟨_, rfl⟩)).size; (try first | (replace HX := Lib.hid (blk_below HX.out (nxt hb (by first | exact .inl rfl | exact .inr ⟨_, rfl⟩)))) | (have HX := Lib.hid (blk_below (blk_new _ _) hb); have HXG := Lib.hid HBc.out.size)); have HBc := Lib.hid (below_then HBc.out HBc.out.size (nxt hb (by first | exact .inl rfl | exact .inr ⟨_, rfl⟩))); have HO1 := Lib.hid (Kd.R_below HO1.out (nxt hb (by first | exact .inl rfl | exact .inr ⟨_, rfl⟩))); have HO2 := Lib.hid ho; (try (have z0 := (blk_cell HX.out 0).trans rfl; have z1 := (blk_cell HX.out 1).trans rfl; have z2 := (blk_cell HX.out 2).trans rfl; have z3 := (blk_cell HX.out 3).trans rfl; have z4 := (blk_cell HX.out 4).trans rfl; have y0 := blk_frozen HX.out 0; have y1 := blk_frozen HX.out 1; have y2 := blk_frozen HX.out 2; have y3 := blk_frozen HX.out 3; have y4 := blk_frozen HX.out 4)); clear ho hb)
     | (refine app_nil_step (by rfl) (.tmp 15) rfl Tryz.underlying46 infoStr l3 A3 c3 (by rfl) (Kd.C_below H3.out (to_alloc HBc.out (by first | exact .inl rfl | exact .inr ⟨_, rfl⟩))) HL3.out ?_; intro X3 d3 w4 ho hb; replace ho := Kd.R_lower ho (to_alloc HBc.out (by first | exact .inl rfl | exact .inr ⟨_, rfl⟩)).size; (try first | (replace HX := Lib.hid (blk_below HX.out (nxt hb (by first | exact .inl rfl | exact .inr ⟨_, rfl⟩)))) | (have HX := Lib.hid (blk_below (blk_new _ _) hb); have HXG := Lib.hid HBc.out.size)); have HBc := Lib.hid (below_then HBc.out HBc.out.size (nxt hb (by first | exact .inl rfl | exact .inr ⟨_, rfl⟩))); have HO1 := Lib.hid (Kd.R_below HO1.out (nxt hb (by first | exact .inl rfl | exact .inr ⟨_, rfl⟩))); have HO2 := Lib.hid (Kd.R_below HO2.out (nxt hb (by first | exact .inl rfl | exact .inr ⟨_, rfl⟩))); have HO3 := Lib.hid ho; (try (have z0 := (blk_cell HX.out 0).trans rfl; have z1 := (blk_cell HX.out 1).trans rfl; have z2 := (blk_cell HX.out 2).trans rfl; have z3 := (blk_cell HX.out 3).trans rfl; have z4 := (blk_cell HX.out 4).trans rfl; have y0 := blk_frozen HX.out 0; have y1 := blk_frozen HX.out 1; have y2 := blk_frozen HX.out 2; have y3 := blk_frozen HX.out 3; have y4 := blk_frozen HX.out 4)); clear ho hb))
   · have ha := (Below.refl w4.heap.size w4).alloc (Nat.le_refl _) (.cells #[.string f0, .slice X1 l1.length d1, .slice X2 l2.length d2, .slice X3 l3.length d3, .slice none 0 0] 49)
     have hF : CopyF w2 f0 l1 l2 l3 X1 d1 X2 d2 X3 d3 w4.heap.size (w4.alloc (.cells #[.string f0, .slice X1 l1.length d1, .slice X2 l2.length d2, .slice X3 l3.length d3, .slice none 0 0] 49)) := ⟨to_alloc HBc.out (.inr ⟨_, rfl⟩), blk_new _ _, HBc.out.size, Kd.R_below HO1.out ha, Kd.R_below HO2.out ha, Kd.R_below HO3.out ha⟩
     generalize w4.alloc (.cells #[.string f0, .slice X1 l1.length d1, .slice X2 l2.length d2, .slice X3 l3.length d3, .slice none 0 0] 49) = W at hF ⊢
     generalize w4.heap.size = G at hF ⊢
     exact tail X1 d1 X2 d2 X3 d3 G W hF
   all_goals
    exact tail X1 d1 X2 d2 X3 d3 _ _ ⟨((((HBc.out.setCell HXG.out _).setCell HXG.out _).setCell HXG.out _).setCell HXG.out _).setCell HXG.out _, set5_blk (.string f0) (.slice X1 l1.length d1) (.slice X2 l2.length d2) (.slice X3 l3.length d3) (.slice none 0 0) HX.out, HXG.out, RS.set5 HO1.out _ _ _ _ _ HX.out (by decide), RS.set5 HO2.out _ _ _ _ _ HX.out (by decide), RS.set5 HO3.out _ _ _ _ _ HX.out (by decide)⟩
 intro X1 d1 X2 d2 X3 d3 G W ⟨hb, hx, hg, ho1, ho2, ho3⟩
 have HBW := Lib.hid hb
 have HXW := Lib.hid hx
 have HGW := Lib.hid hg
 have HO1 := Lib.hid ho1
 have HO2 := Lib.hid ho2
 have HO3 := Lib.hid ho3
 clear hb hx hg ho1 ho2 ho3 HBc HS
 go_wp2_with fail
 have hl4b : l4.length ≤ 1759218604441 := by have := HL4.out; omega
 go_loopg [4, 5] l4.length (fun gg s4 _ wr => ∃ (kk : Nat) (A : Option Addr) (c : Nat), kk ≤ l4.length ∧ l4.length - kk ≤ gg ∧ s4 = .int .i64 kk ∧ Aside0 (Below w2.heap.size w2 wr) ∧ Aside0 (wr.heap[G]? = some (.cells #[.string f0, .slice X1 l1.length d1, .slice X2 l2.length d2, .slice X3 l3.length d3, .slice A kk c] 49 (0, 0))) ∧
  Aside0 (Kd.R k62 62 wr w2.heap.size (fun _ => True) (.slice A kk c) (l4.take kk)) ∧ Aside0 (RS wr w2.heap.size (.slice X1 l1.length d1) l1) ∧ Aside0 (RS wr w2.heap.size (.slice X2 l2.length d2) l2) ∧ Aside0 (RS wr w2.heap.size (.slice X3 l3.length d3) l3))
 case atStart => exact ⟨0, none, 0, Nat.zero_le _, by omega, rfl, ⟨HBW.out⟩, ⟨HXW.out⟩, ⟨Kd.R_nil _ _ _ _ _⟩, ⟨HO1.out⟩, ⟨HO2.out⟩, ⟨HO3.out⟩⟩
 case round =>
  obtain ⟨kk, A, c, hkk, hgk, rfl, HB, HX, HR, HP1, HP2, HP3⟩ := hrel
  have k4 : wr.cell? ⟨w.heap.size, 4, none⟩ = some (.slice A4 l4.length c4) := (blk_cell (blk_below HK2.out HB.out) 4).trans rfl
  by_cases hlt : kk < l4.length
  · have hltz : (kk : Int) < (l4.length : Int) := by omega
    have hk0 : (0 : Int) ≤ (kk : Int) := by omega
    obtain ⟨ad, B2, e2, B3, e3, rfl, p0, p1, p2, p3, p4, q2, g2, q3, g3⟩ := at_T62 (Kd.C_below H4.out HB.out) (kk : Int) (by omega) (by omega)
    have hxi : rd_T62 l4 (kk : Int) = l4[kk] := by unfold rd_T62; simp [List.getD_eq_getElem?_getD, List.getElem?_eq_getElem hlt]
    rw [hxi] at p0 p1 p2 p3 p4 g2 g3
    rw [Int.toNat_natCast] at p0 p1 p2 p3 p4
    have htk : l4.take (kk + 1) = l4.take kk ++ [l4[kk]] := by rw [List.take_add_one, List.getElem?_eq_getElem hlt]; rfl
    have HTK := Lib.hid htk
    have HM2 := Lib.hid (HLS.out l4[kk] (List.getElem_mem hlt)).1
    have HM3 := Lib.hid (HLS.out l4[kk] (List.getElem_mem hlt)).2
    generalize l4[kk] = x at p0 p1 p2 p3 p4 g2 g3 HTK HM2 HM3
    clear htk hxi
    have HG2 := Lib.hid (Kd.C_below g2 ((Below.refl wr.heap.size wr).alloc (Nat.le_refl _) (.cells #[.string x.f0, .int .i64 x.f1, .slice B2 x.f2.length e2, .slice B3 x.f3.length e3, .int .i64 x.f4] 62)))
    have HG3 := Lib.hid (Kd.C_below g3 ((Below.refl wr.heap.size wr).alloc (Nat.le_refl _) (.cells #[.string x.f0, .int .i64 x.f1, .slice B2 x.f2.length e2, .slice B3 x.f3.length e3, .int .i64 x.f4] 62)))
    have HSb := Lib.hid (blk_new wr (.cells #[.string x.f0, .int .i64 x.f1, .slice B2 x.f2.length e2, .slice B3 x.f3.length e3, .int .i64 x.f4] 62))
    have HBs := Lib.hid ((Below.refl wr.heap.size wr).alloc (Nat.le_refl _) (.cells #[.string x.f0, .int .i64 x.f1, .slice B2 x.f2.length e2, .slice B3 x.f3.length e3, .int .i64 x.f4] 62))
    clear g2 g3
    go_wp2_with fail
    generalize wr.alloc (.cells #[.string x.f0, .int .i64 x.f1, .slice B2 x.f2.length e2, .slice B3 x.f3.length e3, .int .i64 x.f4] 62) = w5 at HG2 HG3 HSb HBs ⊢
    generalize hS : wr.heap.size = S at HSb ⊢
    have HSe := Lib.hid hS
    clear hS p0 p1 p2 p3 p4 k4
    have HBc := Lib.hid (below_drew (Below.refl w5.heap.size w5))
    have k2 : w5.drew.cell? ⟨S, 2, none⟩ = some (.slice B2 x.f2.length e2) := (blk_cell HSb.out 2).trans rfl
    have k3 : w5.drew.cell? ⟨S, 3, none⟩ = some (.slice B3 x.f3.length e3) := (blk_cell HSb.out 3).trans rfl
    apply share5 (F := fun (Y2 : Option Addr) (m2 : Nat) (Y3 : Option Addr) (m3 : Nat) (W : World) => Below w5.heap.size w5 W ∧ RS W w5.heap.size (.slice Y2 x.f2.length m2) x.f2 ∧ RS W w5.heap.size (.slice Y3 x.f3.length m3) x.f3 ∧ W.heap[S]? = some (.cells #[.string x.f0, .int .i64 x.f1, .slice B2 x.f2.length e2, .slice B3 x.f3.length e3, .int .i64 x.f4] 62 (0, 0)))
    · intro tail
      go_region_law (first
      | (refine app_nil_step (by rfl) (.tmp 31) rfl Tryz.underlying46 infoStr x.f2 B2 e2 (by rfl) (Kd.C_below HG2.out HBc.out) HM2.out ?_; intro Y2 m2 w7 ho hb; have HBc := Lib.hid (below_then HBc.out HBc.out.size hb); have HBk := Lib.hid hb.size; have HY2 := Lib.hid ho; have HSb := Lib.hid (blk_below (blk_drew HSb.out) hb); have k2 : w7.cell? ⟨S, 2, none⟩ = some (.slice B2 x.f2.length e2) := (blk_cell HSb.out 2).trans rfl; have k3 : w7.cell? ⟨S, 3, none⟩ = some (.slice B3 x.f3.length e3) := (blk_cell HSb.out 3).trans rfl; clear ho hb)
      | (refine app_nil_step (by rfl) (.tmp 34) rfl Tryz.underlying46 infoStr x.f3 B3 e3 (by rfl) (Kd.C_below HG3.out HBc.out) HM3.out ?_; intro Y3 m3 w7 ho hb; have HBc := Lib.hid (below_then HBc.out HBc.out.size hb); have HY3 := Lib.hid ho; have HY2 := Lib.hid (Kd.R_below HY2.out hb); have HSb := Lib.hid (blk_below HSb.out hb); have k2 : w7.cell? ⟨S, 2, none⟩ = some (.slice B2 x.f2.length e2) := (blk_cell HSb.out 2).trans rfl; have k3 : w7.cell? ⟨S, 3, none⟩ = some (.slice B3 x.f3.length e3) := (blk_cell HSb.out 3).trans rfl; have y2 := blk_frozen HSb.out 2; have y3 := blk_frozen HSb.out 3; clear ho hb))
      all_goals exact tail _ _ _ _ w7 ⟨HBc.out, HY2.out, Kd.R_lower HY3.out HBk.out, HSb.out⟩
    intro Y2 m2 Y3 m3 w7 ⟨hb7, hy2, hy3, hs7⟩
    have hSe := HSe.out
    have hb6 := below_then HBs.out HBs.out.size hb7
    have hb8 := (hb6.setCell (p := ⟨S, 2, none⟩) (Nat.le_of_eq hSe) (.slice Y2 x.f2.length m2)).setCell (p := ⟨S, 3, none⟩) (Nat.le_of_eq hSe) (.slice Y3 x.f3.length m3)
    have hs8 := blk_set (blk_set hs7 2 (.slice Y2 x.f2.length m2)) 3 (.slice Y3 x.f3.length m3)
    have hy28 := Kd.R_lower (Kd.R_set (Kd.R_set hy2 hs7 (by decide) 2 (.slice Y2 x.f2.length m2)) (blk_set hs7 2 (.slice Y2 x.f2.length m2)) (by decide) 3 (.slice Y3 x.f3.length m3)) HBs.out.size
    have hy38 := Kd.R_lower (Kd.R_set (Kd.R_set hy3 hs7 (by decide) 2 (.slice Y2 x.f2.length m2)) (blk_set hs7 2 (.slice Y2 x.f2.length m2)) (by decide) 3 (.slice Y3 x.f3.length m3)) HBs.out.size
    generalize (w7.setCell ⟨S, 2, none⟩ (.slice Y2 x.f2.length m2)).setCell ⟨S, 3, none⟩ (.slice Y3 x.f3.length m3) = w8 at hb8 hs8 hy28 hy38 ⊢
    have hs8' : w8.heap[S]? = some (.cells #[.string x.f0, .int .i64 x.f1, .slice Y2 x.f2.length m2, .slice Y3 x.f3.length m3, .int .i64 x.f4] 62 (0, 0)) := hs8
    have hx8 := blk_below HX.out hb8
    have HR8 := Lib.hid (Kd.R_below HR.out hb8)
    have HP18 := Lib.hid (Kd.R_below HP1.out hb8)
    have HP28 := Lib.hid (Kd.R_below HP2.out hb8)
    have HP38 := Lib.hid (Kd.R_below HP3.out hb8)
    have HM8 := Lib.hid (k62_mkM w8 w2.heap.size _ x (Kd.R_lower (Kd.R_new hy28 (Kd.R_own HR.out).choose_spec) HB.out.size) (Kd.R_lower (Kd.R_new hy38 (Kd.R_own HR.out).choose_spec) HB.out.size))
    have HB8 := Lib.hid (below_then HB.out HB.out.size hb8)
    have HX8 := Lib.hid hx8
    have k4 : w8.cell? ⟨G, 4, none⟩ = some (.slice A kk c) := (blk_cell hx8 4).trans rfl
    have s0 : w8.cell? ⟨S, 0, none⟩ = some (.string x.f0) := (blk_cell hs8' 0).trans rfl
    have s1 : w8.cell? ⟨S, 1, none⟩ = some (.int .i64 x.f1) := (blk_cell hs8' 1).trans rfl
    have s2 : w8.cell? ⟨S, 2, none⟩ = some (.slice Y2 x.f2.length m2) := (blk_cell hs8' 2).trans rfl
    have s3 : w8.cell? ⟨S, 3, none⟩ = some (.slice Y3 x.f3.length m3) := (blk_cell hs8' 3).trans rfl
    have s4 : w8.cell? ⟨S, 4, none⟩ = some (.int .i64 x.f4) := (blk_cell hs8' 4).trans rfl
    have HLT : Hid ((l4.take kk).length = kk) := by show _ = _; rw [List.length_take]; omega
    clear hSe hb6 hb7 hs7 hy2 hy3 hb8 hs8 hs8' hx8 hy28 hy38 HBc HSb HBs HG2 HG3
    go_wp2_with (first | ((with_reducible refine gate_builtin (b := .append) (xs := #[.tmp 39, .tmp 41]) rfl ?_); at_builtin; refine Kd.R_append k62 (w0 := w8) w2.heap.size rfl (.tmp 39) (.tmp 41) 47 62 (.agg #[.string ⟨#[]⟩, .int .i64 0, .slice none 0 0, .slice none 0 0, .int .i64 0]) 80 rfl Tryz.underlying47 info62 rfl (by decide) (by decide) (.slice A kk c) (l4.take kk) x [.string x.f0, .int .i64 x.f1, .slice Y2 x.f2.length m2, .slice Y3 x.f3.length m3, .int .i64 x.f4] (fun _ => True) (fun k_ => True ∧ some k_ ≠ (Value.slice A kk c).ownBlock) (by rfl) (by rfl) HM8.out (fun _ hk => hk) (fun _ _ => trivial) HR8.out (Below.refl _ _) HB8.out.size ?aL ?_; (case aL => (have h1 := HL4.out; have h2 := HLT.out; omega)); intro v1 w9 ho hb hg hat; obtain ⟨A9, c9, rfl, _, _⟩ := Kd.R_reads ho; rw [List.length_append, HLT.out, List.length_singleton] at ho ⊢; have HR9 := Lib.hid ho; have HX9 := Lib.hid (blk_grown HX8.out hg (Kd.R_ne HR8.out HX8.out (by decide))); have HP19 := Lib.hid (rs_other HP18.out HR8.out (by decide) hg); have HP29 := Lib.hid (rs_other HP28.out HR8.out (by decide) hg); have HP39 := Lib.hid (rs_other HP38.out HR8.out (by decide) hg); have HB9 := Lib.hid (HB8.out.trans hb); have y4 := blk_frozen HX9.out 4; have k9 : w9.cell? ⟨G, 4, none⟩ = some (.slice A kk c) := (blk_cell HX9.out 4).trans rfl; clear ho hb hg hat))
    go_roundg (l4.length - (kk + 1))
    case measure => omega
    case rel =>
     exact ⟨kk + 1, A9, c9, by omega, by omega, by first | rfl | go_num, ⟨HB9.out.setCell HGW.out _⟩, ⟨blk_put HX9.out 4 _ rfl⟩, ⟨by rw [HTK.out]; exact Kd.R_set HR9.out HX9.out (by decide) 4 _⟩, ⟨Kd.R_set HP19.out HX9.out (by decide) 4 _⟩, ⟨Kd.R_set HP29.out HX9.out (by decide) 4 _⟩, ⟨Kd.R_set HP39.out HX9.out (by decide) 4 _⟩⟩
  · have hltz : ¬ (kk : Int) < (l4.length : Int) := by omega
    have k40 : wr.cell? ⟨w.heap.size, 4, none⟩ = some (.slice A4 l4.length c4) := k4
    obtain rfl : kk = l4.length := by omega
    have hR := HR.out
    rw [List.take_length] at hR
    have HR2 := Lib.hid hR
    have hZ := blk_below HZ2.out HB.out
    have HZ := Lib.hid hZ
    have g0 : wr.cell? ⟨G, 0, none⟩ = some (.string f0) := (blk_cell HX.out 0).trans rfl
    have g1 : wr.cell? ⟨G, 1, none⟩ = some (.slice X1 l1.length d1) := (blk_cell HX.out 1).trans rfl
    have g2 : wr.cell? ⟨G, 2, none⟩ = some (.slice X2 l2.length d2) := (blk_cell HX.out 2).trans rfl
    have g3 : wr.cell? ⟨G, 3, none⟩ = some (.slice X3 l3.length d3) := (blk_cell HX.out 3).trans rfl
    have g4 : wr.cell? ⟨G, 4, none⟩ = some (.slice A l4.length c) := (blk_cell HX.out 4).trans rfl
    have r0 : wr.cell? ⟨w.heap.size + 1, 0, none⟩ = some (.string ⟨#[]⟩) := (blk_cell hZ 0).trans rfl
    have r1 : wr.cell? ⟨w.heap.size + 1, 1, none⟩ = some (.slice none 0 0) := (blk_cell hZ 1).trans rfl
    have r2 : wr.cell? ⟨w.heap.size + 1, 2, none⟩ = some (.slice none 0 0) := (blk_cell hZ 2).trans rfl
    have r3 : wr.cell? ⟨w.heap.size + 1, 3, none⟩ = some (.slice none 0 0) := (blk_cell hZ 3).trans rfl
    have r4 : wr.cell? ⟨w.heap.size + 1, 4, none⟩ = some (.slice none 0 0) := (blk_cell hZ 4).trans rfl
    have z0 := blk_frozen hZ 0
    have z1 := blk_frozen hZ 1
    have z2 := blk_frozen hZ 2
    have z3 := blk_frozen hZ 3
    have z4 := blk_frozen hZ 4
    clear hR hZ k4
    go_wp2_with fail
    have hs := set5_blk (.string f0) (.slice X1 l1.length d1) (.slice X2 l2.length d2) (.slice X3 l3.length d3) (.slice A l4.length c) HZ.out
    have hA := Kd.R_lower (RS.set5 HP1.out (.string f0) (.slice X1 l1.length d1) (.slice X2 l2.length d2) (.slice X3 l3.length d3) (.slice A l4.length c) HZ.out (by decide)) HB2.out.size
    have hB := Kd.R_lower (RS.set5 HP2.out (.string f0) (.slice X1 l1.length d1) (.slice X2 l2.length d2) (.slice X3 l3.length d3) (.slice A l4.length c) HZ.out (by decide)) HB2.out.size
    have hC := Kd.R_lower (RS.set5 HP3.out (.string f0) (.slice X1 l1.length d1) (.slice X2 l2.length d2) (.slice X3 l3.length d3) (.slice A l4.length c) HZ.out (by decide)) HB2.out.size
    have hE := Kd.R_lower (R_set5 HR2.out (.string f0) (.slice X1 l1.length d1) (.slice X2 l2.length d2) (.slice X3 l3.length d3) (.slice A l4.length c) HZ.out (by decide)) HB2.out.size
    have hle : w.heap.size ≤ w.heap.size + 1 := Nat.le_succ _
    have hD := (((((below_then HB2.out HB2.out.size HB.out).setCell (p := ⟨w.heap.size + 1, 0, none⟩) hle (.string f0)).setCell (p := ⟨w.heap.size + 1, 1, none⟩) hle (.slice X1 l1.length d1)).setCell (p := ⟨w.heap.size + 1, 2, none⟩) hle (.slice X2 l2.length d2)).setCell (p := ⟨w.heap.size + 1, 3, none⟩) hle (.slice X3 l3.length d3)).setCell (p := ⟨w.heap.size + 1, 4, none⟩) hle (.slice A l4.length c)
    clear g0 g1 g2 g3 g4 r0 r1 r2 r3 r4 z0 z1 z2 z3 z4
    unfold set5 at hs hA hB hC hE
    generalize ((((wr.setCell ⟨w.heap.size + 1, 0, none⟩ (.string f0)).setCell ⟨w.heap.size + 1, 1, none⟩ (.slice X1 l1.length d1)).setCell ⟨w.heap.size + 1, 2, none⟩ (.slice X2 l2.length d2)).setCell ⟨w.heap.size + 1, 3, none⟩ (.slice X3 l3.length d3)).setCell ⟨w.heap.size + 1, 4, none⟩ (.slice A l4.length c) = wE at hs hA hB hC hD hE ⊢
    have g0 := (blk_cell hs 0).trans rfl
    have g1 := (blk_cell hs 1).trans rfl
    have g2 := (blk_cell hs 2).trans rfl
    have g3 := (blk_cell hs 3).trans rfl
    have g4 := (blk_cell hs 4).trans rfl
    exact bodyPost_ret (v := .agg #[.string f0, .slice X1 l1.length d1, .slice X2 l2.length d2, .slice X3 l3.length d3, .slice A l4.length c]) (by simp [results, Tryz.results31, go_sem, g0, g1, g2, g3, g4]) rfl ⟨_, _, _, _, _, _, _, _, rfl, hA, hB, hC, hE, hD⟩

end Go.Proofs.YthagibkmfgodgaaGreatDoor.X

namespace Go.Proofs.YthagibkmfgodgaaGreatDoor.X
open Go.RowKit Go.Maps Go.Proofs.YthagibkmfgodgaaGreatDoorW.PrintWords Go.Proofs.YthagibkmfgodgaaGreatDoorW.PrintMore Go.Proofs.YthagibkmfgodgaaGreatDoorW.PrintLast
set_option linter.unusedSimpArgs false

def upTo (n k : Nat) : Array Bool := (Array.range n).map fun i => decide (i < k)
section
variable {P : Program} {ops : Array Oper} {Q : Exit → Act → World → Prop} {S : World → Prop} {md : Region.Mode} {ds : List Nat}
theorem startT {id n : Nat} {a : Act} {w : World} (hm : P.follows .mixedOrders = true) (hn : ops.size = n) (hl : Array.replicate n false = upTo n 0) (hS : S w.drew)
 (h : wpAnyLast P .any ops Q S ds n (upTo n 0) a w.drew) : (Code.region id ops true).wp P Q a w := start_ (upTo n 0) hm hn hl hS (fun _ => h)
theorem nextT {n k : Nat} {oi : Oper} {v : Value} {fuel : Nat} {a : Act} {w : World} (hi : ops[k]? = some oi) (hc : takeB md ops ds (upTo n k) (upTo n (k + 1)) k = true)
 (hQ : ∀ c a w, Q (.panic c) (a.put oi.dst v) w → Q (.panic c) a w) (hy : YieldsIf P ops S oi v a) (hS : S w) {a' : Act} (ha : a.put oi.dst v = a')
 (h : wpAnyLast P md ops Q S ds fuel (upTo n (k + 1)) a' w) : wpAnyLast P md ops Q S ds (fuel + 1) (upTo n k) a w := take_ _ hi rfl hc hQ hy hS ha h
end
def upX (n k : Nat) (s : List Nat) : Array Bool := (Array.range n).map fun i => decide (i < k) && !s.contains i
section
variable {P : Program} {ops : Array Oper} {Q : Exit → Act → World → Prop} {S : World → Prop} {md : Region.Mode} {ds : List Nat} {s : List Nat}
theorem nextX {n k : Nat} {oi : Oper} {v : Value} {fuel : Nat} {a : Act} {w : World} (hi : ops[k]? = some oi) (hc : takeB md ops ds (upX n k s) (upX n (k + 1) s) k = true)
 (hQ : ∀ c a w, Q (.panic c) (a.put oi.dst v) w → Q (.panic c) a w) (hy : YieldsIf P ops S oi v a) (hS : S w) {a' : Act} (ha : a.put oi.dst v = a')
 (h : wpAnyLast P md ops Q S ds fuel (upX n (k + 1) s) a' w) : wpAnyLast P md ops Q S ds (fuel + 1) (upX n k s) a w := take_ _ hi rfl hc hQ hy hS ha h
theorem pureX {n k : Nat} {oi : Oper} {v : Value} {fuel : Nat} {a : Act} {w : World} (hi : ops[k]? = some oi) (hc : anyB md ops (upX n k s) (upX n (k + 1) s) k = true)
 (hQ : ∀ c a w, Q (.panic c) (a.put oi.dst v) w → Q (.panic c) a w) (hy : Yields P ops oi v a) {a' : Act} (ha : a.put oi.dst v = a')
 (h : wpAnyLast P md ops Q S ds fuel (upX n (k + 1) s) a' w) : wpAnyLast P md ops Q S ds (fuel + 1) (upX n k s) a w := pure_ _ hi rfl hc hQ hy ha h
theorem share0 {G R : Prop} (main : G → R) (tail : G) : R := main tail
theorem skipX {n k fuel : Nat} {a : Act} {w : World} (hc : (upX n k s == upX n (k + 1) s) = true) (h : wpAnyLast P md ops Q S ds fuel (upX n (k + 1) s) a w) : wpAnyLast P md ops Q S ds fuel (upX n k s) a w := by
 rw [beq_iff_eq] at hc
 rw [hc]
 exact h
end
def stepC (x : SStep) : SStep := ⟨x.f0, x.f1, x.f2.take 8, x.f3.take 3, x.f4⟩
def ruleC (r : SRule) : SRule := ⟨r.f0, r.f1.take 10, r.f2.take 6, r.f3.take 10, (r.f4.take 14).map stepC⟩

def IsRuleF (r : SRule) (w : World) (e : Ending) (w' : World) : Prop :=
 ∃ X1 d1 X2 d2 X3 d3 X4 d4, e = .returned (.agg #[.string r.f0, .slice X1 r.f1.length d1, .slice X2 r.f2.length d2, .slice X3 r.f3.length d3, .slice X4 r.f4.length d4]) ∧
  Kd.FK k49 w' (fun k => w.heap.size ≤ k) r [.string r.f0, .slice X1 r.f1.length d1, .slice X2 r.f2.length d2, .slice X3 r.f3.length d3, .slice X4 r.f4.length d4] ∧ Below w.heap.size w w'
theorem take_C {α : Type} {d : Kd α} {W : World} {A : Option Addr} {l : List α} (h : d.C W A l.length l) (k : Nat) : d.C W A (l.take k).length (l.take k) := by
 rcases Nat.lt_or_ge l.length k with hk | hk
 · rw [List.take_of_length_le (Nat.le_of_lt hk)]; exact h
 · exact Kd.C_take h hk
theorem take_F {α : Type} {d : Kd α} {W : World} {ok : Nat → Prop} {A : Option Addr} {l : List α} (h : Kd.F d W ok A l.length l) (k : Nat) : Kd.F d W ok A (l.take k).length (l.take k) := Kd.F_imp h (fun _ hC => take_C hC k)
theorem cut_get (l : List SStep) (k : Nat) (h : k < l.length) : ((l.take k).map stepC ++ l.drop k).getD k z62 = l[k] := by
 have hl : ((l.take k).map stepC).length = k := by simp; omega
 rw [List.getD_eq_getElem?_getD, List.getElem?_append_right (by omega), hl, Nat.sub_self, List.getElem?_drop, Nat.add_zero, List.getElem?_eq_getElem h]
 rfl
theorem cut_set (l : List SStep) (k : Nat) (h : k < l.length) : ((l.take k).map stepC ++ l.drop k).set k (stepC l[k]) = (l.take (k + 1)).map stepC ++ l.drop (k + 1) := by
 have hl : ((l.take k).map stepC).length = k := by simp; omega
 rw [List.set_append_right _ _ (by omega), hl, Nat.sub_self, List.drop_eq_getElem_cons h, List.set_cons_zero, List.take_add_one, List.getElem?_eq_getElem h, List.map_append, List.append_assoc]
 rfl
theorem isRuleF_mk {f0 : ByteArray} {l1 l2 l3 n1 n2 n3 : List ByteArray} {l4 n4 : List SStep} {X1 X2 X3 X4 : Option Addr} {d1 d2 d3 d4 : Nat} {w w' : World} (h : n1 = l1.take 10 ∧ n2 = l2.take 6 ∧ n3 = l3.take 10 ∧ n4 = l4.take 14)
 (hF : Kd.FK k49 w' (fun k => w.heap.size ≤ k) (ruleC ⟨f0, l1, l2, l3, l4⟩) [.string f0, .slice X1 n1.length d1, .slice X2 n2.length d2, .slice X3 n3.length d3, .slice X4 n4.length d4]) (hB : Below w.heap.size w w') :
 IsRuleF (ruleC ⟨f0, l1, l2, l3, l4⟩) w (.returned (.agg #[.string f0, .slice X1 n1.length d1, .slice X2 n2.length d2, .slice X3 n3.length d3, .slice X4 n4.length d4])) w' := by
 obtain ⟨rfl, rfl, rfl, rfl⟩ := h
 have e : (ruleC ⟨f0, l1, l2, l3, l4⟩).f4.length = (l4.take 14).length := List.length_map _
 refine ⟨X1, d1, X2, d2, X3, d3, X4, d4, ?_, ?_, hB⟩
 · rw [e]; rfl
 · rw [e]; exact hF
set_option maxHeartbeats 8000000 in
set_option maxRecDepth 100000 in
theorem cut_calls (r : SRule) (A1 : Option Addr) (c1 : Nat) (A2 : Option Addr) (c2 : Nat) (A3 : Option Addr) (c3 : Nat) (A4 : Option Addr) (c4 : Nat) (w : World)
 (h1 : Kd.C Kd.string w A1 r.f1.length r.f1) (h2 : Kd.C Kd.string w A2 r.f2.length r.f2) (h3 : Kd.C Kd.string w A3 r.f3.length r.f3) (h4 : Kd.C k62 w A4 r.f4.length r.f4)
 (hls : ∀ x ∈ r.f4, x.f2.length * 16 ≤ 140737488355328 ∧ x.f3.length * 16 ≤ 140737488355328)
 (hc1 : r.f1.length ≤ c1) (hc2 : r.f2.length ≤ c2) (hc3 : r.f3.length ≤ c3) (hc4 : r.f4.length ≤ c4) :
 Calls Tryz.prog 45 #[.agg #[.string r.f0, .slice A1 r.f1.length c1, .slice A2 r.f2.length c2, .slice A3 r.f3.length c3, .slice A4 r.f4.length c4]] w (IsRuleF (ruleC r) w) := by
 obtain ⟨f0, l1, l2, l3, l4⟩ := r
 dsimp only at *
 have hb1 := (Below.refl w.heap.size w).alloc (Nat.le_refl _) (.cells #[.string f0, .slice A1 l1.length c1, .slice A2 l2.length c2, .slice A3 l3.length c3, .slice A4 l4.length c4] 49)
 have hb2 := hb1.alloc hb1.size (.cells RUz 49)
 have hk := blk_alloc (blk_new w (.cells #[.string f0, .slice A1 l1.length c1, .slice A2 l2.length c2, .slice A3 l3.length c3, .slice A4 l4.length c4] 49)) (.cells RUz 49)
 have hz := blk_new (w.alloc (.cells #[.string f0, .slice A1 l1.length c1, .slice A2 l2.length c2, .slice A3 l3.length c3, .slice A4 l4.length c4] 49)) (.cells RUz 49)
 rw [World.size_alloc] at hz
 have HB2 := Lib.hid hb2
 have HK2 := Lib.hid hk
 have HZ2 := Lib.hid hz
 have H1 := Lib.hid (Kd.C_below h1 hb2)
 have H2 := Lib.hid (Kd.C_below h2 hb2)
 have H3 := Lib.hid (Kd.C_below h3 hb2)
 have H4 := Lib.hid (Kd.C_below h4 hb2)
 have HLS := Lib.hid hls
 clear hb1 hb2 hk hz h1 h2 h3 h4 hls
 go_enter Tryz.func45, Tryz.ntmps45
 go_wp2_with fail
 generalize (w.alloc (.cells #[.string f0, .slice A1 l1.length c1, .slice A2 l2.length c2, .slice A3 l3.length c3, .slice A4 l4.length c4] 49)).alloc (.cells RUz 49) = w2 at HB2 HK2 HZ2 H1 H2 H3 H4 ⊢
 obtain ⟨n1, hn1⟩ : ∃ n, n = l1.take 10 := ⟨_, rfl⟩
 have e1 : min (l1.length : Int) 10 = (n1.length : Int) := by rw [hn1, List.length_take]; omega
 have b1 : (n1.length : Int) ≤ (c1 : Int) := by rw [hn1, List.length_take]; omega
 have HN1 := Lib.hid (show Kd.C _ w2 A1 n1.length n1 by rw [hn1]; exact take_C H1.out 10)
 obtain ⟨n2, hn2⟩ : ∃ n, n = l2.take 6 := ⟨_, rfl⟩
 have e2 : min (l2.length : Int) 6 = (n2.length : Int) := by rw [hn2, List.length_take]; omega
 have b2 : (n2.length : Int) ≤ (c2 : Int) := by rw [hn2, List.length_take]; omega
 have HN2 := Lib.hid (show Kd.C _ w2 A2 n2.length n2 by rw [hn2]; exact take_C H2.out 6)
 obtain ⟨n3, hn3⟩ : ∃ n, n = l3.take 10 := ⟨_, rfl⟩
 have e3 : min (l3.length : Int) 10 = (n3.length : Int) := by rw [hn3, List.length_take]; omega
 have b3 : (n3.length : Int) ≤ (c3 : Int) := by rw [hn3, List.length_take]; omega
 have HN3 := Lib.hid (show Kd.C _ w2 A3 n3.length n3 by rw [hn3]; exact take_C H3.out 10)
 obtain ⟨n4, hn4⟩ : ∃ n, n = l4.take 14 := ⟨_, rfl⟩
 have e4 : min (l4.length : Int) 14 = (n4.length : Int) := by rw [hn4, List.length_take]; omega
 have b4 : (n4.length : Int) ≤ (c4 : Int) := by rw [hn4, List.length_take]; omega
 have HN4 := Lib.hid (show Kd.C _ w2 A4 n4.length n4 by rw [hn4]; exact take_C H4.out 14)
 have HW1 := Lib.hid (show n1.length * 16 ≤ 140737488355328 by rw [hn1, List.length_take]; omega)
 have HW2 := Lib.hid (show n2.length * 16 ≤ 140737488355328 by rw [hn2, List.length_take]; omega)
 have HW3 := Lib.hid (show n3.length * 16 ≤ 140737488355328 by rw [hn3, List.length_take]; omega)
 have HW4 := Lib.hid (show n4.length ≤ 14 by rw [hn4, List.length_take]; omega)
 have HNS := Lib.hid (show ∀ x ∈ n4, x.f2.length * 16 ≤ 140737488355328 ∧ x.f3.length * 16 ≤ 140737488355328 from fun x hx => HLS.out x (by rw [hn4] at hx; exact List.mem_of_mem_take hx))
 have HNQ := Lib.hid (And.intro hn1 (And.intro hn2 (And.intro hn3 hn4)))
 clear hn1 hn2 hn3 hn4 hc1 hc2 hc3 hc4 H1 H2 H3 H4 HLS
 have hS1 : ∀ W : World, W.heap[w.heap.size]? = some (.cells #[.string f0, .slice A1 l1.length c1, .slice A2 l2.length c2, .slice A3 l3.length c3, .slice A4 l4.length c4] 49 (0, 0)) → W.cell? ⟨w.heap.size, 0, none⟩ = some (.string f0) ∧ W.cell? ⟨w.heap.size, 1, none⟩ = some (.slice A1 l1.length c1) ∧ W.cell? ⟨w.heap.size, 2, none⟩ = some (.slice A2 l2.length c2) ∧ W.cell? ⟨w.heap.size, 3, none⟩ = some (.slice A3 l3.length c3) ∧ W.cell? ⟨w.heap.size, 4, none⟩ = some (.slice A4 l4.length c4) := fun W h => ⟨(blk_cell h 0).trans rfl, (blk_cell h 1).trans rfl, (blk_cell h 2).trans rfl, (blk_cell h 3).trans rfl, (blk_cell h 4).trans rfl⟩
 have HS1 := Lib.hid hS1
 clear hS1
 refine startT (n := 33) (S := fun W => W.cell? ⟨w.heap.size, 0, none⟩ = some (.string f0) ∧ W.cell? ⟨w.heap.size, 1, none⟩ = some (.slice A1 l1.length c1) ∧ W.cell? ⟨w.heap.size, 2, none⟩ = some (.slice A2 l2.length c2) ∧ W.cell? ⟨w.heap.size, 3, none⟩ = some (.slice A3 l3.length c3) ∧ W.cell? ⟨w.heap.size, 4, none⟩ = some (.slice A4 l4.length c4)) (ds := [32]) (by kernel_rfl) rfl (by kernel_rfl) ⟨(blk_cell HK2.out 0).trans rfl, (blk_cell HK2.out 1).trans rfl, (blk_cell HK2.out 2).trans rfl, (blk_cell HK2.out 3).trans rfl, (blk_cell HK2.out 4).trans rfl⟩ ?_
 have hHeld : w2.drew.cell? ⟨w.heap.size, 0, none⟩ = some (.string f0) ∧ w2.drew.cell? ⟨w.heap.size, 1, none⟩ = some (.slice A1 l1.length c1) ∧ w2.drew.cell? ⟨w.heap.size, 2, none⟩ = some (.slice A2 l2.length c2) ∧ w2.drew.cell? ⟨w.heap.size, 3, none⟩ = some (.slice A3 l3.length c3) ∧ w2.drew.cell? ⟨w.heap.size, 4, none⟩ = some (.slice A4 l4.length c4) := ⟨(blk_cell HK2.out 0).trans rfl, (blk_cell HK2.out 1).trans rfl, (blk_cell HK2.out 2).trans rfl, (blk_cell HK2.out 3).trans rfl, (blk_cell HK2.out 4).trans rfl⟩
 iterate 31
  refine nextT (v := ?_) (a' := ?_) rfl (by kernel_rfl) (fun _ _ _ h => h) (Or.inl ⟨by rfl, ?_⟩) hHeld ?_ ?_
  rotate_left
  · rintro w' ⟨s0, s1, s2, s3, s4⟩
    go_simp
    with_reducible rfl
  rotate_left
  · simp only [Act.put, List.getElem_toArray, List.getElem_cons_zero, List.getElem_cons_succ, List.setIfInBounds_toArray, List.set_cons_zero, List.set_cons_succ, i64_w, i32_w]
    rfl
 refine one_ (i := 31) (N := some 3) (upTo 33 32) rfl rfl (by kernel_rfl) (by decide) (fun K hK => ?_)
 refine value_ (w1 := ?_) (v := ?_) (by rfl) rfl ?_ ?_
 rotate_left 2
 · go_simp
   constructor
   · rfl
   · rfl
 refine hK.out _ _ (HS1.out _ (blk_alloc (blk_drew HK2.out) _)) (fun hHeld => ?_)
 clear hK K
 refine norm_ (a' := ?_) ?_ ?_
 rotate_left
 · show Act.put _ (some 3) _ = _
   simp only [Act.put, List.setIfInBounds_toArray, List.set_cons_zero, List.set_cons_succ, i64_w, i32_w]
   rfl
 refine last_ (i := 32) (N := none) (upTo 33 33) rfl rfl (by kernel_rfl) (by decide) (fun K hK => ?_)
 refine skip_ (w1 := ?_) (by rfl) rfl ?_ ?_
 rotate_left
 · go_simp
   rfl
 refine hK.out _ _ ?_
 clear hK K
 refine done_ (by kernel_rfl) ?_
 have hb3 : Below w2.heap.size w2 ((w2.alloc (.cells #[.string f0, .slice A1 n1.length c1, .slice A2 n2.length c2, .slice A3 n3.length c3, .slice A4 n4.length c4] 49)).drew) := below_drew ((Below.refl w2.heap.size w2).alloc (Nat.le_refl _) _)
 have hx3 : ((w2.alloc (.cells #[.string f0, .slice A1 n1.length c1, .slice A2 n2.length c2, .slice A3 n3.length c3, .slice A4 n4.length c4] 49)).drew).heap[w2.heap.size]? = some (.cells #[.string f0, .slice A1 n1.length c1, .slice A2 n2.length c2, .slice A3 n3.length c3, .slice A4 n4.length c4] 49 (0, 0)) := blk_drew (blk_new w2 _)
 have HB3 := Lib.hid (below_then HB2.out HB2.out.size hb3)
 have HZ3 := Lib.hid (blk_below HZ2.out hb3)
 have HC1 := Lib.hid (Kd.C_below HN1.out hb3)
 have HC2 := Lib.hid (Kd.C_below HN2.out hb3)
 have HC3 := Lib.hid (Kd.C_below HN3.out hb3)
 have HC4 := Lib.hid (Kd.C_below HN4.out hb3)
 have HX3 := Lib.hid hx3
 generalize (w2.alloc (.cells #[.string f0, .slice A1 n1.length c1, .slice A2 n2.length c2, .slice A3 n3.length c3, .slice A4 n4.length c4] 49)).drew = w3 at HB3 HZ3 HC1 HC2 HC3 HC4 HX3 ⊢
 generalize hG2 : w2.heap.size = G at HX3 ⊢
 have hgw : w.heap.size + 1 < G := by rw [← hG2]; exact blk_lt HZ2.out
 have HGW := Lib.hid hgw
 have HB3s := Lib.hid HB3.out.size
 clear hb3 hx3 hG2 hgw hHeld HS1 HK2 HZ2 HB2 HN1 HN2 HN3 HN4
 have g0 : w3.cell? ⟨G, 0, none⟩ = some (.string f0) := (blk_cell HX3.out 0).trans rfl
 have g1 : w3.cell? ⟨G, 1, none⟩ = some (.slice A1 n1.length c1) := (blk_cell HX3.out 1).trans rfl
 have g2 : w3.cell? ⟨G, 2, none⟩ = some (.slice A2 n2.length c2) := (blk_cell HX3.out 2).trans rfl
 have g3 : w3.cell? ⟨G, 3, none⟩ = some (.slice A3 n3.length c3) := (blk_cell HX3.out 3).trans rfl
 have g4 : w3.cell? ⟨G, 4, none⟩ = some (.slice A4 n4.length c4) := (blk_cell HX3.out 4).trans rfl
 have hCp := copy_calls ⟨f0, n1, n2, n3, n4⟩ A1 c1 A2 c2 A3 c3 A4 c4 w3 HC1.out HC2.out HC3.out HC4.out HNS.out HW1.out HW2.out HW3.out (by have := HW4.out; show n4.length * 80 ≤ _; omega)
 go_wp2_with (go_at_call 31; refine hCp.mono ?_; rintro e w5 ⟨X1, d1, X2, d2, X3, d3, X4, d4, rfl, ho1, ho2, ho3, ho4, hb5⟩; have HX5 := Lib.hid (blk_below HX3.out hb5); have HZ5 := Lib.hid (blk_below HZ3.out hb5); have HB5 := Lib.hid (below_then HB3.out HB3.out.size hb5); have HO1 := Lib.hid ho1; have HO2 := Lib.hid ho2; have HO3 := Lib.hid ho3; have HO4 := Lib.hid ho4; have HGL := Lib.hid (blk_lt HX3.out); have z0 := (blk_cell HX5.out 0).trans rfl; have z1 := (blk_cell HX5.out 1).trans rfl; have z2 := (blk_cell HX5.out 2).trans rfl; have z3 := (blk_cell HX5.out 3).trans rfl; have z4 := (blk_cell HX5.out 4).trans rfl; have y0 := blk_frozen HX5.out 0; have y1 := blk_frozen HX5.out 1; have y2 := blk_frozen HX5.out 2; have y3 := blk_frozen HX5.out 3; have y4 := blk_frozen HX5.out 4; clear ho1 ho2 ho3 ho4 hb5)
 have hx6 := set5_blk (.string f0) (.slice X1 n1.length d1) (.slice X2 n2.length d2) (.slice X3 n3.length d3) (.slice X4 n4.length d4) HX5.out
 have hz6 := blk_far (blk_far (blk_far (blk_far (blk_far HZ5.out (p := ⟨G, 0, none⟩) (Nat.ne_of_lt HGW.out) (.string f0)) (p := ⟨G, 1, none⟩) (Nat.ne_of_lt HGW.out) (.slice X1 n1.length d1)) (p := ⟨G, 2, none⟩) (Nat.ne_of_lt HGW.out) (.slice X2 n2.length d2)) (p := ⟨G, 3, none⟩) (Nat.ne_of_lt HGW.out) (.slice X3 n3.length d3)) (p := ⟨G, 4, none⟩) (Nat.ne_of_lt HGW.out) (.slice X4 n4.length d4)
 have hr1 := RS.set5 HO1.out (.string f0) (.slice X1 n1.length d1) (.slice X2 n2.length d2) (.slice X3 n3.length d3) (.slice X4 n4.length d4) HX5.out (by decide)
 have hr2 := RS.set5 HO2.out (.string f0) (.slice X1 n1.length d1) (.slice X2 n2.length d2) (.slice X3 n3.length d3) (.slice X4 n4.length d4) HX5.out (by decide)
 have hr3 := RS.set5 HO3.out (.string f0) (.slice X1 n1.length d1) (.slice X2 n2.length d2) (.slice X3 n3.length d3) (.slice X4 n4.length d4) HX5.out (by decide)
 have hr4 := R_set5 HO4.out (.string f0) (.slice X1 n1.length d1) (.slice X2 n2.length d2) (.slice X3 n3.length d3) (.slice X4 n4.length d4) HX5.out (by decide)
 have hgl : w.heap.size ≤ G := by have := HGW.out; omega
 have hb6 := ((((HB5.out.setCell (p := ⟨G, 0, none⟩) hgl (.string f0)).setCell (p := ⟨G, 1, none⟩) hgl (.slice X1 n1.length d1)).setCell (p := ⟨G, 2, none⟩) hgl (.slice X2 n2.length d2)).setCell (p := ⟨G, 3, none⟩) hgl (.slice X3 n3.length d3)).setCell (p := ⟨G, 4, none⟩) hgl (.slice X4 n4.length d4)
 unfold set5 at hx6 hr1 hr2 hr3 hr4
 generalize ((((w5.setCell ⟨G, 0, none⟩ (.string f0)).setCell ⟨G, 1, none⟩ (.slice X1 n1.length d1)).setCell ⟨G, 2, none⟩ (.slice X2 n2.length d2)).setCell ⟨G, 3, none⟩ (.slice X3 n3.length d3)).setCell ⟨G, 4, none⟩ (.slice X4 n4.length d4) = w6 at hx6 hz6 hr1 hr2 hr3 hr4 hb6 ⊢
 have HX6 := Lib.hid hx6
 have HZ6 := Lib.hid hz6
 have HR1 := Lib.hid hr1
 have HR2 := Lib.hid hr2
 have HR3 := Lib.hid hr3
 have HR4 := Lib.hid (Kd.R_N (Kd.R_mono (Kd.R_bound hr4) (fun _ h => h.2.1)))
 have HB6 := Lib.hid hb6
 clear hx6 hz6 hr1 hr2 hr3 hr4 hb6 hgl g0 g1 g2 g3 g4 z0 z1 z2 z3 z4 y0 y1 y2 y3 y4 hCp HO1 HO2 HO3 HO4 HX5 HZ5 HB5
 have hl4b : n4.length ≤ 14 := HW4.out
 go_loopg [4, 41] n4.length (fun gg _ s41 wr => ∃ kk : Nat, kk ≤ n4.length ∧ n4.length - kk ≤ gg ∧ s41 = .int .i64 kk ∧ Aside0 (Below w.heap.size w wr) ∧ Aside0 (wr.heap[G]? = some (.cells #[.string f0, .slice X1 n1.length d1, .slice X2 n2.length d2, .slice X3 n3.length d3, .slice X4 n4.length d4] 49 (0, 0))) ∧ Aside0 (wr.heap[w.heap.size + 1]? = some (.cells RUz 49 (0, 0))) ∧
  Aside0 (RS wr w3.heap.size (.slice X1 n1.length d1) n1) ∧ Aside0 (RS wr w3.heap.size (.slice X2 n2.length d2) n2) ∧ Aside0 (RS wr w3.heap.size (.slice X3 n3.length d3) n3) ∧ Aside0 (Kd.N k62 62 wr w3.heap.size (fun k => w3.heap.size ≤ k) (.slice X4 n4.length d4) ((n4.take kk).map stepC ++ n4.drop kk)))
 case atStart => exact ⟨0, Nat.zero_le _, by omega, rfl, ⟨HB6.out⟩, ⟨HX6.out⟩, ⟨HZ6.out⟩, ⟨HR1.out⟩, ⟨HR2.out⟩, ⟨HR3.out⟩, ⟨HR4.out⟩⟩
 case round =>
  obtain ⟨kk, hkk, hgk, rfl, HB, HX, HZ, HP1, HP2, HP3, HN⟩ := hrel
  by_cases hlt : kk < n4.length
  · have hltz : (kk : Int) < (n4.length : Int) := by omega
    have hk0 : (0 : Int) ≤ (kk : Int) := by omega
    have hll : ((n4.take kk).map stepC ++ n4.drop kk).length = n4.length := by simp; omega
    obtain ⟨g, cap, ev, hgb, hgl, cur, hcur⟩ := Kd.N_form HN.out (by omega)
    injection ev with ev1 ev2 ev3
    subst ev1 ev3
    clear ev2
    obtain ⟨c, hcl, hFK, hcc, hfr⟩ := Kd.N_elem HN.out z62 (kk : Int) hk0 hltz
    rw [Int.toNat_natCast, cut_get n4 kk hlt] at hFK
    rw [Int.toNat_natCast] at hcc hfr
    have HSET := Lib.hid (cut_set n4 kk hlt)
    generalize n4[kk] = x at hFK HSET
    obtain ⟨B2, e2, B3, e3, rfl, hc2, hF2, hc3, hF3⟩ := k62_openF hFK
    have p2 : wr.drew.cell? ⟨g, kk * 5 + 2, none⟩ = some (.slice B2 x.f2.length e2) := hcc 2 _ rfl
    have p3 : wr.drew.cell? ⟨g, kk * 5 + 3, none⟩ = some (.slice B3 x.f3.length e3) := hcc 3 _ rfl
    have f2 : wr.drew.frozen? ⟨g, kk * 5 + 2, none⟩ = false := hfr 2
    have f3 : wr.drew.frozen? ⟨g, kk * 5 + 3, none⟩ = false := hfr 3
    have k4 : wr.drew.cell? ⟨G, 4, none⟩ = some (.slice (some ⟨g, 0, none⟩) n4.length d4) := (blk_cell (blk_drew HX.out) 4).trans rfl
    obtain ⟨y2, hy2⟩ : ∃ y, y = x.f2.take 8 := ⟨_, rfl⟩
    obtain ⟨y3, hy3⟩ : ∃ y, y = x.f3.take 3 := ⟨_, rfl⟩
    have e8 : min (x.f2.length : Int) 8 = (y2.length : Int) := by rw [hy2, List.length_take]; omega
    have e9 : min (x.f3.length : Int) 3 = (y3.length : Int) := by rw [hy3, List.length_take]; omega
    have b8 : (y2.length : Int) ≤ (e2 : Int) := by rw [hy2, List.length_take]; omega
    have b9 : (y3.length : Int) ≤ (e3 : Int) := by rw [hy3, List.length_take]; omega
    have HY := Lib.hid (And.intro hy2 hy3)
    have HFS := Lib.hid (And.intro hcc (And.intro hF2 hF3))
    have HCU := Lib.hid (And.intro hcur (And.intro hgb hgl))
    clear hy2 hy3 hcc hfr hF2 hF3 hFK hcl hcur hgb hgl hll hc2 hc3
    go_wp2_with fail
    refine start_ (n := 42) (S := fun W => W.cell? ⟨G, 4, none⟩ = some (.slice (some ⟨g, 0, none⟩) n4.length d4) ∧ W.cell? ⟨g, kk * 5 + 3, none⟩ = some (.slice B3 x.f3.length e3)) (ds := [41]) (upX 42 0 [11, 17, 18, 19, 20, 38, 41]) (by kernel_rfl) rfl (by kernel_rfl) ⟨k4, p3⟩ (fun hHeld => ?_)
    iterate 11
     refine nextX (v := ?_) (a' := ?_) rfl (by decide +kernel) (fun _ _ _ h => h) (Or.inl ⟨by rfl, ?_⟩) hHeld ?_ ?_
     rotate_left
     · rintro w' ⟨s0, s2⟩
       go_simp
       with_reducible rfl
     rotate_left
     · simp only [Act.put, List.getElem_toArray, List.getElem_cons_zero, List.getElem_cons_succ, List.setIfInBounds_toArray, List.set_cons_zero, List.set_cons_succ, i64_w, i32_w]
       rfl
    iterate 1 (refine skipX (by decide +kernel) ?_)
    iterate 5
     refine nextX (v := ?_) (a' := ?_) rfl (by decide +kernel) (fun _ _ _ h => h) (Or.inl ⟨by rfl, ?_⟩) hHeld ?_ ?_
     rotate_left
     · rintro w' ⟨s0, s2⟩
       go_simp
       with_reducible rfl
     rotate_left
     · simp only [Act.put, List.getElem_toArray, List.getElem_cons_zero, List.getElem_cons_succ, List.setIfInBounds_toArray, List.set_cons_zero, List.set_cons_succ, i64_w, i32_w]
       rfl
    iterate 4 (refine skipX (by decide +kernel) ?_)
    iterate 15
     refine nextX (v := ?_) (a' := ?_) rfl (by decide +kernel) (fun _ _ _ h => h) (Or.inl ⟨by rfl, ?_⟩) hHeld ?_ ?_
     rotate_left
     · rintro w' ⟨s0, s2⟩
       go_simp
       with_reducible rfl
     rotate_left
     · simp only [Act.put, List.getElem_toArray, List.getElem_cons_zero, List.getElem_cons_succ, List.setIfInBounds_toArray, List.set_cons_zero, List.set_cons_succ, i64_w, i32_w]
       rfl
    apply share0
    · intro tail
      refine two_ (i := 11) (j := 17) (Ni := some 55) (Nj := some 61) (upX 42 36 [17, 18, 19, 20, 38, 41]) (upX 42 36 [11, 18, 19, 20, 38, 41]) rfl rfl rfl rfl (by decide +kernel) (by decide) (by decide) (fun K hK => ?_) (fun K hK => ?_)
      · skip
        refine value_ (w1 := ?_) (v := ?_) (by rfl) rfl ?_ ?_
        rotate_left 2
        · go_simp
          constructor
          · rfl
          · rfl
        refine hK.out _ _ hHeld (fun hHeld => ?_)
        clear hK K
        refine norm_ (a' := ?_) ?_ ?_
        rotate_left
        · show Act.put _ (some 55) _ = _
          simp only [Act.put, List.getElem_toArray, List.getElem_cons_zero, List.getElem_cons_succ, List.setIfInBounds_toArray, List.set_cons_zero, List.set_cons_succ, i64_w, i32_w]
          rfl
        refine one_ (i := 17) (N := some 61) (upX 42 36 [18, 19, 20, 38, 41]) rfl rfl (by decide +kernel) (by decide) (fun K hK => ?_)
        refine value_ (w1 := ?_) (v := ?_) (by rfl) rfl ?_ ?_
        rotate_left 2
        · go_simp
          constructor
          · rfl
          · rfl
        refine hK.out _ _ hHeld (fun hHeld => ?_)
        clear hK K
        refine norm_ (a' := ?_) ?_ ?_
        rotate_left
        · show Act.put _ (some 61) _ = _
          simp only [Act.put, List.getElem_toArray, List.getElem_cons_zero, List.getElem_cons_succ, List.setIfInBounds_toArray, List.set_cons_zero, List.set_cons_succ, i64_w, i32_w]
          rfl
        refine pure_ (i := 18) (N := some 62) (v := ?_) (a' := ?_) (upX 42 36 [19, 20, 38, 41]) rfl rfl (by decide +kernel) (fun _ _ _ h => h) (Or.inl ⟨by rfl, ?_⟩) ?_ ?_
        rotate_left
        · intro w'
          go_simp
          with_reducible rfl
        rotate_left
        · show Act.put _ (some 62) _ = _
          simp only [Act.put, List.getElem_toArray, List.getElem_cons_zero, List.getElem_cons_succ, List.setIfInBounds_toArray, List.set_cons_zero, List.set_cons_succ, i64_w, i32_w]
          rfl
        refine pure_ (i := 19) (N := some 63) (v := ?_) (a' := ?_) (upX 42 36 [20, 38, 41]) rfl rfl (by decide +kernel) (fun _ _ _ h => h) (Or.inl ⟨by rfl, ?_⟩) ?_ ?_
        rotate_left
        · intro w'
          go_simp
          with_reducible rfl
        rotate_left
        · show Act.put _ (some 63) _ = _
          simp only [Act.put, List.getElem_toArray, List.getElem_cons_zero, List.getElem_cons_succ, List.setIfInBounds_toArray, List.set_cons_zero, List.set_cons_succ, i64_w, i32_w]
          rfl
        exact tail
      · skip
        refine value_ (w1 := ?_) (v := ?_) (by rfl) rfl ?_ ?_
        rotate_left 2
        · go_simp
          constructor
          · rfl
          · rfl
        refine hK.out _ _ hHeld (fun hHeld => ?_)
        clear hK K
        refine norm_ (a' := ?_) ?_ ?_
        rotate_left
        · show Act.put _ (some 61) _ = _
          simp only [Act.put, List.getElem_toArray, List.getElem_cons_zero, List.getElem_cons_succ, List.setIfInBounds_toArray, List.set_cons_zero, List.set_cons_succ, i64_w, i32_w]
          rfl
        refine pure_ (i := 18) (N := some 62) (v := ?_) (a' := ?_) (upX 42 36 [11, 19, 20, 38, 41]) rfl rfl (by decide +kernel) (fun _ _ _ h => h) (Or.inl ⟨by rfl, ?_⟩) ?_ ?_
        rotate_left
        · intro w'
          go_simp
          with_reducible rfl
        rotate_left
        · show Act.put _ (some 62) _ = _
          simp only [Act.put, List.getElem_toArray, List.getElem_cons_zero, List.getElem_cons_succ, List.setIfInBounds_toArray, List.set_cons_zero, List.set_cons_succ, i64_w, i32_w]
          rfl
        refine pure_ (i := 19) (N := some 63) (v := ?_) (a' := ?_) (upX 42 36 [11, 20, 38, 41]) rfl rfl (by decide +kernel) (fun _ _ _ h => h) (Or.inl ⟨by rfl, ?_⟩) ?_ ?_
        rotate_left
        · intro w'
          go_simp
          with_reducible rfl
        rotate_left
        · show Act.put _ (some 63) _ = _
          simp only [Act.put, List.getElem_toArray, List.getElem_cons_zero, List.getElem_cons_succ, List.setIfInBounds_toArray, List.set_cons_zero, List.set_cons_succ, i64_w, i32_w]
          rfl
        refine one_ (i := 11) (N := some 55) (upX 42 36 [20, 38, 41]) rfl rfl (by decide +kernel) (by decide) (fun K hK => ?_)
        refine value_ (w1 := ?_) (v := ?_) (by rfl) rfl ?_ ?_
        rotate_left 2
        · go_simp
          constructor
          · rfl
          · rfl
        refine hK.out _ _ hHeld (fun hHeld => ?_)
        clear hK K
        refine norm_ (a' := ?_) ?_ ?_
        rotate_left
        · show Act.put _ (some 55) _ = _
          simp only [Act.put, List.getElem_toArray, List.getElem_cons_zero, List.getElem_cons_succ, List.setIfInBounds_toArray, List.set_cons_zero, List.set_cons_succ, i64_w, i32_w]
          rfl
        exact tail
    refine pure_ (i := 20) (N := some 64) (v := ?_) (a' := ?_) (upX 42 36 [38, 41]) rfl rfl (by decide +kernel) (fun _ _ _ h => h) (Or.inl ⟨by rfl, ?_⟩) ?_ ?_
    rotate_left
    · intro w'
      go_simp
      with_reducible rfl
    rotate_left
    · show Act.put _ (some 64) _ = _
      simp only [Act.put, List.getElem_toArray, List.getElem_cons_zero, List.getElem_cons_succ, List.setIfInBounds_toArray, List.set_cons_zero, List.set_cons_succ, i64_w, i32_w]
      rfl
    iterate 2
     refine pureX (v := ?_) (a' := ?_) rfl (by decide +kernel) (fun _ _ _ h => h) (Or.inl ⟨by rfl, ?_⟩) ?_ ?_
     rotate_left
     · intro w'
       go_simp
       with_reducible rfl
     rotate_left
     · simp only [Act.put, List.getElem_toArray, List.getElem_cons_zero, List.getElem_cons_succ, List.setIfInBounds_toArray, List.set_cons_zero, List.set_cons_succ, i64_w, i32_w]
       rfl
    refine one_ (i := 38) (N := none) (upX 42 39 [41]) rfl rfl (by decide +kernel) (by decide) (fun K hK => ?_)
    refine skip_ (w1 := ?_) (by rfl) rfl ?_ ?_
    rotate_left
    · go_simp
      rfl
    have hne : G ≠ g := by have q1 := HGL.out; have q2 := HCU.out.2.1; omega
    have hnz : w.heap.size + 1 ≠ g := by have q1 := HGL.out; have q2 := HCU.out.2.1; have q3 := HGW.out; omega
    have HNE := Lib.hid hne
    have HNZ := Lib.hid hnz
    have k4b : (wr.drew.setCell ⟨g, kk * 5 + 2, none⟩ (.slice B2 y2.length e2)).cell? ⟨G, 4, none⟩ = some (.slice (some ⟨g, 0, none⟩) n4.length d4) := (blk_cell (blk_far (blk_drew HX.out) (p := ⟨g, kk * 5 + 2, none⟩) hne _) 4).trans rfl
    have p3b : (wr.drew.setCell ⟨g, kk * 5 + 2, none⟩ (.slice B2 y2.length e2)).cell? ⟨g, kk * 5 + 3, none⟩ = some (.slice B3 x.f3.length e3) := (World.cell?_setCell_other _ _ _ _ (by intro e; injection e with e1 e2; omega)).trans p3
    have f3b : (wr.drew.setCell ⟨g, kk * 5 + 2, none⟩ (.slice B2 y2.length e2)).frozen? ⟨g, kk * 5 + 3, none⟩ = false := blk_frozen (blk_set (blk_drew HCU.out.1) (kk * 5 + 2) (.slice B2 y2.length e2)) _
    clear hne hnz
    refine hK.out _ _ ⟨k4b, p3b⟩ (fun hHeld => ?_)
    clear hK K
    iterate 2
     refine pureX (v := ?_) (a' := ?_) rfl (by decide +kernel) (fun _ _ _ h => h) (Or.inl ⟨by rfl, ?_⟩) ?_ ?_
     rotate_left
     · intro w'
       go_simp
       with_reducible rfl
     rotate_left
     · simp only [Act.put, List.getElem_toArray, List.getElem_cons_zero, List.getElem_cons_succ, List.setIfInBounds_toArray, List.set_cons_zero, List.set_cons_succ, i64_w, i32_w]
       rfl
    have f3w : wr.frozen? ⟨g, kk * 5 + 3, none⟩ = false := f3
    refine last_ (i := 41) (N := none) (upX 42 42 []) rfl rfl (by decide +kernel) (by decide) (fun K hK => ?_)
    refine skip_ (w1 := ?_) (by rfl) rfl ?_ ?_
    rotate_left
    · go_simp
      rfl
    refine hK.out _ _ ?_
    clear hK K
    refine done_ (by decide +kernel) ?_
    have hcd := blk_drew HCU.out.1
    have hcd2 := blk_set hcd (kk * 5 + 2) (.slice B2 y2.length e2)
    have hgW : w.heap.size ≤ g := by have q1 := HNZ.out; have q2 := HCU.out.2.1; have q3 := HB3s.out; omega
    have hb8 := ((below_drew HB.out).setCell (p := ⟨g, kk * 5 + 2, none⟩) hgW (.slice B2 y2.length e2)).setCell (p := ⟨g, kk * 5 + 3, none⟩) hgW (.slice B3 y3.length e3)
    have hx8 := blk_far (blk_far (blk_drew HX.out) (p := ⟨g, kk * 5 + 2, none⟩) HNE.out (.slice B2 y2.length e2)) (p := ⟨g, kk * 5 + 3, none⟩) HNE.out (.slice B3 y3.length e3)
    have hz8 := blk_far (blk_far (blk_drew HZ.out) (p := ⟨g, kk * 5 + 2, none⟩) HNZ.out (.slice B2 y2.length e2)) (p := ⟨g, kk * 5 + 3, none⟩) HNZ.out (.slice B3 y3.length e3)
    have hq1 := Kd.R_set (Kd.R_set (Kd.R_drew HP1.out) hcd (by decide) (kk * 5 + 2) (.slice B2 y2.length e2)) hcd2 (by decide) (kk * 5 + 3) (.slice B3 y3.length e3)
    have hq2 := Kd.R_set (Kd.R_set (Kd.R_drew HP2.out) hcd (by decide) (kk * 5 + 2) (.slice B2 y2.length e2)) hcd2 (by decide) (kk * 5 + 3) (.slice B3 y3.length e3)
    have hq3 := Kd.R_set (Kd.R_set (Kd.R_drew HP3.out) hcd (by decide) (kk * 5 + 2) (.slice B2 y2.length e2)) hcd2 (by decide) (kk * 5 + 3) (.slice B3 y3.length e3)
    have hM : Kd.FK k62 wr.drew (fun k => w3.heap.size ≤ k ∧ k ≠ g) (stepC x) [.string x.f0, .int .i64 x.f1, .slice B2 y2.length e2, .slice B3 y3.length e3, .int .i64 x.f4] := by
     have z2 := take_F HFS.out.2.1 8
     have z3 := take_F HFS.out.2.2 3
     rw [← HY.out.1] at z2
     rw [← HY.out.2] at z3
     have z4 : stepC x = ⟨x.f0, x.f1, y2, y3, x.f4⟩ := by rw [HY.out.1, HY.out.2]; rfl
     rw [z4]
     exact k62_mkF wr.drew _ ⟨x.f0, x.f1, y2, y3, x.f4⟩ (by show y2.length ≤ e2; omega) (Kd.F_drew z2) (by show y3.length ≤ e3; omega) (Kd.F_drew z3)
    have hn8 := (Kd.N_seg (Kd.N_drew HN.out) (kk : Int) (Int.natCast_nonneg _) (by omega) (c := [.string x.f0, .int .i64 x.f1, .slice B2 x.f2.length e2, .slice B3 x.f3.length e3, .int .i64 x.f4]) (seg := [.slice B2 y2.length e2, .slice B3 y3.length e3]) (j := 2) rfl (fun j u hu => HFS.out.1 j u hu) (show 2 + 2 ≤ 5 by decide) hM (fun _ hk => hk)).1
    rw [Int.toNat_natCast, HSET.out] at hn8
    have hn9 : Kd.N k62 62 ((wr.drew.setCell ⟨g, kk * 5 + 2, none⟩ (.slice B2 y2.length e2)).setCell ⟨g, kk * 5 + 3, none⟩ (.slice B3 y3.length e3)) w3.heap.size (fun k => w3.heap.size ≤ k) (.slice (some ⟨g, 0, none⟩) n4.length d4) ((n4.take (kk + 1)).map stepC ++ n4.drop (kk + 1)) := hn8
    have e8 : (wr.drew.setCell ⟨g, kk * 5 + 2, none⟩ (.slice B2 y2.length e2)).setCell ⟨g, kk * 5 + 3, none⟩ (.slice B3 y3.length e3) = ((wr.setCell ⟨g, kk * 5 + 2, none⟩ (.slice B2 y2.length e2)).setCell ⟨g, kk * 5 + 3, none⟩ (.slice B3 y3.length e3)).drew := rfl
    rw [e8] at hb8 hx8 hz8 hq1 hq2 hq3 hn9
    go_wp2_with fail
    generalize ((wr.setCell ⟨g, kk * 5 + 2, none⟩ (.slice B2 y2.length e2)).setCell ⟨g, kk * 5 + 3, none⟩ (.slice B3 y3.length e3)).drew = w8 at hb8 hx8 hz8 hq1 hq2 hq3 hn9 ⊢
    have HB8 := Lib.hid hb8
    have HX8 := Lib.hid hx8
    have HZ8 := Lib.hid hz8
    have HQ1 := Lib.hid hq1
    have HQ2 := Lib.hid hq2
    have HQ3 := Lib.hid hq3
    have HN9 := Lib.hid hn9
    clear e8 f3w hcd hcd2 hb8 hx8 hz8 hq1 hq2 hq3 hn8 hn9 hM k4b p3b f3b p2 p3 f2 f3 k4 hHeld hgW
    go_roundg (n4.length - (kk + 1))
    case measure => omega
    case rel => exact ⟨kk + 1, by omega, by omega, by first | rfl | go_num, ⟨HB8.out⟩, ⟨HX8.out⟩, ⟨HZ8.out⟩, ⟨HQ1.out⟩, ⟨HQ2.out⟩, ⟨HQ3.out⟩, ⟨HN9.out⟩⟩
  · have hltz : ¬ (kk : Int) < (n4.length : Int) := by omega
    obtain rfl : kk = n4.length := by omega
    have hR := HN.out
    rw [List.take_length, List.drop_length, List.append_nil] at hR
    have HN2 := Lib.hid hR
    have hZ := HZ.out
    have g0 : wr.cell? ⟨G, 0, none⟩ = some (.string f0) := (blk_cell HX.out 0).trans rfl
    have g1 : wr.cell? ⟨G, 1, none⟩ = some (.slice X1 n1.length d1) := (blk_cell HX.out 1).trans rfl
    have g2 : wr.cell? ⟨G, 2, none⟩ = some (.slice X2 n2.length d2) := (blk_cell HX.out 2).trans rfl
    have g3 : wr.cell? ⟨G, 3, none⟩ = some (.slice X3 n3.length d3) := (blk_cell HX.out 3).trans rfl
    have g4 : wr.cell? ⟨G, 4, none⟩ = some (.slice X4 n4.length d4) := (blk_cell HX.out 4).trans rfl
    have r0 : wr.cell? ⟨w.heap.size + 1, 0, none⟩ = some (.string ⟨#[]⟩) := (blk_cell hZ 0).trans rfl
    have r1 : wr.cell? ⟨w.heap.size + 1, 1, none⟩ = some (.slice none 0 0) := (blk_cell hZ 1).trans rfl
    have r2 : wr.cell? ⟨w.heap.size + 1, 2, none⟩ = some (.slice none 0 0) := (blk_cell hZ 2).trans rfl
    have r3 : wr.cell? ⟨w.heap.size + 1, 3, none⟩ = some (.slice none 0 0) := (blk_cell hZ 3).trans rfl
    have r4 : wr.cell? ⟨w.heap.size + 1, 4, none⟩ = some (.slice none 0 0) := (blk_cell hZ 4).trans rfl
    have z0 := blk_frozen hZ 0
    have z1 := blk_frozen hZ 1
    have z2 := blk_frozen hZ 2
    have z3 := blk_frozen hZ 3
    have z4 := blk_frozen hZ 4
    clear hR hZ
    go_wp2_with fail
    have hZok : ∀ k, w3.heap.size ≤ k → k ≠ w.heap.size + 1 := by intro k hk e; have q1 := HGW.out; have q2 := HGL.out; omega
    have hs := set5_blk (.string f0) (.slice X1 n1.length d1) (.slice X2 n2.length d2) (.slice X3 n3.length d3) (.slice X4 n4.length d4) HZ.out
    have hA := RS.set5 HP1.out (.string f0) (.slice X1 n1.length d1) (.slice X2 n2.length d2) (.slice X3 n3.length d3) (.slice X4 n4.length d4) HZ.out (by decide)
    have hB := RS.set5 HP2.out (.string f0) (.slice X1 n1.length d1) (.slice X2 n2.length d2) (.slice X3 n3.length d3) (.slice X4 n4.length d4) HZ.out (by decide)
    have hC := RS.set5 HP3.out (.string f0) (.slice X1 n1.length d1) (.slice X2 n2.length d2) (.slice X3 n3.length d3) (.slice X4 n4.length d4) HZ.out (by decide)
    have hE := (Kd.N_far (Kd.N_far (Kd.N_far (Kd.N_far (Kd.N_far HN2.out (p := ⟨w.heap.size + 1, 0, none⟩) hZok (.string f0)) (p := ⟨w.heap.size + 1, 1, none⟩) hZok (.slice X1 n1.length d1)) (p := ⟨w.heap.size + 1, 2, none⟩) hZok (.slice X2 n2.length d2)) (p := ⟨w.heap.size + 1, 3, none⟩) hZok (.slice X3 n3.length d3)) (p := ⟨w.heap.size + 1, 4, none⟩) hZok (.slice X4 n4.length d4))
    have hle : w.heap.size ≤ w.heap.size + 1 := Nat.le_succ _
    have hD := ((((HB.out.setCell (p := ⟨w.heap.size + 1, 0, none⟩) hle (.string f0)).setCell (p := ⟨w.heap.size + 1, 1, none⟩) hle (.slice X1 n1.length d1)).setCell (p := ⟨w.heap.size + 1, 2, none⟩) hle (.slice X2 n2.length d2)).setCell (p := ⟨w.heap.size + 1, 3, none⟩) hle (.slice X3 n3.length d3)).setCell (p := ⟨w.heap.size + 1, 4, none⟩) hle (.slice X4 n4.length d4)
    clear g0 g1 g2 g3 g4 r0 r1 r2 r3 r4 z0 z1 z2 z3 z4 hZok
    unfold set5 at hs hA hB hC
    generalize ((((wr.setCell ⟨w.heap.size + 1, 0, none⟩ (.string f0)).setCell ⟨w.heap.size + 1, 1, none⟩ (.slice X1 n1.length d1)).setCell ⟨w.heap.size + 1, 2, none⟩ (.slice X2 n2.length d2)).setCell ⟨w.heap.size + 1, 3, none⟩ (.slice X3 n3.length d3)).setCell ⟨w.heap.size + 1, 4, none⟩ (.slice X4 n4.length d4) = wE at hs hA hB hC hD hE ⊢
    have g0 := (blk_cell hs 0).trans rfl
    have g1 := (blk_cell hs 1).trans rfl
    have g2 := (blk_cell hs 2).trans rfl
    have g3 := (blk_cell hs 3).trans rfl
    have g4 := (blk_cell hs 4).trans rfl
    have hup : ∀ k, w3.heap.size ≤ k → w.heap.size ≤ k := fun k hk => Nat.le_trans HB3s.out hk
    have hF : Kd.FK k49 wE (fun k => w.heap.size ≤ k) (ruleC ⟨f0, l1, l2, l3, l4⟩) [.string f0, .slice X1 n1.length d1, .slice X2 n2.length d2, .slice X3 n3.length d3, .slice X4 n4.length d4] := by
     have q4 := Kd.F_mono (Kd.N_F hE) hup
     have q5 := (Kd.N_reads' hE).2.1
     have e1 : ruleC ⟨f0, l1, l2, l3, l4⟩ = ⟨f0, n1, n2, n3, n4.map stepC⟩ := by rw [HNQ.out.1, HNQ.out.2.1, HNQ.out.2.2.1, HNQ.out.2.2.2]; rfl
     have e2 : (n4.map stepC).length = n4.length := List.length_map _
     rw [e1]
     have q := k49_mkF wE (fun k => w.heap.size ≤ k) ⟨f0, n1, n2, n3, n4.map stepC⟩ (Kd.R_reads' hA).2.1 (Kd.R_F (Kd.R_mono (Kd.R_bound hA) (fun k h => hup k h.2.1))) (Kd.R_reads' hB).2.1 (Kd.R_F (Kd.R_mono (Kd.R_bound hB) (fun k h => hup k h.2.1))) (Kd.R_reads' hC).2.1 (Kd.R_F (Kd.R_mono (Kd.R_bound hC) (fun k h => hup k h.2.1))) (A4 := X4) (c4 := d4) (by rw [e2]; exact q5) (by rw [e2]; exact q4)
     rw [e2] at q
     exact q
    exact bodyPost_ret (v := .agg #[.string f0, .slice X1 n1.length d1, .slice X2 n2.length d2, .slice X3 n3.length d3, .slice X4 n4.length d4]) (by simp [results, Tryz.results45, go_sem, g0, g1, g2, g3, g4]) rfl (isRuleF_mk HNQ.out hF hD)

end Go.Proofs.YthagibkmfgodgaaGreatDoor.X

namespace Go.Proofs.YthagibkmfgodgaaGreatDoor.X
open Go.RowKit Go.ChangeShapes Go.WideShapes Go.Deep Go.Proofs.YthagibkmfgodgaaGreatDoorW.PrintWords

theorem addr_add (a : Addr) (i j : Nat) : (a.add i).add j = a.add (i + j) := by
 unfold Addr.add
 by_cases hi : i = 0 <;> by_cases hj : j = 0 <;> simp [hi, hj, Nat.add_assoc]
section
variable {H : Type} {enc : TypeId × Value → H} {W : World} {α : Type}
end

instance : Inhabited S123 := ⟨z123⟩
instance : Inhabited S118 := ⟨z118⟩
end Go.Proofs.YthagibkmfgodgaaGreatDoor.X
