/-
  What the cards lean on (part Y13): contracts of functions, by hand, and plain laws; what is printed by the kit's print for this seat is among them. What is not reached is left out.
-/
import Derived.Test.YtdpgdnpddndeoaaGreatDoorRows
import Derived.Deep.Slices
import Derived.ChangeSame
import Derived.SizedLaws
import Derived.Deep.Strs
import Derived.OpenShut
import Derived.Test.YtdpgdnpddndeoaaGreatDoorY12
import Derived.Test.YtdpgdnpddndeoaaGreatDoorY7
import Derived.Test.YtdpgdnpddndeoaaGreatDoorY8
import Derived.Test.YtdpgdnpddndeoaaGreatDoorY2
import Derived.Test.YtdpgdnpddndeoaaGreatDoorY1
import Derived.Test.YtdpgdnpddndeoaaGreatDoorY0
set_option maxHeartbeats 16000000
set_option maxRecDepth 100000
set_option linter.unusedSimpArgs false
set_option linter.unusedVariables false
open Go.RowKit.Below renaming refl -> zpt
open Nat renaming le_refl -> zpu, le_trans -> zpA, mul_le_mul_right -> zpM
open List renaming length_map -> zp6, length_take -> zpF, getElem?_eq_some_iff -> zpP, mem_singleton -> zqR, mem_cons -> zqB, take_of_length_le -> zqM, any_eq_true -> zqT, drop_succ_cons -> zqy, mem_map -> zqN
open Option.some renaming inj -> zp2
open Go.World renaming size_alloc -> zqE

namespace Go.Proofs.YtdpgdnpddndeoaaGreatDoor.X
open Go.RowKit Go.Maps Go.Proofs.YtdpgdnpddndeoaaGreatDoorW.PrintWords Go.Proofs.YtdpgdnpddndeoaaGreatDoorW.PrintMore Go.Proofs.YtdpgdnpddndeoaaGreatDoorW.PrintLast
theorem zdM (A : Option Addr) (c : Nat) (B : Option Addr) (d : Nat) (l : List ByteArray) (w : World) (h1 : Kd.C Kd.string w A l.length l) (h2 : Kd.C Kd.string w B l.length l) :
 Calls Tryz.prog 195 #[.slice A l.length c, .slice B l.length d] w fun e w' => e = .returned (.bool true) /\ Below w.heap.size w w' := by
 have hm := h1.2.1; have H1 := zpq h1; have H2 := zpq h2; clear h1 h2; go_enter Tryz.func195, Tryz.ntmps195
 go_wp2_with fail; go_loopg [5, 13] l.length (fun gg _ s13 wr => ∃ kk : Nat, kk <= l.length /\ l.length - kk <= gg /\ s13 = .int .i64 kk /\ Aside0 (Below w.heap.size w wr))
 case atStart => exact ⟨0, by omega, by omega, rfl, ⟨zpt _ _⟩⟩
 case round =>
  obtain ⟨kk, hkk, hgk, rfl, HB⟩ := hrel; by_cases hlt : kk < l.length
  . have hltz : (kk : Int) < (l.length : Int) := by omega
    rcases zaL (Kd.C_below H1.out HB.out) with h0 | ⟨b, o, rfl, _, hcell⟩
    . rw [h0] at hlt; simp at hlt
    rcases zaL (Kd.C_below H2.out HB.out) with h0 | ⟨b', o', rfl, _, hcell'⟩
    . rw [h0] at hlt; simp at hlt
    have hx : wr.cell? ⟨b, o + kk, none⟩ = some (.string (l.getD kk ByteArray.empty)) := hcell kk hlt; have hx' : wr.cell? ⟨b', o' + kk, none⟩ = some (.string (l.getD kk ByteArray.empty)) := hcell' kk hlt; generalize l.getD kk ByteArray.empty = y at hx hx'; have HBd := zpq (zaV HB.out); clear hcell hcell'; go_wp2_with fail; go_region
    all_goals
     go_wp2; go_roundg (l.length - (kk + 1))
     case measure => omega
     case rel => exact ⟨kk + 1, by omega, by omega, by go_num, ⟨HBd.out⟩⟩
  . have hltz : ¬ (kk : Int) < (l.length : Int) := by omega
    go_wp2; go_ret
    exact ⟨rfl, HB.out⟩

theorem zn7 (x : zar) (A2 : Option Addr) (c2 : Nat) (A3 : Option Addr) (c3 : Nat) (B2 : Option Addr) (d2 : Nat) (B3 : Option Addr) (d3 : Nat) (w : World)
 (h2 : Kd.C Kd.string w A2 x.f2.length x.f2) (h3 : Kd.C Kd.string w A3 x.f3.length x.f3) (g2 : Kd.C Kd.string w B2 x.f2.length x.f2) (g3 : Kd.C Kd.string w B3 x.f3.length x.f3) :
 Calls Tryz.prog 197 #[.agg #[.string x.f0, .int .i64 x.f1, .slice A2 x.f2.length c2, .slice A3 x.f3.length c3, .int .i64 x.f4], .agg #[.string x.f0, .int .i64 x.f1, .slice B2 x.f2.length d2, .slice B3 x.f3.length d3, .int .i64 x.f4]] w
  fun e w' => e = .returned (.bool true) /\ Below w.heap.size w w' := by
 have hb1 := (zpt w.heap.size w).alloc (zpu _) (.cells #[.string x.f0, .int .i64 x.f1, .slice A2 x.f2.length c2, .slice A3 x.f3.length c3, .int .i64 x.f4] 24); have hb2 := hb1.alloc hb1.size (.cells #[.string x.f0, .int .i64 x.f1, .slice B2 x.f2.length d2, .slice B3 x.f3.length d3, .int .i64 x.f4] 24); have hk := zaB (zal w (.cells #[.string x.f0, .int .i64 x.f1, .slice A2 x.f2.length c2, .slice A3 x.f3.length c3, .int .i64 x.f4] 24)) (.cells #[.string x.f0, .int .i64 x.f1, .slice B2 x.f2.length d2, .slice B3 x.f3.length d3, .int .i64 x.f4] 24); have hz := zal (w.alloc (.cells #[.string x.f0, .int .i64 x.f1, .slice A2 x.f2.length c2, .slice A3 x.f3.length c3, .int .i64 x.f4] 24)) (.cells #[.string x.f0, .int .i64 x.f1, .slice B2 x.f2.length d2, .slice B3 x.f3.length d3, .int .i64 x.f4] 24); rw [zqE] at hz; have HB2 := zpq hb2; have HK2 := zpq hk; have HZ2 := zpq hz; have hE2 : Hid (∀ W, Below w.heap.size w W -> Calls Tryz.prog 195 #[.slice A2 x.f2.length c2, .slice B2 x.f2.length d2] W fun e w' => e = .returned (.bool true) /\ Below W.heap.size W w') := fun W hW => zdM A2 c2 B2 d2 x.f2 W (Kd.C_below h2 hW) (Kd.C_below g2 hW)
 have hE3 : Hid (∀ W, Below w.heap.size w W -> Calls Tryz.prog 195 #[.slice A3 x.f3.length c3, .slice B3 x.f3.length d3] W fun e w' => e = .returned (.bool true) /\ Below W.heap.size W w') := fun W hW => zdM A3 c3 B3 d3 x.f3 W (Kd.C_below h3 hW) (Kd.C_below g3 hW)
 clear hb1 hb2 hk hz h2 h3 g2 g3; go_enter Tryz.func197, Tryz.ntmps197
 go_wp2_with fail; generalize (w.alloc (.cells #[.string x.f0, .int .i64 x.f1, .slice A2 x.f2.length c2, .slice A3 x.f3.length c3, .int .i64 x.f4] 24)).alloc (.cells #[.string x.f0, .int .i64 x.f1, .slice B2 x.f2.length d2, .slice B3 x.f3.length d3, .int .i64 x.f4] 24) = w2 at HB2 HK2 HZ2 |-; refine (hE2.out _ HB2.out).mono ?_; rintro e w3 ⟨rfl, hb3⟩; have HB3 := zpq (zad HB2.out HB2.out.size hb3); have k3 : w3.cell? ⟨w.heap.size, 3, none⟩ = some (.slice A3 x.f3.length c3) := (zab (zah HK2.out hb3) 3).trans rfl; have j3 : w3.cell? ⟨w.heap.size + 1, 3, none⟩ = some (.slice B3 x.f3.length d3) := (zab (zah HZ2.out hb3) 3).trans rfl; clear hb3; go_wp2_with fail; refine (hE3.out _ HB3.out).mono ?_; rintro e w4 ⟨rfl, hb4⟩; have HB4 := zpq (zad HB3.out HB3.out.size hb4); clear hb4; go_wp2_with fail; go_ret
 exact ⟨rfl, HB4.out⟩

theorem zcv {w : World} {a : Addr} {v : Value} (h : w.cell? a = some v) (ob : Obj) : (w.alloc ob).cell? a = some v := (World.cell?_alloc_some w a ob (by rw [h]; rfl)).trans h
abbrev zcc (w : World) (e : Ending) (w' : World) : Prop := e = .returned (.bool true) /\ Below w.heap.size w w'
theorem zdU {w : World} {x : zar} {A : Option Addr} (h : Kd.C k24 w A 1 [x]) :
 ∃ ad A2 c2 A3 c3, A = some ad /\ Kd.C Kd.string w A2 x.f2.length x.f2 /\ Kd.C Kd.string w A3 x.f3.length x.f3 /\ w.cell? ad = some (.string x.f0) /\ w.cell? ⟨ad.block, ad.off + 1, none⟩ = some (.int .i64 x.f1) /\
  w.cell? ⟨ad.block, ad.off + 2, none⟩ = some (.slice A2 x.f2.length c2) /\ w.cell? ⟨ad.block, ad.off + 3, none⟩ = some (.slice A3 x.f3.length c3) /\ w.cell? ⟨ad.block, ad.off + 4, none⟩ = some (.int .i64 x.f4) := by
 obtain ⟨ad, cs, rfl, hcl, hK, hcell⟩ := Kd.C_get h x 0 (by simp) (by simp)
 obtain ⟨A5, c5, A6, c6, hcs, hc5, h5, hc6, h6⟩ := zcW hK; subst hcs; refine ⟨ad, A5, c5, A6, c6, rfl, h5, h6, ?_, ?_, ?_, ?_, ?_⟩
 . have := hcell 0 _ rfl; rwa [zdj] at this
 . have := hcell 1 _ rfl; rwa [at_next ad 1 (by decide)] at this
 . have := hcell 2 _ rfl; rwa [at_next ad 2 (by decide)] at this
 . have := hcell 3 _ rfl; rwa [at_next ad 3 (by decide)] at this
 . have := hcell 4 _ rfl; rwa [at_next ad 4 (by decide)] at this
theorem zd4 {w : World} {r : zaj} {A : Option Addr} (h : Kd.C k45 w A 1 [r]) :
 ∃ ad A1 c1 A2 c2 A3 c3 A4 c4, A = some ad /\ Kd.C Kd.string w A1 r.f1.length r.f1 /\ Kd.C Kd.string w A2 r.f2.length r.f2 /\ Kd.C Kd.string w A3 r.f3.length r.f3 /\ Kd.C k24 w A4 r.f4.length r.f4 /\
  w.cell? ad = some (.string r.f0) /\ w.cell? ⟨ad.block, ad.off + 1, none⟩ = some (.slice A1 r.f1.length c1) /\
  w.cell? ⟨ad.block, ad.off + 2, none⟩ = some (.slice A2 r.f2.length c2) /\ w.cell? ⟨ad.block, ad.off + 3, none⟩ = some (.slice A3 r.f3.length c3) /\ w.cell? ⟨ad.block, ad.off + 4, none⟩ = some (.slice A4 r.f4.length c4) := by
 obtain ⟨ad, cs, rfl, hcl, hK, hcell⟩ := Kd.C_get h r 0 (by simp) (by simp)
 obtain ⟨A1, c1, A2, c2, A3, c3, A4, c4, hcs, _, h1, _, h2, _, h3, _, h4⟩ := zcE hK; subst hcs; refine ⟨ad, A1, c1, A2, c2, A3, c3, A4, c4, rfl, h1, h2, h3, h4, ?_, ?_, ?_, ?_, ?_⟩
 . have := hcell 0 _ rfl; rwa [zdj] at this
 . have := hcell 1 _ rfl; rwa [at_next ad 1 (by decide)] at this
 . have := hcell 2 _ rfl; rwa [at_next ad 2 (by decide)] at this
 . have := hcell 3 _ rfl; rwa [at_next ad 3 (by decide)] at this
 . have := hcell 4 _ rfl; rwa [at_next ad 4 (by decide)] at this

theorem zoB (x : zar) (A : Option Addr) (c : Nat) (B : Option Addr) (d : Nat) (w : World) (h1 : Kd.C k24 w A 1 [x]) (h2 : Kd.C k24 w B 1 [x]) :
 Calls Tryz.prog 196 #[.slice A 1 c, .slice B 1 d, .func (.func 197) #[] #[]] w (zcc w) := by
 obtain ⟨ad, A2, c2, A3, c3, rfl, hA2, hA3, m0, m1, m2, m3, m4⟩ := zdU h1; obtain ⟨bd, B2, d2, B3, d3, rfl, hB2, hB3, n0, n1, n2, n3, n4⟩ := zdU h2; have hS : Hid (∀ W, Below w.heap.size w W -> Calls Tryz.prog 197 #[.agg #[.string x.f0, .int .i64 x.f1, .slice A2 x.f2.length c2, .slice A3 x.f3.length c3, .int .i64 x.f4], .agg #[.string x.f0, .int .i64 x.f1, .slice B2 x.f2.length d2, .slice B3 x.f3.length d3, .int .i64 x.f4]] W
  fun e w' => e = .returned (.bool true) /\ Below W.heap.size W w') := fun W hW => zn7 x A2 c2 A3 c3 B2 d2 B3 d3 W (Kd.C_below hA2 hW) (Kd.C_below hA3 hW) (Kd.C_below hB2 hW) (Kd.C_below hB3 hW)
 clear h1 h2 hA2 hA3 hB2 hB3; go_enter Tryz.func196, Tryz.ntmps196
 go_wp2_with fail; go_loopg [17] 1 (fun gg s17 wr => ∃ kk : Nat, kk <= 1 /\ 1 - kk <= gg /\ s17 = .int .i64 kk /\ Aside0 (kk = 0 -> wr = w) /\ Aside0 (kk = 1 -> Below w.heap.size w wr))
 case atStart => exact ⟨0, by omega, by omega, rfl, ⟨fun _ => rfl⟩, ⟨fun h => by omega⟩⟩
 case round =>
  obtain ⟨kk, hkk, hgk, rfl, HP0, HP1⟩ := hrel; by_cases h0 : kk = 0
  . subst h0
    obtain rfl := HP0.out rfl; clear HP0 HP1; have p0 := zcv n0; have p1 := zcv n1; have p2 := zcv n2; have p3 := zcv n3; have p4 := zcv n4; have hb := ((zpt wr.heap.size wr).alloc (zpu _) (.cells #[.string x.f0, .int .i64 x.f1, .slice A2 x.f2.length c2, .slice A3 x.f3.length c3, .int .i64 x.f4] 24)).alloc (by rw [zqE]; omega) (.cells #[.string x.f0, .int .i64 x.f1, .slice B2 x.f2.length d2, .slice B3 x.f3.length d3, .int .i64 x.f4] 24)
    have HB := zpq hb; have hcall := hS.out _ hb; clear hb; go_wp2_with (go_at_call 197; refine hcall.mono ?_; rintro e w2 ⟨rfl, hb2⟩; have HB2 := zpq (zad HB.out HB.out.size hb2); clear hb2)
    go_roundg 0
    case measure => omega
    case rel => exact ⟨1, by omega, by omega, by first | rfl | go_num, ⟨fun h => by omega⟩, ⟨fun _ => HB2.out⟩⟩
  . obtain rfl : kk = 1 := by omega
    have HB := zpq (HP1.out rfl); clear HP0 HP1; go_wp2_with fail; go_ret
    exact ⟨rfl, HB.out⟩

theorem zlS (f0 : ByteArray) (l1 l2 l3 : List ByteArray) (x : zar) (A1 : Option Addr) (c1 : Nat) (A2 : Option Addr) (c2 : Nat) (A3 : Option Addr) (c3 : Nat) (A4 : Option Addr) (c4 : Nat) (B1 : Option Addr) (d1 : Nat) (B2 : Option Addr) (d2 : Nat) (B3 : Option Addr) (d3 : Nat) (B4 : Option Addr) (d4 : Nat) (w : World)
 (h1 : Kd.C Kd.string w A1 l1.length l1) (h2 : Kd.C Kd.string w A2 l2.length l2) (h3 : Kd.C Kd.string w A3 l3.length l3) (h4 : Kd.C k24 w A4 1 [x])
 (g1 : Kd.C Kd.string w B1 l1.length l1) (g2 : Kd.C Kd.string w B2 l2.length l2) (g3 : Kd.C Kd.string w B3 l3.length l3) (g4 : Kd.C k24 w B4 1 [x]) :
 Calls Tryz.prog 146 #[.agg #[.string f0, .slice A1 l1.length c1, .slice A2 l2.length c2, .slice A3 l3.length c3, .slice A4 1 c4], .agg #[.string f0, .slice B1 l1.length d1, .slice B2 l2.length d2, .slice B3 l3.length d3, .slice B4 1 d4]] w (zcc w) := by
 have hb1 := (zpt w.heap.size w).alloc (zpu _) (.cells #[.string f0, .slice A1 l1.length c1, .slice A2 l2.length c2, .slice A3 l3.length c3, .slice A4 1 c4] 45); have hb2 := hb1.alloc hb1.size (.cells #[.string f0, .slice B1 l1.length d1, .slice B2 l2.length d2, .slice B3 l3.length d3, .slice B4 1 d4] 45); have hk := zaB (zal w (.cells #[.string f0, .slice A1 l1.length c1, .slice A2 l2.length c2, .slice A3 l3.length c3, .slice A4 1 c4] 45)) (.cells #[.string f0, .slice B1 l1.length d1, .slice B2 l2.length d2, .slice B3 l3.length d3, .slice B4 1 d4] 45); have hz := zal (w.alloc (.cells #[.string f0, .slice A1 l1.length c1, .slice A2 l2.length c2, .slice A3 l3.length c3, .slice A4 1 c4] 45)) (.cells #[.string f0, .slice B1 l1.length d1, .slice B2 l2.length d2, .slice B3 l3.length d3, .slice B4 1 d4] 45); rw [zqE] at hz; have HB2 := zpq hb2; have HK2 := zpq hk; have HZ2 := zpq hz; have hE1 : Hid (∀ W, Below w.heap.size w W -> Calls Tryz.prog 195 #[.slice A1 l1.length c1, .slice B1 l1.length d1] W fun e w' => e = .returned (.bool true) /\ Below W.heap.size W w') := fun W hW => zdM A1 c1 B1 d1 l1 W (Kd.C_below h1 hW) (Kd.C_below g1 hW)
 have hE2 : Hid (∀ W, Below w.heap.size w W -> Calls Tryz.prog 195 #[.slice A2 l2.length c2, .slice B2 l2.length d2] W fun e w' => e = .returned (.bool true) /\ Below W.heap.size W w') := fun W hW => zdM A2 c2 B2 d2 l2 W (Kd.C_below h2 hW) (Kd.C_below g2 hW)
 have hE3 : Hid (∀ W, Below w.heap.size w W -> Calls Tryz.prog 195 #[.slice A3 l3.length c3, .slice B3 l3.length d3] W fun e w' => e = .returned (.bool true) /\ Below W.heap.size W w') := fun W hW => zdM A3 c3 B3 d3 l3 W (Kd.C_below h3 hW) (Kd.C_below g3 hW)
 have hE4 : Hid (∀ W, Below w.heap.size w W -> Calls Tryz.prog 196 #[.slice A4 1 c4, .slice B4 1 d4, .func (.func 197) #[] #[]] W (zcc W)) := fun W hW => zoB x A4 c4 B4 d4 W (Kd.C_below h4 hW) (Kd.C_below g4 hW)
 clear hb1 hb2 hk hz h1 h2 h3 h4 g1 g2 g3 g4; go_enter Tryz.func146, Tryz.ntmps146
 go_wp2_with fail; generalize (w.alloc (.cells #[.string f0, .slice A1 l1.length c1, .slice A2 l2.length c2, .slice A3 l3.length c3, .slice A4 1 c4] 45)).alloc (.cells #[.string f0, .slice B1 l1.length d1, .slice B2 l2.length d2, .slice B3 l3.length d3, .slice B4 1 d4] 45) = w2 at HB2 HK2 HZ2 |-; refine (hE1.out _ HB2.out).mono ?_; rintro e w3 ⟨rfl, hb3⟩; have HB3 := zpq (zad HB2.out HB2.out.size hb3); have HK3 := zpq (zah HK2.out hb3); have HZ3 := zpq (zah HZ2.out hb3); have k3 : w3.cell? ⟨w.heap.size, 2, none⟩ = some (.slice A2 l2.length c2) := (zab HK3.out 2).trans rfl; have j3 : w3.cell? ⟨w.heap.size + 1, 2, none⟩ = some (.slice B2 l2.length d2) := (zab HZ3.out 2).trans rfl; clear hb3; go_wp2_with fail; refine (hE2.out _ HB3.out).mono ?_; rintro e w4 ⟨rfl, hb4⟩; have HB4 := zpq (zad HB3.out HB3.out.size hb4); have HK4 := zpq (zah HK3.out hb4); have HZ4 := zpq (zah HZ3.out hb4); have k4 : w4.cell? ⟨w.heap.size, 3, none⟩ = some (.slice A3 l3.length c3) := (zab HK4.out 3).trans rfl; have j4 : w4.cell? ⟨w.heap.size + 1, 3, none⟩ = some (.slice B3 l3.length d3) := (zab HZ4.out 3).trans rfl; clear hb4; go_wp2_with fail; refine (hE3.out _ HB4.out).mono ?_; rintro e w5 ⟨rfl, hb5⟩; have HB5 := zpq (zad HB4.out HB4.out.size hb5); have HK5 := zpq (zah HK4.out hb5); have HZ5 := zpq (zah HZ4.out hb5); have k5 : w5.cell? ⟨w.heap.size, 4, none⟩ = some (.slice A4 1 c4) := (zab HK5.out 4).trans rfl; have j5 : w5.cell? ⟨w.heap.size + 1, 4, none⟩ = some (.slice B4 1 d4) := (zab HZ5.out 4).trans rfl; clear hb5; go_wp2_with fail; refine (hE4.out _ HB5.out).mono ?_; rintro e w6 ⟨rfl, hb6⟩; have HB6 := zpq (zad HB5.out HB5.out.size hb6); clear hb6; go_wp2_with fail; go_ret
 exact ⟨rfl, HB6.out⟩

theorem zpb (f0 : ByteArray) (l1 l2 l3 : List ByteArray) (x : zar) (A : Option Addr) (c : Nat) (B : Option Addr) (d : Nat) (w : World) (h1 : Kd.C k45 w A 1 [⟨f0, l1, l2, l3, [x]⟩]) (h2 : Kd.C k45 w B 1 [⟨f0, l1, l2, l3, [x]⟩]) :
 Calls Tryz.prog 145 #[.slice A 1 c, .slice B 1 d, .func (.func 146) #[] #[]] w (zcc w) := by
 obtain ⟨ad, A1, c1, A2, c2, A3, c3, A4, c4, rfl, hA1, hA2, hA3, hA4, m0, m1, m2, m3, m4⟩ := zd4 h1; obtain ⟨bd, B1, d1, B2, d2, B3, d3, B4, d4, rfl, hB1, hB2, hB3, hB4, n0, n1, n2, n3, n4⟩ := zd4 h2; replace m0 : w.cell? ad = some (.string f0) := m0
 replace m1 : w.cell? ⟨ad.block, ad.off + 1, none⟩ = some (.slice A1 l1.length c1) := m1
 replace m2 : w.cell? ⟨ad.block, ad.off + 2, none⟩ = some (.slice A2 l2.length c2) := m2
 replace m3 : w.cell? ⟨ad.block, ad.off + 3, none⟩ = some (.slice A3 l3.length c3) := m3
 replace m4 : w.cell? ⟨ad.block, ad.off + 4, none⟩ = some (.slice A4 1 c4) := m4
 replace n0 : w.cell? bd = some (.string f0) := n0
 replace n1 : w.cell? ⟨bd.block, bd.off + 1, none⟩ = some (.slice B1 l1.length d1) := n1
 replace n2 : w.cell? ⟨bd.block, bd.off + 2, none⟩ = some (.slice B2 l2.length d2) := n2
 replace n3 : w.cell? ⟨bd.block, bd.off + 3, none⟩ = some (.slice B3 l3.length d3) := n3
 replace n4 : w.cell? ⟨bd.block, bd.off + 4, none⟩ = some (.slice B4 1 d4) := n4
 have hS : Hid (∀ W, Below w.heap.size w W -> Calls Tryz.prog 146 #[.agg #[.string f0, .slice A1 l1.length c1, .slice A2 l2.length c2, .slice A3 l3.length c3, .slice A4 1 c4], .agg #[.string f0, .slice B1 l1.length d1, .slice B2 l2.length d2, .slice B3 l3.length d3, .slice B4 1 d4]] W (zcc W)) := fun W hW => zlS f0 l1 l2 l3 x A1 c1 A2 c2 A3 c3 A4 c4 B1 d1 B2 d2 B3 d3 B4 d4 W (Kd.C_below hA1 hW) (Kd.C_below hA2 hW) (Kd.C_below hA3 hW) (Kd.C_below hA4 hW) (Kd.C_below hB1 hW) (Kd.C_below hB2 hW) (Kd.C_below hB3 hW) (Kd.C_below hB4 hW)
 clear h1 h2 hA1 hA2 hA3 hA4 hB1 hB2 hB3 hB4; go_enter Tryz.func145, Tryz.ntmps145
 go_wp2_with fail; go_loopg [17] 1 (fun gg s17 wr => ∃ kk : Nat, kk <= 1 /\ 1 - kk <= gg /\ s17 = .int .i64 kk /\ Aside0 (kk = 0 -> wr = w) /\ Aside0 (kk = 1 -> Below w.heap.size w wr))
 case atStart => exact ⟨0, by omega, by omega, rfl, ⟨fun _ => rfl⟩, ⟨fun h => by omega⟩⟩
 case round =>
  obtain ⟨kk, hkk, hgk, rfl, HP0, HP1⟩ := hrel; by_cases h0 : kk = 0
  . subst h0
    obtain rfl := HP0.out rfl; clear HP0 HP1; have p0 := zcv n0; have p1 := zcv n1; have p2 := zcv n2; have p3 := zcv n3; have p4 := zcv n4; have hb := ((zpt wr.heap.size wr).alloc (zpu _) (.cells #[.string f0, .slice A1 l1.length c1, .slice A2 l2.length c2, .slice A3 l3.length c3, .slice A4 1 c4] 45)).alloc (by rw [zqE]; omega) (.cells #[.string f0, .slice B1 l1.length d1, .slice B2 l2.length d2, .slice B3 l3.length d3, .slice B4 1 d4] 45)
    have HB := zpq hb; have hcall := hS.out _ hb; clear hb; go_wp2_with (go_at_call 146; refine hcall.mono ?_; rintro e w2 ⟨rfl, hb2⟩; have HB2 := zpq (zad HB.out HB.out.size hb2); clear hb2)
    go_roundg 0
    case measure => omega
    case rel => exact ⟨1, by omega, by omega, by first | rfl | go_num, ⟨fun h => by omega⟩, ⟨fun _ => HB2.out⟩⟩
  . obtain rfl : kk = 1 := by omega
    have HB := zpq (HP1.out rfl); clear HP0 HP1; go_wp2_with fail; go_ret
    exact ⟨rfl, HB.out⟩
theorem zkV (f0 : ByteArray) (l1 l2 l3 : List ByteArray) (x : zar) (A : Option Addr) (c : Nat) (B : Option Addr) (d : Nat) (w : World) (h1 : Kd.C k45 w A 1 [⟨f0, l1, l2, l3, [x]⟩]) (h2 : Kd.C k45 w B 1 [⟨f0, l1, l2, l3, [x]⟩]) :
 Calls Tryz.prog 117 #[.slice A 1 c, .slice B 1 d] w (zcc w) := by
 have hE := zpb f0 l1 l2 l3 x A c B d w h1 h2; clear h1 h2; go_enter Tryz.func117, Tryz.ntmps117
 go_wp2_with fail; refine hE.mono ?_; rintro e w2 ⟨rfl, hb2⟩; go_wp2_with fail; go_ret
 exact ⟨rfl, hb2⟩
end Go.Proofs.YtdpgdnpddndeoaaGreatDoor.X

namespace Go.Proofs.YtdpgdnpddndeoaaGreatDoor.X
open Go.RowKit Go.Maps
def begW : zaa := [97, 32, 34, 92, 120, 52, 49, 34, 32, 59]
theorem zlL : allR (allF begW) = ([⟨1, 0, ⟨#[97]⟩⟩, ⟨2, 2, ⟨#[65]⟩⟩, ⟨3, 9, ⟨#[59]⟩⟩, ⟨4, 10, ⟨#[]⟩⟩], 0, 0) := by kernel_rfl
def begS : zaa := "rule r { in b, a; out x; # no\n x = select \"q\\n\" a; }".toUTF8.data.toList
def begX : zar := ⟨⟨#[120]⟩, 7, [⟨#[97]⟩], [⟨#[113, 10]⟩], 0⟩
theorem zjS : zb0 begS = ([⟨⟨#[114]⟩, [⟨#[98]⟩, ⟨#[97]⟩], [⟨#[120]⟩], [], [begX]⟩], 0, 0) := by kernel_rfl
def begE : zaa := "rule in {".toUTF8.data.toList
theorem zoJ : zb0 begE = ([], 1, 5) := by kernel_rfl
theorem begOp : opF ⟨#[99, 111, 117, 110, 116]⟩ = 4 := by kernel_rfl
theorem zj2 : zbj 4 = ⟨#[99, 111, 117, 110, 116]⟩ := by kernel_rfl
theorem begQ : zdK [97, 34, 10] = [34, 97, 92, 34, 92, 110, 34] := by kernel_rfl
theorem zkn : zcO begX = "x = select \"q\\n\" a;".toUTF8.data.toList := by kernel_rfl

def bB : ByteArray := ⟨#[98]⟩
def bA : ByteArray := ⟨#[97]⟩
theorem zd5 : zae [] = [] := by simp [zae]
theorem zd1 (x : ByteArray) : zae [x] = [x] := by
 unfold zae; rw [List.map_cons, List.map_nil, List.mergeSort_singleton]; rfl
theorem zfu : zae [⟨#[98]⟩, ⟨#[97]⟩] = [⟨#[97]⟩, ⟨#[98]⟩] := by
 unfold zae; show List.map mk (List.mergeSort [[98], [97]] _) = _
 simp [List.mergeSort, List.MergeSort.Internal.splitInTwo, List.merge]
 first | done | decide
theorem zib : zae [⟨#[97]⟩, ⟨#[98]⟩] = [⟨#[97]⟩, ⟨#[98]⟩] := by
 unfold zae; show List.map mk (List.mergeSort [[97], [98]] _) = _
 simp [List.mergeSort, List.MergeSort.Internal.splitInTwo, List.merge]
 first | done | decide
theorem zjq : zc1 ⟨#[114]⟩ [⟨#[97]⟩, ⟨#[98]⟩] [⟨#[120]⟩] [] begX = "rule r {\n  in a, b;\n  out x;\n  x = select \"q\\n\" a;\n}\n".toUTF8.data.toList := by
 unfold zc1 zcU; rw [zib, zd1, zd5]; kernel_rfl
theorem begSmall : zfi ⟨#[114]⟩ [⟨#[97]⟩, ⟨#[98]⟩] [⟨#[120]⟩] [] begX := by
 constructor
 . decide
 . decide
 . decide
 . decide
 . rw [zib]; decide
 . rw [zd1]; decide
 . rw [zd5]; decide
 . decide
 . decide
 . decide
 . intro y hy
   obtain rfl : y = ⟨#[113, 10]⟩ := by simpa [begX] using hy
   refine ⟨by decide, fun c hc => ?_⟩
   have : c = 113 \/ c = 10 := by simpa using hc
   rcases this with rfl | rfl
   . right; right; decide
   . left; rfl
 . decide

end Go.Proofs.YtdpgdnpddndeoaaGreatDoor.X

namespace Go.Proofs.YtdpgdnpddndeoaaGreatDoor.X
open Go.RowKit Go.Maps Go.Proofs.YtdpgdnpddndeoaaGreatDoorW.PrintWords Go.Proofs.YtdpgdnpddndeoaaGreatDoorW.PrintMore Go.Proofs.YtdpgdnpddndeoaaGreatDoorW.PrintLast
theorem zgu (w : World) (hG : GOK w) : Calls Tryz.prog 112 #[] w (zcc w) := by
 have hB := shipwrightlaw1_begun.calls true w hG rfl; clear hG; go_enter Tryz.func112, Tryz.ntmps112
 go_wp2_with fail; refine hB.mono ?_; rintro e w2 ⟨rfl, hb2⟩; go_wp2_with fail; go_ret
 exact ⟨rfl, hb2⟩

theorem zo9 (w : World) : Calls Tryz.prog 113 #[.string ⟨#[97, 34, 10]⟩] w fun e w' => e = .returned (.string ⟨#[34, 97, 92, 34, 92, 110, 34]⟩) /\ Below w.heap.size w w' := by
 have h := zhM ⟨#[97, 34, 10]⟩ (by decide) (fun c hc => by
  have : c = 97 \/ c = 34 \/ c = 10 := by simpa using hc
  rcases this with rfl | rfl | rfl
  . right; right; decide
  . right; right; decide
  . left; rfl) w
 rw [show zdK (⟨#[97, 34, 10]⟩ : ByteArray).data.toList = _ from begQ] at h
 exact h
def begR : zaj := ⟨⟨#[114]⟩, [⟨#[98]⟩, ⟨#[97]⟩], [⟨#[120]⟩], [], [begX]⟩
def zfA : zaj := ⟨⟨#[114]⟩, [⟨#[97]⟩, ⟨#[98]⟩], [⟨#[120]⟩], [], [begX]⟩
theorem znE (A : Option Addr) (c : Nat) (w : World) (hG : GOK w) (h : Kd.C k45 w A 1 [begR]) :
 Calls Tryz.prog 114 #[.slice A 1 c] w fun e w' => e = .returned (.string ⟨#[114, 117, 108, 101, 32, 114, 32, 123, 10, 32, 32, 105, 110, 32, 97, 44, 32, 98, 59, 10, 32, 32, 111, 117, 116, 32, 120, 59, 10, 32, 32, 120, 32, 61, 32, 115, 101, 108, 101, 99, 116, 32, 34, 113, 92, 110, 34, 32, 97, 59, 10, 125, 10]⟩) /\ Below w.heap.size w w' := by
 have hc := zov ⟨#[114]⟩ [⟨#[98]⟩, ⟨#[97]⟩] [⟨#[120]⟩] [] begX A c w hG h (by decide) (by decide) (by decide) (by rw [zfu, zd1, zd5]; exact begSmall)
 rw [zfu, zd1, zd5, zjq] at hc; rw [show mk "rule r {\n  in a, b;\n  out x;\n  x = select \"q\\n\" a;\n}\n".toUTF8.data.toList = ⟨#[114, 117, 108, 101, 32, 114, 32, 123, 10, 32, 32, 105, 110, 32, 97, 44, 32, 98, 59, 10, 32, 32, 111, 117, 116, 32, 120, 59, 10, 32, 32, 120, 32, 61, 32, 115, 101, 108, 101, 99, 116, 32, 34, 113, 92, 110, 34, 32, 97, 59, 10, 125, 10]⟩ from by kernel_rfl] at hc
 exact hc
theorem zje (A : Option Addr) (c : Nat) (w : World) (h : Kd.C k45 w A 1 [begR]) :
 Calls Tryz.prog 118 #[.slice A 1 c] w fun e w' => ∃ X d, e = .returned (.slice X 1 d) /\ Kd.C k45 w' X 1 [zfA] /\ Below w.heap.size w w' := by
 have hc := zgC ⟨#[114]⟩ [⟨#[98]⟩, ⟨#[97]⟩] [⟨#[120]⟩] [] begX A c w h (by decide) (by decide) (by decide) (by decide) (by decide)
 rw [zfu, zd1, zd5] at hc; refine hc.mono ?_; rintro e w2 ⟨X, d, rfl, hR, hb⟩; obtain ⟨X', d', e', _, hC⟩ := Kd.R_reads hR; injection e' with e1 e2 e3; subst e1 e3; exact ⟨X, d, rfl, hC, hb⟩
theorem znF (A : Option Addr) (c : Nat) (B : Option Addr) (d : Nat) (w : World) (h : Kd.C k45 w A 1 [zfA]) (h2 : Kd.C k45 w B 1 [zfA]) :
 Calls Tryz.prog 117 #[.slice A 1 c, .slice B 1 d] w (zcc w) :=
 zkV ⟨#[114]⟩ [⟨#[97]⟩, ⟨#[98]⟩] [⟨#[120]⟩] [] begX A c B d w h h2
theorem zjv (A2 : Option Addr) (c2 : Nat) (A3 : Option Addr) (c3 : Nat) (w : World) (hG : GOK w) (h2 : Kd.C Kd.string w A2 1 [⟨#[97]⟩]) (h3 : Kd.C Kd.string w A3 1 [⟨#[113, 10]⟩]) :
 Calls Tryz.prog 119 #[.agg #[.string ⟨#[120]⟩, .int .i64 7, .slice A2 1 c2, .slice A3 1 c3, .int .i64 0]] w fun e w' => e = .returned (.string ⟨#[120, 32, 61, 32, 115, 101, 108, 101, 99, 116, 32, 34, 113, 92, 110, 34, 32, 97, 59]⟩) /\ Below w.heap.size w w' := by
 have hc := zgI begX A2 c2 A3 c3 w hG h2 h3 begSmall.s1 begSmall.sp begSmall.s2 begSmall.s3 (zpA begSmall.sj (by omega))
 rw [zkn] at hc; rw [show mk "x = select \"q\\n\" a;".toUTF8.data.toList = ⟨#[120, 32, 61, 32, 115, 101, 108, 101, 99, 116, 32, 34, 113, 92, 110, 34, 32, 97, 59]⟩ from by kernel_rfl] at hc
 exact hc
theorem zfW (ad : Addr) (n : Nat) (hn : 0 < n) : ad.add n = ⟨ad.block, ad.off + n, none⟩ := by
 have := at_next ad n hn (m := 0); simpa using this
theorem zmU (w : World) (hG : GOK w) : Calls Tryz.prog 75 #[] w (zcc w) := by
 have HG := zpq hG; clear hG; have hF := fun W hW => zhz ⟨begS.toArray⟩ W hW
 rw [show zb0 (⟨begS.toArray⟩ : ByteArray).data.toList = _ from zjS] at hF
 have hX := fun W hW => zhz ⟨begE.toArray⟩ W hW
 rw [show zb0 (⟨begE.toArray⟩ : ByteArray).data.toList = _ from zoJ] at hX
 have hA := fun W => zhf ⟨#[97, 32, 34, 92, 120, 52, 49, 34, 32, 59]⟩ (by decide) W
 rw [show allR (allF (⟨#[97, 32, 34, 92, 120, 52, 49, 34, 32, 59]⟩ : ByteArray).data.toList) = _ from zlL] at hA
 go_enter Tryz.func75, Tryz.ntmps75
 go_wp2_with fail; refine (hA _).mono ?_; rintro e w1 ⟨v, rfl, hR, hb1⟩; obtain ⟨A, c, rfl, _, hr1⟩ := Kd.R_reads hR; have hE1 := zal w1 (.cells #[.int .i64 0, .int .i64 0] 133); have hb2 := (zpt w1.heap.size w1).alloc (zpu _) (.cells #[.int .i64 0, .int .i64 0] 133); have hr2 := Kd.C_below hr1 hb2; replace hb2 := zad hb1 hb1.size hb2
 have HE2 := zpq hE1; have HR2 := zpq hr2; have HB2 := zpq hb2; clear hA hR hb1 hr1 hE1 hr2 hb2; go_wp2_with fail; generalize w1.alloc (.cells #[.int .i64 0, .int .i64 0] 133) = w2 at HE2 HR2 HB2 |-; generalize w1.heap.size = E1 at HE2 |-; refine (hF _ (HG.out.below HB2.out)).mono ?_; rintro e w3 ⟨v, rfl, hR, hb3⟩; obtain ⟨AR, cR, rfl, _, hr3⟩ := Kd.R_reads hR; have hE3 := zal w3 (.cells #[.int .i64 0, .int .i64 0] 133); have hb4 := (zpt w3.heap.size w3).alloc (zpu _) (.cells #[.int .i64 0, .int .i64 0] 133); have HE4a := zpq (zaB (zah HE2.out hb3) (.cells #[.int .i64 0, .int .i64 0] 133)); have HR4a := zpq (Kd.C_below (Kd.C_below HR2.out hb3) hb4); have HR4b := zpq (Kd.C_below hr3 hb4); have HE4b := zpq hE3; have HB4 := zpq (zad (zad HB2.out HB2.out.size hb3) (zad HB2.out HB2.out.size hb3).size hb4); clear hF hR hb3 hr3 hE3 hb4 HE2 HR2 HB2; go_wp2_with fail; generalize w3.alloc (.cells #[.int .i64 0, .int .i64 0] 133) = w4 at HE4a HE4b HR4a HR4b HB4 |-; generalize w3.heap.size = E2 at HE4b |-; refine (hX _ (HG.out.below HB4.out)).mono ?_; rintro e w5 ⟨v, rfl, hR, hb5⟩; obtain ⟨AX, cX, rfl, _, _⟩ := Kd.R_reads hR; have hE5 := zal w5 (.cells #[.int .i64 1, .int .i64 5] 133); have hb6 := (zpt w5.heap.size w5).alloc (zpu _) (.cells #[.int .i64 1, .int .i64 5] 133); have HE6a := zpq (zaB (zah HE4a.out hb5) (.cells #[.int .i64 1, .int .i64 5] 133)); have HE6b := zpq (zaB (zah HE4b.out hb5) (.cells #[.int .i64 1, .int .i64 5] 133)); have HR6a := zpq (Kd.C_below (Kd.C_below HR4a.out hb5) hb6); have HR6b := zpq (Kd.C_below (Kd.C_below HR4b.out hb5) hb6); have HE6c := zpq hE5; have HB6 := zpq (zad (zad HB4.out HB4.out.size hb5) (zad HB4.out HB4.out.size hb5).size hb6); clear hX hR hb5 hE5 hb6 HE4a HE4b HR4a HR4b HB4; obtain ⟨ad, A1, c1, A2, c2, A3, c3, A4, c4, rfl, -, -, -, hA4, m0, m1, m2, m3, m4⟩ := zd4 HR6b.out; obtain ⟨bd, B2, d2, B3, d3, rfl, -, hB3, n0, n1, n2, n3, n4⟩ := zdU hA4; have m4' : (w5.alloc (.cells #[.int .i64 1, .int .i64 5] 133)).cell? ⟨ad.block, ad.off + 4, none⟩ = some (.slice (some bd) 1 c4) := m4; have n3' : (w5.alloc (.cells #[.int .i64 1, .int .i64 5] 133)).cell? ⟨bd.block, bd.off + 3, none⟩ = some (.slice B3 1 d3) := n3; have HB7 := fun W (hW : Below (w5.alloc (.cells #[.int .i64 1, .int .i64 5] 133)).heap.size (w5.alloc (.cells #[.int .i64 1, .int .i64 5] 133)) W) => zgu W
 clear m0 m1 m2 m3 m4 n0 n1 n2 n3 n4 hA4 hB3 HB7; go_wp2_with fail; generalize w5.alloc (.cells #[.int .i64 1, .int .i64 5] 133) = w6 at HE6a HE6b HE6c HR6a HR6b HB6 m4' n3' |-; generalize w5.heap.size = E3 at HE6c |-; clear m4' n3'; refine (zgu _ (HG.out.below HB6.out)).mono ?_; rintro e w7 ⟨rfl, hb7⟩; have HE7a := zpq (zah HE6a.out hb7); have HE7b := zpq (zah HE6b.out hb7); have HE7c := zpq (zah HE6c.out hb7); have HR7a := zpq (Kd.C_below HR6a.out hb7); have HR7b := zpq (Kd.C_below HR6b.out hb7); have HB7 := zpq (zad HB6.out HB6.out.size hb7); clear hb7 HE6a HE6b HE6c HR6a HR6b HB6; obtain ⟨aw, rfl, p10, _, p12⟩ := zfb HR7a.out 1 (by simp) (by simp)
 obtain ⟨aw2, e2, _, p21, _⟩ := zfb HR7a.out 2 (by simp) (by simp)
 obtain rfl := zp2 e2; obtain ⟨aw3, e3, p30, _, _⟩ := zfb HR7a.out 3 (by simp) (by simp)
 obtain rfl := zp2 e3; clear e2 e3; rw [show (1 : Int).toNat * 3 = 3 from rfl, zfW _ 3 (by decide)] at p10 p12
 rw [show (2 : Int).toNat * 3 = 6 from rfl, zfW _ 6 (by decide)] at p21
 rw [show (3 : Int).toNat * 3 = 9 from rfl, zfW _ 9 (by decide)] at p30
 replace p10 : w7.cell? ⟨aw.block, aw.off + 3, none⟩ = some (.int .i64 2) := p10
 replace p12 : w7.cell? ⟨aw.block, aw.off + 3 + 2, none⟩ = some (.string ⟨#[65]⟩) := p12
 replace p21 : w7.cell? ⟨aw.block, aw.off + 6 + 1, none⟩ = some (.int .i64 9) := p21
 replace p30 : w7.cell? ⟨aw.block, aw.off + 9, none⟩ = some (.int .i64 4) := p30
 have k1 : w7.cell? ⟨E1, 0, none⟩ = some (.int .i64 0) := (zab HE7a.out 0).trans rfl; go_wp2_with fail; refine (zo9 _).mono ?_; rintro e w8 ⟨rfl, hb8⟩; have HE8b := zpq (zah HE7b.out hb8); have HE8c := zpq (zah HE7c.out hb8); have HR8b := zpq (Kd.C_below HR7b.out hb8); have HB8 := zpq (zad HB7.out HB7.out.size hb8); clear hb8 HE7a HE7b HE7c HR7a HR7b HB7 p10 p12 p21 p30 k1; have hw : ∃ A1 c1 bd c4 B3 d3, w8.cell? ⟨ad.block, ad.off + 1, none⟩ = some (.slice A1 2 c1) /\ w8.cell? ⟨ad.block, ad.off + 4, none⟩ = some (.slice (some bd) 1 c4) /\ w8.cell? ⟨bd.block, bd.off + 3, none⟩ = some (.slice (some B3) 1 d3) /\ w8.cell? B3 = some (.string ⟨#[113, 10]⟩) := by
  obtain ⟨ad', A1, c1, A2, c2, A3, c3, A4, c4, e', -, -, -, hA4, m0, m1, m2, m3, m4⟩ := zd4 HR8b.out; obtain rfl := zp2 e'; obtain ⟨bd, B2, d2, B3, d3, rfl, -, hB3, n0, n1, n2, n3, n4⟩ := zdU hA4; obtain ⟨B, cs, rfl, hcl, hK, hcell⟩ := Kd.C_get hB3 (⟨#[113, 10]⟩ : ByteArray) 0 (by decide) (by decide)
  refine ⟨A1, c1, bd, c4, B, d3, m1, m4, n3, ?_⟩; have := hcell 0 _ (show cs[0]? = some (.string ⟨#[113, 10]⟩) from by rw [show cs = [.string ⟨#[113, 10]⟩] from hK]; rfl)
  rwa [zdj] at this
 obtain ⟨A1, c1, bd, c4, B3, d3, m1, m4, n3, n30⟩ := hw; have k20 : w8.cell? ⟨E2, 0, none⟩ = some (.int .i64 0) := (zab HE8b.out 0).trans rfl; have k30 : w8.cell? ⟨E3, 0, none⟩ = some (.int .i64 1) := (zab HE8c.out 0).trans rfl; have k31 : w8.cell? ⟨E3, 1, none⟩ = some (.int .i64 5) := (zab HE8c.out 1).trans rfl; go_wp2_with fail; refine (znE _ _ _ (HG.out.below HB8.out) HR8b.out).mono ?_; rintro e w9 ⟨rfl, hb9⟩; have HR9 := zpq (Kd.C_below HR8b.out hb9); have HB9 := zpq (zad HB8.out HB8.out.size hb9); clear hb9 HE8b HE8c HR8b HB8 m1 m4 n3 n30 k20 k30 k31; go_wp2_with fail; refine (zeX _ _).mono ?_; rintro e w10 ⟨rfl, hw⟩; rw [begOp]; have hb10 : Below w9.heap.size w9 w10 := by rw [hw]; exact (zpt _ _).alloc (zpu _) _
 have HR10 := zpq (Kd.C_below HR9.out hb10); have HB10 := zpq (zad HB9.out HB9.out.size hb10); clear hw hb10 HR9 HB9; go_wp2_with fail; refine (zgw _ _).mono ?_; rintro e w11 ⟨rfl, hb11⟩; rw [zj2]; have HR11 := zpq (Kd.C_below HR10.out hb11); have HB11 := zpq (zad HB10.out HB10.out.size hb11); clear hb11 HR10 HB10; go_wp2_with fail; refine (zje _ _ _ HR11.out).mono ?_; rintro e w12 ⟨X, dX, rfl, hX, hb12⟩; have HR12 := zpq (Kd.C_below HR11.out hb12); have HX12 := zpq hX; have HB12 := zpq (zad HB11.out HB11.out.size hb12); clear hb12 hX HR11 HB11; go_wp2_with fail; refine (zje _ _ _ HR12.out).mono ?_; rintro e w13 ⟨Y, dY, rfl, hY, hb13⟩; have HR13 := zpq (Kd.C_below HR12.out hb13); have HX13 := zpq (Kd.C_below HX12.out hb13); have HY13 := zpq hY; have HB13 := zpq (zad HB12.out HB12.out.size hb13); clear hb13 hY HR12 HX12 HB12; go_wp2_with fail; refine (znF _ _ _ _ _ HX13.out HY13.out).mono ?_; rintro e w14 ⟨rfl, hb14⟩; have HR14 := zpq (Kd.C_below HR13.out hb14); have HB14 := zpq (zad HB13.out HB13.out.size hb14); clear hb14 HR13 HX13 HY13 HB13; have hw : ∃ bd c4 B2 d2 B3 d3, w14.cell? ⟨ad.block, ad.off + 4, none⟩ = some (.slice (some bd) 1 c4) /\ w14.cell? bd = some (.string ⟨#[120]⟩) /\ w14.cell? ⟨bd.block, bd.off + 1, none⟩ = some (.int .i64 7) /\ w14.cell? ⟨bd.block, bd.off + 2, none⟩ = some (.slice B2 1 d2) /\ w14.cell? ⟨bd.block, bd.off + 3, none⟩ = some (.slice B3 1 d3) /\ w14.cell? ⟨bd.block, bd.off + 4, none⟩ = some (.int .i64 0) /\ Kd.C Kd.string w14 B2 1 [⟨#[97]⟩] /\ Kd.C Kd.string w14 B3 1 [⟨#[113, 10]⟩] := by
  obtain ⟨ad', A1, c1, A2, c2, A3, c3, A4, c4, e', -, -, -, hA4, m0, m1, m2, m3, m4⟩ := zd4 HR14.out; obtain rfl := zp2 e'; obtain ⟨bd, B2, d2, B3, d3, rfl, hB2, hB3, n0, n1, n2, n3, n4⟩ := zdU hA4; exact ⟨bd, c4, B2, d2, B3, d3, m4, n0, n1, n2, n3, n4, hB2, hB3⟩
 obtain ⟨bd, c4, B2, d2, B3, d3, m4, n0, n1, n2, n3, n4, hB2, hB3⟩ := hw; have hS := zjv B2 d2 B3 d3 w14 (HG.out.below HB14.out) hB2 hB3; clear hB2 hB3; go_wp2_with fail; refine hS.mono ?_; rintro e w15 ⟨rfl, hb15⟩; have HB15 := zpq (zad HB14.out HB14.out.size hb15); clear hb15; go_wp2_with fail; go_ret
 exact ⟨rfl, HB15.out⟩

theorem zdE {α : Type} (d : Kd α) (w : World) : Kd.C d w none 0 [] := ⟨rfl, Nat.zero_le _, fun hp => absurd hp (Nat.lt_irrefl _)⟩
theorem zcx (W : World) (l : List ByteArray) (hl : l.length <= 1000) : Kd.C Kd.string (W.alloc (.cells (l.map Value.string).toArray 9)) (some ⟨W.heap.size, 0, none⟩) l.length l :=
 zbK Kd.string W 9 l (l.map Value.string) (Kd.reps_scalar l) (by omega)
theorem za8 (W : World) (o : Obj) : Below W.heap.size W (W.alloc o) := (zpt _ _).alloc (zpu _) o
def stepV (x : zar) (A : Option Addr) : List Value := [.string x.f0, .int .i64 x.f1, .slice A x.f2.length x.f2.length, .slice none 0 0, .int .i64 x.f4]
theorem zeh (W : World) (x : zar) (A : Option Addr) (h3 : x.f3 = []) (h : Kd.C Kd.string W A x.f2.length x.f2) : Kd.K k24 W x (stepV x A) := by
 have := zeu W x (zpu x.f2.length) h (A3 := none) (c3 := 0) (by rw [h3]; exact zpu _) (by rw [h3]; exact zdE Kd.string W)
 rw [h3] at this; exact this
def zeN (s : Nat) : Array Value := #[.string ⟨#[116]⟩, .int .i64 3, .slice (some ⟨s + 1 + 1, 0, none⟩) 1 1, .slice none 0 0, .int .i64 0, .string ⟨#[120]⟩, .int .i64 4, .slice (some ⟨s + 1 + 1 + 1, 0, none⟩) 1 1, .slice none 0 0, .int .i64 0, .string ⟨#[121]⟩, .int .i64 2, .slice (some ⟨s + 1 + 1 + 1 + 1, 0, none⟩) 1 1, .slice none 0 0, .int .i64 0]
def r7W (w : World) : World := (((((w.alloc (.cells #[.string ⟨#[97]⟩, .string ⟨#[98]⟩] 9)).alloc (.cells #[.string ⟨#[120]⟩, .string ⟨#[121]⟩] 9)).alloc (.cells #[.string ⟨#[97]⟩] 9)).alloc (.cells #[.string ⟨#[116]⟩] 9)).alloc (.cells #[.string ⟨#[98]⟩] 9)).alloc (.cells (zeN w.heap.size) 24)
theorem zbL (w : World) (o : Obj) : (w.alloc o).heap.size = w.heap.size + 1 := by simp
theorem znG (w : World) : RuleAt R7 (some ⟨w.heap.size, 0, none⟩) (some ⟨w.heap.size + 1, 0, none⟩) none (some ⟨w.heap.size + 1 + 1 + 1 + 1 + 1, 0, none⟩) (r7W w) /\ Below w.heap.size w (r7W w) /\ (r7W w).heap.size = w.heap.size + 1 + 1 + 1 + 1 + 1 + 1 := by
 obtain ⟨wA, hA⟩ : ∃ wA, wA = w.alloc (.cells #[.string ⟨#[97]⟩, .string ⟨#[98]⟩] 9) := ⟨_, rfl⟩; obtain ⟨wB, hB⟩ : ∃ wB, wB = wA.alloc (.cells #[.string ⟨#[120]⟩, .string ⟨#[121]⟩] 9) := ⟨_, rfl⟩; obtain ⟨wC, hC⟩ : ∃ wC, wC = wB.alloc (.cells #[.string ⟨#[97]⟩] 9) := ⟨_, rfl⟩; obtain ⟨wD, hD⟩ : ∃ wD, wD = wC.alloc (.cells #[.string ⟨#[116]⟩] 9) := ⟨_, rfl⟩; obtain ⟨wE, hE⟩ : ∃ wE, wE = wD.alloc (.cells #[.string ⟨#[98]⟩] 9) := ⟨_, rfl⟩; have e : r7W w = wE.alloc (.cells (zeN w.heap.size) 24) := by rw [hE, hD, hC, hB, hA]; rfl
 have sA : wA.heap.size = w.heap.size + 1 := by rw [hA, zbL]
 have sB : wB.heap.size = w.heap.size + 1 + 1 := by rw [hB, zbL, sA]
 have sC : wC.heap.size = w.heap.size + 1 + 1 + 1 := by rw [hC, zbL, sB]
 have sD : wD.heap.size = w.heap.size + 1 + 1 + 1 + 1 := by rw [hD, zbL, sC]
 have sE : wE.heap.size = w.heap.size + 1 + 1 + 1 + 1 + 1 := by rw [hE, zbL, sD]
 have bA : Below w.heap.size w wA := by rw [hA]; exact za8 w _
 have bB : Below wA.heap.size wA wB := by rw [hB]; exact za8 wA _
 have bC : Below wB.heap.size wB wC := by rw [hC]; exact za8 wB _
 have bD : Below wC.heap.size wC wD := by rw [hD]; exact za8 wC _
 have bE : Below wD.heap.size wD wE := by rw [hE]; exact za8 wD _
 have bF : Below wE.heap.size wE (r7W w) := by rw [e]; exact za8 wE _
 have cA : Kd.C Kd.string wA (some ⟨w.heap.size, 0, none⟩) 2 [⟨#[97]⟩, ⟨#[98]⟩] := by rw [hA]; exact zcx w [⟨#[97]⟩, ⟨#[98]⟩] (by decide)
 have cB : Kd.C Kd.string wB (some ⟨w.heap.size + 1, 0, none⟩) 2 [⟨#[120]⟩, ⟨#[121]⟩] := by rw [hB, <- sA]; exact zcx wA [⟨#[120]⟩, ⟨#[121]⟩] (by decide)
 have cC : Kd.C Kd.string wC (some ⟨w.heap.size + 1 + 1, 0, none⟩) 1 [⟨#[97]⟩] := by rw [hC, <- sB]; exact zcx wB [⟨#[97]⟩] (by decide)
 have cD : Kd.C Kd.string wD (some ⟨w.heap.size + 1 + 1 + 1, 0, none⟩) 1 [⟨#[116]⟩] := by rw [hD, <- sC]; exact zcx wC [⟨#[116]⟩] (by decide)
 have cE : Kd.C Kd.string wE (some ⟨w.heap.size + 1 + 1 + 1 + 1, 0, none⟩) 1 [⟨#[98]⟩] := by rw [hE, <- sD]; exact zcx wD [⟨#[98]⟩] (by decide)
 have cF : Kd.C k24 (r7W w) (some ⟨w.heap.size + 1 + 1 + 1 + 1 + 1, 0, none⟩) 3 R7.f4 := by
  rw [e, <- sE]; refine zbK k24 wE 24 R7.f4 (zeN w.heap.size).toList ?_ (by decide)
  exact Reps.snoc (Reps.snoc (Reps.snoc (Reps.none _ _) (zeh wE ⟨⟨#[116]⟩, 3, [⟨#[97]⟩], [], 0⟩ _ rfl (Kd.C_below (Kd.C_below cC bD) bE)) rfl) (zeh wE ⟨⟨#[120]⟩, 4, [⟨#[116]⟩], [], 0⟩ _ rfl (Kd.C_below cD bE)) rfl) (zeh wE ⟨⟨#[121]⟩, 2, [⟨#[98]⟩], [], 0⟩ _ rfl cE) rfl
 refine ⟨⟨Kd.C_below (Kd.C_below (Kd.C_below (Kd.C_below (Kd.C_below cA bB) bC) bD) bE) bF, Kd.C_below (Kd.C_below (Kd.C_below (Kd.C_below cB bC) bD) bE) bF, zdE Kd.string _, cF⟩, ?_, by rw [e, zbL, sE]⟩
 exact zad (zad (zad (zad (zad bA (by omega) bB) (by omega) bC) (by omega) bD) (by omega) bE) (by omega) bF

theorem fit7 : FitR R7 := ⟨by decide, by decide, by decide, by decide, by decide, by decide⟩
theorem fitS : FitR S7 := ⟨by decide, by decide, by decide, by decide, by decide, by decide⟩
theorem fits1 : zci [R7] := ⟨by decide, fun r hr => by rw [zqR.1 hr]; exact ⟨fit7, by decide, by decide, fun x hx => by cases hx⟩⟩
theorem fits2 : zci [S7, R7] := ⟨by decide, fun r hr => by
 rcases zqB.1 hr with rfl | hr
 . exact ⟨fitS, by decide, by decide, fun x hx => by cases hx⟩
 . rw [zqR.1 hr]; exact ⟨fit7, by decide, by decide, fun x hx => by cases hx⟩⟩
theorem mean7 : Mean [R7] rk7 := by
 refine ⟨fits1, fun r hr o ho => ?_, fun r hr o ho i hi => ?_⟩
 . rw [zqR.1 hr] at ho |-
   have ho' : o ∈ [(⟨#[120]⟩ : ByteArray), ⟨#[121]⟩] := ho; rcases zqB.1 ho' with rfl | ho'
   . rfl
   . rw [zqR.1 ho']; rfl
 . rw [zqR.1 hr] at ho hi
   have ho' : o ∈ [(⟨#[120]⟩ : ByteArray), ⟨#[121]⟩] := ho; have hi' : i ∈ [(⟨#[97]⟩ : ByteArray), ⟨#[98]⟩] := hi; rcases zqB.1 ho' with rfl | ho' <;> rcases zqB.1 hi' with rfl | hi'
   . decide
   . rw [zqR.1 hi']; decide
   . rw [zqR.1 ho']; decide
   . rw [zqR.1 hi', zqR.1 ho']; decide
theorem zgv (W : World) (l : List SVal) (hl : l.length <= 1000) : Kd.C k34 (W.alloc (.cells (l.flatMap fun v => [Value.bool v.f0, .string v.f1]).toArray 34)) (some ⟨W.heap.size, 0, none⟩) l.length l := by
 refine zbK k34 W 34 l _ ?_ (by omega)
 clear hl; have key : ∀ (l a : List SVal) (cs : List Value), Reps (Kd.K k34 W) 2 a cs -> Reps (Kd.K k34 W) 2 (a ++ l) (cs ++ l.flatMap fun v => [Value.bool v.f0, .string v.f1]) := by
  intro l; induction l with
  | nil => intro a cs h; simpa using h
  | cons v r ih =>
   intro a cs h; have := ih (a ++ [v]) (cs ++ [.bool v.f0, .string v.f1]) (Reps.snoc h (zeL W v) rfl); rw [List.append_assoc, List.append_assoc] at this; exact this
 exact key l [] [] (Reps.none _ _)

theorem ziJ {B1 B2 B4 : Option Addr} {W : World} (h : RuleAt R7 B1 B2 none B4 W) : Kd.K k45 W R7 [.string ⟨#[114]⟩, .slice B1 2 2, .slice B2 2 2, .slice none 0 0, .slice B4 3 3] :=
 zfj W R7 (c1 := 2) (by decide) h.h1 (c2 := 2) (by decide) h.h2 (c3 := 0) (by decide) h.h3 (c4 := 3) (by decide) h.h4
theorem ziy {B1 B2 B4 : Option Addr} {W : World} (h : RuleAt R7 B1 B2 none B4 W) : Kd.C k45 (W.alloc (.cells #[.string ⟨#[114]⟩, .slice B1 2 2, .slice B2 2 2, .slice none 0 0, .slice B4 3 3] 45)) (some ⟨W.heap.size, 0, none⟩) 1 [R7] :=
 zbK k45 W 45 [R7] [.string ⟨#[114]⟩, .slice B1 2 2, .slice B2 2 2, .slice none 0 0, .slice B4 3 3] (Reps.snoc (Reps.none _ _) (ziJ h) rfl) (by decide)
def zdQ (s : Nat) : Array Value := #[.string ⟨#[97]⟩, .int .i64 1, .slice (some ⟨s + 1 + 1, 0, none⟩) 1 1, .slice none 0 0, .int .i64 0]
def s7W (w : World) : World := (((w.alloc (.cells #[.string ⟨#[97]⟩] 9)).alloc (.cells #[.string ⟨#[120]⟩] 9)).alloc (.cells #[.string ⟨#[120]⟩] 9)).alloc (.cells (zdQ w.heap.size) 24)
theorem zl9 (w : World) : RuleAt S7 (some ⟨w.heap.size + 1, 0, none⟩) (some ⟨w.heap.size, 0, none⟩) none (some ⟨w.heap.size + 1 + 1 + 1, 0, none⟩) (s7W w) /\ Below w.heap.size w (s7W w) /\ (s7W w).heap.size = w.heap.size + 1 + 1 + 1 + 1 := by
 obtain ⟨wA, hA⟩ : ∃ wA, wA = w.alloc (.cells #[.string ⟨#[97]⟩] 9) := ⟨_, rfl⟩; obtain ⟨wB, hB⟩ : ∃ wB, wB = wA.alloc (.cells #[.string ⟨#[120]⟩] 9) := ⟨_, rfl⟩; obtain ⟨wC, hC⟩ : ∃ wC, wC = wB.alloc (.cells #[.string ⟨#[120]⟩] 9) := ⟨_, rfl⟩; have e : s7W w = wC.alloc (.cells (zdQ w.heap.size) 24) := by rw [hC, hB, hA]; rfl
 have sA : wA.heap.size = w.heap.size + 1 := by rw [hA, zbL]
 have sB : wB.heap.size = w.heap.size + 1 + 1 := by rw [hB, zbL, sA]
 have sC : wC.heap.size = w.heap.size + 1 + 1 + 1 := by rw [hC, zbL, sB]
 have bA : Below w.heap.size w wA := by rw [hA]; exact za8 w _
 have bB : Below wA.heap.size wA wB := by rw [hB]; exact za8 wA _
 have bC : Below wB.heap.size wB wC := by rw [hC]; exact za8 wB _
 have bF : Below wC.heap.size wC (s7W w) := by rw [e]; exact za8 wC _
 have cA : Kd.C Kd.string wA (some ⟨w.heap.size, 0, none⟩) 1 [⟨#[97]⟩] := by rw [hA]; exact zcx w [⟨#[97]⟩] (by decide)
 have cB : Kd.C Kd.string wB (some ⟨w.heap.size + 1, 0, none⟩) 1 [⟨#[120]⟩] := by rw [hB, <- sA]; exact zcx wA [⟨#[120]⟩] (by decide)
 have cC : Kd.C Kd.string wC (some ⟨w.heap.size + 1 + 1, 0, none⟩) 1 [⟨#[120]⟩] := by rw [hC, <- sB]; exact zcx wB [⟨#[120]⟩] (by decide)
 have cF : Kd.C k24 (s7W w) (some ⟨w.heap.size + 1 + 1 + 1, 0, none⟩) 1 S7.f4 := by
  rw [e, <- sC]; refine zbK k24 wC 24 S7.f4 (zdQ w.heap.size).toList ?_ (by decide)
  exact Reps.snoc (Reps.none _ _) (zeh wC ⟨⟨#[97]⟩, 1, [⟨#[120]⟩], [], 0⟩ _ rfl cC) rfl
 refine ⟨⟨Kd.C_below (Kd.C_below cB bC) bF, Kd.C_below (Kd.C_below (Kd.C_below cA bB) bC) bF, zdE Kd.string _, cF⟩, ?_, by rw [e, zbL, sC]⟩
 exact zad (zad (zad bA (by omega) bB) (by omega) bC) (by omega) bF
theorem zn3 (w : World) (hG : GOK w) : Calls Tryz.prog 51 #[] w (zcc w) := by
 have h := zmU w hG; go_enter Tryz.func51, Tryz.ntmps51
 go_wp2_with (first | (go_at_call 75; refine h.mono ?_; rintro e w2 ⟨rfl, hb2⟩))
 go_ret
 exact ⟨rfl, hb2⟩
theorem zfh {w : World} {A : Option Addr} {l : List SVal} (h : Kd.C k34 w A l.length l) (hp : 0 < l.length) : ∃ b o, A = some ⟨b, o, none⟩ /\ ∀ i (hi : i < l.length), w.cell? ⟨b, o + i * 2, none⟩ = some (.bool l[i].f0) /\ w.cell? ⟨b, o + i * 2 + 1, none⟩ = some (.string l[i].f1) := by
 obtain ⟨b, o, rfl, _, _⟩ := zc6 h 0 hp; refine ⟨b, o, rfl, fun i hi => ?_⟩
 obtain ⟨b', o', e, h0, h1⟩ := zc6 h i hi; cases e
 exact ⟨h0, h1⟩
theorem zhx (w : World) (hG : GOK w) : Calls Tryz.prog 16 #[] w fun e w' => e = .returned (.bool true) /\ Below w.heap.size w w' := by
 obtain ⟨hR, hB, hS⟩ := znG w; have HX := zpq (zal (r7W w) (.cells #[.string ⟨#[114]⟩, .slice (some ⟨w.heap.size, 0, none⟩) 2 2, .slice (some ⟨w.heap.size + 1, 0, none⟩) 2 2, .slice none 0 0, .slice (some ⟨w.heap.size + 1 + 1 + 1 + 1 + 1, 0, none⟩) 3 3] 45)); have HR := zpq (hR.below (za8 (r7W w) (.cells #[.string ⟨#[114]⟩, .slice (some ⟨w.heap.size, 0, none⟩) 2 2, .slice (some ⟨w.heap.size + 1, 0, none⟩) 2 2, .slice none 0 0, .slice (some ⟨w.heap.size + 1 + 1 + 1 + 1 + 1, 0, none⟩) 3 3] 45))); have HG := zpq hG; rw [hS] at HX; have HB := zpq (zad hB hB.size (za8 (r7W w) (.cells #[.string ⟨#[114]⟩, .slice (some ⟨w.heap.size, 0, none⟩) 2 2, .slice (some ⟨w.heap.size + 1, 0, none⟩) 2 2, .slice none 0 0, .slice (some ⟨w.heap.size + 1 + 1 + 1 + 1 + 1, 0, none⟩) 3 3] 45))); clear hR hB hS hG; go_enter Tryz.func16, Tryz.ntmps16
 go_upto_region 2 with fail; unfold r7W zeN at HX HR HB; obtain ⟨w1, hw1⟩ : ∃ w1, w1 = (((((((w.alloc (.cells #[.string ⟨#[97]⟩, .string ⟨#[98]⟩] 9)).alloc (.cells #[.string ⟨#[120]⟩, .string ⟨#[121]⟩] 9)).alloc (.cells #[.string ⟨#[97]⟩] 9)).alloc (.cells #[.string ⟨#[116]⟩] 9)).alloc (.cells #[.string ⟨#[98]⟩] 9)).alloc (.cells #[.string ⟨#[116]⟩, .int .i64 3, .slice (some ⟨w.heap.size + 1 + 1, 0, none⟩) 1 1, .slice none 0 0, .int .i64 0, .string ⟨#[120]⟩, .int .i64 4, .slice (some ⟨w.heap.size + 1 + 1 + 1, 0, none⟩) 1 1, .slice none 0 0, .int .i64 0, .string ⟨#[121]⟩, .int .i64 2, .slice (some ⟨w.heap.size + 1 + 1 + 1 + 1, 0, none⟩) 1 1, .slice none 0 0, .int .i64 0] 24)).alloc (.cells #[.string ⟨#[114]⟩, .slice (some ⟨w.heap.size, 0, none⟩) 2 2, .slice (some ⟨w.heap.size + 1, 0, none⟩) 2 2, .slice none 0 0, .slice (some ⟨w.heap.size + 1 + 1 + 1 + 1 + 1, 0, none⟩) 3 3] 45)) := ⟨_, rfl⟩; rw [<- hw1] at HX HR HB |-; clear hw1; generalize w.heap.size + 1 + 1 + 1 + 1 + 1 + 1 = X at HX |-; generalize (some (⟨w.heap.size, 0, none⟩ : Addr)) = B1 at HX HR |-; generalize (some (⟨w.heap.size + 1, 0, none⟩ : Addr)) = B2 at HX HR |-; generalize (some (⟨w.heap.size + 1 + 1 + 1 + 1 + 1, 0, none⟩ : Addr)) = B4 at HX HR |-; have HCs : Hid (∀ W, Below w1.heap.size w1 W -> W.cell? ⟨X, 0, none⟩ = some (.string ⟨#[114]⟩) /\ W.cell? ⟨X, 1, none⟩ = some (.slice B1 2 2) /\ W.cell? ⟨X, 2, none⟩ = some (.slice B2 2 2) /\ W.cell? ⟨X, 3, none⟩ = some (.slice none 0 0) /\ W.cell? ⟨X, 4, none⟩ = some (.slice B4 3 3)) := zpq (fun W hW =>
  ⟨(zab (zah HX.out hW) 0).trans rfl, (zab (zah HX.out hW) 1).trans rfl, (zab (zah HX.out hW) 2).trans rfl, (zab (zah HX.out hW) 3).trans rfl, (zab (zah HX.out hW) 4).trans rfl⟩)
 -- run.Of
 have hb2 := za8 w1 (.cells #[.bool true, .string ⟨#[113, 10, 112]⟩, .bool true, .string ⟨#[]⟩] 34); have hv2 : Kd.C k34 (w1.alloc (.cells #[.bool true, .string ⟨#[113, 10, 112]⟩, .bool true, .string ⟨#[]⟩] 34)) (some ⟨w1.heap.size, 0, none⟩) 2 [⟨true, ⟨#[113, 10, 112]⟩⟩, ⟨true, ⟨#[]⟩⟩] := zgv w1 [⟨true, ⟨#[113, 10, 112]⟩⟩, ⟨true, ⟨#[]⟩⟩] (by decide)
 have hR2 := HR.out.below hb2; have hOf := zga R7 B1 2 B2 2 none 0 B4 3 (some ⟨w1.heap.size, 0, none⟩) 2 [⟨true, ⟨#[113, 10, 112]⟩⟩, ⟨true, ⟨#[]⟩⟩] _ ((HG.out.below HB.out).below hb2) hR2.h1 hR2.h2 hR2.h4 hv2 fit7 (by decide)
 rw [sv_of] at hOf; have HOf := zpq hOf; have HB2 := zpq hb2; obtain ⟨x0, x1, x2, x3, x4⟩ := HCs.out w1 (zpt _ _); obtain ⟨y0, y1, y2, y3, y4⟩ := HCs.out _ hb2; clear hb2 hv2 hR2 hOf; go_upto_region 3 with (first | (go_at_call 34; refine HOf.out.mono ?_; rintro e w2 ⟨v2, rfl, hR2, hb2⟩; have HV2 := zpq hR2; have HB2 := zpq (zad HB2.out HB2.out.size hb2); clear hR2 hb2))
 obtain ⟨V2, d2, he2, _, hC2⟩ := Kd.R_reads HV2.out; replace he2 : v2 = .slice V2 2 d2 := he2
 subst he2; have HV2C : Hid (Kd.C k34 w2 V2 2 [⟨true, ⟨#[50, 10]⟩⟩, ⟨false, ⟨#[]⟩⟩]) := zpq hC2
 -- run.Named
 have hb3a := za8 w2 (.cells #[.string ⟨#[98]⟩] 9); have hb3b := hb3a.alloc hb3a.size (.cells #[.bool true, .string ⟨#[122]⟩] 34); have hs3 : (w2.alloc (.cells #[.string ⟨#[98]⟩] 9)).heap.size = w2.heap.size + 1 := zbL _ _; have hv3 : Kd.C k34 ((w2.alloc (.cells #[.string ⟨#[98]⟩] 9)).alloc (.cells #[.bool true, .string ⟨#[122]⟩] 34)) (some ⟨(w2.alloc (.cells #[.string ⟨#[98]⟩] 9)).heap.size, 0, none⟩) 1 [⟨true, ⟨#[122]⟩⟩] := zgv (w2.alloc (.cells #[.string ⟨#[98]⟩] 9)) [⟨true, ⟨#[122]⟩⟩] (by decide)
 have hi3 : Kd.C Kd.string (w2.alloc (.cells #[.string ⟨#[98]⟩] 9)) (some ⟨w2.heap.size, 0, none⟩) 1 [⟨#[98]⟩] := zcx w2 [⟨#[98]⟩] (by decide)
 rw [hs3] at hv3; have hB3 := zad HB2.out HB2.out.size hb3b; have hR3 := HR.out.below hB3; have hNm := zki R7 B1 2 B2 2 none 0 B4 3 (some ⟨w2.heap.size, 0, none⟩) 1 [⟨#[98]⟩] (some ⟨w2.heap.size + 1, 0, none⟩) 1 [⟨true, ⟨#[122]⟩⟩] _ ((HG.out.below HB.out).below hB3) hR3.h1 hR3.h2 hR3.h4 (Kd.C_below hi3 (za8 _ _)) hv3 fit7 (by decide)
 rw [zoL] at hNm; have HNm := zpq hNm; have HB3 := zpq hB3; have HV2C := zpq (Kd.C_below HV2C.out hb3b); obtain ⟨x0, x1, x2, x3, x4⟩ := HCs.out _ HB2.out; obtain ⟨y0, y1, y2, y3, y4⟩ := HCs.out _ (zad HB2.out HB2.out.size hb3a); obtain ⟨z0, z1, z2, z3, z4⟩ := HCs.out _ hB3; clear hb3a hb3b hs3 hv3 hi3 hB3 hR3 hNm hC2 HOf; go_upto_region 4 with (first | (go_at_call 36; refine HNm.out.mono ?_; rintro e w3 ⟨v3, rfl, hR3, hb3⟩; have HV3 := zpq hR3; have HB3 := zpq (zad HB3.out HB3.out.size hb3); have HV2C := zpq (Kd.C_below HV2C.out hb3); clear hR3 hb3))
 obtain ⟨V3, d3, he3, _, hC3⟩ := Kd.R_reads HV3.out; replace he3 : v3 = .slice V3 2 d3 := he3
 subst he3; have HV3C : Hid (Kd.C k34 w3 V3 2 [⟨false, ⟨#[]⟩⟩, ⟨true, ⟨#[122]⟩⟩]) := zpq hC3; clear hC3
 -- tree.New
 have hr4 : Kd.C k77 (w3.alloc (.cells #[.string ⟨#[97]⟩, .string ⟨#[50, 10, 49]⟩] 77)) (some ⟨w3.heap.size, 0, none⟩) 1 [⟨⟨#[97]⟩, ⟨#[50, 10, 49]⟩⟩] := zbK k77 w3 77 [⟨⟨#[97]⟩, ⟨#[50, 10, 49]⟩⟩] [.string ⟨#[97]⟩, .string ⟨#[50, 10, 49]⟩] (Reps.snoc (Reps.none _ _) (zeq w3 ⟨⟨#[97]⟩, ⟨#[50, 10, 49]⟩⟩) rfl) (by decide)
 have hb4 := za8 w3 (.cells #[.string ⟨#[97]⟩, .string ⟨#[50, 10, 49]⟩] 77); have hB4 := zad HB3.out HB3.out.size hb4; have hNw := tree_New.calls (some ⟨w3.heap.size, 0, none⟩) 1 [⟨⟨#[97]⟩, ⟨#[50, 10, 49]⟩⟩] _ ((HG.out.below HB.out).below hB4) hr4 (by decide)
 have HNw := zpq hNw; have HB4 := zpq hB4; have HV2C := zpq (Kd.C_below HV2C.out hb4); have HV3C := zpq (Kd.C_below HV3C.out hb4); clear hr4 hb4 hB4 hNw HNm; go_upto_region 5 with (first | (go_at_call 48; refine HNw.out.mono ?_; rintro e w4 ⟨gt, bt, rfl, hT4, _, _, hb4⟩; have HT4 := zpq hT4; have HB4 := zpq (zad HB4.out HB4.out.size hb4); have HV2C := zpq (Kd.C_below HV2C.out hb4); have HV3C := zpq (Kd.C_below HV3C.out hb4); clear hT4 hb4))
 have HTm : Hid (IsTree w4 gt bt [([97], [50, 10, 49])]) := zpq (by have h := HT4.out; rw [show ([⟨⟨#[97]⟩, ⟨#[50, 10, 49]⟩⟩] : List S77).map zcK = [([97], [50, 10, 49])] from rfl, zpk] at h; exact h)
 obtain ⟨x0, x1, x2, x3, x4⟩ := HCs.out _ HB4.out
 -- check.All of the one rule
 have hR4 := HR.out.below HB4.out; have hb5 := za8 w4 (.cells #[.string ⟨#[114]⟩, .slice B1 2 2, .slice B2 2 2, .slice none 0 0, .slice B4 3 3] 45); have hAl := zfc (some ⟨w4.heap.size, 0, none⟩) 1 [R7] _ (((HG.out.below HB.out).below HB4.out).below hb5) (ziy hR4) fits1; rw [zgQ] at hAl; have HAl := zpq hAl; have HB5 := zpq (zad HB4.out HB4.out.size hb5); have HV2C := zpq (Kd.C_below HV2C.out hb5); have HV3C := zpq (Kd.C_below HV3C.out hb5); have HTm := zpq (HTm.out.below hb5); clear hb5 hAl hR4 HNw; go_upto_region 8 with (first | (go_at_call 49; refine HAl.out.mono ?_; rintro e w5 ⟨rfl, hb5⟩; have HB5 := zpq (zad HB5.out HB5.out.size hb5); have HV2C := zpq (Kd.C_below HV2C.out hb5); have HV3C := zpq (Kd.C_below HV3C.out hb5); have HTm := zpq (HTm.out.below hb5); clear hb5))
 -- check.All of both rules
 obtain ⟨hS, hbS, hsS⟩ := zl9 w5; have hB6 := zad HB5.out HB5.out.size hbS; have hR6 := HR.out.below hB6; have hb6 := za8 (s7W w5) (.cells #[.string ⟨#[115]⟩, .slice (some ⟨w5.heap.size + 1, 0, none⟩) 1 1, .slice (some ⟨w5.heap.size, 0, none⟩) 1 1, .slice none 0 0, .slice (some ⟨w5.heap.size + 1 + 1 + 1, 0, none⟩) 1 1, .string ⟨#[114]⟩, .slice B1 2 2, .slice B2 2 2, .slice none 0 0, .slice B4 3 3] 45); have hrow6 : Kd.C k45 ((s7W w5).alloc (.cells #[.string ⟨#[115]⟩, .slice (some ⟨w5.heap.size + 1, 0, none⟩) 1 1, .slice (some ⟨w5.heap.size, 0, none⟩) 1 1, .slice none 0 0, .slice (some ⟨w5.heap.size + 1 + 1 + 1, 0, none⟩) 1 1, .string ⟨#[114]⟩, .slice B1 2 2, .slice B2 2 2, .slice none 0 0, .slice B4 3 3] 45)) (some ⟨(s7W w5).heap.size, 0, none⟩) 2 [S7, R7] :=
  zbK k45 (s7W w5) 45 [S7, R7] [.string ⟨#[115]⟩, .slice (some ⟨w5.heap.size + 1, 0, none⟩) 1 1, .slice (some ⟨w5.heap.size, 0, none⟩) 1 1, .slice none 0 0, .slice (some ⟨w5.heap.size + 1 + 1 + 1, 0, none⟩) 1 1, .string ⟨#[114]⟩, .slice B1 2 2, .slice B2 2 2, .slice none 0 0, .slice B4 3 3]
   (Reps.snoc (Reps.snoc (Reps.none _ _) (zfj (s7W w5) S7 (c1 := 1) (by decide) hS.h1 (c2 := 1) (by decide) hS.h2 (c3 := 0) (by decide) hS.h3 (c4 := 1) (by decide) hS.h4) rfl) (ziJ hR6) rfl) (by decide)
 rw [hsS] at hrow6; have hAl := zfc (some ⟨w5.heap.size + 1 + 1 + 1 + 1, 0, none⟩) 2 [S7, R7] _ (((HG.out.below HB.out).below hB6).below hb6) hrow6 fits2; rw [zng] at hAl; have HB6 := zpq (zad hB6 hB6.size hb6); have HV2C := zpq (Kd.C_below (Kd.C_below HV2C.out hbS) hb6); have HV3C := zpq (Kd.C_below (Kd.C_below HV3C.out hbS) hb6); have HTm := zpq ((HTm.out.below hbS).below hb6); unfold s7W zdQ at hAl HB6 HV2C HV3C HTm; have HAl2 := zpq hAl; obtain ⟨u0, u1, u2, u3, u4⟩ := HCs.out _ HB5.out; have HCs6 : Hid (∀ W, Below w5.heap.size w5 W -> W.cell? ⟨X, 0, none⟩ = some (.string ⟨#[114]⟩) /\ W.cell? ⟨X, 1, none⟩ = some (.slice B1 2 2) /\ W.cell? ⟨X, 2, none⟩ = some (.slice B2 2 2) /\ W.cell? ⟨X, 3, none⟩ = some (.slice none 0 0) /\ W.cell? ⟨X, 4, none⟩ = some (.slice B4 3 3)) := zpq (fun W hW => HCs.out W (zad HB5.out HB5.out.size hW))
 obtain ⟨p0, p1, p2, p3, p4⟩ := HCs6.out _ hbS; unfold s7W zdQ at p0 p1 p2 p3 p4; clear hS hbS hsS hB6 hR6 hb6 hrow6 hAl HAl; go_upto_region 9 with (first | (go_at_call 49; refine HAl2.out.mono ?_; rintro e w6 ⟨rfl, hb6⟩; have HB6 := zpq (zad HB6.out HB6.out.size hb6); have HV2C := zpq (Kd.C_below HV2C.out hb6); have HV3C := zpq (Kd.C_below HV3C.out hb6); have HTm := zpq (HTm.out.below hb6); clear hb6))
 -- deno.Files
 clear p0 p1 p2 p3 p4 u0 u1 u2 u3 u4 HAl2; have hR7 := HR.out.below HB6.out; have hrow7 := ziy hR7; have hb7 := za8 w6 (.cells #[.string ⟨#[114]⟩, .slice B1 2 2, .slice B2 2 2, .slice none 0 0, .slice B4 3 3] 45); have hb7b := hb7.alloc hb7.size (.cells #[.string ⟨#[120]⟩, .string ⟨#[97]⟩, .string ⟨#[121]⟩] 9); have hs7 := zbL w6 (.cells #[.string ⟨#[114]⟩, .slice B1 2 2, .slice B2 2 2, .slice none 0 0, .slice B4 3 3] 45); have hnm7 : Kd.C Kd.string ((w6.alloc (.cells #[.string ⟨#[114]⟩, .slice B1 2 2, .slice B2 2 2, .slice none 0 0, .slice B4 3 3] 45)).alloc (.cells #[.string ⟨#[120]⟩, .string ⟨#[97]⟩, .string ⟨#[121]⟩] 9)) (some ⟨(w6.alloc (.cells #[.string ⟨#[114]⟩, .slice B1 2 2, .slice B2 2 2, .slice none 0 0, .slice B4 3 3] 45)).heap.size, 0, none⟩) 3 [⟨#[120]⟩, ⟨#[97]⟩, ⟨#[121]⟩] := zcx _ [⟨#[120]⟩, ⟨#[97]⟩, ⟨#[121]⟩] (by decide)
 rw [hs7] at hnm7; have hB7 := zad HB6.out HB6.out.size hb7b; have hFl := zkO [R7] rk7 [([97], [50, 10, 49])] (some ⟨w6.heap.size, 0, none⟩) 1 gt bt (some ⟨w6.heap.size + 1, 0, none⟩) 3 [⟨#[120]⟩, ⟨#[97]⟩, ⟨#[121]⟩] _ ((HG.out.below HB.out).below hB7) (Kd.C_below hrow7 (za8 _ _)) (HTm.out.below hb7b) hnm7 fits1 (fun _ => mean7) (fun k v h => by
  unfold getT at h; by_cases hk : ([97] : zaa) == k
  . simp [List.find?_cons, hk] at h
    rw [<- h]; decide
  . simp [List.find?_cons, hk] at h) (by decide) (by decide)
 rw [znt] at hFl; have HFl := zpq hFl; have HB7 := zpq hB7; have HV2C := zpq (Kd.C_below HV2C.out hb7b); have HV3C := zpq (Kd.C_below HV3C.out hb7b); obtain ⟨p0, p1, p2, p3, p4⟩ := HCs.out _ HB6.out; clear hR7 hrow7 hb7 hb7b hs7 hnm7 hB7 hFl; go_upto_region 10 with (first | (go_at_call 50; refine HFl.out.mono ?_; rintro e w7 ⟨v7, rfl, hR7, hb7⟩; have HV7 := zpq hR7; have HB7 := zpq (zad HB7.out HB7.out.size hb7); have HV2C := zpq (Kd.C_below HV2C.out hb7); have HV3C := zpq (Kd.C_below HV3C.out hb7); clear hR7 hb7))
 obtain ⟨V7, d7, he7, _, hC7⟩ := Kd.R_reads HV7.out; replace he7 : v7 = .slice V7 3 d7 := he7
 subst he7; have HV7C : Hid (Kd.C k34 w7 V7 3 [⟨true, ⟨#[50, 10]⟩⟩, ⟨true, ⟨#[50, 10, 49]⟩⟩, ⟨false, ⟨#[]⟩⟩]) := zpq hC7; clear hC7 p0 p1 p2 p3 p4 HFl; go_upto_region 12 with fail; obtain ⟨b2, o2, rfl, hc2⟩ := zfh HV2C.out (by decide)
 obtain ⟨b3, o3, rfl, hc3⟩ := zfh HV3C.out (by decide)
 obtain ⟨b7, o7, rfl, hc7⟩ := zfh HV7C.out (by decide)
 have HFa : Hid (∀ W, Below w7.heap.size w7 W -> (W.cell? ⟨b2, o2, none⟩ = some (.bool true) /\ W.cell? ⟨b2, o2 + 1, none⟩ = some (.string ⟨#[50, 10]⟩) /\ W.cell? ⟨b2, o2 + 2, none⟩ = some (.bool false) /\ W.cell? ⟨b3, o3, none⟩ = some (.bool false) /\ W.cell? ⟨b3, o3 + 3, none⟩ = some (.string ⟨#[122]⟩)) /\ (W.cell? ⟨b7, o7 + 1, none⟩ = some (.string ⟨#[50, 10]⟩) /\ W.cell? ⟨b7, o7 + 3, none⟩ = some (.string ⟨#[50, 10, 49]⟩) /\ W.cell? ⟨b7, o7 + 4, none⟩ = some (.bool false) /\ W.cell? ⟨b7, o7 + 5, none⟩ = some (.string ⟨#[]⟩)) /\ (W.cell? ⟨X, 0, none⟩ = some (.string ⟨#[114]⟩) /\ W.cell? ⟨X, 1, none⟩ = some (.slice B1 2 2) /\ W.cell? ⟨X, 2, none⟩ = some (.slice B2 2 2) /\ W.cell? ⟨X, 3, none⟩ = some (.slice none 0 0) /\ W.cell? ⟨X, 4, none⟩ = some (.slice B4 3 3))) := zpq (fun W hW => by
  refine ⟨⟨?_, ?_, ?_, ?_, ?_⟩, ⟨?_, ?_, ?_, ?_⟩, HCs.out W (zad HB7.out HB7.out.size hW)⟩
  . exact zaf hW (hc2 0 (by decide)).1
  . exact zaf hW (hc2 0 (by decide)).2
  . exact zaf hW (hc2 1 (by decide)).1
  . exact zaf hW (hc3 0 (by decide)).1
  . exact zaf hW (hc3 1 (by decide)).2
  . exact zaf hW (hc7 0 (by decide)).2
  . exact zaf hW (hc7 1 (by decide)).2
  . exact zaf hW (hc7 2 (by decide)).1
  . exact zaf hW (hc7 2 (by decide)).2)
 have HRa : Hid (∀ W, Below w7.heap.size w7 W -> RuleAt R7 B1 B2 none B4 W /\ GOK W) := zpq (fun W hW => ⟨HR.out.below (zad HB7.out HB7.out.size hW), (HG.out.below HB.out).below (zad HB7.out HB7.out.size hW)⟩)
 have HBw : Hid (Below w.heap.size w w7) := zpq (zad HB.out HB.out.size HB7.out); clear hc2 hc3 hc7; obtain ⟨b4, o4, C2, e2, C3, e3, rfl, t0, t1, t2, t3, t4, g2, g3⟩ := zdd (HRa.out w7 (zpt _ _)).1.h4 0 (by decide)
 have HFs : Hid (∀ W, Below w7.heap.size w7 W -> W.cell? ⟨b4, o4, none⟩ = some (.string ⟨#[116]⟩) /\ W.cell? ⟨b4, o4 + 1, none⟩ = some (.int .i64 3) /\ W.cell? ⟨b4, o4 + 2, none⟩ = some (.slice C2 1 e2) /\ W.cell? ⟨b4, o4 + 3, none⟩ = some (.slice C3 0 e3) /\ W.cell? ⟨b4, o4 + 4, none⟩ = some (.int .i64 0)) := zpq (fun W hW => ⟨zaf hW t0, zaf hW t1, zaf hW t2, zaf hW t3, zaf hW t4⟩)
 have HBg : Hid (∀ W, Below w7.heap.size w7 W -> Calls Tryz.prog 51 #[] W fun e w' => e = .returned (.bool true) /\ Below W.heap.size W w') := zpq (fun W hW => zn3 W (HRa.out W hW).2)
 have HSt : Hid (∀ W, Below w7.heap.size w7 W -> Calls Tryz.prog 39 #[.agg #[.string ⟨#[114]⟩, .slice B1 2 2, .slice B2 2 2, .slice none 0 0, .slice (some ⟨b4, o4, none⟩) 3 3], .string ⟨#[120]⟩] W fun e w' => ∃ A c, e = .returned (.slice A 2 c) /\ Below W.heap.size W w') := zpq (fun W hW => (zob R7 B1 2 B2 2 none 0 (some ⟨b4, o4, none⟩) 3 ⟨#[120]⟩ W (HRa.out W hW).1 fit7 (by decide)).mono fun e w' ⟨v, he, hv, hb⟩ => by
  obtain ⟨A, c, hv', _, _⟩ := Kd.R_reads hv; exact ⟨A, c, by rw [he, hv', zkH], hb⟩)
 have HRd : Hid (∀ W, Below w7.heap.size w7 W -> Calls Tryz.prog 41 #[.agg #[.string ⟨#[114]⟩, .slice B1 2 2, .slice B2 2 2, .slice none 0 0, .slice (some ⟨b4, o4, none⟩) 3 3], .string ⟨#[120]⟩] W fun e w' => ∃ A c, e = .returned (.slice A 1 c) /\ Below W.heap.size W w') := zpq (fun W hW => (znq R7 B1 2 B2 2 none 0 (some ⟨b4, o4, none⟩) 3 ⟨#[120]⟩ W (HRa.out W hW).1 fit7 (by decide)).mono fun e w' ⟨v, he, hv, hb⟩ => by
  obtain ⟨A, c, hv', _, _⟩ := Kd.R_reads hv; exact ⟨A, c, by rw [he, hv', zp6, zoG]; rfl, hb⟩)
 have HSa : Hid (∀ W, Below w7.heap.size w7 W -> Calls Tryz.prog 43 #[.agg #[.string ⟨#[114]⟩, .slice B1 2 2, .slice B2 2 2, .slice none 0 0, .slice (some ⟨b4, o4, none⟩) 3 3]] W fun e w' => ∃ A c, e = .returned (.slice A 2 c) /\ Below W.heap.size W w') := zpq (fun W hW => (zoF R7 B1 2 B2 2 none 0 (some ⟨b4, o4, none⟩) 3 W (HRa.out W hW).1 fit7).mono fun e w' ⟨v, he, hv, hb⟩ => by
  obtain ⟨A, c, hv', _, _⟩ := Kd.R_reads hv; exact ⟨A, c, by rw [he, hv', zp6, znW]; rfl, hb⟩)
 have HDe : Hid (∀ W, Below w7.heap.size w7 W -> Calls Tryz.prog 44 #[.agg #[.string ⟨#[114]⟩, .slice B1 2 2, .slice B2 2 2, .slice none 0 0, .slice (some ⟨b4, o4, none⟩) 3 3]] W fun e w' => ∃ A c, e = .returned (.slice A 0 c) /\ Below W.heap.size W w') := zpq (fun W hW => (znc R7 B1 2 B2 2 none 0 (some ⟨b4, o4, none⟩) 3 W (HRa.out W hW).1 fit7).mono fun e w' ⟨v, he, hv, hb⟩ => by
  obtain ⟨A, c, hv', _, _⟩ := Kd.R_reads hv; exact ⟨A, c, by rw [he, hv', zjy], hb⟩)
 have HEq : Hid (∀ W, Below w7.heap.size w7 W -> Calls Tryz.prog 52 #[.agg #[.bool false, .string ⟨#[]⟩], .agg #[.bool false, .string ⟨#[63]⟩]] W fun e w' => e = .returned (.bool true) /\ Below W.heap.size W w') := zpq (fun W _ => znh ⟨false, ⟨#[]⟩⟩ ⟨false, ⟨#[63]⟩⟩ W)
 have HRu : Hid (∀ W, Below w7.heap.size w7 W -> Calls Tryz.prog 46 #[.agg #[.string ⟨#[114]⟩, .slice B1 2 2, .slice B2 2 2, .slice none 0 0, .slice (some ⟨b4, o4, none⟩) 3 3]] W fun e w' => e = .returned (.int .i64 0) /\ Below W.heap.size W w') := zpq (fun W hW => by
  have h := zhu R7 B1 2 B2 2 none 0 (some ⟨b4, o4, none⟩) 3 W (HRa.out W hW).2 (HRa.out W hW).1 ⟨by decide, by decide, by decide, by decide⟩ (by decide) (by decide)
  rw [zn1] at h; exact h)
 have HMa : Hid (∀ W, Below w7.heap.size w7 W -> Calls Tryz.prog 20 #[.agg #[.string ⟨#[116]⟩, .int .i64 3, .slice C2 1 e2, .slice C3 0 e3, .int .i64 0]] W fun e w' => e = .returned (.bool true) /\ Below W.heap.size W w') := zpq (fun W hW => by
  have h := zeH ⟨⟨#[116]⟩, 3, [⟨#[97]⟩], [], 0⟩ C2 e2 C3 e3 W (Kd.C_below g2 hW) (Kd.C_below g3 hW); rw [zmj] at h; exact h)
 have HLi : Hid (∀ W, Below w7.heap.size w7 W -> Calls Tryz.prog 23 #[.string ⟨#[97, 10, 10, 98]⟩] W fun e w' => ∃ A c, e = .returned (.slice A 3 c) /\ Below W.heap.size W w') := zpq (fun W hW => (zd8 ⟨#[97, 10, 10, 98]⟩ W (HRa.out W hW).2 (by decide)).mono fun e w' ⟨v, he, hv, hb⟩ => by
  obtain ⟨A, c, hv', _, _⟩ := Kd.R_reads hv; exact ⟨A, c, by rw [he, hv', zoN], hb⟩)
 have HX8 : Hid (Below w7.heap.size w7 w7) := zpq (zpt _ _); obtain ⟨⟨f0, f1, f2, f3, f4⟩, ⟨f5, f6, f7, f8⟩, ⟨f9, f10, f11, f12, f13⟩⟩ := HFa.out _ HX8.out; obtain ⟨s0, s1, s2, s3, s4⟩ := HFs.out _ HX8.out; clear t0 t1 t2 t3 t4 g2 g3; go_wp2_with (first
  | (go_at_call 51; refine (HBg.out _ HX8.out).mono ?_; rintro e w8 ⟨rfl, hb8⟩; have HX8 := zpq (zad HX8.out HX8.out.size hb8); clear f0 f1 f2 f3 f4 f5 f6 f7 f8 f9 f10 f11 f12 f13 s0 s1 s2 s3 s4; obtain ⟨⟨f0, f1, f2, f3, f4⟩, ⟨f5, f6, f7, f8⟩, ⟨f9, f10, f11, f12, f13⟩⟩ := HFa.out _ HX8.out; obtain ⟨s0, s1, s2, s3, s4⟩ := HFs.out _ HX8.out; clear hb8)
  | (go_at_call 39; refine (HSt.out _ HX8.out).mono ?_; rintro e w8 ⟨A8, c8, rfl, hb8⟩; have HX8 := zpq (zad HX8.out HX8.out.size hb8); clear f0 f1 f2 f3 f4 f5 f6 f7 f8 f9 f10 f11 f12 f13 s0 s1 s2 s3 s4; obtain ⟨⟨f0, f1, f2, f3, f4⟩, ⟨f5, f6, f7, f8⟩, ⟨f9, f10, f11, f12, f13⟩⟩ := HFa.out _ HX8.out; obtain ⟨s0, s1, s2, s3, s4⟩ := HFs.out _ HX8.out; clear hb8)
  | (go_at_call 41; refine (HRd.out _ HX8.out).mono ?_; rintro e w8 ⟨A8, c8, rfl, hb8⟩; have HX8 := zpq (zad HX8.out HX8.out.size hb8); clear f0 f1 f2 f3 f4 f5 f6 f7 f8 f9 f10 f11 f12 f13 s0 s1 s2 s3 s4; obtain ⟨⟨f0, f1, f2, f3, f4⟩, ⟨f5, f6, f7, f8⟩, ⟨f9, f10, f11, f12, f13⟩⟩ := HFa.out _ HX8.out; obtain ⟨s0, s1, s2, s3, s4⟩ := HFs.out _ HX8.out; clear hb8)
  | (go_at_call 43; refine (HSa.out _ HX8.out).mono ?_; rintro e w8 ⟨A8, c8, rfl, hb8⟩; have HX8 := zpq (zad HX8.out HX8.out.size hb8); clear f0 f1 f2 f3 f4 f5 f6 f7 f8 f9 f10 f11 f12 f13 s0 s1 s2 s3 s4; obtain ⟨⟨f0, f1, f2, f3, f4⟩, ⟨f5, f6, f7, f8⟩, ⟨f9, f10, f11, f12, f13⟩⟩ := HFa.out _ HX8.out; obtain ⟨s0, s1, s2, s3, s4⟩ := HFs.out _ HX8.out; clear hb8)
  | (go_at_call 44; refine (HDe.out _ HX8.out).mono ?_; rintro e w8 ⟨A8, c8, rfl, hb8⟩; have HX8 := zpq (zad HX8.out HX8.out.size hb8); clear f0 f1 f2 f3 f4 f5 f6 f7 f8 f9 f10 f11 f12 f13 s0 s1 s2 s3 s4; obtain ⟨⟨f0, f1, f2, f3, f4⟩, ⟨f5, f6, f7, f8⟩, ⟨f9, f10, f11, f12, f13⟩⟩ := HFa.out _ HX8.out; obtain ⟨s0, s1, s2, s3, s4⟩ := HFs.out _ HX8.out; clear hb8)
  | (go_at_call 52; refine (HEq.out _ HX8.out).mono ?_; rintro e w8 ⟨rfl, hb8⟩; have HX8 := zpq (zad HX8.out HX8.out.size hb8); clear f0 f1 f2 f3 f4 f5 f6 f7 f8 f9 f10 f11 f12 f13 s0 s1 s2 s3 s4; obtain ⟨⟨f0, f1, f2, f3, f4⟩, ⟨f5, f6, f7, f8⟩, ⟨f9, f10, f11, f12, f13⟩⟩ := HFa.out _ HX8.out; obtain ⟨s0, s1, s2, s3, s4⟩ := HFs.out _ HX8.out; clear hb8)
  | (go_at_call 46; refine (HRu.out _ HX8.out).mono ?_; rintro e w8 ⟨rfl, hb8⟩; have HX8 := zpq (zad HX8.out HX8.out.size hb8); clear f0 f1 f2 f3 f4 f5 f6 f7 f8 f9 f10 f11 f12 f13 s0 s1 s2 s3 s4; obtain ⟨⟨f0, f1, f2, f3, f4⟩, ⟨f5, f6, f7, f8⟩, ⟨f9, f10, f11, f12, f13⟩⟩ := HFa.out _ HX8.out; obtain ⟨s0, s1, s2, s3, s4⟩ := HFs.out _ HX8.out; clear hb8)
  | (go_at_call 20; refine (HMa.out _ HX8.out).mono ?_; rintro e w8 ⟨rfl, hb8⟩; have HX8 := zpq (zad HX8.out HX8.out.size hb8); clear f0 f1 f2 f3 f4 f5 f6 f7 f8 f9 f10 f11 f12 f13 s0 s1 s2 s3 s4; obtain ⟨⟨f0, f1, f2, f3, f4⟩, ⟨f5, f6, f7, f8⟩, ⟨f9, f10, f11, f12, f13⟩⟩ := HFa.out _ HX8.out; obtain ⟨s0, s1, s2, s3, s4⟩ := HFs.out _ HX8.out; clear hb8)
  | (go_at_call 23; refine (HLi.out _ HX8.out).mono ?_; rintro e w8 ⟨A8, c8, rfl, hb8⟩; have HX8 := zpq (zad HX8.out HX8.out.size hb8); clear f0 f1 f2 f3 f4 f5 f6 f7 f8 f9 f10 f11 f12 f13 s0 s1 s2 s3 s4; obtain ⟨⟨f0, f1, f2, f3, f4⟩, ⟨f5, f6, f7, f8⟩, ⟨f9, f10, f11, f12, f13⟩⟩ := HFa.out _ HX8.out; obtain ⟨s0, s1, s2, s3, s4⟩ := HFs.out _ HX8.out; clear hb8))
 go_ret
 exact ⟨rfl, zad HBw.out HBw.out.size HX8.out⟩

def zk2 (x : zar) (w : World) (e : Ending) (w' : World) : Prop :=
 ∃ X2 d2 X3 d3, e = .returned (.agg #[.string x.f0, .int .i64 x.f1, .slice X2 x.f2.length d2, .slice X3 x.f3.length d3, .int .i64 x.f4]) /\ Kd.F Kd.string w' (fun k => w.heap.size + 1 < k) X2 x.f2.length x.f2 /\ Kd.F Kd.string w' (fun k => w.heap.size + 1 < k) X3 x.f3.length x.f3 /\ Below w.heap.size w w'
theorem ziv (x : zar) (B2 : Option Addr) (c2 : Nat) (B3 : Option Addr) (c3 : Nat) (w : World) (h2 : Kd.C Kd.string w B2 x.f2.length x.f2) (h3 : Kd.C Kd.string w B3 x.f3.length x.f3) (hc2 : x.f2.length <= c2) (hc3 : x.f3.length <= c3)
 (hl : x.f2.length * 16 <= 140737488355328 /\ x.f3.length * 16 <= 140737488355328) :
 Calls Tryz.prog 17 #[.agg #[.string x.f0, .int .i64 x.f1, .slice B2 x.f2.length c2, .slice B3 x.f3.length c3, .int .i64 x.f4]] w (zk2 (zaU x) w) := by
 obtain ⟨w2, hw2⟩ : ∃ w2, w2 = (w.alloc (.cells #[.string x.f0, .int .i64 x.f1, .slice B2 x.f2.length c2, .slice B3 x.f3.length c3, .int .i64 x.f4] 24)).alloc (.cells #[.string ⟨#[]⟩, .int .i64 0, .slice none 0 0, .slice none 0 0, .int .i64 0] 24) := ⟨_, rfl⟩; have hg1 := za8 w (.cells #[.string x.f0, .int .i64 x.f1, .slice B2 x.f2.length c2, .slice B3 x.f3.length c3, .int .i64 x.f4] 24); have hg2 := za8 (w.alloc (.cells #[.string x.f0, .int .i64 x.f1, .slice B2 x.f2.length c2, .slice B3 x.f3.length c3, .int .i64 x.f4] 24)) (.cells #[.string ⟨#[]⟩, .int .i64 0, .slice none 0 0, .slice none 0 0, .int .i64 0] 24); have hb2 : Below w.heap.size w w2 := by rw [hw2]; exact zad hg1 hg1.size hg2
 have hn2 : w2.heap.size = w.heap.size + 1 + 1 := by rw [hw2, zbL, zbL]
 have hz2 : w2.heap[w.heap.size + 1]? = some (.cells #[.string ⟨#[]⟩, .int .i64 0, .slice none 0 0, .slice none 0 0, .int .i64 0] 24 (0, 0)) := by
  rw [hw2, <- zbL w (.cells #[.string x.f0, .int .i64 x.f1, .slice B2 x.f2.length c2, .slice B3 x.f3.length c3, .int .i64 x.f4] 24)]; exact zal _ _
 have hk2 : w2.heap[w.heap.size]? = some (.cells #[.string x.f0, .int .i64 x.f1, .slice B2 x.f2.length c2, .slice B3 x.f3.length c3, .int .i64 x.f4] 24 (0, 0)) := by rw [hw2]; exact zah (zal _ _) hg2
 have hr3 := zbK k24 w2 24 [x] [.string x.f0, .int .i64 x.f1, .slice B2 x.f2.length c2, .slice B3 x.f3.length c3, .int .i64 x.f4] (Reps.snoc (Reps.none _ _) (zeu w2 x hc2 (Kd.C_below h2 hb2) hc3 (Kd.C_below h3 hb2)) rfl) (by simp)
 have hcut := zjW ⟨⟨#[]⟩, [], [], [], [x]⟩ none 0 none 0 none 0 (some ⟨w2.heap.size, 0, none⟩) 1 (w2.alloc (.cells #[.string x.f0, .int .i64 x.f1, .slice B2 x.f2.length c2, .slice B3 x.f3.length c3, .int .i64 x.f4] 24)) (zdE _ _) (zdE _ _) (zdE _ _) hr3
  (fun y hy => by rw [zqR.1 hy]; exact hl) (zpu _) (zpu _) (zpu _) (zpu _)
 have HCut : Hid (Calls Tryz.prog 53 #[.agg #[.string ⟨#[]⟩, .slice none 0 0, .slice none 0 0, .slice none 0 0, .slice (some ⟨w.heap.size + 1 + 1, 0, none⟩) 1 1]] (w2.alloc (.cells #[.string x.f0, .int .i64 x.f1, .slice B2 x.f2.length c2, .slice B3 x.f3.length c3, .int .i64 x.f4] 24)) (zgg ⟨⟨#[]⟩, [], [], [], [zaU x]⟩ (w2.alloc (.cells #[.string x.f0, .int .i64 x.f1, .slice B2 x.f2.length c2, .slice B3 x.f3.length c3, .int .i64 x.f4] 24)))) := by
  show Calls _ _ _ _ _
  rw [<- hn2]; exact hcut
 have HZ2 := zpq hz2; have HB3 := zpq (zad hb2 hb2.size (za8 w2 (.cells #[.string x.f0, .int .i64 x.f1, .slice B2 x.f2.length c2, .slice B3 x.f3.length c3, .int .i64 x.f4] 24))); have HZ3 := zpq (zah hz2 (za8 w2 (.cells #[.string x.f0, .int .i64 x.f1, .slice B2 x.f2.length c2, .slice B3 x.f3.length c3, .int .i64 x.f4] 24))); have k0 : w2.cell? ⟨w.heap.size, 0, none⟩ = some (.string x.f0) := (zab hk2 0).trans rfl; have k1 : w2.cell? ⟨w.heap.size, 1, none⟩ = some (.int .i64 x.f1) := (zab hk2 1).trans rfl; have k2 : w2.cell? ⟨w.heap.size, 2, none⟩ = some (.slice B2 x.f2.length c2) := (zab hk2 2).trans rfl; have k3 : w2.cell? ⟨w.heap.size, 3, none⟩ = some (.slice B3 x.f3.length c3) := (zab hk2 3).trans rfl; have k4 : w2.cell? ⟨w.heap.size, 4, none⟩ = some (.int .i64 x.f4) := (zab hk2 4).trans rfl; clear hg1 hg2 hb2 hz2 hk2 hr3 hcut h2 h3 hc2 hc3 hl; go_enter Tryz.func17, Tryz.ntmps17
 go_upto_region 1 with fail; rw [<- hw2]; clear hw2; go_wp2_with fail; refine HCut.out.mono ?_; rintro e w4 ⟨X1, d1, X2, d2, X3, d3, X4, d4, rfl, hFK, hb4⟩; have hs3 : (w2.alloc (.cells #[.string x.f0, .int .i64 x.f1, .slice B2 x.f2.length c2, .slice B3 x.f3.length c3, .int .i64 x.f4] 24)).heap.size = w.heap.size + 1 + 1 + 1 := by rw [zbL, hn2]
 have HZ4 := zpq (zah HZ3.out hb4); have HB4 := zpq (zad HB3.out HB3.out.size hb4); obtain ⟨P1, p1, P2, p2, P3, p3, A4, k4, he, _, _, _, _, _, _, _, hF4⟩ := zkr hFK; simp only [List.cons.injEq, Value.slice.injEq, true_and, and_true] at he; obtain ⟨_, _, _, rfl, rfl⟩ := he; obtain ⟨ad, c, rfl, hcl, hFe, hcell, _⟩ := Kd.F_get hF4 z24 0 (by decide) (by show (0 : Int) < 1; decide)
 obtain ⟨Y2, e2, Y3, e3, rfl, _, hG2, _, hG3⟩ := ziq hFe; rw [hs3] at hG2 hG3; have hok : ∀ k, w.heap.size + 1 + 1 + 1 <= k -> w.heap.size + 1 < k := fun k h => by omega
 have HG2 := zpq (Kd.F_mono hG2 hok); have HG3 := zpq (Kd.F_mono hG3 hok); have z0 := hcell 0 _ rfl; have z1 := hcell 1 _ rfl; have z2 := hcell 2 _ rfl; have z3 := hcell 3 _ rfl; have z4 := hcell 4 _ rfl; obtain ⟨b, o, rfl⟩ := zdX (n := 5) (w := w4) (ad := ad) (v := _) z0; clear hcell hcl hFe hF4 hFK hG2 hG3 hb4 hok k0 k1 k2 k3 k4; have add0 : ∀ m, ((⟨b, o, none⟩ : Addr).add ((0 : Int).toNat * 5 + m)) = ⟨b, o + m, none⟩ := fun m => by
  rw [show (0 : Int).toNat * 5 + m = m by simp]
  unfold Addr.add; split
  . rename_i h0; simp [h0]
  . rfl
 have add00 : ((⟨b, o, none⟩ : Addr).add ((0 : Int).toNat * 5)) = ⟨b, o, none⟩ := by have := add0 0; simpa using this
 replace z0 : w4.cell? ⟨b, o, none⟩ = some (.string x.f0) := by rw [<- add00]; exact z0
 replace z1 : w4.cell? ⟨b, o + 1, none⟩ = some (.int .i64 x.f1) := by rw [<- add0 1]; exact z1
 replace z2 : w4.cell? ⟨b, o + 2, none⟩ = some (.slice Y2 (zaU x).f2.length e2) := by rw [<- add0 2]; exact z2
 replace z3 : w4.cell? ⟨b, o + 3, none⟩ = some (.slice Y3 (zaU x).f3.length e3) := by rw [<- add0 3]; exact z3
 replace z4 : w4.cell? ⟨b, o + 4, none⟩ = some (.int .i64 x.f4) := by rw [<- add0 4]; exact z4
 have y0 := zai HZ4.out 0; have y1 := zai HZ4.out 1; have y2 := zai HZ4.out 2; have y3 := zai HZ4.out 3; have y4 := zai HZ4.out 4; have v0 : w4.cell? ⟨w.heap.size + 1, 0, none⟩ = some (.string ⟨#[]⟩) := (zab HZ4.out 0).trans rfl; have v1 : w4.cell? ⟨w.heap.size + 1, 1, none⟩ = some (.int .i64 0) := (zab HZ4.out 1).trans rfl; have v2 : w4.cell? ⟨w.heap.size + 1, 2, none⟩ = some (.slice none 0 0) := (zab HZ4.out 2).trans rfl; have v3 : w4.cell? ⟨w.heap.size + 1, 3, none⟩ = some (.slice none 0 0) := (zab HZ4.out 3).trans rfl; have v4 : w4.cell? ⟨w.heap.size + 1, 4, none⟩ = some (.int .i64 0) := (zab HZ4.out 4).trans rfl; have hfd : ∀ W : World, (Instr.field 45 (.agg #[.string ⟨#[]⟩, .slice P1 0 p1, .slice P2 0 p2, .slice P3 0 p3, .slice (some ⟨b, o, none⟩) 1 d4]) 4).run Tryz.prog W = .ok (.slice (some ⟨b, o, none⟩) 1 d4) W := fun _ => by kernel_rfl
 clear hs3; go_wp2_with fail; have hs := zcf (.string x.f0) (.int .i64 x.f1) (.slice Y2 (zaU x).f2.length e2) (.slice Y3 (zaU x).f3.length e3) (.int .i64 x.f4) HZ4.out; have hle : w.heap.size <= w.heap.size + 1 := Nat.le_succ _; have hB := ((((HB4.out.setCell (p := ⟨w.heap.size + 1, 0, none⟩) hle (.string x.f0)).setCell (p := ⟨w.heap.size + 1, 1, none⟩) hle (.int .i64 x.f1)).setCell (p := ⟨w.heap.size + 1, 2, none⟩) hle (.slice Y2 (zaU x).f2.length e2)).setCell (p := ⟨w.heap.size + 1, 3, none⟩) hle (.slice Y3 (zaU x).f3.length e3)).setCell (p := ⟨w.heap.size + 1, 4, none⟩) hle (.int .i64 x.f4); have hne : ∀ m k, w.heap.size + 1 < k -> k ≠ (⟨w.heap.size + 1, m, none⟩ : Addr).block := fun m k h => by show k ≠ w.heap.size + 1; omega
 have hF2 := Kd.F_far (Kd.F_far (Kd.F_far (Kd.F_far (Kd.F_far HG2.out (hne 0) (.string x.f0)) (hne 1) (.int .i64 x.f1)) (hne 2) (.slice Y2 (zaU x).f2.length e2)) (hne 3) (.slice Y3 (zaU x).f3.length e3)) (hne 4) (.int .i64 x.f4); have hF3 := Kd.F_far (Kd.F_far (Kd.F_far (Kd.F_far (Kd.F_far HG3.out (hne 0) (.string x.f0)) (hne 1) (.int .i64 x.f1)) (hne 2) (.slice Y2 (zaU x).f2.length e2)) (hne 3) (.slice Y3 (zaU x).f3.length e3)) (hne 4) (.int .i64 x.f4); unfold set5 at hs; generalize (((((w4.setCell ⟨w.heap.size + 1, 0, none⟩ (.string x.f0)).setCell ⟨w.heap.size + 1, 1, none⟩ (.int .i64 x.f1)).setCell ⟨w.heap.size + 1, 2, none⟩ (.slice Y2 (zaU x).f2.length e2)).setCell ⟨w.heap.size + 1, 3, none⟩ (.slice Y3 (zaU x).f3.length e3)).setCell ⟨w.heap.size + 1, 4, none⟩ (.int .i64 x.f4)) = w5 at hs hB hF2 hF3 |-; have g0 := (zab hs 0).trans rfl; have g1 := (zab hs 1).trans rfl; have g2 := (zab hs 2).trans rfl; have g3 := (zab hs 3).trans rfl; have g4 := (zab hs 4).trans rfl; exact bodyPost_ret (v := .agg #[.string x.f0, .int .i64 x.f1, .slice Y2 (zaU x).f2.length e2, .slice Y3 (zaU x).f3.length e3, .int .i64 x.f4]) (by simp [results, Tryz.results17, go_sem, g0, g1, g2, g3, g4]) rfl ⟨Y2, e2, Y3, e3, rfl, hF2, hF3, hB⟩

end Go.Proofs.YtdpgdnpddndeoaaGreatDoor.X

namespace Go.Proofs.YtdpgdnpddndeoaaGreatDoor.X
open Go.RowKit Go.Maps Go.Proofs.YtdpgdnpddndeoaaGreatDoorW.PrintWords Go.Proofs.YtdpgdnpddndeoaaGreatDoorW.PrintMore Go.Proofs.YtdpgdnpddndeoaaGreatDoorW.PrintLast Go.Proofs.YtdpgdnpddndeoaaGreatDoor.Pb
def zdf (v : SVal) : SVal := if v.f0 = true then v else ⟨false, ⟨#[]⟩⟩
def zbV (l : List SVal) : List SVal := (l.take 10).map zdf
theorem zpd (l : List SVal) : ∀ m i, i + m = min l.length 10 -> ∀ k, 2 * m + 2 <= k -> shipwrightlaw1_Vals.l0 k l ((l.take i).map zdf) (i : Int) = some (zbV l) := by
 intro m; induction m with
 | zero =>
  intro i hi k hk; obtain ⟨k, rfl⟩ : ∃ k', k = k' + 2 := ⟨k - 2, by omega⟩
  have hend : (l.take i).map zdf = zbV l := by
   unfold zbV; congr 1
   rcases Nat.lt_or_ge l.length 10 with h | h
   . rw [zqM (by omega), zqM (by omega)]
   . rw [show i = 10 by omega]
  rw [hend]; by_cases h : (i : Int) < (l.length : Int)
  . rw [shipwrightlaw1_Vals.l0, if_pos h, show decide ((i : Int) < 10) = false by simp; omega, shipwrightlaw1_Vals.j1, if_neg (by simp)]
  . rw [shipwrightlaw1_Vals.l0, if_neg h, shipwrightlaw1_Vals.j1, if_neg (by simp)]
 | succ m ih =>
  intro i hi k hk; obtain ⟨k, rfl⟩ : ∃ k', k = k' + 2 := ⟨k - 2, by omega⟩
  have hlt : i < l.length := by omega
  have h10 : i < 10 := by omega
  have ih1 := ih (i + 1) (by omega) k (by omega)
  have hcl : ((l.take i).map zdf).length < 5864062014805 := by rw [zp6, zpF]; omega
  have e2 : wrap64 ((i : Int) + 1) = ((i + 1 : Nat) : Int) := by unfold wrap64; omega
  rw [List.take_succ_eq_append_getElem hlt, List.map_append, List.map_singleton] at ih1; rw [shipwrightlaw1_Vals.l0, if_pos (by omega), show decide ((i : Int) < 10) = true by simp; omega, shipwrightlaw1_Vals.j1, if_pos rfl, if_pos (by omega), if_pos (by omega), zhO l i hlt, e2]
  unfold zdf at ih1; by_cases hb : l[i].f0 = true
  . rw [if_pos hb, if_pos hcl]
    rw [if_pos hb] at ih1; exact ih1
  . rw [if_neg hb, if_pos hcl]
    rw [if_neg hb] at ih1; rw [Bool.not_eq_true] at hb; rw [hb]; exact ih1
theorem zi4 (l : List SVal) (k : Nat) (hk : 40 <= k) : shipwrightlaw1_Vals.f k l = some (zbV l) := by
 show shipwrightlaw1_Vals.l0 k l [] 0 = _
 exact zpd l (min l.length 10) 0 (by omega) k (by omega)


end Go.Proofs.YtdpgdnpddndeoaaGreatDoor.X

namespace Go.Proofs.YtdpgdnpddndeoaaGreatDoor.X
theorem zgH (c : UInt8) (r t : zaa) (i : Bool) : zbq (c :: r) t i = if c = 10 then t :: zbq r [] false else zbq r (t ++ [c]) true := rfl
theorem zne (s : Cmd) (vs : List (Option zaa)) (h : vs.any (·.isNone) = true) : doP s vs = none := by
 unfold doP zea; rw [if_pos (.inr (.inr h))]
end Go.Proofs.YtdpgdnpddndeoaaGreatDoor.X

namespace Go.Proofs.YtdpgdnpddndeoaaGreatDoor.X
open Go.RowKit Go.Maps Go.Proofs.YtdpgdnpddndeoaaGreatDoorW.PrintWords Go.Proofs.YtdpgdnpddndeoaaGreatDoorW.PrintMore Go.Proofs.YtdpgdnpddndeoaaGreatDoorW.PrintLast
end Go.Proofs.YtdpgdnpddndeoaaGreatDoor.X

namespace Go.Proofs.YtdpgdnpddndeoaaGreatDoor.X
end Go.Proofs.YtdpgdnpddndeoaaGreatDoor.X

namespace Go.Proofs.YtdpgdnpddndeoaaGreatDoor.X
open Go.RowKit Go.Maps Go.Proofs.YtdpgdnpddndeoaaGreatDoorW.PrintWords Go.Proofs.YtdpgdnpddndeoaaGreatDoorW.PrintMore Go.Proofs.YtdpgdnpddndeoaaGreatDoorW.PrintLast
theorem zmN (n K : Int) (h : 0 < K) (hK : K <= 100000) : ∃ k : Nat, (wrap64 (n.tmod K + K)).tmod K = (k : Int) /\ (k : Int) < K := by
 have h1 := Int.lt_tmod_of_pos n h; have h2 := Int.tmod_lt_of_pos n h; have hw : wrap64 (n.tmod K + K) = n.tmod K + K := by
  generalize n.tmod K = z at h1 h2; unfold wrap64; omega
 rw [hw]; have h3 := Int.tmod_nonneg K (show 0 <= n.tmod K + K by omega)
 have h4 := Int.tmod_lt_of_pos (n.tmod K + K) h; exact ⟨((n.tmod K + K).tmod K).toNat, by omega, by omega⟩
def shipwrightlaw7_StepLong.f (_ _ _ : Int) : Option Bool := some true
end Go.Proofs.YtdpgdnpddndeoaaGreatDoor.X

namespace Go.Proofs.YtdpgdnpddndeoaaGreatDoor.X
open Go.RowKit Go.ChangeShapes Go.WideShapes Go.Deep Go.Proofs.YtdpgdnpddndeoaaGreatDoorW.PrintWords
theorem zhX (a : Addr) (i j : Nat) : (a.add i).add j = a.add (i + j) := by
 unfold Addr.add; by_cases hi : i = 0 <;> by_cases hj : j = 0 <;> simp [hi, hj, Nat.add_assoc]
section
variable {H : Type} {enc : TypeId × Value -> H} {W : World} {α : Type}
def RowD (E : α -> DataW H) (l : List α) (d : DataW H) : Prop := (d = .nil /\ l = []) \/ ∃ sp, d = .slice (l.map E) sp
theorem zjM [Inhabited α] (K : Kd α) (E : α -> DataW H) (good : α -> Prop) {P : Program} {base : Nat} {held : Bool} {t e : TypeId} {v : Value} {d : DataW H} {ps : List MemPlace}
 (ht : P.underlying t = some (.slice e)) (hce : P.cellsOf e = K.sz)
 (hel : ∀ n cs x p, cs.length = K.sz -> DataW.trod enc P W base (fun _ => true) held n e cs = some (x, p) -> ∃ y : α, K.K W y cs /\ x = E y /\ good y)
 (hv : ∃ a len cap, v = .slice a len cap) (h : DataW.Trod enc P W base (fun _ => true) held t v d ps) :
 ∃ (a : Option Addr) (l : List α) (c : Nat), v = .slice a l.length c /\ K.C W a l.length l /\ l.length <= c /\ RowD E l d /\ ∀ y ∈ l, good y := by
 obtain ⟨a0, len0, cap0, rfl⟩ := hv; obtain ⟨fuel, hf⟩ := h; rcases open_slice ht hf with ⟨hcs, hx⟩ | ⟨a, len, cap, m, n, D, Pl, hcs, hb, hl, hm, hmm, hx, hall⟩
 . simp [Value.cells] at hcs
   obtain ⟨rfl, rfl, rfl⟩ := hcs; have := (Prod.mk.inj hx).1; exact ⟨none, [], 0, rfl, ⟨rfl, by simp, fun h => by simp at h⟩, zpu _, .inl ⟨this, rfl⟩, fun y hy => by cases hy⟩
 . simp [Value.cells] at hcs
   obtain ⟨rfl, rfl, rfl⟩ := hcs; obtain ⟨hx1, _⟩ := Prod.mk.inj hx; have hlm : len0 <= m := by rw [hmm]; simp; omega
   obtain ⟨Y, hY⟩ := choose_lt (α := α) (n := len0) (p := fun i y => ∃ cs, W.cells? base (a.add (i * K.sz)) K.sz = some cs /\ K.K W y cs /\ D i = E y /\ good y) (fun i hi => by
    obtain ⟨cs, h1, h2⟩ := hall i (by omega)
    rw [hce] at h1; obtain ⟨_, hlen, _⟩ := World.cells?_some h1; obtain ⟨y, h3, h4, h5⟩ := hel n cs _ _ hlen h2; exact ⟨y, cs, h1, h3, h4, h5⟩)
   have hle : len0 <= 9223372036854775807 := by unfold maxLen at hm; omega
   refine ⟨some a, (List.range len0).map Y, cap0, by simp, ?_, by simpa using hl, .inr ⟨(List.range (m - len0)).map fun j => D (len0 + j), hx1.trans ?_⟩, ?_⟩
   . refine ⟨rfl, by simpa using hle, fun _ => ⟨a, rfl, fun j p hj => ?_⟩⟩
     obtain ⟨hjl, hjp⟩ := zpP.1 hj; have hjn : j < len0 := by simpa using hjl
     have hp : Y j = p := by simpa using hjp
     obtain ⟨cs, h1, h2, _, _⟩ := hY j hjn; rw [hp] at h2; obtain ⟨_, hlen, hcell⟩ := World.cells?_some h1; refine ⟨cs, hlen, h2, fun i u hu => ?_⟩
     have hi : i < K.sz := by rw [<- hlen]; exact (zpP.1 hu).1
     have := hcell i hi; rw [hu] at this; rw [<- this, zhX]
   . congr 1
     rw [List.map_map]; refine List.map_congr_left fun i hi => ?_
     obtain ⟨_, _, _, h3, _⟩ := hY i (List.mem_range.1 hi); exact h3
   . intro y hy
     obtain ⟨i, hi, rfl⟩ := zqN.1 hy; obtain ⟨_, _, _, _, h4⟩ := hY i (List.mem_range.1 hi); exact h4

end

instance : Inhabited S34 := ⟨z34⟩
instance : Inhabited S77 := ⟨z77⟩
def eVal {H : Type} (y : S34) : DataW H := .agg [.lit (.bool y.f0), .lit (.string y.f1.data.toList)]
theorem zoH {cs : List Value} (h : cs.length = 2) : ∃ a b, cs = [a, b] := by
 match cs, h with
 | [a, b], _ => exact ⟨a, b, rfl⟩
theorem open_vals {H : Type} {enc : TypeId × Value -> H} {W : World} {base : Nat} {held : Bool} {v : Value} {d : DataW H} {ps : List MemPlace} (hv : ∃ a len cap, v = Value.slice a len cap)
 (h : DataW.Trod enc Tryz.prog W base (fun _ => true) held 25 v d ps) :
 ∃ (a : Option Addr) (l : List S34) (c : Nat), v = .slice a l.length c /\ Kd.C k34 W a l.length l /\ l.length <= c /\ RowD (eVal (H := H)) l d /\ ∀ y ∈ l, y.f1.size <= maxLen :=
 zjM k34 eVal (fun y => y.f1.size <= maxLen) Tryz.underlying25 (by kernel_rfl) (fun n cs x p hl hx => by
  obtain ⟨y0, y1, m, h1, _, h2, h3⟩ := trod_struct2 Tryz.underlying34 hx; obtain ⟨ca, cb, rfl⟩ := zoH hl; have c1 : Tryz.prog.cellsOf 4 = 1 := by kernel_rfl
  have c2 : Tryz.prog.cellsOf 9 = 1 := by kernel_rfl
  simp only [c1, c2, List.drop_zero, zqy, List.take_succ_cons, List.take_zero] at h2 h3; obtain ⟨b, e1, e2⟩ := DataW.trod_bool Tryz.underlying4 h2; obtain ⟨s, e3, e4, e5⟩ := DataW.trod_string Tryz.underlying9 h3; refine ⟨⟨b, s⟩, ?_, ?_, e5⟩
  . cases e1; cases e3
    exact zeL W ⟨b, s⟩
  . rw [(Prod.mk.inj h1).1, e2, e4]
    rfl) hv h
theorem bulk_val {H : Type} (y : S34) : y.f1.size + 1 <= Rows.uptoBulk (eVal (H := H) y) := by
 have := Lib.size_eq y.f1; simp only [eVal, Rows.uptoBulk, Rows.uptoBulkAll]; omega
theorem bulk_part {H : Type} {d : DataW H} {l : List (DataW H)} (h : d ∈ l) (hB : Rows.uptoSmall H l = true) : Rows.uptoBulk d <= 1048576 := by
 have hB2 : Rows.uptoBulkAll l <= 1048576 := by simpa [Rows.uptoSmall] using hB
 clear hB; induction l with
 | nil => cases h
 | cons x r ih =>
  simp only [Rows.uptoBulkAll] at hB2; rcases zqB.1 h with rfl | h
  . omega
  . exact ih h (by omega)

theorem bulk_text {H : Type} {a : ByteArray} (h : Rows.uptoBulk (DataW.lit (H := H) (.string a.data.toList)) <= 1048576) : a.size + 1 <= 1048576 := by
 have := Lib.size_eq a; simp only [Rows.uptoBulk] at h; omega
theorem sized_row {H : Type} {α : Type} {E : α -> DataW H} {l : List α} {P : Program} {ts : List TypeId} {ds : List (DataW H)} {j : Nat} {t e : TypeId} {d : DataW H} {B : Nat}
 (hsz : (DataW.weightsEach P ts ds).all (· <= reachBytes) = true) (ht : ts[j]? = some t) (hd : RowD E l d) (hj : ds[j]? = some d) (hu : P.underlying t = some (.slice e)) (hB : P.bytesOf e = B) : l.length * B <= 140737488351232 := by
 rcases hd with ⟨_, rfl⟩ | ⟨sp, rfl⟩
 . simp
 . have z := sized_slice hsz ht hj hu
   rw [hB, zp6] at z; exact zpA (zpM _ (Nat.le_add_right _ _)) z

section
variable {H : Type} {enc : TypeId × Value -> H} {W : World} {α : Type}
def RowP (l : List α) (d : DataW H) : Prop := (d = .nil /\ l = []) \/ ∃ ds sp, d = .slice ds sp /\ ds.length = l.length
def SizedBy (P : Program) (t : TypeId) (d : DataW H) : Prop := ∀ n ∈ d.weights P t, n <= reachBytes
theorem zgN {P : Program} {e : TypeId} {n : Nat} {d : DataW H} (hn : n ∈ d.weights P e) : ∀ ds : List (DataW H), d ∈ ds -> n ∈ DataW.weightsAll P e ds
 | [], h => by cases h
 | x :: r, h => by
  rw [DataW.weightsAll, List.mem_append]; rcases zqB.1 h with rfl | h
  . exact .inl hn
  . exact .inr (zgN hn r h)
theorem SizedBy.elems {P : Program} {t e : TypeId} {ds sp : List (DataW H)} (hu : P.underlying t = some (.slice e)) (h : SizedBy P t (.slice ds sp)) : ds.length * P.bytesOf e <= reachBytes /\ ∀ d ∈ ds, SizedBy P e d := by
 unfold SizedBy at h; simp only [DataW.weights, hu] at h; refine ⟨zpA (zpM _ (Nat.le_add_right _ _)) (h _ List.mem_cons_self), fun d hd n hn => ?_⟩
 exact h n (List.mem_cons_of_mem _ (List.mem_append_left _ (zgN hn ds hd)))
theorem SizedBy.part {P : Program} {t : TypeId} {fs : Array Field} {ds : List (DataW H)} (hu : P.underlying t = some (.struct fs)) (h : SizedBy P t (.agg ds)) {j : Nat} {t' : TypeId} {d : DataW H} (ht : (fs.toList.map (·.type))[j]? = some t') (hd : ds[j]? = some d) : SizedBy P t' d := fun n hn => by
 refine h n ?_; simp only [DataW.weights, hu]; exact DataW.weights_mem_each ht hd n hn
theorem zkI [Inhabited α] (K : Kd α) (good good2 : α -> Prop) {P : Program} {base fuel : Nat} {held : Bool} {t e : TypeId} {cs0 : List Value} {x0 : DataW H × List MemPlace}
 (ht : P.underlying t = some (.slice e)) (hce : P.cellsOf e = K.sz)
 (hel : ∀ n cs x, cs.length = K.sz -> DataW.trod enc P W base (fun _ => true) held n e cs = some x -> ∃ y : α, K.K W y cs /\ good y /\ (SizedBy P e x.1 -> good2 y))
 (h : DataW.trod enc P W base (fun _ => true) held fuel t cs0 = some x0) :
 ∃ (a : Option Addr) (l : List α) (c : Nat), cs0 = [.slice a l.length c] /\ K.C W a l.length l /\ l.length <= c /\ RowP l x0.1 /\ (∀ y ∈ l, good y) /\ (SizedBy P t x0.1 -> l.length * P.bytesOf e <= reachBytes /\ ∀ y ∈ l, good2 y) := by
 rcases open_slice ht h with ⟨hcs, hx⟩ | ⟨a, len, cap, m, n, D, Pl, hcs, hb, hl, hm, hmm, hx, hall⟩
 . exact ⟨none, [], 0, hcs, ⟨rfl, by simp, fun h => by simp at h⟩, zpu _, .inl ⟨congrArg Prod.fst hx, rfl⟩, fun y hy => (by cases hy), fun _ => ⟨by simp, fun y hy => (by cases hy)⟩⟩
 . have hlm : len <= m := by rw [hmm]; simp; omega
   obtain ⟨Y, hY⟩ := choose_lt (α := α) (n := len) (p := fun i y => ∃ cs, W.cells? base (a.add (i * K.sz)) K.sz = some cs /\ K.K W y cs /\ good y /\ (SizedBy P e (D i) -> good2 y)) (fun i hi => by
    obtain ⟨cs, h1, h2⟩ := hall i (by omega)
    rw [hce] at h1; obtain ⟨_, hlen, _⟩ := World.cells?_some h1; obtain ⟨y, h3, h5, h6⟩ := hel n cs _ hlen h2; exact ⟨y, cs, h1, h3, h5, h6⟩)
   have hle : len <= 9223372036854775807 := by unfold maxLen at hm; omega
   refine ⟨some a, (List.range len).map Y, cap, by simpa using hcs, ?_, by simpa using hl, .inr ⟨_, _, congrArg Prod.fst hx, by simp⟩, ?_, ?_⟩
   . refine ⟨rfl, by simpa using hle, fun _ => ⟨a, rfl, fun j p hj => ?_⟩⟩
     obtain ⟨hjl, hjp⟩ := zpP.1 hj; have hjn : j < len := by simpa using hjl
     have hp : Y j = p := by simpa using hjp
     obtain ⟨cs, h1, h2, _, _⟩ := hY j hjn; rw [hp] at h2; obtain ⟨_, hlen, hcell⟩ := World.cells?_some h1; refine ⟨cs, hlen, h2, fun i u hu => ?_⟩
     have hi : i < K.sz := by rw [<- hlen]; exact (zpP.1 hu).1
     have := hcell i hi; rw [hu] at this; rw [<- this, zhX]
   . intro y hy
     obtain ⟨i, hi, rfl⟩ := zqN.1 hy; obtain ⟨_, _, _, h4, _⟩ := hY i (List.mem_range.1 hi); exact h4
   . intro hs
     rw [congrArg Prod.fst hx] at hs; obtain ⟨q1, q2⟩ := SizedBy.elems ht hs; refine ⟨by simpa using q1, fun y hy => ?_⟩
     obtain ⟨i, hi, rfl⟩ := zqN.1 hy; obtain ⟨_, _, _, _, h5⟩ := hY i (List.mem_range.1 hi); exact h5 (q2 _ (List.mem_map_of_mem hi))
theorem zko {P : Program} {w : World} {base : Nat} {spare : Nat -> Bool} {held : Bool} {t : TypeId} {f0 f1 f2 f3 f4 : Field} {fuel : Nat} {cs : List Value} {x : DataW H × List MemPlace} (ht : P.underlying t = some (.struct #[f0, f1, f2, f3, f4])) (h : DataW.trod enc P w base spare held fuel t cs = some x) :
 ∃ y0 y1 y2 y3 y4 n, cs.length = P.cellsOf t /\ x.1 = .agg [y0.1, y1.1, y2.1, y3.1, y4.1] /\ DataW.trod enc P w base spare held n f0.type ((cs.drop f0.offset).take (P.cellsOf f0.type)) = some y0 /\
  DataW.trod enc P w base spare held n f1.type ((cs.drop f1.offset).take (P.cellsOf f1.type)) = some y1 /\ DataW.trod enc P w base spare held n f2.type ((cs.drop f2.offset).take (P.cellsOf f2.type)) = some y2 /\
  DataW.trod enc P w base spare held n f3.type ((cs.drop f3.offset).take (P.cellsOf f3.type)) = some y3 /\ DataW.trod enc P w base spare held n f4.type ((cs.drop f4.offset).take (P.cellsOf f4.type)) = some y4 := by
 obtain ⟨xs, n, _, rfl, hl, hlen, hf⟩ := DataW.trod_struct ht h; match xs, hlen with
 | [y0, y1, y2, y3, y4], _ => exact ⟨y0, y1, y2, y3, y4, n, hl, by simp, by simpa using hf 0 f0 rfl, by simpa using hf 1 f1 rfl, by simpa using hf 2 f2 rfl, by simpa using hf 3 f3 rfl, by simpa using hf 4 f4 rfl⟩
theorem zot {cs : List Value} (h : cs.length = 5) : ∃ a b c d e, cs = [a, b, c, d, e] := by
 match cs, h with
 | [a, b, c, d, e], _ => exact ⟨a, b, c, d, e, rfl⟩
end
instance : Inhabited S24 := ⟨z24⟩
instance : Inhabited S45 := ⟨z45⟩
structure zhS (y : S24) : Prop where
 out : y.f0.size <= maxLen
 op : -9223372036854775808 <= y.f1 /\ y.f1 <= 9223372036854775807
 args : ∀ s ∈ y.f2, s.size <= maxLen
 lits : ∀ s ∈ y.f3, s.size <= maxLen
 num : -9223372036854775808 <= y.f4 /\ y.f4 <= 9223372036854775807
structure zeS (y : S24) : Prop where
 out : y.f0.size <= 140737488351232
 args : y.f2.length * 16 <= 140737488351232
 lits : y.f3.length * 16 <= 140737488351232
 argz : ∀ s ∈ y.f2, s.size <= 140737488351232
 litz : ∀ s ∈ y.f3, s.size <= 140737488351232
section
variable {H : Type} {enc : TypeId × Value -> H} {W : World} {base fuel : Nat} {held : Bool}
theorem by16 : Tryz.prog.bytesOf 9 = 16 := by kernel_rfl
theorem ziV {P : Program} {t : TypeId} {s : ByteArray} {x : DataW H × List MemPlace} (hx : x = (.lit (.string s.data.toList), [])) (hs : SizedBy P t x.1) : s.size <= 140737488351232 := by
 rw [hx] at hs; have := hs s.data.toList.length (by simp [DataW.weights])
 rwa [Array.length_toList] at this
theorem zgE {cs : List Value} {x : DataW H × List MemPlace} (h : DataW.trod enc Tryz.prog W base (fun _ => true) held fuel 22 cs = some x) :
 ∃ (a : Option Addr) (l : List ByteArray) (c : Nat), cs = [.slice a l.length c] /\ Kd.C Kd.string W a l.length l /\ l.length <= c /\ RowP l x.1 /\ (∀ y ∈ l, y.size <= maxLen) /\ (SizedBy Tryz.prog 22 x.1 -> l.length * 16 <= 140737488351232 /\ ∀ y ∈ l, y.size <= 140737488351232) := by
 obtain ⟨a, l, c, h1, h2, h3, h4, h5, h6⟩ := zkI Kd.string (fun y => y.size <= maxLen) (fun y => y.size <= 140737488351232) Tryz.underlying22 (by kernel_rfl) (fun n cs x _ hx => by
  obtain ⟨s, h1, h2, h3⟩ := DataW.trod_string Tryz.underlying9 (x := x) hx; exact ⟨s, h1, h3, fun hs => ziV h2 hs⟩) h
 refine ⟨a, l, c, h1, h2, h3, h4, h5, fun hs => ?_⟩
 have := h6 hs; rwa [by16] at this
theorem zoX {cs : List Value} {x : DataW H × List MemPlace} (hl : cs.length = 5) (hx : DataW.trod enc Tryz.prog W base (fun _ => true) held fuel 24 cs = some x) : ∃ y, k24.K W y cs /\ zhS y /\ (SizedBy Tryz.prog 24 x.1 -> zeS y) := by
 obtain ⟨y0, y1, y2, y3, y4, n, _, hx1, h0, h1, h2, h3, h4⟩ := zko Tryz.underlying24 hx; obtain ⟨ca, cb, cc, cd, ce, rfl⟩ := zot hl; have c1 : Tryz.prog.cellsOf 3 = 1 := by kernel_rfl
 have c2 : Tryz.prog.cellsOf 9 = 1 := by kernel_rfl
 have c3 : Tryz.prog.cellsOf 22 = 1 := by kernel_rfl
 simp only [c1, c2, c3, List.drop_zero, zqy, List.take_succ_cons, List.take_zero] at h0 h1 h2 h3 h4; obtain ⟨s, e1, d1, g1⟩ := DataW.trod_string Tryz.underlying9 h0; obtain ⟨b, e2, _, g2⟩ := DataW.trod_int Tryz.underlying3 h1; obtain ⟨a3, l3, k3, e3, C3, n3, _, g3, z3⟩ := zgE h2; obtain ⟨a4, l4, k4, e4, C4, n4, _, g4, z4⟩ := zgE h3; obtain ⟨b5, e5, _, g5⟩ := DataW.trod_int Tryz.underlying3 h4; cases e1; cases e2; cases e3; cases e4; cases e5
 refine ⟨⟨s, b, l3, l4, b5⟩, zeu W ⟨s, b, l3, l4, b5⟩ n3 C3 n4 C4, ⟨g1, bounds_i64 g2, g3, g4, bounds_i64 g5⟩, fun hs => ?_⟩
 rw [hx1] at hs; have u := Tryz.underlying24; obtain ⟨q3, r3⟩ := z3 (SizedBy.part u hs (j := 2) rfl rfl); obtain ⟨q4, r4⟩ := z4 (SizedBy.part u hs (j := 3) rfl rfl); exact ⟨ziV d1 (SizedBy.part u hs (j := 0) rfl rfl), q3, q4, r3, r4⟩
theorem sizedBy {P : Program} {ts : List TypeId} {ds : List (DataW H)} {j : Nat} {t : TypeId} {d : DataW H} (hsz : (DataW.weightsEach P ts ds).all (· <= reachBytes) = true) (ht : ts[j]? = some t) (hj : ds[j]? = some d) : SizedBy P t d := fun n hn => by
 have := List.all_eq_true.1 hsz n (DataW.weights_mem_each ht hj n hn); simpa using this
end
end Go.Proofs.YtdpgdnpddndeoaaGreatDoor.X

namespace Go.Proofs.YtdpgdnpddndeoaaGreatDoor.X
open Go.RowKit Go.Maps Go.Proofs.YtdpgdnpddndeoaaGreatDoorW.PrintWords Go.Proofs.YtdpgdnpddndeoaaGreatDoorW.PrintMore Go.Proofs.YtdpgdnpddndeoaaGreatDoorW.PrintLast Go.Proofs.YtdpgdnpddndeoaaGreatDoor.Pb
theorem zhl (l : List SVal) : (zbV l).length = min 10 l.length := by unfold zbV; rw [zp6, zpF]
theorem zkl (w5 : World) (hG : GOK w5) (x : zar) (X2 : Option Addr) (d2 : Nat) (X3 : Option Addr) (d3 g cv n kI : Nat) (ts : List SVal) (hn : ts.length = n) (hkI : kI < ts.length) (h2 : Kd.C Kd.string w5 X2 x.f2.length x.f2) (h3 : Kd.C Kd.string w5 X3 x.f3.length x.f3) {base : Nat}
 (hR : Kd.R k34 34 w5 base (fun _ => True) (.slice (some ⟨g, 0, none⟩) n cv) (ts.set (kI : Int).toNat zV)) :
 Calls Tryz.prog 25 #[.agg #[.string x.f0, .int .i64 x.f1, .slice X2 x.f2.length d2, .slice X3 x.f3.length d3, .int .i64 x.f4], .slice (some ⟨g, 0, none⟩) n cv] w5 fun e w' => e = .returned (.agg #[.bool false, .string ⟨#[]⟩]) /\ Below w5.heap.size w5 w' := by
 rw [Int.toNat_natCast] at hR; obtain ⟨hl, _, hC⟩ := Kd.R_reads' hR; have hany : ((ts.set kI zV).any fun v => !v.f0) = true := zqT.2 ⟨zV, List.mem_set hkI zV, rfl⟩
 subst hl; have h := zg2 x X2 d2 X3 d3 (some ⟨g, 0, none⟩) cv (ts.set kI zV) w5 hG h2 h3 hC (fun e => by rw [hany] at e; cases e)
 have hd : doP (zag x) ((ts.set kI zV).map valO) = none := zne _ _ (by
  rw [List.any_map]; exact zqT.2 ⟨zV, List.mem_set hkI zV, rfl⟩)
 rw [hd] at h; exact h
theorem zl4 (x : zar) (B2 : Option Addr) (c2 : Nat) (B3 : Option Addr) (c3 : Nat) (A : Option Addr) (cA : Nat) (l : List SVal) (at_ : Int) (w : World) (hG : GOK w) (h2 : Kd.C Kd.string w B2 x.f2.length x.f2) (hc2 : x.f2.length <= c2) (h3 : Kd.C Kd.string w B3 x.f3.length x.f3) (hc3 : x.f3.length <= c3)
 (hr : Kd.C k34 w A l.length l) (hcA : l.length <= cA) (hl : x.f2.length * 16 <= 140737488355328 /\ x.f3.length * 16 <= 140737488355328) :
 Calls Tryz.prog 9 #[.agg #[.string x.f0, .int .i64 x.f1, .slice B2 x.f2.length c2, .slice B3 x.f3.length c3, .int .i64 x.f4], .slice A l.length cA, .int .i64 at_] w (zcc w) := by
 have hg0 := za8 w (.cells #[.string x.f0, .int .i64 x.f1, .slice B2 x.f2.length c2, .slice B3 x.f3.length c3, .int .i64 x.f4] 24); have HK0 := zpq (zal w (.cells #[.string x.f0, .int .i64 x.f1, .slice B2 x.f2.length c2, .slice B3 x.f3.length c3, .int .i64 x.f4] 24)); have HG := zpq hG; have H2 := zpq h2; have H3 := zpq h3; have HR := zpq hr; have HCs := zpq (And.intro hc2 (And.intro hc3 (And.intro hcA hl))); have HB0 := zpq hg0; clear hG h2 h3 hr hc2 hc3 hcA hl hg0; go_enter Tryz.func9, Tryz.ntmps9
 go_wp2_with fail; generalize w.alloc (.cells #[.string x.f0, .int .i64 x.f1, .slice B2 x.f2.length c2, .slice B3 x.f3.length c3, .int .i64 x.f4] 24) = w0 at HK0 HB0 |-; refine (zhx _ (HG.out.below HB0.out)).mono ?_; rintro e w1 ⟨rfl, hb1⟩; have HB1 := zpq (zad HB0.out HB0.out.size hb1); have HK1 := zpq (zah HK0.out hb1); clear hb1 HB0 HK0; have k0 : w1.cell? ⟨w.heap.size, 0, none⟩ = some (.string x.f0) := (zab HK1.out 0).trans rfl; have k1 : w1.cell? ⟨w.heap.size, 1, none⟩ = some (.int .i64 x.f1) := (zab HK1.out 1).trans rfl; have k2 : w1.cell? ⟨w.heap.size, 2, none⟩ = some (.slice B2 x.f2.length c2) := (zab HK1.out 2).trans rfl; have k3 : w1.cell? ⟨w.heap.size, 3, none⟩ = some (.slice B3 x.f3.length c3) := (zab HK1.out 3).trans rfl; have k4 : w1.cell? ⟨w.heap.size, 4, none⟩ = some (.int .i64 x.f4) := (zab HK1.out 4).trans rfl; go_wp2_with fail; refine (ziv x B2 c2 B3 c3 w1 (Kd.C_below H2.out HB1.out) (Kd.C_below H3.out HB1.out) HCs.out.1 HCs.out.2.1 HCs.out.2.2.2).mono ?_; rintro e w2 ⟨X2, d2, X3, d3, rfl, hF2, hF3, hb2⟩; clear k0 k1 k2 k3 k4; have HBk : Hid (w.heap.size < w1.heap.size) := zaQ HK1.out; have HB2 := zpq (zad HB1.out HB1.out.size hb2); have HK2 := zpq (zah HK1.out hb2); have HBj : Hid (w.heap.size < w2.heap.size) := zaQ HK2.out; have HF2 := zpq (Kd.F_bound hF2); have HF3 := zpq (Kd.F_bound hF3); clear hb2 HB1 HK1 hF2 hF3; have hst : zaU x = ⟨x.f0, x.f1, x.f2.take 8, x.f3.take 3, x.f4⟩ := rfl; rw [hst] at HF2 HF3 |-; clear hst; dsimp only at HF2 HF3 |-; have hn8 : (x.f2.take 8).length <= 8 := by rw [zpF]; omega
 generalize x.f2.take 8 = a2 at HF2 hn8 |-; generalize x.f3.take 3 = a3 at HF3 |-; go_wp2_with fail; refine (shipwrightlaw1_Vals.calls 40 A cA l (zbV l) w2 (HG.out.below HB2.out) (Kd.C_below HR.out HB2.out) HCs.out.2.2.1 (zi4 l 40 (zpu _))).mono ?_; rintro e w3 ⟨v, rfl, hV, hb3⟩; have HV3 := zpq hV; have HB3 := zpq (zad HB2.out HB2.out.size hb3); have HK3 := zpq (zah HK2.out hb3); have HG2 := zpq (Kd.F_below HF2.out hb3); have HG3 := zpq (Kd.F_below HF3.out hb3); have hvl : (zbV l).length <= 10 := by rw [zhl]; omega
 clear hV hb3 HB2 HK2 HF2 HF3; obtain ⟨Av, cv, rfl⟩ := Kd.R_slice HV3.out; generalize zbV l = vs at HV3 hvl |-; have y0 := zai HK3.out 0; have y1 := zai HK3.out 1; have y2 := zai HK3.out 2; have y3 := zai HK3.out 3; have y4 := zai HK3.out 4; have q0 : w3.cell? ⟨w.heap.size, 0, none⟩ = some (.string x.f0) := (zab HK3.out 0).trans rfl; have q1 : w3.cell? ⟨w.heap.size, 1, none⟩ = some (.int .i64 x.f1) := (zab HK3.out 1).trans rfl; have q2 : w3.cell? ⟨w.heap.size, 2, none⟩ = some (.slice B2 x.f2.length c2) := (zab HK3.out 2).trans rfl; have q3 : w3.cell? ⟨w.heap.size, 3, none⟩ = some (.slice B3 x.f3.length c3) := (zab HK3.out 3).trans rfl; have q4 : w3.cell? ⟨w.heap.size, 4, none⟩ = some (.int .i64 x.f4) := (zab HK3.out 4).trans rfl; go_upto_region 5 with fail; have hs := zcf (.string x.f0) (.int .i64 x.f1) (.slice X2 a2.length d2) (.slice X3 a3.length d3) (.int .i64 x.f4) HK3.out; have hle : w.heap.size <= w.heap.size := zpu _; have hB := ((((HB3.out.setCell (p := ⟨w.heap.size, 0, none⟩) hle (.string x.f0)).setCell (p := ⟨w.heap.size, 1, none⟩) hle (.int .i64 x.f1)).setCell (p := ⟨w.heap.size, 2, none⟩) hle (.slice X2 a2.length d2)).setCell (p := ⟨w.heap.size, 3, none⟩) hle (.slice X3 a3.length d3)).setCell (p := ⟨w.heap.size, 4, none⟩) hle (.int .i64 x.f4); have hne : ∀ m k, (w1.heap.size + 1 < k /\ k < w2.heap.size) -> k ≠ (⟨w.heap.size, m, none⟩ : Addr).block := fun m k h => by show k ≠ w.heap.size; have := HBk.out; omega
 have hnv : ∀ m k, w2.heap.size <= k -> k ≠ (⟨w.heap.size, m, none⟩ : Addr).block := fun m k h => by show k ≠ w.heap.size; have := HBj.out; omega
 have hF2 := (Kd.F_far (Kd.F_far (Kd.F_far (Kd.F_far (Kd.F_far HG2.out (hne 0) (.string x.f0)) (hne 1) (.int .i64 x.f1)) (hne 2) (.slice X2 a2.length d2)) (hne 3) (.slice X3 a3.length d3)) (hne 4) (.int .i64 x.f4)); have hF3 := (Kd.F_far (Kd.F_far (Kd.F_far (Kd.F_far (Kd.F_far HG3.out (hne 0) (.string x.f0)) (hne 1) (.int .i64 x.f1)) (hne 2) (.slice X2 a2.length d2)) (hne 3) (.slice X3 a3.length d3)) (hne 4) (.int .i64 x.f4)); have hV0 := Kd.R_mono (Kd.R_bound HV3.out) (ok' := fun k => w2.heap.size <= k) (fun k h => h.2.1)
 have hV4 := Kd.R_mono (Kd.R_far (Kd.R_far (Kd.R_far (Kd.R_far (Kd.R_far hV0 (hnv 0) (.string x.f0)) (hnv 1) (.int .i64 x.f1)) (hnv 2) (.slice X2 a2.length d2)) (hnv 3) (.slice X3 a3.length d3)) (hnv 4) (.int .i64 x.f4)) (ok' := fun _ => True) (fun _ _ => trivial)
 unfold set5 at hs; generalize (((((w3.setCell ⟨w.heap.size, 0, none⟩ (.string x.f0)).setCell ⟨w.heap.size, 1, none⟩ (.int .i64 x.f1)).setCell ⟨w.heap.size, 2, none⟩ (.slice X2 a2.length d2)).setCell ⟨w.heap.size, 3, none⟩ (.slice X3 a3.length d3)).setCell ⟨w.heap.size, 4, none⟩ (.int .i64 x.f4)) = w4 at hs hB hF2 hF3 hV4 |-; have HK4 := zpq hs; have HB4 := zpq hB; have HF2 := zpq hF2; have HF3 := zpq hF3; have HV4 := zpq hV4; clear hs hle hB hne hnv hF2 hF3 hV0 hV4 HV3 HG2 HG3 HK3 HB3 y0 y1 y2 y3 y4 q0 q1 q2 q3 q4; have r0 : w4.cell? ⟨w.heap.size, 0, none⟩ = some (.string x.f0) := (zab HK4.out 0).trans rfl; have r1 : w4.cell? ⟨w.heap.size, 1, none⟩ = some (.int .i64 x.f1) := (zab HK4.out 1).trans rfl; have r2 : w4.cell? ⟨w.heap.size, 2, none⟩ = some (.slice X2 a2.length d2) := (zab HK4.out 2).trans rfl; have r3 : w4.cell? ⟨w.heap.size, 3, none⟩ = some (.slice X3 a3.length d3) := (zab HK4.out 3).trans rfl; have r4 : w4.cell? ⟨w.heap.size, 4, none⟩ = some (.int .i64 x.f4) := (zab HK4.out 4).trans rfl; by_cases hlt : vs.length < a2.length
 . have hltz : (vs.length : Int) < (a2.length : Int) := by omega
   have hd : decide ((vs.length : Int) < (a2.length : Int)) = true := by simp [hltz]
   go_wp2_with fail; go_ret
   exact ⟨rfl, HB4.out⟩
 . have hltz : ¬ (vs.length : Int) < (a2.length : Int) := by omega
   have hd : decide ((vs.length : Int) < (a2.length : Int)) = false := by simp [hltz]
   by_cases h0 : a2.length = 0
   . have hd0 : ((a2.length : Int) == 0) = true := by simp [h0]
     go_wp2_with fail; go_ret
     exact ⟨rfl, HB4.out⟩
   . have hd0 : ((a2.length : Int) == 0) = false := by simp [h0]
     obtain ⟨g, cp, hv1, hbg, hgl, _⟩ := Kd.R_form HV4.out (by omega)
     injection hv1 with hA1 hA2 hA3; subst hA1; clear hA2 hA3; obtain ⟨kI, hI, hI2⟩ := zmN at_ (a2.length : Int) (by omega) (by omega)
     have HT4 := zpq (Kd.R_take HV4.out (show a2.length <= vs.length by omega))
     have htl : (vs.take a2.length).length = a2.length := by rw [zpF]; omega
     generalize vs.take a2.length = ts at HT4 htl; have hc0 : (0 : Int) <= (a2.length : Int) := by omega
     have hcv : (a2.length : Int) <= (cv : Int) := by have := (Kd.R_reads' HV4.out).2.1; omega
     have HT5 := zpq (Kd.R_lower HT4.out (Nat.le_of_lt HBj.out)); have hkI : kI < ts.length := by omega
     have HX : Hid (∀ u ∈ [ts.set kI zV], (u.any fun v => !v.f0) = true) := zpq (fun u hu => by
      rw [zqR.1 hu]; exact zqT.2 ⟨zV, List.mem_set hkI zV, rfl⟩)
     clear HT4 HV4; go_wp2_with (first
      | (refine ziO (.store 34 (.tmp 44) (.tmp 43)) rfl ?_; obtain ⟨cc, hc1, _, hc3, _⟩ := Kd.R_elem HT5.out zV (kI : Int) (by omega) (by omega); refine Kd.R_store k34 (w0 := w) w.heap.size rfl rfl 34 (.tmp 44) (.tmp 43) rfl 34 (g := g) (n := a2.length) (cap := cv) (kI : Int) 0 ts zV (.agg #[.bool false, .string ⟨#[]⟩]) [.bool false, .string ⟨#[]⟩] cc (fun _ => True) (fun _ => False) (haddr := rfl) (hoff := by show _ = (kI : Int).toNat * 2 + 0; rw [Int.toNat_natCast]; first | rfl | omega | simp) (hx := rfl) (hu := rfl) (ht := by kernel_rfl) (h1 := by simp [Value.oneCell']) (HO := HT5.out) (h0 := by omega) (hi := by omega) (hcl := hc1) (hcc := hc3) (hj := by show 0 + 2 <= 2; omega) (hM := by have e : cc.drop 2 = [] := List.drop_eq_nil_of_le (Nat.le_of_eq hc1); show Kd.M k34 _ _ _ zV ([] ++ [.bool false, .string ⟨#[]⟩] ++ cc.drop 2); rw [e]; exact zco _ _ _ zV) (hokp := fun _ h => h.elim) (HB := HB4.out) ?_; intro w5 ho hb hg5; have HO5 := zpq ho; have HB5 := zpq hb; have HK5 := zpq (zaT HK4.out hg5 (fun e => by cases e; have := HBj.out; omega)); have HF5 := zpq (Kd.F_now (Kd.F_grown HF2.out hg5 (fun k hk e => by cases e; omega))); have HH5 := zpq (Kd.F_now (Kd.F_grown HF3.out hg5 (fun k hk e => by cases e; omega))); have s0 : w5.cell? ⟨w.heap.size, 0, none⟩ = some (.string x.f0) := (zab HK5.out 0).trans rfl; have s1 : w5.cell? ⟨w.heap.size, 1, none⟩ = some (.int .i64 x.f1) := (zab HK5.out 1).trans rfl; have s2 : w5.cell? ⟨w.heap.size, 2, none⟩ = some (.slice X2 a2.length d2) := (zab HK5.out 2).trans rfl; have s3 : w5.cell? ⟨w.heap.size, 3, none⟩ = some (.slice X3 a3.length d3) := (zab HK5.out 3).trans rfl; have s4 : w5.cell? ⟨w.heap.size, 4, none⟩ = some (.int .i64 x.f4) := (zab HK5.out 4).trans rfl; clear ho hb hg5 hc1 hc3)
      | (go_at_call 25; refine (zkl w5 (HG.out.below HB5.out) ⟨x.f0, x.f1, a2, a3, x.f4⟩ X2 d2 X3 d3 g cv a2.length kI ts htl hkI HF5.out HH5.out HO5.out).mono ?_; rintro e w6 ⟨rfl, hb6⟩))
     go_ret
     exact ⟨rfl, zad HB5.out HB5.out.size hb6⟩

def shipwrightlaw7_StepFail.f (x : zar) (_ : List SVal) (_ : Int) : Option Bool := if x.f2.length * 16 <= 140737488355328 /\ x.f3.length * 16 <= 140737488355328 then some true else none
theorem shipwrightlaw7_StepFail.calls (x : zar) (B2 : Option Addr) (c2 : Nat) (B3 : Option Addr) (c3 : Nat) (A : Option Addr) (cA : Nat) (l : List SVal) (at_ : Int) (r : Bool) (w : World) (hG : GOK w) (h2 : Kd.C Kd.string w B2 x.f2.length x.f2) (hc2 : x.f2.length <= c2) (h3 : Kd.C Kd.string w B3 x.f3.length x.f3) (hc3 : x.f3.length <= c3)
 (hr : Kd.C k34 w A l.length l) (hcA : l.length <= cA) (h : shipwrightlaw7_StepFail.f x l at_ = some r) :
 Calls Tryz.prog 9 #[.agg #[.string x.f0, .int .i64 x.f1, .slice B2 x.f2.length c2, .slice B3 x.f3.length c3, .int .i64 x.f4], .slice A l.length cA, .int .i64 at_] w fun e w' => e = .returned (.bool r) /\ Below w.heap.size w w' := by
 unfold shipwrightlaw7_StepFail.f at h; split at h
 . rename_i hl
   obtain rfl := zp2 h; exact zl4 x B2 c2 B3 c3 A cA l at_ w hG h2 hc2 h3 hc3 hr hcA hl
 . cases h
theorem pure_StepFail (x : zar) (l : List SVal) (at_ : Int) (y : zeS x) {p q : Prop} (_ : p) (_ : q) : shipwrightlaw7_StepFail.f x l at_ = some true := by
 unfold shipwrightlaw7_StepFail.f; have h1 := y.args; have h2 := y.lits; rw [if_pos ⟨by omega, by omega⟩]

end Go.Proofs.YtdpgdnpddndeoaaGreatDoor.X

namespace Go.Proofs.YtdpgdnpddndeoaaGreatDoor.X
open Go.RowKit Go.ChangeShapes Go.WideShapes Go.Deep Go.Proofs.YtdpgdnpddndeoaaGreatDoorW.PrintWords
theorem open_step1 {H : Type} {enc : TypeId × Value -> H} {W : World} {base : Nat} {held : Bool} {v : Value} {d : DataW H} {ps : List MemPlace} (hv : ∃ cs, v = Value.agg cs /\ cs.size = Tryz.prog.cellsOf 24)
 (h : DataW.Trod enc Tryz.prog W base (fun _ => true) held 24 v d ps) :
 ∃ (y : S24) (B2 : Option Addr) (c2 : Nat) (B3 : Option Addr) (c3 : Nat), v = .agg #[.string y.f0, .int .i64 y.f1, .slice B2 y.f2.length c2, .slice B3 y.f3.length c3, .int .i64 y.f4] /\ Kd.C Kd.string W B2 y.f2.length y.f2 /\ y.f2.length <= c2 /\ Kd.C Kd.string W B3 y.f3.length y.f3 /\ y.f3.length <= c3 /\ zhS y /\ (SizedBy Tryz.prog 24 d -> zeS y) := by
 obtain ⟨cs, rfl, hs⟩ := hv; obtain ⟨fuel, hf⟩ := h; have c0 : Tryz.prog.cellsOf 24 = 5 := by kernel_rfl
 rw [c0] at hs; obtain ⟨y, hK, hg, hB⟩ := zoX (cs := cs.toList) (by simpa using hs) hf
 obtain ⟨A2, c2, A3, c3, e, l2, g2, l3, g3⟩ := zcW hK; obtain rfl : cs = #[.string y.f0, .int .i64 y.f1, .slice A2 y.f2.length c2, .slice A3 y.f3.length c3, .int .i64 y.f4] := by apply Array.toList_inj.1; exact e
 exact ⟨y, A2, c2, A3, c3, rfl, g2, l2, g3, l3, hg, hB⟩

end Go.Proofs.YtdpgdnpddndeoaaGreatDoor.X
