/-
  What the cards lean on (part Y13): contracts of functions, by hand, and plain laws; what is printed by the kit's print for this seat is among them. What is not reached is left out.
-/
import Derived.Deep.RegionHeld3
import Derived.Test.YtdpgdnpddndeoaaGreatDoorY12
import Derived.Test.YtdpgdnpddndeoaaGreatDoorY11
import Derived.Test.YtdpgdnpddndeoaaGreatDoorY7
set_option maxHeartbeats 16000000
set_option maxRecDepth 100000
set_option linter.unusedSimpArgs false
set_option linter.unusedVariables false
open Go.RowKit.Below renaming refl -> zno
open Nat renaming le_refl -> znp
open Go.Lib renaming size_eq -> znY
open List renaming length_map -> zn0, map_toArray -> zof, map_cons -> zn3, map_nil -> zn4, mem_singleton -> zoF, mem_cons -> zow, take_of_length_le -> zox, setIfInBounds_toArray -> zoU, set_cons_zero -> zoV, set_cons_succ -> zoW
open Option.some renaming inj -> znU
open Go.World renaming size_alloc -> zoX
open Or renaming inl -> zoT

namespace Go.Proofs.YtdpgdnpddndeoaaGreatDoor.X
open Go.RowKit Go.Maps Go.Proofs.YtdpgdnpddndeoaaGreatDoorW.PrintWords Go.Proofs.YtdpgdnpddndeoaaGreatDoorW.PrintMore Go.Proofs.YtdpgdnpddndeoaaGreatDoorW.PrintLast
theorem zdw (A : Option Addr) (c : Nat) (B : Option Addr) (d : Nat) (l : List ByteArray) (w : World) (h1 : Kd.C Kd.string w A l.length l) (h2 : Kd.C Kd.string w B l.length l) :
 Calls Tryz.prog 195 #[.slice A l.length c, .slice B l.length d] w fun e w' => e = .returned (.bool true) /\ Below w.heap.size w w' := by
 have hm := h1.2.1; have H1 := znl h1; have H2 := znl h2; clear h1 h2; go_enter Tryz.func195, Tryz.ntmps195
 go_wp2_with fail; go_loopg [5, 13] l.length (fun gg _ s13 wr => ∃ kk : Nat, kk <= l.length /\ l.length - kk <= gg /\ s13 = .int .i64 kk /\ Aside0 (Below w.heap.size w wr))
 case atStart => exact ⟨0, by omega, by omega, rfl, ⟨zno _ _⟩⟩
 case round =>
  obtain ⟨kk, hkk, hgk, rfl, HB⟩ := hrel; by_cases hlt : kk < l.length
  . have hltz : (kk : Int) < (l.length : Int) := by omega
    rcases za5 (Kd.C_below H1.out HB.out) with h0 | ⟨b, o, rfl, _, hcell⟩
    . rw [h0] at hlt; simp at hlt
    rcases za5 (Kd.C_below H2.out HB.out) with h0 | ⟨b', o', rfl, _, hcell'⟩
    . rw [h0] at hlt; simp at hlt
    have hx : wr.cell? ⟨b, o + kk, none⟩ = some (.string (l.getD kk ByteArray.empty)) := hcell kk hlt; have hx' : wr.cell? ⟨b', o' + kk, none⟩ = some (.string (l.getD kk ByteArray.empty)) := hcell' kk hlt; generalize l.getD kk ByteArray.empty = y at hx hx'; have HBd := znl (zbh HB.out); clear hcell hcell'; go_wp2_with fail; go_region
    all_goals
     go_wp2; go_roundg (l.length - (kk + 1))
     case measure => omega
     case rel => exact ⟨kk + 1, by omega, by omega, by go_num, ⟨HBd.out⟩⟩
  . have hltz : ¬ (kk : Int) < (l.length : Int) := by omega
    go_wp2; go_ret
    exact ⟨rfl, HB.out⟩

theorem zks (x : zay) (A2 : Option Addr) (c2 : Nat) (A3 : Option Addr) (c3 : Nat) (B2 : Option Addr) (d2 : Nat) (B3 : Option Addr) (d3 : Nat) (w : World)
 (h2 : Kd.C Kd.string w A2 x.f2.length x.f2) (h3 : Kd.C Kd.string w A3 x.f3.length x.f3) (g2 : Kd.C Kd.string w B2 x.f2.length x.f2) (g3 : Kd.C Kd.string w B3 x.f3.length x.f3) :
 Calls Tryz.prog 197 #[.agg #[.string x.f0, .int .i64 x.f1, .slice A2 x.f2.length c2, .slice A3 x.f3.length c3, .int .i64 x.f4], .agg #[.string x.f0, .int .i64 x.f1, .slice B2 x.f2.length d2, .slice B3 x.f3.length d3, .int .i64 x.f4]] w
  fun e w' => e = .returned (.bool true) /\ Below w.heap.size w w' := by
 have hb1 := (zno w.heap.size w).alloc (znp _) (.cells #[.string x.f0, .int .i64 x.f1, .slice A2 x.f2.length c2, .slice A3 x.f3.length c3, .int .i64 x.f4] 24); have hb2 := hb1.alloc hb1.size (.cells #[.string x.f0, .int .i64 x.f1, .slice B2 x.f2.length d2, .slice B3 x.f3.length d3, .int .i64 x.f4] 24); have hk := zav (zao w (.cells #[.string x.f0, .int .i64 x.f1, .slice A2 x.f2.length c2, .slice A3 x.f3.length c3, .int .i64 x.f4] 24)) (.cells #[.string x.f0, .int .i64 x.f1, .slice B2 x.f2.length d2, .slice B3 x.f3.length d3, .int .i64 x.f4] 24); have hz := zao (w.alloc (.cells #[.string x.f0, .int .i64 x.f1, .slice A2 x.f2.length c2, .slice A3 x.f3.length c3, .int .i64 x.f4] 24)) (.cells #[.string x.f0, .int .i64 x.f1, .slice B2 x.f2.length d2, .slice B3 x.f3.length d3, .int .i64 x.f4] 24); rw [zoX] at hz; have HB2 := znl hb2; have HK2 := znl hk; have HZ2 := znl hz; have hE2 : Hid (∀ W, Below w.heap.size w W -> Calls Tryz.prog 195 #[.slice A2 x.f2.length c2, .slice B2 x.f2.length d2] W fun e w' => e = .returned (.bool true) /\ Below W.heap.size W w') := fun W hW => zdw A2 c2 B2 d2 x.f2 W (Kd.C_below h2 hW) (Kd.C_below g2 hW)
 have hE3 : Hid (∀ W, Below w.heap.size w W -> Calls Tryz.prog 195 #[.slice A3 x.f3.length c3, .slice B3 x.f3.length d3] W fun e w' => e = .returned (.bool true) /\ Below W.heap.size W w') := fun W hW => zdw A3 c3 B3 d3 x.f3 W (Kd.C_below h3 hW) (Kd.C_below g3 hW)
 clear hb1 hb2 hk hz h2 h3 g2 g3; go_enter Tryz.func197, Tryz.ntmps197
 go_wp2_with fail; generalize (w.alloc (.cells #[.string x.f0, .int .i64 x.f1, .slice A2 x.f2.length c2, .slice A3 x.f3.length c3, .int .i64 x.f4] 24)).alloc (.cells #[.string x.f0, .int .i64 x.f1, .slice B2 x.f2.length d2, .slice B3 x.f3.length d3, .int .i64 x.f4] 24) = w2 at HB2 HK2 HZ2 |-; refine (hE2.out _ HB2.out).mono ?_; rintro e w3 ⟨rfl, hb3⟩; have HB3 := znl (zad HB2.out HB2.out.size hb3); have k3 : w3.cell? ⟨w.heap.size, 3, none⟩ = some (.slice A3 x.f3.length c3) := (zaa (zah HK2.out hb3) 3).trans rfl; have j3 : w3.cell? ⟨w.heap.size + 1, 3, none⟩ = some (.slice B3 x.f3.length d3) := (zaa (zah HZ2.out hb3) 3).trans rfl; clear hb3; go_wp2_with fail; refine (hE3.out _ HB3.out).mono ?_; rintro e w4 ⟨rfl, hb4⟩; have HB4 := znl (zad HB3.out HB3.out.size hb4); clear hb4; go_wp2_with fail; go_ret
 exact ⟨rfl, HB4.out⟩

theorem zcp {w : World} {a : Addr} {v : Value} (h : w.cell? a = some v) (ob : Obj) : (w.alloc ob).cell? a = some v := (World.cell?_alloc_some w a ob (by rw [h]; rfl)).trans h
abbrev zci (w : World) (e : Ending) (w' : World) : Prop := e = .returned (.bool true) /\ Below w.heap.size w w'
theorem zdy {w : World} {x : zay} {A : Option Addr} (h : Kd.C k24 w A 1 [x]) :
 ∃ ad A2 c2 A3 c3, A = some ad /\ Kd.C Kd.string w A2 x.f2.length x.f2 /\ Kd.C Kd.string w A3 x.f3.length x.f3 /\ w.cell? ad = some (.string x.f0) /\ w.cell? ⟨ad.block, ad.off + 1, none⟩ = some (.int .i64 x.f1) /\
  w.cell? ⟨ad.block, ad.off + 2, none⟩ = some (.slice A2 x.f2.length c2) /\ w.cell? ⟨ad.block, ad.off + 3, none⟩ = some (.slice A3 x.f3.length c3) /\ w.cell? ⟨ad.block, ad.off + 4, none⟩ = some (.int .i64 x.f4) := by
 obtain ⟨ad, cs, rfl, hcl, hK, hcell⟩ := Kd.C_get h x 0 (by simp) (by simp)
 obtain ⟨A5, c5, A6, c6, hcs, hc5, h5, hc6, h6⟩ := zej hK; subst hcs; refine ⟨ad, A5, c5, A6, c6, rfl, h5, h6, ?_, ?_, ?_, ?_, ?_⟩
 . have := hcell 0 _ rfl; rwa [zc4] at this
 . have := hcell 1 _ rfl; rwa [at_next ad 1 (by decide)] at this
 . have := hcell 2 _ rfl; rwa [at_next ad 2 (by decide)] at this
 . have := hcell 3 _ rfl; rwa [at_next ad 3 (by decide)] at this
 . have := hcell 4 _ rfl; rwa [at_next ad 4 (by decide)] at this
theorem zdA {w : World} {r : zai} {A : Option Addr} (h : Kd.C k45 w A 1 [r]) :
 ∃ ad A1 c1 A2 c2 A3 c3 A4 c4, A = some ad /\ Kd.C Kd.string w A1 r.f1.length r.f1 /\ Kd.C Kd.string w A2 r.f2.length r.f2 /\ Kd.C Kd.string w A3 r.f3.length r.f3 /\ Kd.C k24 w A4 r.f4.length r.f4 /\
  w.cell? ad = some (.string r.f0) /\ w.cell? ⟨ad.block, ad.off + 1, none⟩ = some (.slice A1 r.f1.length c1) /\
  w.cell? ⟨ad.block, ad.off + 2, none⟩ = some (.slice A2 r.f2.length c2) /\ w.cell? ⟨ad.block, ad.off + 3, none⟩ = some (.slice A3 r.f3.length c3) /\ w.cell? ⟨ad.block, ad.off + 4, none⟩ = some (.slice A4 r.f4.length c4) := by
 obtain ⟨ad, cs, rfl, hcl, hK, hcell⟩ := Kd.C_get h r 0 (by simp) (by simp)
 obtain ⟨A1, c1, A2, c2, A3, c3, A4, c4, hcs, _, h1, _, h2, _, h3, _, h4⟩ := zdX hK; subst hcs; refine ⟨ad, A1, c1, A2, c2, A3, c3, A4, c4, rfl, h1, h2, h3, h4, ?_, ?_, ?_, ?_, ?_⟩
 . have := hcell 0 _ rfl; rwa [zc4] at this
 . have := hcell 1 _ rfl; rwa [at_next ad 1 (by decide)] at this
 . have := hcell 2 _ rfl; rwa [at_next ad 2 (by decide)] at this
 . have := hcell 3 _ rfl; rwa [at_next ad 3 (by decide)] at this
 . have := hcell 4 _ rfl; rwa [at_next ad 4 (by decide)] at this

theorem ziS (x : zay) (A : Option Addr) (c : Nat) (B : Option Addr) (d : Nat) (w : World) (h1 : Kd.C k24 w A 1 [x]) (h2 : Kd.C k24 w B 1 [x]) :
 Calls Tryz.prog 196 #[.slice A 1 c, .slice B 1 d, .func (.func 197) #[] #[]] w (zci w) := by
 obtain ⟨ad, A2, c2, A3, c3, rfl, hA2, hA3, m0, m1, m2, m3, m4⟩ := zdy h1; obtain ⟨bd, B2, d2, B3, d3, rfl, hB2, hB3, n0, n1, n2, n3, n4⟩ := zdy h2; have hS : Hid (∀ W, Below w.heap.size w W -> Calls Tryz.prog 197 #[.agg #[.string x.f0, .int .i64 x.f1, .slice A2 x.f2.length c2, .slice A3 x.f3.length c3, .int .i64 x.f4], .agg #[.string x.f0, .int .i64 x.f1, .slice B2 x.f2.length d2, .slice B3 x.f3.length d3, .int .i64 x.f4]] W
  fun e w' => e = .returned (.bool true) /\ Below W.heap.size W w') := fun W hW => zks x A2 c2 A3 c3 B2 d2 B3 d3 W (Kd.C_below hA2 hW) (Kd.C_below hA3 hW) (Kd.C_below hB2 hW) (Kd.C_below hB3 hW)
 clear h1 h2 hA2 hA3 hB2 hB3; go_enter Tryz.func196, Tryz.ntmps196
 go_wp2_with fail; go_loopg [17] 1 (fun gg s17 wr => ∃ kk : Nat, kk <= 1 /\ 1 - kk <= gg /\ s17 = .int .i64 kk /\ Aside0 (kk = 0 -> wr = w) /\ Aside0 (kk = 1 -> Below w.heap.size w wr))
 case atStart => exact ⟨0, by omega, by omega, rfl, ⟨fun _ => rfl⟩, ⟨fun h => by omega⟩⟩
 case round =>
  obtain ⟨kk, hkk, hgk, rfl, HP0, HP1⟩ := hrel; by_cases h0 : kk = 0
  . subst h0
    obtain rfl := HP0.out rfl; clear HP0 HP1; have p0 := zcp n0; have p1 := zcp n1; have p2 := zcp n2; have p3 := zcp n3; have p4 := zcp n4; have hb := ((zno wr.heap.size wr).alloc (znp _) (.cells #[.string x.f0, .int .i64 x.f1, .slice A2 x.f2.length c2, .slice A3 x.f3.length c3, .int .i64 x.f4] 24)).alloc (by rw [zoX]; omega) (.cells #[.string x.f0, .int .i64 x.f1, .slice B2 x.f2.length d2, .slice B3 x.f3.length d3, .int .i64 x.f4] 24)
    have HB := znl hb; have hcall := hS.out _ hb; clear hb; go_wp2_with (go_at_call 197; refine hcall.mono ?_; rintro e w2 ⟨rfl, hb2⟩; have HB2 := znl (zad HB.out HB.out.size hb2); clear hb2)
    go_roundg 0
    case measure => omega
    case rel => exact ⟨1, by omega, by omega, by first | rfl | go_num, ⟨fun h => by omega⟩, ⟨fun _ => HB2.out⟩⟩
  . obtain rfl : kk = 1 := by omega
    have HB := znl (HP1.out rfl); clear HP0 HP1; go_wp2_with fail; go_ret
    exact ⟨rfl, HB.out⟩

theorem ziw (f0 : ByteArray) (l1 l2 l3 : List ByteArray) (x : zay) (A1 : Option Addr) (c1 : Nat) (A2 : Option Addr) (c2 : Nat) (A3 : Option Addr) (c3 : Nat) (A4 : Option Addr) (c4 : Nat) (B1 : Option Addr) (d1 : Nat) (B2 : Option Addr) (d2 : Nat) (B3 : Option Addr) (d3 : Nat) (B4 : Option Addr) (d4 : Nat) (w : World)
 (h1 : Kd.C Kd.string w A1 l1.length l1) (h2 : Kd.C Kd.string w A2 l2.length l2) (h3 : Kd.C Kd.string w A3 l3.length l3) (h4 : Kd.C k24 w A4 1 [x])
 (g1 : Kd.C Kd.string w B1 l1.length l1) (g2 : Kd.C Kd.string w B2 l2.length l2) (g3 : Kd.C Kd.string w B3 l3.length l3) (g4 : Kd.C k24 w B4 1 [x]) :
 Calls Tryz.prog 146 #[.agg #[.string f0, .slice A1 l1.length c1, .slice A2 l2.length c2, .slice A3 l3.length c3, .slice A4 1 c4], .agg #[.string f0, .slice B1 l1.length d1, .slice B2 l2.length d2, .slice B3 l3.length d3, .slice B4 1 d4]] w (zci w) := by
 have hb1 := (zno w.heap.size w).alloc (znp _) (.cells #[.string f0, .slice A1 l1.length c1, .slice A2 l2.length c2, .slice A3 l3.length c3, .slice A4 1 c4] 45); have hb2 := hb1.alloc hb1.size (.cells #[.string f0, .slice B1 l1.length d1, .slice B2 l2.length d2, .slice B3 l3.length d3, .slice B4 1 d4] 45); have hk := zav (zao w (.cells #[.string f0, .slice A1 l1.length c1, .slice A2 l2.length c2, .slice A3 l3.length c3, .slice A4 1 c4] 45)) (.cells #[.string f0, .slice B1 l1.length d1, .slice B2 l2.length d2, .slice B3 l3.length d3, .slice B4 1 d4] 45); have hz := zao (w.alloc (.cells #[.string f0, .slice A1 l1.length c1, .slice A2 l2.length c2, .slice A3 l3.length c3, .slice A4 1 c4] 45)) (.cells #[.string f0, .slice B1 l1.length d1, .slice B2 l2.length d2, .slice B3 l3.length d3, .slice B4 1 d4] 45); rw [zoX] at hz; have HB2 := znl hb2; have HK2 := znl hk; have HZ2 := znl hz; have hE1 : Hid (∀ W, Below w.heap.size w W -> Calls Tryz.prog 195 #[.slice A1 l1.length c1, .slice B1 l1.length d1] W fun e w' => e = .returned (.bool true) /\ Below W.heap.size W w') := fun W hW => zdw A1 c1 B1 d1 l1 W (Kd.C_below h1 hW) (Kd.C_below g1 hW)
 have hE2 : Hid (∀ W, Below w.heap.size w W -> Calls Tryz.prog 195 #[.slice A2 l2.length c2, .slice B2 l2.length d2] W fun e w' => e = .returned (.bool true) /\ Below W.heap.size W w') := fun W hW => zdw A2 c2 B2 d2 l2 W (Kd.C_below h2 hW) (Kd.C_below g2 hW)
 have hE3 : Hid (∀ W, Below w.heap.size w W -> Calls Tryz.prog 195 #[.slice A3 l3.length c3, .slice B3 l3.length d3] W fun e w' => e = .returned (.bool true) /\ Below W.heap.size W w') := fun W hW => zdw A3 c3 B3 d3 l3 W (Kd.C_below h3 hW) (Kd.C_below g3 hW)
 have hE4 : Hid (∀ W, Below w.heap.size w W -> Calls Tryz.prog 196 #[.slice A4 1 c4, .slice B4 1 d4, .func (.func 197) #[] #[]] W (zci W)) := fun W hW => ziS x A4 c4 B4 d4 W (Kd.C_below h4 hW) (Kd.C_below g4 hW)
 clear hb1 hb2 hk hz h1 h2 h3 h4 g1 g2 g3 g4; go_enter Tryz.func146, Tryz.ntmps146
 go_wp2_with fail; generalize (w.alloc (.cells #[.string f0, .slice A1 l1.length c1, .slice A2 l2.length c2, .slice A3 l3.length c3, .slice A4 1 c4] 45)).alloc (.cells #[.string f0, .slice B1 l1.length d1, .slice B2 l2.length d2, .slice B3 l3.length d3, .slice B4 1 d4] 45) = w2 at HB2 HK2 HZ2 |-; refine (hE1.out _ HB2.out).mono ?_; rintro e w3 ⟨rfl, hb3⟩; have HB3 := znl (zad HB2.out HB2.out.size hb3); have HK3 := znl (zah HK2.out hb3); have HZ3 := znl (zah HZ2.out hb3); have k3 : w3.cell? ⟨w.heap.size, 2, none⟩ = some (.slice A2 l2.length c2) := (zaa HK3.out 2).trans rfl; have j3 : w3.cell? ⟨w.heap.size + 1, 2, none⟩ = some (.slice B2 l2.length d2) := (zaa HZ3.out 2).trans rfl; clear hb3; go_wp2_with fail; refine (hE2.out _ HB3.out).mono ?_; rintro e w4 ⟨rfl, hb4⟩; have HB4 := znl (zad HB3.out HB3.out.size hb4); have HK4 := znl (zah HK3.out hb4); have HZ4 := znl (zah HZ3.out hb4); have k4 : w4.cell? ⟨w.heap.size, 3, none⟩ = some (.slice A3 l3.length c3) := (zaa HK4.out 3).trans rfl; have j4 : w4.cell? ⟨w.heap.size + 1, 3, none⟩ = some (.slice B3 l3.length d3) := (zaa HZ4.out 3).trans rfl; clear hb4; go_wp2_with fail; refine (hE3.out _ HB4.out).mono ?_; rintro e w5 ⟨rfl, hb5⟩; have HB5 := znl (zad HB4.out HB4.out.size hb5); have HK5 := znl (zah HK4.out hb5); have HZ5 := znl (zah HZ4.out hb5); have k5 : w5.cell? ⟨w.heap.size, 4, none⟩ = some (.slice A4 1 c4) := (zaa HK5.out 4).trans rfl; have j5 : w5.cell? ⟨w.heap.size + 1, 4, none⟩ = some (.slice B4 1 d4) := (zaa HZ5.out 4).trans rfl; clear hb5; go_wp2_with fail; refine (hE4.out _ HB5.out).mono ?_; rintro e w6 ⟨rfl, hb6⟩; have HB6 := znl (zad HB5.out HB5.out.size hb6); clear hb6; go_wp2_with fail; go_ret
 exact ⟨rfl, HB6.out⟩

theorem zmH (f0 : ByteArray) (l1 l2 l3 : List ByteArray) (x : zay) (A : Option Addr) (c : Nat) (B : Option Addr) (d : Nat) (w : World) (h1 : Kd.C k45 w A 1 [⟨f0, l1, l2, l3, [x]⟩]) (h2 : Kd.C k45 w B 1 [⟨f0, l1, l2, l3, [x]⟩]) :
 Calls Tryz.prog 145 #[.slice A 1 c, .slice B 1 d, .func (.func 146) #[] #[]] w (zci w) := by
 obtain ⟨ad, A1, c1, A2, c2, A3, c3, A4, c4, rfl, hA1, hA2, hA3, hA4, m0, m1, m2, m3, m4⟩ := zdA h1; obtain ⟨bd, B1, d1, B2, d2, B3, d3, B4, d4, rfl, hB1, hB2, hB3, hB4, n0, n1, n2, n3, n4⟩ := zdA h2; replace m0 : w.cell? ad = some (.string f0) := m0
 replace m1 : w.cell? ⟨ad.block, ad.off + 1, none⟩ = some (.slice A1 l1.length c1) := m1
 replace m2 : w.cell? ⟨ad.block, ad.off + 2, none⟩ = some (.slice A2 l2.length c2) := m2
 replace m3 : w.cell? ⟨ad.block, ad.off + 3, none⟩ = some (.slice A3 l3.length c3) := m3
 replace m4 : w.cell? ⟨ad.block, ad.off + 4, none⟩ = some (.slice A4 1 c4) := m4
 replace n0 : w.cell? bd = some (.string f0) := n0
 replace n1 : w.cell? ⟨bd.block, bd.off + 1, none⟩ = some (.slice B1 l1.length d1) := n1
 replace n2 : w.cell? ⟨bd.block, bd.off + 2, none⟩ = some (.slice B2 l2.length d2) := n2
 replace n3 : w.cell? ⟨bd.block, bd.off + 3, none⟩ = some (.slice B3 l3.length d3) := n3
 replace n4 : w.cell? ⟨bd.block, bd.off + 4, none⟩ = some (.slice B4 1 d4) := n4
 have hS : Hid (∀ W, Below w.heap.size w W -> Calls Tryz.prog 146 #[.agg #[.string f0, .slice A1 l1.length c1, .slice A2 l2.length c2, .slice A3 l3.length c3, .slice A4 1 c4], .agg #[.string f0, .slice B1 l1.length d1, .slice B2 l2.length d2, .slice B3 l3.length d3, .slice B4 1 d4]] W (zci W)) := fun W hW => ziw f0 l1 l2 l3 x A1 c1 A2 c2 A3 c3 A4 c4 B1 d1 B2 d2 B3 d3 B4 d4 W (Kd.C_below hA1 hW) (Kd.C_below hA2 hW) (Kd.C_below hA3 hW) (Kd.C_below hA4 hW) (Kd.C_below hB1 hW) (Kd.C_below hB2 hW) (Kd.C_below hB3 hW) (Kd.C_below hB4 hW)
 clear h1 h2 hA1 hA2 hA3 hA4 hB1 hB2 hB3 hB4; go_enter Tryz.func145, Tryz.ntmps145
 go_wp2_with fail; go_loopg [17] 1 (fun gg s17 wr => ∃ kk : Nat, kk <= 1 /\ 1 - kk <= gg /\ s17 = .int .i64 kk /\ Aside0 (kk = 0 -> wr = w) /\ Aside0 (kk = 1 -> Below w.heap.size w wr))
 case atStart => exact ⟨0, by omega, by omega, rfl, ⟨fun _ => rfl⟩, ⟨fun h => by omega⟩⟩
 case round =>
  obtain ⟨kk, hkk, hgk, rfl, HP0, HP1⟩ := hrel; by_cases h0 : kk = 0
  . subst h0
    obtain rfl := HP0.out rfl; clear HP0 HP1; have p0 := zcp n0; have p1 := zcp n1; have p2 := zcp n2; have p3 := zcp n3; have p4 := zcp n4; have hb := ((zno wr.heap.size wr).alloc (znp _) (.cells #[.string f0, .slice A1 l1.length c1, .slice A2 l2.length c2, .slice A3 l3.length c3, .slice A4 1 c4] 45)).alloc (by rw [zoX]; omega) (.cells #[.string f0, .slice B1 l1.length d1, .slice B2 l2.length d2, .slice B3 l3.length d3, .slice B4 1 d4] 45)
    have HB := znl hb; have hcall := hS.out _ hb; clear hb; go_wp2_with (go_at_call 146; refine hcall.mono ?_; rintro e w2 ⟨rfl, hb2⟩; have HB2 := znl (zad HB.out HB.out.size hb2); clear hb2)
    go_roundg 0
    case measure => omega
    case rel => exact ⟨1, by omega, by omega, by first | rfl | go_num, ⟨fun h => by omega⟩, ⟨fun _ => HB2.out⟩⟩
  . obtain rfl : kk = 1 := by omega
    have HB := znl (HP1.out rfl); clear HP0 HP1; go_wp2_with fail; go_ret
    exact ⟨rfl, HB.out⟩
theorem zjh (f0 : ByteArray) (l1 l2 l3 : List ByteArray) (x : zay) (A : Option Addr) (c : Nat) (B : Option Addr) (d : Nat) (w : World) (h1 : Kd.C k45 w A 1 [⟨f0, l1, l2, l3, [x]⟩]) (h2 : Kd.C k45 w B 1 [⟨f0, l1, l2, l3, [x]⟩]) :
 Calls Tryz.prog 117 #[.slice A 1 c, .slice B 1 d] w (zci w) := by
 have hE := zmH f0 l1 l2 l3 x A c B d w h1 h2; clear h1 h2; go_enter Tryz.func117, Tryz.ntmps117
 go_wp2_with fail; refine hE.mono ?_; rintro e w2 ⟨rfl, hb2⟩; go_wp2_with fail; go_ret
 exact ⟨rfl, hb2⟩
end Go.Proofs.YtdpgdnpddndeoaaGreatDoor.X

namespace Go.Proofs.YtdpgdnpddndeoaaGreatDoor.X
open Go.RowKit Go.Maps
def begW : zab := [97, 32, 34, 92, 120, 52, 49, 34, 32, 59]
theorem zi0 : allR (allF begW) = ([⟨1, 0, ⟨#[97]⟩⟩, ⟨2, 2, ⟨#[65]⟩⟩, ⟨3, 9, ⟨#[59]⟩⟩, ⟨4, 10, ⟨#[]⟩⟩], 0, 0) := by kernel_rfl
def begS : zab := "rule r { in b, a; out x; # no\n x = select \"q\\n\" a; }".toUTF8.data.toList
def begX : zay := ⟨⟨#[120]⟩, 7, [⟨#[97]⟩], [⟨#[113, 10]⟩], 0⟩
theorem ziE : zbS begS = ([⟨⟨#[114]⟩, [⟨#[98]⟩, ⟨#[97]⟩], [⟨#[120]⟩], [], [begX]⟩], 0, 0) := by kernel_rfl
def begE : zab := "rule in {".toUTF8.data.toList
theorem zlF : zbS begE = ([], 1, 5) := by kernel_rfl
theorem begOp : opF ⟨#[99, 111, 117, 110, 116]⟩ = 4 := by kernel_rfl
theorem zir : zbd 4 = ⟨#[99, 111, 117, 110, 116]⟩ := by kernel_rfl
theorem begQ : zdF [97, 34, 10] = [34, 97, 92, 34, 92, 110, 34] := by kernel_rfl
theorem zkB : zcN begX = "x = select \"q\\n\" a;".toUTF8.data.toList := by kernel_rfl

def bB : ByteArray := ⟨#[98]⟩
def bA : ByteArray := ⟨#[97]⟩
theorem zds : zae [] = [] := by simp [zae]
theorem zdT (x : ByteArray) : zae [x] = [x] := by
 unfold zae; rw [zn3, zn4, List.mergeSort_singleton]; rfl
theorem ze0 : zae [⟨#[98]⟩, ⟨#[97]⟩] = [⟨#[97]⟩, ⟨#[98]⟩] := by
 unfold zae; show List.map mk (List.mergeSort [[98], [97]] _) = _
 simp [List.mergeSort, List.MergeSort.Internal.splitInTwo, List.merge]
 first | done | decide
theorem zhS : zae [⟨#[97]⟩, ⟨#[98]⟩] = [⟨#[97]⟩, ⟨#[98]⟩] := by
 unfold zae; show List.map mk (List.mergeSort [[97], [98]] _) = _
 simp [List.mergeSort, List.MergeSort.Internal.splitInTwo, List.merge]
 first | done | decide
theorem ziG : zcW ⟨#[114]⟩ [⟨#[97]⟩, ⟨#[98]⟩] [⟨#[120]⟩] [] begX = "rule r {\n  in a, b;\n  out x;\n  x = select \"q\\n\" a;\n}\n".toUTF8.data.toList := by
 unfold zcW zcB; rw [zhS, zdT, zds]; kernel_rfl
theorem begSmall : zfy ⟨#[114]⟩ [⟨#[97]⟩, ⟨#[98]⟩] [⟨#[120]⟩] [] begX := by
 constructor
 . decide
 . decide
 . decide
 . decide
 . rw [zhS]; decide
 . rw [zdT]; decide
 . rw [zds]; decide
 . decide
 . decide
 . decide
 . intro y hy
   obtain rfl : y = ⟨#[113, 10]⟩ := by simpa [begX] using hy
   refine ⟨by decide, fun c hc => ?_⟩
   have : c = 113 \/ c = 10 := by simpa using hc
   rcases this with rfl | rfl
   . right; right; decide
   . left; rfl
 . decide

end Go.Proofs.YtdpgdnpddndeoaaGreatDoor.X

namespace Go.Proofs.YtdpgdnpddndeoaaGreatDoor.X
open Go.RowKit Go.Maps Go.Proofs.YtdpgdnpddndeoaaGreatDoorW.PrintWords Go.Proofs.YtdpgdnpddndeoaaGreatDoorW.PrintMore Go.Proofs.YtdpgdnpddndeoaaGreatDoorW.PrintLast
theorem zh9 (w : World) (hG : GOK w) : Calls Tryz.prog 112 #[] w (zci w) := by
 have hB := shipwrightlaw1_begun.calls true w hG rfl; clear hG; go_enter Tryz.func112, Tryz.ntmps112
 go_wp2_with fail; refine hB.mono ?_; rintro e w2 ⟨rfl, hb2⟩; go_wp2_with fail; go_ret
 exact ⟨rfl, hb2⟩

theorem zkc (w : World) : Calls Tryz.prog 113 #[.string ⟨#[97, 34, 10]⟩] w fun e w' => e = .returned (.string ⟨#[34, 97, 92, 34, 92, 110, 34]⟩) /\ Below w.heap.size w w' := by
 have h := zg0 ⟨#[97, 34, 10]⟩ (by decide) (fun c hc => by
  have : c = 97 \/ c = 34 \/ c = 10 := by simpa using hc
  rcases this with rfl | rfl | rfl
  . right; right; decide
  . right; right; decide
  . left; rfl) w
 rw [show zdF (⟨#[97, 34, 10]⟩ : ByteArray).data.toList = _ from begQ] at h
 exact h
def begR : zai := ⟨⟨#[114]⟩, [⟨#[98]⟩, ⟨#[97]⟩], [⟨#[120]⟩], [], [begX]⟩
def zeT : zai := ⟨⟨#[114]⟩, [⟨#[97]⟩, ⟨#[98]⟩], [⟨#[120]⟩], [], [begX]⟩
theorem zmY (A : Option Addr) (c : Nat) (w : World) (hG : GOK w) (h : Kd.C k45 w A 1 [begR]) :
 Calls Tryz.prog 114 #[.slice A 1 c] w fun e w' => e = .returned (.string ⟨#[114, 117, 108, 101, 32, 114, 32, 123, 10, 32, 32, 105, 110, 32, 97, 44, 32, 98, 59, 10, 32, 32, 111, 117, 116, 32, 120, 59, 10, 32, 32, 120, 32, 61, 32, 115, 101, 108, 101, 99, 116, 32, 34, 113, 92, 110, 34, 32, 97, 59, 10, 125, 10]⟩) /\ Below w.heap.size w w' := by
 have hc := zm0 ⟨#[114]⟩ [⟨#[98]⟩, ⟨#[97]⟩] [⟨#[120]⟩] [] begX A c w hG h (by decide) (by decide) (by decide) (by rw [ze0, zdT, zds]; exact begSmall)
 rw [ze0, zdT, zds, ziG] at hc; rw [show mk "rule r {\n  in a, b;\n  out x;\n  x = select \"q\\n\" a;\n}\n".toUTF8.data.toList = ⟨#[114, 117, 108, 101, 32, 114, 32, 123, 10, 32, 32, 105, 110, 32, 97, 44, 32, 98, 59, 10, 32, 32, 111, 117, 116, 32, 120, 59, 10, 32, 32, 120, 32, 61, 32, 115, 101, 108, 101, 99, 116, 32, 34, 113, 92, 110, 34, 32, 97, 59, 10, 125, 10]⟩ from by kernel_rfl] at hc
 exact hc
theorem zgz (A : Option Addr) (c : Nat) (w : World) (h : Kd.C k45 w A 1 [begR]) :
 Calls Tryz.prog 118 #[.slice A 1 c] w fun e w' => ∃ X d, e = .returned (.slice X 1 d) /\ Kd.C k45 w' X 1 [zeT] /\ Below w.heap.size w w' := by
 have hc := zia ⟨#[114]⟩ [⟨#[98]⟩, ⟨#[97]⟩] [⟨#[120]⟩] [] begX A c w h (by decide) (by decide) (by decide) (by decide) (by decide)
 rw [ze0, zdT, zds] at hc; refine hc.mono ?_; rintro e w2 ⟨X, d, rfl, hR, hb⟩; obtain ⟨X', d', e', _, hC⟩ := Kd.R_reads hR; injection e' with e1 e2 e3; subst e1 e3; exact ⟨X, d, rfl, hC, hb⟩
theorem zmx (A : Option Addr) (c : Nat) (B : Option Addr) (d : Nat) (w : World) (h : Kd.C k45 w A 1 [zeT]) (h2 : Kd.C k45 w B 1 [zeT]) :
 Calls Tryz.prog 117 #[.slice A 1 c, .slice B 1 d] w (zci w) :=
 zjh ⟨#[114]⟩ [⟨#[97]⟩, ⟨#[98]⟩] [⟨#[120]⟩] [] begX A c B d w h h2
theorem zmm (A2 : Option Addr) (c2 : Nat) (A3 : Option Addr) (c3 : Nat) (w : World) (hG : GOK w) (h2 : Kd.C Kd.string w A2 1 [⟨#[97]⟩]) (h3 : Kd.C Kd.string w A3 1 [⟨#[113, 10]⟩]) :
 Calls Tryz.prog 119 #[.agg #[.string ⟨#[120]⟩, .int .i64 7, .slice A2 1 c2, .slice A3 1 c3, .int .i64 0]] w fun e w' => e = .returned (.string ⟨#[120, 32, 61, 32, 115, 101, 108, 101, 99, 116, 32, 34, 113, 92, 110, 34, 32, 97, 59]⟩) /\ Below w.heap.size w w' := by
 have hc := zh6 begX A2 c2 A3 c3 w hG h2 h3 begSmall.s1 begSmall.sp begSmall.s2 begSmall.s3 (Nat.le_trans begSmall.sj (by omega))
 rw [zkB] at hc; rw [show mk "x = select \"q\\n\" a;".toUTF8.data.toList = ⟨#[120, 32, 61, 32, 115, 101, 108, 101, 99, 116, 32, 34, 113, 92, 110, 34, 32, 97, 59]⟩ from by kernel_rfl] at hc
 exact hc
theorem ze6 (ad : Addr) (n : Nat) (hn : 0 < n) : ad.add n = ⟨ad.block, ad.off + n, none⟩ := by
 have := at_next ad n hn (m := 0); simpa using this
theorem zkq (w : World) (hG : GOK w) : Calls Tryz.prog 75 #[] w (zci w) := by
 have HG := znl hG; clear hG; have hF := fun W hW => zfR ⟨begS.toArray⟩ W hW
 rw [show zbS (⟨begS.toArray⟩ : ByteArray).data.toList = _ from ziE] at hF
 have hX := fun W hW => zfR ⟨begE.toArray⟩ W hW
 rw [show zbS (⟨begE.toArray⟩ : ByteArray).data.toList = _ from zlF] at hX
 have hA := fun W => zhJ ⟨#[97, 32, 34, 92, 120, 52, 49, 34, 32, 59]⟩ (by decide) W
 rw [show allR (allF (⟨#[97, 32, 34, 92, 120, 52, 49, 34, 32, 59]⟩ : ByteArray).data.toList) = _ from zi0] at hA
 go_enter Tryz.func75, Tryz.ntmps75
 go_wp2_with fail; refine (hA _).mono ?_; rintro e w1 ⟨v, rfl, hR, hb1⟩; obtain ⟨A, c, rfl, _, hr1⟩ := Kd.R_reads hR; have hE1 := zao w1 (.cells #[.int .i64 0, .int .i64 0] 133); have hb2 := (zno w1.heap.size w1).alloc (znp _) (.cells #[.int .i64 0, .int .i64 0] 133); have hr2 := Kd.C_below hr1 hb2; replace hb2 := zad hb1 hb1.size hb2
 have HE2 := znl hE1; have HR2 := znl hr2; have HB2 := znl hb2; clear hA hR hb1 hr1 hE1 hr2 hb2; go_wp2_with fail; generalize w1.alloc (.cells #[.int .i64 0, .int .i64 0] 133) = w2 at HE2 HR2 HB2 |-; generalize w1.heap.size = E1 at HE2 |-; refine (hF _ (HG.out.below HB2.out)).mono ?_; rintro e w3 ⟨v, rfl, hR, hb3⟩; obtain ⟨AR, cR, rfl, _, hr3⟩ := Kd.R_reads hR; have hE3 := zao w3 (.cells #[.int .i64 0, .int .i64 0] 133); have hb4 := (zno w3.heap.size w3).alloc (znp _) (.cells #[.int .i64 0, .int .i64 0] 133); have HE4a := znl (zav (zah HE2.out hb3) (.cells #[.int .i64 0, .int .i64 0] 133)); have HR4a := znl (Kd.C_below (Kd.C_below HR2.out hb3) hb4); have HR4b := znl (Kd.C_below hr3 hb4); have HE4b := znl hE3; have HB4 := znl (zad (zad HB2.out HB2.out.size hb3) (zad HB2.out HB2.out.size hb3).size hb4); clear hF hR hb3 hr3 hE3 hb4 HE2 HR2 HB2; go_wp2_with fail; generalize w3.alloc (.cells #[.int .i64 0, .int .i64 0] 133) = w4 at HE4a HE4b HR4a HR4b HB4 |-; generalize w3.heap.size = E2 at HE4b |-; refine (hX _ (HG.out.below HB4.out)).mono ?_; rintro e w5 ⟨v, rfl, hR, hb5⟩; obtain ⟨AX, cX, rfl, _, _⟩ := Kd.R_reads hR; have hE5 := zao w5 (.cells #[.int .i64 1, .int .i64 5] 133); have hb6 := (zno w5.heap.size w5).alloc (znp _) (.cells #[.int .i64 1, .int .i64 5] 133); have HE6a := znl (zav (zah HE4a.out hb5) (.cells #[.int .i64 1, .int .i64 5] 133)); have HE6b := znl (zav (zah HE4b.out hb5) (.cells #[.int .i64 1, .int .i64 5] 133)); have HR6a := znl (Kd.C_below (Kd.C_below HR4a.out hb5) hb6); have HR6b := znl (Kd.C_below (Kd.C_below HR4b.out hb5) hb6); have HE6c := znl hE5; have HB6 := znl (zad (zad HB4.out HB4.out.size hb5) (zad HB4.out HB4.out.size hb5).size hb6); clear hX hR hb5 hE5 hb6 HE4a HE4b HR4a HR4b HB4; obtain ⟨ad, A1, c1, A2, c2, A3, c3, A4, c4, rfl, -, -, -, hA4, m0, m1, m2, m3, m4⟩ := zdA HR6b.out; obtain ⟨bd, B2, d2, B3, d3, rfl, -, hB3, n0, n1, n2, n3, n4⟩ := zdy hA4; have m4' : (w5.alloc (.cells #[.int .i64 1, .int .i64 5] 133)).cell? ⟨ad.block, ad.off + 4, none⟩ = some (.slice (some bd) 1 c4) := m4; have n3' : (w5.alloc (.cells #[.int .i64 1, .int .i64 5] 133)).cell? ⟨bd.block, bd.off + 3, none⟩ = some (.slice B3 1 d3) := n3; have HB7 := fun W (hW : Below (w5.alloc (.cells #[.int .i64 1, .int .i64 5] 133)).heap.size (w5.alloc (.cells #[.int .i64 1, .int .i64 5] 133)) W) => zh9 W
 clear m0 m1 m2 m3 m4 n0 n1 n2 n3 n4 hA4 hB3 HB7; go_wp2_with fail; generalize w5.alloc (.cells #[.int .i64 1, .int .i64 5] 133) = w6 at HE6a HE6b HE6c HR6a HR6b HB6 m4' n3' |-; generalize w5.heap.size = E3 at HE6c |-; clear m4' n3'; refine (zh9 _ (HG.out.below HB6.out)).mono ?_; rintro e w7 ⟨rfl, hb7⟩; have HE7a := znl (zah HE6a.out hb7); have HE7b := znl (zah HE6b.out hb7); have HE7c := znl (zah HE6c.out hb7); have HR7a := znl (Kd.C_below HR6a.out hb7); have HR7b := znl (Kd.C_below HR6b.out hb7); have HB7 := znl (zad HB6.out HB6.out.size hb7); clear hb7 HE6a HE6b HE6c HR6a HR6b HB6; obtain ⟨aw, rfl, p10, _, p12⟩ := zfd HR7a.out 1 (by simp) (by simp)
 obtain ⟨aw2, e2, _, p21, _⟩ := zfd HR7a.out 2 (by simp) (by simp)
 obtain rfl := znU e2; obtain ⟨aw3, e3, p30, _, _⟩ := zfd HR7a.out 3 (by simp) (by simp)
 obtain rfl := znU e3; clear e2 e3; rw [show (1 : Int).toNat * 3 = 3 from rfl, ze6 _ 3 (by decide)] at p10 p12
 rw [show (2 : Int).toNat * 3 = 6 from rfl, ze6 _ 6 (by decide)] at p21
 rw [show (3 : Int).toNat * 3 = 9 from rfl, ze6 _ 9 (by decide)] at p30
 replace p10 : w7.cell? ⟨aw.block, aw.off + 3, none⟩ = some (.int .i64 2) := p10
 replace p12 : w7.cell? ⟨aw.block, aw.off + 3 + 2, none⟩ = some (.string ⟨#[65]⟩) := p12
 replace p21 : w7.cell? ⟨aw.block, aw.off + 6 + 1, none⟩ = some (.int .i64 9) := p21
 replace p30 : w7.cell? ⟨aw.block, aw.off + 9, none⟩ = some (.int .i64 4) := p30
 have k1 : w7.cell? ⟨E1, 0, none⟩ = some (.int .i64 0) := (zaa HE7a.out 0).trans rfl; go_wp2_with fail; refine (zkc _).mono ?_; rintro e w8 ⟨rfl, hb8⟩; have HE8b := znl (zah HE7b.out hb8); have HE8c := znl (zah HE7c.out hb8); have HR8b := znl (Kd.C_below HR7b.out hb8); have HB8 := znl (zad HB7.out HB7.out.size hb8); clear hb8 HE7a HE7b HE7c HR7a HR7b HB7 p10 p12 p21 p30 k1; have hw : ∃ A1 c1 bd c4 B3 d3, w8.cell? ⟨ad.block, ad.off + 1, none⟩ = some (.slice A1 2 c1) /\ w8.cell? ⟨ad.block, ad.off + 4, none⟩ = some (.slice (some bd) 1 c4) /\ w8.cell? ⟨bd.block, bd.off + 3, none⟩ = some (.slice (some B3) 1 d3) /\ w8.cell? B3 = some (.string ⟨#[113, 10]⟩) := by
  obtain ⟨ad', A1, c1, A2, c2, A3, c3, A4, c4, e', -, -, -, hA4, m0, m1, m2, m3, m4⟩ := zdA HR8b.out; obtain rfl := znU e'; obtain ⟨bd, B2, d2, B3, d3, rfl, -, hB3, n0, n1, n2, n3, n4⟩ := zdy hA4; obtain ⟨B, cs, rfl, hcl, hK, hcell⟩ := Kd.C_get hB3 (⟨#[113, 10]⟩ : ByteArray) 0 (by decide) (by decide)
  refine ⟨A1, c1, bd, c4, B, d3, m1, m4, n3, ?_⟩; have := hcell 0 _ (show cs[0]? = some (.string ⟨#[113, 10]⟩) from by rw [show cs = [.string ⟨#[113, 10]⟩] from hK]; rfl)
  rwa [zc4] at this
 obtain ⟨A1, c1, bd, c4, B3, d3, m1, m4, n3, n30⟩ := hw; have k20 : w8.cell? ⟨E2, 0, none⟩ = some (.int .i64 0) := (zaa HE8b.out 0).trans rfl; have k30 : w8.cell? ⟨E3, 0, none⟩ = some (.int .i64 1) := (zaa HE8c.out 0).trans rfl; have k31 : w8.cell? ⟨E3, 1, none⟩ = some (.int .i64 5) := (zaa HE8c.out 1).trans rfl; go_wp2_with fail; refine (zmY _ _ _ (HG.out.below HB8.out) HR8b.out).mono ?_; rintro e w9 ⟨rfl, hb9⟩; have HR9 := znl (Kd.C_below HR8b.out hb9); have HB9 := znl (zad HB8.out HB8.out.size hb9); clear hb9 HE8b HE8c HR8b HB8 m1 m4 n3 n30 k20 k30 k31; go_wp2_with fail; refine (zfD _ _).mono ?_; rintro e w10 ⟨rfl, hw⟩; rw [begOp]; have hb10 : Below w9.heap.size w9 w10 := by rw [hw]; exact (zno _ _).alloc (znp _) _
 have HR10 := znl (Kd.C_below HR9.out hb10); have HB10 := znl (zad HB9.out HB9.out.size hb10); clear hw hb10 HR9 HB9; go_wp2_with fail; refine (zha _ _).mono ?_; rintro e w11 ⟨rfl, hb11⟩; rw [zir]; have HR11 := znl (Kd.C_below HR10.out hb11); have HB11 := znl (zad HB10.out HB10.out.size hb11); clear hb11 HR10 HB10; go_wp2_with fail; refine (zgz _ _ _ HR11.out).mono ?_; rintro e w12 ⟨X, dX, rfl, hX, hb12⟩; have HR12 := znl (Kd.C_below HR11.out hb12); have HX12 := znl hX; have HB12 := znl (zad HB11.out HB11.out.size hb12); clear hb12 hX HR11 HB11; go_wp2_with fail; refine (zgz _ _ _ HR12.out).mono ?_; rintro e w13 ⟨Y, dY, rfl, hY, hb13⟩; have HR13 := znl (Kd.C_below HR12.out hb13); have HX13 := znl (Kd.C_below HX12.out hb13); have HY13 := znl hY; have HB13 := znl (zad HB12.out HB12.out.size hb13); clear hb13 hY HR12 HX12 HB12; go_wp2_with fail; refine (zmx _ _ _ _ _ HX13.out HY13.out).mono ?_; rintro e w14 ⟨rfl, hb14⟩; have HR14 := znl (Kd.C_below HR13.out hb14); have HB14 := znl (zad HB13.out HB13.out.size hb14); clear hb14 HR13 HX13 HY13 HB13; have hw : ∃ bd c4 B2 d2 B3 d3, w14.cell? ⟨ad.block, ad.off + 4, none⟩ = some (.slice (some bd) 1 c4) /\ w14.cell? bd = some (.string ⟨#[120]⟩) /\ w14.cell? ⟨bd.block, bd.off + 1, none⟩ = some (.int .i64 7) /\ w14.cell? ⟨bd.block, bd.off + 2, none⟩ = some (.slice B2 1 d2) /\ w14.cell? ⟨bd.block, bd.off + 3, none⟩ = some (.slice B3 1 d3) /\ w14.cell? ⟨bd.block, bd.off + 4, none⟩ = some (.int .i64 0) /\ Kd.C Kd.string w14 B2 1 [⟨#[97]⟩] /\ Kd.C Kd.string w14 B3 1 [⟨#[113, 10]⟩] := by
  obtain ⟨ad', A1, c1, A2, c2, A3, c3, A4, c4, e', -, -, -, hA4, m0, m1, m2, m3, m4⟩ := zdA HR14.out; obtain rfl := znU e'; obtain ⟨bd, B2, d2, B3, d3, rfl, hB2, hB3, n0, n1, n2, n3, n4⟩ := zdy hA4; exact ⟨bd, c4, B2, d2, B3, d3, m4, n0, n1, n2, n3, n4, hB2, hB3⟩
 obtain ⟨bd, c4, B2, d2, B3, d3, m4, n0, n1, n2, n3, n4, hB2, hB3⟩ := hw; have hS := zmm B2 d2 B3 d3 w14 (HG.out.below HB14.out) hB2 hB3; clear hB2 hB3; go_wp2_with fail; refine hS.mono ?_; rintro e w15 ⟨rfl, hb15⟩; have HB15 := znl (zad HB14.out HB14.out.size hb15); clear hb15; go_wp2_with fail; go_ret
 exact ⟨rfl, HB15.out⟩

theorem zcw {α : Type} (d : Kd α) (w : World) : Kd.C d w none 0 [] := ⟨rfl, Nat.zero_le _, fun hp => absurd hp (Nat.lt_irrefl _)⟩
theorem zcd (W : World) (l : List ByteArray) (hl : l.length <= 1000) : Kd.C Kd.string (W.alloc (.cells (l.map Value.string).toArray 9)) (some ⟨W.heap.size, 0, none⟩) l.length l :=
 zbI Kd.string W 9 l (l.map Value.string) (Kd.reps_scalar l) (by omega)
theorem zaF (W : World) (o : Obj) : Below W.heap.size W (W.alloc o) := (zno _ _).alloc (znp _) o
def stepV (x : zay) (A : Option Addr) : List Value := [.string x.f0, .int .i64 x.f1, .slice A x.f2.length x.f2.length, .slice none 0 0, .int .i64 x.f4]
theorem zdU (W : World) (x : zay) (A : Option Addr) (h3 : x.f3 = []) (h : Kd.C Kd.string W A x.f2.length x.f2) : Kd.K k24 W x (stepV x A) := by
 have := zm1 W x (znp x.f2.length) h (A3 := none) (c3 := 0) (by rw [h3]; exact znp _) (by rw [h3]; exact zcw Kd.string W)
 rw [h3] at this; exact this
def zeq (s : Nat) : Array Value := #[.string ⟨#[116]⟩, .int .i64 3, .slice (some ⟨s + 1 + 1, 0, none⟩) 1 1, .slice none 0 0, .int .i64 0, .string ⟨#[120]⟩, .int .i64 4, .slice (some ⟨s + 1 + 1 + 1, 0, none⟩) 1 1, .slice none 0 0, .int .i64 0, .string ⟨#[121]⟩, .int .i64 2, .slice (some ⟨s + 1 + 1 + 1 + 1, 0, none⟩) 1 1, .slice none 0 0, .int .i64 0]
def r7W (w : World) : World := (((((w.alloc (.cells #[.string ⟨#[97]⟩, .string ⟨#[98]⟩] 9)).alloc (.cells #[.string ⟨#[120]⟩, .string ⟨#[121]⟩] 9)).alloc (.cells #[.string ⟨#[97]⟩] 9)).alloc (.cells #[.string ⟨#[116]⟩] 9)).alloc (.cells #[.string ⟨#[98]⟩] 9)).alloc (.cells (zeq w.heap.size) 24)
theorem zbD (w : World) (o : Obj) : (w.alloc o).heap.size = w.heap.size + 1 := by simp
theorem zni (w : World) : RuleAt R7 (some ⟨w.heap.size, 0, none⟩) (some ⟨w.heap.size + 1, 0, none⟩) none (some ⟨w.heap.size + 1 + 1 + 1 + 1 + 1, 0, none⟩) (r7W w) /\ Below w.heap.size w (r7W w) /\ (r7W w).heap.size = w.heap.size + 1 + 1 + 1 + 1 + 1 + 1 := by
 obtain ⟨wA, hA⟩ : ∃ wA, wA = w.alloc (.cells #[.string ⟨#[97]⟩, .string ⟨#[98]⟩] 9) := ⟨_, rfl⟩; obtain ⟨wB, hB⟩ : ∃ wB, wB = wA.alloc (.cells #[.string ⟨#[120]⟩, .string ⟨#[121]⟩] 9) := ⟨_, rfl⟩; obtain ⟨wC, hC⟩ : ∃ wC, wC = wB.alloc (.cells #[.string ⟨#[97]⟩] 9) := ⟨_, rfl⟩; obtain ⟨wD, hD⟩ : ∃ wD, wD = wC.alloc (.cells #[.string ⟨#[116]⟩] 9) := ⟨_, rfl⟩; obtain ⟨wE, hE⟩ : ∃ wE, wE = wD.alloc (.cells #[.string ⟨#[98]⟩] 9) := ⟨_, rfl⟩; have e : r7W w = wE.alloc (.cells (zeq w.heap.size) 24) := by rw [hE, hD, hC, hB, hA]; rfl
 have sA : wA.heap.size = w.heap.size + 1 := by rw [hA, zbD]
 have sB : wB.heap.size = w.heap.size + 1 + 1 := by rw [hB, zbD, sA]
 have sC : wC.heap.size = w.heap.size + 1 + 1 + 1 := by rw [hC, zbD, sB]
 have sD : wD.heap.size = w.heap.size + 1 + 1 + 1 + 1 := by rw [hD, zbD, sC]
 have sE : wE.heap.size = w.heap.size + 1 + 1 + 1 + 1 + 1 := by rw [hE, zbD, sD]
 have bA : Below w.heap.size w wA := by rw [hA]; exact zaF w _
 have bB : Below wA.heap.size wA wB := by rw [hB]; exact zaF wA _
 have bC : Below wB.heap.size wB wC := by rw [hC]; exact zaF wB _
 have bD : Below wC.heap.size wC wD := by rw [hD]; exact zaF wC _
 have bE : Below wD.heap.size wD wE := by rw [hE]; exact zaF wD _
 have bF : Below wE.heap.size wE (r7W w) := by rw [e]; exact zaF wE _
 have cA : Kd.C Kd.string wA (some ⟨w.heap.size, 0, none⟩) 2 [⟨#[97]⟩, ⟨#[98]⟩] := by rw [hA]; exact zcd w [⟨#[97]⟩, ⟨#[98]⟩] (by decide)
 have cB : Kd.C Kd.string wB (some ⟨w.heap.size + 1, 0, none⟩) 2 [⟨#[120]⟩, ⟨#[121]⟩] := by rw [hB, <- sA]; exact zcd wA [⟨#[120]⟩, ⟨#[121]⟩] (by decide)
 have cC : Kd.C Kd.string wC (some ⟨w.heap.size + 1 + 1, 0, none⟩) 1 [⟨#[97]⟩] := by rw [hC, <- sB]; exact zcd wB [⟨#[97]⟩] (by decide)
 have cD : Kd.C Kd.string wD (some ⟨w.heap.size + 1 + 1 + 1, 0, none⟩) 1 [⟨#[116]⟩] := by rw [hD, <- sC]; exact zcd wC [⟨#[116]⟩] (by decide)
 have cE : Kd.C Kd.string wE (some ⟨w.heap.size + 1 + 1 + 1 + 1, 0, none⟩) 1 [⟨#[98]⟩] := by rw [hE, <- sD]; exact zcd wD [⟨#[98]⟩] (by decide)
 have cF : Kd.C k24 (r7W w) (some ⟨w.heap.size + 1 + 1 + 1 + 1 + 1, 0, none⟩) 3 R7.f4 := by
  rw [e, <- sE]; refine zbI k24 wE 24 R7.f4 (zeq w.heap.size).toList ?_ (by decide)
  exact Reps.snoc (Reps.snoc (Reps.snoc (Reps.none _ _) (zdU wE ⟨⟨#[116]⟩, 3, [⟨#[97]⟩], [], 0⟩ _ rfl (Kd.C_below (Kd.C_below cC bD) bE)) rfl) (zdU wE ⟨⟨#[120]⟩, 4, [⟨#[116]⟩], [], 0⟩ _ rfl (Kd.C_below cD bE)) rfl) (zdU wE ⟨⟨#[121]⟩, 2, [⟨#[98]⟩], [], 0⟩ _ rfl cE) rfl
 refine ⟨⟨Kd.C_below (Kd.C_below (Kd.C_below (Kd.C_below (Kd.C_below cA bB) bC) bD) bE) bF, Kd.C_below (Kd.C_below (Kd.C_below (Kd.C_below cB bC) bD) bE) bF, zcw Kd.string _, cF⟩, ?_, by rw [e, zbD, sE]⟩
 exact zad (zad (zad (zad (zad bA (by omega) bB) (by omega) bC) (by omega) bD) (by omega) bE) (by omega) bF

theorem fit7 : FitR R7 := ⟨by decide, by decide, by decide, by decide, by decide, by decide⟩
theorem fitS : FitR S7 := ⟨by decide, by decide, by decide, by decide, by decide, by decide⟩
theorem fits1 : zcc [R7] := ⟨by decide, fun r hr => by rw [zoF.1 hr]; exact ⟨fit7, by decide, by decide, fun x hx => by cases hx⟩⟩
theorem fits2 : zcc [S7, R7] := ⟨by decide, fun r hr => by
 rcases zow.1 hr with rfl | hr
 . exact ⟨fitS, by decide, by decide, fun x hx => by cases hx⟩
 . rw [zoF.1 hr]; exact ⟨fit7, by decide, by decide, fun x hx => by cases hx⟩⟩
theorem mean7 : Mean [R7] rk7 := by
 refine ⟨fits1, fun r hr o ho => ?_, fun r hr o ho i hi => ?_⟩
 . rw [zoF.1 hr] at ho |-
   have ho' : o ∈ [(⟨#[120]⟩ : ByteArray), ⟨#[121]⟩] := ho; rcases zow.1 ho' with rfl | ho'
   . rfl
   . rw [zoF.1 ho']; rfl
 . rw [zoF.1 hr] at ho hi
   have ho' : o ∈ [(⟨#[120]⟩ : ByteArray), ⟨#[121]⟩] := ho; have hi' : i ∈ [(⟨#[97]⟩ : ByteArray), ⟨#[98]⟩] := hi; rcases zow.1 ho' with rfl | ho' <;> rcases zow.1 hi' with rfl | hi'
   . decide
   . rw [zoF.1 hi']; decide
   . rw [zoF.1 ho']; decide
   . rw [zoF.1 hi', zoF.1 ho']; decide
theorem ze8 (W : World) (l : List SVal) (hl : l.length <= 1000) : Kd.C k34 (W.alloc (.cells (l.flatMap fun v => [Value.bool v.f0, .string v.f1]).toArray 34)) (some ⟨W.heap.size, 0, none⟩) l.length l := by
 refine zbI k34 W 34 l _ ?_ (by omega)
 clear hl; have key : ∀ (l a : List SVal) (cs : List Value), Reps (Kd.K k34 W) 2 a cs -> Reps (Kd.K k34 W) 2 (a ++ l) (cs ++ l.flatMap fun v => [Value.bool v.f0, .string v.f1]) := by
  intro l; induction l with
  | nil => intro a cs h; simpa using h
  | cons v r ih =>
   intro a cs h; have := ih (a ++ [v]) (cs ++ [.bool v.f0, .string v.f1]) (Reps.snoc h (zfj W v) rfl); rw [List.append_assoc, List.append_assoc] at this; exact this
 exact key l [] [] (Reps.none _ _)

theorem zgQ {B1 B2 B4 : Option Addr} {W : World} (h : RuleAt R7 B1 B2 none B4 W) : Kd.K k45 W R7 [.string ⟨#[114]⟩, .slice B1 2 2, .slice B2 2 2, .slice none 0 0, .slice B4 3 3] :=
 zgN W R7 (c1 := 2) (by decide) h.h1 (c2 := 2) (by decide) h.h2 (c3 := 0) (by decide) h.h3 (c4 := 3) (by decide) h.h4
theorem zhn {B1 B2 B4 : Option Addr} {W : World} (h : RuleAt R7 B1 B2 none B4 W) : Kd.C k45 (W.alloc (.cells #[.string ⟨#[114]⟩, .slice B1 2 2, .slice B2 2 2, .slice none 0 0, .slice B4 3 3] 45)) (some ⟨W.heap.size, 0, none⟩) 1 [R7] :=
 zbI k45 W 45 [R7] [.string ⟨#[114]⟩, .slice B1 2 2, .slice B2 2 2, .slice none 0 0, .slice B4 3 3] (Reps.snoc (Reps.none _ _) (zgQ h) rfl) (by decide)
def zdq (s : Nat) : Array Value := #[.string ⟨#[97]⟩, .int .i64 1, .slice (some ⟨s + 1 + 1, 0, none⟩) 1 1, .slice none 0 0, .int .i64 0]
def s7W (w : World) : World := (((w.alloc (.cells #[.string ⟨#[97]⟩] 9)).alloc (.cells #[.string ⟨#[120]⟩] 9)).alloc (.cells #[.string ⟨#[120]⟩] 9)).alloc (.cells (zdq w.heap.size) 24)
theorem ziv (w : World) : RuleAt S7 (some ⟨w.heap.size + 1, 0, none⟩) (some ⟨w.heap.size, 0, none⟩) none (some ⟨w.heap.size + 1 + 1 + 1, 0, none⟩) (s7W w) /\ Below w.heap.size w (s7W w) /\ (s7W w).heap.size = w.heap.size + 1 + 1 + 1 + 1 := by
 obtain ⟨wA, hA⟩ : ∃ wA, wA = w.alloc (.cells #[.string ⟨#[97]⟩] 9) := ⟨_, rfl⟩; obtain ⟨wB, hB⟩ : ∃ wB, wB = wA.alloc (.cells #[.string ⟨#[120]⟩] 9) := ⟨_, rfl⟩; obtain ⟨wC, hC⟩ : ∃ wC, wC = wB.alloc (.cells #[.string ⟨#[120]⟩] 9) := ⟨_, rfl⟩; have e : s7W w = wC.alloc (.cells (zdq w.heap.size) 24) := by rw [hC, hB, hA]; rfl
 have sA : wA.heap.size = w.heap.size + 1 := by rw [hA, zbD]
 have sB : wB.heap.size = w.heap.size + 1 + 1 := by rw [hB, zbD, sA]
 have sC : wC.heap.size = w.heap.size + 1 + 1 + 1 := by rw [hC, zbD, sB]
 have bA : Below w.heap.size w wA := by rw [hA]; exact zaF w _
 have bB : Below wA.heap.size wA wB := by rw [hB]; exact zaF wA _
 have bC : Below wB.heap.size wB wC := by rw [hC]; exact zaF wB _
 have bF : Below wC.heap.size wC (s7W w) := by rw [e]; exact zaF wC _
 have cA : Kd.C Kd.string wA (some ⟨w.heap.size, 0, none⟩) 1 [⟨#[97]⟩] := by rw [hA]; exact zcd w [⟨#[97]⟩] (by decide)
 have cB : Kd.C Kd.string wB (some ⟨w.heap.size + 1, 0, none⟩) 1 [⟨#[120]⟩] := by rw [hB, <- sA]; exact zcd wA [⟨#[120]⟩] (by decide)
 have cC : Kd.C Kd.string wC (some ⟨w.heap.size + 1 + 1, 0, none⟩) 1 [⟨#[120]⟩] := by rw [hC, <- sB]; exact zcd wB [⟨#[120]⟩] (by decide)
 have cF : Kd.C k24 (s7W w) (some ⟨w.heap.size + 1 + 1 + 1, 0, none⟩) 1 S7.f4 := by
  rw [e, <- sC]; refine zbI k24 wC 24 S7.f4 (zdq w.heap.size).toList ?_ (by decide)
  exact Reps.snoc (Reps.none _ _) (zdU wC ⟨⟨#[97]⟩, 1, [⟨#[120]⟩], [], 0⟩ _ rfl cC) rfl
 refine ⟨⟨Kd.C_below (Kd.C_below cB bC) bF, Kd.C_below (Kd.C_below (Kd.C_below cA bB) bC) bF, zcw Kd.string _, cF⟩, ?_, by rw [e, zbD, sC]⟩
 exact zad (zad (zad bA (by omega) bB) (by omega) bC) (by omega) bF
theorem zj2 (w : World) (hG : GOK w) : Calls Tryz.prog 51 #[] w (zci w) := by
 have h := zkq w hG; go_enter Tryz.func51, Tryz.ntmps51
 go_wp2_with (first | (go_at_call 75; refine h.mono ?_; rintro e w2 ⟨rfl, hb2⟩))
 go_ret
 exact ⟨rfl, hb2⟩
theorem zfL {w : World} {A : Option Addr} {l : List SVal} (h : Kd.C k34 w A l.length l) (hp : 0 < l.length) : ∃ b o, A = some ⟨b, o, none⟩ /\ ∀ i (hi : i < l.length), w.cell? ⟨b, o + i * 2, none⟩ = some (.bool l[i].f0) /\ w.cell? ⟨b, o + i * 2 + 1, none⟩ = some (.string l[i].f1) := by
 obtain ⟨b, o, rfl, _, _⟩ := zdd h 0 hp; refine ⟨b, o, rfl, fun i hi => ?_⟩
 obtain ⟨b', o', e, h0, h1⟩ := zdd h i hi; cases e
 exact ⟨h0, h1⟩
theorem znj (w : World) (hG : GOK w) : Calls Tryz.prog 16 #[] w fun e w' => e = .returned (.bool true) /\ Below w.heap.size w w' := by
 obtain ⟨hR, hB, hS⟩ := zni w; have HX := znl (zao (r7W w) (.cells #[.string ⟨#[114]⟩, .slice (some ⟨w.heap.size, 0, none⟩) 2 2, .slice (some ⟨w.heap.size + 1, 0, none⟩) 2 2, .slice none 0 0, .slice (some ⟨w.heap.size + 1 + 1 + 1 + 1 + 1, 0, none⟩) 3 3] 45)); have HR := znl (hR.below (zaF (r7W w) (.cells #[.string ⟨#[114]⟩, .slice (some ⟨w.heap.size, 0, none⟩) 2 2, .slice (some ⟨w.heap.size + 1, 0, none⟩) 2 2, .slice none 0 0, .slice (some ⟨w.heap.size + 1 + 1 + 1 + 1 + 1, 0, none⟩) 3 3] 45))); have HG := znl hG; rw [hS] at HX; have HB := znl (zad hB hB.size (zaF (r7W w) (.cells #[.string ⟨#[114]⟩, .slice (some ⟨w.heap.size, 0, none⟩) 2 2, .slice (some ⟨w.heap.size + 1, 0, none⟩) 2 2, .slice none 0 0, .slice (some ⟨w.heap.size + 1 + 1 + 1 + 1 + 1, 0, none⟩) 3 3] 45))); clear hR hB hS hG; go_enter Tryz.func16, Tryz.ntmps16
 go_upto_region 2 with fail; unfold r7W zeq at HX HR HB; obtain ⟨w1, hw1⟩ : ∃ w1, w1 = (((((((w.alloc (.cells #[.string ⟨#[97]⟩, .string ⟨#[98]⟩] 9)).alloc (.cells #[.string ⟨#[120]⟩, .string ⟨#[121]⟩] 9)).alloc (.cells #[.string ⟨#[97]⟩] 9)).alloc (.cells #[.string ⟨#[116]⟩] 9)).alloc (.cells #[.string ⟨#[98]⟩] 9)).alloc (.cells #[.string ⟨#[116]⟩, .int .i64 3, .slice (some ⟨w.heap.size + 1 + 1, 0, none⟩) 1 1, .slice none 0 0, .int .i64 0, .string ⟨#[120]⟩, .int .i64 4, .slice (some ⟨w.heap.size + 1 + 1 + 1, 0, none⟩) 1 1, .slice none 0 0, .int .i64 0, .string ⟨#[121]⟩, .int .i64 2, .slice (some ⟨w.heap.size + 1 + 1 + 1 + 1, 0, none⟩) 1 1, .slice none 0 0, .int .i64 0] 24)).alloc (.cells #[.string ⟨#[114]⟩, .slice (some ⟨w.heap.size, 0, none⟩) 2 2, .slice (some ⟨w.heap.size + 1, 0, none⟩) 2 2, .slice none 0 0, .slice (some ⟨w.heap.size + 1 + 1 + 1 + 1 + 1, 0, none⟩) 3 3] 45)) := ⟨_, rfl⟩; rw [<- hw1] at HX HR HB |-; clear hw1; generalize w.heap.size + 1 + 1 + 1 + 1 + 1 + 1 = X at HX |-; generalize (some (⟨w.heap.size, 0, none⟩ : Addr)) = B1 at HX HR |-; generalize (some (⟨w.heap.size + 1, 0, none⟩ : Addr)) = B2 at HX HR |-; generalize (some (⟨w.heap.size + 1 + 1 + 1 + 1 + 1, 0, none⟩ : Addr)) = B4 at HX HR |-; have HCs : Hid (∀ W, Below w1.heap.size w1 W -> W.cell? ⟨X, 0, none⟩ = some (.string ⟨#[114]⟩) /\ W.cell? ⟨X, 1, none⟩ = some (.slice B1 2 2) /\ W.cell? ⟨X, 2, none⟩ = some (.slice B2 2 2) /\ W.cell? ⟨X, 3, none⟩ = some (.slice none 0 0) /\ W.cell? ⟨X, 4, none⟩ = some (.slice B4 3 3)) := znl (fun W hW =>
  ⟨(zaa (zah HX.out hW) 0).trans rfl, (zaa (zah HX.out hW) 1).trans rfl, (zaa (zah HX.out hW) 2).trans rfl, (zaa (zah HX.out hW) 3).trans rfl, (zaa (zah HX.out hW) 4).trans rfl⟩)
 -- run.Of
 have hb2 := zaF w1 (.cells #[.bool true, .string ⟨#[113, 10, 112]⟩, .bool true, .string ⟨#[]⟩] 34); have hv2 : Kd.C k34 (w1.alloc (.cells #[.bool true, .string ⟨#[113, 10, 112]⟩, .bool true, .string ⟨#[]⟩] 34)) (some ⟨w1.heap.size, 0, none⟩) 2 [⟨true, ⟨#[113, 10, 112]⟩⟩, ⟨true, ⟨#[]⟩⟩] := ze8 w1 [⟨true, ⟨#[113, 10, 112]⟩⟩, ⟨true, ⟨#[]⟩⟩] (by decide)
 have hR2 := HR.out.below hb2; have hOf := ze5 R7 B1 2 B2 2 none 0 B4 3 (some ⟨w1.heap.size, 0, none⟩) 2 [⟨true, ⟨#[113, 10, 112]⟩⟩, ⟨true, ⟨#[]⟩⟩] _ ((HG.out.below HB.out).below hb2) hR2.h1 hR2.h2 hR2.h4 hv2 fit7 (by decide)
 rw [sv_of] at hOf; have HOf := znl hOf; have HB2 := znl hb2; obtain ⟨x0, x1, x2, x3, x4⟩ := HCs.out w1 (zno _ _); obtain ⟨y0, y1, y2, y3, y4⟩ := HCs.out _ hb2; clear hb2 hv2 hR2 hOf; go_upto_region 3 with (first | (go_at_call 34; refine HOf.out.mono ?_; rintro e w2 ⟨v2, rfl, hR2, hb2⟩; have HV2 := znl hR2; have HB2 := znl (zad HB2.out HB2.out.size hb2); clear hR2 hb2))
 obtain ⟨V2, d2, he2, _, hC2⟩ := Kd.R_reads HV2.out; replace he2 : v2 = .slice V2 2 d2 := he2
 subst he2; have HV2C : Hid (Kd.C k34 w2 V2 2 [⟨true, ⟨#[50, 10]⟩⟩, ⟨false, ⟨#[]⟩⟩]) := znl hC2
 -- run.Named
 have hb3a := zaF w2 (.cells #[.string ⟨#[98]⟩] 9); have hb3b := hb3a.alloc hb3a.size (.cells #[.bool true, .string ⟨#[122]⟩] 34); have hs3 : (w2.alloc (.cells #[.string ⟨#[98]⟩] 9)).heap.size = w2.heap.size + 1 := zbD _ _; have hv3 : Kd.C k34 ((w2.alloc (.cells #[.string ⟨#[98]⟩] 9)).alloc (.cells #[.bool true, .string ⟨#[122]⟩] 34)) (some ⟨(w2.alloc (.cells #[.string ⟨#[98]⟩] 9)).heap.size, 0, none⟩) 1 [⟨true, ⟨#[122]⟩⟩] := ze8 (w2.alloc (.cells #[.string ⟨#[98]⟩] 9)) [⟨true, ⟨#[122]⟩⟩] (by decide)
 have hi3 : Kd.C Kd.string (w2.alloc (.cells #[.string ⟨#[98]⟩] 9)) (some ⟨w2.heap.size, 0, none⟩) 1 [⟨#[98]⟩] := zcd w2 [⟨#[98]⟩] (by decide)
 rw [hs3] at hv3; have hB3 := zad HB2.out HB2.out.size hb3b; have hR3 := HR.out.below hB3; have hNm := zjy R7 B1 2 B2 2 none 0 B4 3 (some ⟨w2.heap.size, 0, none⟩) 1 [⟨#[98]⟩] (some ⟨w2.heap.size + 1, 0, none⟩) 1 [⟨true, ⟨#[122]⟩⟩] _ ((HG.out.below HB.out).below hB3) hR3.h1 hR3.h2 hR3.h4 (Kd.C_below hi3 (zaF _ _)) hv3 fit7 (by decide)
 rw [zkw] at hNm; have HNm := znl hNm; have HB3 := znl hB3; have HV2C := znl (Kd.C_below HV2C.out hb3b); obtain ⟨x0, x1, x2, x3, x4⟩ := HCs.out _ HB2.out; obtain ⟨y0, y1, y2, y3, y4⟩ := HCs.out _ (zad HB2.out HB2.out.size hb3a); obtain ⟨z0, z1, z2, z3, z4⟩ := HCs.out _ hB3; clear hb3a hb3b hs3 hv3 hi3 hB3 hR3 hNm hC2 HOf; go_upto_region 4 with (first | (go_at_call 36; refine HNm.out.mono ?_; rintro e w3 ⟨v3, rfl, hR3, hb3⟩; have HV3 := znl hR3; have HB3 := znl (zad HB3.out HB3.out.size hb3); have HV2C := znl (Kd.C_below HV2C.out hb3); clear hR3 hb3))
 obtain ⟨V3, d3, he3, _, hC3⟩ := Kd.R_reads HV3.out; replace he3 : v3 = .slice V3 2 d3 := he3
 subst he3; have HV3C : Hid (Kd.C k34 w3 V3 2 [⟨false, ⟨#[]⟩⟩, ⟨true, ⟨#[122]⟩⟩]) := znl hC3; clear hC3
 -- tree.New
 have hr4 : Kd.C k77 (w3.alloc (.cells #[.string ⟨#[97]⟩, .string ⟨#[50, 10, 49]⟩] 77)) (some ⟨w3.heap.size, 0, none⟩) 1 [⟨⟨#[97]⟩, ⟨#[50, 10, 49]⟩⟩] := zbI k77 w3 77 [⟨⟨#[97]⟩, ⟨#[50, 10, 49]⟩⟩] [.string ⟨#[97]⟩, .string ⟨#[50, 10, 49]⟩] (Reps.snoc (Reps.none _ _) (zd1 w3 ⟨⟨#[97]⟩, ⟨#[50, 10, 49]⟩⟩) rfl) (by decide)
 have hb4 := zaF w3 (.cells #[.string ⟨#[97]⟩, .string ⟨#[50, 10, 49]⟩] 77); have hB4 := zad HB3.out HB3.out.size hb4; have hNw := tree_New.calls (some ⟨w3.heap.size, 0, none⟩) 1 [⟨⟨#[97]⟩, ⟨#[50, 10, 49]⟩⟩] _ ((HG.out.below HB.out).below hB4) hr4 (by decide)
 have HNw := znl hNw; have HB4 := znl hB4; have HV2C := znl (Kd.C_below HV2C.out hb4); have HV3C := znl (Kd.C_below HV3C.out hb4); clear hr4 hb4 hB4 hNw HNm; go_upto_region 5 with (first | (go_at_call 48; refine HNw.out.mono ?_; rintro e w4 ⟨gt, bt, rfl, hT4, _, _, hb4⟩; have HT4 := znl hT4; have HB4 := znl (zad HB4.out HB4.out.size hb4); have HV2C := znl (Kd.C_below HV2C.out hb4); have HV3C := znl (Kd.C_below HV3C.out hb4); clear hT4 hb4))
 have HTm : Hid (IsTree w4 gt bt [([97], [50, 10, 49])]) := znl (by have h := HT4.out; rw [show ([⟨⟨#[97]⟩, ⟨#[50, 10, 49]⟩⟩] : List S77).map zcJ = [([97], [50, 10, 49])] from rfl, zku] at h; exact h)
 obtain ⟨x0, x1, x2, x3, x4⟩ := HCs.out _ HB4.out
 -- check.All of the one rule
 have hR4 := HR.out.below HB4.out; have hb5 := zaF w4 (.cells #[.string ⟨#[114]⟩, .slice B1 2 2, .slice B2 2 2, .slice none 0 0, .slice B4 3 3] 45); have hAl := zeK (some ⟨w4.heap.size, 0, none⟩) 1 [R7] _ (((HG.out.below HB.out).below HB4.out).below hb5) (zhn hR4) fits1; rw [zhO] at hAl; have HAl := znl hAl; have HB5 := znl (zad HB4.out HB4.out.size hb5); have HV2C := znl (Kd.C_below HV2C.out hb5); have HV3C := znl (Kd.C_below HV3C.out hb5); have HTm := znl (HTm.out.below hb5); clear hb5 hAl hR4 HNw; go_upto_region 8 with (first | (go_at_call 49; refine HAl.out.mono ?_; rintro e w5 ⟨rfl, hb5⟩; have HB5 := znl (zad HB5.out HB5.out.size hb5); have HV2C := znl (Kd.C_below HV2C.out hb5); have HV3C := znl (Kd.C_below HV3C.out hb5); have HTm := znl (HTm.out.below hb5); clear hb5))
 -- check.All of both rules
 obtain ⟨hS, hbS, hsS⟩ := ziv w5; have hB6 := zad HB5.out HB5.out.size hbS; have hR6 := HR.out.below hB6; have hb6 := zaF (s7W w5) (.cells #[.string ⟨#[115]⟩, .slice (some ⟨w5.heap.size + 1, 0, none⟩) 1 1, .slice (some ⟨w5.heap.size, 0, none⟩) 1 1, .slice none 0 0, .slice (some ⟨w5.heap.size + 1 + 1 + 1, 0, none⟩) 1 1, .string ⟨#[114]⟩, .slice B1 2 2, .slice B2 2 2, .slice none 0 0, .slice B4 3 3] 45); have hrow6 : Kd.C k45 ((s7W w5).alloc (.cells #[.string ⟨#[115]⟩, .slice (some ⟨w5.heap.size + 1, 0, none⟩) 1 1, .slice (some ⟨w5.heap.size, 0, none⟩) 1 1, .slice none 0 0, .slice (some ⟨w5.heap.size + 1 + 1 + 1, 0, none⟩) 1 1, .string ⟨#[114]⟩, .slice B1 2 2, .slice B2 2 2, .slice none 0 0, .slice B4 3 3] 45)) (some ⟨(s7W w5).heap.size, 0, none⟩) 2 [S7, R7] :=
  zbI k45 (s7W w5) 45 [S7, R7] [.string ⟨#[115]⟩, .slice (some ⟨w5.heap.size + 1, 0, none⟩) 1 1, .slice (some ⟨w5.heap.size, 0, none⟩) 1 1, .slice none 0 0, .slice (some ⟨w5.heap.size + 1 + 1 + 1, 0, none⟩) 1 1, .string ⟨#[114]⟩, .slice B1 2 2, .slice B2 2 2, .slice none 0 0, .slice B4 3 3]
   (Reps.snoc (Reps.snoc (Reps.none _ _) (zgN (s7W w5) S7 (c1 := 1) (by decide) hS.h1 (c2 := 1) (by decide) hS.h2 (c3 := 0) (by decide) hS.h3 (c4 := 1) (by decide) hS.h4) rfl) (zgQ hR6) rfl) (by decide)
 rw [hsS] at hrow6; have hAl := zeK (some ⟨w5.heap.size + 1 + 1 + 1 + 1, 0, none⟩) 2 [S7, R7] _ (((HG.out.below HB.out).below hB6).below hb6) hrow6 fits2; rw [zmK] at hAl; have HB6 := znl (zad hB6 hB6.size hb6); have HV2C := znl (Kd.C_below (Kd.C_below HV2C.out hbS) hb6); have HV3C := znl (Kd.C_below (Kd.C_below HV3C.out hbS) hb6); have HTm := znl ((HTm.out.below hbS).below hb6); unfold s7W zdq at hAl HB6 HV2C HV3C HTm; have HAl2 := znl hAl; obtain ⟨u0, u1, u2, u3, u4⟩ := HCs.out _ HB5.out; have HCs6 : Hid (∀ W, Below w5.heap.size w5 W -> W.cell? ⟨X, 0, none⟩ = some (.string ⟨#[114]⟩) /\ W.cell? ⟨X, 1, none⟩ = some (.slice B1 2 2) /\ W.cell? ⟨X, 2, none⟩ = some (.slice B2 2 2) /\ W.cell? ⟨X, 3, none⟩ = some (.slice none 0 0) /\ W.cell? ⟨X, 4, none⟩ = some (.slice B4 3 3)) := znl (fun W hW => HCs.out W (zad HB5.out HB5.out.size hW))
 obtain ⟨p0, p1, p2, p3, p4⟩ := HCs6.out _ hbS; unfold s7W zdq at p0 p1 p2 p3 p4; clear hS hbS hsS hB6 hR6 hb6 hrow6 hAl HAl; go_upto_region 9 with (first | (go_at_call 49; refine HAl2.out.mono ?_; rintro e w6 ⟨rfl, hb6⟩; have HB6 := znl (zad HB6.out HB6.out.size hb6); have HV2C := znl (Kd.C_below HV2C.out hb6); have HV3C := znl (Kd.C_below HV3C.out hb6); have HTm := znl (HTm.out.below hb6); clear hb6))
 -- deno.Files
 clear p0 p1 p2 p3 p4 u0 u1 u2 u3 u4 HAl2; have hR7 := HR.out.below HB6.out; have hrow7 := zhn hR7; have hb7 := zaF w6 (.cells #[.string ⟨#[114]⟩, .slice B1 2 2, .slice B2 2 2, .slice none 0 0, .slice B4 3 3] 45); have hb7b := hb7.alloc hb7.size (.cells #[.string ⟨#[120]⟩, .string ⟨#[97]⟩, .string ⟨#[121]⟩] 9); have hs7 := zbD w6 (.cells #[.string ⟨#[114]⟩, .slice B1 2 2, .slice B2 2 2, .slice none 0 0, .slice B4 3 3] 45); have hnm7 : Kd.C Kd.string ((w6.alloc (.cells #[.string ⟨#[114]⟩, .slice B1 2 2, .slice B2 2 2, .slice none 0 0, .slice B4 3 3] 45)).alloc (.cells #[.string ⟨#[120]⟩, .string ⟨#[97]⟩, .string ⟨#[121]⟩] 9)) (some ⟨(w6.alloc (.cells #[.string ⟨#[114]⟩, .slice B1 2 2, .slice B2 2 2, .slice none 0 0, .slice B4 3 3] 45)).heap.size, 0, none⟩) 3 [⟨#[120]⟩, ⟨#[97]⟩, ⟨#[121]⟩] := zcd _ [⟨#[120]⟩, ⟨#[97]⟩, ⟨#[121]⟩] (by decide)
 rw [hs7] at hnm7; have hB7 := zad HB6.out HB6.out.size hb7b; have hFl := zld [R7] rk7 [([97], [50, 10, 49])] (some ⟨w6.heap.size, 0, none⟩) 1 gt bt (some ⟨w6.heap.size + 1, 0, none⟩) 3 [⟨#[120]⟩, ⟨#[97]⟩, ⟨#[121]⟩] _ ((HG.out.below HB.out).below hB7) (Kd.C_below hrow7 (zaF _ _)) (HTm.out.below hb7b) hnm7 fits1 (fun _ => mean7) (fun k v h => by
  unfold getT at h; by_cases hk : ([97] : zab) == k
  . simp [List.find?_cons, hk] at h
    rw [<- h]; decide
  . simp [List.find?_cons, hk] at h) (by decide) (by decide)
 rw [ziu] at hFl; have HFl := znl hFl; have HB7 := znl hB7; have HV2C := znl (Kd.C_below HV2C.out hb7b); have HV3C := znl (Kd.C_below HV3C.out hb7b); obtain ⟨p0, p1, p2, p3, p4⟩ := HCs.out _ HB6.out; clear hR7 hrow7 hb7 hb7b hs7 hnm7 hB7 hFl; go_upto_region 10 with (first | (go_at_call 50; refine HFl.out.mono ?_; rintro e w7 ⟨v7, rfl, hR7, hb7⟩; have HV7 := znl hR7; have HB7 := znl (zad HB7.out HB7.out.size hb7); have HV2C := znl (Kd.C_below HV2C.out hb7); have HV3C := znl (Kd.C_below HV3C.out hb7); clear hR7 hb7))
 obtain ⟨V7, d7, he7, _, hC7⟩ := Kd.R_reads HV7.out; replace he7 : v7 = .slice V7 3 d7 := he7
 subst he7; have HV7C : Hid (Kd.C k34 w7 V7 3 [⟨true, ⟨#[50, 10]⟩⟩, ⟨true, ⟨#[50, 10, 49]⟩⟩, ⟨false, ⟨#[]⟩⟩]) := znl hC7; clear hC7 p0 p1 p2 p3 p4 HFl; go_upto_region 12 with fail; obtain ⟨b2, o2, rfl, hc2⟩ := zfL HV2C.out (by decide)
 obtain ⟨b3, o3, rfl, hc3⟩ := zfL HV3C.out (by decide)
 obtain ⟨b7, o7, rfl, hc7⟩ := zfL HV7C.out (by decide)
 have HFa : Hid (∀ W, Below w7.heap.size w7 W -> (W.cell? ⟨b2, o2, none⟩ = some (.bool true) /\ W.cell? ⟨b2, o2 + 1, none⟩ = some (.string ⟨#[50, 10]⟩) /\ W.cell? ⟨b2, o2 + 2, none⟩ = some (.bool false) /\ W.cell? ⟨b3, o3, none⟩ = some (.bool false) /\ W.cell? ⟨b3, o3 + 3, none⟩ = some (.string ⟨#[122]⟩)) /\ (W.cell? ⟨b7, o7 + 1, none⟩ = some (.string ⟨#[50, 10]⟩) /\ W.cell? ⟨b7, o7 + 3, none⟩ = some (.string ⟨#[50, 10, 49]⟩) /\ W.cell? ⟨b7, o7 + 4, none⟩ = some (.bool false) /\ W.cell? ⟨b7, o7 + 5, none⟩ = some (.string ⟨#[]⟩)) /\ (W.cell? ⟨X, 0, none⟩ = some (.string ⟨#[114]⟩) /\ W.cell? ⟨X, 1, none⟩ = some (.slice B1 2 2) /\ W.cell? ⟨X, 2, none⟩ = some (.slice B2 2 2) /\ W.cell? ⟨X, 3, none⟩ = some (.slice none 0 0) /\ W.cell? ⟨X, 4, none⟩ = some (.slice B4 3 3))) := znl (fun W hW => by
  refine ⟨⟨?_, ?_, ?_, ?_, ?_⟩, ⟨?_, ?_, ?_, ?_⟩, HCs.out W (zad HB7.out HB7.out.size hW)⟩
  . exact zaf hW (hc2 0 (by decide)).1
  . exact zaf hW (hc2 0 (by decide)).2
  . exact zaf hW (hc2 1 (by decide)).1
  . exact zaf hW (hc3 0 (by decide)).1
  . exact zaf hW (hc3 1 (by decide)).2
  . exact zaf hW (hc7 0 (by decide)).2
  . exact zaf hW (hc7 1 (by decide)).2
  . exact zaf hW (hc7 2 (by decide)).1
  . exact zaf hW (hc7 2 (by decide)).2)
 have HRa : Hid (∀ W, Below w7.heap.size w7 W -> RuleAt R7 B1 B2 none B4 W /\ GOK W) := znl (fun W hW => ⟨HR.out.below (zad HB7.out HB7.out.size hW), (HG.out.below HB.out).below (zad HB7.out HB7.out.size hW)⟩)
 have HBw : Hid (Below w.heap.size w w7) := znl (zad HB.out HB.out.size HB7.out); clear hc2 hc3 hc7; obtain ⟨b4, o4, C2, e2, C3, e3, rfl, t0, t1, t2, t3, t4, g2, g3⟩ := zc7 (HRa.out w7 (zno _ _)).1.h4 0 (by decide)
 have HFs : Hid (∀ W, Below w7.heap.size w7 W -> W.cell? ⟨b4, o4, none⟩ = some (.string ⟨#[116]⟩) /\ W.cell? ⟨b4, o4 + 1, none⟩ = some (.int .i64 3) /\ W.cell? ⟨b4, o4 + 2, none⟩ = some (.slice C2 1 e2) /\ W.cell? ⟨b4, o4 + 3, none⟩ = some (.slice C3 0 e3) /\ W.cell? ⟨b4, o4 + 4, none⟩ = some (.int .i64 0)) := znl (fun W hW => ⟨zaf hW t0, zaf hW t1, zaf hW t2, zaf hW t3, zaf hW t4⟩)
 have HBg : Hid (∀ W, Below w7.heap.size w7 W -> Calls Tryz.prog 51 #[] W fun e w' => e = .returned (.bool true) /\ Below W.heap.size W w') := znl (fun W hW => zj2 W (HRa.out W hW).2)
 have HSt : Hid (∀ W, Below w7.heap.size w7 W -> Calls Tryz.prog 39 #[.agg #[.string ⟨#[114]⟩, .slice B1 2 2, .slice B2 2 2, .slice none 0 0, .slice (some ⟨b4, o4, none⟩) 3 3], .string ⟨#[120]⟩] W fun e w' => ∃ A c, e = .returned (.slice A 2 c) /\ Below W.heap.size W w') := znl (fun W hW => (zlt R7 B1 2 B2 2 none 0 (some ⟨b4, o4, none⟩) 3 ⟨#[120]⟩ W (HRa.out W hW).1 fit7 (by decide)).mono fun e w' ⟨v, he, hv, hb⟩ => by
  obtain ⟨A, c, hv', _, _⟩ := Kd.R_reads hv; exact ⟨A, c, by rw [he, hv', zlI], hb⟩)
 have HRd : Hid (∀ W, Below w7.heap.size w7 W -> Calls Tryz.prog 41 #[.agg #[.string ⟨#[114]⟩, .slice B1 2 2, .slice B2 2 2, .slice none 0 0, .slice (some ⟨b4, o4, none⟩) 3 3], .string ⟨#[120]⟩] W fun e w' => ∃ A c, e = .returned (.slice A 1 c) /\ Below W.heap.size W w') := znl (fun W hW => (zlu R7 B1 2 B2 2 none 0 (some ⟨b4, o4, none⟩) 3 ⟨#[120]⟩ W (HRa.out W hW).1 fit7 (by decide)).mono fun e w' ⟨v, he, hv, hb⟩ => by
  obtain ⟨A, c, hv', _, _⟩ := Kd.R_reads hv; exact ⟨A, c, by rw [he, hv', zn0, zmv]; rfl, hb⟩)
 have HSa : Hid (∀ W, Below w7.heap.size w7 W -> Calls Tryz.prog 43 #[.agg #[.string ⟨#[114]⟩, .slice B1 2 2, .slice B2 2 2, .slice none 0 0, .slice (some ⟨b4, o4, none⟩) 3 3]] W fun e w' => ∃ A c, e = .returned (.slice A 2 c) /\ Below W.heap.size W w') := znl (fun W hW => (zjK R7 B1 2 B2 2 none 0 (some ⟨b4, o4, none⟩) 3 W (HRa.out W hW).1 fit7).mono fun e w' ⟨v, he, hv, hb⟩ => by
  obtain ⟨A, c, hv', _, _⟩ := Kd.R_reads hv; exact ⟨A, c, by rw [he, hv', zn0, zi4]; rfl, hb⟩)
 have HDe : Hid (∀ W, Below w7.heap.size w7 W -> Calls Tryz.prog 44 #[.agg #[.string ⟨#[114]⟩, .slice B1 2 2, .slice B2 2 2, .slice none 0 0, .slice (some ⟨b4, o4, none⟩) 3 3]] W fun e w' => ∃ A c, e = .returned (.slice A 0 c) /\ Below W.heap.size W w') := znl (fun W hW => (zmM R7 B1 2 B2 2 none 0 (some ⟨b4, o4, none⟩) 3 W (HRa.out W hW).1 fit7).mono fun e w' ⟨v, he, hv, hb⟩ => by
  obtain ⟨A, c, hv', _, _⟩ := Kd.R_reads hv; exact ⟨A, c, by rw [he, hv', zla], hb⟩)
 have HEq : Hid (∀ W, Below w7.heap.size w7 W -> Calls Tryz.prog 52 #[.agg #[.bool false, .string ⟨#[]⟩], .agg #[.bool false, .string ⟨#[63]⟩]] W fun e w' => e = .returned (.bool true) /\ Below W.heap.size W w') := znl (fun W _ => zlf ⟨false, ⟨#[]⟩⟩ ⟨false, ⟨#[63]⟩⟩ W)
 have HRu : Hid (∀ W, Below w7.heap.size w7 W -> Calls Tryz.prog 46 #[.agg #[.string ⟨#[114]⟩, .slice B1 2 2, .slice B2 2 2, .slice none 0 0, .slice (some ⟨b4, o4, none⟩) 3 3]] W fun e w' => e = .returned (.int .i64 0) /\ Below W.heap.size W w') := znl (fun W hW => by
  have h := zh8 R7 B1 2 B2 2 none 0 (some ⟨b4, o4, none⟩) 3 W (HRa.out W hW).2 (HRa.out W hW).1 ⟨by decide, by decide, by decide, by decide⟩ (by decide) (by decide)
  rw [zkJ] at h; exact h)
 have HMa : Hid (∀ W, Below w7.heap.size w7 W -> Calls Tryz.prog 20 #[.agg #[.string ⟨#[116]⟩, .int .i64 3, .slice C2 1 e2, .slice C3 0 e3, .int .i64 0]] W fun e w' => e = .returned (.bool true) /\ Below W.heap.size W w') := znl (fun W hW => by
  have h := zfK ⟨⟨#[116]⟩, 3, [⟨#[97]⟩], [], 0⟩ C2 e2 C3 e3 W (Kd.C_below g2 hW) (Kd.C_below g3 hW); rw [zlM] at h; exact h)
 have HLi : Hid (∀ W, Below w7.heap.size w7 W -> Calls Tryz.prog 23 #[.string ⟨#[97, 10, 10, 98]⟩] W fun e w' => ∃ A c, e = .returned (.slice A 3 c) /\ Below W.heap.size W w') := znl (fun W hW => (zet ⟨#[97, 10, 10, 98]⟩ W (HRa.out W hW).2 (by decide)).mono fun e w' ⟨v, he, hv, hb⟩ => by
  obtain ⟨A, c, hv', _, _⟩ := Kd.R_reads hv; exact ⟨A, c, by rw [he, hv', zjl], hb⟩)
 have HX8 : Hid (Below w7.heap.size w7 w7) := znl (zno _ _); obtain ⟨⟨f0, f1, f2, f3, f4⟩, ⟨f5, f6, f7, f8⟩, ⟨f9, f10, f11, f12, f13⟩⟩ := HFa.out _ HX8.out; obtain ⟨s0, s1, s2, s3, s4⟩ := HFs.out _ HX8.out; clear t0 t1 t2 t3 t4 g2 g3; go_wp2_with (first
  | (go_at_call 51; refine (HBg.out _ HX8.out).mono ?_; rintro e w8 ⟨rfl, hb8⟩; have HX8 := znl (zad HX8.out HX8.out.size hb8); clear f0 f1 f2 f3 f4 f5 f6 f7 f8 f9 f10 f11 f12 f13 s0 s1 s2 s3 s4; obtain ⟨⟨f0, f1, f2, f3, f4⟩, ⟨f5, f6, f7, f8⟩, ⟨f9, f10, f11, f12, f13⟩⟩ := HFa.out _ HX8.out; obtain ⟨s0, s1, s2, s3, s4⟩ := HFs.out _ HX8.out; clear hb8)
  | (go_at_call 39; refine (HSt.out _ HX8.out).mono ?_; rintro e w8 ⟨A8, c8, rfl, hb8⟩; have HX8 := znl (zad HX8.out HX8.out.size hb8); clear f0 f1 f2 f3 f4 f5 f6 f7 f8 f9 f10 f11 f12 f13 s0 s1 s2 s3 s4; obtain ⟨⟨f0, f1, f2, f3, f4⟩, ⟨f5, f6, f7, f8⟩, ⟨f9, f10, f11, f12, f13⟩⟩ := HFa.out _ HX8.out; obtain ⟨s0, s1, s2, s3, s4⟩ := HFs.out _ HX8.out; clear hb8)
  | (go_at_call 41; refine (HRd.out _ HX8.out).mono ?_; rintro e w8 ⟨A8, c8, rfl, hb8⟩; have HX8 := znl (zad HX8.out HX8.out.size hb8); clear f0 f1 f2 f3 f4 f5 f6 f7 f8 f9 f10 f11 f12 f13 s0 s1 s2 s3 s4; obtain ⟨⟨f0, f1, f2, f3, f4⟩, ⟨f5, f6, f7, f8⟩, ⟨f9, f10, f11, f12, f13⟩⟩ := HFa.out _ HX8.out; obtain ⟨s0, s1, s2, s3, s4⟩ := HFs.out _ HX8.out; clear hb8)
  | (go_at_call 43; refine (HSa.out _ HX8.out).mono ?_; rintro e w8 ⟨A8, c8, rfl, hb8⟩; have HX8 := znl (zad HX8.out HX8.out.size hb8); clear f0 f1 f2 f3 f4 f5 f6 f7 f8 f9 f10 f11 f12 f13 s0 s1 s2 s3 s4; obtain ⟨⟨f0, f1, f2, f3, f4⟩, ⟨f5, f6, f7, f8⟩, ⟨f9, f10, f11, f12, f13⟩⟩ := HFa.out _ HX8.out; obtain ⟨s0, s1, s2, s3, s4⟩ := HFs.out _ HX8.out; clear hb8)
  | (go_at_call 44; refine (HDe.out _ HX8.out).mono ?_; rintro e w8 ⟨A8, c8, rfl, hb8⟩; have HX8 := znl (zad HX8.out HX8.out.size hb8); clear f0 f1 f2 f3 f4 f5 f6 f7 f8 f9 f10 f11 f12 f13 s0 s1 s2 s3 s4; obtain ⟨⟨f0, f1, f2, f3, f4⟩, ⟨f5, f6, f7, f8⟩, ⟨f9, f10, f11, f12, f13⟩⟩ := HFa.out _ HX8.out; obtain ⟨s0, s1, s2, s3, s4⟩ := HFs.out _ HX8.out; clear hb8)
  | (go_at_call 52; refine (HEq.out _ HX8.out).mono ?_; rintro e w8 ⟨rfl, hb8⟩; have HX8 := znl (zad HX8.out HX8.out.size hb8); clear f0 f1 f2 f3 f4 f5 f6 f7 f8 f9 f10 f11 f12 f13 s0 s1 s2 s3 s4; obtain ⟨⟨f0, f1, f2, f3, f4⟩, ⟨f5, f6, f7, f8⟩, ⟨f9, f10, f11, f12, f13⟩⟩ := HFa.out _ HX8.out; obtain ⟨s0, s1, s2, s3, s4⟩ := HFs.out _ HX8.out; clear hb8)
  | (go_at_call 46; refine (HRu.out _ HX8.out).mono ?_; rintro e w8 ⟨rfl, hb8⟩; have HX8 := znl (zad HX8.out HX8.out.size hb8); clear f0 f1 f2 f3 f4 f5 f6 f7 f8 f9 f10 f11 f12 f13 s0 s1 s2 s3 s4; obtain ⟨⟨f0, f1, f2, f3, f4⟩, ⟨f5, f6, f7, f8⟩, ⟨f9, f10, f11, f12, f13⟩⟩ := HFa.out _ HX8.out; obtain ⟨s0, s1, s2, s3, s4⟩ := HFs.out _ HX8.out; clear hb8)
  | (go_at_call 20; refine (HMa.out _ HX8.out).mono ?_; rintro e w8 ⟨rfl, hb8⟩; have HX8 := znl (zad HX8.out HX8.out.size hb8); clear f0 f1 f2 f3 f4 f5 f6 f7 f8 f9 f10 f11 f12 f13 s0 s1 s2 s3 s4; obtain ⟨⟨f0, f1, f2, f3, f4⟩, ⟨f5, f6, f7, f8⟩, ⟨f9, f10, f11, f12, f13⟩⟩ := HFa.out _ HX8.out; obtain ⟨s0, s1, s2, s3, s4⟩ := HFs.out _ HX8.out; clear hb8)
  | (go_at_call 23; refine (HLi.out _ HX8.out).mono ?_; rintro e w8 ⟨A8, c8, rfl, hb8⟩; have HX8 := znl (zad HX8.out HX8.out.size hb8); clear f0 f1 f2 f3 f4 f5 f6 f7 f8 f9 f10 f11 f12 f13 s0 s1 s2 s3 s4; obtain ⟨⟨f0, f1, f2, f3, f4⟩, ⟨f5, f6, f7, f8⟩, ⟨f9, f10, f11, f12, f13⟩⟩ := HFa.out _ HX8.out; obtain ⟨s0, s1, s2, s3, s4⟩ := HFs.out _ HX8.out; clear hb8))
 go_ret
 exact ⟨rfl, zad HBw.out HBw.out.size HX8.out⟩

end Go.Proofs.YtdpgdnpddndeoaaGreatDoor.X

namespace Go.Proofs.YtdpgdnpddndeoaaGreatDoor.X
theorem zg4 (l : List zab) (k : Nat) (hk : l.length = k) (h6 : k <= 6) (hl : l.flatten.length <= 2000) : doP ⟨5, 0, k, []⟩ (l.map some) = some l.flatten := by
 have hm : mayC ⟨5, 0, k, []⟩ = true := by
  unfold mayC zbl; simp [h6]
 have hmap : (l.map some).map (·.getD []) = l := by rw [List.map_map]; exact List.map_id l
 unfold doP zes; rw [hmap, if_neg (by
  rintro (e | e | e)
  . rw [hm] at e; cases e
  . rw [zn0] at e; exact e hk
  . simp at e)]
 show (if (l.flatten, true).2 = false \/ 2000 < (l.flatten, true).1.length then none else some (l.flatten, true).1) = _
 rw [if_neg (by rintro (e | e); (cases e); (exact absurd hl (Nat.not_le.2 e)))]
end Go.Proofs.YtdpgdnpddndeoaaGreatDoor.X

namespace Go.Proofs.YtdpgdnpddndeoaaGreatDoor.X
open Go.RowKit Go.Maps Go.Proofs.YtdpgdnpddndeoaaGreatDoorW.PrintWords Go.Proofs.YtdpgdnpddndeoaaGreatDoorW.PrintMore Go.Proofs.YtdpgdnpddndeoaaGreatDoorW.PrintLast
theorem ze3 (w3 W : World) (hG : GOK w3) (x : zay) (b2 : Nat) (c2 : Nat) (B3 : Option Addr) (c3 : Nat) (vs : List SVal) (hb : Below w3.heap.size w3 W) (h2 : Kd.C Kd.string W (some ⟨b2, 0, none⟩) x.f2.length x.f2) (h3 : Kd.C Kd.string W B3 x.f3.length x.f3)
 (hl : vs.length <= 1000) (hsz : ∀ v ∈ vs, v.f1.size <= 4194304) :
 Calls Tryz.prog 25 #[.agg #[.string x.f0, .int .i64 x.f1, .slice (some ⟨b2, 0, none⟩) x.f2.length c2, .slice B3 x.f3.length c3, .int .i64 x.f4], .slice (some ⟨W.heap.size, 0, none⟩) vs.length vs.length] (W.alloc (.cells (vs.flatMap fun v => [Value.bool v.f0, .string v.f1]).toArray 34)) (zdY (valS (doP (zal x) (vs.map valO))) (W.alloc (.cells (vs.flatMap fun v => [Value.bool v.f0, .string v.f1]).toArray 34))) :=
 zeM x (some ⟨b2, 0, none⟩) c2 B3 c3 (some ⟨W.heap.size, 0, none⟩) vs.length vs _ (hG.below (hb.alloc hb.size _)) (Kd.C_below h2 (zaF W _)) (Kd.C_below h3 (zaF W _)) (ze8 W vs hl) hsz

def shipwrightlaw7_StepLong.f (_ _ _ : Int) : Option Bool := some true
end Go.Proofs.YtdpgdnpddndeoaaGreatDoor.X

namespace Go.Proofs.YtdpgdnpddndeoaaGreatDoor.X
open Go.RowKit Go.Maps Go.Proofs.YtdpgdnpddndeoaaGreatDoorW.PrintWords Go.Proofs.YtdpgdnpddndeoaaGreatDoorW.PrintMore Go.Proofs.YtdpgdnpddndeoaaGreatDoor.Pb
theorem zl9 (s : ByteArray) (n : Nat) : shipwrightlaw1_Short.f s (n : Int) = some (mk (s.data.toList.take n)) := by
 unfold shipwrightlaw1_Short.f mn; have hz := znY s; have key : ∀ m : Nat, m <= s.size -> s.data.toList.take m = s.data.toList.take n -> (s.extract 0 ((m : Int)).toNat) = mk (s.data.toList.take n) := by
  intro m _ hm; apply zbO
  rw [za2, <- hm]; simp [ByteArray.data_extract]
 rcases Nat.lt_or_ge n s.size with h | h
 . rw [if_pos (show (n : Int) < (s.size : Int) by omega), if_pos (show (0 : Int) <= (n : Int) by omega), if_pos (show (n : Int) <= (s.size : Int) by omega), key n (by omega) rfl]
 . rw [if_neg (show ¬ (n : Int) < (s.size : Int) by omega), if_pos (show (0 : Int) <= (s.size : Int) by omega), if_pos (Int.le_refl _), key s.size (znp _) (by rw [zox (by omega), zox (by omega)])]

end Go.Proofs.YtdpgdnpddndeoaaGreatDoor.X

namespace Go.Proofs.YtdpgdnpddndeoaaGreatDoor.X
open Go.RowKit Go.Maps Go.Proofs.YtdpgdnpddndeoaaGreatDoorW.PrintWords Go.Proofs.YtdpgdnpddndeoaaGreatDoorW.PrintMore Go.Proofs.YtdpgdnpddndeoaaGreatDoorW.PrintLast
def mskO (n : Nat) (ord : List Nat) (k : Nat) : Array Bool := (Array.range n).map fun i => (ord.take k).contains i
section
variable {P : Program} {ops : Array Oper} {Q : Exit -> Act -> World -> Prop} {S : World -> Prop} {md : Region.Mode} {ds : List Nat} {ord : List Nat}
theorem zng {id n : Nat} {a : Act} {w : World} (ord : List Nat) (hm : P.follows .mixedOrders = true) (hn : ops.size = n) (hl : Array.replicate n false = mskO n ord 0) (hS : S w.drew)
 (h : S w.drew -> zaG P .any ops Q S ds n (mskO n ord 0) a w.drew) : (Code.region id ops true).wp P Q a w := zeA (mskO n ord 0) hm hn hl hS h
theorem zbb {n : Nat} {oi : Oper} {v : Value} {fuel : Nat} {a : Act} {w : World} (k k1 i : Nat) (_ : k1 = k + 1) (hi : ops[i]? = some oi) (hc : zfa md ops ds (mskO n ord k) (mskO n ord k1) i = true)
 (hQ : ∀ c a w, Q (.panic c) (a.put oi.dst v) w -> Q (.panic c) a w) (hy : YieldsIf P ops S oi v a) (hS : S w) {a' : Act} (ha : a.put oi.dst v = a')
 (h : zaG P md ops Q S ds fuel (mskO n ord k1) a' w) : zaG P md ops Q S ds (fuel + 1) (mskO n ord k) a w := take_ _ hi rfl hc hQ hy hS ha h
theorem oneI {n : Nat} {oi : Oper} {fuel : Nat} {a : Act} {w : World} (k k1 i : Nat) (_ : k1 = k + 1) (hi : ops[i]? = some oi) (hc : zdJ md ops (mskO n ord k) (mskO n ord k1) i = true) (hd : i ∉ ds)
 (h : ∀ K : Act -> World -> Prop, Shut (∀ a' w', S w' -> (S w' -> zaG P md ops Q S ds fuel (mskO n ord k1) a' w') -> K a' w') -> if Region.wanted oi (yielded ops a.tmps) = true then Oper.wp P oi a w K Q else K (a.put oi.dst undef) w) :
 zaG P md ops Q S ds (fuel + 1) (mskO n ord k) a w := one_ _ hi rfl hc hd h
end

end Go.Proofs.YtdpgdnpddndeoaaGreatDoor.X

namespace Go.Proofs.YtdpgdnpddndeoaaGreatDoor.X
open Go.RowKit Go.Maps Go.Proofs.YtdpgdnpddndeoaaGreatDoorW.PrintWords Go.Proofs.YtdpgdnpddndeoaaGreatDoorW.PrintMore Go.Proofs.YtdpgdnpddndeoaaGreatDoorW.PrintLast Go.Proofs.YtdpgdnpddndeoaaGreatDoor.Pb
theorem zmL (w : World) (x y z : Array Value) (e : TypeId) : (((w.alloc (.cells x e)).alloc (.cells y e)).alloc (.cells z e)).heap[w.heap.size]? = some (.cells x e (0, 0)) /\ (((w.alloc (.cells x e)).alloc (.cells y e)).alloc (.cells z e)).heap[w.heap.size + 1]? = some (.cells y e (0, 0)) /\
 (((w.alloc (.cells x e)).alloc (.cells y e)).alloc (.cells z e)).heap[w.heap.size + 1 + 1]? = some (.cells z e (0, 0)) /\ Below w.heap.size w (((w.alloc (.cells x e)).alloc (.cells y e)).alloc (.cells z e)) := by
 have s1 := zbD w (.cells x e); have s2 := zbD (w.alloc (.cells x e)) (.cells y e); have g1 := zaF w (.cells x e); have g2 := zaF (w.alloc (.cells x e)) (.cells y e); have g3 := zaF ((w.alloc (.cells x e)).alloc (.cells y e)) (.cells z e); refine ⟨zah (zah (zao w _) g2) g3, ?_, ?_, zad (zad g1 g1.size g2) (zad g1 g1.size g2).size g3⟩
 . have := zah (zao (w.alloc (.cells x e)) (.cells y e)) g3
   rwa [s1] at this
 . have := zao ((w.alloc (.cells x e)).alloc (.cells y e)) (.cells z e)
   rwa [s2, s1] at this
theorem zmX (a0 b0 c0 : ByteArray) (w : World) (hG : GOK w) :
 Calls Tryz.prog 10 #[.string a0, .string b0, .string c0] w (zci w) := by
 have HG := znl hG; clear hG; have hSh : ∀ s : ByteArray, ∃ t : ByteArray, t.size <= 600 /\ ∀ W, GOK W -> Calls Tryz.prog 19 #[.string s, .int .i64 600] W fun e w' => e = .returned (.string t) /\ Below W.heap.size W w' :=
  fun s => ⟨mk (s.data.toList.take 600), by rw [za6, List.length_take]; omega, fun W hW => shipwrightlaw1_Short.calls s 600 _ W hW (zl9 s 600)⟩
 obtain ⟨a, hza, hA⟩ := hSh a0; obtain ⟨b, hzb, hB⟩ := hSh b0; obtain ⟨c, hzc, hC⟩ := hSh c0; clear hSh; go_enter Tryz.func10, Tryz.ntmps10
 go_wp2_with fail; refine (znj _ HG.out).mono ?_; rintro e w1 ⟨rfl, hb1⟩; have HB1 := znl hb1; clear hb1; go_wp2_with fail; refine (hA _ (HG.out.below HB1.out)).mono ?_; rintro e w2 ⟨rfl, hb2⟩; have HB2 := znl (zad HB1.out HB1.out.size hb2); clear hb2 HB1 hA; go_wp2_with fail; refine (hB _ (HG.out.below HB2.out)).mono ?_; rintro e w3 ⟨rfl, hb3⟩; have HB3 := znl (zad HB2.out HB2.out.size hb3); clear hb3 HB2 hB; go_wp2_with fail; refine (hC _ (HG.out.below HB3.out)).mono ?_; rintro e w4 ⟨rfl, hb4⟩; have HB4 := znl (zad HB3.out HB3.out.size hb4); clear hb4 HB3 hC; go_upto_region 6 with fail; have hn5 := zbD w4 (.cells #[.string ⟨#[112]⟩, .string ⟨#[113]⟩] 9); have HN5 := znl (Kd.C_below (zcd w4 [⟨#[112]⟩, ⟨#[113]⟩] (by decide)) (zaF _ (.cells #[.string ⟨#[120]⟩, .int .i64 5, .slice (some ⟨w4.heap.size, 0, none⟩) 2 2, .slice none 0 0, .int .i64 0] 24)))
 have hk5 := zao (w4.alloc (.cells #[.string ⟨#[112]⟩, .string ⟨#[113]⟩] 9)) (.cells #[.string ⟨#[120]⟩, .int .i64 5, .slice (some ⟨w4.heap.size, 0, none⟩) 2 2, .slice none 0 0, .int .i64 0] 24); rw [hn5] at hk5; have HK5 := znl hk5; have HB5 := znl (zad HB4.out HB4.out.size (zad (zaF w4 (.cells #[.string ⟨#[112]⟩, .string ⟨#[113]⟩] 9)) (zaF w4 _).size (zaF _ (.cells #[.string ⟨#[120]⟩, .int .i64 5, .slice (some ⟨w4.heap.size, 0, none⟩) 2 2, .slice none 0 0, .int .i64 0] 24)))); clear hk5 hn5 HB4; have e5 : ([⟨#[112]⟩, ⟨#[113]⟩] : List ByteArray).map Value.string = [.string ⟨#[112]⟩, .string ⟨#[113]⟩] := rfl; rw [e5] at HN5; clear e5; generalize (w4.alloc (.cells #[.string ⟨#[112]⟩, .string ⟨#[113]⟩] 9)).alloc (.cells #[.string ⟨#[120]⟩, .int .i64 5, .slice (some ⟨w4.heap.size, 0, none⟩) 2 2, .slice none 0 0, .int .i64 0] 24) = w5 at HN5 HK5 HB5 |-; generalize w4.heap.size = P at HN5 HK5 |-; go_upto_region 7 with fail; have hn6 := zbD w5 (.cells #[.string ⟨#[112]⟩, .string ⟨#[113]⟩, .string ⟨#[114]⟩] 9); have HM6 := znl (Kd.C_below (zcd w5 [⟨#[112]⟩, ⟨#[113]⟩, ⟨#[114]⟩] (by decide)) (zaF _ (.cells #[.string ⟨#[120]⟩, .int .i64 5, .slice (some ⟨w5.heap.size, 0, none⟩) 3 3, .slice none 0 0, .int .i64 0] 24)))
 have hk6 := zao (w5.alloc (.cells #[.string ⟨#[112]⟩, .string ⟨#[113]⟩, .string ⟨#[114]⟩] 9)) (.cells #[.string ⟨#[120]⟩, .int .i64 5, .slice (some ⟨w5.heap.size, 0, none⟩) 3 3, .slice none 0 0, .int .i64 0] 24); rw [hn6] at hk6; have HJ6 := znl hk6; have hg6 := zad (zaF w5 (.cells #[.string ⟨#[112]⟩, .string ⟨#[113]⟩, .string ⟨#[114]⟩] 9)) (zaF w5 _).size (zaF _ (.cells #[.string ⟨#[120]⟩, .int .i64 5, .slice (some ⟨w5.heap.size, 0, none⟩) 3 3, .slice none 0 0, .int .i64 0] 24)); have HN6 := znl (Kd.C_below HN5.out hg6); have HK6 := znl (zah HK5.out hg6); have HB6 := znl (zad HB5.out HB5.out.size hg6); clear hk6 hn6 hg6 HB5 HN5 HK5; have e6 : ([⟨#[112]⟩, ⟨#[113]⟩, ⟨#[114]⟩] : List ByteArray).map Value.string = [.string ⟨#[112]⟩, .string ⟨#[113]⟩, .string ⟨#[114]⟩] := rfl; rw [e6] at HM6; clear e6; generalize (w5.alloc (.cells #[.string ⟨#[112]⟩, .string ⟨#[113]⟩, .string ⟨#[114]⟩] 9)).alloc (.cells #[.string ⟨#[120]⟩, .int .i64 5, .slice (some ⟨w5.heap.size, 0, none⟩) 3 3, .slice none 0 0, .int .i64 0] 24) = w6 at HM6 HJ6 HN6 HK6 HB6 |-; generalize w5.heap.size = Q at HM6 HJ6 |-; go_upto_region 8 with fail; obtain ⟨ha7, hb7, hc7, hg7⟩ := zmL w6 #[.bool true, .string a] #[.bool true, .string b] #[.bool true, .string c] 34; have HN7 := znl (Kd.C_below HN6.out hg7); have HK7 := znl (zah HK6.out hg7); have HM7 := znl (Kd.C_below HM6.out hg7); have HJ7 := znl (zah HJ6.out hg7); have HB7 := znl (zad HB6.out HB6.out.size hg7); have HX7 := znl ha7; have HY7 := znl hb7; have HZ7 := znl hc7; clear ha7 hb7 hc7 hg7 HN6 HK6 HM6 HJ6 HB6; generalize ((w6.alloc (.cells #[.bool true, .string a] 34)).alloc (.cells #[.bool true, .string b] 34)).alloc (.cells #[.bool true, .string c] 34) = w7 at HN7 HK7 HM7 HJ7 HB7 HX7 HY7 HZ7 |-; generalize w6.heap.size = R at HX7 HY7 HZ7 |-; have j0 : w7.cell? ⟨Q + 1, 0, none⟩ = some (.string ⟨#[120]⟩) := (zaa HJ7.out 0).trans rfl; have j1 : w7.cell? ⟨Q + 1, 1, none⟩ = some (.int .i64 5) := (zaa HJ7.out 1).trans rfl; have j2 : w7.cell? ⟨Q + 1, 2, none⟩ = some (.slice (some ⟨Q, 0, none⟩) 3 3) := (zaa HJ7.out 2).trans rfl; have j3 : w7.cell? ⟨Q + 1, 3, none⟩ = some (.slice none 0 0) := (zaa HJ7.out 3).trans rfl; have j4 : w7.cell? ⟨Q + 1, 4, none⟩ = some (.int .i64 0) := (zaa HJ7.out 4).trans rfl; have x0 : w7.cell? ⟨R, 0, none⟩ = some (.bool true) := (zaa HX7.out 0).trans rfl; have x1 : w7.cell? ⟨R, 1, none⟩ = some (.string a) := (zaa HX7.out 1).trans rfl; have y0 : w7.cell? ⟨R + 1, 0, none⟩ = some (.bool true) := (zaa HY7.out 0).trans rfl; have y1 : w7.cell? ⟨R + 1, 1, none⟩ = some (.string b) := (zaa HY7.out 1).trans rfl; have z0 : w7.cell? ⟨R + 1 + 1, 0, none⟩ = some (.bool true) := (zaa HZ7.out 0).trans rfl; have z1 : w7.cell? ⟨R + 1 + 1, 1, none⟩ = some (.string c) := (zaa HZ7.out 1).trans rfl; have h1 := ze3 w7 w7 (HG.out.below HB7.out) (⟨⟨#[120]⟩, 5, [⟨#[112]⟩, ⟨#[113]⟩, ⟨#[114]⟩], [], 0⟩ : zay) Q 3 none 0 [⟨true, a⟩, ⟨true, b⟩, ⟨true, c⟩] (zno _ _) HM7.out (zcw _ _) (by simp) (by intro v hv; simp only [zow, List.not_mem_nil, or_false] at hv; rcases hv with rfl | rfl | rfl <;> (dsimp only; omega))
 have hd1 : valS (doP (zal (⟨⟨#[120]⟩, 5, [⟨#[112]⟩, ⟨#[113]⟩, ⟨#[114]⟩], [], 0⟩ : zay)) (([⟨true, a⟩, ⟨true, b⟩, ⟨true, c⟩] : List SVal).map valO)) = ⟨true, a ++ b ++ c⟩ := by
  have := zg4 [a.data.toList, b.data.toList, c.data.toList] 3 rfl (by decide) (by have h1 := znY a; have h2 := znY b; have h3 := znY c; simp; omega)
  have e : doP (zal (⟨⟨#[120]⟩, 5, [⟨#[112]⟩, ⟨#[113]⟩, ⟨#[114]⟩], [], 0⟩ : zay)) (([⟨true, a⟩, ⟨true, b⟩, ⟨true, c⟩] : List SVal).map valO) = some [a.data.toList, b.data.toList, c.data.toList].flatten := this; rw [e]; show (⟨true, mk _⟩ : SVal) = _
  congr 1
  apply zbO
  rw [za2, data_append, data_append]; simp
 rw [hd1] at h1; have h1b : Calls Tryz.prog 25 #[.agg #[.string ⟨#[120]⟩, .int .i64 5, .slice (some ⟨Q, 0, none⟩) 3 3, .slice none 0 0, .int .i64 0], .slice (some ⟨w7.heap.size, 0, none⟩) 3 3] (w7.alloc (.cells #[.bool true, .string a, .bool true, .string b, .bool true, .string c] 34)) (zdY ⟨true, a ++ b ++ c⟩ (w7.alloc (.cells #[.bool true, .string a, .bool true, .string b, .bool true, .string c] 34))) := h1; clear hd1 h1; go_wp2_with fail; refine h1b.mono ?_; rintro e w8 ⟨rfl, hb8⟩; have hg := zaF w7 (.cells #[.bool true, .string a, .bool true, .string b, .bool true, .string c] 34); have hg8 := zad hg hg.size hb8; have HN8 := znl (Kd.C_below HN7.out hg8); have HK8 := znl (zah HK7.out hg8); have HX8 := znl (zah HX7.out hg8); have HY8 := znl (zah HY7.out hg8); have HZ8 := znl (zah HZ7.out hg8); have HB8 := znl (zad HB7.out HB7.out.size hg8); clear h1b hb8 hg hg8 HN7 HK7 HM7 HJ7 HB7 HX7 HY7 HZ7 j0 j1 j2 j3 j4 x0 x1 y0 y1 z0 z1; unfold aggV; dsimp only; go_upto_region 9 with fail; have hg9 := zaF w8 (.cells #[.bool true, .string (a ++ b ++ c)] 34); have HN9 := znl (Kd.C_below HN8.out hg9); have HK9 := znl (zah HK8.out hg9); have HX9 := znl (zah HX8.out hg9); have HY9 := znl (zah HY8.out hg9); have HZ9 := znl (zah HZ8.out hg9); have HT9 := znl (zao w8 (.cells #[.bool true, .string (a ++ b ++ c)] 34)); have HB9 := znl (zad HB8.out HB8.out.size hg9); clear hg9 HN8 HK8 HX8 HY8 HZ8 HB8; generalize w8.alloc (.cells #[.bool true, .string (a ++ b ++ c)] 34) = w9 at HN9 HK9 HX9 HY9 HZ9 HT9 HB9 |-; generalize w8.heap.size = T at HT9 |-; have two : ∀ (p q : ByteArray), p.size + q.size <= 2000 -> valS (doP (zal (⟨⟨#[120]⟩, 5, [⟨#[112]⟩, ⟨#[113]⟩], [], 0⟩ : zay)) (([⟨true, p⟩, ⟨true, q⟩] : List SVal).map valO)) = ⟨true, p ++ q⟩ := by
  intro p q hpq; have := zg4 [p.data.toList, q.data.toList] 2 rfl (by decide) (by have h1 := znY p; have h2 := znY q; simp; omega)
  have e : doP (zal (⟨⟨#[120]⟩, 5, [⟨#[112]⟩, ⟨#[113]⟩], [], 0⟩ : zay)) (([⟨true, p⟩, ⟨true, q⟩] : List SVal).map valO) = some [p.data.toList, q.data.toList].flatten := this; rw [e]; show (⟨true, mk _⟩ : SVal) = _
  congr 1
  apply zbO
  rw [za2, data_append]; simp
 have hab : (a ++ b).size = a.size + b.size := ByteArray.size_append; have HDA : Hid (∀ W, Below w9.heap.size w9 W -> Calls Tryz.prog 25 #[.agg #[.string ⟨#[120]⟩, .int .i64 5, .slice (some ⟨P, 0, none⟩) 2 2, .slice none 0 0, .int .i64 0], .slice (some ⟨W.heap.size, 0, none⟩) 2 2] (W.alloc (.cells #[.bool true, .string a, .bool true, .string b] 34)) (fun e w' => e = .returned (.agg #[.bool true, .string (a ++ b)]) /\ Below (W.alloc (.cells #[.bool true, .string a, .bool true, .string b] 34)).heap.size (W.alloc (.cells #[.bool true, .string a, .bool true, .string b] 34)) w')) := znl fun W hW => by
  have h := ze3 w9 W (HG.out.below HB9.out) (⟨⟨#[120]⟩, 5, [⟨#[112]⟩, ⟨#[113]⟩], [], 0⟩ : zay) P 2 none 0 [⟨true, a⟩, ⟨true, b⟩] hW (Kd.C_below HN9.out hW) (zcw _ _) (by simp) (by intro v hv; simp only [zow, List.not_mem_nil, or_false] at hv; rcases hv with rfl | rfl <;> (dsimp only; omega))
  rw [two a b (by omega)] at h
  exact h
 have HDB : Hid (∀ W, Below w9.heap.size w9 W -> Calls Tryz.prog 25 #[.agg #[.string ⟨#[120]⟩, .int .i64 5, .slice (some ⟨P, 0, none⟩) 2 2, .slice none 0 0, .int .i64 0], .slice (some ⟨W.heap.size, 0, none⟩) 2 2] (W.alloc (.cells #[.bool true, .string (a ++ b), .bool true, .string c] 34)) (fun e w' => e = .returned (.agg #[.bool true, .string (a ++ b ++ c)]) /\ Below (W.alloc (.cells #[.bool true, .string (a ++ b), .bool true, .string c] 34)).heap.size (W.alloc (.cells #[.bool true, .string (a ++ b), .bool true, .string c] 34)) w')) := znl fun W hW => by
  have h := ze3 w9 W (HG.out.below HB9.out) (⟨⟨#[120]⟩, 5, [⟨#[112]⟩, ⟨#[113]⟩], [], 0⟩ : zay) P 2 none 0 [⟨true, a ++ b⟩, ⟨true, c⟩] hW (Kd.C_below HN9.out hW) (zcw _ _) (by simp) (by intro v hv; simp only [zow, List.not_mem_nil, or_false] at hv; rcases hv with rfl | rfl <;> (dsimp only; omega))
  rw [two (a ++ b) c (by omega)] at h
  exact h
 have HDC : Hid (∀ W, Below w9.heap.size w9 W -> Calls Tryz.prog 25 #[.agg #[.string ⟨#[120]⟩, .int .i64 5, .slice none 0 0, .slice none 0 0, .int .i64 0], .slice none 0 0] W (fun e w' => e = .returned (.agg #[.bool true, .string ⟨#[]⟩]) /\ Below W.heap.size W w')) := znl fun W hW =>
  zeM (⟨⟨#[120]⟩, 5, [], [], 0⟩ : zay) none 0 none 0 none 0 [] W ((HG.out.below HB9.out).below hW) (zcw _ _) (zcw _ _) (zcw _ _) (by simp)
 have o1 : ¬ 9223372036854775807 < a.size + b.size := by omega
 have o2 : ¬ 9223372036854775807 < (a ++ b).size + c.size := by omega
 have o3 : ¬ 9223372036854775807 < a.size + b.size + c.size := by omega
 have d1 : ((a ++ b ++ c).toList == (a ++ b ++ c).toList) = true := by simp
 have HBk : Hid (Below w9.heap.size w9 w9.drew) := znl (zbh (zno _ _)); clear two hab; have HDA2 : Hid (Calls Tryz.prog 25 #[.agg #[.string ⟨#[120]⟩, .int .i64 5, .slice (some ⟨P, 0, none⟩) 2 2, .slice none 0 0, .int .i64 0], .slice (some ⟨w9.heap.size, 0, none⟩) 2 2] (w9.alloc (.cells #[.bool true, .string a, .bool true, .string b] 34)).drew (fun e w' => e = .returned (.agg #[.bool true, .string (a ++ b)]) /\ Below (w9.alloc (.cells #[.bool true, .string a, .bool true, .string b] 34)).drew.heap.size (w9.alloc (.cells #[.bool true, .string a, .bool true, .string b] 34)).drew w')) := znl (HDA.out _ HBk.out)
 --WALK
 have HS : Hid (∀ w', Below w9.heap.size w9 w' -> w'.cell? ⟨P + 1, 0, none⟩ = some (.string ⟨#[120]⟩) /\ w'.cell? ⟨P + 1, 1, none⟩ = some (.int .i64 5) /\ w'.cell? ⟨P + 1, 2, none⟩ = some (.slice (some ⟨P, 0, none⟩) 2 2) /\ w'.cell? ⟨P + 1, 3, none⟩ = some (.slice none 0 0) /\ w'.cell? ⟨P + 1, 4, none⟩ = some (.int .i64 0) /\ w'.cell? ⟨R, 0, none⟩ = some (.bool true) /\ w'.cell? ⟨R, 1, none⟩ = some (.string a) /\ w'.cell? ⟨R + 1, 0, none⟩ = some (.bool true) /\ w'.cell? ⟨R + 1, 1, none⟩ = some (.string b) /\ w'.cell? ⟨R + 1 + 1, 0, none⟩ = some (.bool true) /\ w'.cell? ⟨R + 1 + 1, 1, none⟩ = some (.string c) /\ w'.cell? ⟨T, 0, none⟩ = some (.bool true) /\ w'.cell? ⟨T, 1, none⟩ = some (.string (a ++ b ++ c))) := znl fun _ hW => ⟨(zaa (zah HK9.out hW) 0).trans rfl, (zaa (zah HK9.out hW) 1).trans rfl, (zaa (zah HK9.out hW) 2).trans rfl, (zaa (zah HK9.out hW) 3).trans rfl, (zaa (zah HK9.out hW) 4).trans rfl, (zaa (zah HX9.out hW) 0).trans rfl, (zaa (zah HX9.out hW) 1).trans rfl, (zaa (zah HY9.out hW) 0).trans rfl, (zaa (zah HY9.out hW) 1).trans rfl, (zaa (zah HZ9.out hW) 0).trans rfl, (zaa (zah HZ9.out hW) 1).trans rfl, (zaa (zah HT9.out hW) 0).trans rfl, (zaa (zah HT9.out hW) 1).trans rfl⟩
 refine zng (n := 28) [0, 1, 2, 3, 4, 5, 6, 7, 8, 9, 10, 11, 12, 15, 18, 13, 14, 16, 17, 19, 20, 21, 22, 24, 23, 25, 26, 27] (S := fun w' => w'.cell? ⟨P + 1, 0, none⟩ = some (.string ⟨#[120]⟩) /\ w'.cell? ⟨P + 1, 1, none⟩ = some (.int .i64 5) /\ w'.cell? ⟨P + 1, 2, none⟩ = some (.slice (some ⟨P, 0, none⟩) 2 2) /\ w'.cell? ⟨P + 1, 3, none⟩ = some (.slice none 0 0) /\ w'.cell? ⟨P + 1, 4, none⟩ = some (.int .i64 0) /\ w'.cell? ⟨R, 0, none⟩ = some (.bool true) /\ w'.cell? ⟨R, 1, none⟩ = some (.string a) /\ w'.cell? ⟨R + 1, 0, none⟩ = some (.bool true) /\ w'.cell? ⟨R + 1, 1, none⟩ = some (.string b) /\ w'.cell? ⟨R + 1 + 1, 0, none⟩ = some (.bool true) /\ w'.cell? ⟨R + 1 + 1, 1, none⟩ = some (.string c) /\ w'.cell? ⟨T, 0, none⟩ = some (.bool true) /\ w'.cell? ⟨T, 1, none⟩ = some (.string (a ++ b ++ c))) (ds := []) (by kernel_rfl) rfl (by kernel_rfl) (HS.out _ HBk.out) (fun hHeld => ?_)
 refine zbb 0 1 0 rfl (v := ?_) (a' := ?_) rfl (by decide +kernel) (fun _ _ _ h => h) (zoT ⟨by rfl, ?_⟩) hHeld ?_ ?_
 rotate_left
 . rintro w' ⟨s0, s1, s2, s3, s4, s5, s6, s7, s8, s9, s10, s11, s12⟩
   go_simp
   with_reducible rfl
 rotate_left
 . simp only [Act.put, List.getElem_toArray, List.getElem_cons_zero, List.getElem_cons_succ, zoU, zoV, zoW, zam, zan]
   rfl
 refine zbb 1 2 1 rfl (v := ?_) (a' := ?_) rfl (by decide +kernel) (fun _ _ _ h => h) (zoT ⟨by rfl, ?_⟩) hHeld ?_ ?_
 rotate_left
 . rintro w' ⟨s0, s1, s2, s3, s4, s5, s6, s7, s8, s9, s10, s11, s12⟩
   go_simp
   with_reducible rfl
 rotate_left
 . simp only [Act.put, List.getElem_toArray, List.getElem_cons_zero, List.getElem_cons_succ, zoU, zoV, zoW, zam, zan]
   rfl
 refine zbb 2 3 2 rfl (v := ?_) (a' := ?_) rfl (by decide +kernel) (fun _ _ _ h => h) (zoT ⟨by rfl, ?_⟩) hHeld ?_ ?_
 rotate_left
 . rintro w' ⟨s0, s1, s2, s3, s4, s5, s6, s7, s8, s9, s10, s11, s12⟩
   go_simp
   with_reducible rfl
 rotate_left
 . simp only [Act.put, List.getElem_toArray, List.getElem_cons_zero, List.getElem_cons_succ, zoU, zoV, zoW, zam, zan]
   rfl
 refine zbb 3 4 3 rfl (v := ?_) (a' := ?_) rfl (by decide +kernel) (fun _ _ _ h => h) (zoT ⟨by rfl, ?_⟩) hHeld ?_ ?_
 rotate_left
 . rintro w' ⟨s0, s1, s2, s3, s4, s5, s6, s7, s8, s9, s10, s11, s12⟩
   go_simp
   with_reducible rfl
 rotate_left
 . simp only [Act.put, List.getElem_toArray, List.getElem_cons_zero, List.getElem_cons_succ, zoU, zoV, zoW, zam, zan]
   rfl
 refine zbb 4 5 4 rfl (v := ?_) (a' := ?_) rfl (by decide +kernel) (fun _ _ _ h => h) (zoT ⟨by rfl, ?_⟩) hHeld ?_ ?_
 rotate_left
 . rintro w' ⟨s0, s1, s2, s3, s4, s5, s6, s7, s8, s9, s10, s11, s12⟩
   go_simp
   with_reducible rfl
 rotate_left
 . simp only [Act.put, List.getElem_toArray, List.getElem_cons_zero, List.getElem_cons_succ, zoU, zoV, zoW, zam, zan]
   rfl
 refine zbb 5 6 5 rfl (v := ?_) (a' := ?_) rfl (by decide +kernel) (fun _ _ _ h => h) (zoT ⟨by rfl, ?_⟩) hHeld ?_ ?_
 rotate_left
 . rintro w' ⟨s0, s1, s2, s3, s4, s5, s6, s7, s8, s9, s10, s11, s12⟩
   go_simp
   with_reducible rfl
 rotate_left
 . simp only [Act.put, List.getElem_toArray, List.getElem_cons_zero, List.getElem_cons_succ, zoU, zoV, zoW, zam, zan]
   rfl
 refine zbb 6 7 6 rfl (v := ?_) (a' := ?_) rfl (by decide +kernel) (fun _ _ _ h => h) (zoT ⟨by rfl, ?_⟩) hHeld ?_ ?_
 rotate_left
 . rintro w' ⟨s0, s1, s2, s3, s4, s5, s6, s7, s8, s9, s10, s11, s12⟩
   go_simp
   with_reducible rfl
 rotate_left
 . simp only [Act.put, List.getElem_toArray, List.getElem_cons_zero, List.getElem_cons_succ, zoU, zoV, zoW, zam, zan]
   rfl
 refine zbb 7 8 7 rfl (v := ?_) (a' := ?_) rfl (by decide +kernel) (fun _ _ _ h => h) (zoT ⟨by rfl, ?_⟩) hHeld ?_ ?_
 rotate_left
 . rintro w' ⟨s0, s1, s2, s3, s4, s5, s6, s7, s8, s9, s10, s11, s12⟩
   go_simp
   with_reducible rfl
 rotate_left
 . simp only [Act.put, List.getElem_toArray, List.getElem_cons_zero, List.getElem_cons_succ, zoU, zoV, zoW, zam, zan]
   rfl
 refine zbb 8 9 8 rfl (v := ?_) (a' := ?_) rfl (by decide +kernel) (fun _ _ _ h => h) (zoT ⟨by rfl, ?_⟩) hHeld ?_ ?_
 rotate_left
 . rintro w' ⟨s0, s1, s2, s3, s4, s5, s6, s7, s8, s9, s10, s11, s12⟩
   go_simp
   with_reducible rfl
 rotate_left
 . simp only [Act.put, List.getElem_toArray, List.getElem_cons_zero, List.getElem_cons_succ, zoU, zoV, zoW, zam, zan]
   rfl
 refine zbb 9 10 9 rfl (v := ?_) (a' := ?_) rfl (by decide +kernel) (fun _ _ _ h => h) (zoT ⟨by rfl, ?_⟩) hHeld ?_ ?_
 rotate_left
 . rintro w' ⟨s0, s1, s2, s3, s4, s5, s6, s7, s8, s9, s10, s11, s12⟩
   go_simp
   with_reducible rfl
 rotate_left
 . simp only [Act.put, List.getElem_toArray, List.getElem_cons_zero, List.getElem_cons_succ, zoU, zoV, zoW, zam, zan]
   rfl
 refine zbb 10 11 10 rfl (v := ?_) (a' := ?_) rfl (by decide +kernel) (fun _ _ _ h => h) (zoT ⟨by rfl, ?_⟩) hHeld ?_ ?_
 rotate_left
 . rintro w' ⟨s0, s1, s2, s3, s4, s5, s6, s7, s8, s9, s10, s11, s12⟩
   go_simp
   with_reducible rfl
 rotate_left
 . simp only [Act.put, List.getElem_toArray, List.getElem_cons_zero, List.getElem_cons_succ, zoU, zoV, zoW, zam, zan]
   rfl
 refine zbb 11 12 11 rfl (v := ?_) (a' := ?_) rfl (by decide +kernel) (fun _ _ _ h => h) (zoT ⟨by rfl, ?_⟩) hHeld ?_ ?_
 rotate_left
 . rintro w' ⟨s0, s1, s2, s3, s4, s5, s6, s7, s8, s9, s10, s11, s12⟩
   go_simp
   with_reducible rfl
 rotate_left
 . simp only [Act.put, List.getElem_toArray, List.getElem_cons_zero, List.getElem_cons_succ, zoU, zoV, zoW, zam, zan]
   rfl
 refine zbb 12 13 12 rfl (v := ?_) (a' := ?_) rfl (by decide +kernel) (fun _ _ _ h => h) (zoT ⟨by rfl, ?_⟩) hHeld ?_ ?_
 rotate_left
 . rintro w' ⟨s0, s1, s2, s3, s4, s5, s6, s7, s8, s9, s10, s11, s12⟩
   go_simp
   with_reducible rfl
 rotate_left
 . simp only [Act.put, List.getElem_toArray, List.getElem_cons_zero, List.getElem_cons_succ, zoU, zoV, zoW, zam, zan]
   rfl
 refine zbb 13 14 15 rfl (v := ?_) (a' := ?_) rfl (by decide +kernel) (fun _ _ _ h => h) (zoT ⟨by rfl, ?_⟩) hHeld ?_ ?_
 rotate_left
 . rintro w' ⟨s0, s1, s2, s3, s4, s5, s6, s7, s8, s9, s10, s11, s12⟩
   go_simp
   with_reducible rfl
 rotate_left
 . simp only [Act.put, List.getElem_toArray, List.getElem_cons_zero, List.getElem_cons_succ, zoU, zoV, zoW, zam, zan]
   rfl
 refine zbb 14 15 18 rfl (v := ?_) (a' := ?_) rfl (by decide +kernel) (fun _ _ _ h => h) (zoT ⟨by rfl, ?_⟩) hHeld ?_ ?_
 rotate_left
 . rintro w' ⟨s0, s1, s2, s3, s4, s5, s6, s7, s8, s9, s10, s11, s12⟩
   go_simp
   with_reducible rfl
 rotate_left
 . simp only [Act.put, List.getElem_toArray, List.getElem_cons_zero, List.getElem_cons_succ, zoU, zoV, zoW, zam, zan]
   rfl
 refine oneI 15 16 13 rfl rfl (by decide +kernel) (by decide) (fun K hK => ?_)
 refine zcY (w1 := ?_) (v := ?_) (by rfl) rfl ?_ ?_
 rotate_left 2
 . go_simp
   constructor
   . rfl
   . rfl
 refine hK.out _ _ (HS.out _ (zad HBk.out HBk.out.size (zaF _ _))) (fun hHeld => ?_)
 clear hK K; refine za7 (a' := ?_) ?_ ?_; rotate_left
 . show Act.put _ (some 52) _ = _
   simp only [Act.put, List.getElem_toArray, List.getElem_cons_zero, List.getElem_cons_succ, zoU, zoV, zoW, zam, zan]; rfl
 refine oneI 16 17 14 rfl rfl (by decide +kernel) (by decide) (fun K hK => ?_)
 refine zb0 Tryz.func25 (by kernel_rfl) rfl #[.agg #[.string ⟨#[120]⟩, .int .i64 5, .slice (some ⟨P, 0, none⟩) 2 2, .slice none 0 0, .int .i64 0], .slice (some ⟨w9.heap.size, 0, none⟩) 2 2] (by rfl) rfl rfl (by simp only [zof, zn3, zn4]; rfl) ?_
 with_reducible refine (HDA2.out).mono ?_
 rintro e wA ⟨rfl, hbA⟩; refine ⟨_, rfl, ?_⟩; have HBA : Hid (Below w9.heap.size w9 wA) := znl (zad (zad HBk.out HBk.out.size (zaF _ _)) (zad HBk.out HBk.out.size (zaF _ _)).size hbA); clear hbA; refine hK.out _ _ (HS.out _ HBA.out) (fun hHeld => ?_)
 clear hK K; refine za7 (a' := ?_) ?_ ?_; rotate_left
 . show Act.put _ (some 53) _ = _
   simp only [Act.put, List.getElem_toArray, List.getElem_cons_zero, List.getElem_cons_succ, zoU, zoV, zoW, zam, zan]; rfl
 refine oneI 17 18 16 rfl rfl (by decide +kernel) (by decide) (fun K hK => ?_)
 refine zcY (w1 := ?_) (v := ?_) (by rfl) rfl ?_ ?_
 rotate_left 2
 . go_simp
   constructor
   . rfl
   . rfl
 refine hK.out _ _ (HS.out _ (zad HBA.out HBA.out.size (zaF _ _))) (fun hHeld => ?_)
 clear hK K; refine za7 (a' := ?_) ?_ ?_; rotate_left
 . show Act.put _ (some 55) _ = _
   simp only [Act.put, List.getElem_toArray, List.getElem_cons_zero, List.getElem_cons_succ, zoU, zoV, zoW, zam, zan]; rfl
 refine oneI 18 19 17 rfl rfl (by decide +kernel) (by decide) (fun K hK => ?_)
 refine zb0 Tryz.func25 (by kernel_rfl) rfl #[.agg #[.string ⟨#[120]⟩, .int .i64 5, .slice (some ⟨P, 0, none⟩) 2 2, .slice none 0 0, .int .i64 0], .slice (some ⟨wA.heap.size, 0, none⟩) 2 2] (by rfl) rfl rfl (by simp only [zof, zn3, zn4]; rfl) ?_
 with_reducible refine (HDB.out _ HBA.out).mono ?_
 rintro e wB ⟨rfl, hbB⟩; refine ⟨_, rfl, ?_⟩; have HBB : Hid (Below w9.heap.size w9 wB) := znl (zad (zad HBA.out HBA.out.size (zaF _ _)) (zad HBA.out HBA.out.size (zaF _ _)).size hbB); clear hbB; refine hK.out _ _ (HS.out _ HBB.out) (fun hHeld => ?_)
 clear hK K; refine za7 (a' := ?_) ?_ ?_; rotate_left
 . show Act.put _ (some 56) _ = _
   simp only [Act.put, List.getElem_toArray, List.getElem_cons_zero, List.getElem_cons_succ, zoU, zoV, zoW, zam, zan]; rfl
 refine zbb 19 20 19 rfl (v := ?_) (a' := ?_) rfl (by decide +kernel) (fun _ _ _ h => h) (zoT ⟨by rfl, ?_⟩) hHeld ?_ ?_
 rotate_left
 . rintro w' ⟨s0, s1, s2, s3, s4, s5, s6, s7, s8, s9, s10, s11, s12⟩
   go_simp
   with_reducible rfl
 rotate_left
 . simp only [Act.put, List.getElem_toArray, List.getElem_cons_zero, List.getElem_cons_succ, zoU, zoV, zoW, zam, zan]
   rfl
 refine zbb 20 21 20 rfl (v := ?_) (a' := ?_) rfl (by decide +kernel) (fun _ _ _ h => h) (zoT ⟨by rfl, ?_⟩) hHeld ?_ ?_
 rotate_left
 . rintro w' ⟨s0, s1, s2, s3, s4, s5, s6, s7, s8, s9, s10, s11, s12⟩
   go_simp
   with_reducible rfl
 rotate_left
 . simp only [Act.put, List.getElem_toArray, List.getElem_cons_zero, List.getElem_cons_succ, zoU, zoV, zoW, zam, zan]
   rfl
 refine zbb 21 22 21 rfl (v := ?_) (a' := ?_) rfl (by decide +kernel) (fun _ _ _ h => h) (zoT ⟨by rfl, ?_⟩) hHeld ?_ ?_
 rotate_left
 . rintro w' ⟨s0, s1, s2, s3, s4, s5, s6, s7, s8, s9, s10, s11, s12⟩
   go_simp
   with_reducible rfl
 rotate_left
 . simp only [Act.put, List.getElem_toArray, List.getElem_cons_zero, List.getElem_cons_succ, zoU, zoV, zoW, zam, zan]
   rfl
 refine zbb 22 23 22 rfl (v := ?_) (a' := ?_) rfl (by decide +kernel) (fun _ _ _ h => h) (zoT ⟨by rfl, ?_⟩) hHeld ?_ ?_
 rotate_left
 . rintro w' ⟨s0, s1, s2, s3, s4, s5, s6, s7, s8, s9, s10, s11, s12⟩
   go_simp
   with_reducible rfl
 rotate_left
 . simp only [Act.put, List.getElem_toArray, List.getElem_cons_zero, List.getElem_cons_succ, zoU, zoV, zoW, zam, zan]
   rfl
 refine zbb 23 24 24 rfl (v := ?_) (a' := ?_) rfl (by decide +kernel) (fun _ _ _ h => h) (zoT ⟨by rfl, ?_⟩) hHeld ?_ ?_
 rotate_left
 . rintro w' ⟨s0, s1, s2, s3, s4, s5, s6, s7, s8, s9, s10, s11, s12⟩
   go_simp
   with_reducible rfl
 rotate_left
 . simp only [Act.put, List.getElem_toArray, List.getElem_cons_zero, List.getElem_cons_succ, zoU, zoV, zoW, zam, zan]
   rfl
 refine oneI 24 25 23 rfl rfl (by decide +kernel) (by decide) (fun K hK => ?_)
 refine zb0 Tryz.func25 (by kernel_rfl) rfl #[.agg #[.string ⟨#[120]⟩, .int .i64 5, .slice none 0 0, .slice none 0 0, .int .i64 0], .slice none 0 0] (by rfl) rfl rfl (by simp only [zof, zn3, zn4]; rfl) ?_
 with_reducible refine (HDC.out _ HBB.out).mono ?_
 rintro e wC ⟨rfl, hbC⟩; refine ⟨_, rfl, ?_⟩; have HBC : Hid (Below w9.heap.size w9 wC) := znl (zad HBB.out HBB.out.size hbC); clear hbC; refine hK.out _ _ (HS.out _ HBC.out) (fun hHeld => ?_)
 clear hK K; refine za7 (a' := ?_) ?_ ?_; rotate_left
 . show Act.put _ (some 62) _ = _
   simp only [Act.put, List.getElem_toArray, List.getElem_cons_zero, List.getElem_cons_succ, zoU, zoV, zoW, zam, zan]; rfl
 refine zbb 25 26 25 rfl (v := ?_) (a' := ?_) rfl (by decide +kernel) (fun _ _ _ h => h) (zoT ⟨by rfl, ?_⟩) hHeld ?_ ?_
 rotate_left
 . rintro w' ⟨s0, s1, s2, s3, s4, s5, s6, s7, s8, s9, s10, s11, s12⟩
   go_simp
   with_reducible rfl
 rotate_left
 . simp only [Act.put, List.getElem_toArray, List.getElem_cons_zero, List.getElem_cons_succ, zoU, zoV, zoW, zam, zan]
   rfl
 refine zbb 26 27 26 rfl (v := ?_) (a' := ?_) rfl (by decide +kernel) (fun _ _ _ h => h) (zoT ⟨by rfl, ?_⟩) hHeld ?_ ?_
 rotate_left
 . rintro w' ⟨s0, s1, s2, s3, s4, s5, s6, s7, s8, s9, s10, s11, s12⟩
   go_simp
   with_reducible rfl
 rotate_left
 . simp only [Act.put, List.getElem_toArray, List.getElem_cons_zero, List.getElem_cons_succ, zoU, zoV, zoW, zam, zan]
   rfl
 refine zbb 27 28 27 rfl (v := ?_) (a' := ?_) rfl (by decide +kernel) (fun _ _ _ h => h) (zoT ⟨by rfl, ?_⟩) hHeld ?_ ?_
 rotate_left
 . rintro w' ⟨s0, s1, s2, s3, s4, s5, s6, s7, s8, s9, s10, s11, s12⟩
   go_simp
   with_reducible rfl
 rotate_left
 . simp only [Act.put, List.getElem_toArray, List.getElem_cons_zero, List.getElem_cons_succ, zoU, zoV, zoW, zam, zan]
   rfl
 refine zd9 (by decide +kernel) ?_
 --KLAW
 go_wp2_with fail; go_ret
 exact ⟨rfl, zad HB9.out HB9.out.size HBC.out⟩

def shipwrightlaw7_StepConcat.f (_ _ _ : ByteArray) : Option Bool := some true
theorem shipwrightlaw7_StepConcat.calls (a b c : ByteArray) (r : Bool) (w : World) (hG : GOK w) (h : shipwrightlaw7_StepConcat.f a b c = some r) :
 Calls Tryz.prog 10 #[.string a, .string b, .string c] w fun e w' => e = .returned (.bool r) /\ Below w.heap.size w w' := by
 obtain rfl := znU h; exact zmX a b c w hG
theorem pure_StepConcat (a b c : ByteArray) {p q r : Prop} (_ : p) (_ : q) (_ : r) : shipwrightlaw7_StepConcat.f a b c = some true := rfl

end Go.Proofs.YtdpgdnpddndeoaaGreatDoor.X
