/-
  begun of law4 answers true: every contract at its closed values.
  law7's begun, walked by hand.
  Commands, plainly: lines and their newlines; sorted twice, selected twice, counted, cut off (StepLaws, StepLines, StepReplace, StepConcat).
-/
import Derived.Test.YtdpgdnpddndeoaaGreatDoorZ12
import Derived.Test.YtdpgdnpddndeoaaGreatDoorZ11
import Derived.Test.YtdpgdnpddndeoaaGreatDoorZ7
namespace Go.Proofs.YtdpgdnpddndeoaaGreatDoor.X
open Go.RowKit Go.Maps Go.Proofs.YtdpgdnpddndeoaaGreatDoorW.PrintWords Go.Proofs.YtdpgdnpddndeoaaGreatDoorW.PrintMore Go.Proofs.YtdpgdnpddndeoaaGreatDoorW.PrintLast
set_option maxHeartbeats 2000000 in
theorem zdB (A : Option Addr) (c : Nat) (B : Option Addr) (d : Nat) (l : List ByteArray) (w : World) (h1 : Kd.C Kd.string w A l.length l) (h2 : Kd.C Kd.string w B l.length l) :
 Calls Tryz.prog 195 #[.slice A l.length c, .slice B l.length d] w fun e w' => e = .returned (.bool true) /\ Below w.heap.size w w' := by
 have hm := h1.2.1
 have H1 := znM h1
 have H2 := znM h2
 clear h1 h2
 go_enter Tryz.func195, Tryz.ntmps195
 go_wp2_with fail
 go_loopg [5, 13] l.length (fun gg _ s13 wr => ∃ kk : Nat, kk <= l.length /\ l.length - kk <= gg /\ s13 = .int .i64 kk /\ Aside0 (Below w.heap.size w wr))
 case atStart => exact ⟨0, by omega, by omega, rfl, ⟨Below.refl _ _⟩⟩
 case round =>
  obtain ⟨kk, hkk, hgk, rfl, HB⟩ := hrel
  by_cases hlt : kk < l.length
  . have hltz : (kk : Int) < (l.length : Int) := by omega
    rcases zaZ (Kd.C_below H1.out HB.out) with h0 | ⟨b, o, rfl, _, hcell⟩
    . rw [h0] at hlt; simp at hlt
    rcases zaZ (Kd.C_below H2.out HB.out) with h0 | ⟨b', o', rfl, _, hcell'⟩
    . rw [h0] at hlt; simp at hlt
    have hx : wr.cell? ⟨b, o + kk, none⟩ = some (.string (l.getD kk ByteArray.empty)) := hcell kk hlt
    have hx' : wr.cell? ⟨b', o' + kk, none⟩ = some (.string (l.getD kk ByteArray.empty)) := hcell' kk hlt
    generalize l.getD kk ByteArray.empty = y at hx hx'
    have HBd := znM (zbl HB.out)
    clear hcell hcell'
    go_wp2_with fail
    go_region
    all_goals
     go_wp2
     go_roundg (l.length - (kk + 1))
     case measure => omega
     case rel => exact ⟨kk + 1, by omega, by omega, by go_num, ⟨HBd.out⟩⟩
  . have hltz : ¬ (kk : Int) < (l.length : Int) := by omega
    go_wp2
    go_ret
    exact ⟨rfl, HB.out⟩

set_option maxHeartbeats 4000000 in
set_option maxRecDepth 100000 in
theorem zkN (x : zaA) (A2 : Option Addr) (c2 : Nat) (A3 : Option Addr) (c3 : Nat) (B2 : Option Addr) (d2 : Nat) (B3 : Option Addr) (d3 : Nat) (w : World)
 (h2 : Kd.C Kd.string w A2 x.f2.length x.f2) (h3 : Kd.C Kd.string w A3 x.f3.length x.f3) (g2 : Kd.C Kd.string w B2 x.f2.length x.f2) (g3 : Kd.C Kd.string w B3 x.f3.length x.f3) :
 Calls Tryz.prog 197 #[.agg #[.string x.f0, .int .i64 x.f1, .slice A2 x.f2.length c2, .slice A3 x.f3.length c3, .int .i64 x.f4], .agg #[.string x.f0, .int .i64 x.f1, .slice B2 x.f2.length d2, .slice B3 x.f3.length d3, .int .i64 x.f4]] w
  fun e w' => e = .returned (.bool true) /\ Below w.heap.size w w' := by
 have hb1 := (Below.refl w.heap.size w).alloc (Nat.le_refl _) (.cells #[.string x.f0, .int .i64 x.f1, .slice A2 x.f2.length c2, .slice A3 x.f3.length c3, .int .i64 x.f4] 24)
 have hb2 := hb1.alloc hb1.size (.cells #[.string x.f0, .int .i64 x.f1, .slice B2 x.f2.length d2, .slice B3 x.f3.length d3, .int .i64 x.f4] 24)
 have hk := zat (zan w (.cells #[.string x.f0, .int .i64 x.f1, .slice A2 x.f2.length c2, .slice A3 x.f3.length c3, .int .i64 x.f4] 24)) (.cells #[.string x.f0, .int .i64 x.f1, .slice B2 x.f2.length d2, .slice B3 x.f3.length d3, .int .i64 x.f4] 24)
 have hz := zan (w.alloc (.cells #[.string x.f0, .int .i64 x.f1, .slice A2 x.f2.length c2, .slice A3 x.f3.length c3, .int .i64 x.f4] 24)) (.cells #[.string x.f0, .int .i64 x.f1, .slice B2 x.f2.length d2, .slice B3 x.f3.length d3, .int .i64 x.f4] 24)
 rw [World.size_alloc] at hz
 have HB2 := znM hb2
 have HK2 := znM hk
 have HZ2 := znM hz
 have hE2 : Hid (∀ W, Below w.heap.size w W -> Calls Tryz.prog 195 #[.slice A2 x.f2.length c2, .slice B2 x.f2.length d2] W fun e w' => e = .returned (.bool true) /\ Below W.heap.size W w') := fun W hW => zdB A2 c2 B2 d2 x.f2 W (Kd.C_below h2 hW) (Kd.C_below g2 hW)
 have hE3 : Hid (∀ W, Below w.heap.size w W -> Calls Tryz.prog 195 #[.slice A3 x.f3.length c3, .slice B3 x.f3.length d3] W fun e w' => e = .returned (.bool true) /\ Below W.heap.size W w') := fun W hW => zdB A3 c3 B3 d3 x.f3 W (Kd.C_below h3 hW) (Kd.C_below g3 hW)
 clear hb1 hb2 hk hz h2 h3 g2 g3
 go_enter Tryz.func197, Tryz.ntmps197
 go_wp2_with fail
 generalize (w.alloc (.cells #[.string x.f0, .int .i64 x.f1, .slice A2 x.f2.length c2, .slice A3 x.f3.length c3, .int .i64 x.f4] 24)).alloc (.cells #[.string x.f0, .int .i64 x.f1, .slice B2 x.f2.length d2, .slice B3 x.f3.length d3, .int .i64 x.f4] 24) = w2 at HB2 HK2 HZ2 |-
 refine (hE2.out _ HB2.out).mono ?_
 rintro e w3 ⟨rfl, hb3⟩
 have HB3 := znM (zad HB2.out HB2.out.size hb3)
 have k3 : w3.cell? ⟨w.heap.size, 3, none⟩ = some (.slice A3 x.f3.length c3) := (zab (zah HK2.out hb3) 3).trans rfl
 have j3 : w3.cell? ⟨w.heap.size + 1, 3, none⟩ = some (.slice B3 x.f3.length d3) := (zab (zah HZ2.out hb3) 3).trans rfl
 clear hb3
 go_wp2_with fail
 refine (hE3.out _ HB3.out).mono ?_
 rintro e w4 ⟨rfl, hb4⟩
 have HB4 := znM (zad HB3.out HB3.out.size hb4)
 clear hb4
 go_wp2_with fail
 go_ret
 exact ⟨rfl, HB4.out⟩

theorem zcp {w : World} {a : Addr} {v : Value} (h : w.cell? a = some v) (ob : Obj) : (w.alloc ob).cell? a = some v := (World.cell?_alloc_some w a ob (by rw [h]; rfl)).trans h
abbrev zcd (w : World) (e : Ending) (w' : World) : Prop := e = .returned (.bool true) /\ Below w.heap.size w w'
theorem zdO {w : World} {x : zaA} {A : Option Addr} (h : Kd.C k24 w A 1 [x]) :
 ∃ ad A2 c2 A3 c3, A = some ad /\ Kd.C Kd.string w A2 x.f2.length x.f2 /\ Kd.C Kd.string w A3 x.f3.length x.f3 /\ w.cell? ad = some (.string x.f0) /\ w.cell? ⟨ad.block, ad.off + 1, none⟩ = some (.int .i64 x.f1) /\
  w.cell? ⟨ad.block, ad.off + 2, none⟩ = some (.slice A2 x.f2.length c2) /\ w.cell? ⟨ad.block, ad.off + 3, none⟩ = some (.slice A3 x.f3.length c3) /\ w.cell? ⟨ad.block, ad.off + 4, none⟩ = some (.int .i64 x.f4) := by
 obtain ⟨ad, cs, rfl, hcl, hK, hcell⟩ := Kd.C_get h x 0 (by simp) (by simp)
 obtain ⟨A5, c5, A6, c6, hcs, hc5, h5, hc6, h6⟩ := zeB hK
 subst hcs
 refine ⟨ad, A5, c5, A6, c6, rfl, h5, h6, ?_, ?_, ?_, ?_, ?_⟩
 . have := hcell 0 _ rfl; rwa [zdd] at this
 . have := hcell 1 _ rfl; rwa [at_next ad 1 (by decide)] at this
 . have := hcell 2 _ rfl; rwa [at_next ad 2 (by decide)] at this
 . have := hcell 3 _ rfl; rwa [at_next ad 3 (by decide)] at this
 . have := hcell 4 _ rfl; rwa [at_next ad 4 (by decide)] at this
theorem zdx {w : World} {r : zai} {A : Option Addr} (h : Kd.C k45 w A 1 [r]) :
 ∃ ad A1 c1 A2 c2 A3 c3 A4 c4, A = some ad /\ Kd.C Kd.string w A1 r.f1.length r.f1 /\ Kd.C Kd.string w A2 r.f2.length r.f2 /\ Kd.C Kd.string w A3 r.f3.length r.f3 /\ Kd.C k24 w A4 r.f4.length r.f4 /\
  w.cell? ad = some (.string r.f0) /\ w.cell? ⟨ad.block, ad.off + 1, none⟩ = some (.slice A1 r.f1.length c1) /\
  w.cell? ⟨ad.block, ad.off + 2, none⟩ = some (.slice A2 r.f2.length c2) /\ w.cell? ⟨ad.block, ad.off + 3, none⟩ = some (.slice A3 r.f3.length c3) /\ w.cell? ⟨ad.block, ad.off + 4, none⟩ = some (.slice A4 r.f4.length c4) := by
 obtain ⟨ad, cs, rfl, hcl, hK, hcell⟩ := Kd.C_get h r 0 (by simp) (by simp)
 obtain ⟨A1, c1, A2, c2, A3, c3, A4, c4, hcs, _, h1, _, h2, _, h3, _, h4⟩ := zdZ hK
 subst hcs
 refine ⟨ad, A1, c1, A2, c2, A3, c3, A4, c4, rfl, h1, h2, h3, h4, ?_, ?_, ?_, ?_, ?_⟩
 . have := hcell 0 _ rfl; rwa [zdd] at this
 . have := hcell 1 _ rfl; rwa [at_next ad 1 (by decide)] at this
 . have := hcell 2 _ rfl; rwa [at_next ad 2 (by decide)] at this
 . have := hcell 3 _ rfl; rwa [at_next ad 3 (by decide)] at this
 . have := hcell 4 _ rfl; rwa [at_next ad 4 (by decide)] at this

set_option maxHeartbeats 4000000 in
set_option maxRecDepth 100000 in
theorem zlp (x : zaA) (A : Option Addr) (c : Nat) (B : Option Addr) (d : Nat) (w : World) (h1 : Kd.C k24 w A 1 [x]) (h2 : Kd.C k24 w B 1 [x]) :
 Calls Tryz.prog 196 #[.slice A 1 c, .slice B 1 d, .func (.func 197) #[] #[]] w (zcd w) := by
 obtain ⟨ad, A2, c2, A3, c3, rfl, hA2, hA3, m0, m1, m2, m3, m4⟩ := zdO h1
 obtain ⟨bd, B2, d2, B3, d3, rfl, hB2, hB3, n0, n1, n2, n3, n4⟩ := zdO h2
 have hS : Hid (∀ W, Below w.heap.size w W -> Calls Tryz.prog 197 #[.agg #[.string x.f0, .int .i64 x.f1, .slice A2 x.f2.length c2, .slice A3 x.f3.length c3, .int .i64 x.f4], .agg #[.string x.f0, .int .i64 x.f1, .slice B2 x.f2.length d2, .slice B3 x.f3.length d3, .int .i64 x.f4]] W
  fun e w' => e = .returned (.bool true) /\ Below W.heap.size W w') := fun W hW => zkN x A2 c2 A3 c3 B2 d2 B3 d3 W (Kd.C_below hA2 hW) (Kd.C_below hA3 hW) (Kd.C_below hB2 hW) (Kd.C_below hB3 hW)
 clear h1 h2 hA2 hA3 hB2 hB3
 go_enter Tryz.func196, Tryz.ntmps196
 go_wp2_with fail
 go_loopg [17] 1 (fun gg s17 wr => ∃ kk : Nat, kk <= 1 /\ 1 - kk <= gg /\ s17 = .int .i64 kk /\ Aside0 (kk = 0 -> wr = w) /\ Aside0 (kk = 1 -> Below w.heap.size w wr))
 case atStart => exact ⟨0, by omega, by omega, rfl, ⟨fun _ => rfl⟩, ⟨fun h => by omega⟩⟩
 case round =>
  obtain ⟨kk, hkk, hgk, rfl, HP0, HP1⟩ := hrel
  by_cases h0 : kk = 0
  . subst h0
    obtain rfl := HP0.out rfl
    clear HP0 HP1
    have p0 := zcp n0
    have p1 := zcp n1
    have p2 := zcp n2
    have p3 := zcp n3
    have p4 := zcp n4
    have hb := ((Below.refl wr.heap.size wr).alloc (Nat.le_refl _) (.cells #[.string x.f0, .int .i64 x.f1, .slice A2 x.f2.length c2, .slice A3 x.f3.length c3, .int .i64 x.f4] 24)).alloc (by rw [World.size_alloc]; omega) (.cells #[.string x.f0, .int .i64 x.f1, .slice B2 x.f2.length d2, .slice B3 x.f3.length d3, .int .i64 x.f4] 24)
    have HB := znM hb
    have hcall := hS.out _ hb
    clear hb
    go_wp2_with (go_at_call 197; refine hcall.mono ?_; rintro e w2 ⟨rfl, hb2⟩; have HB2 := znM (zad HB.out HB.out.size hb2); clear hb2)
    go_roundg 0
    case measure => omega
    case rel => exact ⟨1, by omega, by omega, by first | rfl | go_num, ⟨fun h => by omega⟩, ⟨fun _ => HB2.out⟩⟩
  . obtain rfl : kk = 1 := by omega
    have HB := znM (HP1.out rfl)
    clear HP0 HP1
    go_wp2_with fail
    go_ret
    exact ⟨rfl, HB.out⟩

set_option maxHeartbeats 8000000 in
set_option maxRecDepth 100000 in
theorem zla (f0 : ByteArray) (l1 l2 l3 : List ByteArray) (x : zaA) (A1 : Option Addr) (c1 : Nat) (A2 : Option Addr) (c2 : Nat) (A3 : Option Addr) (c3 : Nat) (A4 : Option Addr) (c4 : Nat) (B1 : Option Addr) (d1 : Nat) (B2 : Option Addr) (d2 : Nat) (B3 : Option Addr) (d3 : Nat) (B4 : Option Addr) (d4 : Nat) (w : World)
 (h1 : Kd.C Kd.string w A1 l1.length l1) (h2 : Kd.C Kd.string w A2 l2.length l2) (h3 : Kd.C Kd.string w A3 l3.length l3) (h4 : Kd.C k24 w A4 1 [x])
 (g1 : Kd.C Kd.string w B1 l1.length l1) (g2 : Kd.C Kd.string w B2 l2.length l2) (g3 : Kd.C Kd.string w B3 l3.length l3) (g4 : Kd.C k24 w B4 1 [x]) :
 Calls Tryz.prog 146 #[.agg #[.string f0, .slice A1 l1.length c1, .slice A2 l2.length c2, .slice A3 l3.length c3, .slice A4 1 c4], .agg #[.string f0, .slice B1 l1.length d1, .slice B2 l2.length d2, .slice B3 l3.length d3, .slice B4 1 d4]] w (zcd w) := by
 have hb1 := (Below.refl w.heap.size w).alloc (Nat.le_refl _) (.cells #[.string f0, .slice A1 l1.length c1, .slice A2 l2.length c2, .slice A3 l3.length c3, .slice A4 1 c4] 45)
 have hb2 := hb1.alloc hb1.size (.cells #[.string f0, .slice B1 l1.length d1, .slice B2 l2.length d2, .slice B3 l3.length d3, .slice B4 1 d4] 45)
 have hk := zat (zan w (.cells #[.string f0, .slice A1 l1.length c1, .slice A2 l2.length c2, .slice A3 l3.length c3, .slice A4 1 c4] 45)) (.cells #[.string f0, .slice B1 l1.length d1, .slice B2 l2.length d2, .slice B3 l3.length d3, .slice B4 1 d4] 45)
 have hz := zan (w.alloc (.cells #[.string f0, .slice A1 l1.length c1, .slice A2 l2.length c2, .slice A3 l3.length c3, .slice A4 1 c4] 45)) (.cells #[.string f0, .slice B1 l1.length d1, .slice B2 l2.length d2, .slice B3 l3.length d3, .slice B4 1 d4] 45)
 rw [World.size_alloc] at hz
 have HB2 := znM hb2
 have HK2 := znM hk
 have HZ2 := znM hz
 have hE1 : Hid (∀ W, Below w.heap.size w W -> Calls Tryz.prog 195 #[.slice A1 l1.length c1, .slice B1 l1.length d1] W fun e w' => e = .returned (.bool true) /\ Below W.heap.size W w') := fun W hW => zdB A1 c1 B1 d1 l1 W (Kd.C_below h1 hW) (Kd.C_below g1 hW)
 have hE2 : Hid (∀ W, Below w.heap.size w W -> Calls Tryz.prog 195 #[.slice A2 l2.length c2, .slice B2 l2.length d2] W fun e w' => e = .returned (.bool true) /\ Below W.heap.size W w') := fun W hW => zdB A2 c2 B2 d2 l2 W (Kd.C_below h2 hW) (Kd.C_below g2 hW)
 have hE3 : Hid (∀ W, Below w.heap.size w W -> Calls Tryz.prog 195 #[.slice A3 l3.length c3, .slice B3 l3.length d3] W fun e w' => e = .returned (.bool true) /\ Below W.heap.size W w') := fun W hW => zdB A3 c3 B3 d3 l3 W (Kd.C_below h3 hW) (Kd.C_below g3 hW)
 have hE4 : Hid (∀ W, Below w.heap.size w W -> Calls Tryz.prog 196 #[.slice A4 1 c4, .slice B4 1 d4, .func (.func 197) #[] #[]] W (zcd W)) := fun W hW => zlp x A4 c4 B4 d4 W (Kd.C_below h4 hW) (Kd.C_below g4 hW)
 clear hb1 hb2 hk hz h1 h2 h3 h4 g1 g2 g3 g4
 go_enter Tryz.func146, Tryz.ntmps146
 go_wp2_with fail
 generalize (w.alloc (.cells #[.string f0, .slice A1 l1.length c1, .slice A2 l2.length c2, .slice A3 l3.length c3, .slice A4 1 c4] 45)).alloc (.cells #[.string f0, .slice B1 l1.length d1, .slice B2 l2.length d2, .slice B3 l3.length d3, .slice B4 1 d4] 45) = w2 at HB2 HK2 HZ2 |-
 refine (hE1.out _ HB2.out).mono ?_
 rintro e w3 ⟨rfl, hb3⟩
 have HB3 := znM (zad HB2.out HB2.out.size hb3)
 have HK3 := znM (zah HK2.out hb3)
 have HZ3 := znM (zah HZ2.out hb3)
 have k3 : w3.cell? ⟨w.heap.size, 2, none⟩ = some (.slice A2 l2.length c2) := (zab HK3.out 2).trans rfl
 have j3 : w3.cell? ⟨w.heap.size + 1, 2, none⟩ = some (.slice B2 l2.length d2) := (zab HZ3.out 2).trans rfl
 clear hb3
 go_wp2_with fail
 refine (hE2.out _ HB3.out).mono ?_
 rintro e w4 ⟨rfl, hb4⟩
 have HB4 := znM (zad HB3.out HB3.out.size hb4)
 have HK4 := znM (zah HK3.out hb4)
 have HZ4 := znM (zah HZ3.out hb4)
 have k4 : w4.cell? ⟨w.heap.size, 3, none⟩ = some (.slice A3 l3.length c3) := (zab HK4.out 3).trans rfl
 have j4 : w4.cell? ⟨w.heap.size + 1, 3, none⟩ = some (.slice B3 l3.length d3) := (zab HZ4.out 3).trans rfl
 clear hb4
 go_wp2_with fail
 refine (hE3.out _ HB4.out).mono ?_
 rintro e w5 ⟨rfl, hb5⟩
 have HB5 := znM (zad HB4.out HB4.out.size hb5)
 have HK5 := znM (zah HK4.out hb5)
 have HZ5 := znM (zah HZ4.out hb5)
 have k5 : w5.cell? ⟨w.heap.size, 4, none⟩ = some (.slice A4 1 c4) := (zab HK5.out 4).trans rfl
 have j5 : w5.cell? ⟨w.heap.size + 1, 4, none⟩ = some (.slice B4 1 d4) := (zab HZ5.out 4).trans rfl
 clear hb5
 go_wp2_with fail
 refine (hE4.out _ HB5.out).mono ?_
 rintro e w6 ⟨rfl, hb6⟩
 have HB6 := znM (zad HB5.out HB5.out.size hb6)
 clear hb6
 go_wp2_with fail
 go_ret
 exact ⟨rfl, HB6.out⟩

set_option maxHeartbeats 8000000 in
set_option maxRecDepth 100000 in
theorem zl6 (f0 : ByteArray) (l1 l2 l3 : List ByteArray) (x : zaA) (A : Option Addr) (c : Nat) (B : Option Addr) (d : Nat) (w : World) (h1 : Kd.C k45 w A 1 [⟨f0, l1, l2, l3, [x]⟩]) (h2 : Kd.C k45 w B 1 [⟨f0, l1, l2, l3, [x]⟩]) :
 Calls Tryz.prog 145 #[.slice A 1 c, .slice B 1 d, .func (.func 146) #[] #[]] w (zcd w) := by
 obtain ⟨ad, A1, c1, A2, c2, A3, c3, A4, c4, rfl, hA1, hA2, hA3, hA4, m0, m1, m2, m3, m4⟩ := zdx h1
 obtain ⟨bd, B1, d1, B2, d2, B3, d3, B4, d4, rfl, hB1, hB2, hB3, hB4, n0, n1, n2, n3, n4⟩ := zdx h2
 replace m0 : w.cell? ad = some (.string f0) := m0
 replace m1 : w.cell? ⟨ad.block, ad.off + 1, none⟩ = some (.slice A1 l1.length c1) := m1
 replace m2 : w.cell? ⟨ad.block, ad.off + 2, none⟩ = some (.slice A2 l2.length c2) := m2
 replace m3 : w.cell? ⟨ad.block, ad.off + 3, none⟩ = some (.slice A3 l3.length c3) := m3
 replace m4 : w.cell? ⟨ad.block, ad.off + 4, none⟩ = some (.slice A4 1 c4) := m4
 replace n0 : w.cell? bd = some (.string f0) := n0
 replace n1 : w.cell? ⟨bd.block, bd.off + 1, none⟩ = some (.slice B1 l1.length d1) := n1
 replace n2 : w.cell? ⟨bd.block, bd.off + 2, none⟩ = some (.slice B2 l2.length d2) := n2
 replace n3 : w.cell? ⟨bd.block, bd.off + 3, none⟩ = some (.slice B3 l3.length d3) := n3
 replace n4 : w.cell? ⟨bd.block, bd.off + 4, none⟩ = some (.slice B4 1 d4) := n4
 have hS : Hid (∀ W, Below w.heap.size w W -> Calls Tryz.prog 146 #[.agg #[.string f0, .slice A1 l1.length c1, .slice A2 l2.length c2, .slice A3 l3.length c3, .slice A4 1 c4], .agg #[.string f0, .slice B1 l1.length d1, .slice B2 l2.length d2, .slice B3 l3.length d3, .slice B4 1 d4]] W (zcd W)) := fun W hW => zla f0 l1 l2 l3 x A1 c1 A2 c2 A3 c3 A4 c4 B1 d1 B2 d2 B3 d3 B4 d4 W (Kd.C_below hA1 hW) (Kd.C_below hA2 hW) (Kd.C_below hA3 hW) (Kd.C_below hA4 hW) (Kd.C_below hB1 hW) (Kd.C_below hB2 hW) (Kd.C_below hB3 hW) (Kd.C_below hB4 hW)
 clear h1 h2 hA1 hA2 hA3 hA4 hB1 hB2 hB3 hB4
 go_enter Tryz.func145, Tryz.ntmps145
 go_wp2_with fail
 go_loopg [17] 1 (fun gg s17 wr => ∃ kk : Nat, kk <= 1 /\ 1 - kk <= gg /\ s17 = .int .i64 kk /\ Aside0 (kk = 0 -> wr = w) /\ Aside0 (kk = 1 -> Below w.heap.size w wr))
 case atStart => exact ⟨0, by omega, by omega, rfl, ⟨fun _ => rfl⟩, ⟨fun h => by omega⟩⟩
 case round =>
  obtain ⟨kk, hkk, hgk, rfl, HP0, HP1⟩ := hrel
  by_cases h0 : kk = 0
  . subst h0
    obtain rfl := HP0.out rfl
    clear HP0 HP1
    have p0 := zcp n0
    have p1 := zcp n1
    have p2 := zcp n2
    have p3 := zcp n3
    have p4 := zcp n4
    have hb := ((Below.refl wr.heap.size wr).alloc (Nat.le_refl _) (.cells #[.string f0, .slice A1 l1.length c1, .slice A2 l2.length c2, .slice A3 l3.length c3, .slice A4 1 c4] 45)).alloc (by rw [World.size_alloc]; omega) (.cells #[.string f0, .slice B1 l1.length d1, .slice B2 l2.length d2, .slice B3 l3.length d3, .slice B4 1 d4] 45)
    have HB := znM hb
    have hcall := hS.out _ hb
    clear hb
    go_wp2_with (go_at_call 146; refine hcall.mono ?_; rintro e w2 ⟨rfl, hb2⟩; have HB2 := znM (zad HB.out HB.out.size hb2); clear hb2)
    go_roundg 0
    case measure => omega
    case rel => exact ⟨1, by omega, by omega, by first | rfl | go_num, ⟨fun h => by omega⟩, ⟨fun _ => HB2.out⟩⟩
  . obtain rfl : kk = 1 := by omega
    have HB := znM (HP1.out rfl)
    clear HP0 HP1
    go_wp2_with fail
    go_ret
    exact ⟨rfl, HB.out⟩
set_option maxHeartbeats 1000000 in
theorem zkF (f0 : ByteArray) (l1 l2 l3 : List ByteArray) (x : zaA) (A : Option Addr) (c : Nat) (B : Option Addr) (d : Nat) (w : World) (h1 : Kd.C k45 w A 1 [⟨f0, l1, l2, l3, [x]⟩]) (h2 : Kd.C k45 w B 1 [⟨f0, l1, l2, l3, [x]⟩]) :
 Calls Tryz.prog 117 #[.slice A 1 c, .slice B 1 d] w (zcd w) := by
 have hE := zl6 f0 l1 l2 l3 x A c B d w h1 h2
 clear h1 h2
 go_enter Tryz.func117, Tryz.ntmps117
 go_wp2_with fail
 refine hE.mono ?_
 rintro e w2 ⟨rfl, hb2⟩
 go_wp2_with fail
 go_ret
 exact ⟨rfl, hb2⟩
end Go.Proofs.YtdpgdnpddndeoaaGreatDoor.X

namespace Go.Proofs.YtdpgdnpddndeoaaGreatDoor.X
open Go.RowKit Go.Maps
def begW : zaa := [97, 32, 34, 92, 120, 52, 49, 34, 32, 59]
theorem zk8 : allR (allF begW) = ([⟨1, 0, ⟨#[97]⟩⟩, ⟨2, 2, ⟨#[65]⟩⟩, ⟨3, 9, ⟨#[59]⟩⟩, ⟨4, 10, ⟨#[]⟩⟩], 0, 0) := by kernel_rfl
def begS : zaa := "rule r { in b, a; out x; # no\n x = select \"q\\n\" a; }".toUTF8.data.toList
def begX : zaA := ⟨⟨#[120]⟩, 7, [⟨#[97]⟩], [⟨#[113, 10]⟩], 0⟩
theorem zmJ : zb3 begS = ([⟨⟨#[114]⟩, [⟨#[98]⟩, ⟨#[97]⟩], [⟨#[120]⟩], [], [begX]⟩], 0, 0) := by kernel_rfl
def begE : zaa := "rule in {".toUTF8.data.toList
theorem zkm : zb3 begE = ([], 1, 5) := by kernel_rfl
theorem begOp : opF ⟨#[99, 111, 117, 110, 116]⟩ = 4 := by kernel_rfl
theorem zlO : zbd 4 = ⟨#[99, 111, 117, 110, 116]⟩ := by kernel_rfl
theorem begQ : zdU [97, 34, 10] = [34, 97, 92, 34, 92, 110, 34] := by kernel_rfl
theorem znC : zcO begX = "x = select \"q\\n\" a;".toUTF8.data.toList := by kernel_rfl

def bB : ByteArray := ⟨#[98]⟩
def bA : ByteArray := ⟨#[97]⟩
theorem zdX : zae [] = [] := by simp [zae]
theorem zdM (x : ByteArray) : zae [x] = [x] := by
 unfold zae
 rw [List.map_cons, List.map_nil, List.mergeSort_singleton]
 rfl
theorem zfh : zae [⟨#[98]⟩, ⟨#[97]⟩] = [⟨#[97]⟩, ⟨#[98]⟩] := by
 unfold zae
 show List.map mk (List.mergeSort [[98], [97]] _) = _
 simp [List.mergeSort, List.MergeSort.Internal.splitInTwo, List.merge]
 first | done | decide
theorem zgb : zae [⟨#[97]⟩, ⟨#[98]⟩] = [⟨#[97]⟩, ⟨#[98]⟩] := by
 unfold zae
 show List.map mk (List.mergeSort [[97], [98]] _) = _
 simp [List.mergeSort, List.MergeSort.Internal.splitInTwo, List.merge]
 first | done | decide
theorem znq : zcT ⟨#[114]⟩ [⟨#[97]⟩, ⟨#[98]⟩] [⟨#[120]⟩] [] begX = "rule r {\n  in a, b;\n  out x;\n  x = select \"q\\n\" a;\n}\n".toUTF8.data.toList := by
 unfold zcT zcM
 rw [zgb, zdM, zdX]
 kernel_rfl
theorem begSmall : zfG ⟨#[114]⟩ [⟨#[97]⟩, ⟨#[98]⟩] [⟨#[120]⟩] [] begX := by
 constructor
 . decide
 . decide
 . decide
 . decide
 . rw [zgb]; decide
 . rw [zdM]; decide
 . rw [zdX]; decide
 . decide
 . decide
 . decide
 . intro y hy
   obtain rfl : y = ⟨#[113, 10]⟩ := by simpa [begX] using hy
   refine ⟨by decide, fun c hc => ?_⟩
   have : c = 113 \/ c = 10 := by simpa using hc
   rcases this with rfl | rfl
   . right; right; decide
   . left; rfl
 . decide

end Go.Proofs.YtdpgdnpddndeoaaGreatDoor.X

namespace Go.Proofs.YtdpgdnpddndeoaaGreatDoor.X
open Go.RowKit Go.Maps Go.Proofs.YtdpgdnpddndeoaaGreatDoorW.PrintWords Go.Proofs.YtdpgdnpddndeoaaGreatDoorW.PrintMore Go.Proofs.YtdpgdnpddndeoaaGreatDoorW.PrintLast
set_option maxHeartbeats 1000000 in
theorem zf6 (w : World) (hG : GOK w) : Calls Tryz.prog 112 #[] w (zcd w) := by
 have hB := shipwrightlaw1_begun.calls true w hG rfl
 clear hG
 go_enter Tryz.func112, Tryz.ntmps112
 go_wp2_with fail
 refine hB.mono ?_
 rintro e w2 ⟨rfl, hb2⟩
 go_wp2_with fail
 go_ret
 exact ⟨rfl, hb2⟩

theorem zmh (w : World) : Calls Tryz.prog 113 #[.string ⟨#[97, 34, 10]⟩] w fun e w' => e = .returned (.string ⟨#[34, 97, 92, 34, 92, 110, 34]⟩) /\ Below w.heap.size w w' := by
 have h := zhB ⟨#[97, 34, 10]⟩ (by decide) (fun c hc => by
  have : c = 97 \/ c = 34 \/ c = 10 := by simpa using hc
  rcases this with rfl | rfl | rfl
  . right; right; decide
  . right; right; decide
  . left; rfl) w
 rw [show zdU (⟨#[97, 34, 10]⟩ : ByteArray).data.toList = _ from begQ] at h
 exact h
def begR : zai := ⟨⟨#[114]⟩, [⟨#[98]⟩, ⟨#[97]⟩], [⟨#[120]⟩], [], [begX]⟩
def zfe : zai := ⟨⟨#[114]⟩, [⟨#[97]⟩, ⟨#[98]⟩], [⟨#[120]⟩], [], [begX]⟩
theorem zmW (A : Option Addr) (c : Nat) (w : World) (hG : GOK w) (h : Kd.C k45 w A 1 [begR]) :
 Calls Tryz.prog 114 #[.slice A 1 c] w fun e w' => e = .returned (.string ⟨#[114, 117, 108, 101, 32, 114, 32, 123, 10, 32, 32, 105, 110, 32, 97, 44, 32, 98, 59, 10, 32, 32, 111, 117, 116, 32, 120, 59, 10, 32, 32, 120, 32, 61, 32, 115, 101, 108, 101, 99, 116, 32, 34, 113, 92, 110, 34, 32, 97, 59, 10, 125, 10]⟩) /\ Below w.heap.size w w' := by
 have hc := zki ⟨#[114]⟩ [⟨#[98]⟩, ⟨#[97]⟩] [⟨#[120]⟩] [] begX A c w hG h (by decide) (by decide) (by decide) (by rw [zfh, zdM, zdX]; exact begSmall)
 rw [zfh, zdM, zdX, znq] at hc
 rw [show mk "rule r {\n  in a, b;\n  out x;\n  x = select \"q\\n\" a;\n}\n".toUTF8.data.toList = ⟨#[114, 117, 108, 101, 32, 114, 32, 123, 10, 32, 32, 105, 110, 32, 97, 44, 32, 98, 59, 10, 32, 32, 111, 117, 116, 32, 120, 59, 10, 32, 32, 120, 32, 61, 32, 115, 101, 108, 101, 99, 116, 32, 34, 113, 92, 110, 34, 32, 97, 59, 10, 125, 10]⟩ from by kernel_rfl] at hc
 exact hc
theorem zgw (A : Option Addr) (c : Nat) (w : World) (h : Kd.C k45 w A 1 [begR]) :
 Calls Tryz.prog 118 #[.slice A 1 c] w fun e w' => ∃ X d, e = .returned (.slice X 1 d) /\ Kd.C k45 w' X 1 [zfe] /\ Below w.heap.size w w' := by
 have hc := zin ⟨#[114]⟩ [⟨#[98]⟩, ⟨#[97]⟩] [⟨#[120]⟩] [] begX A c w h (by decide) (by decide) (by decide) (by decide) (by decide)
 rw [zfh, zdM, zdX] at hc
 refine hc.mono ?_
 rintro e w2 ⟨X, d, rfl, hR, hb⟩
 obtain ⟨X', d', e', _, hC⟩ := Kd.R_reads hR
 injection e' with e1 e2 e3
 subst e1 e3
 exact ⟨X, d, rfl, hC, hb⟩
theorem zjh (A : Option Addr) (c : Nat) (B : Option Addr) (d : Nat) (w : World) (h : Kd.C k45 w A 1 [zfe]) (h2 : Kd.C k45 w B 1 [zfe]) :
 Calls Tryz.prog 117 #[.slice A 1 c, .slice B 1 d] w (zcd w) :=
 zkF ⟨#[114]⟩ [⟨#[97]⟩, ⟨#[98]⟩] [⟨#[120]⟩] [] begX A c B d w h h2
theorem zm7 (A2 : Option Addr) (c2 : Nat) (A3 : Option Addr) (c3 : Nat) (w : World) (hG : GOK w) (h2 : Kd.C Kd.string w A2 1 [⟨#[97]⟩]) (h3 : Kd.C Kd.string w A3 1 [⟨#[113, 10]⟩]) :
 Calls Tryz.prog 119 #[.agg #[.string ⟨#[120]⟩, .int .i64 7, .slice A2 1 c2, .slice A3 1 c3, .int .i64 0]] w fun e w' => e = .returned (.string ⟨#[120, 32, 61, 32, 115, 101, 108, 101, 99, 116, 32, 34, 113, 92, 110, 34, 32, 97, 59]⟩) /\ Below w.heap.size w w' := by
 have hc := zil begX A2 c2 A3 c3 w hG h2 h3 begSmall.s1 begSmall.sp begSmall.s2 begSmall.s3 (Nat.le_trans begSmall.sj (by omega))
 rw [znC] at hc
 rw [show mk "x = select \"q\\n\" a;".toUTF8.data.toList = ⟨#[120, 32, 61, 32, 115, 101, 108, 101, 99, 116, 32, 34, 113, 92, 110, 34, 32, 97, 59]⟩ from by kernel_rfl] at hc
 exact hc
theorem zeM (ad : Addr) (n : Nat) (hn : 0 < n) : ad.add n = ⟨ad.block, ad.off + n, none⟩ := by
 have := at_next ad n hn (m := 0)
 simpa using this
set_option maxHeartbeats 8000000 in
set_option maxRecDepth 100000 in
theorem zmp (w : World) (hG : GOK w) : Calls Tryz.prog 75 #[] w (zcd w) := by
 have HG := znM hG
 clear hG
 have hF := fun W hW => zhj ⟨begS.toArray⟩ W hW
 rw [show zb3 (⟨begS.toArray⟩ : ByteArray).data.toList = _ from zmJ] at hF
 have hX := fun W hW => zhj ⟨begE.toArray⟩ W hW
 rw [show zb3 (⟨begE.toArray⟩ : ByteArray).data.toList = _ from zkm] at hX
 have hA := fun W => zg3 ⟨#[97, 32, 34, 92, 120, 52, 49, 34, 32, 59]⟩ (by decide) W
 rw [show allR (allF (⟨#[97, 32, 34, 92, 120, 52, 49, 34, 32, 59]⟩ : ByteArray).data.toList) = _ from zk8] at hA
 go_enter Tryz.func75, Tryz.ntmps75
 go_wp2_with fail
 refine (hA _).mono ?_
 rintro e w1 ⟨v, rfl, hR, hb1⟩
 obtain ⟨A, c, rfl, _, hr1⟩ := Kd.R_reads hR
 have hE1 := zan w1 (.cells #[.int .i64 0, .int .i64 0] 133)
 have hb2 := (Below.refl w1.heap.size w1).alloc (Nat.le_refl _) (.cells #[.int .i64 0, .int .i64 0] 133)
 have hr2 := Kd.C_below hr1 hb2
 replace hb2 := zad hb1 hb1.size hb2
 have HE2 := znM hE1
 have HR2 := znM hr2
 have HB2 := znM hb2
 clear hA hR hb1 hr1 hE1 hr2 hb2
 go_wp2_with fail
 generalize w1.alloc (.cells #[.int .i64 0, .int .i64 0] 133) = w2 at HE2 HR2 HB2 |-
 generalize w1.heap.size = E1 at HE2 |-
 refine (hF _ (HG.out.below HB2.out)).mono ?_
 rintro e w3 ⟨v, rfl, hR, hb3⟩
 obtain ⟨AR, cR, rfl, _, hr3⟩ := Kd.R_reads hR
 have hE3 := zan w3 (.cells #[.int .i64 0, .int .i64 0] 133)
 have hb4 := (Below.refl w3.heap.size w3).alloc (Nat.le_refl _) (.cells #[.int .i64 0, .int .i64 0] 133)
 have HE4a := znM (zat (zah HE2.out hb3) (.cells #[.int .i64 0, .int .i64 0] 133))
 have HR4a := znM (Kd.C_below (Kd.C_below HR2.out hb3) hb4)
 have HR4b := znM (Kd.C_below hr3 hb4)
 have HE4b := znM hE3
 have HB4 := znM (zad (zad HB2.out HB2.out.size hb3) (zad HB2.out HB2.out.size hb3).size hb4)
 clear hF hR hb3 hr3 hE3 hb4 HE2 HR2 HB2
 go_wp2_with fail
 generalize w3.alloc (.cells #[.int .i64 0, .int .i64 0] 133) = w4 at HE4a HE4b HR4a HR4b HB4 |-
 generalize w3.heap.size = E2 at HE4b |-
 refine (hX _ (HG.out.below HB4.out)).mono ?_
 rintro e w5 ⟨v, rfl, hR, hb5⟩
 obtain ⟨AX, cX, rfl, _, _⟩ := Kd.R_reads hR
 have hE5 := zan w5 (.cells #[.int .i64 1, .int .i64 5] 133)
 have hb6 := (Below.refl w5.heap.size w5).alloc (Nat.le_refl _) (.cells #[.int .i64 1, .int .i64 5] 133)
 have HE6a := znM (zat (zah HE4a.out hb5) (.cells #[.int .i64 1, .int .i64 5] 133))
 have HE6b := znM (zat (zah HE4b.out hb5) (.cells #[.int .i64 1, .int .i64 5] 133))
 have HR6a := znM (Kd.C_below (Kd.C_below HR4a.out hb5) hb6)
 have HR6b := znM (Kd.C_below (Kd.C_below HR4b.out hb5) hb6)
 have HE6c := znM hE5
 have HB6 := znM (zad (zad HB4.out HB4.out.size hb5) (zad HB4.out HB4.out.size hb5).size hb6)
 clear hX hR hb5 hE5 hb6 HE4a HE4b HR4a HR4b HB4
 obtain ⟨ad, A1, c1, A2, c2, A3, c3, A4, c4, rfl, -, -, -, hA4, m0, m1, m2, m3, m4⟩ := zdx HR6b.out
 obtain ⟨bd, B2, d2, B3, d3, rfl, -, hB3, n0, n1, n2, n3, n4⟩ := zdO hA4
 have m4' : (w5.alloc (.cells #[.int .i64 1, .int .i64 5] 133)).cell? ⟨ad.block, ad.off + 4, none⟩ = some (.slice (some bd) 1 c4) := m4
 have n3' : (w5.alloc (.cells #[.int .i64 1, .int .i64 5] 133)).cell? ⟨bd.block, bd.off + 3, none⟩ = some (.slice B3 1 d3) := n3
 have HB7 := fun W (hW : Below (w5.alloc (.cells #[.int .i64 1, .int .i64 5] 133)).heap.size (w5.alloc (.cells #[.int .i64 1, .int .i64 5] 133)) W) => zf6 W
 clear m0 m1 m2 m3 m4 n0 n1 n2 n3 n4 hA4 hB3 HB7
 go_wp2_with fail
 generalize w5.alloc (.cells #[.int .i64 1, .int .i64 5] 133) = w6 at HE6a HE6b HE6c HR6a HR6b HB6 m4' n3' |-
 generalize w5.heap.size = E3 at HE6c |-
 clear m4' n3'
 refine (zf6 _ (HG.out.below HB6.out)).mono ?_
 rintro e w7 ⟨rfl, hb7⟩
 have HE7a := znM (zah HE6a.out hb7)
 have HE7b := znM (zah HE6b.out hb7)
 have HE7c := znM (zah HE6c.out hb7)
 have HR7a := znM (Kd.C_below HR6a.out hb7)
 have HR7b := znM (Kd.C_below HR6b.out hb7)
 have HB7 := znM (zad HB6.out HB6.out.size hb7)
 clear hb7 HE6a HE6b HE6c HR6a HR6b HB6
 obtain ⟨aw, rfl, p10, _, p12⟩ := ze2 HR7a.out 1 (by simp) (by simp)
 obtain ⟨aw2, e2, _, p21, _⟩ := ze2 HR7a.out 2 (by simp) (by simp)
 obtain rfl := Option.some.inj e2
 obtain ⟨aw3, e3, p30, _, _⟩ := ze2 HR7a.out 3 (by simp) (by simp)
 obtain rfl := Option.some.inj e3
 clear e2 e3
 rw [show (1 : Int).toNat * 3 = 3 from rfl, zeM _ 3 (by decide)] at p10 p12
 rw [show (2 : Int).toNat * 3 = 6 from rfl, zeM _ 6 (by decide)] at p21
 rw [show (3 : Int).toNat * 3 = 9 from rfl, zeM _ 9 (by decide)] at p30
 replace p10 : w7.cell? ⟨aw.block, aw.off + 3, none⟩ = some (.int .i64 2) := p10
 replace p12 : w7.cell? ⟨aw.block, aw.off + 3 + 2, none⟩ = some (.string ⟨#[65]⟩) := p12
 replace p21 : w7.cell? ⟨aw.block, aw.off + 6 + 1, none⟩ = some (.int .i64 9) := p21
 replace p30 : w7.cell? ⟨aw.block, aw.off + 9, none⟩ = some (.int .i64 4) := p30
 have k1 : w7.cell? ⟨E1, 0, none⟩ = some (.int .i64 0) := (zab HE7a.out 0).trans rfl
 go_wp2_with fail
 refine (zmh _).mono ?_
 rintro e w8 ⟨rfl, hb8⟩
 have HE8b := znM (zah HE7b.out hb8)
 have HE8c := znM (zah HE7c.out hb8)
 have HR8b := znM (Kd.C_below HR7b.out hb8)
 have HB8 := znM (zad HB7.out HB7.out.size hb8)
 clear hb8 HE7a HE7b HE7c HR7a HR7b HB7 p10 p12 p21 p30 k1
 have hw : ∃ A1 c1 bd c4 B3 d3, w8.cell? ⟨ad.block, ad.off + 1, none⟩ = some (.slice A1 2 c1) /\ w8.cell? ⟨ad.block, ad.off + 4, none⟩ = some (.slice (some bd) 1 c4) /\ w8.cell? ⟨bd.block, bd.off + 3, none⟩ = some (.slice (some B3) 1 d3) /\ w8.cell? B3 = some (.string ⟨#[113, 10]⟩) := by
  obtain ⟨ad', A1, c1, A2, c2, A3, c3, A4, c4, e', -, -, -, hA4, m0, m1, m2, m3, m4⟩ := zdx HR8b.out
  obtain rfl := Option.some.inj e'
  obtain ⟨bd, B2, d2, B3, d3, rfl, -, hB3, n0, n1, n2, n3, n4⟩ := zdO hA4
  obtain ⟨B, cs, rfl, hcl, hK, hcell⟩ := Kd.C_get hB3 (⟨#[113, 10]⟩ : ByteArray) 0 (by decide) (by decide)
  refine ⟨A1, c1, bd, c4, B, d3, m1, m4, n3, ?_⟩
  have := hcell 0 _ (show cs[0]? = some (.string ⟨#[113, 10]⟩) from by rw [show cs = [.string ⟨#[113, 10]⟩] from hK]; rfl)
  rwa [zdd] at this
 obtain ⟨A1, c1, bd, c4, B3, d3, m1, m4, n3, n30⟩ := hw
 have k20 : w8.cell? ⟨E2, 0, none⟩ = some (.int .i64 0) := (zab HE8b.out 0).trans rfl
 have k30 : w8.cell? ⟨E3, 0, none⟩ = some (.int .i64 1) := (zab HE8c.out 0).trans rfl
 have k31 : w8.cell? ⟨E3, 1, none⟩ = some (.int .i64 5) := (zab HE8c.out 1).trans rfl
 go_wp2_with fail
 refine (zmW _ _ _ (HG.out.below HB8.out) HR8b.out).mono ?_
 rintro e w9 ⟨rfl, hb9⟩
 have HR9 := znM (Kd.C_below HR8b.out hb9)
 have HB9 := znM (zad HB8.out HB8.out.size hb9)
 clear hb9 HE8b HE8c HR8b HB8 m1 m4 n3 n30 k20 k30 k31
 go_wp2_with fail
 refine (ze7 _ _).mono ?_
 rintro e w10 ⟨rfl, hw⟩
 rw [begOp]
 have hb10 : Below w9.heap.size w9 w10 := by rw [hw]; exact (Below.refl _ _).alloc (Nat.le_refl _) _
 have HR10 := znM (Kd.C_below HR9.out hb10)
 have HB10 := znM (zad HB9.out HB9.out.size hb10)
 clear hw hb10 HR9 HB9
 go_wp2_with fail
 refine (ziv _ _).mono ?_
 rintro e w11 ⟨rfl, hb11⟩
 rw [zlO]
 have HR11 := znM (Kd.C_below HR10.out hb11)
 have HB11 := znM (zad HB10.out HB10.out.size hb11)
 clear hb11 HR10 HB10
 go_wp2_with fail
 refine (zgw _ _ _ HR11.out).mono ?_
 rintro e w12 ⟨X, dX, rfl, hX, hb12⟩
 have HR12 := znM (Kd.C_below HR11.out hb12)
 have HX12 := znM hX
 have HB12 := znM (zad HB11.out HB11.out.size hb12)
 clear hb12 hX HR11 HB11
 go_wp2_with fail
 refine (zgw _ _ _ HR12.out).mono ?_
 rintro e w13 ⟨Y, dY, rfl, hY, hb13⟩
 have HR13 := znM (Kd.C_below HR12.out hb13)
 have HX13 := znM (Kd.C_below HX12.out hb13)
 have HY13 := znM hY
 have HB13 := znM (zad HB12.out HB12.out.size hb13)
 clear hb13 hY HR12 HX12 HB12
 go_wp2_with fail
 refine (zjh _ _ _ _ _ HX13.out HY13.out).mono ?_
 rintro e w14 ⟨rfl, hb14⟩
 have HR14 := znM (Kd.C_below HR13.out hb14)
 have HB14 := znM (zad HB13.out HB13.out.size hb14)
 clear hb14 HR13 HX13 HY13 HB13
 have hw : ∃ bd c4 B2 d2 B3 d3, w14.cell? ⟨ad.block, ad.off + 4, none⟩ = some (.slice (some bd) 1 c4) /\ w14.cell? bd = some (.string ⟨#[120]⟩) /\ w14.cell? ⟨bd.block, bd.off + 1, none⟩ = some (.int .i64 7) /\ w14.cell? ⟨bd.block, bd.off + 2, none⟩ = some (.slice B2 1 d2) /\ w14.cell? ⟨bd.block, bd.off + 3, none⟩ = some (.slice B3 1 d3) /\ w14.cell? ⟨bd.block, bd.off + 4, none⟩ = some (.int .i64 0) /\ Kd.C Kd.string w14 B2 1 [⟨#[97]⟩] /\ Kd.C Kd.string w14 B3 1 [⟨#[113, 10]⟩] := by
  obtain ⟨ad', A1, c1, A2, c2, A3, c3, A4, c4, e', -, -, -, hA4, m0, m1, m2, m3, m4⟩ := zdx HR14.out
  obtain rfl := Option.some.inj e'
  obtain ⟨bd, B2, d2, B3, d3, rfl, hB2, hB3, n0, n1, n2, n3, n4⟩ := zdO hA4
  exact ⟨bd, c4, B2, d2, B3, d3, m4, n0, n1, n2, n3, n4, hB2, hB3⟩
 obtain ⟨bd, c4, B2, d2, B3, d3, m4, n0, n1, n2, n3, n4, hB2, hB3⟩ := hw
 have hS := zm7 B2 d2 B3 d3 w14 (HG.out.below HB14.out) hB2 hB3
 clear hB2 hB3
 go_wp2_with fail
 refine hS.mono ?_
 rintro e w15 ⟨rfl, hb15⟩
 have HB15 := znM (zad HB14.out HB14.out.size hb15)
 clear hb15
 go_wp2_with fail
 go_ret
 exact ⟨rfl, HB15.out⟩

end Go.Proofs.YtdpgdnpddndeoaaGreatDoor.X

namespace Go.Proofs.YtdpgdnpddndeoaaGreatDoor.X
open Go.RowKit Go.Maps Go.Proofs.YtdpgdnpddndeoaaGreatDoorW.PrintWords Go.Proofs.YtdpgdnpddndeoaaGreatDoorW.PrintMore Go.Proofs.YtdpgdnpddndeoaaGreatDoorW.PrintLast
set_option linter.unusedSimpArgs false
theorem zeb {α : Type} (d : Kd α) (w : World) : Kd.C d w none 0 [] := ⟨rfl, Nat.zero_le _, fun hp => absurd hp (Nat.lt_irrefl _)⟩
theorem zbW (W : World) (l : List ByteArray) (hl : l.length <= 1000) : Kd.C Kd.string (W.alloc (.cells (l.map Value.string).toArray 9)) (some ⟨W.heap.size, 0, none⟩) l.length l :=
 zbJ Kd.string W 9 l (l.map Value.string) (Kd.reps_scalar l) (by omega)
theorem zaI (W : World) (o : Obj) : Below W.heap.size W (W.alloc o) := (Below.refl _ _).alloc (Nat.le_refl _) o
def stepV (x : zaA) (A : Option Addr) : List Value := [.string x.f0, .int .i64 x.f1, .slice A x.f2.length x.f2.length, .slice none 0 0, .int .i64 x.f4]
theorem zez (W : World) (x : zaA) (A : Option Addr) (h3 : x.f3 = []) (h : Kd.C Kd.string W A x.f2.length x.f2) : Kd.K k24 W x (stepV x A) := by
 have := zkU W x (Nat.le_refl x.f2.length) h (A3 := none) (c3 := 0) (by rw [h3]; exact Nat.le_refl _) (by rw [h3]; exact zeb Kd.string W)
 rw [h3] at this
 exact this
def zd7 (s : Nat) : Array Value := #[.string ⟨#[116]⟩, .int .i64 3, .slice (some ⟨s + 1 + 1, 0, none⟩) 1 1, .slice none 0 0, .int .i64 0, .string ⟨#[120]⟩, .int .i64 4, .slice (some ⟨s + 1 + 1 + 1, 0, none⟩) 1 1, .slice none 0 0, .int .i64 0, .string ⟨#[121]⟩, .int .i64 2, .slice (some ⟨s + 1 + 1 + 1 + 1, 0, none⟩) 1 1, .slice none 0 0, .int .i64 0]
def r7W (w : World) : World := (((((w.alloc (.cells #[.string ⟨#[97]⟩, .string ⟨#[98]⟩] 9)).alloc (.cells #[.string ⟨#[120]⟩, .string ⟨#[121]⟩] 9)).alloc (.cells #[.string ⟨#[97]⟩] 9)).alloc (.cells #[.string ⟨#[116]⟩] 9)).alloc (.cells #[.string ⟨#[98]⟩] 9)).alloc (.cells (zd7 w.heap.size) 24)
theorem zbj (w : World) (o : Obj) : (w.alloc o).heap.size = w.heap.size + 1 := by simp
theorem znv (w : World) : RuleAt R7 (some ⟨w.heap.size, 0, none⟩) (some ⟨w.heap.size + 1, 0, none⟩) none (some ⟨w.heap.size + 1 + 1 + 1 + 1 + 1, 0, none⟩) (r7W w) /\ Below w.heap.size w (r7W w) /\ (r7W w).heap.size = w.heap.size + 1 + 1 + 1 + 1 + 1 + 1 := by
 obtain ⟨wA, hA⟩ : ∃ wA, wA = w.alloc (.cells #[.string ⟨#[97]⟩, .string ⟨#[98]⟩] 9) := ⟨_, rfl⟩
 obtain ⟨wB, hB⟩ : ∃ wB, wB = wA.alloc (.cells #[.string ⟨#[120]⟩, .string ⟨#[121]⟩] 9) := ⟨_, rfl⟩
 obtain ⟨wC, hC⟩ : ∃ wC, wC = wB.alloc (.cells #[.string ⟨#[97]⟩] 9) := ⟨_, rfl⟩
 obtain ⟨wD, hD⟩ : ∃ wD, wD = wC.alloc (.cells #[.string ⟨#[116]⟩] 9) := ⟨_, rfl⟩
 obtain ⟨wE, hE⟩ : ∃ wE, wE = wD.alloc (.cells #[.string ⟨#[98]⟩] 9) := ⟨_, rfl⟩
 have e : r7W w = wE.alloc (.cells (zd7 w.heap.size) 24) := by rw [hE, hD, hC, hB, hA]; rfl
 have sA : wA.heap.size = w.heap.size + 1 := by rw [hA, zbj]
 have sB : wB.heap.size = w.heap.size + 1 + 1 := by rw [hB, zbj, sA]
 have sC : wC.heap.size = w.heap.size + 1 + 1 + 1 := by rw [hC, zbj, sB]
 have sD : wD.heap.size = w.heap.size + 1 + 1 + 1 + 1 := by rw [hD, zbj, sC]
 have sE : wE.heap.size = w.heap.size + 1 + 1 + 1 + 1 + 1 := by rw [hE, zbj, sD]
 have bA : Below w.heap.size w wA := by rw [hA]; exact zaI w _
 have bB : Below wA.heap.size wA wB := by rw [hB]; exact zaI wA _
 have bC : Below wB.heap.size wB wC := by rw [hC]; exact zaI wB _
 have bD : Below wC.heap.size wC wD := by rw [hD]; exact zaI wC _
 have bE : Below wD.heap.size wD wE := by rw [hE]; exact zaI wD _
 have bF : Below wE.heap.size wE (r7W w) := by rw [e]; exact zaI wE _
 have cA : Kd.C Kd.string wA (some ⟨w.heap.size, 0, none⟩) 2 [⟨#[97]⟩, ⟨#[98]⟩] := by rw [hA]; exact zbW w [⟨#[97]⟩, ⟨#[98]⟩] (by decide)
 have cB : Kd.C Kd.string wB (some ⟨w.heap.size + 1, 0, none⟩) 2 [⟨#[120]⟩, ⟨#[121]⟩] := by rw [hB, <- sA]; exact zbW wA [⟨#[120]⟩, ⟨#[121]⟩] (by decide)
 have cC : Kd.C Kd.string wC (some ⟨w.heap.size + 1 + 1, 0, none⟩) 1 [⟨#[97]⟩] := by rw [hC, <- sB]; exact zbW wB [⟨#[97]⟩] (by decide)
 have cD : Kd.C Kd.string wD (some ⟨w.heap.size + 1 + 1 + 1, 0, none⟩) 1 [⟨#[116]⟩] := by rw [hD, <- sC]; exact zbW wC [⟨#[116]⟩] (by decide)
 have cE : Kd.C Kd.string wE (some ⟨w.heap.size + 1 + 1 + 1 + 1, 0, none⟩) 1 [⟨#[98]⟩] := by rw [hE, <- sD]; exact zbW wD [⟨#[98]⟩] (by decide)
 have cF : Kd.C k24 (r7W w) (some ⟨w.heap.size + 1 + 1 + 1 + 1 + 1, 0, none⟩) 3 R7.f4 := by
  rw [e, <- sE]
  refine zbJ k24 wE 24 R7.f4 (zd7 w.heap.size).toList ?_ (by decide)
  exact Reps.snoc (Reps.snoc (Reps.snoc (Reps.none _ _) (zez wE ⟨⟨#[116]⟩, 3, [⟨#[97]⟩], [], 0⟩ _ rfl (Kd.C_below (Kd.C_below cC bD) bE)) rfl) (zez wE ⟨⟨#[120]⟩, 4, [⟨#[116]⟩], [], 0⟩ _ rfl (Kd.C_below cD bE)) rfl) (zez wE ⟨⟨#[121]⟩, 2, [⟨#[98]⟩], [], 0⟩ _ rfl cE) rfl
 refine ⟨⟨Kd.C_below (Kd.C_below (Kd.C_below (Kd.C_below (Kd.C_below cA bB) bC) bD) bE) bF, Kd.C_below (Kd.C_below (Kd.C_below (Kd.C_below cB bC) bD) bE) bF, zeb Kd.string _, cF⟩, ?_, by rw [e, zbj, sE]⟩
 exact zad (zad (zad (zad (zad bA (by omega) bB) (by omega) bC) (by omega) bD) (by omega) bE) (by omega) bF

theorem fit7 : FitR R7 := ⟨by decide, by decide, by decide, by decide, by decide, by decide⟩
theorem fitS : FitR S7 := ⟨by decide, by decide, by decide, by decide, by decide, by decide⟩
theorem fits1 : zcf [R7] := ⟨by decide, fun r hr => by rw [List.mem_singleton.1 hr]; exact ⟨fit7, by decide, by decide, fun x hx => by cases hx⟩⟩
theorem fits2 : zcf [S7, R7] := ⟨by decide, fun r hr => by
 rcases List.mem_cons.1 hr with rfl | hr
 . exact ⟨fitS, by decide, by decide, fun x hx => by cases hx⟩
 . rw [List.mem_singleton.1 hr]; exact ⟨fit7, by decide, by decide, fun x hx => by cases hx⟩⟩
theorem mean7 : Mean [R7] rk7 := by
 refine ⟨fits1, fun r hr o ho => ?_, fun r hr o ho i hi => ?_⟩
 . rw [List.mem_singleton.1 hr] at ho |-
   have ho' : o ∈ [(⟨#[120]⟩ : ByteArray), ⟨#[121]⟩] := ho
   rcases List.mem_cons.1 ho' with rfl | ho'
   . rfl
   . rw [List.mem_singleton.1 ho']; rfl
 . rw [List.mem_singleton.1 hr] at ho hi
   have ho' : o ∈ [(⟨#[120]⟩ : ByteArray), ⟨#[121]⟩] := ho
   have hi' : i ∈ [(⟨#[97]⟩ : ByteArray), ⟨#[98]⟩] := hi
   rcases List.mem_cons.1 ho' with rfl | ho' <;> rcases List.mem_cons.1 hi' with rfl | hi'
   . decide
   . rw [List.mem_singleton.1 hi']; decide
   . rw [List.mem_singleton.1 ho']; decide
   . rw [List.mem_singleton.1 hi', List.mem_singleton.1 ho']; decide
theorem zfd (W : World) (l : List SVal) (hl : l.length <= 1000) : Kd.C k34 (W.alloc (.cells (l.flatMap fun v => [Value.bool v.f0, .string v.f1]).toArray 34)) (some ⟨W.heap.size, 0, none⟩) l.length l := by
 refine zbJ k34 W 34 l _ ?_ (by omega)
 clear hl
 have key : ∀ (l a : List SVal) (cs : List Value), Reps (Kd.K k34 W) 2 a cs -> Reps (Kd.K k34 W) 2 (a ++ l) (cs ++ l.flatMap fun v => [Value.bool v.f0, .string v.f1]) := by
  intro l
  induction l with
  | nil => intro a cs h; simpa using h
  | cons v r ih =>
   intro a cs h
   have := ih (a ++ [v]) (cs ++ [.bool v.f0, .string v.f1]) (Reps.snoc h (zfc W v) rfl)
   rw [List.append_assoc, List.append_assoc] at this
   exact this
 exact key l [] [] (Reps.none _ _)

theorem zgH {B1 B2 B4 : Option Addr} {W : World} (h : RuleAt R7 B1 B2 none B4 W) : Kd.K k45 W R7 [.string ⟨#[114]⟩, .slice B1 2 2, .slice B2 2 2, .slice none 0 0, .slice B4 3 3] :=
 zhI W R7 (c1 := 2) (by decide) h.h1 (c2 := 2) (by decide) h.h2 (c3 := 0) (by decide) h.h3 (c4 := 3) (by decide) h.h4
theorem zhU {B1 B2 B4 : Option Addr} {W : World} (h : RuleAt R7 B1 B2 none B4 W) : Kd.C k45 (W.alloc (.cells #[.string ⟨#[114]⟩, .slice B1 2 2, .slice B2 2 2, .slice none 0 0, .slice B4 3 3] 45)) (some ⟨W.heap.size, 0, none⟩) 1 [R7] :=
 zbJ k45 W 45 [R7] [.string ⟨#[114]⟩, .slice B1 2 2, .slice B2 2 2, .slice none 0 0, .slice B4 3 3] (Reps.snoc (Reps.none _ _) (zgH h) rfl) (by decide)
def zds (s : Nat) : Array Value := #[.string ⟨#[97]⟩, .int .i64 1, .slice (some ⟨s + 1 + 1, 0, none⟩) 1 1, .slice none 0 0, .int .i64 0]
def s7W (w : World) : World := (((w.alloc (.cells #[.string ⟨#[97]⟩] 9)).alloc (.cells #[.string ⟨#[120]⟩] 9)).alloc (.cells #[.string ⟨#[120]⟩] 9)).alloc (.cells (zds w.heap.size) 24)
theorem zk9 (w : World) : RuleAt S7 (some ⟨w.heap.size + 1, 0, none⟩) (some ⟨w.heap.size, 0, none⟩) none (some ⟨w.heap.size + 1 + 1 + 1, 0, none⟩) (s7W w) /\ Below w.heap.size w (s7W w) /\ (s7W w).heap.size = w.heap.size + 1 + 1 + 1 + 1 := by
 obtain ⟨wA, hA⟩ : ∃ wA, wA = w.alloc (.cells #[.string ⟨#[97]⟩] 9) := ⟨_, rfl⟩
 obtain ⟨wB, hB⟩ : ∃ wB, wB = wA.alloc (.cells #[.string ⟨#[120]⟩] 9) := ⟨_, rfl⟩
 obtain ⟨wC, hC⟩ : ∃ wC, wC = wB.alloc (.cells #[.string ⟨#[120]⟩] 9) := ⟨_, rfl⟩
 have e : s7W w = wC.alloc (.cells (zds w.heap.size) 24) := by rw [hC, hB, hA]; rfl
 have sA : wA.heap.size = w.heap.size + 1 := by rw [hA, zbj]
 have sB : wB.heap.size = w.heap.size + 1 + 1 := by rw [hB, zbj, sA]
 have sC : wC.heap.size = w.heap.size + 1 + 1 + 1 := by rw [hC, zbj, sB]
 have bA : Below w.heap.size w wA := by rw [hA]; exact zaI w _
 have bB : Below wA.heap.size wA wB := by rw [hB]; exact zaI wA _
 have bC : Below wB.heap.size wB wC := by rw [hC]; exact zaI wB _
 have bF : Below wC.heap.size wC (s7W w) := by rw [e]; exact zaI wC _
 have cA : Kd.C Kd.string wA (some ⟨w.heap.size, 0, none⟩) 1 [⟨#[97]⟩] := by rw [hA]; exact zbW w [⟨#[97]⟩] (by decide)
 have cB : Kd.C Kd.string wB (some ⟨w.heap.size + 1, 0, none⟩) 1 [⟨#[120]⟩] := by rw [hB, <- sA]; exact zbW wA [⟨#[120]⟩] (by decide)
 have cC : Kd.C Kd.string wC (some ⟨w.heap.size + 1 + 1, 0, none⟩) 1 [⟨#[120]⟩] := by rw [hC, <- sB]; exact zbW wB [⟨#[120]⟩] (by decide)
 have cF : Kd.C k24 (s7W w) (some ⟨w.heap.size + 1 + 1 + 1, 0, none⟩) 1 S7.f4 := by
  rw [e, <- sC]
  refine zbJ k24 wC 24 S7.f4 (zds w.heap.size).toList ?_ (by decide)
  exact Reps.snoc (Reps.none _ _) (zez wC ⟨⟨#[97]⟩, 1, [⟨#[120]⟩], [], 0⟩ _ rfl cC) rfl
 refine ⟨⟨Kd.C_below (Kd.C_below cB bC) bF, Kd.C_below (Kd.C_below (Kd.C_below cA bB) bC) bF, zeb Kd.string _, cF⟩, ?_, by rw [e, zbj, sC]⟩
 exact zad (zad (zad bA (by omega) bB) (by omega) bC) (by omega) bF
set_option maxHeartbeats 1000000 in
theorem ziL (w : World) (hG : GOK w) : Calls Tryz.prog 51 #[] w (zcd w) := by
 have h := zmp w hG
 go_enter Tryz.func51, Tryz.ntmps51
 go_wp2_with (first | (go_at_call 75; refine h.mono ?_; rintro e w2 ⟨rfl, hb2⟩))
 go_ret
 exact ⟨rfl, hb2⟩
theorem ze5 {w : World} {A : Option Addr} {l : List SVal} (h : Kd.C k34 w A l.length l) (hp : 0 < l.length) : ∃ b o, A = some ⟨b, o, none⟩ /\ ∀ i (hi : i < l.length), w.cell? ⟨b, o + i * 2, none⟩ = some (.bool l[i].f0) /\ w.cell? ⟨b, o + i * 2 + 1, none⟩ = some (.string l[i].f1) := by
 obtain ⟨b, o, rfl, _, _⟩ := zdk h 0 hp
 refine ⟨b, o, rfl, fun i hi => ?_⟩
 obtain ⟨b', o', e, h0, h1⟩ := zdk h i hi
 cases e
 exact ⟨h0, h1⟩
set_option maxHeartbeats 16000000 in
set_option maxRecDepth 100000 in
theorem ziu (w : World) (hG : GOK w) : Calls Tryz.prog 16 #[] w fun e w' => e = .returned (.bool true) /\ Below w.heap.size w w' := by
 obtain ⟨hR, hB, hS⟩ := znv w
 have HX := znM (zan (r7W w) (.cells #[.string ⟨#[114]⟩, .slice (some ⟨w.heap.size, 0, none⟩) 2 2, .slice (some ⟨w.heap.size + 1, 0, none⟩) 2 2, .slice none 0 0, .slice (some ⟨w.heap.size + 1 + 1 + 1 + 1 + 1, 0, none⟩) 3 3] 45))
 have HR := znM (hR.below (zaI (r7W w) (.cells #[.string ⟨#[114]⟩, .slice (some ⟨w.heap.size, 0, none⟩) 2 2, .slice (some ⟨w.heap.size + 1, 0, none⟩) 2 2, .slice none 0 0, .slice (some ⟨w.heap.size + 1 + 1 + 1 + 1 + 1, 0, none⟩) 3 3] 45)))
 have HG := znM hG
 rw [hS] at HX
 have HB := znM (zad hB hB.size (zaI (r7W w) (.cells #[.string ⟨#[114]⟩, .slice (some ⟨w.heap.size, 0, none⟩) 2 2, .slice (some ⟨w.heap.size + 1, 0, none⟩) 2 2, .slice none 0 0, .slice (some ⟨w.heap.size + 1 + 1 + 1 + 1 + 1, 0, none⟩) 3 3] 45)))
 clear hR hB hS hG
 go_enter Tryz.func16, Tryz.ntmps16
 go_upto_region 2 with fail
 unfold r7W zd7 at HX HR HB
 obtain ⟨w1, hw1⟩ : ∃ w1, w1 = (((((((w.alloc (.cells #[.string ⟨#[97]⟩, .string ⟨#[98]⟩] 9)).alloc (.cells #[.string ⟨#[120]⟩, .string ⟨#[121]⟩] 9)).alloc (.cells #[.string ⟨#[97]⟩] 9)).alloc (.cells #[.string ⟨#[116]⟩] 9)).alloc (.cells #[.string ⟨#[98]⟩] 9)).alloc (.cells #[.string ⟨#[116]⟩, .int .i64 3, .slice (some ⟨w.heap.size + 1 + 1, 0, none⟩) 1 1, .slice none 0 0, .int .i64 0, .string ⟨#[120]⟩, .int .i64 4, .slice (some ⟨w.heap.size + 1 + 1 + 1, 0, none⟩) 1 1, .slice none 0 0, .int .i64 0, .string ⟨#[121]⟩, .int .i64 2, .slice (some ⟨w.heap.size + 1 + 1 + 1 + 1, 0, none⟩) 1 1, .slice none 0 0, .int .i64 0] 24)).alloc (.cells #[.string ⟨#[114]⟩, .slice (some ⟨w.heap.size, 0, none⟩) 2 2, .slice (some ⟨w.heap.size + 1, 0, none⟩) 2 2, .slice none 0 0, .slice (some ⟨w.heap.size + 1 + 1 + 1 + 1 + 1, 0, none⟩) 3 3] 45)) := ⟨_, rfl⟩
 rw [<- hw1] at HX HR HB |-
 clear hw1
 generalize w.heap.size + 1 + 1 + 1 + 1 + 1 + 1 = X at HX |-
 generalize (some (⟨w.heap.size, 0, none⟩ : Addr)) = B1 at HX HR |-
 generalize (some (⟨w.heap.size + 1, 0, none⟩ : Addr)) = B2 at HX HR |-
 generalize (some (⟨w.heap.size + 1 + 1 + 1 + 1 + 1, 0, none⟩ : Addr)) = B4 at HX HR |-
 have HCs : Hid (∀ W, Below w1.heap.size w1 W -> W.cell? ⟨X, 0, none⟩ = some (.string ⟨#[114]⟩) /\ W.cell? ⟨X, 1, none⟩ = some (.slice B1 2 2) /\ W.cell? ⟨X, 2, none⟩ = some (.slice B2 2 2) /\ W.cell? ⟨X, 3, none⟩ = some (.slice none 0 0) /\ W.cell? ⟨X, 4, none⟩ = some (.slice B4 3 3)) := znM (fun W hW =>
  ⟨(zab (zah HX.out hW) 0).trans rfl, (zab (zah HX.out hW) 1).trans rfl, (zab (zah HX.out hW) 2).trans rfl, (zab (zah HX.out hW) 3).trans rfl, (zab (zah HX.out hW) 4).trans rfl⟩)
 -- run.Of
 have hb2 := zaI w1 (.cells #[.bool true, .string ⟨#[113, 10, 112]⟩, .bool true, .string ⟨#[]⟩] 34)
 have hv2 : Kd.C k34 (w1.alloc (.cells #[.bool true, .string ⟨#[113, 10, 112]⟩, .bool true, .string ⟨#[]⟩] 34)) (some ⟨w1.heap.size, 0, none⟩) 2 [⟨true, ⟨#[113, 10, 112]⟩⟩, ⟨true, ⟨#[]⟩⟩] := zfd w1 [⟨true, ⟨#[113, 10, 112]⟩⟩, ⟨true, ⟨#[]⟩⟩] (by decide)
 have hR2 := HR.out.below hb2
 have hOf := zft R7 B1 2 B2 2 none 0 B4 3 (some ⟨w1.heap.size, 0, none⟩) 2 [⟨true, ⟨#[113, 10, 112]⟩⟩, ⟨true, ⟨#[]⟩⟩] _ ((HG.out.below HB.out).below hb2) hR2.h1 hR2.h2 hR2.h4 hv2 fit7 (by decide)
 rw [sv_of] at hOf
 have HOf := znM hOf
 have HB2 := znM hb2
 obtain ⟨x0, x1, x2, x3, x4⟩ := HCs.out w1 (Below.refl _ _)
 obtain ⟨y0, y1, y2, y3, y4⟩ := HCs.out _ hb2
 clear hb2 hv2 hR2 hOf
 go_upto_region 3 with (first | (go_at_call 34; refine HOf.out.mono ?_; rintro e w2 ⟨v2, rfl, hR2, hb2⟩; have HV2 := znM hR2; have HB2 := znM (zad HB2.out HB2.out.size hb2); clear hR2 hb2))
 obtain ⟨V2, d2, he2, _, hC2⟩ := Kd.R_reads HV2.out
 replace he2 : v2 = .slice V2 2 d2 := he2
 subst he2
 have HV2C : Hid (Kd.C k34 w2 V2 2 [⟨true, ⟨#[50, 10]⟩⟩, ⟨false, ⟨#[]⟩⟩]) := znM hC2
 -- run.Named
 have hb3a := zaI w2 (.cells #[.string ⟨#[98]⟩] 9)
 have hb3b := hb3a.alloc hb3a.size (.cells #[.bool true, .string ⟨#[122]⟩] 34)
 have hs3 : (w2.alloc (.cells #[.string ⟨#[98]⟩] 9)).heap.size = w2.heap.size + 1 := zbj _ _
 have hv3 : Kd.C k34 ((w2.alloc (.cells #[.string ⟨#[98]⟩] 9)).alloc (.cells #[.bool true, .string ⟨#[122]⟩] 34)) (some ⟨(w2.alloc (.cells #[.string ⟨#[98]⟩] 9)).heap.size, 0, none⟩) 1 [⟨true, ⟨#[122]⟩⟩] := zfd (w2.alloc (.cells #[.string ⟨#[98]⟩] 9)) [⟨true, ⟨#[122]⟩⟩] (by decide)
 have hi3 : Kd.C Kd.string (w2.alloc (.cells #[.string ⟨#[98]⟩] 9)) (some ⟨w2.heap.size, 0, none⟩) 1 [⟨#[98]⟩] := zbW w2 [⟨#[98]⟩] (by decide)
 rw [hs3] at hv3
 have hB3 := zad HB2.out HB2.out.size hb3b
 have hR3 := HR.out.below hB3
 have hNm := znt R7 B1 2 B2 2 none 0 B4 3 (some ⟨w2.heap.size, 0, none⟩) 1 [⟨#[98]⟩] (some ⟨w2.heap.size + 1, 0, none⟩) 1 [⟨true, ⟨#[122]⟩⟩] _ ((HG.out.below HB.out).below hB3) hR3.h1 hR3.h2 hR3.h4 (Kd.C_below hi3 (zaI _ _)) hv3 fit7 (by decide)
 rw [zll] at hNm
 have HNm := znM hNm
 have HB3 := znM hB3
 have HV2C := znM (Kd.C_below HV2C.out hb3b)
 obtain ⟨x0, x1, x2, x3, x4⟩ := HCs.out _ HB2.out
 obtain ⟨y0, y1, y2, y3, y4⟩ := HCs.out _ (zad HB2.out HB2.out.size hb3a)
 obtain ⟨z0, z1, z2, z3, z4⟩ := HCs.out _ hB3
 clear hb3a hb3b hs3 hv3 hi3 hB3 hR3 hNm hC2 HOf
 go_upto_region 4 with (first | (go_at_call 36; refine HNm.out.mono ?_; rintro e w3 ⟨v3, rfl, hR3, hb3⟩; have HV3 := znM hR3; have HB3 := znM (zad HB3.out HB3.out.size hb3); have HV2C := znM (Kd.C_below HV2C.out hb3); clear hR3 hb3))
 obtain ⟨V3, d3, he3, _, hC3⟩ := Kd.R_reads HV3.out
 replace he3 : v3 = .slice V3 2 d3 := he3
 subst he3
 have HV3C : Hid (Kd.C k34 w3 V3 2 [⟨false, ⟨#[]⟩⟩, ⟨true, ⟨#[122]⟩⟩]) := znM hC3
 clear hC3
 -- tree.New
 have hr4 : Kd.C k77 (w3.alloc (.cells #[.string ⟨#[97]⟩, .string ⟨#[50, 10, 49]⟩] 77)) (some ⟨w3.heap.size, 0, none⟩) 1 [⟨⟨#[97]⟩, ⟨#[50, 10, 49]⟩⟩] := zbJ k77 w3 77 [⟨⟨#[97]⟩, ⟨#[50, 10, 49]⟩⟩] [.string ⟨#[97]⟩, .string ⟨#[50, 10, 49]⟩] (Reps.snoc (Reps.none _ _) (zd0 w3 ⟨⟨#[97]⟩, ⟨#[50, 10, 49]⟩⟩) rfl) (by decide)
 have hb4 := zaI w3 (.cells #[.string ⟨#[97]⟩, .string ⟨#[50, 10, 49]⟩] 77)
 have hB4 := zad HB3.out HB3.out.size hb4
 have hNw := tree_New.calls (some ⟨w3.heap.size, 0, none⟩) 1 [⟨⟨#[97]⟩, ⟨#[50, 10, 49]⟩⟩] _ ((HG.out.below HB.out).below hB4) hr4 (by decide)
 have HNw := znM hNw
 have HB4 := znM hB4
 have HV2C := znM (Kd.C_below HV2C.out hb4)
 have HV3C := znM (Kd.C_below HV3C.out hb4)
 clear hr4 hb4 hB4 hNw HNm
 go_upto_region 5 with (first | (go_at_call 48; refine HNw.out.mono ?_; rintro e w4 ⟨gt, bt, rfl, hT4, _, _, hb4⟩; have HT4 := znM hT4; have HB4 := znM (zad HB4.out HB4.out.size hb4); have HV2C := znM (Kd.C_below HV2C.out hb4); have HV3C := znM (Kd.C_below HV3C.out hb4); clear hT4 hb4))
 have HTm : Hid (IsTree w4 gt bt [([97], [50, 10, 49])]) := znM (by have h := HT4.out; rw [show ([⟨⟨#[97]⟩, ⟨#[50, 10, 49]⟩⟩] : List S77).map zcH = [([97], [50, 10, 49])] from rfl, zng] at h; exact h)
 obtain ⟨x0, x1, x2, x3, x4⟩ := HCs.out _ HB4.out
 -- check.All of the one rule
 have hR4 := HR.out.below HB4.out
 have hb5 := zaI w4 (.cells #[.string ⟨#[114]⟩, .slice B1 2 2, .slice B2 2 2, .slice none 0 0, .slice B4 3 3] 45)
 have hAl := ze0 (some ⟨w4.heap.size, 0, none⟩) 1 [R7] _ (((HG.out.below HB.out).below HB4.out).below hb5) (zhU hR4) fits1
 rw [zh6] at hAl
 have HAl := znM hAl
 have HB5 := znM (zad HB4.out HB4.out.size hb5)
 have HV2C := znM (Kd.C_below HV2C.out hb5)
 have HV3C := znM (Kd.C_below HV3C.out hb5)
 have HTm := znM (HTm.out.below hb5)
 clear hb5 hAl hR4 HNw
 go_upto_region 8 with (first | (go_at_call 49; refine HAl.out.mono ?_; rintro e w5 ⟨rfl, hb5⟩; have HB5 := znM (zad HB5.out HB5.out.size hb5); have HV2C := znM (Kd.C_below HV2C.out hb5); have HV3C := znM (Kd.C_below HV3C.out hb5); have HTm := znM (HTm.out.below hb5); clear hb5))
 -- check.All of both rules
 obtain ⟨hS, hbS, hsS⟩ := zk9 w5
 have hB6 := zad HB5.out HB5.out.size hbS
 have hR6 := HR.out.below hB6
 have hb6 := zaI (s7W w5) (.cells #[.string ⟨#[115]⟩, .slice (some ⟨w5.heap.size + 1, 0, none⟩) 1 1, .slice (some ⟨w5.heap.size, 0, none⟩) 1 1, .slice none 0 0, .slice (some ⟨w5.heap.size + 1 + 1 + 1, 0, none⟩) 1 1, .string ⟨#[114]⟩, .slice B1 2 2, .slice B2 2 2, .slice none 0 0, .slice B4 3 3] 45)
 have hrow6 : Kd.C k45 ((s7W w5).alloc (.cells #[.string ⟨#[115]⟩, .slice (some ⟨w5.heap.size + 1, 0, none⟩) 1 1, .slice (some ⟨w5.heap.size, 0, none⟩) 1 1, .slice none 0 0, .slice (some ⟨w5.heap.size + 1 + 1 + 1, 0, none⟩) 1 1, .string ⟨#[114]⟩, .slice B1 2 2, .slice B2 2 2, .slice none 0 0, .slice B4 3 3] 45)) (some ⟨(s7W w5).heap.size, 0, none⟩) 2 [S7, R7] :=
  zbJ k45 (s7W w5) 45 [S7, R7] [.string ⟨#[115]⟩, .slice (some ⟨w5.heap.size + 1, 0, none⟩) 1 1, .slice (some ⟨w5.heap.size, 0, none⟩) 1 1, .slice none 0 0, .slice (some ⟨w5.heap.size + 1 + 1 + 1, 0, none⟩) 1 1, .string ⟨#[114]⟩, .slice B1 2 2, .slice B2 2 2, .slice none 0 0, .slice B4 3 3]
   (Reps.snoc (Reps.snoc (Reps.none _ _) (zhI (s7W w5) S7 (c1 := 1) (by decide) hS.h1 (c2 := 1) (by decide) hS.h2 (c3 := 0) (by decide) hS.h3 (c4 := 1) (by decide) hS.h4) rfl) (zgH hR6) rfl) (by decide)
 rw [hsS] at hrow6
 have hAl := ze0 (some ⟨w5.heap.size + 1 + 1 + 1 + 1, 0, none⟩) 2 [S7, R7] _ (((HG.out.below HB.out).below hB6).below hb6) hrow6 fits2
 rw [zlJ] at hAl
 have HB6 := znM (zad hB6 hB6.size hb6)
 have HV2C := znM (Kd.C_below (Kd.C_below HV2C.out hbS) hb6)
 have HV3C := znM (Kd.C_below (Kd.C_below HV3C.out hbS) hb6)
 have HTm := znM ((HTm.out.below hbS).below hb6)
 unfold s7W zds at hAl HB6 HV2C HV3C HTm
 have HAl2 := znM hAl
 obtain ⟨u0, u1, u2, u3, u4⟩ := HCs.out _ HB5.out
 have HCs6 : Hid (∀ W, Below w5.heap.size w5 W -> W.cell? ⟨X, 0, none⟩ = some (.string ⟨#[114]⟩) /\ W.cell? ⟨X, 1, none⟩ = some (.slice B1 2 2) /\ W.cell? ⟨X, 2, none⟩ = some (.slice B2 2 2) /\ W.cell? ⟨X, 3, none⟩ = some (.slice none 0 0) /\ W.cell? ⟨X, 4, none⟩ = some (.slice B4 3 3)) := znM (fun W hW => HCs.out W (zad HB5.out HB5.out.size hW))
 obtain ⟨p0, p1, p2, p3, p4⟩ := HCs6.out _ hbS
 unfold s7W zds at p0 p1 p2 p3 p4
 clear hS hbS hsS hB6 hR6 hb6 hrow6 hAl HAl
 go_upto_region 9 with (first | (go_at_call 49; refine HAl2.out.mono ?_; rintro e w6 ⟨rfl, hb6⟩; have HB6 := znM (zad HB6.out HB6.out.size hb6); have HV2C := znM (Kd.C_below HV2C.out hb6); have HV3C := znM (Kd.C_below HV3C.out hb6); have HTm := znM (HTm.out.below hb6); clear hb6))
 -- deno.Files
 clear p0 p1 p2 p3 p4 u0 u1 u2 u3 u4 HAl2
 have hR7 := HR.out.below HB6.out
 have hrow7 := zhU hR7
 have hb7 := zaI w6 (.cells #[.string ⟨#[114]⟩, .slice B1 2 2, .slice B2 2 2, .slice none 0 0, .slice B4 3 3] 45)
 have hb7b := hb7.alloc hb7.size (.cells #[.string ⟨#[120]⟩, .string ⟨#[97]⟩, .string ⟨#[121]⟩] 9)
 have hs7 := zbj w6 (.cells #[.string ⟨#[114]⟩, .slice B1 2 2, .slice B2 2 2, .slice none 0 0, .slice B4 3 3] 45)
 have hnm7 : Kd.C Kd.string ((w6.alloc (.cells #[.string ⟨#[114]⟩, .slice B1 2 2, .slice B2 2 2, .slice none 0 0, .slice B4 3 3] 45)).alloc (.cells #[.string ⟨#[120]⟩, .string ⟨#[97]⟩, .string ⟨#[121]⟩] 9)) (some ⟨(w6.alloc (.cells #[.string ⟨#[114]⟩, .slice B1 2 2, .slice B2 2 2, .slice none 0 0, .slice B4 3 3] 45)).heap.size, 0, none⟩) 3 [⟨#[120]⟩, ⟨#[97]⟩, ⟨#[121]⟩] := zbW _ [⟨#[120]⟩, ⟨#[97]⟩, ⟨#[121]⟩] (by decide)
 rw [hs7] at hnm7
 have hB7 := zad HB6.out HB6.out.size hb7b
 have hFl := zjj [R7] rk7 [([97], [50, 10, 49])] (some ⟨w6.heap.size, 0, none⟩) 1 gt bt (some ⟨w6.heap.size + 1, 0, none⟩) 3 [⟨#[120]⟩, ⟨#[97]⟩, ⟨#[121]⟩] _ ((HG.out.below HB.out).below hB7) (Kd.C_below hrow7 (zaI _ _)) (HTm.out.below hb7b) hnm7 fits1 (fun _ => mean7) (fun k v h => by
  unfold getT at h
  by_cases hk : ([97] : zaa) == k
  . simp [List.find?_cons, hk] at h
    rw [<- h]
    decide
  . simp [List.find?_cons, hk] at h) (by decide) (by decide)
 rw [zl8] at hFl
 have HFl := znM hFl
 have HB7 := znM hB7
 have HV2C := znM (Kd.C_below HV2C.out hb7b)
 have HV3C := znM (Kd.C_below HV3C.out hb7b)
 obtain ⟨p0, p1, p2, p3, p4⟩ := HCs.out _ HB6.out
 clear hR7 hrow7 hb7 hb7b hs7 hnm7 hB7 hFl
 go_upto_region 10 with (first | (go_at_call 50; refine HFl.out.mono ?_; rintro e w7 ⟨v7, rfl, hR7, hb7⟩; have HV7 := znM hR7; have HB7 := znM (zad HB7.out HB7.out.size hb7); have HV2C := znM (Kd.C_below HV2C.out hb7); have HV3C := znM (Kd.C_below HV3C.out hb7); clear hR7 hb7))
 obtain ⟨V7, d7, he7, _, hC7⟩ := Kd.R_reads HV7.out
 replace he7 : v7 = .slice V7 3 d7 := he7
 subst he7
 have HV7C : Hid (Kd.C k34 w7 V7 3 [⟨true, ⟨#[50, 10]⟩⟩, ⟨true, ⟨#[50, 10, 49]⟩⟩, ⟨false, ⟨#[]⟩⟩]) := znM hC7
 clear hC7 p0 p1 p2 p3 p4 HFl
 go_upto_region 12 with fail
 obtain ⟨b2, o2, rfl, hc2⟩ := ze5 HV2C.out (by decide)
 obtain ⟨b3, o3, rfl, hc3⟩ := ze5 HV3C.out (by decide)
 obtain ⟨b7, o7, rfl, hc7⟩ := ze5 HV7C.out (by decide)
 have HFa : Hid (∀ W, Below w7.heap.size w7 W -> (W.cell? ⟨b2, o2, none⟩ = some (.bool true) /\ W.cell? ⟨b2, o2 + 1, none⟩ = some (.string ⟨#[50, 10]⟩) /\ W.cell? ⟨b2, o2 + 2, none⟩ = some (.bool false) /\ W.cell? ⟨b3, o3, none⟩ = some (.bool false) /\ W.cell? ⟨b3, o3 + 3, none⟩ = some (.string ⟨#[122]⟩)) /\ (W.cell? ⟨b7, o7 + 1, none⟩ = some (.string ⟨#[50, 10]⟩) /\ W.cell? ⟨b7, o7 + 3, none⟩ = some (.string ⟨#[50, 10, 49]⟩) /\ W.cell? ⟨b7, o7 + 4, none⟩ = some (.bool false) /\ W.cell? ⟨b7, o7 + 5, none⟩ = some (.string ⟨#[]⟩)) /\ (W.cell? ⟨X, 0, none⟩ = some (.string ⟨#[114]⟩) /\ W.cell? ⟨X, 1, none⟩ = some (.slice B1 2 2) /\ W.cell? ⟨X, 2, none⟩ = some (.slice B2 2 2) /\ W.cell? ⟨X, 3, none⟩ = some (.slice none 0 0) /\ W.cell? ⟨X, 4, none⟩ = some (.slice B4 3 3))) := znM (fun W hW => by
  refine ⟨⟨?_, ?_, ?_, ?_, ?_⟩, ⟨?_, ?_, ?_, ?_⟩, HCs.out W (zad HB7.out HB7.out.size hW)⟩
  . exact zaf hW (hc2 0 (by decide)).1
  . exact zaf hW (hc2 0 (by decide)).2
  . exact zaf hW (hc2 1 (by decide)).1
  . exact zaf hW (hc3 0 (by decide)).1
  . exact zaf hW (hc3 1 (by decide)).2
  . exact zaf hW (hc7 0 (by decide)).2
  . exact zaf hW (hc7 1 (by decide)).2
  . exact zaf hW (hc7 2 (by decide)).1
  . exact zaf hW (hc7 2 (by decide)).2)
 have HRa : Hid (∀ W, Below w7.heap.size w7 W -> RuleAt R7 B1 B2 none B4 W /\ GOK W) := znM (fun W hW => ⟨HR.out.below (zad HB7.out HB7.out.size hW), (HG.out.below HB.out).below (zad HB7.out HB7.out.size hW)⟩)
 have HBw : Hid (Below w.heap.size w w7) := znM (zad HB.out HB.out.size HB7.out)
 clear hc2 hc3 hc7
 obtain ⟨b4, o4, C2, e2, C3, e3, rfl, t0, t1, t2, t3, t4, g2, g3⟩ := zc7 (HRa.out w7 (Below.refl _ _)).1.h4 0 (by decide)
 have HFs : Hid (∀ W, Below w7.heap.size w7 W -> W.cell? ⟨b4, o4, none⟩ = some (.string ⟨#[116]⟩) /\ W.cell? ⟨b4, o4 + 1, none⟩ = some (.int .i64 3) /\ W.cell? ⟨b4, o4 + 2, none⟩ = some (.slice C2 1 e2) /\ W.cell? ⟨b4, o4 + 3, none⟩ = some (.slice C3 0 e3) /\ W.cell? ⟨b4, o4 + 4, none⟩ = some (.int .i64 0)) := znM (fun W hW => ⟨zaf hW t0, zaf hW t1, zaf hW t2, zaf hW t3, zaf hW t4⟩)
 have HBg : Hid (∀ W, Below w7.heap.size w7 W -> Calls Tryz.prog 51 #[] W fun e w' => e = .returned (.bool true) /\ Below W.heap.size W w') := znM (fun W hW => ziL W (HRa.out W hW).2)
 have HSt : Hid (∀ W, Below w7.heap.size w7 W -> Calls Tryz.prog 39 #[.agg #[.string ⟨#[114]⟩, .slice B1 2 2, .slice B2 2 2, .slice none 0 0, .slice (some ⟨b4, o4, none⟩) 3 3], .string ⟨#[120]⟩] W fun e w' => ∃ A c, e = .returned (.slice A 2 c) /\ Below W.heap.size W w') := znM (fun W hW => (zlw R7 B1 2 B2 2 none 0 (some ⟨b4, o4, none⟩) 3 ⟨#[120]⟩ W (HRa.out W hW).1 fit7 (by decide)).mono fun e w' ⟨v, he, hv, hb⟩ => by
  obtain ⟨A, c, hv', _, _⟩ := Kd.R_reads hv
  exact ⟨A, c, by rw [he, hv', zkr], hb⟩)
 have HRd : Hid (∀ W, Below w7.heap.size w7 W -> Calls Tryz.prog 41 #[.agg #[.string ⟨#[114]⟩, .slice B1 2 2, .slice B2 2 2, .slice none 0 0, .slice (some ⟨b4, o4, none⟩) 3 3], .string ⟨#[120]⟩] W fun e w' => ∃ A c, e = .returned (.slice A 1 c) /\ Below W.heap.size W w') := znM (fun W hW => (zj5 R7 B1 2 B2 2 none 0 (some ⟨b4, o4, none⟩) 3 ⟨#[120]⟩ W (HRa.out W hW).1 fit7 (by decide)).mono fun e w' ⟨v, he, hv, hb⟩ => by
  obtain ⟨A, c, hv', _, _⟩ := Kd.R_reads hv
  exact ⟨A, c, by rw [he, hv', List.length_map, znG]; rfl, hb⟩)
 have HSa : Hid (∀ W, Below w7.heap.size w7 W -> Calls Tryz.prog 43 #[.agg #[.string ⟨#[114]⟩, .slice B1 2 2, .slice B2 2 2, .slice none 0 0, .slice (some ⟨b4, o4, none⟩) 3 3]] W fun e w' => ∃ A c, e = .returned (.slice A 2 c) /\ Below W.heap.size W w') := znM (fun W hW => (zmE R7 B1 2 B2 2 none 0 (some ⟨b4, o4, none⟩) 3 W (HRa.out W hW).1 fit7).mono fun e w' ⟨v, he, hv, hb⟩ => by
  obtain ⟨A, c, hv', _, _⟩ := Kd.R_reads hv
  exact ⟨A, c, by rw [he, hv', List.length_map, zk5]; rfl, hb⟩)
 have HDe : Hid (∀ W, Below w7.heap.size w7 W -> Calls Tryz.prog 44 #[.agg #[.string ⟨#[114]⟩, .slice B1 2 2, .slice B2 2 2, .slice none 0 0, .slice (some ⟨b4, o4, none⟩) 3 3]] W fun e w' => ∃ A c, e = .returned (.slice A 0 c) /\ Below W.heap.size W w') := znM (fun W hW => (zjy R7 B1 2 B2 2 none 0 (some ⟨b4, o4, none⟩) 3 W (HRa.out W hW).1 fit7).mono fun e w' ⟨v, he, hv, hb⟩ => by
  obtain ⟨A, c, hv', _, _⟩ := Kd.R_reads hv
  exact ⟨A, c, by rw [he, hv', zkd], hb⟩)
 have HEq : Hid (∀ W, Below w7.heap.size w7 W -> Calls Tryz.prog 52 #[.agg #[.bool false, .string ⟨#[]⟩], .agg #[.bool false, .string ⟨#[63]⟩]] W fun e w' => e = .returned (.bool true) /\ Below W.heap.size W w') := znM (fun W _ => zkq ⟨false, ⟨#[]⟩⟩ ⟨false, ⟨#[63]⟩⟩ W)
 have HRu : Hid (∀ W, Below w7.heap.size w7 W -> Calls Tryz.prog 46 #[.agg #[.string ⟨#[114]⟩, .slice B1 2 2, .slice B2 2 2, .slice none 0 0, .slice (some ⟨b4, o4, none⟩) 3 3]] W fun e w' => e = .returned (.int .i64 0) /\ Below W.heap.size W w') := znM (fun W hW => by
  have h := zgx R7 B1 2 B2 2 none 0 (some ⟨b4, o4, none⟩) 3 W (HRa.out W hW).2 (HRa.out W hW).1 ⟨by decide, by decide, by decide, by decide⟩ (by decide) (by decide)
  rw [zks] at h
  exact h)
 have HMa : Hid (∀ W, Below w7.heap.size w7 W -> Calls Tryz.prog 20 #[.agg #[.string ⟨#[116]⟩, .int .i64 3, .slice C2 1 e2, .slice C3 0 e3, .int .i64 0]] W fun e w' => e = .returned (.bool true) /\ Below W.heap.size W w') := znM (fun W hW => by
  have h := ze9 ⟨⟨#[116]⟩, 3, [⟨#[97]⟩], [], 0⟩ C2 e2 C3 e3 W (Kd.C_below g2 hW) (Kd.C_below g3 hW)
  rw [ziC] at h
  exact h)
 have HLi : Hid (∀ W, Below w7.heap.size w7 W -> Calls Tryz.prog 23 #[.string ⟨#[97, 10, 10, 98]⟩] W fun e w' => ∃ A c, e = .returned (.slice A 3 c) /\ Below W.heap.size W w') := znM (fun W hW => (zdH ⟨#[97, 10, 10, 98]⟩ W (HRa.out W hW).2 (by decide)).mono fun e w' ⟨v, he, hv, hb⟩ => by
  obtain ⟨A, c, hv', _, _⟩ := Kd.R_reads hv
  exact ⟨A, c, by rw [he, hv', zmn], hb⟩)
 have HX8 : Hid (Below w7.heap.size w7 w7) := znM (Below.refl _ _)
 obtain ⟨⟨f0, f1, f2, f3, f4⟩, ⟨f5, f6, f7, f8⟩, ⟨f9, f10, f11, f12, f13⟩⟩ := HFa.out _ HX8.out
 obtain ⟨s0, s1, s2, s3, s4⟩ := HFs.out _ HX8.out
 clear t0 t1 t2 t3 t4 g2 g3
 go_wp2_with (first
  | (go_at_call 51; refine (HBg.out _ HX8.out).mono ?_; rintro e w8 ⟨rfl, hb8⟩; have HX8 := znM (zad HX8.out HX8.out.size hb8); clear f0 f1 f2 f3 f4 f5 f6 f7 f8 f9 f10 f11 f12 f13 s0 s1 s2 s3 s4; obtain ⟨⟨f0, f1, f2, f3, f4⟩, ⟨f5, f6, f7, f8⟩, ⟨f9, f10, f11, f12, f13⟩⟩ := HFa.out _ HX8.out; obtain ⟨s0, s1, s2, s3, s4⟩ := HFs.out _ HX8.out; clear hb8)
  | (go_at_call 39; refine (HSt.out _ HX8.out).mono ?_; rintro e w8 ⟨A8, c8, rfl, hb8⟩; have HX8 := znM (zad HX8.out HX8.out.size hb8); clear f0 f1 f2 f3 f4 f5 f6 f7 f8 f9 f10 f11 f12 f13 s0 s1 s2 s3 s4; obtain ⟨⟨f0, f1, f2, f3, f4⟩, ⟨f5, f6, f7, f8⟩, ⟨f9, f10, f11, f12, f13⟩⟩ := HFa.out _ HX8.out; obtain ⟨s0, s1, s2, s3, s4⟩ := HFs.out _ HX8.out; clear hb8)
  | (go_at_call 41; refine (HRd.out _ HX8.out).mono ?_; rintro e w8 ⟨A8, c8, rfl, hb8⟩; have HX8 := znM (zad HX8.out HX8.out.size hb8); clear f0 f1 f2 f3 f4 f5 f6 f7 f8 f9 f10 f11 f12 f13 s0 s1 s2 s3 s4; obtain ⟨⟨f0, f1, f2, f3, f4⟩, ⟨f5, f6, f7, f8⟩, ⟨f9, f10, f11, f12, f13⟩⟩ := HFa.out _ HX8.out; obtain ⟨s0, s1, s2, s3, s4⟩ := HFs.out _ HX8.out; clear hb8)
  | (go_at_call 43; refine (HSa.out _ HX8.out).mono ?_; rintro e w8 ⟨A8, c8, rfl, hb8⟩; have HX8 := znM (zad HX8.out HX8.out.size hb8); clear f0 f1 f2 f3 f4 f5 f6 f7 f8 f9 f10 f11 f12 f13 s0 s1 s2 s3 s4; obtain ⟨⟨f0, f1, f2, f3, f4⟩, ⟨f5, f6, f7, f8⟩, ⟨f9, f10, f11, f12, f13⟩⟩ := HFa.out _ HX8.out; obtain ⟨s0, s1, s2, s3, s4⟩ := HFs.out _ HX8.out; clear hb8)
  | (go_at_call 44; refine (HDe.out _ HX8.out).mono ?_; rintro e w8 ⟨A8, c8, rfl, hb8⟩; have HX8 := znM (zad HX8.out HX8.out.size hb8); clear f0 f1 f2 f3 f4 f5 f6 f7 f8 f9 f10 f11 f12 f13 s0 s1 s2 s3 s4; obtain ⟨⟨f0, f1, f2, f3, f4⟩, ⟨f5, f6, f7, f8⟩, ⟨f9, f10, f11, f12, f13⟩⟩ := HFa.out _ HX8.out; obtain ⟨s0, s1, s2, s3, s4⟩ := HFs.out _ HX8.out; clear hb8)
  | (go_at_call 52; refine (HEq.out _ HX8.out).mono ?_; rintro e w8 ⟨rfl, hb8⟩; have HX8 := znM (zad HX8.out HX8.out.size hb8); clear f0 f1 f2 f3 f4 f5 f6 f7 f8 f9 f10 f11 f12 f13 s0 s1 s2 s3 s4; obtain ⟨⟨f0, f1, f2, f3, f4⟩, ⟨f5, f6, f7, f8⟩, ⟨f9, f10, f11, f12, f13⟩⟩ := HFa.out _ HX8.out; obtain ⟨s0, s1, s2, s3, s4⟩ := HFs.out _ HX8.out; clear hb8)
  | (go_at_call 46; refine (HRu.out _ HX8.out).mono ?_; rintro e w8 ⟨rfl, hb8⟩; have HX8 := znM (zad HX8.out HX8.out.size hb8); clear f0 f1 f2 f3 f4 f5 f6 f7 f8 f9 f10 f11 f12 f13 s0 s1 s2 s3 s4; obtain ⟨⟨f0, f1, f2, f3, f4⟩, ⟨f5, f6, f7, f8⟩, ⟨f9, f10, f11, f12, f13⟩⟩ := HFa.out _ HX8.out; obtain ⟨s0, s1, s2, s3, s4⟩ := HFs.out _ HX8.out; clear hb8)
  | (go_at_call 20; refine (HMa.out _ HX8.out).mono ?_; rintro e w8 ⟨rfl, hb8⟩; have HX8 := znM (zad HX8.out HX8.out.size hb8); clear f0 f1 f2 f3 f4 f5 f6 f7 f8 f9 f10 f11 f12 f13 s0 s1 s2 s3 s4; obtain ⟨⟨f0, f1, f2, f3, f4⟩, ⟨f5, f6, f7, f8⟩, ⟨f9, f10, f11, f12, f13⟩⟩ := HFa.out _ HX8.out; obtain ⟨s0, s1, s2, s3, s4⟩ := HFs.out _ HX8.out; clear hb8)
  | (go_at_call 23; refine (HLi.out _ HX8.out).mono ?_; rintro e w8 ⟨A8, c8, rfl, hb8⟩; have HX8 := znM (zad HX8.out HX8.out.size hb8); clear f0 f1 f2 f3 f4 f5 f6 f7 f8 f9 f10 f11 f12 f13 s0 s1 s2 s3 s4; obtain ⟨⟨f0, f1, f2, f3, f4⟩, ⟨f5, f6, f7, f8⟩, ⟨f9, f10, f11, f12, f13⟩⟩ := HFa.out _ HX8.out; obtain ⟨s0, s1, s2, s3, s4⟩ := HFs.out _ HX8.out; clear hb8))
 go_ret
 exact ⟨rfl, zad HBw.out HBw.out.size HX8.out⟩

end Go.Proofs.YtdpgdnpddndeoaaGreatDoor.X

namespace Go.Proofs.YtdpgdnpddndeoaaGreatDoor.X
theorem zfR : ∀ (b t : zaa) (i : Bool), (10 : UInt8) ∉ t -> ∀ x ∈ zbw b t i, (10 : UInt8) ∉ x
 | [], t, i, ht, x, hx => by
  unfold zbw at hx
  split at hx
  . rw [List.mem_singleton.1 hx]; exact ht
  . cases hx
 | c :: r, t, i, ht, x, hx => by
  unfold zbw at hx
  split at hx
  . rcases List.mem_cons.1 hx with rfl | hx
    . exact ht
    . exact zfR r [] false (by simp) x hx
  . rename_i hc
    exact zfR r (t ++ [c]) true (by simp [ht]; exact fun e => hc e.symm) x hx
theorem zke (b : zaa) : ∀ x ∈ zbb b, (10 : UInt8) ∉ x := by
 rw [<- zfz]
 exact zfR b [] false (by simp)
theorem zi9 (x : zaa) (l : List zaa) : zaF (x :: l) = x ++ 10 :: zaF l := by simp [zaF]
theorem zfm : ∀ (b t : zaa) (i : Bool), (i = true ↔ t ≠ []) -> zaF (zbw b t i) = t ++ b \/ (zaF (zbw b t i) = t ++ b ++ [10] /\ (t ++ b).getLast? ≠ some 10 /\ t ++ b ≠ []) \/ (10 : UInt8) ∈ t
 | [], t, i, hi => by
  unfold zbw
  by_cases ht : t = []
  . subst ht
    have : i = false := by cases i with | false => rfl | true => exact absurd rfl (hi.1 rfl)
    rw [this]
    exact .inl rfl
  . rw [if_pos (hi.2 ht)]
    by_cases h10 : (10 : UInt8) ∈ t
    . exact .inr (.inr h10)
    . refine .inr (.inl ⟨by simp [zaF], fun e => h10 ?_, by simpa using ht⟩)
      rw [List.append_nil] at e
      exact List.mem_of_getLast? e
 | c :: r, t, i, hi => by
  unfold zbw
  by_cases hc : c = 10
  . subst hc
    rw [if_pos rfl, zi9]
    rcases zfm r [] false (by simp) with h | ⟨h, h2, h3⟩ | h
    . rw [h]; exact .inl rfl
    . rw [h]
      refine .inr (.inl ⟨by simp, ?_, by simp⟩)
      rw [List.nil_append] at h2 h3
      intro e
      apply h2
      obtain ⟨d, r', rfl⟩ : ∃ d r', r = d :: r' := by cases r with | nil => exact absurd rfl h3 | cons d r' => exact ⟨d, r', rfl⟩
      rw [List.getLast?_append, List.getLast?_cons_cons] at e
      cases hl : (d :: r').getLast? with
      | none => simp at hl
      | some z => rw [hl] at e; simpa using e
    . cases h
  . rw [if_neg hc]
    rcases zfm r (t ++ [c]) true (by simp) with h | ⟨h, h2, h3⟩ | h
    . rw [h]; exact .inl (by simp)
    . rw [h]; exact .inr (.inl ⟨by simp, by simpa using h2, by simp⟩)
    . rcases List.mem_append.1 h with h | h
      . exact .inr (.inr h)
      . exact absurd (List.mem_singleton.1 h).symm hc
theorem zhH (b : zaa) : zaF (zbb b) = b \/ (zaF (zbb b) = b ++ [10] /\ b.getLast? ≠ some 10) := by
 rw [<- zfz]
 rcases zfm b [] false (by simp) with h | ⟨h, h2, _⟩ | h
 . exact .inl h
 . exact .inr ⟨h, h2⟩
 . cases h
theorem zmK (b : zaa) : (zaF (zbb b)).length <= b.length + 1 := by
 rcases zhH b with h | ⟨h, _⟩ <;> rw [h] <;> simp
def cmd1 (op n : Int) (lits : List zaa) : Cmd := ⟨op, n, 1, lits⟩
def do1 (op : Int) (v : Option zaa) (n : Int) (lits : List zaa) : Option zaa := doP (cmd1 op n lits) [v]
theorem zm2 (op n : Int) (lits : List zaa) (b t : zaa) (hm : mayC (cmd1 op n lits) = true) (ht : zaG (cmd1 op n lits) [b] = (t, true)) (hl : t.length <= 2000) : do1 op (some b) n lits = some t := by
 unfold do1 doP zcY
 rw [if_neg (by
  rintro (e | e | e)
  . rw [hm] at e; cases e
  . exact e rfl
  . simp at e)]
 show (if (zaG (cmd1 op n lits) [b]).2 = false \/ 2000 < (zaG (cmd1 op n lits) [b]).1.length then _ else some (zaG (cmd1 op n lits) [b]).1) = _
 rw [ht, if_neg (by simp; omega)]
end Go.Proofs.YtdpgdnpddndeoaaGreatDoor.X
