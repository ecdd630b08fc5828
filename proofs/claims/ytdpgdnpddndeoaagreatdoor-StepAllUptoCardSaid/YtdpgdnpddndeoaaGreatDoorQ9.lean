/-
  What the cards lean on (part Q9): contracts of functions, by hand, and plain laws; what is printed by the kit's print for this seat is among them. What is not reached is left out.
-/
import Derived.Test.YtdpgdnpddndeoaaGreatDoorQ8
import Derived.Test.YtdpgdnpddndeoaaGreatDoorQ0
set_option maxHeartbeats 16000000
set_option maxRecDepth 100000
set_option linter.unusedSimpArgs false
set_option linter.unusedVariables false
open Go.RowKit.Below renaming refl -> zpr
open Nat renaming le_refl -> zps, succ_mul -> zpJ, zero_le -> zqf
open List renaming length_map -> zp9, length_append -> zpF, take_length -> zqa, map_cons -> zpS, map_nil -> zpT, take_succ_eq_append_getElem -> zpU, mem_cons_self -> zqP, mem_cons_of_mem -> zqQ, drop_eq_getElem_cons -> zpW, length_cons -> zqc, append_assoc -> zqG, append_nil -> zqy, mem_cons -> zqH, take_of_length_le -> zqS, any_eq_true -> zqZ, any_map -> zq0, map_append -> zqj, take_append_drop -> zq1, getElem_mem -> zqJ, any_eq_false -> zq2, sum_cons -> zq3, take_zero -> zqX, find?_eq_none -> zq4
open Bool renaming false_or -> zqY
open Go.Proofs.Tryz renaming prog -> zp0
open Go.Proofs.YtdpgdnpddndeoaaGreatDoorW.PrintWords.Kd renaming C_below -> zqO, string -> zp6, R_reads -> zql, R_below -> zqp
namespace Go.Proofs.YtdpgdnpddndeoaaGreatDoor
namespace X
open Go.RowKit Go.Maps YtdpgdnpddndeoaaGreatDoorW.PrintWords YtdpgdnpddndeoaaGreatDoorW.PrintMore YtdpgdnpddndeoaaGreatDoorW.PrintLast
structure CapR (r : zaj) (c1 c2 c3 c4 : Nat) : Prop where
 l1 : r.f1.length <= c1
 l2 : r.f2.length <= c2
 l3 : r.f3.length <= c3
 l4 : r.f4.length <= c4
theorem zjI : ∀ args w, (callFunc 100 args).run zp0 w = .ok (.enter 100 args) w := Go.Proofs.enters_of Tryz.func100 (by kernel_rfl) rfl
theorem zlj : ∀ args w, (callFunc 101 args).run zp0 w = .ok (.enter 101 args) w := Go.Proofs.enters_of Tryz.func101 (by kernel_rfl) rfl
theorem zj4 (K : Nat) (A : Option Addr) (c : Nat) (l : List ByteArray) (x : ByteArray) (w : World) (hk : w.cell? ⟨K, 0, none⟩ = some (.slice A l.length c)) (hr : Kd.C zp6 w A l.length l) :
 Calls zp0 100 #[.string x, .pointer (some ⟨K, 0, none⟩)] w fun e w' => e = .returned (.bool (!(zab l).contains x.data.toList)) /\ w = w' := by
 have hC := zc3 A c l x w hr; generalize (zab l).contains x.data.toList = q at hC |-; have HC := zpo hC; clear hC hr; go_enter Tryz.func100, Tryz.ntmps100
 go_wp2_with (first | (go_at_call 92; refine HC.out.mono ?_; rintro e w2 ⟨rfl, rfl⟩))
 go_ret
 exact ⟨rfl, rfl⟩
theorem zl7 (K : Nat) (A : Option Addr) (c : Nat) (l : List ByteArray) (x : ByteArray) (w : World) (hk : w.cell? ⟨K, 1, none⟩ = some (.slice A l.length c)) (hr : Kd.C zp6 w A l.length l) :
 Calls zp0 101 #[.string x, .pointer (some ⟨K, 0, none⟩)] w fun e w' => e = .returned (.bool ((zab l).contains x.data.toList)) /\ w = w' := by
 have hC := zc3 A c l x w hr; generalize (zab l).contains x.data.toList = q at hC |-; have HC := zpo hC; clear hC hr; go_enter Tryz.func101, Tryz.ntmps101
 go_wp2_with (first | (go_at_call 92; refine HC.out.mono ?_; rintro e w2 ⟨rfl, rfl⟩))
 go_ret
 exact ⟨rfl, rfl⟩
theorem ziF (K : Nat) (A : Option Addr) (c : Nat) (l : List ByteArray) (B : Option Addr) (d : Nat) (k : List ByteArray) (w : World) (hk : w.cell? ⟨K, 0, none⟩ = some (.slice A l.length c)) (hr : Kd.C zp6 w A l.length l) (hx : Kd.C zp6 w B k.length k) :
 Calls zp0 56 #[.slice B k.length d, .func (.func 100) #[] #[.pointer (some ⟨K, 0, none⟩)]] w fun e w' => e = .returned (.bool ((zab k).any fun a => !(zab l).contains a)) /\ Below w.heap.size w w' := by
 have h := zdX 100 #[.pointer (some ⟨K, 0, none⟩)] zjI (fun x => !(zab l).contains x.data.toList) B d k w hx (fun W x hW => (zj4 K A c l x W (zad hW hk) (zqO hr hW)).mono fun e w' ⟨he, hw⟩ => ⟨he, by rw [<- hw]; exact zpr _ _⟩)
 have e : k.any (fun x => !(zab l).contains x.data.toList) = (zab k).any fun a => !(zab l).contains a := by
  conv => rhs; unfold zab
  rw [zq0]; rfl
 rw [e] at h; exact h
theorem zjp (K : Nat) (A : Option Addr) (c : Nat) (l : List ByteArray) (B : Option Addr) (d : Nat) (k : List ByteArray) (w : World) (hk : w.cell? ⟨K, 1, none⟩ = some (.slice A l.length c)) (hr : Kd.C zp6 w A l.length l) (hx : Kd.C zp6 w B k.length k) :
 Calls zp0 56 #[.slice B k.length d, .func (.func 101) #[] #[.pointer (some ⟨K, 0, none⟩)]] w fun e w' => e = .returned (.bool ((zab k).any fun a => (zab l).contains a)) /\ Below w.heap.size w w' := by
 have h := zdX 101 #[.pointer (some ⟨K, 0, none⟩)] zlj (fun x => (zab l).contains x.data.toList) B d k w hx (fun W x hW => (zl7 K A c l x W (zad hW hk) (zqO hr hW)).mono fun e w' ⟨he, hw⟩ => ⟨he, by rw [<- hw]; exact zpr _ _⟩)
 have e : k.any (fun x => (zab l).contains x.data.toList) = (zab k).any fun a => (zab l).contains a := by
  conv => rhs; unfold zab
  rw [zq0]; rfl
 rw [e] at h; exact h
def endP (outs : List zaa) : Option (List zaa) -> Bool
 | none => false
 | some known => !(outs.any fun o => !known.contains o)
theorem zl8 (L : List zb7) (known : List zaa) (k : Nat) (h : k < L.length) : zcB (L.drop k) known = if known.contains L[k].out || L[k].args.any (fun a => !known.contains a) then none else zcB (L.drop (k + 1)) (known ++ [L[k].out]) := by
 rw [zpW h]; rfl
theorem zmS (r : zaj) (B1 : Option Addr) (c1 : Nat) (B2 : Option Addr) (c2 : Nat) (B3 : Option Addr) (c3 : Nat) (B4 : Option Addr) (c4 : Nat) (w : World) (hA : RuleAt r B1 B2 B3 B4 w) (hC : CapR r c1 c2 c3 c4) (hl : r.f4.length <= 1000) (hl1 : r.f1.length <= 1000) :
 Calls zp0 70 #[.agg (zao r B1 c1 B2 c2 B3 c3 B4 c4)] w fun e w' => e = .returned (.bool (zdk (zcd r))) /\ Below w.heap.size w w' := by
 have hW := (zpr w.heap.size w).alloc (zps _) (.cells (zao r B1 c1 B2 c2 B3 c3 B4 c4) 45); have HK := zpo (zak w (.cells (zao r B1 c1 B2 c2 B3 c3 B4 c4) 45)); have HB := zpo hW; have HA := zpo (hA.below hW); have hT : zdk (zcd r) = (!(zb0 (zab r.f1) || zb0 (zab r.f2) || zb0 (zab r.f3) || (zab r.f3).contains r.f0.data.toList) && !((zab r.f2).any fun a => (zab r.f1).contains a) && endP (zab r.f2) (zcB (r.f4.map zaN) (zab r.f1))) := rfl
 have H1 := zpo (fun W (h : Kd.C zp6 W B1 r.f1.length r.f1) => zf9 B1 c1 r.f1 W h hC.l1)
 have H2 := zpo (fun W (h : Kd.C zp6 W B2 r.f2.length r.f2) => zf9 B2 c2 r.f2 W h hC.l2)
 have H3 := zpo (fun W (h : Kd.C zp6 W B3 r.f3.length r.f3) => zf9 B3 c3 r.f3 W h hC.l3)
 have H4 := zpo (fun W (h : Kd.C zp6 W B3 r.f3.length r.f3) => zc3 B3 c3 r.f3 r.f0 W h)
 obtain ⟨T, hT0⟩ : ∃ T, T = zdk (zcd r) := ⟨_, rfl⟩; rw [<- hT0]; rw [<- hT0] at hT; generalize zb0 (zab r.f1) = q1 at H1 hT; generalize zb0 (zab r.f2) = q2 at H2 hT; generalize zb0 (zab r.f3) = q3 at H3 hT; generalize (zab r.f3).contains r.f0.data.toList = q4 at H4 hT; have HT := zpo hT; clear hW hA hT hT0; unfold zao at *; go_enter Tryz.func70, Tryz.ntmps70
 go_upto_if 26 with fail; generalize w.alloc (.cells #[.string r.f0, .slice B1 r.f1.length c1, .slice B2 r.f2.length c2, .slice B3 r.f3.length c3, .slice B4 r.f4.length c4] 45) = w1 at HB HK HA |-; have k0 := bc0 HK.out; have k1 := bc1 HK.out; have k2 := bc2 HK.out; have k3 := bc3 HK.out; have k4 := bc4 HK.out; have h1 := H1.out w1 HA.out.h1; have h2 := H2.out w1 HA.out.h2; have h3 := H3.out w1 HA.out.h3; have h4 := H4.out w1 HA.out.h3; have J1 := zpo h1; have J2 := zpo h2; have J3 := zpo h3; have J4 := zpo h4; clear h1 h2 h3 h4; by_cases hq : (q1 || q2 || q3 || q4) = true
 . have HF : Hid (T = false) := by show _ = _; rw [HT.out, hq]; rfl
   clear HT; cases q1 with
   | true =>
    clear hq; go_wp2_with (first
     | (go_at_call 98; first | ((with_reducible refine J1.out.mono ?_); rintro e w2 ⟨rfl, rfl⟩) | ((with_reducible refine J2.out.mono ?_); rintro e w2 ⟨rfl, rfl⟩) | ((with_reducible refine J3.out.mono ?_); rintro e w2 ⟨rfl, rfl⟩))
     | (go_at_call 92; refine J4.out.mono ?_; rintro e w2 ⟨rfl, rfl⟩))
    go_ret
    exact ⟨by rw [HF.out]; rfl, HB.out⟩
   | false =>
    cases q2 with
    | true =>
     clear hq; go_wp2_with (first
      | (go_at_call 98; first | ((with_reducible refine J1.out.mono ?_); rintro e w2 ⟨rfl, rfl⟩) | ((with_reducible refine J2.out.mono ?_); rintro e w2 ⟨rfl, rfl⟩) | ((with_reducible refine J3.out.mono ?_); rintro e w2 ⟨rfl, rfl⟩))
      | (go_at_call 92; refine J4.out.mono ?_; rintro e w2 ⟨rfl, rfl⟩))
     go_ret
     exact ⟨by rw [HF.out]; rfl, HB.out⟩
    | false =>
     cases q3 with
     | true =>
      clear hq; go_wp2_with (first
       | (go_at_call 98; first | ((with_reducible refine J1.out.mono ?_); rintro e w2 ⟨rfl, rfl⟩) | ((with_reducible refine J2.out.mono ?_); rintro e w2 ⟨rfl, rfl⟩) | ((with_reducible refine J3.out.mono ?_); rintro e w2 ⟨rfl, rfl⟩))
       | (go_at_call 92; refine J4.out.mono ?_; rintro e w2 ⟨rfl, rfl⟩))
      go_ret
      exact ⟨by rw [HF.out]; rfl, HB.out⟩
     | false =>
      cases q4 with
      | true =>
       clear hq; go_wp2_with (first
        | (go_at_call 98; first | ((with_reducible refine J1.out.mono ?_); rintro e w2 ⟨rfl, rfl⟩) | ((with_reducible refine J2.out.mono ?_); rintro e w2 ⟨rfl, rfl⟩) | ((with_reducible refine J3.out.mono ?_); rintro e w2 ⟨rfl, rfl⟩))
        | (go_at_call 92; refine J4.out.mono ?_; rintro e w2 ⟨rfl, rfl⟩))
       go_ret
       exact ⟨by rw [HF.out]; rfl, HB.out⟩
      | false => exact absurd hq (by decide)
 . have hq1 : q1 = false := by cases q1 with | false => rfl | true => exact absurd rfl hq
   subst hq1; have hq2 : q2 = false := by cases q2 with | false => rfl | true => exact absurd rfl hq
   subst hq2; have hq3 : q3 = false := by cases q3 with | false => rfl | true => exact absurd rfl hq
   subst hq3; have hq4 : q4 = false := by cases q4 with | false => rfl | true => exact absurd rfl hq
   subst hq4; clear hq; go_upto_region 3 with (first
    | (go_at_call 98; first | ((with_reducible refine J1.out.mono ?_); rintro e w2 ⟨rfl, rfl⟩) | ((with_reducible refine J2.out.mono ?_); rintro e w2 ⟨rfl, rfl⟩) | ((with_reducible refine J3.out.mono ?_); rintro e w2 ⟨rfl, rfl⟩))
    | (go_at_call 92; refine J4.out.mono ?_; rintro e w2 ⟨rfl, rfl⟩))
   have hcl := zc1 B1 c1 r.f1 w1 HA.out.h1 (by omega)
   go_upto_region 4 with (first | (go_at_call 99; refine hcl.mono ?_; rintro e w2 ⟨v, rfl, hown, hb2⟩; obtain ⟨A2, n2, rfl, hc2, _⟩ := zql (Kd.R_of_own (h1 := fun _ => rfl) (ok := fun _ => True) hown (fun _ _ => trivial)); have HO2 : Hid (RS w2 w1.heap.size (.slice A2 r.f1.length n2) r.f1) := zpo (Kd.R_of_own (h1 := fun _ => rfl) hown (fun _ _ => trivial)); have HB2 := zpo hb2; clear hown hb2 hc2))
   clear hcl; have hb3 := (zpr w2.heap.size w2).alloc (zps _) (.cells #[.slice A2 r.f1.length n2] 22); have HX3 := zpo (zak w2 (.cells #[.slice A2 r.f1.length n2] 22)); have HB3 := zpo (zac HB2.out HB2.out.size hb3); have HO3 := zpo (zqp HO2.out hb3); have HKw := zpo HB2.out.size; clear hb3 HO2; generalize hK : w2.heap.size = K at HX3 HKw |-; generalize w2.alloc (.cells #[.slice A2 r.f1.length n2] 22) = w3 at HX3 HB3 HO3 |-; clear hK; have l2 := zad HB3.out k2; have l1 := zad HB3.out k1; have HAi := zpo (zjp w.heap.size B1 c1 r.f1 B2 c2 r.f2 w3 l1 (HA.out.below HB3.out).h1 (HA.out.below HB3.out).h2); have hT := HT.out; generalize ((zab r.f2).any fun a => (zab r.f1).contains a) = q5 at HAi hT
   have HT5 := zpo hT; clear hT HT; cases q5 with
   | true =>
    have HF : Hid (T = false) := by show _ = _; rw [HT5.out]; rfl
    go_wp2_with (first | (go_at_call 56; refine HAi.out.mono ?_; rintro e w4 ⟨rfl, hb4⟩; have HB4 := zpo (zac HB3.out HB3.out.size hb4); clear hb4))
    go_ret
    exact ⟨by rw [HF.out]; rfl, HB.out.trans (HB4.out.mono HB.out.size)⟩
   | false =>
    obtain ⟨wp, hwp⟩ : ∃ wp, wp = zcB (r.f4.map zaN) (zab r.f1) := ⟨_, rfl⟩; have hT := HT5.out; rw [<- hwp] at hT; have HT6 : Hid (T = endP (zab r.f2) wp) := zpo (by rw [hT]; rfl)
    have HWp := zpo hwp; clear hT hwp HT5; go_upto_region 7 with (first | (go_at_call 56; refine HAi.out.mono ?_; rintro e w4 ⟨rfl, hb4⟩; have HX4 := zpo (zah HX3.out hb4); have HO4 := zpo (zqp HO3.out hb4); have HB4 := zpo (zac HB3.out HB3.out.size hb4); clear hb4))
    have m4 := zad HB4.out k4; go_wp2_with fail; go_loopg [6, 38] r.f4.length (fun gg _ s38 wr => ∃ (kk : Nat) (X : Option Addr) (n : Nat), kk <= r.f4.length /\ r.f4.length - kk <= gg /\ s38 = .int .i64 kk /\ Aside0 (wr.heap[K]? = some (.cells #[.slice X (r.f1 ++ (r.f4.take kk).map (·.f0)).length n] 22 (0, 0))) /\ Aside0 (RS wr w1.heap.size (.slice X (r.f1 ++ (r.f4.take kk).map (·.f0)).length n) (r.f1 ++ (r.f4.take kk).map (·.f0))) /\ Aside0 (zcB ((r.f4.map zaN).drop kk) (zab (r.f1 ++ (r.f4.take kk).map (·.f0))) = wp) /\ Aside0 (Below w1.heap.size w1 wr))
    case atStart =>
     refine ⟨0, A2, n2, zqf _, by omega, rfl, ⟨?_⟩, ⟨?_⟩, ⟨?_⟩, ⟨HB4.out⟩⟩
     . rw [zqX, zpT, zqy]; exact HX4.out
     . rw [zqX, zpT, zqy]; exact HO4.out
     . rw [zqX, zpT, zqy, List.drop_zero]; exact HWp.out.symm
    case round =>
     obtain ⟨kk, X, n, hkk, hgk, rfl, HXr, HOr, HWr, HBr⟩ := hrel; obtain ⟨wq, rfl⟩ : ∃ wq, wq = wr := ⟨wr, rfl⟩; by_cases hlt : kk < r.f4.length
     . have hltz : (kk : Int) < (r.f4.length : Int) := by omega
       obtain ⟨b, o, C2, d2, C3, d3, rfl, p0, p1, p2, p3, p4, g2, g3⟩ := zdz HA.out.h4 kk hlt; replace p0 := zad HBr.out p0
       replace p1 := zad HBr.out p1
       replace p2 := zad HBr.out p2
       replace p3 := zad HBr.out p3
       replace p4 := zad HBr.out p4
       have hdr := zl8 (r.f4.map zaN) (zab (r.f1 ++ (r.f4.take kk).map (·.f0))) kk (by rw [zp9]; exact hlt)
       rw [HWr.out, List.getElem_map] at hdr; have hsn : r.f1 ++ (r.f4.take (kk + 1)).map (·.f0) = (r.f1 ++ (r.f4.take kk).map (·.f0)) ++ [r.f4[kk].f0] := by rw [zpU hlt, zqj, zqG]; rfl
       have hln : (r.f1 ++ (r.f4.take kk).map (·.f0)).length <= 2000 := by rw [zpF, zp9, List.length_take]; omega
       have HSn := zpo hsn; have HLn := zpo hln; generalize r.f1 ++ (r.f4.take kk).map (·.f0) = kn at HXr HOr hdr HSn HLn; generalize hx : r.f4[kk] = x at p0 p1 p2 p3 p4 g2 g3 hdr HSn; have HDr : Hid (wp = if (zab kn).contains x.f0.data.toList || (zab x.f2).any (fun a => !(zab kn).contains a) then none else zcB ((r.f4.map zaN).drop (kk + 1)) (zab kn ++ [x.f0.data.toList])) := zpo hdr
       clear hx hdr hsn hln; have hb5 := (zpr wq.heap.size wq).alloc (zps _) (.cells #[.string x.f0, .int .i64 x.f1, .slice C2 x.f2.length d2, .slice C3 x.f3.length d3, .int .i64 x.f4] 24); have HY5 := zpo (zak wq (.cells #[.string x.f0, .int .i64 x.f1, .slice C2 x.f2.length d2, .slice C3 x.f3.length d3, .int .i64 x.f4] 24)); have HB5 := zpo (zac HBr.out HBr.out.size hb5); have HX5 := zpo (zah HXr.out hb5); have HO5 := zpo (zqp HOr.out hb5); have HG2 := zpo g2; clear g2 g3 hb5; have m4q := zad HBr.out k4; go_upto_region 10 with fail; generalize wq.alloc (.cells #[.string x.f0, .int .i64 x.f1, .slice C2 x.f2.length d2, .slice C3 x.f3.length d3, .int .i64 x.f4] 24) = w5 at HY5 HB5 HX5 HO5 |-; have y0 := bc0 HY5.out; have y2 := bc2 HY5.out; have kK := bc0 HX5.out; have hCkn : Kd.C zp6 w5 X kn.length kn := by
        obtain ⟨X', n', he, _, hC⟩ := zql HO5.out; cases he
        exact hC
       have HCt := zpo (zc3 X n kn x.f0 w5 hCkn); have HSt := zpo (ziF K X n kn C2 d2 x.f2 w5 kK hCkn (zqO HG2.out HB5.out)); have hDr := HDr.out; generalize (zab kn).contains x.f0.data.toList = q6 at HCt hDr; generalize (zab x.f2).any (fun a => !(zab kn).contains a) = q7 at HSt hDr
       have HDr2 := zpo hDr; clear hDr HDr hCkn; cases q6 with
       | true =>
        have HF : Hid (T = false) := by show _ = _; rw [HT6.out, HDr2.out]; rfl
        go_wp2_with (first | (go_at_call 92; refine HCt.out.mono ?_; rintro e w6 ⟨rfl, rfl⟩))
        go_ret
        exact ⟨by rw [HF.out]; rfl, HB.out.trans (HB5.out.mono HB.out.size)⟩
       | false =>
        cases q7 with
        | true =>
         have HF : Hid (T = false) := by show _ = _; rw [HT6.out, HDr2.out]; rfl
         go_wp2_with (first | (go_at_call 92; refine HCt.out.mono ?_; rintro e w6 ⟨rfl, rfl⟩) | (go_at_call 56; refine HSt.out.mono ?_; rintro e w6 ⟨rfl, hb6⟩; have HB6 := zpo (zac HB5.out HB5.out.size hb6); clear hb6))
         go_ret
         exact ⟨by rw [HF.out]; rfl, HB.out.trans (HB6.out.mono HB.out.size)⟩
        | false =>
         have HWn : Hid (zcB ((r.f4.map zaN).drop (kk + 1)) (zab (r.f1 ++ (r.f4.take (kk + 1)).map (·.f0))) = wp) := by
          show _ = _
          rw [HSn.out, HDr2.out]; unfold zab; rw [zqj]; rfl
         go_upto_region 12 with (first | (go_at_call 92; refine HCt.out.mono ?_; rintro e w6 ⟨rfl, rfl⟩) | (go_at_call 56; refine HSt.out.mono ?_; rintro e w6 ⟨rfl, hb6⟩; have HB6 := zpo (zac HB5.out HB5.out.size hb6); have HX6 := zpo (zah HX5.out hb6); have HO6 := zpo (zqp HO5.out hb6); have HY6 := zpo (zah HY5.out hb6); clear hb6))
         have z0 := bc0 HY6.out; have kK6 := bc0 HX6.out; have hb7 := (zpr w6.heap.size w6).alloc (zps _) (.cells #[.string x.f0] 9); have HWs := zpo HB6.out.size; clear kK y0 y2 hb7; go_wp2_with (first | ((with_reducible refine zaD (b := .append) (xs := #[.tmp 52, .tmp 55]) rfl ?_); at_builtin; refine Kd.R_append zp6 (w0 := w1) w1.heap.size rfl (.tmp 52) (.tmp 55) 22 9 (.string ⟨#[]⟩) 16 rfl Tryz.underlying22 zbf rfl (by decide) (by decide) (.slice X kn.length n) kn x.f0 [.string x.f0] (fun _ => True) (fun k_ => True /\ some k_ ≠ (Value.slice X kn.length n).ownBlock) rfl rfl rfl (fun _ hk => hk) (fun _ _ => trivial) HO6.out HB6.out HWs.out ?aL ?_; (case aL => (have h1 := HLn.out; omega)); intro v1 w8 ho hb hg hat; obtain ⟨X8, n8, rfl, _, _⟩ := zql ho; obtain ⟨ln, hln⟩ : ∃ ln, ln = (kn ++ [x.f0]).length := ⟨_, rfl⟩; rw [<- hln] at ho |-; have HLn2 : Hid (ln = (r.f1 ++ (r.f4.take (kk + 1)).map (·.f0)).length) := (by show _ = _; rw [HSn.out]; exact hln); have HO8 : Hid (RS w8 w1.heap.size (.slice X8 ln n8) (r.f1 ++ (r.f4.take (kk + 1)).map (·.f0))) := (by show RS _ _ _ _; rw [HSn.out]; exact ho); have HB8 := zpo hb; have HX8 := zpo (zaY HX6.out hg (Kd.R_ne HO6.out HX6.out (by decide))); have f8 := zai HX8.out 0; have k8 := bc0 HX8.out; clear ho hb hg hat hln))
         have HX9 : Hid ((w8.setCell ⟨K, 0, none⟩ (.slice X8 ln n8)).heap[K]? = some (.cells #[.slice X8 ln n8] 22 (0, 0))) := zpo (zat HX8.out 0 _ rfl); have HO9 := zpo (Kd.R_set HO8.out HX8.out (by decide) 0 (.slice X8 ln n8))
         have HB9 := zpo (HB8.out.setCell (p := ⟨K, 0, none⟩) HKw.out (.slice X8 ln n8)); generalize w8.setCell ⟨K, 0, none⟩ (.slice X8 ln n8) = w9 at HX9 HO9 HB9 |-; go_roundg (r.f4.length - (kk + 1))
         case measure => omega
         case rel => exact ⟨kk + 1, X8, n8, by omega, by omega, by first | rfl | go_num, ⟨by rw [<- HLn2.out]; exact HX9.out⟩, ⟨by rw [<- HLn2.out]; exact HO9.out⟩, ⟨HWn.out⟩, ⟨HB9.out⟩⟩
     . have hltz : ¬ (kk : Int) < (r.f4.length : Int) := by omega
       obtain rfl : kk = r.f4.length := by omega
       have hW := HWr.out; rw [List.drop_eq_nil_of_le (by rw [zp9]; exact zps _)] at hW
       generalize r.f1 ++ (r.f4.take r.f4.length).map (·.f0) = kn at HXr HOr hW; have hT := HT6.out; rw [<- hW] at hT; have hT' : T = !((zab r.f2).any fun o => !(zab kn).contains o) := hT
       have kK := bc0 HXr.out; have hCkn : Kd.C zp6 wq X kn.length kn := by
        obtain ⟨X', n', he, _, hC⟩ := zql HOr.out; cases he
        exact hC
       have HSt := zpo (ziF K X n kn B2 c2 r.f2 wq kK hCkn (HA.out.below HBr.out).h2); generalize ((zab r.f2).any fun o => !(zab kn).contains o) = q8 at HSt hT'
       have HT8 := zpo hT'; have i2 := zad HBr.out k2; clear hT hT' hW hCkn; go_wp2_with (first | (go_at_call 56; refine HSt.out.mono ?_; rintro e w6 ⟨rfl, hb6⟩; have HB6 := zpo (zac HBr.out HBr.out.size hb6); clear hb6))
       go_ret
       exact ⟨by rw [HT8.out]; rfl, HB.out.trans (HB6.out.mono HB.out.size)⟩
def zbW (r : zaj) : Int := ziS zdx zdk (zcd r)
theorem zpj (r : zaj) : zbW r = if zdx (zcd r) = false then 1 else if 8 < r.f1.length \/ 4 < r.f2.length \/ 8 < r.f3.length \/ 12 < r.f4.length then 4 else if zdk (zcd r) = false then 2 else 0 := by
 unfold zbW ziS zcd zav; dsimp only; rw [zaL, zaL, zaL, zp9]
theorem zij (r : zaj) (B1 : Option Addr) (c1 : Nat) (B2 : Option Addr) (c2 : Nat) (B3 : Option Addr) (c3 : Nat) (B4 : Option Addr) (c4 : Nat) (w : World) (hG : GOK w) (hA : RuleAt r B1 B2 B3 B4 w) (hC : CapR r c1 c2 c3 c4) (hl : r.f4.length <= 1000) (hl1 : r.f1.length <= 1000) :
 Calls zp0 46 #[.agg (zao r B1 c1 B2 c2 B3 c3 B4 c4)] w fun e w' => e = .returned (.int .i64 (zbW r)) /\ Below w.heap.size w w' := by
 have hW := (zpr w.heap.size w).alloc (zps _) (.cells (zao r B1 c1 B2 c2 B3 c3 B4 c4) 45); have HK := zpo (zak w (.cells (zao r B1 c1 B2 c2 B3 c3 B4 c4) 45)); have HB := zpo hW; have HA := zpo (hA.below hW); have HG := zpo (hG.below hW); have hT := zpj r; obtain ⟨T, hT0⟩ : ∃ T, T = zbW r := ⟨_, rfl⟩; rw [<- hT0]; rw [<- hT0] at hT; have HF := zpo (fun W (hG : GOK W) (h : RuleAt r B1 B2 B3 B4 W) => zld r B1 c1 B2 c2 B3 c3 B4 c4 W hG h hl)
 have HN := zpo (fun W (h : RuleAt r B1 B2 B3 B4 W) => zmS r B1 c1 B2 c2 B3 c3 B4 c4 W h hC hl hl1)
 generalize zdx (zcd r) = qf at HF hT; generalize zdk (zcd r) = qn at HN hT; have HT := zpo hT; clear hW hA hG hT hT0 hC; unfold zao at *; go_enter Tryz.func46, Tryz.ntmps46
 go_upto_block 0 with fail; generalize w.alloc (.cells #[.string r.f0, .slice B1 r.f1.length c1, .slice B2 r.f2.length c2, .slice B3 r.f3.length c3, .slice B4 r.f4.length c4] 45) = w1 at HB HK HA HG |-; have k0 := bc0 HK.out; have k1 := bc1 HK.out; have k2 := bc2 HK.out; have k3 := bc3 HK.out; have k4 := bc4 HK.out; cases qf with
 | false =>
  have HV : Hid (T = 1) := by show _ = _; rw [HT.out, if_pos rfl]
  clear HT; go_wp2_with (first | (go_at_call 69; refine (HF.out _ HG.out HA.out).mono ?_; rintro e w2 ⟨rfl, hb2⟩; have HB2 := zpo hb2; have HA2 := zpo (HA.out.below hb2); have i0 := zad hb2 k0; have i1 := zad hb2 k1; have i2 := zad hb2 k2; have i3 := zad hb2 k3; have i4 := zad hb2 k4; clear hb2))
  go_ret
  exact ⟨by rw [HV.out]; rfl, zac HB.out HB.out.size HB2.out⟩
 | true =>
  have hT := HT.out; rw [if_neg (by simp)] at hT
  have HT2 := zpo hT; clear hT HT; by_cases h1 : 8 < r.f1.length
  . have d1 : decide ((8 : Int) < (r.f1.length : Int)) = true := by simp; omega
    have e1 : (8 : Int) < (r.f1.length : Int) := by omega
    have HV : Hid (T = 4) := by show _ = _; rw [HT2.out, if_pos (by omega)]
    clear HT2; go_wp2_with (first | (go_at_call 69; refine (HF.out _ HG.out HA.out).mono ?_; rintro e w2 ⟨rfl, hb2⟩; have HB2 := zpo hb2; have HA2 := zpo (HA.out.below hb2); have i0 := zad hb2 k0; have i1 := zad hb2 k1; have i2 := zad hb2 k2; have i3 := zad hb2 k3; have i4 := zad hb2 k4; clear hb2))
    go_ret
    exact ⟨by rw [HV.out]; rfl, zac HB.out HB.out.size HB2.out⟩
  have d1 : decide ((8 : Int) < (r.f1.length : Int)) = false := by simp; omega
  have e1 : ¬ (8 : Int) < (r.f1.length : Int) := by omega
  by_cases h2 : 4 < r.f2.length
  . have d2 : decide ((4 : Int) < (r.f2.length : Int)) = true := by simp; omega
    have e2 : (4 : Int) < (r.f2.length : Int) := by omega
    have HV : Hid (T = 4) := by show _ = _; rw [HT2.out, if_pos (by omega)]
    clear HT2; go_wp2_with (first | (go_at_call 69; refine (HF.out _ HG.out HA.out).mono ?_; rintro e w2 ⟨rfl, hb2⟩; have HB2 := zpo hb2; have HA2 := zpo (HA.out.below hb2); have i0 := zad hb2 k0; have i1 := zad hb2 k1; have i2 := zad hb2 k2; have i3 := zad hb2 k3; have i4 := zad hb2 k4; clear hb2))
    go_ret
    exact ⟨by rw [HV.out]; rfl, zac HB.out HB.out.size HB2.out⟩
  have d2 : decide ((4 : Int) < (r.f2.length : Int)) = false := by simp; omega
  have e2 : ¬ (4 : Int) < (r.f2.length : Int) := by omega
  by_cases h3 : 8 < r.f3.length
  . have d3 : decide ((8 : Int) < (r.f3.length : Int)) = true := by simp; omega
    have e3 : (8 : Int) < (r.f3.length : Int) := by omega
    have HV : Hid (T = 4) := by show _ = _; rw [HT2.out, if_pos (by omega)]
    clear HT2; go_wp2_with (first | (go_at_call 69; refine (HF.out _ HG.out HA.out).mono ?_; rintro e w2 ⟨rfl, hb2⟩; have HB2 := zpo hb2; have HA2 := zpo (HA.out.below hb2); have i0 := zad hb2 k0; have i1 := zad hb2 k1; have i2 := zad hb2 k2; have i3 := zad hb2 k3; have i4 := zad hb2 k4; clear hb2))
    go_ret
    exact ⟨by rw [HV.out]; rfl, zac HB.out HB.out.size HB2.out⟩
  have d3 : decide ((8 : Int) < (r.f3.length : Int)) = false := by simp; omega
  have e3 : ¬ (8 : Int) < (r.f3.length : Int) := by omega
  by_cases h4 : 12 < r.f4.length
  . have d4 : decide ((12 : Int) < (r.f4.length : Int)) = true := by simp; omega
    have e4 : (12 : Int) < (r.f4.length : Int) := by omega
    have HV : Hid (T = 4) := by show _ = _; rw [HT2.out, if_pos (by omega)]
    clear HT2; go_wp2_with (first | (go_at_call 69; refine (HF.out _ HG.out HA.out).mono ?_; rintro e w2 ⟨rfl, hb2⟩; have HB2 := zpo hb2; have HA2 := zpo (HA.out.below hb2); have i0 := zad hb2 k0; have i1 := zad hb2 k1; have i2 := zad hb2 k2; have i3 := zad hb2 k3; have i4 := zad hb2 k4; clear hb2))
    go_ret
    exact ⟨by rw [HV.out]; rfl, zac HB.out HB.out.size HB2.out⟩
  have d4 : decide ((12 : Int) < (r.f4.length : Int)) = false := by simp; omega
  have e4 : ¬ (12 : Int) < (r.f4.length : Int) := by omega
  have hT := HT2.out; rw [if_neg (by omega)] at hT
  clear HT2; have HT2 := zpo hT; clear hT h1 h2 h3 h4; cases qn with
  | false =>
   have HV : Hid (T = 2) := by show _ = _; rw [HT2.out, if_pos rfl]
   clear HT2; go_wp2_with (first | (go_at_call 69; refine (HF.out _ HG.out HA.out).mono ?_; rintro e w2 ⟨rfl, hb2⟩; have HB2 := zpo hb2; have HA2 := zpo (HA.out.below hb2); have i0 := zad hb2 k0; have i1 := zad hb2 k1; have i2 := zad hb2 k2; have i3 := zad hb2 k3; have i4 := zad hb2 k4; clear hb2) | (go_at_call 70; refine (HN.out _ HA2.out).mono ?_; rintro e w3 ⟨rfl, hb3⟩; have HB3 := zpo (zac HB2.out HB2.out.size hb3); clear hb3))
   go_ret
   exact ⟨by rw [HV.out]; rfl, zac HB.out HB.out.size HB3.out⟩
  | true =>
   have HV : Hid (T = 0) := by show _ = _; rw [HT2.out, if_neg (by simp)]
   clear HT2; go_wp2_with (first | (go_at_call 69; refine (HF.out _ HG.out HA.out).mono ?_; rintro e w2 ⟨rfl, hb2⟩; have HB2 := zpo hb2; have HA2 := zpo (HA.out.below hb2); have i0 := zad hb2 k0; have i1 := zad hb2 k1; have i2 := zad hb2 k2; have i3 := zad hb2 k3; have i4 := zad hb2 k4; clear hb2) | (go_at_call 70; refine (HN.out _ HA2.out).mono ?_; rintro e w3 ⟨rfl, hb3⟩; have HB3 := zpo (zac HB2.out HB2.out.size hb3); clear hb3))
   go_ret
   exact ⟨by rw [HV.out]; rfl, zac HB.out HB.out.size HB3.out⟩
theorem zcU {w : World} {A : Option Addr} {l : List zaj} (h : Kd.C k45 w A l.length l) (i : Nat) (hi : i < l.length) :
 ∃ b o B1 c1 B2 c2 B3 c3 B4 c4, A = some ⟨b, o, none⟩ /\ w.cell? ⟨b, o + i * 5, none⟩ = some (.string l[i].f0) /\ w.cell? ⟨b, o + i * 5 + 1, none⟩ = some (.slice B1 l[i].f1.length c1) /\ w.cell? ⟨b, o + i * 5 + 2, none⟩ = some (.slice B2 l[i].f2.length c2) /\
  w.cell? ⟨b, o + i * 5 + 3, none⟩ = some (.slice B3 l[i].f3.length c3) /\ w.cell? ⟨b, o + i * 5 + 4, none⟩ = some (.slice B4 l[i].f4.length c4) /\ RuleAt l[i] B1 B2 B3 B4 w /\ CapR l[i] c1 c2 c3 c4 := by
 obtain ⟨ad, B1, c1, B2, c2, B3, c3, B4, c4, rfl, p0, p1, p2, p3, p4, q1, g1, q2, g2, q3, g3, q4, g4⟩ := zje h (i : Int) (by omega) (by omega)
 have hx : zbu l (i : Int) = l[i] := by
  unfold zbu; rw [Int.toNat_natCast, List.getD_eq_getElem?_getD, List.getElem?_eq_getElem hi]; rfl
 rw [hx, Int.toNat_natCast] at p0 p1 p2 p3 p4; rw [hx] at q1 g1 q2 g2 q3 g3 q4 g4; obtain ⟨ad0, _, _, _, _, _, _, _, _, had0, z0, _⟩ := zje h 0 (by omega) (by omega)
 cases had0
 obtain ⟨b, o, rfl⟩ := zdY z0; have e : ((⟨b, o, none⟩ : Addr).add (i * 5)) = ⟨b, o + i * 5, none⟩ := by
  unfold Addr.add; split
  . rename_i h0; simp [h0]
  . rfl
 rw [e] at p0 p1 p2 p3 p4; exact ⟨b, o, B1, c1, B2, c2, B3, c3, B4, c4, rfl, p0, p1, p2, p3, p4, ⟨g1, g2, g3, g4⟩, ⟨q1, q2, q3, q4⟩⟩
theorem zmK (g : Nat) (lb : Array Value) (eg : ∀ args w, (callFunc g args).run zp0 w = .ok (.enter g args) w) (p : ByteArray -> Bool) (A : Option Addr) (c : Nat) (l : List ByteArray) (w : World)
 (hr : Kd.C zp6 w A l.length l) (hp : ∀ (W : World), Below w.heap.size w W -> ∀ x ∈ l, Calls zp0 g (#[.string x] ++ lb) W fun e w' => e = .returned (.bool (p x)) /\ Below W.heap.size W w') :
 Calls zp0 76 #[.slice A l.length c, .func (.func g) #[] lb] w fun e w' => ∃ i : Int, e = .returned (.int .i64 i) /\ decide (0 <= i) = l.any p /\ Below w.heap.size w w' := by
 have hlen : l.length <= 9223372036854775807 := hr.2.1; have HP := zpo hp; have HR := zpo hr; clear hp hr; go_enter Tryz.func76, Tryz.ntmps76
 go_wp2_with fail; go_loopg [5, 8] l.length (fun gg _ s8 wr => ∃ kk : Nat, kk <= l.length /\ l.length - kk <= gg /\ s8 = .int .i64 kk /\ Aside0 (Below w.heap.size w wr) /\ Aside0 ((l.take kk).any p = false))
 case atStart => exact ⟨0, zqf _, by omega, rfl, ⟨zpr _ _⟩, ⟨rfl⟩⟩
 case round =>
  obtain ⟨kk, hkk, hgk, rfl, HB, HA⟩ := hrel; by_cases hlt : kk < l.length
  . have hltz : (kk : Int) < (l.length : Int) := by omega
    obtain ⟨b, o, rfl, p0⟩ := zbj (zqO HR.out HB.out) kk hlt; have hS : (l.take (kk + 1)).any p = ((l.take kk).any p || p l[kk]) := by rw [zpU hlt, List.any_append]; simp
    rw [HA.out, zqY] at hS; have hmem : p l[kk] = true -> l.any p = true := fun h => zqZ.2 ⟨_, zqJ hlt, h⟩
    have hcall := HP.out wr HB.out l[kk] (zqJ hlt); have HS := zpo hS; have HM := zpo hmem; generalize p l[kk] = q at hcall HS HM; generalize l[kk] = x at p0 hcall; clear hS hmem; cases q with
    | true =>
     go_wp2_with (first | (go_at_fn g; refine hcall.mono ?_; rintro e w2 ⟨rfl, hb2⟩; have HB2 := zpo (zac HB.out HB.out.size hb2); clear hb2))
     go_ret
     exact ⟨kk, rfl, by rw [HM.out trivial]; simp, HB2.out⟩
    | false =>
     go_wp2_with (first | (go_at_fn g; refine hcall.mono ?_; rintro e w2 ⟨rfl, hb2⟩; have HB2 := zpo (zac HB.out HB.out.size hb2); clear hb2))
     go_roundg (l.length - (kk + 1))
     case measure => omega
     case rel => exact ⟨kk + 1, by omega, by omega, by first | rfl | go_num, ⟨HB2.out⟩, ⟨HS.out⟩⟩
  . have hltz : ¬ (kk : Int) < (l.length : Int) := by omega
    obtain rfl : kk = l.length := by omega
    have hA := HA.out; rw [zqa] at hA; have HA2 := zpo hA; clear hA; go_wp2_with fail; go_ret
    exact ⟨-1, rfl, by rw [HA2.out]; rfl, HB.out⟩
theorem zi5 (g : Nat) (lb : Array Value) (eg : ∀ args w, (callFunc g args).run zp0 w = .ok (.enter g args) w) (p : ByteArray -> Bool) (A : Option Addr) (c : Nat) (l : List ByteArray) (w : World)
 (hr : Kd.C zp6 w A l.length l) (hp : ∀ (W : World), Below w.heap.size w W -> ∀ x ∈ l, Calls zp0 g (#[.string x] ++ lb) W fun e w' => e = .returned (.bool (p x)) /\ Below W.heap.size W w') :
 Calls zp0 56 #[.slice A l.length c, .func (.func g) #[] lb] w fun e w' => e = .returned (.bool (l.any p)) /\ Below w.heap.size w w' := by
 have hI := zmK g lb eg p A c l w hr hp; clear hr hp; generalize l.any p = q at *; go_enter Tryz.func56, Tryz.ntmps56
 go_wp2_with (go_at_call 76; refine hI.mono ?_; rintro e w2 ⟨i, rfl, hq, hb2⟩)
 go_ret
 exact ⟨by rw [<- hq]; rfl, hb2⟩
structure PSt (w : World) (K7 K8 m1 m2 n1 n2 : Nat) (s1 s2 : zaa -> Bool) : Prop where
 c7 : w.heap[K7]? = some (.cells #[.map (some m1)] 119 (0, 0))
 c8 : w.heap[K8]? = some (.cells #[.map (some m2)] 119 (0, 0))
 e1 : SetIs w m1 n1 s1
 e2 : SetIs w m2 n2 s2
 ne : m1 ≠ m2
theorem PSt.below {w w' : World} {K7 K8 m1 m2 n1 n2 : Nat} {s1 s2 : zaa -> Bool} (h : PSt w K7 K8 m1 m2 n1 n2 s1 s2) (hb : Below w.heap.size w w') : PSt w' K7 K8 m1 m2 n1 n2 s1 s2 := ⟨zah h.c7 hb, zah h.c8 hb, h.e1.below hb, h.e2.below hb, h.ne⟩
theorem PSt.put1 {w : World} {K7 K8 m1 m2 n1 n2 : Nat} {s1 s2 : zaa -> Bool} (h : PSt w K7 K8 m1 m2 n1 n2 s1 s2) (hn : n1 < maxLen) (k : ByteArray) (hs : k.size <= maxLen) :
 ∃ w', (Instr.mapUpdate 119 (.map (some m1)) (.string k) (.bool true)).run zp0 w = .ok () w' /\ PSt w' K7 K8 m1 m2 (n1 + 1) n2 (addS s1 k.data.toList) s2 /\ w.grownBy w' (some m1) := by
 obtain ⟨w', hrun, he, hg⟩ := h.e1.put hn k hs; exact ⟨w', hrun, ⟨zaY h.c7 hg (by intro e; injection e with e; exact h.e1.ne_cells h.c7 e.symm), zaY h.c8 hg (by intro e; injection e with e; exact h.e1.ne_cells h.c8 e.symm), he, h.e2.grown hg (by intro e; injection e with e; exact h.ne e.symm), h.ne⟩, hg⟩
theorem PSt.put2 {w : World} {K7 K8 m1 m2 n1 n2 : Nat} {s1 s2 : zaa -> Bool} (h : PSt w K7 K8 m1 m2 n1 n2 s1 s2) (hn : n2 < maxLen) (k : ByteArray) (hs : k.size <= maxLen) :
 ∃ w', (Instr.mapUpdate 119 (.map (some m2)) (.string k) (.bool true)).run zp0 w = .ok () w' /\ PSt w' K7 K8 m1 m2 n1 (n2 + 1) s1 (addS s2 k.data.toList) /\ w.grownBy w' (some m2) := by
 obtain ⟨w', hrun, he, hg⟩ := h.e2.put hn k hs; exact ⟨w', hrun, ⟨zaY h.c7 hg (by intro e; injection e with e; exact h.e2.ne_cells h.c7 e.symm), zaY h.c8 hg (by intro e; injection e with e; exact h.e2.ne_cells h.c8 e.symm), h.e1.grown hg (by intro e; injection e with e; exact h.ne e), he, h.ne⟩, hg⟩
theorem zm5 : ∀ args w, (callFunc 103 args).run zp0 w = .ok (.enter 103 args) w := Go.Proofs.enters_of Tryz.func103 (by kernel_rfl) rfl
theorem zn4 : ∀ args w, (callFunc 104 args).run zp0 w = .ok (.enter 104 args) w := Go.Proofs.enters_of Tryz.func104 (by kernel_rfl) rfl
theorem znz (K m n : Nat) (s : zaa -> Bool) (x : ByteArray) (w : World) (hk : w.cell? ⟨K, 0, none⟩ = some (.map (some m))) (he : SetIs w m n s) (hx : x.size <= maxLen) :
 Calls zp0 103 #[.string x, .pointer (some ⟨K, 0, none⟩)] w fun e w' => e = .returned (.bool (s x.data.toList)) /\ w = w' := by
 have hl := he.look x hx; generalize s x.data.toList = q at hl |-; clear he; go_enter Tryz.func103, Tryz.ntmps103
 go_wp2_with fail; go_ret
 exact ⟨rfl, rfl⟩
theorem zlK (K m n : Nat) (s : zaa -> Bool) (x : ByteArray) (w : World) (hk : w.cell? ⟨K, 0, none⟩ = some (.map (some m))) (he : SetIs w m n s) (hx : x.size <= maxLen) :
 Calls zp0 104 #[.string x, .pointer (some ⟨K, 0, none⟩)] w fun e w' => e = .returned (.bool (!s x.data.toList)) /\ w = w' := by
 have hl := he.look x hx; generalize s x.data.toList = q at hl |-; clear he; go_enter Tryz.func104, Tryz.ntmps104
 go_wp2_with fail; go_ret
 exact ⟨rfl, rfl⟩
theorem zjW (K m n : Nat) (s : zaa -> Bool) (B : Option Addr) (d : Nat) (l : List ByteArray) (w : World) (hk : w.cell? ⟨K, 0, none⟩ = some (.map (some m))) (he : SetIs w m n s) (hx : Kd.C zp6 w B l.length l) (hs : ∀ x ∈ l, x.size <= maxLen) :
 Calls zp0 56 #[.slice B l.length d, .func (.func 103) #[] #[.pointer (some ⟨K, 0, none⟩)]] w fun e w' => e = .returned (.bool ((zab l).any s)) /\ Below w.heap.size w w' := by
 have h := zi5 103 #[.pointer (some ⟨K, 0, none⟩)] zm5 (fun x => s x.data.toList) B d l w hx (fun W hW x hxm => (znz K m n s x W (zad hW hk) (he.below hW) (hs x hxm)).mono fun e w' ⟨he, hw⟩ => ⟨he, by rw [<- hw]; exact zpr _ _⟩)
 have e : l.any (fun x => s x.data.toList) = (zab l).any s := by
  unfold zab; rw [zq0]; rfl
 rw [e] at h; exact h
theorem zmM (K m n : Nat) (s : zaa -> Bool) (B : Option Addr) (d : Nat) (l : List ByteArray) (w : World) (hk : w.cell? ⟨K, 0, none⟩ = some (.map (some m))) (he : SetIs w m n s) (hx : Kd.C zp6 w B l.length l) (hs : ∀ x ∈ l, x.size <= maxLen) :
 Calls zp0 56 #[.slice B l.length d, .func (.func 104) #[] #[.pointer (some ⟨K, 0, none⟩)]] w fun e w' => e = .returned (.bool ((zab l).any fun a => !s a)) /\ Below w.heap.size w w' := by
 have h := zi5 104 #[.pointer (some ⟨K, 0, none⟩)] zn4 (fun x => !s x.data.toList) B d l w hx (fun W hW x hxm => (zlK K m n s x W (zad hW hk) (he.below hW) (hs x hxm)).mono fun e w' ⟨he, hw⟩ => ⟨he, by rw [<- hw]; exact zpr _ _⟩)
 have e : l.any (fun x => !s x.data.toList) = (zab l).any fun a => !s a := by
  unfold zab; rw [zq0]; rfl
 rw [e] at h; exact h
structure zcf (rs : List zaj) : Prop where
 len : rs.length <= 1000
 fit : ∀ r ∈ rs, FitR r /\ r.f3.length <= 1000 /\ r.f0.size <= maxLen /\ ∀ x ∈ r.f3, x.size <= maxLen
def zbn (l : List zaa) : zaa -> Bool := addL (fun _ => false) l
theorem zhS (l : List zaa) (x : zaa) : zbn l x = l.contains x := by unfold zbn addL; rw [zqY]
theorem zh8 (l : List zaa) : zbn l = fun x => l.contains x := funext (zhS l)
def dupS : List zaj -> List zaa -> List zaa -> Option zaj
 | [], _, _ => none
 | r :: rs, N, O => if N.contains r.f0.data.toList || (zab r.f2).any (fun o => O.contains o) then some r else dupS rs (N ++ [r.f0.data.toList]) (O ++ zab r.f2)
def whoV (e : Int) (o : Option zaj) (d : Int × ByteArray) : Int × ByteArray := match o with
 | some r => (e, r.f0)
 | none => d
def zda (rs : List zaj) : Option zaj := rs.find? (fun r => (zab r.f3).any fun a => !(rs.map fun q => q.f0.data.toList).contains a)
def zbC (rs : List zaj) : Int × ByteArray := match rs.find? (fun r => zbW r != 0) with
 | some r => (zbW r, r.f0)
 | none => if 40 < rs.length then (4, ⟨#[]⟩) else whoV 2 (dupS rs [] []) (whoV 2 (zda rs) (0, ⟨#[]⟩))
def zdO (p : Int × ByteArray) (w : World) (e : Ending) (w' : World) : Prop := e = .returned (.tuple #[.int .i64 p.1, .string p.2]) /\ Below w.heap.size w w'
theorem zgg {α : Type} (p : α -> Bool) (l : List α) (k : Nat) (h : k < l.length) (hn : (l.take k).any p = false) (hp : p l[k] = true) : l.find? p = some l[k] := by
 have e : l = l.take k ++ l[k] :: l.drop (k + 1) := by rw [<- zpW h, zq1]
 have h1 : (l.take k).find? p = none := by
  rw [zq4]; intro x hx hpx; have := zq2.1 hn x hx; exact this hpx
 conv => lhs; rw [e]
 rw [List.find?_append, h1, List.find?_cons_of_pos hp]; rfl
theorem zfv {α : Type} (p : α -> Bool) (l : List α) (hn : l.any p = false) : l.find? p = none := by
 rw [zq4]; intro x hx hpx; exact zq2.1 hn x hx hpx
theorem zgb {α : Type} (p : α -> Bool) (l : List α) (k : Nat) (h : k < l.length) : (l.take (k + 1)).any p = ((l.take k).any p || p l[k]) := by
 rw [zpU h, List.any_append]; simp
theorem zo6 (rs : List zaj) (N O : List zaa) (k : Nat) (h : k < rs.length) : dupS (rs.drop k) N O = if N.contains rs[k].f0.data.toList || (zab rs[k].f2).any (fun o => O.contains o) then some rs[k] else dupS (rs.drop (k + 1)) (N ++ [rs[k].f0.data.toList]) (O ++ zab rs[k].f2) := by
 rw [zpW h]; rfl
def nmK (rs : List zaj) (k : Nat) : List zaa := (rs.take k).map fun q => q.f0.data.toList
def otK (rs : List zaj) (k : Nat) : List zaa := (rs.take k).flatMap fun q => zab q.f2
theorem zno (rs : List zaj) (k : Nat) (h : k < rs.length) : nmK rs (k + 1) = nmK rs k ++ [rs[k].f0.data.toList] := by unfold nmK; rw [zpU h, zqj]; rfl
theorem znV (rs : List zaj) (k : Nat) (h : k < rs.length) : otK rs (k + 1) = otK rs k ++ zab rs[k].f2 := by unfold otK; rw [zpU h, List.flatMap_append]; simp
theorem zoD (w : World) : PSt ((((w.alloc (.map #[] 0)).alloc (.map #[] 0)).alloc (.cells #[.map (some w.heap.size)] 119)).alloc (.cells #[.map (some (w.heap.size + 1))] 119)) (w.heap.size + 1 + 1) (w.heap.size + 1 + 1 + 1) w.heap.size (w.heap.size + 1) 0 0 (zbn []) (zbn []) := by
 have e0 : zbn [] = fun _ => false := zfG _
 have b1 : ∀ (W : World) (ob : Obj), Below W.heap.size W (W.alloc ob) := fun W ob => (zpr W.heap.size W).alloc (zps _) ob
 have s1 : (w.alloc (.map #[] 0)).heap.size = w.heap.size + 1 := by simp
 have s2 : ((w.alloc (.map #[] 0)).alloc (.map #[] 0)).heap.size = w.heap.size + 1 + 1 := by simp
 have s3 : (((w.alloc (.map #[] 0)).alloc (.map #[] 0)).alloc (.cells #[.map (some w.heap.size)] 119)).heap.size = w.heap.size + 1 + 1 + 1 := by simp
 have m1 := SetIs.made w; have m2 := SetIs.made (w.alloc (.map #[] 0)); have k7 := zak ((w.alloc (.map #[] 0)).alloc (.map #[] 0)) (.cells #[.map (some w.heap.size)] 119); have k8 := zak (((w.alloc (.map #[] 0)).alloc (.map #[] 0)).alloc (.cells #[.map (some w.heap.size)] 119)) (.cells #[.map (some (w.heap.size + 1))] 119); rw [s1] at m2; rw [s2] at k7; rw [s3] at k8; rw [e0]; exact ⟨zah k7 (b1 _ _), k8, ((m1.below (b1 _ _)).below (b1 _ _)).below (b1 _ _), (m2.below (b1 _ _)).below (b1 _ _), by omega⟩
theorem zjc (A : Option Addr) (c : Nat) (rs : List zaj) (w : World) (hG : GOK w) (hr : Kd.C k45 w A rs.length rs) (hF : zcf rs) :
 Calls zp0 72 #[.slice A rs.length c] w (zdO (zbC rs) w) := by
 have hn := hF.len; have HR := zpo hr; have HG := zpo hG; have HF := zpo hF.fit; obtain ⟨T, hT⟩ : ∃ T, T = zbC rs := ⟨_, rfl⟩; rw [<- hT]; have HT := zpo hT; clear hr hG hF hT; have hmm := @run_makeMap zp0; go_enter Tryz.func72, Tryz.ntmps72
 go_wp2_with fail; go_loopg [5, 6, 18] rs.length (fun gg _ _ s18 wr => ∃ kk : Nat, kk <= rs.length /\ rs.length - kk <= gg /\ s18 = .int .i64 kk /\ Aside0 ((rs.take kk).any (fun r => zbW r != 0) = false) /\ Aside0 (Below w.heap.size w wr))
 case atStart => exact ⟨0, zqf _, by omega, rfl, ⟨rfl⟩, ⟨zpr _ _⟩⟩
 case round =>
  obtain ⟨kk, hkk, hgk, rfl, HN, HW⟩ := hrel; obtain ⟨wq, rfl⟩ : ∃ wq, wq = wr := ⟨wr, rfl⟩; by_cases hlt : kk < rs.length
  . have hltz : (kk : Int) < (rs.length : Int) := by omega
    obtain ⟨b, o, B1, c1, B2, c2, B3, c3, B4, c4, rfl, p0, p1, p2, p3, p4, hA, hC⟩ := zcU HR.out kk hlt; replace p0 := zad HW.out p0
    replace p1 := zad HW.out p1
    replace p2 := zad HW.out p2
    replace p3 := zad HW.out p3
    replace p4 := zad HW.out p4
    obtain ⟨hf, _, hf0, _⟩ := HF.out _ (zqJ hlt); have hst := zgb (fun r => zbW r != 0) rs kk hlt
    rw [HN.out, zqY] at hst; have hfd := zgg (fun r => zbW r != 0) rs kk hlt HN.out
    have HSt := zpo hst; have HFd := zpo hfd; generalize rs[kk] = x at p0 p1 p2 p3 p4 hA hC hf HSt HFd; have hb3 := (zpr wq.heap.size wq).alloc (zps _) (.cells (zao x B1 c1 B2 c2 B3 c3 B4 c4) 45); have HX3 := zpo (zak wq (.cells (zao x B1 c1 B2 c2 B3 c3 B4 c4) 45)); have HB3 := zpo (zac HW.out HW.out.size hb3); have HRu := zpo (zij x B1 c1 B2 c2 B3 c3 B4 c4 _ ((HG.out.below HW.out).below hb3) ((hA.below HW.out).below hb3) hC hf.steps hf.ins); clear hst hfd hA hC hf hf0 hb3; unfold zao at HX3 HB3 HRu; go_upto_region 4 with fail; generalize wq.alloc (.cells #[.string x.f0, .slice B1 x.f1.length c1, .slice B2 x.f2.length c2, .slice B3 x.f3.length c3, .slice B4 x.f4.length c4] 45) = w3 at HX3 HB3 HRu |-; have x0 := bc0 HX3.out; have x1 := bc1 HX3.out; have x2 := bc2 HX3.out; have x3 := bc3 HX3.out; have x4 := bc4 HX3.out; obtain ⟨v, hv⟩ : ∃ v, v = zbW x := ⟨_, rfl⟩; rw [<- hv] at HRu HSt HFd; have HVx := zpo hv; clear hv; by_cases h0 : v = 0
    . have d0 : (v == 0) = true := by simp [h0]
      have d1 : (v != 0) = false := by simp [h0]
      have HN2 : Hid ((rs.take (kk + 1)).any (fun r => zbW r != 0) = false) := by show _ = _; rw [HSt.out, d1]
      clear h0; go_wp2_with (first | (go_at_call 46; refine HRu.out.mono ?_; rintro e w4 ⟨rfl, hb4⟩; have HB4 := zpo (zac HB3.out HB3.out.size hb4); clear hb4))
      go_roundg (rs.length - (kk + 1))
      case measure => omega
      case rel => exact ⟨kk + 1, by omega, by omega, by first | rfl | go_num, ⟨HN2.out⟩, ⟨HB4.out⟩⟩
    . have d0 : (v == 0) = false := by simp [h0]
      have d1 : (v != 0) = true := by simp [h0]
      have HV : Hid (T = (v, x.f0)) := by
       show _ = _
       rw [HT.out]; unfold zbC; rw [HFd.out d1, HVx.out]
      clear h0; go_wp2_with (first | (go_at_call 46; refine HRu.out.mono ?_; rintro e w4 ⟨rfl, hb4⟩; have HB4 := zpo (zac HB3.out HB3.out.size hb4); have y0 := zad hb4 x0; clear hb4))
      go_quiet (fail)
      go_wp2_with fail; go_ret2
      exact ⟨by rw [HV.out]; rfl, by first | exact HB4.out | exact zal HB4.out _⟩
  . have hltz : ¬ (kk : Int) < (rs.length : Int) := by omega
    obtain rfl : kk = rs.length := by omega
    have hN := HN.out; rw [zqa] at hN; have hT := HT.out; unfold zbC at hT; rw [zfv _ _ hN] at hT; have HT2 : Hid (T = if 40 < rs.length then (4, ⟨#[]⟩) else whoV 2 (dupS rs [] []) (whoV 2 (zda rs) (0, ⟨#[]⟩))) := zpo hT
    clear hN hT HT HN; by_cases h40 : 40 < rs.length
    . have d0 : decide ((40 : Int) < (rs.length : Int)) = true := by simp; omega
      have d1 : (40 : Int) < (rs.length : Int) := by omega
      have HV : Hid (T = (4, ⟨#[]⟩)) := by show _ = _; rw [HT2.out, if_pos h40]
      clear h40; go_wp2_with fail; go_ret2
      exact ⟨by rw [HV.out]; rfl, HW.out⟩
    . have d0 : decide ((40 : Int) < (rs.length : Int)) = false := by simp; omega
      have d1 : ¬ (40 : Int) < (rs.length : Int) := by omega
      have hT := HT2.out; rw [if_neg h40] at hT; clear h40; go_upto_region 11 with fail; have hPS := zoD wq; have hB2 := (((HW.out.alloc HW.out.size (.map #[] 0)).alloc (by have := HW.out.size; simp; omega) (.map #[] 0)).alloc (by have := HW.out.size; simp; omega) (.cells #[.map (some wq.heap.size)] 119)).alloc (by have := HW.out.size; simp; omega) (.cells #[.map (some (wq.heap.size + 1))] 119)
      have HPS := zpo hPS; have HB2 := zpo hB2; have HM1 : Hid (w.heap.size <= wq.heap.size) := zpo HW.out.size; have HM2 : Hid (w.heap.size <= wq.heap.size + 1) := zpo (Nat.le_succ_of_le HW.out.size); clear hPS hB2; generalize (((wq.alloc (.map #[] 0)).alloc (.map #[] 0)).alloc (.cells #[.map (some wq.heap.size)] 119)).alloc (.cells #[.map (some (wq.heap.size + 1))] 119) = w2 at HPS HB2 |-; generalize wq.heap.size + 1 + 1 + 1 = K8 at HPS |-; generalize wq.heap.size + 1 + 1 = K7 at HPS |-; generalize wq.heap.size + 1 = m2 at HPS HM2 |-; generalize wq.heap.size = m1 at HPS HM1 |-; obtain ⟨D, hD⟩ : ∃ D, D = dupS rs [] [] := ⟨_, rfl⟩; rw [<- hD] at hT; have HT3 := zpo hT; have HD := zpo hD; clear hT hD HT2 HW; go_wp2_with fail; go_loopg [10, 11, 13, 37] rs.length (fun gg _ _ _ s37 wr => ∃ kk : Nat, kk <= rs.length /\ rs.length - kk <= gg /\ s37 = .int .i64 kk /\ Aside0 (PSt wr K7 K8 m1 m2 kk (kk * 1000) (zbn (nmK rs kk)) (zbn (otK rs kk))) /\ Aside0 (dupS (rs.drop kk) (nmK rs kk) (otK rs kk) = D) /\ Aside0 (Below w.heap.size w wr))
      case atStart => exact ⟨0, zqf _, by omega, rfl, ⟨by rw [Nat.zero_mul]; exact HPS.out⟩, ⟨by rw [List.drop_zero]; exact HD.out.symm⟩, ⟨HB2.out⟩⟩
      case round =>
       obtain ⟨kk, hkk, hgk, rfl, HP, HDr, HW⟩ := hrel; obtain ⟨wz, rfl⟩ : ∃ wz, wz = wr := ⟨wr, rfl⟩; by_cases hlt : kk < rs.length
       . have hltz : (kk : Int) < (rs.length : Int) := by omega
         obtain ⟨b, o, B1, c1, B2, c2, B3, c3, B4, c4, rfl, p0, p1, p2, p3, p4, hA, hC⟩ := zcU HR.out kk hlt; replace p0 := zad HW.out p0
         replace p1 := zad HW.out p1
         replace p2 := zad HW.out p2
         replace p3 := zad HW.out p3
         replace p4 := zad HW.out p4
         obtain ⟨hf, _, hf0, _⟩ := HF.out _ (zqJ hlt); have hds := zo6 rs (nmK rs kk) (otK rs kk) kk hlt; rw [HDr.out] at hds; have hsn := zno rs kk hlt; have hso := znV rs kk hlt; have HSn := zpo hsn; have HSo := zpo hso; have HDs := zpo hds; have HF2 := zpo hf.outsN; have HFl := zpo hf.outs; have HF0 := zpo hf0; generalize rs[kk] = x at p0 p1 p2 p3 p4 hA hC HF2 HFl HF0 HSn HSo HDs; have HB3 : Hid (Below w.heap.size w (wz.alloc (.cells (zao x B1 c1 B2 c2 B3 c3 B4 c4) 45))) := zpo (HW.out.alloc HW.out.size _); have hb3 := (zpr wz.heap.size wz).alloc (zps _) (.cells (zao x B1 c1 B2 c2 B3 c3 B4 c4) 45); have HX3 := zpo (zak wz (.cells (zao x B1 c1 B2 c2 B3 c3 B4 c4) 45)); have HP3 := zpo (HP.out.below hb3); have HA := zpo hA; clear hds hsn hso hA hC hf hf0 hb3 HP; unfold zao at HX3 HB3 HP3; go_upto_region 14 with fail; generalize wz.alloc (.cells #[.string x.f0, .slice B1 x.f1.length c1, .slice B2 x.f2.length c2, .slice B3 x.f3.length c3, .slice B4 x.f4.length c4] 45) = w3 at HX3 HB3 HP3 |-; have x0 := bc0 HX3.out; have x2 := bc2 HX3.out; have y7 : w3.cell? ⟨K7, 0, none⟩ = some (.map (some m1)) := (zaf HP3.out.c7 0).trans rfl; have y8 : w3.cell? ⟨K8, 0, none⟩ = some (.map (some m2)) := (zaf HP3.out.c8 0).trans rfl; have hlk := HP3.out.e1.look x.f0 HF0.out; have HMd := zpo (zjW K8 m2 (kk * 1000) (zbn (otK rs kk)) B2 c2 x.f2 w3 y8 HP3.out.e2 (HA.out.below HB3.out).h2 HF2.out); have hDs := HDs.out; rw [zhS] at hlk; rw [zh8 (otK rs kk)] at HMd; generalize (nmK rs kk).contains x.f0.data.toList = q1 at hlk hDs; generalize (zab x.f2).any (fun o => (otK rs kk).contains o) = q2 at HMd hDs
         have HDs2 := zpo hDs; clear hDs HDs; cases q1 with
         | true =>
          have HV : Hid (T = (2, x.f0)) := by show _ = _; rw [HT3.out, HDs2.out]; rfl
          go_wp2_with fail; go_quiet (fail)
          go_wp2_with fail; go_ret2
          exact ⟨by rw [HV.out]; rfl, by first | exact HB3.out | exact zal HB3.out _⟩
         | false =>
          cases q2 with
          | true =>
           have HV : Hid (T = (2, x.f0)) := by show _ = _; rw [HT3.out, HDs2.out]; rfl
           go_wp2_with (first | (go_at_call 56; refine HMd.out.mono ?_; rintro e w4 ⟨rfl, hb4⟩; have HB4 := zpo (zac HB3.out HB3.out.size hb4); have z0 := zad hb4 x0; clear hb4))
           go_quiet (fail)
           go_wp2_with fail; go_ret2
           exact ⟨by rw [HV.out]; rfl, by first | exact HB4.out | exact zal HB4.out _⟩
          | false =>
           have HDn : Hid (dupS (rs.drop (kk + 1)) (nmK rs (kk + 1)) (otK rs (kk + 1)) = D) := by
            show _ = _
            rw [HSn.out, HSo.out]; exact HDs2.out.symm
           go_upto_region 17 with (first | (go_at_call 56; refine HMd.out.mono ?_; rintro e w4 ⟨rfl, hb4⟩; have HB4 := zpo (zac HB3.out HB3.out.size hb4); have HP4 := zpo (HP3.out.below hb4); have HX4 := zpo (zah HX3.out hb4); clear hb4))
           have z0 := bc0 HX4.out; have z7 : w4.cell? ⟨K7, 0, none⟩ = some (.map (some m1)) := (zaf HP4.out.c7 0).trans rfl; obtain ⟨w5, hrun, hP5, hg5⟩ := HP4.out.put1 (by unfold maxLen; omega) x.f0 HF0.out
           have hX5 := zaY HX4.out hg5 (by intro e; injection e with e; exact HP4.out.e1.ne_cells HX4.out e.symm)
           have hB5 := HB4.out.grown hg5 HB4.out.size (fun k hk => by cases hk; exact HM1.out)
           have hadd : addS (zbn (nmK rs kk)) x.f0.data.toList = zbn (nmK rs (kk + 1)) := by rw [HSn.out]; exact (zeC _ _ _).symm
           rw [hadd] at hP5; have HP5 := zpo hP5; have HX5 := zpo hX5; have HB5 := zpo hB5; clear hP5 hg5 hX5 hB5 hadd x0 x2 y7 y8 hlk; go_upto_region 18 with fail; have u2 := bc2 HX5.out; clear hrun; have hx2 := HFl.out; go_wp2_with fail; go_loopg [13, 60] x.f2.length (fun gg _ s60 wi => ∃ j : Nat, j <= x.f2.length /\ x.f2.length - j <= gg /\ s60 = .int .i64 j /\ Aside0 (PSt wi K7 K8 m1 m2 (kk + 1) (kk * 1000 + j) (zbn (nmK rs (kk + 1))) (zbn (otK rs kk ++ (zab x.f2).take j))) /\ Aside0 (Below w.heap.size w wi))
           case atStart => exact ⟨0, zqf _, by omega, rfl, ⟨by rw [zqX, zqy]; exact HP5.out⟩, ⟨HB5.out⟩⟩
           case round =>
            obtain ⟨j, hj, hgj, rfl, HPi, HWi⟩ := hrel; by_cases hlj : j < x.f2.length
            . have hljz : (j : Int) < (x.f2.length : Int) := by omega
              obtain ⟨b5, o5, rfl, n0⟩ := zbj (HA.out.below HWi.out).h2 j hlj; have v8 : wr.cell? ⟨K8, 0, none⟩ = some (.map (some m2)) := (zaf HPi.out.c8 0).trans rfl; obtain ⟨w6, hrun, hP6, hg6⟩ := HPi.out.put2 (by have h1 := HFl.out; unfold maxLen; omega) x.f2[j] (HF2.out _ (zqJ hlj))
              have hB6 := HWi.out.grown hg6 HWi.out.size (fun k hk => by cases hk; exact HM2.out)
              have hadd : addS (zbn (otK rs kk ++ (zab x.f2).take j)) x.f2[j].data.toList = zbn (otK rs kk ++ (zab x.f2).take (j + 1)) := by
               rw [zpU (by rw [zaL]; exact hlj), zce x.f2 j hlj, <- zqG]
               exact (zeC _ _ _).symm
              rw [hadd] at hP6; have HP6 := zpo hP6; have HB6 := zpo hB6; generalize x.f2[j] = n at n0 hrun; clear hP6 hg6 hB6 hadd; go_wp2_with fail; go_roundg (x.f2.length - (j + 1))
              case measure => omega
              case rel => exact ⟨j + 1, by omega, by omega, by first | rfl | go_num, ⟨HP6.out⟩, ⟨HB6.out⟩⟩
            . have hljz : ¬ (j : Int) < (x.f2.length : Int) := by omega
              obtain rfl : j = x.f2.length := by omega
              have HPn : Hid (PSt wr K7 K8 m1 m2 (kk + 1) ((kk + 1) * 1000) (zbn (nmK rs (kk + 1))) (zbn (otK rs (kk + 1)))) := by
               have h := HPi.out; rw [zqS (by rw [zaL]; exact zps _), <- HSo.out] at h
               have hle : kk * 1000 + x.f2.length <= (kk + 1) * 1000 := by
                have h1 := HFl.out; have h2 : (kk + 1) * 1000 = kk * 1000 + 1000 := zpJ kk 1000; omega
               exact ⟨h.c7, h.c8, h.e1, h.e2.mono hle, h.ne⟩
              go_wp2_with fail; go_roundg (rs.length - (kk + 1))
              case measure => omega
              case rel => exact ⟨kk + 1, by omega, by omega, by first | rfl | go_num, ⟨HPn.out⟩, ⟨HDn.out⟩, ⟨HWi.out⟩⟩
       . have hltz : ¬ (kk : Int) < (rs.length : Int) := by omega
         obtain rfl : kk = rs.length := by omega
         have hd := HDr.out; rw [List.drop_length] at hd; have hT := HT3.out; rw [<- hd] at hT; have HT4 : Hid (T = whoV 2 (zda rs) (0, ⟨#[]⟩)) := zpo hT; have HPe : Hid (PSt wz K7 K8 m1 m2 rs.length (rs.length * 1000) (zbn (rs.map fun q => q.f0.data.toList)) (zbn (otK rs rs.length))) := by
          have h := HP.out; have e : nmK rs rs.length = rs.map fun q => q.f0.data.toList := by unfold nmK; rw [zqa]
          rw [e] at h; exact h
         have HWz : Hid (Below w.heap.size w wz) := zpo HW.out; clear hd hT HP HDr HT3; go_wp2_with fail; go_loopg [15, 70] rs.length (fun gg _ s70 wr => ∃ jj : Nat, jj <= rs.length /\ rs.length - jj <= gg /\ s70 = .int .i64 jj /\ Aside0 ((rs.take jj).any (fun r => (zab r.f3).any fun a => !(rs.map fun q => q.f0.data.toList).contains a) = false) /\ Aside0 (Below wz.heap.size wz wr))
         case atStart => exact ⟨0, zqf _, by omega, rfl, ⟨rfl⟩, ⟨zpr _ _⟩⟩
         case round =>
          obtain ⟨jj, hjj, hgj, rfl, HN, HWr⟩ := hrel; obtain ⟨wy, rfl⟩ : ∃ wy, wy = wr := ⟨wr, rfl⟩; have HWw := zpo (zac HWz.out HWz.out.size HWr.out); by_cases hlj : jj < rs.length
          . have hljz : (jj : Int) < (rs.length : Int) := by omega
            obtain ⟨b, o, B1, c1, B2, c2, B3, c3, B4, c4, rfl, p0, p1, p2, p3, p4, hA, hC⟩ := zcU HR.out jj hlj; replace p0 := zad HWw.out p0
            replace p1 := zad HWw.out p1
            replace p2 := zad HWw.out p2
            replace p3 := zad HWw.out p3
            replace p4 := zad HWw.out p4
            obtain ⟨_, _, _, hf3⟩ := HF.out _ (zqJ hlj); have hst := zgb (fun r => (zab r.f3).any fun a => !(rs.map fun q => q.f0.data.toList).contains a) rs jj hlj
            rw [HN.out, zqY] at hst; have hfd := zgg (fun r => (zab r.f3).any fun a => !(rs.map fun q => q.f0.data.toList).contains a) rs jj hlj HN.out
            have hb3 := (zpr wy.heap.size wy).alloc (zps _) (.cells (zao rs[jj] B1 c1 B2 c2 B3 c3 B4 c4) 45); have HX3 := zpo (zak wy (.cells (zao rs[jj] B1 c1 B2 c2 B3 c3 B4 c4) 45)); have HB3 := zpo (zac HWw.out HWw.out.size hb3); have HP3 := zpo ((HPe.out.below HWr.out).below hb3); have HBz := zpo (zac HWr.out HWr.out.size hb3); have hls := zmM K7 m1 rs.length (zbn (rs.map fun q => q.f0.data.toList)) B3 c3 rs[jj].f3 _ ((zaf HP3.out.c7 0).trans rfl) HP3.out.e1 (hA.below HB3.out).h3 hf3
            rw [zh8] at hls; have HLs := zpo hls; have HSt := zpo hst; have HFd := zpo hfd; clear hst hfd hls hA hC hf3 hb3; generalize ((zab rs[jj].f3).any fun a => !(rs.map fun q => q.f0.data.toList).contains a) = q at HLs HSt HFd
            generalize rs[jj] = x at p0 p1 p2 p3 p4 HX3 HB3 HP3 HBz HLs HFd; unfold zao at HX3 HB3 HP3 HBz HLs; go_upto_region 27 with fail; generalize wy.alloc (.cells #[.string x.f0, .slice B1 x.f1.length c1, .slice B2 x.f2.length c2, .slice B3 x.f3.length c3, .slice B4 x.f4.length c4] 45) = w3 at HX3 HB3 HP3 HBz HLs |-; have x0 := bc0 HX3.out; have x3 := bc3 HX3.out; cases q with
            | true =>
             have HV : Hid (T = (2, x.f0)) := by
              show _ = _
              rw [HT4.out]; unfold zda; rw [HFd.out (by trivial)]
              rfl
             go_wp2_with (first | (go_at_call 56; refine HLs.out.mono ?_; rintro e w4 ⟨rfl, hb4⟩; have HB4 := zpo (zac HB3.out HB3.out.size hb4); have z0 := zad hb4 x0; clear hb4))
             go_quiet (fail)
             go_wp2_with fail; go_ret2
             exact ⟨by rw [HV.out]; rfl, by first | exact HB4.out | exact zal HB4.out _⟩
            | false =>
             go_wp2_with (first | (go_at_call 56; refine HLs.out.mono ?_; rintro e w4 ⟨rfl, hb4⟩; have HB4 := zpo (zac HBz.out HBz.out.size hb4); clear hb4))
             go_roundg (rs.length - (jj + 1))
             case measure => omega
             case rel => exact ⟨jj + 1, by omega, by omega, by first | rfl | go_num, ⟨HSt.out⟩, ⟨HB4.out⟩⟩
          . have hljz : ¬ (jj : Int) < (rs.length : Int) := by omega
            obtain rfl : jj = rs.length := by omega
            have hN := HN.out; rw [zqa] at hN; have HV : Hid (T = (0, ⟨#[]⟩)) := by
             show _ = _
             rw [HT4.out]; unfold zda; rw [zfv _ _ hN]; rfl
            clear hN; go_wp2_with fail; go_ret2
            exact ⟨by rw [HV.out]; rfl, HWw.out⟩
theorem zhY {w : World} {a : Addr} {v : Value} (h : w.cell? a = some v) : ∃ (cs : Array Value) (t : TypeId) (fr : Nat × Nat), w.heap[a.block]? = some (Obj.cells cs t fr) := by
 unfold World.cell? at h; split at h
 . rename_i c t fr hb
   exact ⟨c, t, fr, hb⟩
 . cases h
theorem zhg {w w' : World} {A : Option Addr} {l : List ByteArray} (h : Kd.C zp6 w A l.length l) {m : Nat} (hm : ∀ (g t : Nat) (cs : Array Value) (fr : Nat × Nat), w.heap[g]? = some (Obj.cells cs t fr) -> m ≠ g) (hg : w.grownBy w' (some m)) : Kd.C zp6 w' A l.length l := by
 refine ⟨h.1, h.2.1, fun hp => ?_⟩
 obtain ⟨ad, rfl, hc⟩ := h.2.2 hp; refine ⟨ad, rfl, fun j x hx => ?_⟩
 obtain ⟨c, h1, h2, h3⟩ := hc j x hx; refine ⟨c, h1, h2, fun i v hv => ?_⟩
 have h4 := h3 i v hv; obtain ⟨cs, t, fr, hb⟩ := zhY h4; have h5 := hg.block _ (Array.getElem?_eq_some_iff.1 hb).1 (by intro e; injection e with e; exact hm _ _ _ _ hb e.symm)
 unfold World.cell? at h4 |-; rw [h5]; exact h4
def MkIs (w : World) (b n : Nat) (g : zaa -> Option ByteArray) : Prop := ∃ f, MapIs zp0 9 w b n f /\ ∀ k, f k = (g k).map Value.string
theorem MkIs.made (w : World) : MkIs (w.alloc (.map #[] 0)) w.heap.size 0 (fun _ => none) := ⟨_, MapIs.made w, fun _ => rfl⟩
theorem MkIs.lt {w : World} {b n : Nat} {g : zaa -> Option ByteArray} (h : MkIs w b n g) : b < w.heap.size := by obtain ⟨f, h, _⟩ := h; exact h.lt
theorem MkIs.mono {w : World} {b n n' : Nat} {g : zaa -> Option ByteArray} (h : MkIs w b n g) (hn : n <= n') : MkIs w b n' g := by obtain ⟨f, h, h2⟩ := h; exact ⟨f, h.mono hn, h2⟩
theorem MkIs.below {w w' : World} {b n : Nat} {g : zaa -> Option ByteArray} (h : MkIs w b n g) (hb : Below w.heap.size w w') : MkIs w' b n g := by obtain ⟨f, h, h2⟩ := h; exact ⟨f, h.below hb, h2⟩
theorem MkIs.grown {w w' : World} {b n : Nat} {g : zaa -> Option ByteArray} {row : Option Nat} (h : MkIs w b n g) (hg : w.grownBy w' row) (hne : some b ≠ row) : MkIs w' b n g := by obtain ⟨f, h, h2⟩ := h; exact ⟨f, h.grown hg hne, h2⟩
theorem MkIs.ne_cells {w : World} {b n : Nat} {g : zaa -> Option ByteArray} (h : MkIs w b n g) {a t : Nat} {cs : Array Value} {fr : Nat × Nat} (hg : w.heap[a]? = some (.cells cs t fr)) : b ≠ a := by obtain ⟨f, h, _⟩ := h; exact h.ne_cells hg
theorem MkIs.look2 {w : World} {b n : Nat} {g : zaa -> Option ByteArray} (h : MkIs w b n g) (k : ByteArray) (hs : k.size <= maxLen) :
 (Instr.lookup 98 (.map (some b)) (.string k) true).run zp0 w = .ok (.tuple #[.string ((g k.data.toList).getD ⟨#[]⟩), .bool (g k.data.toList).isSome]) w := by
 obtain ⟨f, h, h2⟩ := h; rw [h.look2 Tryz.underlying9 Tryz.underlying98 (Tryz.zeroValue9 w) k hs, h2]; cases g k.data.toList <;> rfl
def setG {α : Type} (g : zaa -> Option α) (k : zaa) (v : α) : zaa -> Option α := fun x => if x = k then some v else g x
theorem MkIs.put {w : World} {b n : Nat} {g : zaa -> Option ByteArray} (h : MkIs w b n g) (hn : n < maxLen) (k : ByteArray) (hs : k.size <= maxLen) (v : ByteArray) :
 ∃ w', (Instr.mapUpdate 98 (.map (some b)) (.string k) (.string v)).run zp0 w = .ok () w' /\ MkIs w' b (n + 1) (setG g k.data.toList v) /\ w.grownBy w' (some b) := by
 obtain ⟨f, h, h2⟩ := h; obtain ⟨w', hrun, h', hg⟩ := h.store Tryz.underlying9 Tryz.underlying98 hn k hs (.string v); refine ⟨w', hrun, ⟨_, h', fun x => ?_⟩, hg⟩
 unfold setF setG; split
 . rfl
 . exact h2 x
def zja (w : World) (v : Value) (l : List ByteArray) : Prop := ∃ A c, v = .slice A l.length c /\ Kd.C zp6 w A l.length l
def AllIs (w : World) (b n : Nat) (g : zaa -> Option (List ByteArray)) : Prop := ∃ f, MapIs zp0 9 w b n f /\ (∀ k, (f k).isSome = (g k).isSome) /\ ∀ k v l, f k = some v -> g k = some l -> zja w v l
theorem AllIs.made (w : World) : AllIs (w.alloc (.map #[] 0)) w.heap.size 0 (fun _ => none) := ⟨_, MapIs.made w, fun _ => rfl, fun _ _ _ h => by cases h⟩
theorem AllIs.lt {w : World} {b n : Nat} {g : zaa -> Option (List ByteArray)} (h : AllIs w b n g) : b < w.heap.size := by obtain ⟨f, h, _⟩ := h; exact h.lt
theorem AllIs.below {w w' : World} {b n : Nat} {g : zaa -> Option (List ByteArray)} (h : AllIs w b n g) (hb : Below w.heap.size w w') : AllIs w' b n g := by
 obtain ⟨f, h, h1, h2⟩ := h; refine ⟨f, h.below hb, h1, fun k v l hv hl => ?_⟩
 obtain ⟨A, c, e, hc⟩ := h2 k v l hv hl; exact ⟨A, c, e, zqO hc hb⟩
theorem AllIs.put {w : World} {b n : Nat} {g : zaa -> Option (List ByteArray)} (h : AllIs w b n g) (hn : n < maxLen) (k : ByteArray) (hs : k.size <= maxLen) (A : Option Addr) (c : Nat) (l : List ByteArray) (hl : Kd.C zp6 w A l.length l) :
 ∃ w', (Instr.mapUpdate 125 (.map (some b)) (.string k) (.slice A l.length c)).run zp0 w = .ok () w' /\ AllIs w' b (n + 1) (setG g k.data.toList l) /\ w.grownBy w' (some b) := by
 obtain ⟨f, h, h1, h2⟩ := h; obtain ⟨w', hrun, h', hg⟩ := h.store Tryz.underlying9 Tryz.underlying125 hn k hs (.slice A l.length c); have hne : ∀ (a t : Nat) (cs : Array Value) (fr : Nat × Nat), w.heap[a]? = some (Obj.cells cs t fr) -> b ≠ a := fun a t cs fr hc => h.ne_cells hc
 refine ⟨w', hrun, ⟨_, h', fun x => ?_, fun x v l2 hv hl2 => ?_⟩, hg⟩
 . unfold setF setG
   split
   . rfl
   . exact h1 x
 . unfold setF at hv
   unfold setG at hl2; split at hv
   . rename_i e
     rw [if_pos e] at hl2; cases hv
     cases hl2
     exact ⟨A, c, rfl, zhg hl hne hg⟩
   . rename_i e
     rw [if_neg e] at hl2; obtain ⟨A', c', e', hc'⟩ := h2 x v l2 hv hl2; exact ⟨A', c', e', zhg hc' hne hg⟩
def za5 (rs : List zaj) : zaa -> Option ByteArray := fun o => (rs.reverse.find? fun r => (zab r.f2).contains o).map (·.f0)
theorem zmz (rs : List zaj) (r : zaj) : za5 (rs ++ [r]) = fun o => if (zab r.f2).contains o then some r.f0 else za5 rs o := by
 funext o
 unfold za5; rw [List.reverse_append, List.reverse_singleton, List.singleton_append, List.find?_cons]; cases (zab r.f2).contains o <;> rfl
def zbU (rs : List zaj) (r : zaj) : List ByteArray := r.f3 ++ r.f1.filterMap fun i => za5 rs i.data.toList
def zbA (all : List zaj) (rs : List zaj) : zaa -> Option (List ByteArray) := fun n => (rs.reverse.find? fun r => r.f0.data.toList == n).map fun r => zbO (zae (zbU all r))
theorem zkj (all rs : List zaj) (r : zaj) : zbA all (rs ++ [r]) = setG (zbA all rs) r.f0.data.toList (zbO (zae (zbU all r))) := by
 funext n
 unfold zbA setG; rw [List.reverse_append, List.reverse_singleton, List.singleton_append, List.find?_cons]; by_cases h : n = r.f0.data.toList
 . rw [if_pos h, h]
   simp
 . rw [if_neg h]
   have : (r.f0.data.toList == n) = false := by simpa using Ne.symm h
   rw [this]
theorem zeZ {α : Type} (l : List α) (k : Nat) (h : k < l.length) : l.take (k + 1) = l.take k ++ [l[k]] := zpU h
theorem zkF (all : List zaj) (f3 f1 : List ByteArray) (j : Nat) (h : j < f1.length) (n : ByteArray) (hm : za5 all f1[j].data.toList = some n) : f3 ++ (f1.take (j + 1)).filterMap (fun i => za5 all i.data.toList) = (f3 ++ (f1.take j).filterMap fun i => za5 all i.data.toList) ++ [n] := by
 rw [zpU h, List.filterMap_append, zqG]; simp [hm]
theorem zlP (all : List zaj) (f3 f1 : List ByteArray) (j : Nat) (h : j < f1.length) (hm : za5 all f1[j].data.toList = none) : f3 ++ (f1.take (j + 1)).filterMap (fun i => za5 all i.data.toList) = f3 ++ (f1.take j).filterMap fun i => za5 all i.data.toList := by
 rw [zpU h, List.filterMap_append]; simp [hm]
theorem zhw (all : List zaj) (r : zaj) : (zbU all r).length <= r.f3.length + r.f1.length := by
 unfold zbU; rw [zpF]; have := List.length_filterMap_le (fun i : ByteArray => za5 all i.data.toList) r.f1
 omega
theorem znd (A : Option Addr) (c : Nat) (rs : List zaj) (w : World) (hr : Kd.C k45 w A rs.length rs) (hF : zcf rs) :
 Calls zp0 105 #[.slice A rs.length c] w fun e w' => ∃ b, e = .returned (.map (some b)) /\ w.heap.size <= b /\ AllIs w' b rs.length (zbA rs rs) /\ Below w.heap.size w w' := by
 have hn := hF.len; have HR := zpo hr; have HF := zpo hF.fit; have hmm := @run_makeMap zp0; have HM0 := zpo (MkIs.made w); have HB0 := zpo ((zpr w.heap.size w).alloc (zps _) (.map #[] 0)); obtain ⟨g, hg⟩ : ∃ g, g = zbA rs rs := ⟨_, rfl⟩; rw [<- hg]; have HGg := zpo hg; clear hr hF hg; go_enter Tryz.func105, Tryz.ntmps105
 go_upto_region 2 with fail; generalize w.alloc (.map #[] 0) = w1 at HM0 HB0 |-; go_wp2_with fail; go_loopg [5, 7, 19] rs.length (fun gg _ _ s19 wr => ∃ kk : Nat, kk <= rs.length /\ rs.length - kk <= gg /\ s19 = .int .i64 kk /\ Aside0 (MkIs wr w.heap.size (kk * 1000) (za5 (rs.take kk))) /\ Aside0 (Below w.heap.size w wr))
 case atStart => exact ⟨0, zqf _, by omega, rfl, ⟨by rw [Nat.zero_mul]; exact HM0.out⟩, ⟨HB0.out⟩⟩
 case round =>
  obtain ⟨kk, hkk, hgk, rfl, HM, HW⟩ := hrel; obtain ⟨wq, rfl⟩ : ∃ wq, wq = wr := ⟨wr, rfl⟩; by_cases hlt : kk < rs.length
  . have hltz : (kk : Int) < (rs.length : Int) := by omega
    obtain ⟨b, o, B1, c1, B2, c2, B3, c3, B4, c4, rfl, p0, p1, p2, p3, p4, hA, hC⟩ := zcU HR.out kk hlt; replace p0 := zad HW.out p0
    replace p1 := zad HW.out p1
    replace p2 := zad HW.out p2
    replace p3 := zad HW.out p3
    replace p4 := zad HW.out p4
    obtain ⟨hf, _, hf0, _⟩ := HF.out _ (zqJ hlt); have hsn := zmz (rs.take kk) rs[kk]; rw [<- zeZ rs kk hlt] at hsn; have HSn := zpo hsn; have HF2 := zpo hf.outsN; have hx2 := hf.outs; have HF0 := zpo hf0; have hb3 := (zpr wq.heap.size wq).alloc (zps _) (.cells (zao rs[kk] B1 c1 B2 c2 B3 c3 B4 c4) 45); have HX3 := zpo (zak wq (.cells (zao rs[kk] B1 c1 B2 c2 B3 c3 B4 c4) 45)); have HB3 := zpo (HW.out.alloc HW.out.size (.cells (zao rs[kk] B1 c1 B2 c2 B3 c3 B4 c4) 45)); have HM3 := zpo (HM.out.below hb3); have HA := zpo hA; generalize rs[kk] = x at p0 p1 p2 p3 p4 HA HX3 HB3 HM3 HSn HF2 HF0 hx2; clear hA hC hf hf0 hsn hb3; unfold zao at HX3 HB3 HM3; go_upto_region 5 with fail; generalize wq.alloc (.cells #[.string x.f0, .slice B1 x.f1.length c1, .slice B2 x.f2.length c2, .slice B3 x.f3.length c3, .slice B4 x.f4.length c4] 45) = w3 at HX3 HB3 HM3 |-; have x2 := bc2 HX3.out; go_wp2_with fail; go_loopg [7, 26] x.f2.length (fun gg _ s26 wi => ∃ j : Nat, j <= x.f2.length /\ x.f2.length - j <= gg /\ s26 = .int .i64 j /\ Aside0 (MkIs wi w.heap.size (kk * 1000 + j) (fun o => if ((zab x.f2).take j).contains o then some x.f0 else za5 (rs.take kk) o)) /\ Aside0 (wi.heap[wq.heap.size]? = some (.cells #[.string x.f0, .slice B1 x.f1.length c1, .slice B2 x.f2.length c2, .slice B3 x.f3.length c3, .slice B4 x.f4.length c4] 45 (0, 0))) /\ Aside0 (Below w.heap.size w wi))
    case atStart => exact ⟨0, zqf _, by omega, rfl, ⟨by simpa using HM3.out⟩, ⟨HX3.out⟩, ⟨HB3.out⟩⟩
    case round =>
     obtain ⟨j, hj, hgj, rfl, HMi, HXi, HWi⟩ := hrel; by_cases hlj : j < x.f2.length
     . have hljz : (j : Int) < (x.f2.length : Int) := by omega
       obtain ⟨b5, o5, rfl, n0⟩ := zbj (HA.out.below HWi.out).h2 j hlj; have z0 := bc0 HXi.out; obtain ⟨w6, hrun, hM6, hg6⟩ := HMi.out.put (by unfold maxLen; omega) x.f2[j] (HF2.out _ (zqJ hlj)) x.f0
       have hB6 := HWi.out.grown hg6 HWi.out.size (fun k hk => by cases hk; exact zps _)
       have hX6 := zaY HXi.out hg6 (by intro e; injection e with e; exact HMi.out.ne_cells HXi.out e.symm)
       have hadd : setG (fun o => if ((zab x.f2).take j).contains o then some x.f0 else za5 (rs.take kk) o) x.f2[j].data.toList x.f0 = fun o => if ((zab x.f2).take (j + 1)).contains o then some x.f0 else za5 (rs.take kk) o := by
        funext o
        rw [zeZ (zab x.f2) j (by rw [zaL]; exact hlj), zce x.f2 j hlj]
        unfold setG; by_cases ho : o = x.f2[j].data.toList
        . rw [if_pos ho, if_pos (by rw [ho]; simp)]
        . rw [if_neg ho]
          have : ((zab x.f2).take j ++ [x.f2[j].data.toList]).contains o = ((zab x.f2).take j).contains o := by
           rw [Bool.eq_iff_iff]; simp [ho]
          rw [this]
       rw [hadd] at hM6; have HM6 := zpo hM6; have HB6 := zpo hB6; have HX6 := zpo hX6; generalize x.f2[j] = n at n0 hrun; clear hM6 hg6 hB6 hX6 hadd; go_wp2_with fail; go_roundg (x.f2.length - (j + 1))
       case measure => omega
       case rel => exact ⟨j + 1, by omega, by omega, by first | rfl | go_num, ⟨HM6.out⟩, ⟨HX6.out⟩, ⟨HB6.out⟩⟩
     . have hljz : ¬ (j : Int) < (x.f2.length : Int) := by omega
       obtain rfl : j = x.f2.length := by omega
       have HMn : Hid (MkIs wr w.heap.size ((kk + 1) * 1000) (za5 (rs.take (kk + 1)))) := by
        have h := HMi.out; rw [zqS (by rw [zaL]; exact zps _)] at h
        show MkIs _ _ _ _
        rw [HSn.out]; refine h.mono ?_; have h2 : (kk + 1) * 1000 = kk * 1000 + 1000 := zpJ kk 1000; omega
       go_wp2_with fail; go_roundg (rs.length - (kk + 1))
       case measure => omega
       case rel => exact ⟨kk + 1, by omega, by omega, by first | rfl | go_num, ⟨HMn.out⟩, ⟨HWi.out⟩⟩
  . have hltz : ¬ (kk : Int) < (rs.length : Int) := by omega
    obtain rfl : kk = rs.length := by omega
    have hM := HM.out; rw [zqa] at hM; have hb1 := (zpr wq.heap.size wq).alloc (zps _) (.map #[] 0); have HM1 := zpo (hM.below hb1); have HE1 := zpo (AllIs.made wq); have HB1 := zpo (HW.out.alloc HW.out.size (.map #[] 0)); have HZ1 := zpo HW.out.size; have HZ0 : Hid (w.heap.size < wq.heap.size) := zpo hM.lt; clear hM hb1 HM; go_upto_region 12 with fail; generalize hb : wq.heap.size = b at HE1 HZ1 HZ0 |-; generalize wq.alloc (.map #[] 0) = w2 at HM1 HE1 HB1 |-; clear hb; go_wp2_with fail; go_loopg [10, 11, 13, 14, 15, 39] rs.length (fun gg _ _ _ _ _ s39 wr => ∃ kk : Nat, kk <= rs.length /\ rs.length - kk <= gg /\ s39 = .int .i64 kk /\ Aside0 (AllIs wr b kk (zbA rs (rs.take kk))) /\ Aside0 (MkIs wr w.heap.size (rs.length * 1000) (za5 rs)) /\ Aside0 (Below w.heap.size w wr))
    case atStart => exact ⟨0, zqf _, by omega, rfl, ⟨HE1.out⟩, ⟨HM1.out⟩, ⟨HB1.out⟩⟩
    case round =>
     obtain ⟨kk, hkk, hgk, rfl, HE, HM, HW⟩ := hrel; obtain ⟨wq, rfl⟩ : ∃ wq, wq = wr := ⟨wr, rfl⟩; by_cases hlt : kk < rs.length
     . have hltz : (kk : Int) < (rs.length : Int) := by omega
       obtain ⟨bb, o, B1, c1, B2, c2, B3, c3, B4, c4, rfl, p0, p1, p2, p3, p4, hA, hC⟩ := zcU HR.out kk hlt; replace p0 := zad HW.out p0
       replace p1 := zad HW.out p1
       replace p2 := zad HW.out p2
       replace p3 := zad HW.out p3
       replace p4 := zad HW.out p4
       obtain ⟨hf, hf3, hf0, _⟩ := HF.out _ (zqJ hlt); have hsn := zkj rs (rs.take kk) rs[kk]; rw [<- zeZ rs kk hlt] at hsn; have HSn := zpo hsn; have HF1 := zpo hf.insN; have hx1 := hf.ins; have HF0 := zpo hf0; have hb3 := (zpr wq.heap.size wq).alloc (zps _) (.cells (zao rs[kk] B1 c1 B2 c2 B3 c3 B4 c4) 45); have HX3 := zpo (zak wq (.cells (zao rs[kk] B1 c1 B2 c2 B3 c3 B4 c4) 45)); have HB3 := zpo (HW.out.alloc HW.out.size (.cells (zao rs[kk] B1 c1 B2 c2 B3 c3 B4 c4) 45)); have HM3 := zpo (HM.out.below hb3); have HE3 := zpo (HE.out.below hb3); have HA3 := zpo (hA.below HB3.out); have hnl := zhw rs rs[kk]; have hnl2 : (zbU rs rs[kk]).length <= 2000 := by omega
       have HNl := zpo hnl2; generalize hxx : rs[kk] = x at p0 p1 p2 p3 p4 HX3 HB3 HM3 HE3 HA3 HSn HF1 HF0 hx1 HNl hf3; clear hA hC hf hf0 hsn hb3 hnl hnl2 hxx HM HE; unfold zao at HX3 HB3 HM3 HE3 HA3; go_upto_region 15 with fail; generalize wq.alloc (.cells #[.string x.f0, .slice B1 x.f1.length c1, .slice B2 x.f2.length c2, .slice B3 x.f3.length c3, .slice B4 x.f4.length c4] 45) = w3 at HX3 HB3 HM3 HE3 HA3 |-; have x3 := bc3 HX3.out; have hcl := zc1 B3 c3 x.f3 w3 HA3.out.h3 (by omega)
       go_upto_region 16 with (first | (go_at_call 99; refine hcl.mono ?_; rintro e w4 ⟨v4, rfl, hown, hb4⟩; have HO4 : Hid (RS w4 w3.heap.size v4 x.f3) := zpo (Kd.R_of_own (h1 := fun _ => rfl) hown (fun _ _ => trivial)); have HB4 := zpo hb4; have HX4 := zpo (zah HX3.out hb4); clear hown hb4))
       have x1 := bc1 HX4.out; clear hcl x3; go_wp2_with fail; go_loopg [11, 13, 14, 15, 49] x.f1.length (fun gg s11 _ _ _ s49 wi => ∃ j : Nat, j <= x.f1.length /\ x.f1.length - j <= gg /\ s49 = .int .i64 j /\ Aside0 (RS wi w3.heap.size s11 (x.f3 ++ (x.f1.take j).filterMap fun i => za5 rs i.data.toList)) /\ Aside0 (Below w3.heap.size w3 wi))
       case atStart => exact ⟨0, zqf _, by omega, rfl, ⟨by simpa using HO4.out⟩, ⟨HB4.out⟩⟩
       case round =>
        obtain ⟨j, hj, hgj, rfl, HO, HWi⟩ := hrel; by_cases hlj : j < x.f1.length
        . have hljz : (j : Int) < (x.f1.length : Int) := by omega
          obtain ⟨b5, o5, rfl, n0⟩ := zbj (HA3.out.below HWi.out).h1 j hlj; have hlk := (HM3.out.below HWi.out).look2 x.f1[j] (HF1.out _ (zqJ hlj)); have hfl : ((x.f1.take j).filterMap fun i => za5 rs i.data.toList).length <= 1000 := Nat.le_trans (List.length_filterMap_le _ _) (by rw [List.length_take]; omega)
          have HFl := zpo hfl; have HWs := zpo HWi.out.size; have HSome := zpo (zkF rs x.f3 x.f1 j hlj); have HNone := zpo (zlP rs x.f3 x.f1 j hlj); generalize za5 rs x.f1[j].data.toList = mo at hlk HSome HNone; generalize x.f1[j] = n at n0 hlk; clear hfl; cases mo with
          | none =>
           have HN : Hid (RS wr w3.heap.size u11 (x.f3 ++ (x.f1.take (j + 1)).filterMap fun i => za5 rs i.data.toList)) := by show RS _ _ _ _; rw [HNone.out (by trivial)]; exact HO.out
           simp only [Option.getD_none, Option.isSome_none] at hlk; go_wp2_with fail; go_roundg (x.f1.length - (j + 1))
           case measure => omega
           case rel => exact ⟨j + 1, by omega, by omega, by first | rfl | go_num, ⟨HN.out⟩, ⟨HWi.out⟩⟩
          | some nm =>
           have HN : Hid (x.f3 ++ (x.f1.take (j + 1)).filterMap (fun i => za5 rs i.data.toList) = (x.f3 ++ (x.f1.take j).filterMap fun i => za5 rs i.data.toList) ++ [nm]) := HSome.out nm rfl
           simp only [Option.getD_some, Option.isSome_some] at hlk; go_wp2_with (first | ((with_reducible refine zaD (b := .append) (xs := #[.tmp 60, .tmp 62]) rfl ?_); at_builtin; refine Kd.R_append zp6 (w0 := w3) w3.heap.size rfl (.tmp 60) (.tmp 62) 22 9 (.string ⟨#[]⟩) 16 rfl Tryz.underlying22 zbf rfl (by decide) (by decide) u11 (x.f3 ++ (x.f1.take j).filterMap fun i => za5 rs i.data.toList) nm [.string nm] (fun _ => True) (fun k_ => True /\ some k_ ≠ u11.ownBlock) rfl rfl rfl (fun _ hk => hk) (fun _ _ => trivial) HO.out HWi.out HWs.out ?aL ?_; (case aL => (have h1 := HFl.out; rw [zpF]; omega)); intro v1 w5 ho hb hg hat; have HO5 : Hid (RS w5 w3.heap.size v1 (x.f3 ++ (x.f1.take (j + 1)).filterMap fun i => za5 rs i.data.toList)) := (by show RS _ _ _ _; rw [HN.out]; exact ho); have HB5 := zpo hb; clear ho hb hg hat))
           go_roundg (x.f1.length - (j + 1))
           case measure => omega
           case rel => exact ⟨j + 1, by omega, by omega, by first | rfl | go_num, ⟨HO5.out⟩, ⟨HB5.out⟩⟩
        . have hljz : ¬ (j : Int) < (x.f1.length : Int) := by omega
          obtain rfl : j = x.f1.length := by omega
          have hO := HO.out; rw [zqa] at hO; have hO' : RS wr w3.heap.size u11 (zbU rs x) := hO; have hSort := zgd w3.heap.size u11 (zbU rs x) wr hO' (by have := HNl.out; omega)
          have HSort := zpo hSort; have HBs := zpo (Kd.R_base hO'); have HSn2 := HSn.out; generalize zbU rs x = nl at HSort HSn2 HNl; have HSn3 := zpo HSn2; clear hO hO' hSort HSn2 HSn HO; go_upto_region 24 with (first
           | (go_at_call 93; refine HSort.out.mono ?_; rintro e w5 ⟨rfl, hR5, hg5⟩; have HR5 := zpo hR5; have HW5 := zpo (HWi.out.grown hg5 HWi.out.size (fun k hk => HBs.out k hk)); clear hR5 hg5))
          have HX5 := zpo (zah HX3.out HW5.out); have HSo : Hid (∀ W, Below w3.heap.size w3 W -> W.cell? ⟨wq.heap.size, 0, none⟩ = some (.string x.f0)) := zpo (fun W hW => (zaf (zah HX3.out hW) 0).trans rfl)
          have HBx : Hid (Below w3.heap.size w3 w5.drew) := zpo (zaW HW5.out); have HR5d := zpo (Kd.R_drew HR5.out); go_wp2_with fail; go_region_held3 (fun W => W.cell? ⟨wq.heap.size, 0, none⟩ = some (.string x.f0)) (first | exact HSo.out _ HBx.out | exact (zaf HX7.out 0).trans rfl)
           (first | (go_at_call 94; refine (ziL w3.heap.size u11 _ _ HR5d.out).mono ?_; rintro e w6 ⟨v6, rfl, hR6, hg6⟩; obtain ⟨A6, n6, rfl, _, hC6⟩ := zql hR6; have HBx := zpo (HBx.out.grown hg6 HBx.out.size (fun k hk => HBs.out k hk)); obtain ⟨w7, hrun, hE7, hg7⟩ := (HE3.out.below HBx.out).put (by unfold maxLen; omega) x.f0 HF0.out A6 n6 _ hC6; have HE7 := zpo hE7; have HG7 := zpo hg7; have HX7 := zpo (zaY (zah HX3.out HBx.out) hg7 (by intro e; injection e with e; obtain ⟨f, hf, _⟩ := HE3.out.below HBx.out; exact hf.ne_cells (zah HX3.out HBx.out) e.symm)); have HM7 := zpo ((HM3.out.below HBx.out).grown hg7 (by have h0 := HZ0.out; intro e; injection e with e; omega)); clear hR6 hg6 hC6 hE7 hg7))
          all_goals
           have HB7 : Hid (Below w.heap.size w w7) := zpo ((HB3.out.trans (HBx.out.mono HB3.out.size)).grown HG7.out (Nat.le_trans HB3.out.size HBx.out.size) (fun k hk => by cases hk; exact HZ1.out))
           have HE8 : Hid (AllIs w7 b (kk + 1) (zbA rs (rs.take (kk + 1)))) := by
            show AllIs _ _ _ _
            rw [HSn3.out]; exact HE7.out
           go_wp2_with fail; go_roundg (rs.length - (kk + 1))
           case measure => omega
           case rel => exact ⟨kk + 1, by omega, by omega, by first | rfl | go_num, ⟨HE8.out⟩, ⟨HM7.out⟩, ⟨HB7.out⟩⟩
     . have hltz : ¬ (kk : Int) < (rs.length : Int) := by omega
       obtain rfl : kk = rs.length := by omega
       have hE := HE.out; rw [zqa, <- HGg.out] at hE; have HEf := zpo hE; clear hE; go_wp2_with fail; go_ret
       exact ⟨b, rfl, HZ1.out, HEf.out, HW.out⟩
end X
namespace X
def goes (G : zaa -> List zaa) (t : zaa) : Nat -> zaa -> Prop
 | 0, x => x = t
 | n + 1, x => ∃ y, y ∈ G x /\ goes G t n y
structure IsFar (G : zaa -> List zaa) (t : zaa) (far : zaa -> Option Nat) : Prop where
 sound : ∀ x d, far x = some d -> goes G t d x
 least : ∀ x n, goes G t n x -> ∃ d, far x = some d /\ d <= n
theorem IsFar.le {G : zaa -> List zaa} {t : zaa} {f g : zaa -> Option Nat} (hf : IsFar G t f) (hg : IsFar G t g) {x : zaa} {d : Nat} (h : f x = some d) : g x = some d := by
 obtain ⟨e, he, hle⟩ := hg.least x d (hf.sound x d h); obtain ⟨d', hd', hle'⟩ := hf.least x e (hg.sound x e he); rw [h] at hd'; obtain rfl := Option.some.inj hd'; rw [he, Nat.le_antisymm hle hle']
theorem IsFar.unique {G : zaa -> List zaa} {t : zaa} {f g : zaa -> Option Nat} (hf : IsFar G t f) (hg : IsFar G t g) : f = g := by
 funext x
 cases h : f x with
 | some d => rw [hf.le hg h]
 | none =>
  cases h2 : g x with
  | none => rfl
  | some d => rw [hg.le hf h2] at h; cases h
theorem zkz {G : zaa -> List zaa} {t : zaa} {far : zaa -> Option Nat} (h0 : far t = some 0) (hs : ∀ x d, far x = some d -> goes G t d x) (hc : ∀ x y d, y ∈ G x -> far y = some d -> ∃ e, far x = some e /\ e <= d + 1) : IsFar G t far := by
 refine ⟨hs, fun x n => ?_⟩
 induction n generalizing x with
 | zero => rintro rfl; exact ⟨0, h0, zps _⟩
 | succ n ih =>
  rintro ⟨y, hy, hg⟩; obtain ⟨d, hd, hle⟩ := ih y hg; obtain ⟨e, he, hle2⟩ := hc x y d hy hd; exact ⟨e, he, by omega⟩
theorem IsFar.self {G : zaa -> List zaa} {t : zaa} {far : zaa -> Option Nat} (h : IsFar G t far) : far t = some 0 := by
 obtain ⟨d, hd, hle⟩ := h.least t 0 rfl; rw [hd, Nat.le_zero.1 hle]
theorem IsFar.next {G : zaa -> List zaa} {t : zaa} {far : zaa -> Option Nat} (h : IsFar G t far) {x : zaa} {k : Nat} (hx : far x = some (k + 1)) : ∃ y, y ∈ G x /\ far y = some k := by
 obtain ⟨y, hy, hg⟩ := h.sound x _ hx; obtain ⟨d, hd, hle⟩ := h.least y k hg; refine ⟨y, hy, ?_⟩; obtain ⟨e, he, hle2⟩ := h.least x (d + 1) ⟨y, hy, h.sound y d hd⟩; rw [hx] at he; obtain rfl := Option.some.inj he; rw [hd]; congr 1
 omega
def zbB (b : Option Nat) (v : Option Nat) : Option Nat := match v, b with
 | none, b => b
 | some d, none => some d
 | some d, some e => if d < e then some d else some e
def zbH (far : zaa -> Option Nat) (l : List zaa) : Option Nat := l.foldl (fun b y => zbB b (far y)) none
theorem zgH (far : zaa -> Option Nat) : ∀ (l : List zaa) (b : Option Nat), (match l.foldl (fun b y => zbB b (far y)) b with
 | none => b = none /\ ∀ y ∈ l, far y = none
 | some k => (b = some k \/ ∃ y ∈ l, far y = some k) /\ (∀ e, b = some e -> k <= e) /\ ∀ y ∈ l, ∀ d, far y = some d -> k <= d)
 | [], b => by
  cases b with
  | none => exact ⟨rfl, fun y hy => by cases hy⟩
  | some k => exact ⟨.inl rfl, fun e he => by cases he; exact zps _, fun y hy => by cases hy⟩
 | y :: r, b => by
  have ih := zgH far r (zbB b (far y)); rw [List.foldl_cons]; generalize r.foldl (fun b y => zbB b (far y)) (zbB b (far y)) = z at ih |-
  cases z with
  | none =>
   obtain ⟨h1, h2⟩ := ih; cases hy : far y with
   | none =>
    rw [hy] at h1; refine ⟨by cases b <;> first | rfl | exact h1, fun u hu => ?_⟩
    rcases zqH.1 hu with rfl | hu
    . exact hy
    . exact h2 u hu
   | some d =>
    rw [hy] at h1; exfalso
    cases b with
    | none => cases h1
    | some e => unfold zbB at h1; dsimp only at h1; split at h1 <;> cases h1
  | some k =>
   obtain ⟨h1, h2, h3⟩ := ih; cases hy : far y with
   | none =>
    rw [hy] at h1 h2; have e : zbB b none = b := by cases b <;> rfl
    rw [e] at h1 h2; refine ⟨?_, h2, fun u hu d hd => ?_⟩
    . rcases h1 with h1 | ⟨u, hu, hk⟩
      . exact .inl h1
      . exact .inr ⟨u, zqQ _ hu, hk⟩
    . rcases zqH.1 hu with rfl | hu
      . rw [hy] at hd; cases hd
      . exact h3 u hu d hd
   | some d =>
    rw [hy] at h1 h2; cases b with
    | none =>
     have e : zbB none (some d) = some d := rfl; rw [e] at h1 h2; refine ⟨?_, (fun e he => by cases he), fun u hu d' hd => ?_⟩
     . rcases h1 with h1 | ⟨u, hu, hk⟩
       . exact .inr ⟨y, zqP, by rw [hy, h1]⟩
       . exact .inr ⟨u, zqQ _ hu, hk⟩
     . rcases zqH.1 hu with rfl | hu
       . rw [hy] at hd; cases hd; exact h2 d rfl
       . exact h3 u hu d' hd
    | some e =>
     by_cases hlt : d < e
     . have e' : zbB (some e) (some d) = some d := by unfold zbB; dsimp only; rw [if_pos hlt]
       rw [e'] at h1 h2; have hk := h2 d rfl; refine ⟨?_, fun e2 he => by cases he; omega, fun u hu d' hd => ?_⟩
       . rcases h1 with h1 | ⟨u, hu, hk⟩
         . exact .inr ⟨y, zqP, by rw [hy, h1]⟩
         . exact .inr ⟨u, zqQ _ hu, hk⟩
       . rcases zqH.1 hu with rfl | hu
         . rw [hy] at hd; cases hd; exact hk
         . exact h3 u hu d' hd
     . have e' : zbB (some e) (some d) = some e := by unfold zbB; dsimp only; rw [if_neg hlt]
       rw [e'] at h1 h2; have hk := h2 e rfl; refine ⟨?_, fun e2 he => by cases he; exact hk, fun u hu d' hd => ?_⟩
       . rcases h1 with h1 | ⟨u, hu, hk⟩
         . exact .inl h1
         . exact .inr ⟨u, zqQ _ hu, hk⟩
       . rcases zqH.1 hu with rfl | hu
         . rw [hy] at hd; cases hd; omega
         . exact h3 u hu d' hd
theorem zib {far : zaa -> Option Nat} {l : List zaa} {k : Nat} (h : zbH far l = some k) : (∃ y ∈ l, far y = some k) /\ ∀ y ∈ l, ∀ d, far y = some d -> k <= d := by
 have := zgH far l none; unfold zbH at h; rw [h] at this; obtain ⟨h1, _, h3⟩ := this; exact ⟨by rcases h1 with h1 | h1; cases h1; exact h1, h3⟩
def zcn (G : zaa -> List zaa) (far : zaa -> Option Nat) : Nat -> zaa -> List zaa
 | 0, _ => []
 | k + 1, x => match (G x).find? (fun y => far y == some (k + 1)) with
  | some y => y :: zcn G far k y
  | none => []
def wayF (G : zaa -> List zaa) (far : zaa -> Option Nat) (t : zaa) : Option (List zaa) := match zbH far (G t) with
 | none => none
 | some k => some (t :: zcn G far k t)
def zfX (G : zaa -> List zaa) (far : zaa -> Option Nat) (t : zaa) (k : Nat) (x : zaa) : Prop := (x = t /\ zbH far (G t) = some k) \/ far x = some (k + 1)
theorem zoU {G : zaa -> List zaa} {t : zaa} {far : zaa -> Option Nat} (h : IsFar G t far) {k : Nat} {x : zaa} (hx : zfX G far t (k + 1) x) : ∃ y, (G x).find? (fun y => far y == some (k + 1)) = some y /\ y ∈ G x /\ far y = some (k + 1) /\ zcn G far (k + 1) x = y :: zcn G far k y /\ zfX G far t k y := by
 have hex : ∃ y, y ∈ G x /\ far y = some (k + 1) := by
  rcases hx with ⟨rfl, hb⟩ | hx
  . obtain ⟨⟨y, hy, hk⟩, _⟩ := zib hb
    exact ⟨y, hy, hk⟩
  . exact h.next hx
 cases hf : (G x).find? (fun y => far y == some (k + 1)) with
 | none =>
  obtain ⟨y, hy, hk⟩ := hex; have := zq4.1 hf y hy; rw [hk] at this; simp at this
 | some y =>
  have h1 := List.mem_of_find?_eq_some hf; have h2 : far y = some (k + 1) := by simpa using List.find?_some hf
  refine ⟨y, rfl, h1, h2, ?_, .inr h2⟩; show (match (G x).find? (fun y => far y == some (k + 1)) with
   | some y => y :: zcn G far k y
   | none => []) = _
  rw [hf]
def far0 (t : zaa) : zaa -> Option Nat := fun x => if x = t then some 0 else none
def zeR (G : zaa -> List zaa) (nodes : List zaa) (d : Nat) (far : zaa -> Option Nat) : zaa -> Option Nat := fun x =>
 match far x with
 | some e => some e
 | none => if nodes.contains x && (G x).any (fun y => far y == some d) then some (d + 1) else none
def farK (G : zaa -> List zaa) (nodes : List zaa) (t : zaa) : Nat -> zaa -> Option Nat
 | 0 => far0 t
 | d + 1 => zeR G nodes d (farK G nodes t d)
structure zex (G : zaa -> List zaa) (nodes : List zaa) : Prop where
 out : ∀ x y, y ∈ G x -> x ∈ nodes /\ y ∈ nodes
 nodup : nodes.Nodup
theorem zdP (G : zaa -> List zaa) (nodes : List zaa) (t : zaa) (hG : zex G nodes) : ∀ d x, (∀ e, farK G nodes t d x = some e -> e <= d /\ goes G t e x /\ ∀ n, goes G t n x -> e <= n) /\ (farK G nodes t d x = none -> ∀ n, goes G t n x -> d < n)
 | 0, x => by
  unfold farK far0; by_cases hx : x = t
  . rw [if_pos hx]
    exact ⟨fun e he => by cases he; exact ⟨zps _, hx, fun n _ => zqf _⟩, fun h => by cases h⟩
  . rw [if_neg hx]
    refine ⟨(fun e he => by cases he), fun _ n hn => ?_⟩
    cases n with
    | zero => exact absurd hn hx
    | succ n => omega
 | d + 1, x => by
  obtain ⟨i1, i2⟩ := zdP G nodes t hG d x; show (∀ e, zeR G nodes d (farK G nodes t d) x = some e -> _) /\ (zeR G nodes d (farK G nodes t d) x = none -> _)
  unfold zeR; cases hx : farK G nodes t d x with
  | some e0 =>
   obtain ⟨a1, a2, a3⟩ := i1 e0 hx; exact ⟨fun e he => by cases he; exact ⟨by omega, a2, a3⟩, fun h => by cases h⟩
  | none =>
   have hfar := i2 hx; dsimp only; by_cases hc : (nodes.contains x && (G x).any (fun y => farK G nodes t d y == some d)) = true
   . rw [if_pos hc]
     refine ⟨fun e he => ?_, fun h => by cases h⟩
     cases he
     rw [Bool.and_eq_true] at hc; obtain ⟨y, hy, hyd⟩ := zqZ.1 hc.2; have hyd' : farK G nodes t d y = some d := by simpa using hyd
     exact ⟨zps _, ⟨y, hy, ((zdP G nodes t hG d y).1 d hyd').2.1⟩, fun n hn => hfar n hn⟩
   . rw [if_neg hc]
     refine ⟨(fun e he => by cases he), fun _ n hn => ?_⟩
     have h1 := hfar n hn; rcases Nat.lt_or_ge (d + 1) n with h2 | h2
     . exact h2
     . exfalso
       obtain rfl : n = d + 1 := by omega
       obtain ⟨y, hy, hg⟩ := hn; refine hc ?_; rw [Bool.and_eq_true]; refine ⟨by simpa using (hG.out x y hy).1, zqZ.2 ⟨y, hy, ?_⟩⟩
       obtain ⟨j1, j2⟩ := zdP G nodes t hG d y; cases hyd : farK G nodes t d y with
       | none => exact absurd (j2 hyd d hg) (Nat.lt_irrefl _)
       | some e =>
        obtain ⟨b1, b2, b3⟩ := j1 e hyd; have := hfar (e + 1) ⟨y, hy, b2⟩; have : e = d := by omega
        rw [this]; simp
theorem zfU {α : Type} [DecidableEq α] : ∀ (l k : List α), l.Nodup -> (∀ x ∈ l, x ∈ k) -> l.length <= k.length
 | [], _, _, _ => zqf _
 | x :: r, k, hd, hs => by
  obtain ⟨h1, h2⟩ := List.nodup_cons.1 hd; have hx := hs x zqP; have := zfU r (k.erase x) h2 (fun y hy => by
   have hne : y ≠ x := fun e => h1 (e ▸ hy)
   exact (List.mem_erase_of_ne hne).2 (hs y (zqQ _ hy)))
  rw [List.length_erase_of_mem hx] at this; have hp : 0 < k.length := List.length_pos_of_mem hx; rw [zqc]; omega
theorem zgr {G : zaa -> List zaa} {nodes : List zaa} {t : zaa} (hG : zex G nodes) (ht : t ∈ nodes) : ∀ (n : Nat) (x : zaa), goes G t n x -> (∀ m, goes G t m x -> n <= m) -> ∃ l : List zaa, l.length = n + 1 /\ l.Nodup /\ (∀ y ∈ l, y ∈ nodes) /\ ∀ y ∈ l, ∃ j, j <= n /\ goes G t j y /\ ∀ m, goes G t m y -> j <= m
 | 0, x, h, hm => by
  have hx : x = t := h; subst hx; exact ⟨[x], rfl, by simp, fun y hy => by rw [List.mem_singleton.1 hy]; exact ht, fun y hy => by rw [List.mem_singleton.1 hy]; exact ⟨0, zps _, rfl, fun m _ => zqf _⟩⟩
 | n + 1, x, h, hm => by
  obtain ⟨y, hy, hg⟩ := h; have hym : ∀ m, goes G t m y -> n <= m := fun m hm' => by have := hm (m + 1) ⟨y, hy, hm'⟩; omega
  obtain ⟨l, h1, h2, h3, h4⟩ := zgr hG ht n y hg hym; refine ⟨x :: l, by rw [zqc, h1], List.nodup_cons.2 ⟨fun hx => ?_, h2⟩, fun u hu => ?_, fun u hu => ?_⟩
  . obtain ⟨j, hj, hgj, _⟩ := h4 x hx
    have := hm j hgj; omega
  . rcases zqH.1 hu with rfl | hu
    . exact (hG.out _ y hy).1
    . exact h3 u hu
  . rcases zqH.1 hu with rfl | hu
    . exact ⟨n + 1, zps _, ⟨y, hy, hg⟩, hm⟩
    . obtain ⟨j, hj, r⟩ := h4 u hu
      exact ⟨j, by omega, r⟩
theorem zoj {G : zaa -> List zaa} {t x : zaa} : ∀ n, goes G t n x -> ∃ m, m <= n /\ goes G t m x /\ ∀ k, goes G t k x -> m <= k := by
 intro n; induction n using Nat.strongRecOn with
 | ind n ih =>
  intro h; by_cases hs : ∃ k, k < n /\ goes G t k x
  . obtain ⟨k, hk, hg⟩ := hs
    obtain ⟨m, hm, r⟩ := ih k hk hg; exact ⟨m, by omega, r⟩
  . exact ⟨n, zps _, h, fun k hk => by
     rcases Nat.lt_or_ge k n with h1 | h1
     . exact absurd ⟨k, h1, hk⟩ hs
     . exact h1⟩
theorem zn5 (G : zaa -> List zaa) (nodes : List zaa) (t : zaa) (hG : zex G nodes) (ht : t ∈ nodes) (k : Nat) (hk : nodes.length <= k + 1) : IsFar G t (farK G nodes t k) := by
 refine ⟨fun x d h => ((zdP G nodes t hG k x).1 d h).2.1, fun x n hn => ?_⟩
 obtain ⟨i1, i2⟩ := zdP G nodes t hG k x; cases hx : farK G nodes t k x with
 | some d => exact ⟨d, rfl, (i1 d hx).2.2 n hn⟩
 | none =>
  exfalso
  obtain ⟨m, hm, hg, hmin⟩ := zoj n hn; have h1 := i2 hx m hg; obtain ⟨l, l1, l2, l3, _⟩ := zgr hG ht m x hg hmin; have := zfU l nodes l2 l3; omega
end X
namespace X
open Go.RowKit Go.Maps YtdpgdnpddndeoaaGreatDoorW.PrintWords YtdpgdnpddndeoaaGreatDoorW.PrintMore YtdpgdnpddndeoaaGreatDoorW.PrintLast
theorem zfw (f g : zaa -> Nat) (h : ∀ y, f y <= g y) : ∀ l : List zaa, (l.map f).sum <= (l.map g).sum
 | [] => zps _
 | x :: r => by
  rw [zpS, zpS, zq3, zq3]; exact Nat.add_le_add (h x) (zfw f g h r)
theorem zev (f g : zaa -> Nat) (h : ∀ y, f y <= g y) : ∀ (l : List zaa) (x : zaa), x ∈ l -> f x < g x -> (l.map f).sum < (l.map g).sum
 | y :: r, x, hx, hlt => by
  rw [zpS, zpS, zq3, zq3]; rcases zqH.1 hx with rfl | hx
  . have := zfw f g h r
    omega
  . have := zev f g h r x hx hlt
    have := h y; omega
theorem zfM (f : zaa -> Nat) (c : Nat) : ∀ l : List zaa, (∀ y, f y <= c) -> (l.map f).sum <= l.length * c
 | [], _ => zqf _
 | x :: r, h => by
  rw [zpS, zq3, zqc, zpJ]; have := zfM f c r h; have := h x; omega
def zcD (nodes : List zaa) (fd : zaa -> Option Nat) : Nat := (nodes.map fun x => if (fd x).isSome then 1 else 0).sum
def phiN (nodes : List zaa) (fd : zaa -> Option Nat) : Nat := (nodes.map fun x => (fd x).getD nodes.length).sum
theorem zh6 (nodes : List zaa) (fd : zaa -> Option Nat) : zcD nodes fd <= nodes.length := by
 have := zfM (fun x => if (fd x).isSome then 1 else 0) 1 nodes (fun y => by split <;> omega)
 unfold zcD; omega
structure FarInv (G : zaa -> List zaa) (nodes : List zaa) (t : zaa) (fd : zaa -> Option Nat) : Prop where
 self : fd t = some 0
 sound : ∀ x d, fd x = some d -> goes G t d x
 low : ∀ x d, fd x = some d -> d < zcD nodes fd
theorem FarInv.init (G : zaa -> List zaa) {nodes : List zaa} {t : zaa} (ht : t ∈ nodes) : FarInv G nodes t (setG (fun _ => none) t 0) := by
 have e : ∀ x d, setG (fun _ => none) t 0 x = some d -> x = t /\ d = 0 := by
  intro x d h; unfold setG at h; split at h
  . cases h; exact ⟨by assumption, rfl⟩
  . cases h
 refine ⟨by unfold setG; rw [if_pos rfl], fun x d h => ?_, fun x d h => ?_⟩
 . obtain ⟨rfl, rfl⟩ := e x d h
   exact rfl
 . obtain ⟨rfl, rfl⟩ := e x d h
   have := zev (fun _ => 0) (fun y => if (setG (fun _ => none) x 0 y).isSome then 1 else 0) (fun y => zqf _) nodes x ht (by unfold setG; rw [if_pos rfl]; exact Nat.zero_lt_one)
   unfold zcD; omega
theorem FarInv.lt {G : zaa -> List zaa} {nodes : List zaa} {t x : zaa} {fd : zaa -> Option Nat} {d : Nat} (h : FarInv G nodes t fd) (hx : fd x = some d) : d < nodes.length := Nat.lt_of_lt_of_le (h.low x d hx) (zh6 nodes fd)
theorem FarInv.phi {G : zaa -> List zaa} {nodes : List zaa} {t : zaa} {fd : zaa -> Option Nat} (h : FarInv G nodes t fd) : phiN nodes fd <= nodes.length * nodes.length := by
 refine zfM _ _ nodes fun y => ?_
 cases hy : fd y with
 | none => exact zps _
 | some d => exact Nat.le_of_lt (h.lt hy)
theorem FarInv.put {G : zaa -> List zaa} {nodes : List zaa} {t x y : zaa} {fd : zaa -> Option Nat} {d : Nat} (h : FarInv G nodes t fd) (hx : x ∈ nodes) (hy : y ∈ G x) (hd : fd y = some d) (hn : ∀ e, fd x = some e -> d + 1 < e) :
 FarInv G nodes t (setG fd x (d + 1)) /\ phiN nodes (setG fd x (d + 1)) < phiN nodes fd := by
 have hs : setG fd x (d + 1) x = some (d + 1) := by unfold setG; rw [if_pos rfl]
 have hne : ∀ z, z ≠ x -> setG fd x (d + 1) z = fd z := fun z hz => by unfold setG; rw [if_neg hz]
 have hkle : ∀ z, (if (fd z).isSome then 1 else 0 : Nat) <= if (setG fd x (d + 1) z).isSome then 1 else 0 := by
  intro z; by_cases hz : z = x
  . rw [hz, hs]
    split <;> simp
  . rw [hne z hz]
    exact zps _
 have hk : zcD nodes fd <= zcD nodes (setG fd x (d + 1)) := zfw _ _ hkle nodes; have hdk : d + 1 < zcD nodes (setG fd x (d + 1)) := by
  cases hfx : fd x with
  | some e =>
   have := hn e hfx; have := h.low x e hfx; omega
  | none =>
   have h1 := h.low y d hd; have h2 : zcD nodes fd < zcD nodes (setG fd x (d + 1)) := zev _ _ hkle nodes x hx (by rw [hs, hfx]; simp)
   omega
 have hN := zh6 nodes (setG fd x (d + 1)); refine ⟨⟨?_, fun z e hz => ?_, fun z e hz => ?_⟩, ?_⟩
 . have : t ≠ x := by
    rintro rfl; have := hn 0 h.self; omega
   rw [hne t this, h.self]
 . by_cases hzx : z = x
   . subst hzx
     rw [hs] at hz; cases hz
     exact ⟨y, hy, h.sound y d hd⟩
   . rw [hne z hzx] at hz
     exact h.sound z e hz
 . by_cases hzx : z = x
   . subst hzx
     rw [hs] at hz; cases hz
     exact hdk
   . rw [hne z hzx] at hz
     have := h.low z e hz; omega
 . refine zev _ _ (fun z => ?_) nodes x hx ?_
   . by_cases hz : z = x
     . rw [hz, hs]
       cases hfx : fd x with
       | some e => exact Nat.le_of_lt (hn e hfx)
       | none => show d + 1 <= nodes.length; omega
     . rw [hne z hz]
       exact zps _
   . show (setG fd x (d + 1) x).getD nodes.length < (fd x).getD nodes.length
     rw [hs]; cases hfx : fd x with
     | some e => exact hn e hfx
     | none => show d + 1 < nodes.length; omega
def zc8 (G : zaa -> List zaa) (fd : zaa -> Option Nat) (x : zaa) : Prop := ∀ y ∈ G x, ∀ d, fd y = some d -> ∃ e, fd x = some e /\ e <= d + 1
theorem FarInv.is {G : zaa -> List zaa} {nodes : List zaa} {t : zaa} {fd : zaa -> Option Nat} (h : FarInv G nodes t fd) (hc : ∀ x, zc8 G fd x) : IsFar G t fd := zkz h.self h.sound fun x y d hy hd => hc x y hy d hd
def IntIs (w : World) (b n : Nat) (fd : zaa -> Option Nat) : Prop := ∃ f, MapIs zp0 9 w b n f /\ ∀ k, f k = (fd k).map fun d => Value.int .i64 (d : Int)
theorem IntIs.made (w : World) : IntIs (w.alloc (.map #[] 0)) w.heap.size 0 (fun _ => none) := ⟨_, MapIs.made w, fun _ => rfl⟩
theorem IntIs.lt {w : World} {b n : Nat} {g : zaa -> Option Nat} (h : IntIs w b n g) : b < w.heap.size := by obtain ⟨f, h, _⟩ := h; exact h.lt
theorem IntIs.below {w w' : World} {b n : Nat} {g : zaa -> Option Nat} (h : IntIs w b n g) (hb : Below w.heap.size w w') : IntIs w' b n g := by obtain ⟨f, h, h2⟩ := h; exact ⟨f, h.below hb, h2⟩
theorem IntIs.grown {w w' : World} {b n : Nat} {g : zaa -> Option Nat} {row : Option Nat} (h : IntIs w b n g) (hg : w.grownBy w' row) (hne : some b ≠ row) : IntIs w' b n g := by obtain ⟨f, h, h2⟩ := h; exact ⟨f, h.grown hg hne, h2⟩
theorem IntIs.ne_cells {w : World} {b n : Nat} {g : zaa -> Option Nat} (h : IntIs w b n g) {a t : Nat} {cs : Array Value} {fr : Nat × Nat} (hg : w.heap[a]? = some (.cells cs t fr)) : b ≠ a := by obtain ⟨f, h, _⟩ := h; exact h.ne_cells hg
theorem IntIs.look2 {w : World} {b n : Nat} {g : zaa -> Option Nat} (h : IntIs w b n g) (k : ByteArray) (hs : k.size <= maxLen) :
 (Instr.lookup 162 (.map (some b)) (.string k) true).run zp0 w = .ok (.tuple #[.int .i64 (((g k.data.toList).getD 0 : Nat) : Int), .bool (g k.data.toList).isSome]) w := by
 obtain ⟨f, h, h2⟩ := h; rw [h.look2 Tryz.underlying9 Tryz.underlying162 (Tryz.zeroValue3 w) k hs, h2]; cases g k.data.toList <;> rfl
theorem IntIs.put {w : World} {b n : Nat} {g : zaa -> Option Nat} (h : IntIs w b n g) (hn : n < maxLen) (k : ByteArray) (hs : k.size <= maxLen) (v : Nat) :
 ∃ w', (Instr.mapUpdate 162 (.map (some b)) (.string k) (.int .i64 (v : Int))).run zp0 w = .ok () w' /\ IntIs w' b (n + 1) (setG g k.data.toList v) /\ w.grownBy w' (some b) := by
 obtain ⟨f, h, h2⟩ := h; obtain ⟨w', hrun, h', hg⟩ := h.store Tryz.underlying9 Tryz.underlying162 hn k hs (.int .i64 (v : Int)); refine ⟨w', hrun, ⟨_, h', fun x => ?_⟩, hg⟩
 unfold setF setG; split
 . rfl
 . exact h2 x
structure FSt (w : World) (K m n : Nat) (fd : zaa -> Option Nat) : Prop where
 c : w.heap[K]? = some (.cells #[.map (some m)] 162 (0, 0))
 e : IntIs w m n fd
theorem FSt.below {w w' : World} {K m n : Nat} {fd : zaa -> Option Nat} (h : FSt w K m n fd) (hb : Below w.heap.size w w') : FSt w' K m n fd := ⟨zah h.c hb, h.e.below hb⟩
theorem FSt.grown {w w' : World} {K m n : Nat} {fd : zaa -> Option Nat} {row : Option Nat} (h : FSt w K m n fd) (hg : w.grownBy w' row) (h1 : some K ≠ row) (h2 : some m ≠ row) : FSt w' K m n fd := ⟨zaY h.c hg h1, h.e.grown hg h2⟩
theorem FSt.cell {w : World} {K m n : Nat} {fd : zaa -> Option Nat} (h : FSt w K m n fd) : w.cell? ⟨K, 0, none⟩ = some (.map (some m)) := (zaf h.c 0).trans rfl
theorem FSt.put {w : World} {K m n : Nat} {fd : zaa -> Option Nat} (h : FSt w K m n fd) (hn : n < maxLen) (k : ByteArray) (hs : k.size <= maxLen) (v : Nat) :
 ∃ w', (Instr.mapUpdate 162 (.map (some m)) (.string k) (.int .i64 (v : Int))).run zp0 w = .ok () w' /\ FSt w' K m (n + 1) (setG fd k.data.toList v) /\ w.grownBy w' (some m) := by
 obtain ⟨w', hrun, he, hg⟩ := h.e.put hn k hs v; exact ⟨w', hrun, ⟨zaY h.c hg (by intro e; injection e with e; exact h.e.ne_cells h.c e.symm), he⟩, hg⟩
section
variable {P : Program} {kt et t : TypeId} {w : World} {b n : Nat} {f : zaa -> Option Value} {ops : Array Oper} {rest : List Oper} {o : Oper} {a : Act} {Q : Exit -> Act -> World -> Prop}
theorem zkp (hg : o.guard = none) (m : Operand) (hop : o.op = Op.range t m) (hk : P.underlying kt = some .string) (ht : P.underlying t = some (.map kt et)) (hm : a.eval m = .map (some b)) (h : MapIs P kt w b n f)
 (hK : ∀ w' cnt, RangesIs P kt w' b w.heap.size n f (fun k => (f k).isSome) cnt -> cnt <= n -> w.grownBy w' none -> w'.heap.size = w.heap.size + 1 -> wpList P ops Q rest (a.put o.dst (.pointer (some ⟨w.heap.size, 0, none⟩))) w') :
 wpList P ops Q (o :: rest) a w := by
 refine wpList_plain hg fun K' hK' => ?_
 obtain ⟨w', cnt, hrun, r1, r0, r2, r3⟩ := h.range hk ht; unfold Oper.wp; simp [execOp, hop, hm, hrun, Result.andThen]
 exact hK' _ _ (hK w' cnt r1 r0 r2 r3)
theorem zlC (hg : o.guard = none) (it : Operand) (hop : o.op = Op.next it false) (hk : P.underlying kt = some .string) {r cnt : Nat} {left : zaa -> Bool} (hit : a.eval it = .pointer (some ⟨r, 0, none⟩)) (h : RangesIs P kt w b r n f left cnt)
 (hDone : cnt = 0 -> (∀ k, left k = false) -> wpList P ops Q rest (a.put o.dst (.tuple #[.bool false])) w)
 (hMore : ∀ (k : ByteArray) (v : Value) (w' : World) (cnt' : Nat), k.size <= maxLen -> left k.data.toList = true -> f k.data.toList = some v -> RangesIs P kt w' b r n f (fun x => left x && !(x == k.data.toList)) cnt' -> cnt' < cnt -> w.grownBy w' (some r) -> w'.heap.size = w.heap.size ->
  (Instr.entry (.pointer (some ⟨r, 0, none⟩))).run P w' = .ok (.tuple #[.string k, v]) w' -> wpList P ops Q rest (a.put o.dst (.tuple #[.bool true, .string k, v])) w') :
 wpList P ops Q (o :: rest) a w := by
 refine wpList_plain hg fun K' hK' => ?_
 unfold Oper.wp; rcases h.next hk o.type with ⟨h0, hl, hrun⟩ | ⟨k, v, w', cnt', hks, hlk, hf, hrun, hrg, hlt, hgr, hsz, hen⟩
 . simp [execOp, hop, hit, hrun, Result.andThen]
   exact hK' _ _ (hDone h0 hl)
 . simp [execOp, hop, hit, hrun, Result.andThen]
   exact hK' _ _ (hMore k v w' cnt' hks hlk hf hrg hlt hgr hsz hen)
end
theorem zle : ∀ args w, (callFunc 137 args).run zp0 w = .ok (.enter 137 args) w := Go.Proofs.enters_of Tryz.func137 (by kernel_rfl) rfl
theorem zj1 (K m n J k : Nat) (fd : zaa -> Option Nat) (x : ByteArray) (w : World) (h : FSt w K m n fd) (hJ : w.cell? ⟨J, 0, none⟩ = some (.int .i64 (k : Int))) (hx : x.size <= maxLen) :
 Calls zp0 137 #[.string x, .pointer (some ⟨K, 0, none⟩), .pointer (some ⟨J, 0, none⟩)] w fun e w' => e = .returned (.bool (fd x.data.toList == some k)) /\ w = w' := by
 have hl := h.e.look2 x hx; have hc := h.cell; clear h; generalize fd x.data.toList = q at hl |-; go_enter Tryz.func137, Tryz.ntmps137
 cases q with
 | none =>
  simp only [Option.getD_none, Option.isSome_none] at hl; go_wp2_with fail; go_ret
  exact ⟨rfl, rfl⟩
 | some d =>
  simp only [Option.getD_some, Option.isSome_some] at hl; by_cases hd : d = k
  . subst hd
    go_wp2_with fail; go_ret
    exact ⟨by simp, rfl⟩
  . have hdz : ¬ (d : Int) = (k : Int) := by omega
    go_wp2_with fail; go_ret
    have e1 : ((d : Int) == (k : Int)) = false := by simpa using hdz
    have e2 : (d == k) = false := by simpa using hd
    exact ⟨by simp [e1, e2], rfl⟩
theorem zkH (g : Nat) (lb : Array Value) (eg : ∀ args w, (callFunc g args).run zp0 w = .ok (.enter g args) w) (p : ByteArray -> Bool) (A : Option Addr) (c : Nat) (l : List ByteArray) (w : World) (hl0 : l.length <= 9223372036854775807)
 (hr : Kd.C zp6 w A l.length l) (hp : ∀ (W : World), Below w.heap.size w W -> ∀ x ∈ l, Calls zp0 g (#[.string x] ++ lb) W fun e w' => e = .returned (.bool (p x)) /\ Below W.heap.size W w') :
 Calls zp0 76 #[.slice A l.length c, .func (.func g) #[] lb] w fun e w' => ((l.any p = false /\ e = .returned (.int .i64 (-1))) \/ ∃ (i : Nat) (h : i < l.length), e = .returned (.int .i64 i) /\ l.find? p = some l[i]) /\ Below w.heap.size w w' := by
 have hlen : l.length <= 9223372036854775807 := hr.2.1; have HP := zpo hp; have HR := zpo hr; clear hp hr; go_enter Tryz.func76, Tryz.ntmps76
 go_wp2_with fail; go_loopg [5, 8] l.length (fun gg _ s8 wr => ∃ kk : Nat, kk <= l.length /\ l.length - kk <= gg /\ s8 = .int .i64 kk /\ Aside0 (Below w.heap.size w wr) /\ Aside0 ((l.take kk).any p = false))
 case atStart => exact ⟨0, zqf _, by omega, rfl, ⟨zpr _ _⟩, ⟨rfl⟩⟩
 case round =>
  obtain ⟨kk, hkk, hgk, rfl, HB, HA⟩ := hrel; by_cases hlt : kk < l.length
  . have hltz : (kk : Int) < (l.length : Int) := by omega
    obtain ⟨b, o, rfl, p0⟩ := zbj (zqO HR.out HB.out) kk hlt; have hS : (l.take (kk + 1)).any p = ((l.take kk).any p || p l[kk]) := by rw [zpU hlt, List.any_append]; simp
    rw [HA.out, zqY] at hS; have hfind : p l[kk] = true -> l.find? p = some l[kk] := fun h => by
     have e : l = l.take kk ++ (l[kk] :: l.drop (kk + 1)) := by rw [<- zpW hlt, zq1]
     have h0 : (l.take kk).find? p = none := by
      rw [zq4]; intro x hx hpx; have := HA.out; rw [zq2] at this; exact this x hx hpx
     have e2 : l.find? p = (l.take kk ++ (l[kk] :: l.drop (kk + 1))).find? p := congrArg (List.find? p) e; rw [e2, List.find?_append, h0, List.find?_cons, h]; rfl
    have hcall := HP.out wr HB.out l[kk] (zqJ hlt); have HS := zpo hS; have HFi := zpo hfind; generalize hpk : p l[kk] = q at hcall HS HFi; generalize hxk : l[kk] = x at p0 hcall; clear hS hfind hpk; cases q with
    | true =>
     have HFi2 := zpo (HFi.out rfl); have HX2 := zpo hxk; clear hxk; go_wp2_with (first | (go_at_fn g; refine hcall.mono ?_; rintro e w2 ⟨rfl, hb2⟩; have HB2 := zpo (zac HB.out HB.out.size hb2); clear hb2))
     go_ret
     exact ⟨.inr ⟨kk, hlt, rfl, HFi2.out⟩, HB2.out⟩
    | false =>
     clear hxk; go_wp2_with (first | (go_at_fn g; refine hcall.mono ?_; rintro e w2 ⟨rfl, hb2⟩; have HB2 := zpo (zac HB.out HB.out.size hb2); clear hb2))
     go_roundg (l.length - (kk + 1))
     case measure => omega
     case rel => exact ⟨kk + 1, by omega, by omega, by first | rfl | go_num, ⟨HB2.out⟩, ⟨HS.out⟩⟩
  . have hltz : ¬ (kk : Int) < (l.length : Int) := by omega
    obtain rfl : kk = l.length := by omega
    have hA := HA.out; rw [zqa] at hA; have HA2 := zpo hA; clear hA; go_wp2_with fail; go_ret
    exact ⟨.inl ⟨by first | exact HA2.out | (intro x hx; simpa using zq2.1 HA2.out x hx), rfl⟩, HB.out⟩
end X
end Go.Proofs.YtdpgdnpddndeoaaGreatDoor
