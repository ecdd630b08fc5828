/-
  What the cards lean on (part Y9): contracts of functions, by hand, and plain laws; what is printed by the kit's print for this seat is among them. What is not reached is left out.
-/
import Derived.Test.YtdpgdnpddndeoaaGreatDoorY8
import Derived.Test.YtdpgdnpddndeoaaGreatDoorY7
set_option maxHeartbeats 8000000
set_option maxRecDepth 100000
set_option linter.unusedSimpArgs false
set_option linter.unusedVariables false
open Go.RowKit.Below renaming refl -> zpt
open Nat renaming le_refl -> zpu, le_trans -> zpA, mul_le_mul_right -> zpM, mul_one -> zqO, zero_le -> zqf
open List renaming map_map -> zp9, eq_nil_of_length_eq_zero -> zpw, getElem?_eq_getElem -> zpx, getD_eq_getElem?_getD -> zpy, length_map -> zp6, length_take -> zpF, length_append -> zpH, take_length -> zqa, take_succ_eq_append_getElem -> zpW, drop_eq_nil_of_le -> zqe, mem_cons -> zqB, take_of_length_le -> zqM, length_filter_le -> zqi, length_replicate -> zqP, map_append -> zqj, getElem_mem -> zqD, mem_map -> zqN, take_zero -> zqQ
open Int renaming toNat_natCast -> zqz

namespace Go.Proofs.YtdpgdnpddndeoaaGreatDoor.X
open Go.RowKit Go.Maps Go.Proofs.YtdpgdnpddndeoaaGreatDoorW.PrintWords Go.Proofs.YtdpgdnpddndeoaaGreatDoorW.PrintMore Go.Proofs.YtdpgdnpddndeoaaGreatDoorW.PrintLast
abbrev RVal (w : World) (base : Nat) (v : Value) (l : List SVal) : Prop := Kd.R k34 34 w base (fun _ => True) v l
structure FitR (r : zaj) : Prop where
 ins : r.f1.length <= 1000
 outs : r.f2.length <= 1000
 steps : r.f4.length <= 1000
 insN : ∀ x ∈ r.f1, x.size <= maxLen
 outsN : ∀ x ∈ r.f2, x.size <= maxLen
 stepN : ∀ s ∈ r.f4, s.f0.size <= maxLen /\ s.f2.length <= 1000 /\ ∀ x ∈ s.f2, x.size <= maxLen
def zfk (l : List SVal) (w : World) (e : Ending) (w' : World) : Prop := ∃ v, e = .returned v /\ RVal w' w.heap.size v l /\ Below w.heap.size w w'
theorem zbi {w : World} {A : Option Addr} {l : List ByteArray} (h : Kd.C Kd.string w A l.length l) (k : Nat) (hk : k < l.length) : ∃ b o, A = some ⟨b, o, none⟩ /\ w.cell? ⟨b, o + k, none⟩ = some (.string l[k]) := by
 rcases zaL h with h0 | ⟨b, o, rfl, _, hcell⟩
 . exfalso; rw [h0] at hk; simp at hk
 . refine ⟨b, o, rfl, ?_⟩
   have := hcell k hk; rwa [show l.getD k ByteArray.empty = l[k] by simp [zpy, zpx hk]] at this
def zaq (r : zaj) (B1 : Option Addr) (c1 : Nat) (B2 : Option Addr) (c2 : Nat) (B3 : Option Addr) (c3 : Nat) (B4 : Option Addr) (c4 : Nat) : Array Value :=
 #[.string r.f0, .slice B1 r.f1.length c1, .slice B2 r.f2.length c2, .slice B3 r.f3.length c3, .slice B4 r.f4.length c4]
theorem zdd {w : World} {A : Option Addr} {l : List zar} (h : Kd.C k24 w A l.length l) (i : Nat) (hi : i < l.length) :
 ∃ b o B2 c2 B3 c3, A = some ⟨b, o, none⟩ /\ w.cell? ⟨b, o + i * 5, none⟩ = some (.string l[i].f0) /\ w.cell? ⟨b, o + i * 5 + 1, none⟩ = some (.int .i64 l[i].f1) /\ w.cell? ⟨b, o + i * 5 + 2, none⟩ = some (.slice B2 l[i].f2.length c2) /\
  w.cell? ⟨b, o + i * 5 + 3, none⟩ = some (.slice B3 l[i].f3.length c3) /\ w.cell? ⟨b, o + i * 5 + 4, none⟩ = some (.int .i64 l[i].f4) /\ Kd.C Kd.string w B2 l[i].f2.length l[i].f2 /\ Kd.C Kd.string w B3 l[i].f3.length l[i].f3 := by
 obtain ⟨ad, B2, c2, B3, c3, rfl, p0, p1, p2, p3, p4, q2, g2, q3, g3⟩ := ze8 h (i : Int) (by omega) (by omega)
 have hx : zbR l (i : Int) = l[i] := by
  unfold zbR; rw [zqz, zpy, zpx hi]; rfl
 rw [hx, zqz] at p0 p1 p2 p3 p4; rw [hx] at q2 g2 q3 g3; obtain ⟨ad0, _, _, _, _, had0, z0, _⟩ := ze8 h 0 (by omega) (by omega)
 cases had0
 obtain ⟨b, o, rfl⟩ := zdX z0; have e : ((⟨b, o, none⟩ : Addr).add (i * 5)) = ⟨b, o + i * 5, none⟩ := by
  unfold Addr.add; split
  . rename_i h0; simp [h0]
  . rfl
 rw [e] at p0 p1 p2 p3 p4; exact ⟨b, o, B2, c2, B3, c3, rfl, p0, p1, p2, p3, p4, g2, g3⟩
theorem zga (r : zaj) (B1 : Option Addr) (c1 : Nat) (B2 : Option Addr) (c2 : Nat) (B3 : Option Addr) (c3 : Nat) (B4 : Option Addr) (c4 : Nat) (A : Option Addr) (c : Nat) (vs : List SVal) (w : World) (hG : GOK w)
 (h1 : Kd.C Kd.string w B1 r.f1.length r.f1) (h2 : Kd.C Kd.string w B2 r.f2.length r.f2) (h4 : Kd.C k24 w B4 r.f4.length r.f4) (hr : Kd.C k34 w A vs.length vs) (hF : FitR r) (hsz : ∀ v ∈ vs, v.f1.size <= 4194304) :
 Calls Tryz.prog 34 #[.agg (zaq r B1 c1 B2 c2 B3 c3 B4 c4), .slice A vs.length c] w (zfk (runS (zav r) vs) w) := by
 have hlen : vs.length <= 9223372036854775807 := hr.2.1; have hn1 := hF.ins; have hn2 := hF.outs; have hn4 := hF.steps; have hW := (zpt w.heap.size w).alloc (zpu _) (.cells (zaq r B1 c1 B2 c2 B3 c3 B4 c4) 45); have HK := zpq (zal w (.cells (zaq r B1 c1 B2 c2 B3 c3 B4 c4) 45)); have HB := zpq hW; have H1 := zpq (Kd.C_below h1 hW); have H2 := zpq (Kd.C_below h2 hW); have H4 := zpq (Kd.C_below h4 hW); have HR := zpq (Kd.C_below hr hW); have HG := zpq (hG.below hW); have HS := zpq hsz; have HF := zpq hF; obtain ⟨T, hT⟩ : ∃ T, T = runS (zav r) vs := ⟨_, rfl⟩; rw [<- hT]; unfold runS at hT; have hni : (zav r).ins.length = r.f1.length := zaM _; rw [hni] at hT; have HT := zpq hT; clear hT hni hW h1 h2 h4 hr hG hsz hF; unfold zaq at *; have hmm := @run_makeMap Tryz.prog; by_cases hne : vs.length = r.f1.length
 . have d0 : ((vs.length : Int) != (r.f1.length : Int)) = false := by simp [hne]
   have HN := zpq hne; have hT := HT.out; rw [if_neg (by omega)] at hT
   clear HT; have HT := zpq hT; clear hT hne; go_enter Tryz.func34, Tryz.ntmps34
   go_upto_region 3 with fail; generalize w.alloc (.cells #[.string r.f0, .slice B1 r.f1.length c1, .slice B2 r.f2.length c2, .slice B3 r.f3.length c3, .slice B4 r.f4.length c4] 45) = w1 at HB HK H1 H2 H4 HR HG |-; have k1 : w1.cell? ⟨w.heap.size, 1, none⟩ = some (.slice B1 r.f1.length c1) := (zab HK.out 1).trans rfl; have hE0 := EnvIs.made w1; have hB0 := (zpt w1.heap.size w1).alloc (zpu _) (.map #[] 0); have HE0 := zpq hE0; have HB0 := zpq hB0; have HM0 : Hid (w1.heap.size < (w1.alloc (.map #[] 0)).heap.size) := zpq hE0.lt; have HK2 := zpq (zah HK.out hB0); have k1' : (w1.alloc (.map #[] 0)).cell? ⟨w.heap.size, 1, none⟩ = some (.slice B1 r.f1.length c1) := (zab HK2.out 1).trans rfl; clear hE0 hB0; go_upto_region 4 with fail; generalize w1.alloc (.map #[] 0) = w2 at HE0 HB0 HM0 HK2 k1' |-; go_wp2_with fail; go_loopg [6, 7, 26] r.f1.length (fun gg _ _ s26 wr => ∃ kk : Nat, kk <= r.f1.length /\ r.f1.length - kk <= gg /\ s26 = .int .i64 kk /\ Aside0 (EnvIs wr w1.heap.size kk (envK (zac r.f1) vs kk)) /\ Aside0 (Below w1.heap.size w1 wr))
   case atStart => exact ⟨0, zqf _, by omega, rfl, ⟨HE0.out⟩, ⟨HB0.out⟩⟩
   case round =>
    obtain ⟨kk, hkk, hgk, rfl, HE, HW⟩ := hrel; by_cases hlt : kk < r.f1.length
    . have hltz : (kk : Int) < (r.f1.length : Int) := by omega
      have hlv : kk < vs.length := by have := HN.out; omega
      have hlvz : (kk : Int) < (vs.length : Int) := by omega
      obtain ⟨b, o, rfl, p0⟩ := zbi (Kd.C_below H1.out HW.out) kk hlt; obtain ⟨b2, o2, rfl, v0, v1⟩ := zc6 (Kd.C_below HR.out HW.out) kk hlv; have hst := zoQ (zac r.f1) vs kk (by rw [zaM]; exact hlt) hlv
      rw [zcd r.f1 kk hlt] at hst; have hsz := HF.out.insN _ (zqD hlt); obtain ⟨w3, hrun, hE3, hg3⟩ := HE.out.store (by unfold maxLen; omega) r.f1[kk] hsz vs[kk]
      rw [<- hst] at hE3; unfold aggV at hrun; have HE3 := zpq hE3; have HW3 : Hid (Below w1.heap.size w1 w3) := zpq (HW.out.grown hg3 HW.out.size (fun k hk => by cases hk; exact zpu _))
      generalize r.f1[kk] = n at p0 hrun; generalize vs[kk] = v at v0 v1 hrun; clear hst hsz hE3 hg3; go_wp2_with fail; go_roundg (r.f1.length - (kk + 1))
      case measure => omega
      case rel => exact ⟨kk + 1, by omega, by omega, by go_num, ⟨HE3.out⟩, ⟨HW3.out⟩⟩
    . have hltz : ¬ (kk : Int) < (r.f1.length : Int) := by omega
      obtain rfl : kk = r.f1.length := by omega
      have HE1 : Hid (EnvIs wr w1.heap.size (r.f1.length + 0) (runK (zav r) vs 0)) := by
       have h := HE.out; have e : runK (zav r) vs 0 = envK (zac r.f1) vs r.f1.length := by
        show envK (zac r.f1) vs (zac r.f1).length = _
        rw [zaM]
       show EnvIs _ _ _ _
       rw [e]; exact h
      have HK3 := zpq (zah HK.out HW.out); have k4 : wr.cell? ⟨w.heap.size, 4, none⟩ = some (.slice B4 r.f4.length c4) := (zab HK3.out 4).trans rfl; go_upto_region 9 with fail; clear HE HE0 HB0 HM0 HK2 k1'; go_wp2_with fail; go_loopg [9, 10, 12, 41] r.f4.length (fun gg _ _ _ s41 wq => ∃ jj : Nat, jj <= r.f4.length /\ r.f4.length - jj <= gg /\ s41 = .int .i64 jj /\ Aside0 (EnvIs wq w1.heap.size (r.f1.length + jj) (runK (zav r) vs jj)) /\ Aside0 (Below w1.heap.size w1 wq))
      case atStart => exact ⟨0, zqf _, by omega, rfl, ⟨HE1.out⟩, ⟨HW.out⟩⟩
      case round =>
       obtain ⟨jj, hjj, hgj, rfl, HEq, HWq⟩ := hrel; obtain ⟨wq, rfl⟩ : ∃ wq, wq = wr := ⟨wr, rfl⟩; by_cases hlj : jj < r.f4.length
       . have hljz : (jj : Int) < (r.f4.length : Int) := by omega
         obtain ⟨b, o, C2, d2, C3, d3, rfl, p0, p1, p2, p3, p4, g2, g3⟩ := zdd (Kd.C_below H4.out HWq.out) jj hlj; have hst := znr (zav r) vs jj (by show jj < (r.f4.map zaO).length; rw [zp6]; exact hlj)
         have hsx : (zav r).steps[jj]'(by show jj < (r.f4.map zaO).length; rw [zp6]; exact hlj) = zaO r.f4[jj] := List.getElem_map ..
         rw [hsx] at hst; have hsm := zhn (zav r) vs HS.out jj; obtain ⟨hxo, hxl, hxn⟩ := HF.out.stepN _ (zqD hlj); have HEr : Hid (EnvIs (wq) w1.heap.size (r.f1.length + jj) (runK (zav r) vs jj)) := zpq HEq.out; have HSt : Hid (runK (zav r) vs (jj + 1) = zcS (runK (zav r) vs jj) (zaO r.f4[jj])) := zpq hst; have HXo := zpq hxo; have HXn := zpq hxn; have HSm := zpq hsm; generalize hx : r.f4[jj] = x at p0 p1 p2 p3 p4 g2 g3 HSt HXo HXn hxl; clear hx hst hsx hxo hxn hsm; generalize runK (zav r) vs jj = e at HEr HSt HSm; have hb3 := (zpt wq.heap.size wq).alloc (zpu _) (.cells #[.string x.f0, .int .i64 x.f1, .slice C2 x.f2.length d2, .slice C3 x.f3.length d3, .int .i64 x.f4] 24); have HX3 := zpq (zal wq (.cells #[.string x.f0, .int .i64 x.f1, .slice C2 x.f2.length d2, .slice C3 x.f3.length d3, .int .i64 x.f4] 24)); have HB3 := zpq hb3; have HG2 := zpq (Kd.C_below g2 hb3); have HG3 := zpq (Kd.C_below g3 hb3); have HE3 := zpq (HEr.out.below hb3); have HWz := zpq HWq.out.size; clear g2 g3 hb3; go_upto_region 12 with fail; generalize wq.alloc (.cells #[.string x.f0, .int .i64 x.f1, .slice C2 x.f2.length d2, .slice C3 x.f3.length d3, .int .i64 x.f4] 24) = w3 at HX3 HB3 HG2 HG3 HE3 |-; have x2 : w3.cell? ⟨wq.heap.size, 2, none⟩ = some (.slice C2 x.f2.length d2) := (zab HX3.out 2).trans rfl; go_wp2_with fail; go_loopg [10, 12, 48] x.f2.length (fun gg s10 _ s48 wi => ∃ j : Nat, j <= x.f2.length /\ x.f2.length - j <= gg /\ s48 = .int .i64 j /\ Aside0 (RVal wi w3.heap.size s10 ((x.f2.take j).map fun a => e a.data.toList)) /\ Aside0 (Below w3.heap.size w3 wi))
         case atStart => exact ⟨0, zqf _, by omega, rfl, ⟨Kd.R_nil _ _ _ _ _⟩, ⟨zpt _ _⟩⟩
         case round =>
          obtain ⟨j, hj, hgj2, rfl, HO, HWi⟩ := hrel; by_cases hl2 : j < x.f2.length
          . have hl2z : (j : Int) < (x.f2.length : Int) := by omega
            obtain ⟨b5, o5, rfl, q0⟩ := zbi (Kd.C_below HG2.out HWi.out) j hl2; have hlk := (HE3.out.below HWi.out).look x.f2[j] (HXn.out _ (zqD hl2)); have HSucc : Hid ((x.f2.take (j + 1)).map (fun a => e a.data.toList) = (x.f2.take j).map (fun a => e a.data.toList) ++ [e x.f2[j].data.toList]) := by show _ = _; rw [zpW hl2, zqj]; rfl
            have hml : ((x.f2.take j).map (fun a => e a.data.toList)).length = j := by rw [zp6, zpF]; omega
            have HML := zpq hml; have HWs := zpq HWi.out.size; generalize e x.f2[j].data.toList = v at hlk HSucc; generalize x.f2[j] = n at q0 hlk; unfold aggV at hlk; clear hml; go_wp2_with (first | ((with_reducible refine zaG (b := .append) (xs := #[.tmp 52, .tmp 56]) rfl ?_); at_builtin; refine Kd.R_append k34 (w0 := w3) w3.heap.size rfl (.tmp 52) (.tmp 56) 25 34 (.agg #[.bool false, .string ⟨#[]⟩]) 24 rfl Tryz.underlying25 zcH rfl (by decide) (by decide) u10 ((x.f2.take j).map (fun a => e a.data.toList)) v [.bool v.f0, .string v.f1] (fun _ => True) (fun k_ => True /\ some k_ ≠ u10.ownBlock) rfl rfl (zco _ _ _ v) (fun _ hk => hk) (fun _ _ => trivial) HO.out HWi.out HWs.out ?aL ?_; (case aL => (have h1 := HML.out; omega)); intro v1 w4 ho hb hg hat; have HO4 : Hid (RVal w4 w3.heap.size v1 ((x.f2.take (j + 1)).map (fun a => e a.data.toList))) := (by show RVal _ _ _ _; rw [HSucc.out]; exact ho); have HB4 := zpq hb; clear ho hb hg hat))
            go_roundg (x.f2.length - (j + 1))
            case measure => omega
            case rel => exact ⟨j + 1, by omega, by omega, by first | rfl | go_num, ⟨HO4.out⟩, ⟨HB4.out⟩⟩
          . have hl2z : ¬ (j : Int) < (x.f2.length : Int) := by omega
            obtain rfl : j = x.f2.length := by omega
            have hO := HO.out; rw [zqa] at hO; obtain ⟨A5, n5, rfl, hc5, hC5⟩ := Kd.R_reads hO; have hlm : (x.f2.map fun a => e a.data.toList).length = x.f2.length := zp6 ..
            have HC5 : Hid (Kd.C k34 wr A5 (x.f2.map fun a => e a.data.toList).length (x.f2.map fun a => e a.data.toList)) := zpq hC5
            have HWi2 : Hid (Below w1.heap.size w1 wr) := zpq ((HWq.out.trans (HB3.out.mono HWz.out)).trans (HWi.out.mono (zpA HWz.out HB3.out.size))); have hDo := fun (W : World) (hW : Below wr.heap.size wr W) => zja x C2 d2 C3 d3 A5 n5 (x.f2.map fun a => e a.data.toList) W (HG.out.below (HWi2.out.trans (hW.mono HWi2.out.size))) (Kd.C_below HG2.out (HWi.out.trans (hW.mono HWi.out.size))) (Kd.C_below HG3.out (HWi.out.trans (hW.mono HWi.out.size))) (Kd.C_below HC5.out hW) (fun v hv => by
             obtain ⟨a, _, rfl⟩ := zqN.1 hv; exact HSm.out _)
            rw [hlm] at hDo |-; have hse : zcS e (zaO x) = updS e x.f0.data.toList (valS (doP (zag x) ((x.f2.map fun a => e a.data.toList).map valO))) := by
             unfold zcS zaO zac; dsimp only; rw [zp9, zp9]; rfl
            have HSt2 : Hid (runK (zav r) vs (jj + 1) = updS e x.f0.data.toList (valS (doP (zag x) ((x.f2.map fun a => e a.data.toList).map valO)))) := HSt.out.trans hse
            generalize valS (doP (zag x) ((x.f2.map fun a => e a.data.toList).map valO)) = vx at hDo HSt2
            have HDo := zpq hDo; have HX5 := zpq (zah HX3.out HWi.out); have Sof : ∀ W : World, W.heap[wq.heap.size]? = some (.cells #[.string x.f0, .int .i64 x.f1, .slice C2 x.f2.length d2, .slice C3 x.f3.length d3, .int .i64 x.f4] 24 (0, 0)) -> W.cell? ⟨wq.heap.size, 0, none⟩ = some (.string x.f0) /\ W.cell? ⟨wq.heap.size, 1, none⟩ = some (.int .i64 x.f1) /\ W.cell? ⟨wq.heap.size, 2, none⟩ = some (.slice C2 x.f2.length d2) /\ W.cell? ⟨wq.heap.size, 3, none⟩ = some (.slice C3 x.f3.length d3) /\ W.cell? ⟨wq.heap.size, 4, none⟩ = some (.int .i64 x.f4) := fun W hW =>
             ⟨(zab hW 0).trans rfl, (zab hW 1).trans rfl, (zab hW 2).trans rfl, (zab hW 3).trans rfl, (zab hW 4).trans rfl⟩
            have HNe : Hid (w1.heap.size < wq.heap.size) := HEr.out.lt; have HSo := zpq Sof; have HBx : Hid (Below wr.heap.size wr wr.drew) := zpq (zaV (zpt _ _)); have HEs : Hid (∀ W, Below wr.heap.size wr W -> ∃ w6, (Instr.mapUpdate 91 (.map (some w1.heap.size)) (.string x.f0) (aggV vx)).run Tryz.prog W = .ok () w6 /\ EnvIs w6 w1.heap.size (r.f1.length + jj + 1) (updS e x.f0.data.toList vx) /\ W.grownBy w6 (some w1.heap.size)) :=
             zpq (fun W hW => ((HE3.out.below HWi.out).below hW).store (by unfold maxLen; omega) x.f0 HXo.out vx)
            clear hDo hse hC5 hO Sof hc5 hlm x2; go_wp2_with fail; go_region_held3 (fun W => W.cell? ⟨wq.heap.size, 0, none⟩ = some (.string x.f0) /\ W.cell? ⟨wq.heap.size, 1, none⟩ = some (.int .i64 x.f1) /\ W.cell? ⟨wq.heap.size, 2, none⟩ = some (.slice C2 x.f2.length d2) /\ W.cell? ⟨wq.heap.size, 3, none⟩ = some (.slice C3 x.f3.length d3) /\ W.cell? ⟨wq.heap.size, 4, none⟩ = some (.int .i64 x.f4))
             (first | exact HSo.out _ (zah HX5.out HBx.out) | exact HSo.out _ HX6.out)
             (first | (go_at_call 25; refine (HDo.out _ HBx.out).mono ?_; rintro e5 w5 ⟨rfl, hb5⟩; have HBx := zpq (zad HBx.out HBx.out.size hb5); obtain ⟨w6, hrun, hE6, hg6⟩ := HEs.out _ HBx.out; have HE6 := zpq hE6; have HG6 := zpq hg6; have HX6 := zpq ((hg6.block wq.heap.size (zaQ (zah HX5.out HBx.out)) (by have h := HNe.out; intro he; injection he; omega)).trans (zah HX5.out HBx.out)); clear hb5 hE6 hg6))
            all_goals
             have hW6 : Below w1.heap.size w1 w6 := (HWi2.out.trans (HBx.out.mono HWi2.out.size)).grown HG6.out (zpA HWi2.out.size HBx.out.size) (fun k hk => by cases hk; exact zpu _)
             have HW6 := zpq hW6; have HE7 : Hid (EnvIs w6 w1.heap.size (r.f1.length + (jj + 1)) (runK (zav r) vs (jj + 1))) := by
              show EnvIs _ _ _ _
              rw [HSt2.out]; exact HE6.out
             clear hW6; go_wp2_with fail; go_roundg (r.f4.length - (jj + 1))
             case measure => omega
             case rel => exact ⟨jj + 1, by omega, by omega, by first | rfl | go_num, ⟨HE7.out⟩, ⟨HW6.out⟩⟩
       . have hljz : ¬ (jj : Int) < (r.f4.length : Int) := by omega
         obtain rfl : jj = r.f4.length := by omega
         have HK4 := zpq (zah HK.out HWq.out); have k2 : wq.cell? ⟨w.heap.size, 2, none⟩ = some (.slice B2 r.f2.length c2) := (zab HK4.out 2).trans rfl; have hkl : (zav r).steps.length = r.f4.length := zp6 ..; have hT2 := HT.out; rw [hkl] at hT2; have HT2 : Hid (T = (zac r.f2).map (runK (zav r) vs r.f4.length)) := zpq hT2; have HEf : Hid (EnvIs wq w1.heap.size (r.f1.length + r.f4.length) (runK (zav r) vs r.f4.length)) := zpq HEq.out; clear hkl hT2; generalize runK (zav r) vs r.f4.length = e at HEf HT2; go_upto_region 21 with fail; go_wp2_with fail; go_loopg [13, 15, 69] r.f2.length (fun gg s13 _ s69 wi => ∃ j : Nat, j <= r.f2.length /\ r.f2.length - j <= gg /\ s69 = .int .i64 j /\ Aside0 (RVal wi wq.heap.size s13 ((r.f2.take j).map fun a => e a.data.toList)) /\ Aside0 (Below wq.heap.size wq wi))
         case atStart => exact ⟨0, zqf _, by omega, rfl, ⟨Kd.R_nil _ _ _ _ _⟩, ⟨zpt _ _⟩⟩
         case round =>
          obtain ⟨j, hj, hgj2, rfl, HO, HWi⟩ := hrel; by_cases hl2 : j < r.f2.length
          . have hl2z : (j : Int) < (r.f2.length : Int) := by omega
            obtain ⟨b5, o5, rfl, q0⟩ := zbi (Kd.C_below H2.out (HWq.out.trans (HWi.out.mono HWq.out.size))) j hl2; have hlk := (HEf.out.below HWi.out).look r.f2[j] (HF.out.outsN _ (zqD hl2)); have HSucc : Hid ((r.f2.take (j + 1)).map (fun a => e a.data.toList) = (r.f2.take j).map (fun a => e a.data.toList) ++ [e r.f2[j].data.toList]) := by show _ = _; rw [zpW hl2, zqj]; rfl
            have hml : ((r.f2.take j).map (fun a => e a.data.toList)).length = j := by rw [zp6, zpF]; omega
            have HML := zpq hml; have HWs := zpq HWi.out.size; generalize e r.f2[j].data.toList = v at hlk HSucc; generalize r.f2[j] = n at q0 hlk; unfold aggV at hlk; clear hml; go_wp2_with (first | ((with_reducible refine zaG (b := .append) (xs := #[.tmp 73, .tmp 77]) rfl ?_); at_builtin; refine Kd.R_append k34 (w0 := wq) wq.heap.size rfl (.tmp 73) (.tmp 77) 25 34 (.agg #[.bool false, .string ⟨#[]⟩]) 24 rfl Tryz.underlying25 zcH rfl (by decide) (by decide) u13 ((r.f2.take j).map (fun a => e a.data.toList)) v [.bool v.f0, .string v.f1] (fun _ => True) (fun k_ => True /\ some k_ ≠ u13.ownBlock) rfl rfl (zco _ _ _ v) (fun _ hk => hk) (fun _ _ => trivial) HO.out HWi.out HWs.out ?aL ?_; (case aL => (have h1 := HML.out; omega)); intro v1 w4 ho hb hg hat; have HO4 : Hid (RVal w4 wq.heap.size v1 ((r.f2.take (j + 1)).map (fun a => e a.data.toList))) := (by show RVal _ _ _ _; rw [HSucc.out]; exact ho); have HB4 := zpq hb; clear ho hb hg hat))
            go_roundg (r.f2.length - (j + 1))
            case measure => omega
            case rel => exact ⟨j + 1, by omega, by omega, by first | rfl | go_num, ⟨HO4.out⟩, ⟨HB4.out⟩⟩
          . have hl2z : ¬ (j : Int) < (r.f2.length : Int) := by omega
            obtain rfl : j = r.f2.length := by omega
            have hO := HO.out; rw [zqa] at hO; have hte : T = r.f2.map fun a => e a.data.toList := by rw [HT2.out]; unfold zac; rw [zp9]; rfl
            have HTe := zpq hte; have HOf := zpq hO; clear hte hO; go_wp2_with fail; go_ret
            exact ⟨_, rfl, by rw [HTe.out]; exact Kd.R_lower HOf.out (zpA HB.out.size HWq.out.size), (HB.out.trans (HWq.out.mono HB.out.size)).trans (HWi.out.mono (zpA HB.out.size HWq.out.size))⟩
 . have d0 : ((vs.length : Int) != (r.f1.length : Int)) = true := by simp; omega
   have hT := HT.out; rw [if_pos (by omega)] at hT
   clear HT; have HT := zpq hT; clear hT hne; go_enter Tryz.func34, Tryz.ntmps34
   go_upto_if 21 with fail; generalize w.alloc (.cells #[.string r.f0, .slice B1 r.f1.length c1, .slice B2 r.f2.length c2, .slice B3 r.f3.length c3, .slice B4 r.f4.length c4] 45) = w1 at HB HK H1 H2 H4 HR HG |-; have k1 : w1.cell? ⟨w.heap.size, 1, none⟩ = some (.slice B1 r.f1.length c1) := (zab HK.out 1).trans rfl; go_wp2_with fail; go_ret
   exact ⟨_, rfl, by rw [HT.out]; exact Kd.R_nil _ _ _ _ _, HB.out⟩

theorem zoo (A : Option Addr) (c : Nat) (l : List ByteArray) (t : ByteArray) (w : World) (hr : Kd.C Kd.string w A l.length l) :
 Calls Tryz.prog 64 #[.slice A l.length c, .string t] w fun e w' => e = .returned (.int .i64 (idxF l t)) /\ w = w' := by
 cases l with
 | cons a r => exact zg8 A c (a :: r) t w hr (Nat.succ_pos _)
 | nil =>
  have he : idxF [] t = -1 := by unfold idxF; simp
  rw [he]; clear hr he; show Calls Tryz.prog _ #[.slice A 0 c, .string t] w _
  go_enter Tryz.func64, Tryz.ntmps64
  go_wp2_with fail; go_loopg [5, 8] 0 (fun gg _ s8 wr => s8 = .int .i64 0 /\ wr = w)
  case atStart => exact ⟨rfl, rfl⟩
  case round =>
   obtain ⟨rfl, rfl⟩ := hrel; go_wp2_with fail; go_ret
   exact ⟨rfl, rfl⟩

def zbr (ins : List ByteArray) (vs : List SVal) (n : ByteArray) : SVal := if 0 <= idxF ins n /\ idxF ins n < vs.length then vs.getD (idxF ins n).toNat zV else zV
theorem zki (r : zaj) (B1 : Option Addr) (c1 : Nat) (B2 : Option Addr) (c2 : Nat) (B3 : Option Addr) (c3 : Nat) (B4 : Option Addr) (c4 : Nat) (Ai : Option Addr) (ci : Nat) (ins : List ByteArray) (A : Option Addr) (c : Nat) (vs : List SVal) (w : World) (hG : GOK w)
 (h1 : Kd.C Kd.string w B1 r.f1.length r.f1) (h2 : Kd.C Kd.string w B2 r.f2.length r.f2) (h4 : Kd.C k24 w B4 r.f4.length r.f4) (hi : Kd.C Kd.string w Ai ins.length ins) (hr : Kd.C k34 w A vs.length vs) (hF : FitR r) (hsz : ∀ v ∈ vs, v.f1.size <= 4194304) :
 Calls Tryz.prog 36 #[.agg (zaq r B1 c1 B2 c2 B3 c3 B4 c4), .slice Ai ins.length ci, .slice A vs.length c] w (zfk (runS (zav r) (r.f1.map (zbr ins vs))) w) := by
 have hlen : vs.length <= 9223372036854775807 := hr.2.1; have hn1 := hF.ins; have hW := (zpt w.heap.size w).alloc (zpu _) (.cells (zaq r B1 c1 B2 c2 B3 c3 B4 c4) 45); have HK := zpq (zal w (.cells (zaq r B1 c1 B2 c2 B3 c3 B4 c4) 45)); have HB := zpq hW; have H1 := zpq (Kd.C_below h1 hW); have H2 := zpq (Kd.C_below h2 hW); have H4 := zpq (Kd.C_below h4 hW); have HI := zpq (Kd.C_below hi hW); have HR := zpq (Kd.C_below hr hW); have HG := zpq (hG.below hW); have HS := zpq hsz; have HF := zpq hF; have hOf := fun (W : World) (hW : Below w.heap.size w W) (A5 : Option Addr) (n5 : Nat) (hr5 : Kd.C k34 W A5 (r.f1.map (zbr ins vs)).length (r.f1.map (zbr ins vs))) => zga r B1 c1 B2 c2 B3 c3 B4 c4 A5 n5 (r.f1.map (zbr ins vs)) W (hG.below hW) (Kd.C_below h1 hW) (Kd.C_below h2 hW) (Kd.C_below h4 hW) hr5 hF (fun v hv => by
  obtain ⟨n, _, rfl⟩ := zqN.1 hv; unfold zbr; split
  . rename_i hc
    rw [zpy, zpx (show (idxF ins n).toNat < vs.length by omega)]
    exact hsz _ (zqD _)
  . exact zqf _)
 rw [zp6] at hOf; have HOf := zpq hOf; obtain ⟨T, hT⟩ : ∃ T, T = runS (zav r) (r.f1.map (zbr ins vs)) := ⟨_, rfl⟩; rw [<- hT] at HOf |-; clear hT hW h1 h2 h4 hi hr hG hsz hF hOf; unfold zaq at *; go_enter Tryz.func36, Tryz.ntmps36
 go_upto_region 2 with fail; generalize w.alloc (.cells #[.string r.f0, .slice B1 r.f1.length c1, .slice B2 r.f2.length c2, .slice B3 r.f3.length c3, .slice B4 r.f4.length c4] 45) = w1 at HB HK H1 H2 H4 HI HR HG |-; have k1 : w1.cell? ⟨w.heap.size, 1, none⟩ = some (.slice B1 r.f1.length c1) := (zab HK.out 1).trans rfl; go_wp2_with fail; go_loopg [7, 9, 10, 11, 15] r.f1.length (fun gg s7 _ _ _ s15 wr => ∃ kk : Nat, kk <= r.f1.length /\ r.f1.length - kk <= gg /\ s15 = .int .i64 kk /\ Aside0 (RVal wr w1.heap.size s7 ((r.f1.take kk).map (zbr ins vs))) /\ Aside0 (Below w1.heap.size w1 wr))
 case atStart => exact ⟨0, zqf _, by omega, rfl, ⟨Kd.R_nil _ _ _ _ _⟩, ⟨zpt _ _⟩⟩
 case round =>
  obtain ⟨kk, hkk, hgk, rfl, HO, HW⟩ := hrel; obtain ⟨wq, rfl⟩ : ∃ wq, wq = wr := ⟨wr, rfl⟩; by_cases hlt : kk < r.f1.length
  . have hltz : (kk : Int) < (r.f1.length : Int) := by omega
    obtain ⟨b, o, rfl, p0⟩ := zbi (Kd.C_below H1.out HW.out) kk hlt; have hb3 := (zpt wq.heap.size wq).alloc (zpu _) (.cells #[.bool false, .string ⟨#[]⟩] 34); have HX3 := zpq (zal wq (.cells #[.bool false, .string ⟨#[]⟩] 34)); have HB3 := zpq hb3; have hix := zoo Ai ci ins r.f1[kk] (wq.alloc (.cells #[.bool false, .string ⟨#[]⟩] 34)) (Kd.C_below HI.out (HW.out.alloc HW.out.size _)); have hsu : (r.f1.take (kk + 1)).map (zbr ins vs) = (r.f1.take kk).map (zbr ins vs) ++ [zbr ins vs r.f1[kk]] := by rw [zpW hlt, zqj]; rfl
    have hml : ((r.f1.take kk).map (zbr ins vs)).length = kk := by rw [zp6, zpF]; omega
    have HML := zpq hml; have hpv : zbr ins vs r.f1[kk] = if 0 <= idxF ins r.f1[kk] /\ idxF ins r.f1[kk] < vs.length then vs.getD (idxF ins r.f1[kk]).toNat zV else zV := rfl
    have HSu := zpq hsu; have HPv := zpq hpv; generalize zbr ins vs r.f1[kk] = v at HSu HPv; generalize idxF ins r.f1[kk] = i at hix HPv; generalize r.f1[kk] = n at p0 hix; clear hb3 hsu hml hpv; go_upto_region 6 with fail; generalize wq.alloc (.cells #[.bool false, .string ⟨#[]⟩] 34) = w3 at HX3 HB3 hix |-; have HBl := zpq (zad HW.out HW.out.size HB3.out); by_cases hi : 0 <= i /\ i < vs.length
    . have hP := HPv.out
      rw [if_pos hi] at hP; obtain ⟨hi1, hi2⟩ := hi; obtain ⟨m, rfl⟩ := Int.eq_ofNat_of_zero_le hi1; have hm : m < vs.length := by omega
      obtain ⟨bv, ov, rfl, v0, v1⟩ := zc6 (Kd.C_below HR.out HBl.out) m hm; have hP2 : v = vs[m] := by rw [hP, zqz, zpy, zpx hm]; rfl
      rw [<- hP2] at v0 v1; have HPv2 : Hid (v = ⟨v.f0, v.f1⟩) := zpq rfl; have y0 : w3.cell? ⟨wq.heap.size, 0, none⟩ = some (.bool false) := (zab HX3.out 0).trans rfl; have y1 : w3.cell? ⟨wq.heap.size, 1, none⟩ = some (.string ⟨#[]⟩) := (zab HX3.out 1).trans rfl; have hfr0 := zai HX3.out 0; have hfr1 := zai HX3.out 1; clear hP hP2 HPv; go_upto_region 9 with (first | (go_at_call 64; refine hix.mono ?_; rintro e w4 ⟨rfl, rfl⟩))
      have HX5 : Hid (((w3.setCell ⟨wq.heap.size, 0, none⟩ (.bool v.f0)).setCell ⟨wq.heap.size, 1, none⟩ (.string v.f1)).heap[wq.heap.size]? = some (.cells #[.bool v.f0, .string v.f1] 34 (0, 0))) := zpq (zat (zat HX3.out 0 _ rfl) 1 _ rfl); have HBx := zpq ((HB3.out.setCell (p := ⟨wq.heap.size, 0, none⟩) (zpu _) (.bool v.f0)).setCell (p := ⟨wq.heap.size, 1, none⟩) (zpu _) (.string v.f1)); generalize (w3.setCell ⟨wq.heap.size, 0, none⟩ (.bool v.f0)).setCell ⟨wq.heap.size, 1, none⟩ (.string v.f1) = w5 at HX5 HBx |-; clear y0 y1 hfr0 hfr1 v0 v1; have z0 : w5.cell? ⟨wq.heap.size, 0, none⟩ = some (.bool v.f0) := (zab HX5.out 0).trans rfl; have z1 : w5.cell? ⟨wq.heap.size, 1, none⟩ = some (.string v.f1) := (zab HX5.out 1).trans rfl; have HO5 := zpq (Kd.R_below HO.out HBx.out); have HB5 := zpq (zad HW.out HW.out.size HBx.out); have HWs := zpq HB5.out.size; go_wp2_with (first | ((with_reducible refine zaG (b := .append) (xs := #[.tmp 35, .tmp 37]) rfl ?_); at_builtin; refine Kd.R_append k34 (w0 := w1) w1.heap.size rfl (.tmp 35) (.tmp 37) 25 34 (.agg #[.bool false, .string ⟨#[]⟩]) 24 rfl Tryz.underlying25 zcH rfl (by decide) (by decide) u7 ((r.f1.take kk).map (zbr ins vs)) ⟨v.f0, v.f1⟩ [.bool v.f0, .string v.f1] (fun _ => True) (fun k_ => True /\ some k_ ≠ u7.ownBlock) rfl rfl (zco _ _ _ ⟨v.f0, v.f1⟩) (fun _ hk => hk) (fun _ _ => trivial) HO5.out HB5.out HWs.out ?aL ?_; (case aL => (have h1 := HML.out; omega)); intro v1 w6 ho hb hg hat; have HO6 : Hid (RVal w6 w1.heap.size v1 ((r.f1.take (kk + 1)).map (zbr ins vs))) := (by show RVal _ _ _ _; rw [HSu.out]; exact ho); have HB6 := zpq hb; clear ho hb hg hat))
      go_roundg (r.f1.length - (kk + 1))
      case measure => omega
      case rel => exact ⟨kk + 1, by omega, by omega, by first | rfl | go_num, ⟨HO6.out⟩, ⟨HB6.out⟩⟩
    . have hP := HPv.out
      rw [if_neg hi] at hP; have HPv2 : Hid (v = ⟨false, ⟨#[]⟩⟩) := zpq hP; clear hP HPv; by_cases hi1 : 0 <= i
      . have hi2 : ¬ i < (vs.length : Int) := fun h => hi ⟨hi1, h⟩
        clear hi; go_upto_region 9 with (first | (go_at_call 64; refine hix.mono ?_; rintro e w4 ⟨rfl, rfl⟩))
        have z0 : w3.cell? ⟨wq.heap.size, 0, none⟩ = some (.bool false) := (zab HX3.out 0).trans rfl; have z1 : w3.cell? ⟨wq.heap.size, 1, none⟩ = some (.string ⟨#[]⟩) := (zab HX3.out 1).trans rfl; have HO5 := zpq (Kd.R_below HO.out HB3.out); have HB5 := zpq (zad HW.out HW.out.size HB3.out); have HWs := zpq HB5.out.size; go_wp2_with (first | ((with_reducible refine zaG (b := .append) (xs := #[.tmp 35, .tmp 37]) rfl ?_); at_builtin; refine Kd.R_append k34 (w0 := w1) w1.heap.size rfl (.tmp 35) (.tmp 37) 25 34 (.agg #[.bool false, .string ⟨#[]⟩]) 24 rfl Tryz.underlying25 zcH rfl (by decide) (by decide) u7 ((r.f1.take kk).map (zbr ins vs)) ⟨false, ⟨#[]⟩⟩ [.bool false, .string ⟨#[]⟩] (fun _ => True) (fun k_ => True /\ some k_ ≠ u7.ownBlock) rfl rfl (zco _ _ _ ⟨false, ⟨#[]⟩⟩) (fun _ hk => hk) (fun _ _ => trivial) HO5.out HB5.out HWs.out ?aL ?_; (case aL => (have h1 := HML.out; omega)); intro v1 w6 ho hb hg hat; have HO6 : Hid (RVal w6 w1.heap.size v1 ((r.f1.take (kk + 1)).map (zbr ins vs))) := (by show RVal _ _ _ _; rw [HSu.out, HPv2.out]; exact ho); have HB6 := zpq hb; clear ho hb hg hat))
        go_roundg (r.f1.length - (kk + 1))
        case measure => omega
        case rel => exact ⟨kk + 1, by omega, by omega, by first | rfl | go_num, ⟨HO6.out⟩, ⟨HB6.out⟩⟩
      . clear hi
        go_upto_region 9 with (first | (go_at_call 64; refine hix.mono ?_; rintro e w4 ⟨rfl, rfl⟩))
        have z0 : w3.cell? ⟨wq.heap.size, 0, none⟩ = some (.bool false) := (zab HX3.out 0).trans rfl; have z1 : w3.cell? ⟨wq.heap.size, 1, none⟩ = some (.string ⟨#[]⟩) := (zab HX3.out 1).trans rfl; have HO5 := zpq (Kd.R_below HO.out HB3.out); have HB5 := zpq (zad HW.out HW.out.size HB3.out); have HWs := zpq HB5.out.size; go_wp2_with (first | ((with_reducible refine zaG (b := .append) (xs := #[.tmp 35, .tmp 37]) rfl ?_); at_builtin; refine Kd.R_append k34 (w0 := w1) w1.heap.size rfl (.tmp 35) (.tmp 37) 25 34 (.agg #[.bool false, .string ⟨#[]⟩]) 24 rfl Tryz.underlying25 zcH rfl (by decide) (by decide) u7 ((r.f1.take kk).map (zbr ins vs)) ⟨false, ⟨#[]⟩⟩ [.bool false, .string ⟨#[]⟩] (fun _ => True) (fun k_ => True /\ some k_ ≠ u7.ownBlock) rfl rfl (zco _ _ _ ⟨false, ⟨#[]⟩⟩) (fun _ hk => hk) (fun _ _ => trivial) HO5.out HB5.out HWs.out ?aL ?_; (case aL => (have h1 := HML.out; omega)); intro v1 w6 ho hb hg hat; have HO6 : Hid (RVal w6 w1.heap.size v1 ((r.f1.take (kk + 1)).map (zbr ins vs))) := (by show RVal _ _ _ _; rw [HSu.out, HPv2.out]; exact ho); have HB6 := zpq hb; clear ho hb hg hat))
        go_roundg (r.f1.length - (kk + 1))
        case measure => omega
        case rel => exact ⟨kk + 1, by omega, by omega, by first | rfl | go_num, ⟨HO6.out⟩, ⟨HB6.out⟩⟩
  . have hltz : ¬ (kk : Int) < (r.f1.length : Int) := by omega
    obtain rfl : kk = r.f1.length := by omega
    have hO := HO.out; rw [zqa] at hO; obtain ⟨A5, n5, rfl, _, hC5⟩ := Kd.R_reads hO; rw [zp6] at hC5 |-; have hB := HB.out.trans (HW.out.mono HB.out.size); have hX := zah HK.out HW.out; have hcall := HOf.out wq hB A5 n5 hC5; have HBa := zpq hB; have x0 : wq.cell? ⟨w.heap.size, 0, none⟩ = some (.string r.f0) := (zab hX 0).trans rfl; have x1 : wq.cell? ⟨w.heap.size, 1, none⟩ = some (.slice B1 r.f1.length c1) := (zab hX 1).trans rfl; have x2 : wq.cell? ⟨w.heap.size, 2, none⟩ = some (.slice B2 r.f2.length c2) := (zab hX 2).trans rfl; have x3 : wq.cell? ⟨w.heap.size, 3, none⟩ = some (.slice B3 r.f3.length c3) := (zab hX 3).trans rfl; have x4 : wq.cell? ⟨w.heap.size, 4, none⟩ = some (.slice B4 r.f4.length c4) := (zab hX 4).trans rfl; clear hO hC5 hB hX; go_wp2_with (first | (go_at_call 34; refine hcall.mono ?_; rintro e w7 ⟨v7, rfl, hR7, hb7⟩; have HR7 := zpq (Kd.R_lower hR7 HBa.out.size); have HB7 := zpq (zad HBa.out HBa.out.size hb7); clear hR7 hb7))
    go_ret
    exact ⟨_, rfl, HR7.out, HB7.out⟩

def SetIs (w : World) (b n : Nat) (s : zaa -> Bool) : Prop := ∃ f, MapIs Tryz.prog 9 w b n f /\ ∀ k, (f k).getD (.bool false) = .bool (s k)
theorem SetIs.made (w : World) : SetIs (w.alloc (.map #[] 0)) w.heap.size 0 (fun _ => false) := ⟨_, MapIs.made w, fun _ => rfl⟩
theorem SetIs.lt {w : World} {b n : Nat} {s : zaa -> Bool} (h : SetIs w b n s) : b < w.heap.size := by obtain ⟨f, h, _⟩ := h; exact h.lt
theorem SetIs.mono {w : World} {b n n' : Nat} {s : zaa -> Bool} (h : SetIs w b n s) (hn : n <= n') : SetIs w b n' s := by obtain ⟨f, h, h2⟩ := h; exact ⟨f, h.mono hn, h2⟩
theorem SetIs.below {w w' : World} {b n : Nat} {s : zaa -> Bool} (h : SetIs w b n s) (hb : Below w.heap.size w w') : SetIs w' b n s := by obtain ⟨f, h, h2⟩ := h; exact ⟨f, h.below hb, h2⟩
theorem SetIs.grown {w w' : World} {b n : Nat} {s : zaa -> Bool} {row : Option Nat} (h : SetIs w b n s) (hg : w.grownBy w' row) (hne : some b ≠ row) : SetIs w' b n s := by obtain ⟨f, h, h2⟩ := h; exact ⟨f, h.grown hg hne, h2⟩
theorem MapIs.ne_cells {w : World} {kt b n : Nat} {f : zaa -> Option Value} (h : MapIs Tryz.prog kt w b n f) {g t : Nat} {cs : Array Value} {fr : Nat × Nat} (hg : w.heap[g]? = some (.cells cs t fr)) : b ≠ g := by
 rintro rfl; obtain ⟨D, ⟨es, clock, hb, _⟩, _⟩ := h; rw [hb] at hg; cases hg
theorem SetIs.ne_cells {w : World} {b n : Nat} {s : zaa -> Bool} (h : SetIs w b n s) {g t : Nat} {cs : Array Value} {fr : Nat × Nat} (hg : w.heap[g]? = some (.cells cs t fr)) : b ≠ g := by obtain ⟨f, h, _⟩ := h; exact h.ne_cells hg
theorem SetIs.look {w : World} {b n : Nat} {s : zaa -> Bool} (h : SetIs w b n s) (k : ByteArray) (hs : k.size <= maxLen) :
 (Instr.lookup 119 (.map (some b)) (.string k) false).run Tryz.prog w = .ok (.bool (s k.data.toList)) w := by
 obtain ⟨f, h, h2⟩ := h; rw [h.look Tryz.underlying9 Tryz.underlying119 (Tryz.zeroValue4 w) k hs]; exact congrArg (fun v => Result.ok v w) (h2 k.data.toList)
def addS (s : zaa -> Bool) (k : zaa) : zaa -> Bool := fun x => s x || x == k
theorem SetIs.put {w : World} {b n : Nat} {s : zaa -> Bool} (h : SetIs w b n s) (hn : n < maxLen) (k : ByteArray) (hs : k.size <= maxLen) :
 ∃ w', (Instr.mapUpdate 119 (.map (some b)) (.string k) (.bool true)).run Tryz.prog w = .ok () w' /\ SetIs w' b (n + 1) (addS s k.data.toList) /\ w.grownBy w' (some b) := by
 obtain ⟨f, h, h2⟩ := h; obtain ⟨w', hrun, h', hg⟩ := h.store Tryz.underlying9 Tryz.underlying119 hn k hs (.bool true); refine ⟨w', hrun, ⟨_, h', fun x => ?_⟩, hg⟩
 unfold setF addS; by_cases e : x = k.data.toList
 . rw [if_pos e]
   simp [e]
 . rw [if_neg e, h2 x]
   simp [e]
def addL (s : zaa -> Bool) (l : List zaa) : zaa -> Bool := fun x => s x || l.contains x
theorem zf2 (s : zaa -> Bool) : addL s [] = s := by funext x; simp [addL]
theorem zeM (s : zaa -> Bool) (l : List zaa) (k : zaa) : addL s (l ++ [k]) = addS (addL s l) k := by
 funext x
 unfold addL addS; rw [Bool.or_assoc]; congr 1
 rw [Bool.eq_iff_iff]; simp

end Go.Proofs.YtdpgdnpddndeoaaGreatDoor.X

namespace Go.Proofs.YtdpgdnpddndeoaaGreatDoor.X
def zaw (w : zaa -> Bool) : List zch -> List Bool × (zaa -> Bool)
 | [] => ([], w)
 | s :: r => ((zaw w r).2 s.out :: (zaw w r).1, fun x => (zaw w r).2 x || ((zaw w r).2 s.out && s.args.contains x))
def zct (outs : List zaa) : List zch -> List Bool
 | [] => []
 | s :: r => (outs.contains s.out || (r.zip (zct outs r)).any fun p => p.2 && p.1.args.contains s.out) :: zct outs r
theorem zla (outs : List zaa) : ∀ L : List zch, (zaw (fun x => outs.contains x) L).1 = zct outs L /\ ∀ x, (zaw (fun x => outs.contains x) L).2 x = (outs.contains x || (L.zip (zct outs L)).any fun p => p.2 && p.1.args.contains x)
 | [] => ⟨rfl, fun x => by simp [zaw, zct]⟩
 | s :: r => by
  obtain ⟨h1, h2⟩ := zla outs r; have hd : (zaw (fun x => outs.contains x) r).2 s.out = (outs.contains s.out || (r.zip (zct outs r)).any fun p => p.2 && p.1.args.contains s.out) := h2 s.out
  refine ⟨?_, fun x => ?_⟩
  . show (zaw (fun x => outs.contains x) r).2 s.out :: (zaw (fun x => outs.contains x) r).1 = _
    rw [h1, hd]; rfl
  . show ((zaw (fun x => outs.contains x) r).2 x || ((zaw (fun x => outs.contains x) r).2 s.out && s.args.contains x)) = _
    rw [h2 x, hd]; show _ = (outs.contains x || ((((outs.contains s.out || (r.zip (zct outs r)).any fun p => p.2 && p.1.args.contains s.out)) && s.args.contains x) || (r.zip (zct outs r)).any fun p => p.2 && p.1.args.contains x))
    generalize (r.zip (zct outs r)).any (fun p => p.2 && p.1.args.contains x) = u
    generalize ((outs.contains s.out || (r.zip (zct outs r)).any fun p => p.2 && p.1.args.contains s.out) && s.args.contains x) = v
    cases outs.contains x <;> cases u <;> cases v <;> rfl
theorem zf7 (w : zaa -> Bool) : ∀ L : List zch, (zaw w L).1.length = L.length
 | [] => rfl
 | s :: r => by show (zaw w r).1.length + 1 = _; rw [zf7 w r]; rfl
def zaX : List zaa -> List zaa
 | [] => []
 | [x] => [x]
 | x :: y :: r => if x = y then zaX (y :: r) else x :: zaX (y :: r)
theorem zgm : ∀ (l : List zaa) (x : zaa), x ∈ zaX l ↔ x ∈ l
 | [], x => Iff.rfl
 | [y], x => Iff.rfl
 | y :: z :: r, x => by
  unfold zaX; split
  . rename_i h
    rw [zgm (z :: r) x, h]; simp
  . rw [zqB, zgm (z :: r) x, zqB, zqB]
    simp only [zqB]
def zcm (r : zcZ) (m : List Bool) : List zaa := zaX (((r.steps.zip m).flatMap fun p => p.1.args.filter fun a => p.2 && r.ins.contains a).mergeSort fun x y => decide (x <= y))
end Go.Proofs.YtdpgdnpddndeoaaGreatDoor.X

namespace Go.Proofs.YtdpgdnpddndeoaaGreatDoor.X
open Go.RowKit Go.Maps Go.Proofs.YtdpgdnpddndeoaaGreatDoorW.PrintWords Go.Proofs.YtdpgdnpddndeoaaGreatDoorW.PrintMore Go.Proofs.YtdpgdnpddndeoaaGreatDoorW.PrintLast
abbrev zcp (w : World) (base : Nat) (v : Value) (l : List Bool) : Prop := Kd.R Kd.bool 4 w base (fun _ => True) v l
def znZ (l : List Bool) (w : World) (e : Ending) (w' : World) : Prop := ∃ v, e = .returned v /\ zcp w' w.heap.size v l /\ Below w.heap.size w w'
theorem zmi (w : zaa -> Bool) (L : List zch) (j : Nat) (h : j < L.length) : zaw w (L.drop j) = ((zaw w (L.drop (j + 1))).2 L[j].out :: (zaw w (L.drop (j + 1))).1, fun x => (zaw w (L.drop (j + 1))).2 x || ((zaw w (L.drop (j + 1))).2 L[j].out && L[j].args.contains x)) := by
 rw [List.drop_eq_getElem_cons h]; rfl
theorem zow (j : Nat) (b : Bool) (M : List Bool) : (List.replicate (j + 1) false ++ M).set j b = List.replicate j false ++ b :: M := by
 rw [List.set_append_left _ _ (by simp), List.replicate_succ', List.set_append_right _ _ (by simp)]
 simp
theorem zes (r : zaj) (B1 : Option Addr) (c1 : Nat) (B2 : Option Addr) (c2 : Nat) (B3 : Option Addr) (c3 : Nat) (B4 : Option Addr) (c4 : Nat) (A : Option Addr) (c : Nat) (fs : List ByteArray) (w : World)
 (h4 : Kd.C k24 w B4 r.f4.length r.f4) (hr : Kd.C Kd.string w A fs.length fs) (hF : FitR r) (hl : fs.length <= 1000) (hsz : ∀ x ∈ fs, x.size <= maxLen) :
 Calls Tryz.prog 66 #[.agg (zaq r B1 c1 B2 c2 B3 c3 B4 c4), .slice A fs.length c] w (znZ (zaw (fun x => (zac fs).contains x) (zav r).steps).1 w) := by
 have hn4 := hF.steps; have hW := (zpt w.heap.size w).alloc (zpu _) (.cells (zaq r B1 c1 B2 c2 B3 c3 B4 c4) 45); have HK := zpq (zal w (.cells (zaq r B1 c1 B2 c2 B3 c3 B4 c4) 45)); have HB := zpq hW; have H4 := zpq (Kd.C_below h4 hW); have HR := zpq (Kd.C_below hr hW); have HF := zpq hF; have HS := zpq hsz; obtain ⟨st, hst⟩ : ∃ st, st = (zav r).steps := ⟨_, rfl⟩; have hsl : st.length = r.f4.length := by rw [hst]; exact zp6 ..
 have HSl := zpq hsl; have HSt := zpq hst; rw [<- hst]; obtain ⟨w0, hw0⟩ : ∃ w0 : zaa -> Bool, w0 = fun x => (zac fs).contains x := ⟨_, rfl⟩
 rw [<- hw0]; have HW0 := zpq hw0; clear hw0; clear hW h4 hr hF hsz hst hsl; unfold zaq at *; have hmm := @run_makeMap Tryz.prog; go_enter Tryz.func66, Tryz.ntmps66
 go_upto_region 1 with fail; generalize w.alloc (.cells #[.string r.f0, .slice B1 r.f1.length c1, .slice B2 r.f2.length c2, .slice B3 r.f3.length c3, .slice B4 r.f4.length c4] 45) = w1 at HB HK H4 HR |-; have k4 : w1.cell? ⟨w.heap.size, 4, none⟩ = some (.slice B4 r.f4.length c4) := (zab HK.out 4).trans rfl; have hz0 : (0 : Int) <= (r.f4.length : Int) := by omega
 go_upto_region 2 with (first | (at_make; refine Kd.R_make Kd.bool (w0 := w1) w1.heap.size 4 rfl rfl 55 (.tmp 15) (.tmp 15) rfl (r.f4.length : Int) rfl rfl Tryz.underlying55 (.bool false) 1 info4 rfl (by decide) (by decide) false (okp := fun _ => True) (ok := fun _ => True) rfl (fun _ h => h) trivial hz0 (by omega) (zpt _ _) (zpu _) ?_; intro v1 w2 ho hb hg hv; have HO2 := zpq ho; have HB2 := zpq hb; clear ho hb hg hv))
 rw [zqz] at HO2; have HO3 := zpq (Kd.R_below HO2.out ((zpt w2.heap.size w2).alloc (zpu _) (.map #[] 0))); have HB3 : Hid (Below w1.heap.size w1 (w2.alloc (.map #[] 0))) := zpq (HB2.out.alloc HB2.out.size _); have HE3 := zpq (SetIs.made w2); have HZ2 := zpq HB2.out.size; have HRt := zpq (Kd.R_lt HO2.out); clear HO2 HB2; go_upto_region 3 with fail; generalize w2.heap.size = m at HE3 HZ2 HRt |-; generalize w2.alloc (.map #[] 0) = w3 at HO3 HB3 HE3 |-; go_wp2_with fail; go_loopg [8, 20] fs.length (fun gg _ s20 wr => ∃ kk : Nat, kk <= fs.length /\ fs.length - kk <= gg /\ s20 = .int .i64 kk /\ Aside0 (SetIs wr m kk (addL (fun _ => false) ((zac fs).take kk))) /\ Aside0 (zcp wr w1.heap.size v1 (List.replicate r.f4.length false)) /\ Aside0 (Below w1.heap.size w1 wr))
 case atStart => exact ⟨0, zqf _, by omega, rfl, ⟨by rw [zqQ, zf2]; exact HE3.out⟩, ⟨HO3.out⟩, ⟨HB3.out⟩⟩
 case round =>
  obtain ⟨kk, hkk, hgk, rfl, HE, HO, HW⟩ := hrel; by_cases hlt : kk < fs.length
  . have hltz : (kk : Int) < (fs.length : Int) := by omega
    obtain ⟨b, o, rfl, p0⟩ := zbi (Kd.C_below HR.out HW.out) kk hlt; obtain ⟨w4, hrun, hE4, hg4⟩ := HE.out.put (by unfold maxLen; omega) fs[kk] (HS.out _ (zqD hlt))
    have hst : (zac fs).take (kk + 1) = (zac fs).take kk ++ [fs[kk].data.toList] := by rw [zpW (by rw [zaM]; exact hlt), zcd fs kk hlt]
    rw [<- zeM, <- hst] at hE4; have HE4 := zpq hE4; have HW4 : Hid (Below w1.heap.size w1 w4) := zpq (HW.out.grown hg4 HW.out.size (fun k hk => by cases hk; exact HZ2.out))
    have HO4 : Hid (zcp w4 w1.heap.size v1 (List.replicate r.f4.length false)) := zpq (Kd.R_mono (Kd.R_step (Kd.R_mono (Kd.R_bound HO.out) (fun k hk => hk)) (fun k hk hlt => hg4.block k hlt (fun e => by
     cases e
     obtain ⟨_, _, _, q, _, cells, hc⟩ := hk; exact HE.out.ne_cells hc rfl))) (fun _ _ => trivial))
    generalize fs[kk] = n at p0 hrun; clear hst hE4 hg4; go_wp2_with fail; go_roundg (fs.length - (kk + 1))
    case measure => omega
    case rel => exact ⟨kk + 1, by omega, by omega, by go_num, ⟨HE4.out⟩, ⟨HO4.out⟩, ⟨HW4.out⟩⟩
  . have hltz : ¬ (kk : Int) < (fs.length : Int) := by omega
    obtain rfl : kk = fs.length := by omega
    have HE1 : Hid (SetIs wr m (fs.length + 0) (zaw w0 (st.drop r.f4.length)).2) := by
     have h := HE.out; have e : (zaw w0 (st.drop r.f4.length)).2 = addL (fun _ => false) ((zac fs).take fs.length) := by
      rw [zqe (by rw [HSl.out]; exact zpu _), zqM (by rw [zaM]; exact zpu _), HW0.out]
      funext x
      simp [zaw, addL]
     show SetIs _ _ _ _
     rw [e]; exact h
    have HO1 : Hid (zcp wr w1.heap.size v1 (List.replicate r.f4.length false ++ (zaw w0 (st.drop r.f4.length)).1)) := by
     have e : (zaw w0 (st.drop r.f4.length)).1 = [] := by rw [zqe (by rw [HSl.out]; exact zpu _)]; rfl
     show zcp _ _ _ _
     rw [e, List.append_nil]; exact HO.out
    have k4' := zaf HW.out k4; go_upto_region 8 with fail; clear HE HO HE3 HO3 HB3; go_wp2_with fail; go_loopg [9, 10, 12] r.f4.length (fun gg s9 _ _ wr => ∃ jj : Nat, jj <= r.f4.length /\ jj <= gg /\ s9 = .int .i64 ((jj : Int) - 1) /\ Aside0 (SetIs wr m (fs.length + (r.f4.length - jj) * 1000) (zaw w0 (st.drop jj)).2) /\ Aside0 (zcp wr w1.heap.size v1 (List.replicate jj false ++ (zaw w0 (st.drop jj)).1)) /\ Aside0 (Below w1.heap.size w1 wr))
    case atStart => exact ⟨r.f4.length, zpu _, zpu _, rfl, ⟨by rw [Nat.sub_self, Nat.zero_mul]; exact HE1.out⟩, ⟨HO1.out⟩, ⟨HW.out⟩⟩
    case round =>
     obtain ⟨jj, hjj, hgj, rfl, HE, HO, HW5⟩ := hrel; obtain ⟨wq, rfl⟩ : ∃ wq, wq = wr := ⟨wr, rfl⟩; cases jj with
     | zero =>
      have hO := HO.out; rw [List.drop_zero, List.replicate_zero, List.nil_append] at hO; have HOf := zpq hO; clear hO; go_wp2_with fail; go_ret
      exact ⟨_, rfl, Kd.R_lower HOf.out HB.out.size, HB.out.trans (HW5.out.mono HB.out.size)⟩
     | succ j =>
      have ej : (((j + 1 : Nat) : Int) - 1) = (j : Int) := by omega
      rw [ej]; have hlj : j < r.f4.length := by omega
      have hljz : (j : Int) < (r.f4.length : Int) := by omega
      have hj0 : (0 : Int) <= (j : Int) := by omega
      clear ej; have k4q := zaf HW5.out k4; obtain ⟨b, o, C2, d2, C3, d3, rfl, p0, p1, p2, p3, p4, g2, g3⟩ := zdd H4.out j hlj; replace p0 := zaf HW5.out p0
      replace p1 := zaf HW5.out p1
      replace p2 := zaf HW5.out p2
      replace p3 := zaf HW5.out p3
      replace p4 := zaf HW5.out p4
      have hdr := zmi w0 st j (by rw [HSl.out]; exact hlj)
      have hsx : st[j]'(by rw [HSl.out]; exact hlj) = zaO r.f4[j] := by
       have h := HSt.out; subst h; exact List.getElem_map ..
      rw [hsx] at hdr; obtain ⟨hxo, hxl, hxn⟩ := HF.out.stepN _ (zqD hlj); have hml : (List.replicate (j + 1) false ++ (zaw w0 (st.drop (j + 1))).1).length = r.f4.length := by
       rw [zpH, zqP, zf7, List.length_drop, HSl.out]; omega
      have HDr := zpq hdr; have HXo := zpq hxo; have HXn := zpq hxn; have HSm := zpq (zow j ((zaw w0 (st.drop (j + 1))).2 (zaO r.f4[j]).out) (zaw w0 (st.drop (j + 1))).1); have HEq : Hid (SetIs wq m (fs.length + (r.f4.length - (j + 1)) * 1000) (zaw w0 (st.drop (j + 1))).2) := zpq HE.out; have HOq : Hid (zcp wq w1.heap.size v1 (List.replicate (j + 1) false ++ (zaw w0 (st.drop (j + 1))).1)) := zpq HO.out; generalize hx : r.f4[j] = x at p0 p1 p2 p3 p4 g2 g3 HDr HXo HXn hxl HSm; generalize (zaw w0 (st.drop (j + 1))).1 = M at hml HDr HSm HOq; generalize (zaw w0 (st.drop (j + 1))).2 = s at HDr HSm HEq; clear hx hdr hsx hxo hxn HE HO; obtain ⟨g, cap, hv1, hbg, hgl, _⟩ := Kd.R_form HOq.out (by rw [hml]; omega)
      rw [hml] at hv1; subst hv1; have hgz : (g : Nat) < wq.heap.size := hgl; have HGb : Hid (w1.heap.size <= g) := zpq hbg; have HGz := zpq hgz; have hb3 := (zpt wq.heap.size wq).alloc (zpu _) (.cells #[.string x.f0, .int .i64 x.f1, .slice C2 x.f2.length d2, .slice C3 x.f3.length d3, .int .i64 x.f4] 24); have HX3 := zpq (zal wq (.cells #[.string x.f0, .int .i64 x.f1, .slice C2 x.f2.length d2, .slice C3 x.f3.length d3, .int .i64 x.f4] 24)); have HB3 : Hid (Below w1.heap.size w1 (wq.alloc (.cells #[.string x.f0, .int .i64 x.f1, .slice C2 x.f2.length d2, .slice C3 x.f3.length d3, .int .i64 x.f4] 24))) := zpq (HW5.out.alloc HW5.out.size _); have HG2 := zpq g2; have HE3 := zpq (HEq.out.below hb3); have HO3 := zpq (Kd.R_below HOq.out hb3); clear g2 g3 hb3 hbg hgl hgz hml; go_upto_region 12 with fail; generalize wq.alloc (.cells #[.string x.f0, .int .i64 x.f1, .slice C2 x.f2.length d2, .slice C3 x.f3.length d3, .int .i64 x.f4] 24) = w3 at HX3 HB3 HE3 HO3 |-; have x0 : w3.cell? ⟨wq.heap.size, 0, none⟩ = some (.string x.f0) := (zab HX3.out 0).trans rfl; have hlk := HE3.out.look x.f0 HXo.out; obtain ⟨hc0, hf0⟩ := Kd.R_celln false HO3.out (j : Int) hj0 (by omega)
      have hP := Kd.R_putn HO3.out (j : Int) (s x.f0.data.toList); rw [zqz] at hc0 hf0 hP; have hrep : rdOf false (List.replicate (j + 1) false ++ M) (j : Int) = false := by
       unfold rdOf; rw [zqz, zpy, List.getElem?_append_left (by simp), List.getElem?_replicate]
       simp
      rw [hrep] at hc0; have hSm2 := HSm.out; have hso : (zaO x).out = x.f0.data.toList := rfl; rw [hso] at hSm2; rw [hSm2] at hP; have HDr2 : Hid (zaw w0 (st.drop j) = (s x.f0.data.toList :: M, fun y => s y || (s x.f0.data.toList && (zac x.f2).contains y))) := zpq HDr.out
      have HX4 : Hid ((w3.setCell ⟨g, j, none⟩ (.bool (s x.f0.data.toList))).heap[wq.heap.size]? = some (.cells #[.string x.f0, .int .i64 x.f1, .slice C2 x.f2.length d2, .slice C3 x.f3.length d3, .int .i64 x.f4] 24 (0, 0))) :=
       zpq ((Below.heap_setCell w3 ⟨g, j, none⟩ (.bool (s x.f0.data.toList)) wq.heap.size (by have := HGz.out; show wq.heap.size ≠ g; omega)).trans HX3.out)
      have HP4 := zpq hP; have HB4 : Hid (Below w1.heap.size w1 (w3.setCell ⟨g, j, none⟩ (.bool (s x.f0.data.toList)))) := zpq (HB3.out.setCell (p := ⟨g, j, none⟩) HGb.out _); have hng : m ≠ g := by
       obtain ⟨cells, hcc⟩ := Kd.R_typed HO3.out g (by simp [Value.ownBlock])
       exact HE3.out.ne_cells hcc
      have HE4 : Hid (SetIs (w3.setCell ⟨g, j, none⟩ (.bool (s x.f0.data.toList))) m (fs.length + (r.f4.length - (j + 1)) * 1000) s) := zpq (HE3.out.grown (zeU w3 g j _) (by intro e; injection e; omega))
      have HNg := zpq hng; generalize s x.f0.data.toList = b0 at hlk HP4 HDr2 HX4 HB4 HE4; clear hP hSm2 hso HSm HDr hrep hng; go_upto_region 13 with fail; generalize w3.setCell ⟨g, j, none⟩ (.bool b0) = w4 at HP4 HX4 HB4 HE4 |-; obtain ⟨hc1, _⟩ := Kd.R_celln false HP4.out (j : Int) hj0 (by omega)
      rw [zqz] at hc1; have hrd : rdOf false (List.replicate j false ++ b0 :: M) (j : Int) = b0 := by unfold rdOf; simp [zpy]
      rw [hrd] at hc1; have HOj : Hid (zcp w4 w1.heap.size (.slice (some ⟨g, 0, none⟩) r.f4.length cap) (List.replicate j false ++ (zaw w0 (st.drop j)).1)) := by
       show zcp _ _ _ _
       rw [HDr2.out]; exact HP4.out
      have x2 : w4.cell? ⟨wq.heap.size, 2, none⟩ = some (.slice C2 x.f2.length d2) := (zab HX4.out 2).trans rfl; clear hrd hc0 hf0 hlk x0; cases b0 with
      | false =>
       have HEj : Hid (SetIs w4 m (fs.length + (r.f4.length - j) * 1000) (zaw w0 (st.drop j)).2) := by
        show SetIs _ _ _ _
        rw [HDr2.out]; have e : (fun y => s y || (false && (zac x.f2).contains y)) = s := by funext y; simp
        dsimp only; rw [e]; exact HE4.out.mono (Nat.add_le_add_left (zpM _ (by omega)) _)
       go_wp2_with fail; go_roundg j
       case measure => omega
       case rel => exact ⟨j, by omega, zpu _, by first | rfl | go_num, ⟨HEj.out⟩, ⟨HOj.out⟩, ⟨HB4.out⟩⟩
      | true =>
       go_wp2_with fail; go_loopg [12, 54] x.f2.length (fun gg _ s54 wi => ∃ k : Nat, k <= x.f2.length /\ x.f2.length - k <= gg /\ s54 = .int .i64 k /\ Aside0 (SetIs wi m (fs.length + (r.f4.length - (j + 1)) * 1000 + k) (addL s ((zac x.f2).take k))) /\ Aside0 (zcp wi w1.heap.size (.slice (some ⟨g, 0, none⟩) r.f4.length cap) (List.replicate j false ++ (zaw w0 (st.drop j)).1)) /\ Aside0 (Below w1.heap.size w1 wi))
       case atStart => exact ⟨0, zqf _, by omega, rfl, ⟨by rw [zqQ, zf2]; exact HE4.out⟩, ⟨HOj.out⟩, ⟨HB4.out⟩⟩
       case round =>
        obtain ⟨k, hk, hgk2, rfl, HEk, HOk, HBk⟩ := hrel; by_cases hlk2 : k < x.f2.length
        . have hlkz : (k : Int) < (x.f2.length : Int) := by omega
          obtain ⟨b5, o5, rfl, q0⟩ := zbi (Kd.C_below HG2.out HBk.out) k hlk2; have hbound : fs.length + (r.f4.length - (j + 1)) * 1000 + k < maxLen := by
           have : (r.f4.length - (j + 1)) * 1000 <= 1000 * 1000 := zpM _ (by omega)
           unfold maxLen; omega
          obtain ⟨w6, hrun, hE6, hg6⟩ := HEk.out.put hbound x.f2[k] (HXn.out _ (zqD hlk2)); have hst2 : (zac x.f2).take (k + 1) = (zac x.f2).take k ++ [x.f2[k].data.toList] := by rw [zpW (by rw [zaM]; exact hlk2), zcd x.f2 k hlk2]
          rw [<- zeM, <- hst2] at hE6; have HE6 := zpq hE6; have HW6 : Hid (Below w1.heap.size w1 w6) := zpq (HBk.out.grown hg6 HBk.out.size (fun k hk => by cases hk; exact HZ2.out))
          have HO6 : Hid (zcp w6 w1.heap.size (.slice (some ⟨g, 0, none⟩) r.f4.length cap) (List.replicate j false ++ (zaw w0 (st.drop j)).1)) := zpq (Kd.R_mono (Kd.R_step (Kd.R_bound HOk.out) (fun k hk hlt => hg6.block k hlt (fun e => by
           cases e
           obtain ⟨_, _, _, q, _, cells, hc⟩ := hk; exact HEk.out.ne_cells hc rfl))) (fun _ _ => trivial))
          generalize x.f2[k] = n at q0 hrun; clear hst2 hE6 hg6 hbound; go_wp2_with fail; go_roundg (x.f2.length - (k + 1))
          case measure => omega
          case rel => exact ⟨k + 1, by omega, by omega, by first | rfl | go_num, ⟨HE6.out⟩, ⟨HO6.out⟩, ⟨HW6.out⟩⟩
        . have hlkz : ¬ (k : Int) < (x.f2.length : Int) := by omega
          obtain rfl : k = x.f2.length := by omega
          have HEj : Hid (SetIs wr m (fs.length + (r.f4.length - j) * 1000) (zaw w0 (st.drop j)).2) := by
           have h := HEk.out; rw [zqM (by rw [zaM]; exact zpu _)] at h
           show SetIs _ _ _ _
           rw [HDr2.out]; have e : (fun y => s y || (true && (zac x.f2).contains y)) = addL s (zac x.f2) := by funext y; simp [addL]
           dsimp only; rw [e]; refine h.mono ?_; have : (r.f4.length - j) * 1000 = (r.f4.length - (j + 1)) * 1000 + 1000 := by
            have e2 : r.f4.length - j = (r.f4.length - (j + 1)) + 1 := by omega
            rw [e2, Nat.add_mul]
           omega
          go_wp2_with fail; go_roundg j
          case measure => omega
          case rel => exact ⟨j, by omega, zpu _, by first | rfl | go_num, ⟨HEj.out⟩, ⟨HOk.out⟩, ⟨HBk.out⟩⟩

end Go.Proofs.YtdpgdnpddndeoaaGreatDoor.X

namespace Go.Proofs.YtdpgdnpddndeoaaGreatDoor.X
open Go.RowKit Go.Maps Go.Sort Go.Proofs.YtdpgdnpddndeoaaGreatDoorW.PrintWords Go.Proofs.YtdpgdnpddndeoaaGreatDoorW.PrintMore Go.Proofs.YtdpgdnpddndeoaaGreatDoorW.PrintLast
theorem zeZ : ∀ l : List zaa, (zaX l).length <= l.length
 | [] => zpu _
 | [_] => zpu _
 | y :: z :: r => by
  have := zeZ (z :: r); unfold zaX; split
  . simp only [List.length_cons] at this |-; omega
  . simp only [List.length_cons] at this |-; omega
theorem ziZ : ∀ (l : List zaa) (x : zaa), zaX (l ++ [x]) = zaX l ++ if l.getLast? = some x then [] else [x]
 | [], x => rfl
 | [y], x => by
  show zaX [y, x] = _
  unfold zaX; by_cases h : y = x
  . rw [if_pos h, if_pos (by rw [h]; rfl), h]
    rfl
  . rw [if_neg h, if_neg (by simpa using h)]
    rfl
 | y :: z :: r, x => by
  have ih := ziZ (z :: r) x; have hl : (y :: z :: r).getLast? = (z :: r).getLast? := List.getLast?_cons_cons ..; rw [hl]; show zaX (y :: z :: (r ++ [x])) = _
  unfold zaX; split
  . exact ih
  . rw [show z :: (r ++ [x]) = (z :: r) ++ [x] from rfl, ih]
    rfl
theorem zeW (l : List zaa) (j : Nat) (h : j < l.length) : l.toArray[j]! = l[j] := by
 rw [getElem!_pos l.toArray j (by simpa using h)]
 simp
theorem zhd (l : List zaa) (x : zaa) : ∀ m, m <= l.length -> Lib.compactUpTo (l ++ [x]).toArray m = Lib.compactUpTo l.toArray m
 | 0, _ => rfl
 | m + 1, h => by
  have e : ∀ j, j < l.length -> (l ++ [x]).toArray[j]! = l.toArray[j]! := by
   intro j hj; rw [zeW _ _ (by simp; omega), zeW _ _ hj, List.getElem_append_left hj]
  rw [Lib.compactUpTo_succ, Lib.compactUpTo_succ, zhd l x m (by omega), e m (by omega)]
  have hk : Lib.keeps (l ++ [x]).toArray m = Lib.keeps l.toArray m := by
   unfold Lib.keeps; rw [e m (by omega), e (m - 1) (by omega)]
  rw [hk]
theorem zmP (l : List zaa) : Lib.compact l = zaX l := by
 have key : ∀ (n : Nat) (l : List zaa), l.length = n -> Lib.compact l = zaX l := by
  intro n; induction n with
  | zero =>
   intro l h; have := zpw h; subst this; rfl
  | succ n ih =>
   intro l h; rcases List.eq_nil_or_concat l with h0 | ⟨k, x, hk⟩
   . rw [h0] at h; simp at h
   . rw [List.concat_eq_append] at hk
     subst hk; have hkl : k.length = n := by simpa using h
     rw [ziZ, <- ih k hkl]; unfold Lib.compact; rw [zpH, List.length_singleton, Lib.compactUpTo_succ, zhd k x k.length (zpu _)]; congr 1
     have hx : (k ++ [x]).toArray[k.length]! = x := by simp
     rw [hx]; cases hkn : k.length with
     | zero =>
      have := zpw hkn; subst this; rfl
     | succ m =>
      have hlast : (k ++ [x]).toArray[m + 1 - 1]! = k[m] := by
       rw [Nat.add_sub_cancel, zeW _ m (by simp; omega), List.getElem_append_left (by omega)]
      have hgl : k.getLast? = some k[m] := by
       have e : k.length - 1 = m := by omega
       rw [List.getLast?_eq_getElem?, e, zpx (by omega)]
      have hx2 : (k ++ [x]).toArray[m + 1]! = x := by rw [<- hkn]; exact hx
      unfold Lib.keeps; rw [hlast, hx2, hgl]; by_cases he : x = k[m]
      . rw [if_neg (by simp [<- he]), if_pos (by rw [<- he])]
      . rw [if_pos (by simp [he]), if_neg (by simpa using Ne.symm he)]
 exact key l.length l rfl
def zbN (l : List ByteArray) : List ByteArray := (zaX (zac l)).map mk
theorem zfD (l : List ByteArray) : (zae l).length = l.length := by unfold zae; rw [zp6, List.length_mergeSort, zp6]
theorem zfQ (base : Nat) (v : Value) (l : List ByteArray) (w : World) (hO : RS w base v l) (hbytes : l.length * 16 <= 140737488355328) :
 Calls Tryz.prog 93 #[v] w fun e w' => e = .returned (.tuple #[]) /\ RS w' base v (zae l) /\ w.grownBy w' v.ownBlock := by
 have hown := Kd.own_of_R hO; rcases hown.2 with ⟨rfl, hz⟩ | ⟨gb, cap, cur, rfl, hbase, hgb, r1, r2, r3, r4⟩
 . have hss : l = [] := zpw hz
   subst hss; have cS := Go.Proofs.AnyM.slices_Sort_string_none Go.Proofs.Tryz.laysSort none 0 w; change Calls Tryz.prog 93 _ _ _ at cS
   refine cS.mono fun e w' ⟨he, hw⟩ => ⟨he, ?_, ?_⟩
   . rw [hw, show zae [] = [] by simp [zae]]
     exact Kd.R_nil _ _ _ _ _
   . rw [hw]; exact World.grownBy.refl _ _
 . have r4' : cur.toList.take l.length = (l.map fun x => x.data.toList).map encStr := by
    rw [<- zgd]; have h := r4; rw [zqO] at h; exact h
   have hH : Holds encStr w gb 0 (l.map fun x => x.data.toList).toArray := Go.holds_of_block hgb (by simpa using r4')
   have hgl : gb < w.heap.size := (Array.getElem?_eq_some_iff.1 hgb).1; have hsz : (l.map fun x => x.data.toList).length < 4611686018427387904 := by rw [zp6]; omega
   have cS := Go.Proofs.AnyM.slices_Sort_string Go.Proofs.Tryz.laysSort gb 0 cap (l.map fun x => x.data.toList) w hH hgl hsz
   change Calls Tryz.prog 93 _ _ _ at cS
   rw [zp6] at cS; refine cS.mono fun e w' ⟨he, nn, os, hw⟩ => ⟨he, ?_, ?_⟩
   . rw [hw]
     refine Kd.R_of_own (h1 := fun _ => rfl) ?_ (fun _ _ => trivial)
     have hos := ownsRow_sorted (n := nn) (os := os) (ss := l.map fun x => x.data.toList) (ts := (l.map fun x => x.data.toList).mergeSort fun x y => decide (x <= y)) (by simp) hbase hgb (by rw [zp6]; exact r1) r2 r3
     rw [zp6] at hos; rw [zfD]; have hrs : encs Value.string (zae l) = ((l.map fun x => x.data.toList).mergeSort fun x y => decide (x <= y)).map encStr := by
      unfold zae encs; rw [zp9]; rfl
     rw [hrs]; exact hos
   . rw [hw]; exact grownBy_sorted _
theorem ziT (base : Nat) (v : Value) (l : List ByteArray) (w : World) (hO : RS w base v l) :
 Calls Tryz.prog 94 #[v] w fun e w' => ∃ v', e = .returned v' /\ RS w' base v' (zbN l) /\ w.grownBy w' v.ownBlock := by
 have hown := Kd.own_of_R hO; rcases hown.2 with ⟨rfl, hz⟩ | ⟨gb, cap, cur, rfl, hbase, hgb, r1, r2, r3, r4⟩
 . have hss : l = [] := zpw hz
   subst hss; have cS := Go.Proofs.Any.slices_Compact_string_empty Go.Proofs.Tryz.lays194 none 0 w; change Calls Tryz.prog 94 _ _ _ at cS
   refine cS.mono fun e w' ⟨he, hw⟩ => ⟨_, he, ?_, ?_⟩
   . exact Kd.R_nil _ _ _ _ _
   . rw [hw]; exact World.grownBy.refl _ _
 . have r4' : cur.toList.take l.length = (l.map fun x => x.data.toList).map encStr := by
    rw [<- zgd]; have h := r4; rw [zqO] at h; exact h
   have hH : Holds encStr w gb 0 (l.map fun x => x.data.toList).toArray := Go.holds_of_block hgb (by simpa using r4')
   have cS := Go.Proofs.Any.slices_Compact_string Go.Proofs.Tryz.lays194 gb 0 cap (l.map fun x => x.data.toList) w hH (by rw [zp6]; simp only [maxLen] at r2; omega) (by rw [zp6]; exact r1)
   change Calls Tryz.prog 94 _ _ _ at cS
   rw [zmP, zp6] at cS; have hle : (zaX (zac l)).length <= l.length := by
    have := zeZ (zac l); rw [zaM] at this; exact this
   change Calls Tryz.prog 94 _ _ (fun e w' => e = .returned (.slice (some ⟨gb, 0, none⟩) (zaX (zac l)).length cap) /\ ∃ q, w' = putRow encStr (Sort.ahead w q) gb 0 (zaX (zac l) ++ List.replicate (l.length - (zaX (zac l)).length) []).toArray) at cS
   refine cS.mono fun e w' ⟨he, q, hw⟩ => ⟨_, he, ?_, ?_⟩
   . have hg0 : w' = grow (putRow encStr (Sort.ahead w q) gb 0 (zaX (zac l) ++ List.replicate (l.length - (zaX (zac l)).length) []).toArray) #[] := by rw [hw]; simp
     rw [hg0]; have hcl : (zbN l).length = (zaX (zac l)).length := by unfold zbN; rw [zp6]
     have hen : encs Value.string (zbN l) = (zaX (zac l)).map encStr := by
      unfold zbN encs; rw [zp9]; rfl
     rw [<- hcl]; refine Kd.R_of_own (h1 := fun _ => rfl) ?_ (fun _ _ => trivial)
     rw [hen]; have hos := ownsRow_sorted (n := q) (os := #[]) (ss := zac l) (ts := zaX (zac l) ++ List.replicate (l.length - (zaX (zac l)).length) []) (by rw [zpH, zqP, zaM]; omega) hbase hgb (by rw [zaM]; exact r1) r2 r3
     rw [hcl]; have h2 := hos.2; refine ⟨by rw [zp6]; omega, ?_⟩
     rcases h2 with ⟨h3, _⟩ | ⟨g2, cap2, cur2, he2, hb2, hh2, s1, s2, s3, s4⟩
     . cases h3
     . injection he2 with e1 e2 e3
       injection e1 with e1; injection e1 with e1; subst e1; subst e3; refine .inr ⟨gb, cap, cur2, rfl, hb2, hh2, by omega, s2, s3, ?_⟩
       rw [zqO] at s4 |-; have h5 := congrArg (List.take (zaX (zac l)).length) s4; rw [List.take_take, zaM, Nat.min_eq_left hle, zqj, List.take_append_of_le_length (by rw [zp6]; exact zpu _)] at h5
       exact h5.trans (zqM (by rw [zp6]; exact zpu _))
   . rw [hw]
     have hg0 : putRow encStr (Sort.ahead w q) gb 0 (zaX (zac l) ++ List.replicate (l.length - (zaX (zac l)).length) []).toArray = grow (putRow encStr (Sort.ahead w q) gb 0 (zaX (zac l) ++ List.replicate (l.length - (zaX (zac l)).length) []).toArray) #[] := by simp
     rw [hg0]; exact grownBy_sorted _

end Go.Proofs.YtdpgdnpddndeoaaGreatDoor.X

namespace Go.Proofs.YtdpgdnpddndeoaaGreatDoor.X
open Go.RowKit Go.Maps Go.Proofs.YtdpgdnpddndeoaaGreatDoorW.PrintWords Go.Proofs.YtdpgdnpddndeoaaGreatDoorW.PrintMore Go.Proofs.YtdpgdnpddndeoaaGreatDoorW.PrintLast
theorem ze0 (s : ByteArray) (w : World) (hG : GOK w) :
 Calls Tryz.prog 95 #[.string s] w fun e w' => e = .returned (.bool (!may s.data.toList)) /\ Below w.heap.size w w' := by
 have hM := path_May.calls s (may s.data.toList) w hG rfl; generalize may s.data.toList = q at hM |-; have HM := zpq hM; clear hM hG; go_enter Tryz.func95, Tryz.ntmps95
 go_wp2_with (first | (go_at_call 102; refine HM.out.mono ?_; rintro e w2 ⟨rfl, hb2⟩))
 go_ret
 exact ⟨rfl, hb2⟩
theorem zni : ∀ args w, (callFunc 95 args).run Tryz.prog w = .ok (.enter 95 args) w := Go.Proofs.enters_of Tryz.func95 (by kernel_rfl) rfl
theorem znw (w : World) (hG : GOK w) : zdS 95 #[] (fun x => !may x.data.toList) w := fun W x hb => ze0 x W (hG.below hb)
theorem zed (A : Option Addr) (c : Nat) (l : List ByteArray) (w : World) (hG : GOK w) (hr : Kd.C Kd.string w A l.length l) :
 Calls Tryz.prog 56 #[.slice A l.length c, .func (.func 95) #[] #[]] w fun e w' => e = .returned (.bool (!(zac l).all may)) /\ Below w.heap.size w w' := by
 have h := zd6 95 #[] zni (fun x => !may x.data.toList) A c l w hr (znw w hG)
 have e : l.any (fun x => !may x.data.toList) = !(zac l).all may := by
  unfold zac; rw [List.all_map, List.not_all_eq_any_not]; rfl
 rw [e] at h; exact h
theorem zc8 (A : Option Addr) (c : Nat) (l : List ByteArray) (s : ByteArray) (w : World) (hr : Kd.C Kd.string w A l.length l) :
 Calls Tryz.prog 92 #[.slice A l.length c, .string s] w fun e w' => e = .returned (.bool ((zac l).contains s.data.toList)) /\ w = w' := by
 have hlen : l.length <= 9223372036854775807 := hr.2.1; have hc : Lib.containsS l s = (zac l).contains s.data.toList := by
  rw [Bool.eq_iff_iff, Lib.containsS_iff]; unfold zac; rw [List.contains_iff_mem, zqN]; constructor
  . intro h; exact ⟨s, h, rfl⟩
  . rintro ⟨x, hx, he⟩; rw [<- zbX he]; exact hx
 rcases zaL hr with h0 | ⟨b, o, rfl, hb, hcell⟩
 . subst h0
   have hcall := Go.Proofs.Any.slices_Contains_string_empty Go.Proofs.Tryz.lays110 A c s w; change Calls Tryz.prog 92 _ _ _ at hcall
   exact hcall.mono fun e w' ⟨he, hw⟩ => ⟨he, hw.symm⟩
 . have hcall := Go.Proofs.Any.slices_Contains_string Go.Proofs.Tryz.lays110 b o l.length c l s w (zpu _) hlen hcell
   change Calls Tryz.prog 92 _ _ _ at hcall
   rw [zqa, hc] at hcall; exact hcall.mono fun e w' ⟨he, hw⟩ => ⟨he, hw.symm⟩

def zfe (x : zar) (B2 : Option Addr) (c2 : Nat) (B3 : Option Addr) (c3 : Nat) : Value := .agg #[.string x.f0, .int .i64 x.f1, .slice B2 x.f2.length c2, .slice B3 x.f3.length c3, .int .i64 x.f4]
def zbI (s : zch) : Bool := !(may s.out && s.args.all may && mayC s.cmd)
theorem zju (x : zar) (B2 : Option Addr) (c2 : Nat) (B3 : Option Addr) (c3 : Nat) (w : World) (hG : GOK w) (h2 : Kd.C Kd.string w B2 x.f2.length x.f2) (h3 : Kd.C Kd.string w B3 x.f3.length x.f3) :
 Calls Tryz.prog 97 #[zfe x B2 c2 B3 c3] w fun e w' => e = .returned (.bool (zbI (zaO x))) /\ Below w.heap.size w w' := by
 have hab := (zpt w.heap.size w).alloc (zpu _) (.cells #[.string x.f0, .int .i64 x.f1, .slice B2 x.f2.length c2, .slice B3 x.f3.length c3, .int .i64 x.f4] 24); have HK := zpq (zal w (.cells #[.string x.f0, .int .i64 x.f1, .slice B2 x.f2.length c2, .slice B3 x.f3.length c3, .int .i64 x.f4] 24)); have HB1 := zpq hab; have H2 := zpq (Kd.C_below h2 hab); have H3 := zpq (Kd.C_below h3 hab); have HG := zpq (hG.below hab); have hT : zbI (zaO x) = !(may x.f0.data.toList && (zac x.f2).all may && mayC (zag x)) := rfl; rw [hT]; have HM := zpq (fun W (h2 : Kd.C Kd.string W B2 x.f2.length x.f2) (h3 : Kd.C Kd.string W B3 x.f3.length x.f3) => zeH x B2 c2 B3 c3 W h2 h3)
 have HN := zpq (fun W (hG : GOK W) => ze0 x.f0 W hG)
 have HA := zpq (fun W (hG : GOK W) (h : Kd.C Kd.string W B2 x.f2.length x.f2) => zed B2 c2 x.f2 W hG h)
 generalize may x.f0.data.toList = q1 at HN |-; generalize (zac x.f2).all may = q2 at HA |-; generalize mayC (zag x) = q3 at HM |-; clear hab h2 h3 hG hT; unfold zfe; go_enter Tryz.func97, Tryz.ntmps97
 go_upto_region 1 with fail; generalize w.alloc (.cells #[.string x.f0, .int .i64 x.f1, .slice B2 x.f2.length c2, .slice B3 x.f3.length c3, .int .i64 x.f4] 24) = w1 at HB1 HK H2 H3 HG |-; have k0 : w1.cell? ⟨w.heap.size, 0, none⟩ = some (.string x.f0) := (zab HK.out 0).trans rfl; cases q1
 . go_wp2_with (first | (go_at_call 95; refine (HN.out _ HG.out).mono ?_; rintro e w2 ⟨rfl, hb2⟩))
   go_ret
   exact ⟨rfl, zad HB1.out HB1.out.size hb2⟩
 . cases q2
   . go_wp2_with (first
      | (go_at_call 95; refine (HN.out _ HG.out).mono ?_; rintro e w2 ⟨rfl, hb2⟩; have HB2 := zpq (zad HB1.out HB1.out.size hb2); have HK2 := zpq (zah HK.out hb2); have k2 : w2.cell? ⟨w.heap.size, 2, none⟩ = some (.slice B2 x.f2.length c2) := (zab HK2.out 2).trans rfl; have H2' := zpq (Kd.C_below H2.out hb2); have HG2 := zpq (HG.out.below hb2); clear hb2)
      | (go_at_call 56; refine (HA.out _ HG2.out H2'.out).mono ?_; rintro e w3 ⟨rfl, hb3⟩; have HB3 := zpq (zad HB2.out HB2.out.size hb3); clear hb3))
     go_ret
     exact ⟨rfl, HB3.out⟩
   . go_wp2_with (first
      | (go_at_call 95; refine (HN.out _ HG.out).mono ?_; rintro e w2 ⟨rfl, hb2⟩; have HB2 := zpq (zad HB1.out HB1.out.size hb2); have HK2 := zpq (zah HK.out hb2); have k2 : w2.cell? ⟨w.heap.size, 2, none⟩ = some (.slice B2 x.f2.length c2) := (zab HK2.out 2).trans rfl; have H2' := zpq (Kd.C_below H2.out hb2); have H3' := zpq (Kd.C_below H3.out hb2); have HG2 := zpq (HG.out.below hb2); clear hb2)
      | (go_at_call 56; refine (HA.out _ HG2.out H2'.out).mono ?_; rintro e w3 ⟨rfl, hb3⟩; have HB3 := zpq (zad HB2.out HB2.out.size hb3); have HK3 := zpq (zah HK2.out hb3); have j0 : w3.cell? ⟨w.heap.size, 0, none⟩ = some (.string x.f0) := (zab HK3.out 0).trans rfl; have j1 : w3.cell? ⟨w.heap.size, 1, none⟩ = some (.int .i64 x.f1) := (zab HK3.out 1).trans rfl; have j2 : w3.cell? ⟨w.heap.size, 2, none⟩ = some (.slice B2 x.f2.length c2) := (zab HK3.out 2).trans rfl; have j3 : w3.cell? ⟨w.heap.size, 3, none⟩ = some (.slice B3 x.f3.length c3) := (zab HK3.out 3).trans rfl; have j4 : w3.cell? ⟨w.heap.size, 4, none⟩ = some (.int .i64 x.f4) := (zab HK3.out 4).trans rfl; have H2'' := zpq (Kd.C_below H2'.out hb3); have H3'' := zpq (Kd.C_below H3'.out hb3); clear hb3)
      | (go_at_call 20; refine (HM.out _ H2''.out H3''.out).mono ?_; rintro e w4 ⟨rfl, hb4⟩; have HB4 := zpq (zad HB3.out HB3.out.size hb4); clear hb4))
     go_ret
     exact ⟨by cases q3 <;> rfl, HB4.out⟩
theorem zjr : ∀ args w, (callFunc 97 args).run Tryz.prog w = .ok (.enter 97 args) w := Go.Proofs.enters_of Tryz.func97 (by kernel_rfl) rfl

abbrev RInt (w : World) (base : Nat) (v : Value) (l : List Int) : Prop := Kd.R (Kd.int .i64) 3 w base (fun _ => True) v l
def zgn (l : List Int) (w : World) (e : Ending) (w' : World) : Prop := ∃ v, e = .returned v /\ RInt w' w.heap.size v l /\ Below w.heap.size w w'
def zf4 (l : List ByteArray) (w : World) (e : Ending) (w' : World) : Prop := ∃ v, e = .returned v /\ RS w' w.heap.size v l /\ Below w.heap.size w w'
def zbn (m : List Bool) (is : Bool) : List Int := (m.zipIdx.filter fun p => p.1 == is).map fun p => (p.2 : Int)
theorem zjQ (m : List Bool) (is : Bool) (k : Nat) (h : k < m.length) : zbn (m.take (k + 1)) is = zbn (m.take k) is ++ if m[k] == is then [(k : Int)] else [] := by
 unfold zbn; rw [zpW h, List.zipIdx_append, List.filter_append, zqj]; congr 1
 have hl : (m.take k).length = k := by rw [zpF]; omega
 cases hb : (m[k] == is) <;> simp [hl, hb]
theorem zkj (m : List Bool) (is : Bool) : (zbn m is).length <= m.length := by
 unfold zbn; rw [zp6]; refine zpA (zqi _ _) ?_; rw [List.length_zipIdx]; exact zpu _
theorem ziQ {w : World} {A : Option Addr} {l : List Bool} (h : Kd.C Kd.bool w A l.length l) (k : Nat) (hk : k < l.length) : ∃ b o, A = some ⟨b, o, none⟩ /\ w.cell? ⟨b, o + k, none⟩ = some (.bool l[k]) := by
 obtain ⟨ad, rfl, hc⟩ := h.2.2 (by omega)
 obtain ⟨cs, _, h1, h2⟩ := hc k l[k] (zpx hk); have h1' : cs = [.bool l[k]] := h1; subst h1'; have h3 := h2 0 _ rfl; obtain ⟨cs0, _, h4, h5⟩ := hc 0 l[0] (zpx (by omega))
 have h4' : cs0 = [.bool l[0]] := h4; rw [h4'] at h5; have h6 := h5 0 _ rfl; have e1 : Kd.bool.sz = 1 := rfl; rw [e1] at h3 h6; obtain ⟨b, o, rfl⟩ := zdX (n := 1) (ad := ad) (by simpa using h6)
 refine ⟨b, o, rfl, ?_⟩; have e : ((⟨b, o, none⟩ : Addr).add (k * 1 + 0)) = ⟨b, o + k, none⟩ := by
  rw [zqO, Nat.add_zero]; unfold Addr.add; split
  . rename_i h0; simp [h0]
  . rfl
 rw [e] at h3; exact h3
theorem ziN (A : Option Addr) (c : Nat) (m : List Bool) (is : Bool) (w : World) (hr : Kd.C Kd.bool w A m.length m) (hl : m.length <= 1000) :
 Calls Tryz.prog 65 #[.slice A m.length c, .bool is] w (zgn (zbn m is) w) := by
 have HR := zpq hr; obtain ⟨T, hT⟩ : ∃ T, T = zbn m is := ⟨_, rfl⟩; rw [<- hT]; have HT := zpq hT; clear hr hT; go_enter Tryz.func65, Tryz.ntmps65
 go_wp2_with fail; go_loopg [5, 6, 7, 10] m.length (fun gg s5 _ _ s10 wr => ∃ kk : Nat, kk <= m.length /\ m.length - kk <= gg /\ s10 = .int .i64 kk /\ Aside0 (RInt wr w.heap.size s5 (zbn (m.take kk) is)) /\ Aside0 (Below w.heap.size w wr))
 case atStart => exact ⟨0, zqf _, by omega, rfl, ⟨Kd.R_nil _ _ _ _ _⟩, ⟨zpt _ _⟩⟩
 case round =>
  obtain ⟨kk, hkk, hgk, rfl, HO, HW⟩ := hrel; by_cases hlt : kk < m.length
  . have hltz : (kk : Int) < (m.length : Int) := by omega
    obtain ⟨b, o, rfl, p0⟩ := ziQ (Kd.C_below HR.out HW.out) kk hlt; have HSt := zpq (zjQ m is kk hlt); have hpl := zkj (m.take kk) is; have hpl2 : (zbn (m.take kk) is).length <= 1000 := by
     have : (m.take kk).length = kk := by rw [zpF]; omega
     omega
    have HPl := zpq hpl2; have HWs := zpq HW.out.size; clear hpl hpl2; generalize m[kk] = y at p0 HSt; cases hy : (y == is) with
    | true =>
     have HN : Hid (zbn (m.take (kk + 1)) is = zbn (m.take kk) is ++ [(kk : Int)]) := by show _ = _; rw [HSt.out, hy]; rfl
     have hdy : (is == y) = true := by rw [<- hy]; cases is <;> cases y <;> rfl
     go_wp2_with (first | ((with_reducible refine zaG (b := .append) (xs := #[.tmp 18, .tmp 20]) rfl ?_); at_builtin; refine Kd.R_append (Kd.int .i64) (w0 := w) w.heap.size rfl (.tmp 18) (.tmp 20) 54 3 (.int .i64 0) 8 rfl Tryz.underlying54 info3 rfl (by decide) (by decide) u5 (zbn (m.take kk) is) (kk : Int) [.int .i64 (kk : Int)] (fun _ => True) (fun k_ => True /\ some k_ ≠ u5.ownBlock) rfl rfl rfl (fun _ hk => hk) (fun _ _ => trivial) HO.out HW.out HWs.out ?aL ?_; (case aL => (have h1 := HPl.out; omega)); intro v1 w4 ho hb hg hat; have HO4 : Hid (RInt w4 w.heap.size v1 (zbn (m.take (kk + 1)) is)) := (by show RInt _ _ _ _; rw [HN.out]; exact ho); have HB4 := zpq hb; clear ho hb hg hat))
     go_roundg (m.length - (kk + 1))
     case measure => omega
     case rel => exact ⟨kk + 1, by omega, by omega, by first | rfl | go_num, ⟨HO4.out⟩, ⟨HB4.out⟩⟩
    | false =>
     have HN : Hid (RInt wr w.heap.size u5 (zbn (m.take (kk + 1)) is)) := by show RInt _ _ _ _; rw [HSt.out, hy, if_neg (by simp), List.append_nil]; exact HO.out
     go_wp2_with fail; go_roundg (m.length - (kk + 1))
     case measure => omega
     case rel => exact ⟨kk + 1, by omega, by omega, by first | rfl | go_num, ⟨HN.out⟩, ⟨HW.out⟩⟩
  . have hltz : ¬ (kk : Int) < (m.length : Int) := by omega
    obtain rfl : kk = m.length := by omega
    have hO := HO.out; rw [zqa] at hO; have HOf := zpq hO; clear hO; go_wp2_with fail; go_ret
    exact ⟨_, rfl, by rw [HT.out]; exact HOf.out, HW.out⟩

def zbT (ins : List ByteArray) (b : Bool) (l : List ByteArray) : List ByteArray := l.filter fun a => b && (zac ins).contains a.data.toList
def outK (r : zaj) (m : List Bool) (k : Nat) : List ByteArray := ((r.f4.zip m).take k).flatMap fun p => zbT r.f1 p.2 p.1.f2
theorem ziB (r : zaj) (m : List Bool) (k : Nat) (h1 : k < r.f4.length) (h2 : k < m.length) : outK r m (k + 1) = outK r m k ++ zbT r.f1 m[k] r.f4[k].f2 := by
 unfold outK; have hz : k < (r.f4.zip m).length := by rw [List.length_zip]; omega
 rw [zpW hz, List.flatMap_append]; simp [List.getElem_zip]
theorem ziM (r : zaj) (m : List Bool) (c : Nat) (hF : ∀ s ∈ r.f4, s.f2.length <= c) : ∀ k, (outK r m k).length <= k * c
 | 0 => by simp [outK]
 | k + 1 => by
  have ih := ziM r m c hF k; have e2 : (k + 1) * c = k * c + c := Nat.succ_mul k c; by_cases h : k < r.f4.length /\ k < m.length
  . rw [ziB r m k h.1 h.2, zpH]
    have h1 : (zbT r.f1 m[k] r.f4[k].f2).length <= c := zpA (zqi _ _) (hF _ (zqD h.1)); omega
  . have hl : (r.f4.zip m).length <= k := by rw [List.length_zip]; omega
    have e : outK r m (k + 1) = outK r m k := by
     unfold outK; rw [zqM (Nat.le_succ_of_le hl), zqM hl]
    rw [e]; omega
theorem zmq (ins : List ByteArray) (b : Bool) (l : List ByteArray) (k : Nat) (h : k < l.length) : zbT ins b (l.take (k + 1)) = zbT ins b (l.take k) ++ if b && (zac ins).contains l[k].data.toList then [l[k]] else [] := by
 unfold zbT; rw [zpW h, List.filter_append]; congr 1
 cases h2 : (b && (zac ins).contains l[k].data.toList) with
 | true => simp only [List.filter, h2, if_true]
 | false => simp only [List.filter, h2]; rfl
theorem zkt (r : zaj) (m : List Bool) (hm : m.length = r.f4.length) : zbN (zae (outK r m r.f4.length)) = (zcm (zav r) m).map mk := by
 unfold zbN zcm; rw [zer]; congr 3
 unfold outK; rw [zqM (by rw [List.length_zip]; omega)]
 have e : (zav r).steps.zip m = (r.f4.zip m).map fun p => (zaO p.1, p.2) := by
  show (r.f4.map zaO).zip m = _
  rw [List.zip_map_left]; rfl
 rw [e, List.flatMap_map]; unfold zac; rw [List.map_flatMap]; congr 1
 funext p
 unfold zbT zaO zac; dsimp only; rw [List.filter_map]; rfl
theorem zhY (r : zaj) (B1 : Option Addr) (c1 : Nat) (B2 : Option Addr) (c2 : Nat) (B3 : Option Addr) (c3 : Nat) (B4 : Option Addr) (c4 : Nat) (A : Option Addr) (c : Nat) (m : List Bool) (w : World)
 (h1 : Kd.C Kd.string w B1 r.f1.length r.f1) (h4 : Kd.C k24 w B4 r.f4.length r.f4) (hr : Kd.C Kd.bool w A m.length m) (hml : m.length = r.f4.length) (hF : FitR r) :
 Calls Tryz.prog 67 #[.agg (zaq r B1 c1 B2 c2 B3 c3 B4 c4), .slice A m.length c] w (zf4 ((zcm (zav r) m).map mk) w) := by
 have hn4 := hF.steps; have hW := (zpt w.heap.size w).alloc (zpu _) (.cells (zaq r B1 c1 B2 c2 B3 c3 B4 c4) 45); have HK := zpq (zal w (.cells (zaq r B1 c1 B2 c2 B3 c3 B4 c4) 45)); have HB := zpq hW; have H1 := zpq (Kd.C_below h1 hW); have H4 := zpq (Kd.C_below h4 hW); have HR := zpq (Kd.C_below hr hW); have HF := zpq hF; have HML := zpq hml; have HOl := zpq (ziM r m 1000 (fun s hs => (hF.stepN s hs).2.1))
 rw [<- zkt r m hml]; obtain ⟨T, hT⟩ : ∃ T, T = zbN (zae (outK r m r.f4.length)) := ⟨_, rfl⟩; rw [<- hT]; have HT := zpq hT; clear hW h1 h4 hr hF hml hT; unfold zaq at *; go_enter Tryz.func67, Tryz.ntmps67
 go_upto_region 1 with fail; generalize w.alloc (.cells #[.string r.f0, .slice B1 r.f1.length c1, .slice B2 r.f2.length c2, .slice B3 r.f3.length c3, .slice B4 r.f4.length c4] 45) = w1 at HB HK H1 H4 HR |-; have k4 : w1.cell? ⟨w.heap.size, 4, none⟩ = some (.slice B4 r.f4.length c4) := (zab HK.out 4).trans rfl; have k1 : w1.cell? ⟨w.heap.size, 1, none⟩ = some (.slice B1 r.f1.length c1) := (zab HK.out 1).trans rfl; go_wp2_with fail; go_loopg [5, 6, 7, 9, 13] r.f4.length (fun gg s5 _ _ _ s13 wr => ∃ kk : Nat, kk <= r.f4.length /\ r.f4.length - kk <= gg /\ s13 = .int .i64 kk /\ Aside0 (RS wr w1.heap.size s5 (outK r m kk)) /\ Aside0 (Below w1.heap.size w1 wr))
 case atStart => exact ⟨0, zqf _, by omega, rfl, ⟨Kd.R_nil _ _ _ _ _⟩, ⟨zpt _ _⟩⟩
 case round =>
  obtain ⟨kk, hkk, hgk, rfl, HO, HW⟩ := hrel; obtain ⟨wq, rfl⟩ : ∃ wq, wq = wr := ⟨wr, rfl⟩; by_cases hlt : kk < r.f4.length
  . have hltz : (kk : Int) < (r.f4.length : Int) := by omega
    have hlm : kk < m.length := by have := HML.out; omega
    have hlmz : (kk : Int) < (m.length : Int) := by omega
    obtain ⟨b, o, C2, d2, C3, d3, rfl, p0, p1, p2, p3, p4, g2, g3⟩ := zdd H4.out kk hlt; replace p0 := zaf HW.out p0
    replace p1 := zaf HW.out p1
    replace p2 := zaf HW.out p2
    replace p3 := zaf HW.out p3
    replace p4 := zaf HW.out p4
    obtain ⟨bm, om, rfl, q0⟩ := ziQ HR.out kk hlm; have HSt := zpq (ziB r m kk hlt hlm); obtain ⟨hxo, hxl, hxn⟩ := HF.out.stepN _ (zqD hlt); have hOl := HOl.out kk; have hOl2 : (outK r m kk).length <= 1000000 := by
     have : kk * 1000 <= 1000 * 1000 := zpM _ (by omega)
     omega
    have HOk := zpq hOl2; generalize hx : r.f4[kk] = x at p0 p1 p2 p3 p4 g2 g3 HSt hxl; generalize m[kk] = bk at q0 HSt; clear hx hxo hxn hOl hOl2; have HB3 : Hid (Below w1.heap.size w1 (wq.alloc (.cells #[.string x.f0, .int .i64 x.f1, .slice C2 x.f2.length d2, .slice C3 x.f3.length d3, .int .i64 x.f4] 24))) := zpq (HW.out.alloc HW.out.size _); have HX3 := zpq (zal wq (.cells #[.string x.f0, .int .i64 x.f1, .slice C2 x.f2.length d2, .slice C3 x.f3.length d3, .int .i64 x.f4] 24)); have HG2 := zpq g2; have HQ0 := zpq q0; have HO3 := zpq (Kd.R_below HO.out ((zpt wq.heap.size wq).alloc (zpu _) (.cells #[.string x.f0, .int .i64 x.f1, .slice C2 x.f2.length d2, .slice C3 x.f3.length d3, .int .i64 x.f4] 24))); clear g2 g3 q0; go_upto_region 5 with fail; generalize wq.alloc (.cells #[.string x.f0, .int .i64 x.f1, .slice C2 x.f2.length d2, .slice C3 x.f3.length d3, .int .i64 x.f4] 24) = w3 at HX3 HB3 HO3 |-; have x2 : w3.cell? ⟨wq.heap.size, 2, none⟩ = some (.slice C2 x.f2.length d2) := (zab HX3.out 2).trans rfl; go_wp2_with fail; go_loopg [5, 9, 21] x.f2.length (fun gg s5 _ s21 wi => ∃ k : Nat, k <= x.f2.length /\ x.f2.length - k <= gg /\ s21 = .int .i64 k /\ Aside0 (RS wi w1.heap.size s5 (outK r m kk ++ zbT r.f1 bk (x.f2.take k))) /\ Aside0 (Below w1.heap.size w1 wi))
    case atStart => exact ⟨0, zqf _, by omega, rfl, ⟨by rw [zqQ]; exact (by simpa [zbT] using HO3.out)⟩, ⟨HB3.out⟩⟩
    case round =>
     obtain ⟨k, hk, hgk2, rfl, HOi, HWi⟩ := hrel; by_cases hl2 : k < x.f2.length
     . have hl2z : (k : Int) < (x.f2.length : Int) := by omega
       obtain ⟨b5, o5, rfl, n0⟩ := zbi (Kd.C_below HG2.out HWi.out) k hl2; have m0 := zaf HWi.out HQ0.out; have j1 := zaf HWi.out k1; have HRs := zpq (zmq r.f1 bk x.f2 k hl2); have HRl : Hid ((zbT r.f1 bk (x.f2.take k)).length <= 1000) := zpq (zpA (zqi _ _) (by rw [zpF]; omega))
       have HWs := zpq HWi.out.size; have HCt := zpq (zc8 B1 c1 r.f1 x.f2[k] wr (Kd.C_below H1.out HWi.out)); generalize x.f2[k] = n at n0 HRs HCt; cases bk with
       | false =>
        have HN : Hid (RS wr w1.heap.size u5 (outK r m kk ++ zbT r.f1 false (x.f2.take (k + 1)))) := by show RS _ _ _ _; rw [HRs.out]; simpa using HOi.out
        go_wp2_with fail; go_roundg (x.f2.length - (k + 1))
        case measure => omega
        case rel => exact ⟨k + 1, by omega, by omega, by first | rfl | go_num, ⟨HN.out⟩, ⟨HWi.out⟩⟩
       | true =>
        have hRs := HRs.out; rw [Bool.true_and] at hRs; generalize (zac r.f1).contains n.data.toList = q at HCt hRs; have HRs2 := zpq hRs; clear hRs HRs; cases q with
        | false =>
         have HN : Hid (RS wr w1.heap.size u5 (outK r m kk ++ zbT r.f1 true (x.f2.take (k + 1)))) := by show RS _ _ _ _; rw [HRs2.out]; simpa using HOi.out
         go_wp2_with (first | (go_at_call 92; refine HCt.out.mono ?_; rintro e w2 ⟨rfl, rfl⟩))
         go_roundg (x.f2.length - (k + 1))
         case measure => omega
         case rel => exact ⟨k + 1, by omega, by omega, by first | rfl | go_num, ⟨HN.out⟩, ⟨HWi.out⟩⟩
        | true =>
         go_wp2_with (first | (go_at_call 92; refine HCt.out.mono ?_; rintro e w2 ⟨rfl, rfl⟩) | ((with_reducible refine zaG (b := .append) (xs := #[.tmp 35, .tmp 37]) rfl ?_); at_builtin; refine Kd.R_append Kd.string (w0 := w1) w1.heap.size rfl (.tmp 35) (.tmp 37) 22 9 (.string ⟨#[]⟩) 16 rfl Tryz.underlying22 zbg rfl (by decide) (by decide) u5 (outK r m kk ++ zbT r.f1 true (x.f2.take k)) n [.string n] (fun _ => True) (fun k_ => True /\ some k_ ≠ u5.ownBlock) rfl rfl rfl (fun _ hk => hk) (fun _ _ => trivial) HOi.out HWi.out HWs.out ?aL ?_; (case aL => (have h1 := HRl.out; have h2 := HOk.out; rw [zpH]; omega)); intro v1 w4 ho hb hg hat; have HO4 : Hid (RS w4 w1.heap.size v1 (outK r m kk ++ zbT r.f1 true (x.f2.take (k + 1)))) := (by show RS _ _ _ _; rw [HRs2.out]; (rw [if_pos trivial, <- List.append_assoc]); exact ho); have HB4 := zpq hb; clear ho hb hg hat))
         go_roundg (x.f2.length - (k + 1))
         case measure => omega
         case rel => exact ⟨k + 1, by omega, by omega, by first | rfl | go_num, ⟨HO4.out⟩, ⟨HB4.out⟩⟩
     . have hl2z : ¬ (k : Int) < (x.f2.length : Int) := by omega
       obtain rfl : k = x.f2.length := by omega
       have HN : Hid (RS wr w1.heap.size u5 (outK r m (kk + 1))) := by
        have h := HOi.out; rw [zqa] at h; show RS _ _ _ _
        rw [HSt.out]; exact h
       go_wp2_with fail; go_roundg (r.f4.length - (kk + 1))
       case measure => omega
       case rel => exact ⟨kk + 1, by omega, by omega, by first | rfl | go_num, ⟨HN.out⟩, ⟨HWi.out⟩⟩
  . have hltz : ¬ (kk : Int) < (r.f4.length : Int) := by omega
    obtain rfl : kk = r.f4.length := by omega
    have hol := HOl.out r.f4.length; have hol2 : (outK r m r.f4.length).length * 16 <= 140737488355328 := by
     have : r.f4.length * 1000 <= 1000 * 1000 := zpM _ (by omega)
     omega
    have hSort := zfQ w1.heap.size u5 (outK r m r.f4.length) wq HO.out hol2; have HSort := zpq hSort; have HBs := zpq (Kd.R_base HO.out); clear hol hol2 hSort; go_wp2_with (first
     | (go_at_call 93; refine HSort.out.mono ?_; rintro e w5 ⟨rfl, hR5, hg5⟩; have HR5 := zpq hR5; have HW5 := zpq (HW.out.grown hg5 HW.out.size (fun k hk => HBs.out k hk)); clear hR5 hg5)
     | (go_at_call 94; refine (ziT w1.heap.size u5 _ _ HR5.out).mono ?_; rintro e w6 ⟨v6, rfl, hR6, hg6⟩; have HR6 := zpq hR6; have HW6 := zpq (HW5.out.grown hg6 HW5.out.size (fun k hk => HBs.out k hk)); clear hR6 hg6))
    go_ret
    exact ⟨_, rfl, by rw [HT.out]; exact Kd.R_lower HR6.out HB.out.size, HB.out.trans (HW6.out.mono HB.out.size)⟩

theorem zei (w : zaa -> Bool) (r : zaj) : (zaw w (zav r).steps).1.length = r.f4.length := by rw [zf7]; exact zp6 ..
def zbs (fs : List ByteArray) : zaa -> Bool := fun x => (zac fs).contains x
structure RuleAt (r : zaj) (B1 : Option Addr) (B2 : Option Addr) (B3 : Option Addr) (B4 : Option Addr) (w : World) : Prop where
 h1 : Kd.C Kd.string w B1 r.f1.length r.f1
 h2 : Kd.C Kd.string w B2 r.f2.length r.f2
 h3 : Kd.C Kd.string w B3 r.f3.length r.f3
 h4 : Kd.C k24 w B4 r.f4.length r.f4
theorem RuleAt.below {r : zaj} {B1 B2 B3 B4 : Option Addr} {w w' : World} (h : RuleAt r B1 B2 B3 B4 w) (hb : Below w.heap.size w w') : RuleAt r B1 B2 B3 B4 w' := ⟨Kd.C_below h.h1 hb, Kd.C_below h.h2 hb, Kd.C_below h.h3 hb, Kd.C_below h.h4 hb⟩
theorem zob (r : zaj) (B1 : Option Addr) (c1 : Nat) (B2 : Option Addr) (c2 : Nat) (B3 : Option Addr) (c3 : Nat) (B4 : Option Addr) (c4 : Nat) (o : ByteArray) (w : World) (hA : RuleAt r B1 B2 B3 B4 w) (hF : FitR r) (ho : o.size <= maxLen) :
 Calls Tryz.prog 39 #[.agg (zaq r B1 c1 B2 c2 B3 c3 B4 c4), .string o] w (zgn (zbn (zaw (zbs [o]) (zav r).steps).1 true) w) := by
 have hW := (zpt w.heap.size w).alloc (zpu _) (.cells (zaq r B1 c1 B2 c2 B3 c3 B4 c4) 45); have HK := zpq (zal w (.cells (zaq r B1 c1 B2 c2 B3 c3 B4 c4) 45)); have HB := zpq hW; have HA := zpq (hA.below hW); have HL := zpq (zei (zbs [o]) r); have HF := zpq hF; have HN := zpq (fun (X : Option Addr) (c : Nat) (W : World) (h : RuleAt r B1 B2 B3 B4 W) (hr : Kd.C Kd.string W X 1 [o]) => zes r B1 c1 B2 c2 B3 c3 B4 c4 X c [o] W h.h4 hr hF (by simp) (fun x hx => by rw [List.mem_singleton.1 hx]; exact ho))
 have hn4 := hF.steps; have e : (fun x => (zac [o]).contains x) = zbs [o] := rfl
 rw [e] at HN; generalize (zaw (zbs [o]) (zav r).steps).1 = m at HL HN |-; obtain ⟨T, hT⟩ : ∃ T, T = zbn m true := ⟨_, rfl⟩; rw [<- hT]; have HT := zpq hT; clear hW hA hF ho e hT; unfold zaq at *; go_enter Tryz.func39, Tryz.ntmps39
 go_upto_region 1 with fail; generalize w.alloc (.cells #[.string r.f0, .slice B1 r.f1.length c1, .slice B2 r.f2.length c2, .slice B3 r.f3.length c3, .slice B4 r.f4.length c4] 45) = w1 at HB HK HA |-; have k0 : w1.cell? ⟨w.heap.size, 0, none⟩ = some (.string r.f0) := (zab HK.out 0).trans rfl; have k1 : w1.cell? ⟨w.heap.size, 1, none⟩ = some (.slice B1 r.f1.length c1) := (zab HK.out 1).trans rfl; have k2 : w1.cell? ⟨w.heap.size, 2, none⟩ = some (.slice B2 r.f2.length c2) := (zab HK.out 2).trans rfl; have k3 : w1.cell? ⟨w.heap.size, 3, none⟩ = some (.slice B3 r.f3.length c3) := (zab HK.out 3).trans rfl; have k4 : w1.cell? ⟨w.heap.size, 4, none⟩ = some (.slice B4 r.f4.length c4) := (zab HK.out 4).trans rfl; have HX := zpq ((zpt w1.heap.size w1).alloc (zpu _) (.cells #[.string o] 9)); have HS := zpq (zbK Kd.string w1 9 [o] [.string o] (Kd.reps_scalar _) (by simp))
 go_wp2_with (first
  | (go_at_call 66; refine (HN.out _ _ _ (HA.out.below HX.out) HS.out).mono ?_; rintro e w2 ⟨v2, rfl, hR2, hb2⟩; obtain ⟨A2, n2, rfl, _, hC2⟩ := Kd.R_reads hR2; have HC2 := zpq hC2; have HB2 := zpq (zad HX.out HX.out.size hb2); clear hR2 hC2 hb2)
  | (go_at_call 65; refine (ziN A2 n2 m true w2 HC2.out (by have h := HL.out; omega)).mono ?_; rintro e w3 ⟨v3, rfl, hR3, hb3⟩; have HR3 := zpq hR3; have HB3 := zpq (zad HB2.out HB2.out.size hb3); have HZ3 := zpq HB2.out.size; clear hR3 hb3))
 go_ret
 exact ⟨_, rfl, by rw [HT.out]; exact Kd.R_lower HR3.out (zpA HB.out.size HZ3.out), zad HB.out HB.out.size HB3.out⟩

theorem znc (r : zaj) (B1 : Option Addr) (c1 : Nat) (B2 : Option Addr) (c2 : Nat) (B3 : Option Addr) (c3 : Nat) (B4 : Option Addr) (c4 : Nat) (w : World) (hA : RuleAt r B1 B2 B3 B4 w) (hF : FitR r) :
 Calls Tryz.prog 44 #[.agg (zaq r B1 c1 B2 c2 B3 c3 B4 c4)] w (zgn (zbn (zaw (zbs r.f2) (zav r).steps).1 false) w) := by
 have hW := (zpt w.heap.size w).alloc (zpu _) (.cells (zaq r B1 c1 B2 c2 B3 c3 B4 c4) 45); have HK := zpq (zal w (.cells (zaq r B1 c1 B2 c2 B3 c3 B4 c4) 45)); have HB := zpq hW; have HA := zpq (hA.below hW); have HL := zpq (zei (zbs r.f2) r); have HF := zpq hF; have HN := zpq (fun (X : Option Addr) (c : Nat) (W : World) (h : RuleAt r B1 B2 B3 B4 W) (hr : Kd.C Kd.string W X r.f2.length r.f2) => zes r B1 c1 B2 c2 B3 c3 B4 c4 X c r.f2 W h.h4 hr hF hF.outs hF.outsN)
 have hn4 := hF.steps; have e : (fun x => (zac r.f2).contains x) = zbs r.f2 := rfl
 rw [e] at HN; generalize (zaw (zbs r.f2) (zav r).steps).1 = m at HL HN |-; obtain ⟨T, hT⟩ : ∃ T, T = zbn m false := ⟨_, rfl⟩; rw [<- hT]; have HT := zpq hT; clear hW hA hF e hT; unfold zaq at *; go_enter Tryz.func44, Tryz.ntmps44
 go_upto_region 1 with fail; generalize w.alloc (.cells #[.string r.f0, .slice B1 r.f1.length c1, .slice B2 r.f2.length c2, .slice B3 r.f3.length c3, .slice B4 r.f4.length c4] 45) = w1 at HB HK HA |-; have k0 : w1.cell? ⟨w.heap.size, 0, none⟩ = some (.string r.f0) := (zab HK.out 0).trans rfl; have k1 : w1.cell? ⟨w.heap.size, 1, none⟩ = some (.slice B1 r.f1.length c1) := (zab HK.out 1).trans rfl; have k2 : w1.cell? ⟨w.heap.size, 2, none⟩ = some (.slice B2 r.f2.length c2) := (zab HK.out 2).trans rfl; have k3 : w1.cell? ⟨w.heap.size, 3, none⟩ = some (.slice B3 r.f3.length c3) := (zab HK.out 3).trans rfl; have k4 : w1.cell? ⟨w.heap.size, 4, none⟩ = some (.slice B4 r.f4.length c4) := (zab HK.out 4).trans rfl; go_wp2_with (first
  | (go_at_call 66; refine (HN.out _ _ _ HA.out HA.out.h2).mono ?_; rintro e w2 ⟨v2, rfl, hR2, hb2⟩; obtain ⟨A2, n2, rfl, _, hC2⟩ := Kd.R_reads hR2; have HC2 := zpq hC2; have HB2 := zpq hb2; clear hR2 hC2 hb2)
  | (go_at_call 65; refine (ziN A2 n2 m false w2 HC2.out (by have h := HL.out; omega)).mono ?_; rintro e w3 ⟨v3, rfl, hR3, hb3⟩; have HR3 := zpq hR3; have HB3 := zpq (zad HB2.out HB2.out.size hb3); have HZ3 := zpq HB2.out.size; clear hR3 hb3))
 go_ret
 exact ⟨_, rfl, by rw [HT.out]; exact Kd.R_lower HR3.out (zpA HB.out.size HZ3.out), zad HB.out HB.out.size HB3.out⟩

theorem zoF (r : zaj) (B1 : Option Addr) (c1 : Nat) (B2 : Option Addr) (c2 : Nat) (B3 : Option Addr) (c3 : Nat) (B4 : Option Addr) (c4 : Nat) (w : World) (hA : RuleAt r B1 B2 B3 B4 w) (hF : FitR r) :
 Calls Tryz.prog 43 #[.agg (zaq r B1 c1 B2 c2 B3 c3 B4 c4)] w (zf4 ((zcm (zav r) (zaw (zbs r.f2) (zav r).steps).1).map mk) w) := by
 have hW := (zpt w.heap.size w).alloc (zpu _) (.cells (zaq r B1 c1 B2 c2 B3 c3 B4 c4) 45); have HK := zpq (zal w (.cells (zaq r B1 c1 B2 c2 B3 c3 B4 c4) 45)); have HB := zpq hW; have HA := zpq (hA.below hW); have HL := zpq (zei (zbs r.f2) r); have HF := zpq hF; have HN := zpq (fun (X : Option Addr) (c : Nat) (W : World) (h : RuleAt r B1 B2 B3 B4 W) (hr : Kd.C Kd.string W X r.f2.length r.f2) => zes r B1 c1 B2 c2 B3 c3 B4 c4 X c r.f2 W h.h4 hr hF hF.outs hF.outsN)
 have hn4 := hF.steps; have e : (fun x => (zac r.f2).contains x) = zbs r.f2 := rfl
 rw [e] at HN; generalize (zaw (zbs r.f2) (zav r).steps).1 = m at HL HN |-; obtain ⟨T, hT⟩ : ∃ T, T = (zcm (zav r) m).map mk := ⟨_, rfl⟩; rw [<- hT]; have HRd := zpq (fun (X : Option Addr) (c : Nat) (W : World) (h : RuleAt r B1 B2 B3 B4 W) (hr : Kd.C Kd.bool W X m.length m) => zhY r B1 c1 B2 c2 B3 c3 B4 c4 X c m W h.h1 h.h4 hr HL.out hF)
 have HT := zpq hT; clear hW hA hF e hT; unfold zaq at *; go_enter Tryz.func43, Tryz.ntmps43
 go_upto_region 1 with fail; generalize w.alloc (.cells #[.string r.f0, .slice B1 r.f1.length c1, .slice B2 r.f2.length c2, .slice B3 r.f3.length c3, .slice B4 r.f4.length c4] 45) = w1 at HB HK HA |-; have Sof : ∀ W, Below w1.heap.size w1 W -> W.cell? ⟨w.heap.size, 0, none⟩ = some (.string r.f0) /\ W.cell? ⟨w.heap.size, 1, none⟩ = some (.slice B1 r.f1.length c1) /\ W.cell? ⟨w.heap.size, 2, none⟩ = some (.slice B2 r.f2.length c2) /\ W.cell? ⟨w.heap.size, 3, none⟩ = some (.slice B3 r.f3.length c3) /\ W.cell? ⟨w.heap.size, 4, none⟩ = some (.slice B4 r.f4.length c4) := fun W hW =>
  ⟨(zab (zah HK.out hW) 0).trans rfl, (zab (zah HK.out hW) 1).trans rfl, (zab (zah HK.out hW) 2).trans rfl, (zab (zah HK.out hW) 3).trans rfl, (zab (zah HK.out hW) 4).trans rfl⟩
 have HSo := zpq Sof; have HBx : Hid (Below w1.heap.size w1 w1.drew) := zpq (zaV (zpt _ _)); clear Sof; go_region_held3 (fun W => W.cell? ⟨w.heap.size, 0, none⟩ = some (.string r.f0) /\ W.cell? ⟨w.heap.size, 1, none⟩ = some (.slice B1 r.f1.length c1) /\ W.cell? ⟨w.heap.size, 2, none⟩ = some (.slice B2 r.f2.length c2) /\ W.cell? ⟨w.heap.size, 3, none⟩ = some (.slice B3 r.f3.length c3) /\ W.cell? ⟨w.heap.size, 4, none⟩ = some (.slice B4 r.f4.length c4))
  (exact HSo.out _ HBx.out)
  (first
   | (go_at_call 66; refine (HN.out _ _ _ (HA.out.below HBx.out) (HA.out.below HBx.out).h2).mono ?_; rintro e w2 ⟨v2, rfl, hR2, hb2⟩; obtain ⟨A2, n2, rfl, _, hC2⟩ := Kd.R_reads hR2; have HC2 := zpq hC2; have HBx := zpq (zad HBx.out (HBx.out).size hb2); clear hR2 hC2 hb2)
   | (go_at_call 67; refine (HRd.out _ _ _ (HA.out.below HBx.out) HC2.out).mono ?_; rintro e w3 ⟨v3, rfl, hR3, hb3⟩; have HR3 := zpq hR3; have HZ3 := zpq HBx.out.size; have HBx := zpq (zad HBx.out HBx.out.size hb3); clear hR3 hb3))
 all_goals
  go_wp2_with fail; go_ret
  exact ⟨_, rfl, by rw [HT.out]; exact Kd.R_lower HR3.out (zpA HB.out.size HZ3.out), zad HB.out HB.out.size HBx.out⟩

theorem znq (r : zaj) (B1 : Option Addr) (c1 : Nat) (B2 : Option Addr) (c2 : Nat) (B3 : Option Addr) (c3 : Nat) (B4 : Option Addr) (c4 : Nat) (o : ByteArray) (w : World) (hA : RuleAt r B1 B2 B3 B4 w) (hF : FitR r) (ho : o.size <= maxLen) :
 Calls Tryz.prog 41 #[.agg (zaq r B1 c1 B2 c2 B3 c3 B4 c4), .string o] w (zf4 ((zcm (zav r) (zaw (zbs [o]) (zav r).steps).1).map mk) w) := by
 have hW := (zpt w.heap.size w).alloc (zpu _) (.cells (zaq r B1 c1 B2 c2 B3 c3 B4 c4) 45); have HK := zpq (zal w (.cells (zaq r B1 c1 B2 c2 B3 c3 B4 c4) 45)); have HB := zpq hW; have HA := zpq (hA.below hW); have HL := zpq (zei (zbs [o]) r); have HF := zpq hF; have HN := zpq (fun (X : Option Addr) (c : Nat) (W : World) (h : RuleAt r B1 B2 B3 B4 W) (hr : Kd.C Kd.string W X [o].length [o]) => zes r B1 c1 B2 c2 B3 c3 B4 c4 X c [o] W h.h4 hr hF (by simp) (fun x hx => by rw [List.mem_singleton.1 hx]; exact ho))
 have hn4 := hF.steps; have e : (fun x => (zac [o]).contains x) = zbs [o] := rfl
 rw [e] at HN; generalize (zaw (zbs [o]) (zav r).steps).1 = m at HL HN |-; obtain ⟨T, hT⟩ : ∃ T, T = (zcm (zav r) m).map mk := ⟨_, rfl⟩; rw [<- hT]; have HRd := zpq (fun (X : Option Addr) (c : Nat) (W : World) (h : RuleAt r B1 B2 B3 B4 W) (hr : Kd.C Kd.bool W X m.length m) => zhY r B1 c1 B2 c2 B3 c3 B4 c4 X c m W h.h1 h.h4 hr HL.out hF)
 have HT := zpq hT; clear hW hA hF e hT ho; unfold zaq at *; go_enter Tryz.func41, Tryz.ntmps41
 go_upto_region 1 with fail; generalize w.alloc (.cells #[.string r.f0, .slice B1 r.f1.length c1, .slice B2 r.f2.length c2, .slice B3 r.f3.length c3, .slice B4 r.f4.length c4] 45) = w1 at HB HK HA |-; have Sof : ∀ W, Below w1.heap.size w1 W -> W.cell? ⟨w.heap.size, 0, none⟩ = some (.string r.f0) /\ W.cell? ⟨w.heap.size, 1, none⟩ = some (.slice B1 r.f1.length c1) /\ W.cell? ⟨w.heap.size, 2, none⟩ = some (.slice B2 r.f2.length c2) /\ W.cell? ⟨w.heap.size, 3, none⟩ = some (.slice B3 r.f3.length c3) /\ W.cell? ⟨w.heap.size, 4, none⟩ = some (.slice B4 r.f4.length c4) := fun W hW =>
  ⟨(zab (zah HK.out hW) 0).trans rfl, (zab (zah HK.out hW) 1).trans rfl, (zab (zah HK.out hW) 2).trans rfl, (zab (zah HK.out hW) 3).trans rfl, (zab (zah HK.out hW) 4).trans rfl⟩
 have HSo := zpq Sof; have HBx : Hid (Below w1.heap.size w1 w1.drew) := zpq (zaV (zpt _ _)); have HBa : Hid (Below w1.heap.size w1 (w1.drew.alloc (.cells #[.string o] 9))) := zpq (HBx.out.alloc HBx.out.size _); have HS := zpq (zbK Kd.string w1.drew 9 [o] [.string o] (Kd.reps_scalar _) (by simp))
 clear Sof; go_region_held3 (fun W => W.cell? ⟨w.heap.size, 0, none⟩ = some (.string r.f0) /\ W.cell? ⟨w.heap.size, 1, none⟩ = some (.slice B1 r.f1.length c1) /\ W.cell? ⟨w.heap.size, 2, none⟩ = some (.slice B2 r.f2.length c2) /\ W.cell? ⟨w.heap.size, 3, none⟩ = some (.slice B3 r.f3.length c3) /\ W.cell? ⟨w.heap.size, 4, none⟩ = some (.slice B4 r.f4.length c4))
  (exact HSo.out _ (by first | exact HBx.out | exact HBa.out))
  (first
   | (go_at_call 66; refine (HN.out _ _ _ (HA.out.below HBa.out) HS.out).mono ?_; rintro e w2 ⟨v2, rfl, hR2, hb2⟩; obtain ⟨A2, n2, rfl, _, hC2⟩ := Kd.R_reads hR2; have HC2 := zpq hC2; have HBx := zpq (zad HBa.out (HBa.out).size hb2); clear hR2 hC2 hb2)
   | (go_at_call 67; refine (HRd.out _ _ _ (HA.out.below HBx.out) HC2.out).mono ?_; rintro e w3 ⟨v3, rfl, hR3, hb3⟩; have HR3 := zpq hR3; have HZ3 := zpq HBx.out.size; have HBx := zpq (zad HBx.out HBx.out.size hb3); clear hR3 hb3))
 all_goals
  go_wp2_with fail; go_ret
  exact ⟨_, rfl, by rw [HT.out]; exact Kd.R_lower HR3.out (zpA HB.out.size HZ3.out), zad HB.out HB.out.size HBx.out⟩

end Go.Proofs.YtdpgdnpddndeoaaGreatDoor.X
