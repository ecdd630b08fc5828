/-
  What the cards lean on (part Q8): contracts of functions, by hand, and plain laws; what is printed by the kit's print for this seat is among them. What is not reached is left out.
-/
import Derived.Test.YtdpgdnpddndeoaaGreatDoorQ7
import Derived.Test.YtdpgdnpddndeoaaGreatDoorQ6
set_option maxHeartbeats 8000000
set_option maxRecDepth 100000
set_option linter.unusedSimpArgs false
set_option linter.unusedVariables false
open Go.RowKit.Below renaming refl -> zpr
open Nat renaming le_refl -> zps, le_trans -> zpy, mul_le_mul_right -> zpK, mul_one -> zqV, zero_le -> zqf
open List renaming map_map -> zp8, eq_nil_of_length_eq_zero -> zpu, getElem?_eq_getElem -> zpv, getD_eq_getElem?_getD -> zpw, length_map -> zp9, length_take -> zpD, length_append -> zpF, take_length -> zqa, take_succ_eq_append_getElem -> zpU, mem_singleton -> zqU, drop_eq_nil_of_le -> zqe, mem_cons -> zqH, take_of_length_le -> zqS, length_filter_le -> zqi, length_replicate -> zqW, map_append -> zqj, getElem_mem -> zqJ, mem_map -> zqT, take_zero -> zqX
open Int renaming toNat_natCast -> zqF
open Go.Proofs.Tryz renaming prog -> zp0
open Go.Proofs.YtdpgdnpddndeoaaGreatDoorW.PrintWords.Kd renaming C_below -> zqO, string -> zp6, R_reads -> zql, R_below -> zqp, R_lower -> zqD
namespace Go.Proofs.YtdpgdnpddndeoaaGreatDoor
namespace X
open Go.RowKit Go.Maps YtdpgdnpddndeoaaGreatDoorW.PrintWords YtdpgdnpddndeoaaGreatDoorW.PrintMore YtdpgdnpddndeoaaGreatDoorW.PrintLast
abbrev RVal (w : World) (base : Nat) (v : Value) (l : List SVal) : Prop := Kd.R k34 34 w base (fun _ => True) v l
structure FitR (r : zaj) : Prop where
 ins : r.f1.length <= 1000
 outs : r.f2.length <= 1000
 steps : r.f4.length <= 1000
 insN : ∀ x ∈ r.f1, x.size <= maxLen
 outsN : ∀ x ∈ r.f2, x.size <= maxLen
 stepN : ∀ s ∈ r.f4, s.f0.size <= maxLen /\ s.f2.length <= 1000 /\ ∀ x ∈ s.f2, x.size <= maxLen
def zeg (l : List SVal) (w : World) (e : Ending) (w' : World) : Prop := ∃ v, e = .returned v /\ RVal w' w.heap.size v l /\ Below w.heap.size w w'
theorem zbj {w : World} {A : Option Addr} {l : List ByteArray} (h : Kd.C zp6 w A l.length l) (k : Nat) (hk : k < l.length) : ∃ b o, A = some ⟨b, o, none⟩ /\ w.cell? ⟨b, o + k, none⟩ = some (.string l[k]) := by
 rcases zaJ h with h0 | ⟨b, o, rfl, _, hcell⟩
 . exfalso; rw [h0] at hk; simp at hk
 . refine ⟨b, o, rfl, ?_⟩
   have := hcell k hk; rwa [show l.getD k ByteArray.empty = l[k] by simp [zpw, zpv hk]] at this
def zao (r : zaj) (B1 : Option Addr) (c1 : Nat) (B2 : Option Addr) (c2 : Nat) (B3 : Option Addr) (c3 : Nat) (B4 : Option Addr) (c4 : Nat) : Array Value :=
 #[.string r.f0, .slice B1 r.f1.length c1, .slice B2 r.f2.length c2, .slice B3 r.f3.length c3, .slice B4 r.f4.length c4]
theorem zdz {w : World} {A : Option Addr} {l : List zar} (h : Kd.C k24 w A l.length l) (i : Nat) (hi : i < l.length) :
 ∃ b o B2 c2 B3 c3, A = some ⟨b, o, none⟩ /\ w.cell? ⟨b, o + i * 5, none⟩ = some (.string l[i].f0) /\ w.cell? ⟨b, o + i * 5 + 1, none⟩ = some (.int .i64 l[i].f1) /\ w.cell? ⟨b, o + i * 5 + 2, none⟩ = some (.slice B2 l[i].f2.length c2) /\
  w.cell? ⟨b, o + i * 5 + 3, none⟩ = some (.slice B3 l[i].f3.length c3) /\ w.cell? ⟨b, o + i * 5 + 4, none⟩ = some (.int .i64 l[i].f4) /\ Kd.C zp6 w B2 l[i].f2.length l[i].f2 /\ Kd.C zp6 w B3 l[i].f3.length l[i].f3 := by
 obtain ⟨ad, B2, c2, B3, c3, rfl, p0, p1, p2, p3, p4, q2, g2, q3, g3⟩ := zfY h (i : Int) (by omega) (by omega)
 have hx : zbK l (i : Int) = l[i] := by
  unfold zbK; rw [zqF, zpw, zpv hi]; rfl
 rw [hx, zqF] at p0 p1 p2 p3 p4; rw [hx] at q2 g2 q3 g3; obtain ⟨ad0, _, _, _, _, had0, z0, _⟩ := zfY h 0 (by omega) (by omega)
 cases had0
 obtain ⟨b, o, rfl⟩ := zdY z0; have e : ((⟨b, o, none⟩ : Addr).add (i * 5)) = ⟨b, o + i * 5, none⟩ := by
  unfold Addr.add; split
  . rename_i h0; simp [h0]
  . rfl
 rw [e] at p0 p1 p2 p3 p4; exact ⟨b, o, B2, c2, B3, c3, rfl, p0, p1, p2, p3, p4, g2, g3⟩
theorem zfT (r : zaj) (B1 : Option Addr) (c1 : Nat) (B2 : Option Addr) (c2 : Nat) (B3 : Option Addr) (c3 : Nat) (B4 : Option Addr) (c4 : Nat) (A : Option Addr) (c : Nat) (vs : List SVal) (w : World) (hG : GOK w)
 (h1 : Kd.C zp6 w B1 r.f1.length r.f1) (h2 : Kd.C zp6 w B2 r.f2.length r.f2) (h4 : Kd.C k24 w B4 r.f4.length r.f4) (hr : Kd.C k34 w A vs.length vs) (hF : FitR r) (hsz : ∀ v ∈ vs, v.f1.size <= 4194304) :
 Calls zp0 34 #[.agg (zao r B1 c1 B2 c2 B3 c3 B4 c4), .slice A vs.length c] w (zeg (runS (zav r) vs) w) := by
 have hlen : vs.length <= 9223372036854775807 := hr.2.1; have hn1 := hF.ins; have hn2 := hF.outs; have hn4 := hF.steps; have hW := (zpr w.heap.size w).alloc (zps _) (.cells (zao r B1 c1 B2 c2 B3 c3 B4 c4) 45); have HK := zpo (zak w (.cells (zao r B1 c1 B2 c2 B3 c3 B4 c4) 45)); have HB := zpo hW; have H1 := zpo (zqO h1 hW); have H2 := zpo (zqO h2 hW); have H4 := zpo (zqO h4 hW); have HR := zpo (zqO hr hW); have HG := zpo (hG.below hW); have HS := zpo hsz; have HF := zpo hF; obtain ⟨T, hT⟩ : ∃ T, T = runS (zav r) vs := ⟨_, rfl⟩; rw [<- hT]; unfold runS at hT; have hni : (zav r).ins.length = r.f1.length := zaL _; rw [hni] at hT; have HT := zpo hT; clear hT hni hW h1 h2 h4 hr hG hsz hF; unfold zao at *; have hmm := @run_makeMap zp0; by_cases hne : vs.length = r.f1.length
 . have d0 : ((vs.length : Int) != (r.f1.length : Int)) = false := by simp [hne]
   have HN := zpo hne; have hT := HT.out; rw [if_neg (by omega)] at hT
   clear HT; have HT := zpo hT; clear hT hne; go_enter Tryz.func34, Tryz.ntmps34
   go_upto_region 3 with fail; generalize w.alloc (.cells #[.string r.f0, .slice B1 r.f1.length c1, .slice B2 r.f2.length c2, .slice B3 r.f3.length c3, .slice B4 r.f4.length c4] 45) = w1 at HB HK H1 H2 H4 HR HG |-; have k1 := bc1 HK.out; have hE0 := EnvIs.made w1; have hB0 := (zpr w1.heap.size w1).alloc (zps _) (.map #[] 0); have HE0 := zpo hE0; have HB0 := zpo hB0; have HM0 : Hid (w1.heap.size < (w1.alloc (.map #[] 0)).heap.size) := zpo hE0.lt; have HK2 := zpo (zah HK.out hB0); have k1' := bc1 HK2.out; clear hE0 hB0; go_upto_region 4 with fail; generalize w1.alloc (.map #[] 0) = w2 at HE0 HB0 HM0 HK2 k1' |-; go_wp2_with fail; go_loopg [6, 7, 26] r.f1.length (fun gg _ _ s26 wr => ∃ kk : Nat, kk <= r.f1.length /\ r.f1.length - kk <= gg /\ s26 = .int .i64 kk /\ Aside0 (EnvIs wr w1.heap.size kk (envK (zab r.f1) vs kk)) /\ Aside0 (Below w1.heap.size w1 wr))
   case atStart => exact ⟨0, zqf _, by omega, rfl, ⟨HE0.out⟩, ⟨HB0.out⟩⟩
   case round =>
    obtain ⟨kk, hkk, hgk, rfl, HE, HW⟩ := hrel; by_cases hlt : kk < r.f1.length
    . have hltz : (kk : Int) < (r.f1.length : Int) := by omega
      have hlv : kk < vs.length := by have := HN.out; omega
      have hlvz : (kk : Int) < (vs.length : Int) := by omega
      obtain ⟨b, o, rfl, p0⟩ := zbj (zqO H1.out HW.out) kk hlt; obtain ⟨b2, o2, rfl, v0, v1⟩ := zcR (zqO HR.out HW.out) kk hlv; have hst := zjS (zab r.f1) vs kk (by rw [zaL]; exact hlt) hlv
      rw [zce r.f1 kk hlt] at hst; have hsz := HF.out.insN _ (zqJ hlt); obtain ⟨w3, hrun, hE3, hg3⟩ := HE.out.store (by unfold maxLen; omega) r.f1[kk] hsz vs[kk]
      rw [<- hst] at hE3; unfold aggV at hrun; have HE3 := zpo hE3; have HW3 : Hid (Below w1.heap.size w1 w3) := zpo (HW.out.grown hg3 HW.out.size (fun k hk => by cases hk; exact zps _))
      generalize r.f1[kk] = n at p0 hrun; generalize vs[kk] = v at v0 v1 hrun; clear hst hsz hE3 hg3; go_wp2_with fail; go_roundg (r.f1.length - (kk + 1))
      case measure => omega
      case rel => exact ⟨kk + 1, by omega, by omega, by go_num, ⟨HE3.out⟩, ⟨HW3.out⟩⟩
    . have hltz : ¬ (kk : Int) < (r.f1.length : Int) := by omega
      obtain rfl : kk = r.f1.length := by omega
      have HE1 : Hid (EnvIs wr w1.heap.size (r.f1.length + 0) (runK (zav r) vs 0)) := by
       have h := HE.out; have e : runK (zav r) vs 0 = envK (zab r.f1) vs r.f1.length := by
        show envK (zab r.f1) vs (zab r.f1).length = _
        rw [zaL]
       show EnvIs _ _ _ _
       rw [e]; exact h
      have HK3 := zpo (zah HK.out HW.out); have k4 := bc4 HK3.out; go_upto_region 9 with fail; clear HE HE0 HB0 HM0 HK2 k1'; go_wp2_with fail; go_loopg [9, 10, 12, 41] r.f4.length (fun gg _ _ _ s41 wq => ∃ jj : Nat, jj <= r.f4.length /\ r.f4.length - jj <= gg /\ s41 = .int .i64 jj /\ Aside0 (EnvIs wq w1.heap.size (r.f1.length + jj) (runK (zav r) vs jj)) /\ Aside0 (Below w1.heap.size w1 wq))
      case atStart => exact ⟨0, zqf _, by omega, rfl, ⟨HE1.out⟩, ⟨HW.out⟩⟩
      case round =>
       obtain ⟨jj, hjj, hgj, rfl, HEq, HWq⟩ := hrel; obtain ⟨wq, rfl⟩ : ∃ wq, wq = wr := ⟨wr, rfl⟩; by_cases hlj : jj < r.f4.length
       . have hljz : (jj : Int) < (r.f4.length : Int) := by omega
         obtain ⟨b, o, C2, d2, C3, d3, rfl, p0, p1, p2, p3, p4, g2, g3⟩ := zdz (zqO H4.out HWq.out) jj hlj; have hst := zkl (zav r) vs jj (by show jj < (r.f4.map zaN).length; rw [zp9]; exact hlj)
         have hsx : (zav r).steps[jj]'(by show jj < (r.f4.map zaN).length; rw [zp9]; exact hlj) = zaN r.f4[jj] := List.getElem_map ..
         rw [hsx] at hst; have hsm := zis (zav r) vs HS.out jj; obtain ⟨hxo, hxl, hxn⟩ := HF.out.stepN _ (zqJ hlj); have HEr : Hid (EnvIs (wq) w1.heap.size (r.f1.length + jj) (runK (zav r) vs jj)) := zpo HEq.out; have HSt : Hid (runK (zav r) vs (jj + 1) = zcM (runK (zav r) vs jj) (zaN r.f4[jj])) := zpo hst; have HXo := zpo hxo; have HXn := zpo hxn; have HSm := zpo hsm; generalize hx : r.f4[jj] = x at p0 p1 p2 p3 p4 g2 g3 HSt HXo HXn hxl; clear hx hst hsx hxo hxn hsm; generalize runK (zav r) vs jj = e at HEr HSt HSm; have hb3 := (zpr wq.heap.size wq).alloc (zps _) (.cells #[.string x.f0, .int .i64 x.f1, .slice C2 x.f2.length d2, .slice C3 x.f3.length d3, .int .i64 x.f4] 24); have HX3 := zpo (zak wq (.cells #[.string x.f0, .int .i64 x.f1, .slice C2 x.f2.length d2, .slice C3 x.f3.length d3, .int .i64 x.f4] 24)); have HB3 := zpo hb3; have HG2 := zpo (zqO g2 hb3); have HG3 := zpo (zqO g3 hb3); have HE3 := zpo (HEr.out.below hb3); have HWz := zpo HWq.out.size; clear g2 g3 hb3; go_upto_region 12 with fail; generalize wq.alloc (.cells #[.string x.f0, .int .i64 x.f1, .slice C2 x.f2.length d2, .slice C3 x.f3.length d3, .int .i64 x.f4] 24) = w3 at HX3 HB3 HG2 HG3 HE3 |-; have x2 := bc2 HX3.out; go_wp2_with fail; go_loopg [10, 12, 48] x.f2.length (fun gg s10 _ s48 wi => ∃ j : Nat, j <= x.f2.length /\ x.f2.length - j <= gg /\ s48 = .int .i64 j /\ Aside0 (RVal wi w3.heap.size s10 ((x.f2.take j).map fun a => e a.data.toList)) /\ Aside0 (Below w3.heap.size w3 wi))
         case atStart => exact ⟨0, zqf _, by omega, rfl, ⟨Kd.R_nil _ _ _ _ _⟩, ⟨zpr _ _⟩⟩
         case round =>
          obtain ⟨j, hj, hgj2, rfl, HO, HWi⟩ := hrel; by_cases hl2 : j < x.f2.length
          . have hl2z : (j : Int) < (x.f2.length : Int) := by omega
            obtain ⟨b5, o5, rfl, q0⟩ := zbj (zqO HG2.out HWi.out) j hl2; have hlk := (HE3.out.below HWi.out).look x.f2[j] (HXn.out _ (zqJ hl2)); have HSucc : Hid ((x.f2.take (j + 1)).map (fun a => e a.data.toList) = (x.f2.take j).map (fun a => e a.data.toList) ++ [e x.f2[j].data.toList]) := by show _ = _; rw [zpU hl2, zqj]; rfl
            have hml : ((x.f2.take j).map (fun a => e a.data.toList)).length = j := by rw [zp9, zpD]; omega
            have HML := zpo hml; have HWs := zpo HWi.out.size; generalize e x.f2[j].data.toList = v at hlk HSucc; generalize x.f2[j] = n at q0 hlk; unfold aggV at hlk; clear hml; go_wp2_with (first | ((with_reducible refine zaD (b := .append) (xs := #[.tmp 52, .tmp 56]) rfl ?_); at_builtin; refine Kd.R_append k34 (w0 := w3) w3.heap.size rfl (.tmp 52) (.tmp 56) 25 34 (.agg #[.bool false, .string ⟨#[]⟩]) 24 rfl Tryz.underlying25 zcN rfl (by decide) (by decide) u10 ((x.f2.take j).map (fun a => e a.data.toList)) v [.bool v.f0, .string v.f1] (fun _ => True) (fun k_ => True /\ some k_ ≠ u10.ownBlock) rfl rfl (zcE _ _ _ v) (fun _ hk => hk) (fun _ _ => trivial) HO.out HWi.out HWs.out ?aL ?_; (case aL => (have h1 := HML.out; omega)); intro v1 w4 ho hb hg hat; have HO4 : Hid (RVal w4 w3.heap.size v1 ((x.f2.take (j + 1)).map (fun a => e a.data.toList))) := (by show RVal _ _ _ _; rw [HSucc.out]; exact ho); have HB4 := zpo hb; clear ho hb hg hat))
            go_roundg (x.f2.length - (j + 1))
            case measure => omega
            case rel => exact ⟨j + 1, by omega, by omega, by first | rfl | go_num, ⟨HO4.out⟩, ⟨HB4.out⟩⟩
          . have hl2z : ¬ (j : Int) < (x.f2.length : Int) := by omega
            obtain rfl : j = x.f2.length := by omega
            have hO := HO.out; rw [zqa] at hO; obtain ⟨A5, n5, rfl, hc5, hC5⟩ := zql hO; have hlm : (x.f2.map fun a => e a.data.toList).length = x.f2.length := zp9 ..
            have HC5 : Hid (Kd.C k34 wr A5 (x.f2.map fun a => e a.data.toList).length (x.f2.map fun a => e a.data.toList)) := zpo hC5
            have HWi2 : Hid (Below w1.heap.size w1 wr) := zpo ((HWq.out.trans (HB3.out.mono HWz.out)).trans (HWi.out.mono (zpy HWz.out HB3.out.size))); have hDo := fun (W : World) (hW : Below wr.heap.size wr W) => zig x C2 d2 C3 d3 A5 n5 (x.f2.map fun a => e a.data.toList) W (HG.out.below (HWi2.out.trans (hW.mono HWi2.out.size))) (zqO HG2.out (HWi.out.trans (hW.mono HWi.out.size))) (zqO HG3.out (HWi.out.trans (hW.mono HWi.out.size))) (zqO HC5.out hW) (fun v hv => by
             obtain ⟨a, _, rfl⟩ := zqT.1 hv; exact HSm.out _)
            rw [hlm] at hDo |-; have hse : zcM e (zaN x) = updS e x.f0.data.toList (valS (doP (zag x) ((x.f2.map fun a => e a.data.toList).map valO))) := by
             unfold zcM zaN zab; dsimp only; rw [zp8, zp8]; rfl
            have HSt2 : Hid (runK (zav r) vs (jj + 1) = updS e x.f0.data.toList (valS (doP (zag x) ((x.f2.map fun a => e a.data.toList).map valO)))) := HSt.out.trans hse
            generalize valS (doP (zag x) ((x.f2.map fun a => e a.data.toList).map valO)) = vx at hDo HSt2
            have HDo := zpo hDo; have HX5 := zpo (zah HX3.out HWi.out); have Sof : ∀ W : World, W.heap[wq.heap.size]? = some (.cells #[.string x.f0, .int .i64 x.f1, .slice C2 x.f2.length d2, .slice C3 x.f3.length d3, .int .i64 x.f4] 24 (0, 0)) -> W.cell? ⟨wq.heap.size, 0, none⟩ = some (.string x.f0) /\ W.cell? ⟨wq.heap.size, 1, none⟩ = some (.int .i64 x.f1) /\ W.cell? ⟨wq.heap.size, 2, none⟩ = some (.slice C2 x.f2.length d2) /\ W.cell? ⟨wq.heap.size, 3, none⟩ = some (.slice C3 x.f3.length d3) /\ W.cell? ⟨wq.heap.size, 4, none⟩ = some (.int .i64 x.f4) := fun W hW =>
             ⟨(zaf hW 0).trans rfl, (zaf hW 1).trans rfl, (zaf hW 2).trans rfl, (zaf hW 3).trans rfl, (zaf hW 4).trans rfl⟩
            have HNe : Hid (w1.heap.size < wq.heap.size) := HEr.out.lt; have HSo := zpo Sof; have HBx : Hid (Below wr.heap.size wr wr.drew) := zpo (zaW (zpr _ _)); have HEs : Hid (∀ W, Below wr.heap.size wr W -> ∃ w6, (Instr.mapUpdate 91 (.map (some w1.heap.size)) (.string x.f0) (aggV vx)).run zp0 W = .ok () w6 /\ EnvIs w6 w1.heap.size (r.f1.length + jj + 1) (updS e x.f0.data.toList vx) /\ W.grownBy w6 (some w1.heap.size)) :=
             zpo (fun W hW => ((HE3.out.below HWi.out).below hW).store (by unfold maxLen; omega) x.f0 HXo.out vx)
            clear hDo hse hC5 hO Sof hc5 hlm x2; go_wp2_with fail; go_region_held3 (fun W => W.cell? ⟨wq.heap.size, 0, none⟩ = some (.string x.f0) /\ W.cell? ⟨wq.heap.size, 1, none⟩ = some (.int .i64 x.f1) /\ W.cell? ⟨wq.heap.size, 2, none⟩ = some (.slice C2 x.f2.length d2) /\ W.cell? ⟨wq.heap.size, 3, none⟩ = some (.slice C3 x.f3.length d3) /\ W.cell? ⟨wq.heap.size, 4, none⟩ = some (.int .i64 x.f4))
             (first | exact HSo.out _ (zah HX5.out HBx.out) | exact HSo.out _ HX6.out)
             (first | (go_at_call 25; refine (HDo.out _ HBx.out).mono ?_; rintro e5 w5 ⟨rfl, hb5⟩; have HBx := zpo (zac HBx.out HBx.out.size hb5); obtain ⟨w6, hrun, hE6, hg6⟩ := HEs.out _ HBx.out; have HE6 := zpo hE6; have HG6 := zpo hg6; have HX6 := zpo ((hg6.block wq.heap.size (zaU (zah HX5.out HBx.out)) (by have h := HNe.out; intro he; injection he; omega)).trans (zah HX5.out HBx.out)); clear hb5 hE6 hg6))
            all_goals
             have hW6 : Below w1.heap.size w1 w6 := (HWi2.out.trans (HBx.out.mono HWi2.out.size)).grown HG6.out (zpy HWi2.out.size HBx.out.size) (fun k hk => by cases hk; exact zps _)
             have HW6 := zpo hW6; have HE7 : Hid (EnvIs w6 w1.heap.size (r.f1.length + (jj + 1)) (runK (zav r) vs (jj + 1))) := by
              show EnvIs _ _ _ _
              rw [HSt2.out]; exact HE6.out
             clear hW6; go_wp2_with fail; go_roundg (r.f4.length - (jj + 1))
             case measure => omega
             case rel => exact ⟨jj + 1, by omega, by omega, by first | rfl | go_num, ⟨HE7.out⟩, ⟨HW6.out⟩⟩
       . have hljz : ¬ (jj : Int) < (r.f4.length : Int) := by omega
         obtain rfl : jj = r.f4.length := by omega
         have HK4 := zpo (zah HK.out HWq.out); have k2 := bc2 HK4.out; have hkl : (zav r).steps.length = r.f4.length := zp9 ..; have hT2 := HT.out; rw [hkl] at hT2; have HT2 : Hid (T = (zab r.f2).map (runK (zav r) vs r.f4.length)) := zpo hT2; have HEf : Hid (EnvIs wq w1.heap.size (r.f1.length + r.f4.length) (runK (zav r) vs r.f4.length)) := zpo HEq.out; clear hkl hT2; generalize runK (zav r) vs r.f4.length = e at HEf HT2; go_upto_region 21 with fail; go_wp2_with fail; go_loopg [13, 15, 69] r.f2.length (fun gg s13 _ s69 wi => ∃ j : Nat, j <= r.f2.length /\ r.f2.length - j <= gg /\ s69 = .int .i64 j /\ Aside0 (RVal wi wq.heap.size s13 ((r.f2.take j).map fun a => e a.data.toList)) /\ Aside0 (Below wq.heap.size wq wi))
         case atStart => exact ⟨0, zqf _, by omega, rfl, ⟨Kd.R_nil _ _ _ _ _⟩, ⟨zpr _ _⟩⟩
         case round =>
          obtain ⟨j, hj, hgj2, rfl, HO, HWi⟩ := hrel; by_cases hl2 : j < r.f2.length
          . have hl2z : (j : Int) < (r.f2.length : Int) := by omega
            obtain ⟨b5, o5, rfl, q0⟩ := zbj (zqO H2.out (HWq.out.trans (HWi.out.mono HWq.out.size))) j hl2; have hlk := (HEf.out.below HWi.out).look r.f2[j] (HF.out.outsN _ (zqJ hl2)); have HSucc : Hid ((r.f2.take (j + 1)).map (fun a => e a.data.toList) = (r.f2.take j).map (fun a => e a.data.toList) ++ [e r.f2[j].data.toList]) := by show _ = _; rw [zpU hl2, zqj]; rfl
            have hml : ((r.f2.take j).map (fun a => e a.data.toList)).length = j := by rw [zp9, zpD]; omega
            have HML := zpo hml; have HWs := zpo HWi.out.size; generalize e r.f2[j].data.toList = v at hlk HSucc; generalize r.f2[j] = n at q0 hlk; unfold aggV at hlk; clear hml; go_wp2_with (first | ((with_reducible refine zaD (b := .append) (xs := #[.tmp 73, .tmp 77]) rfl ?_); at_builtin; refine Kd.R_append k34 (w0 := wq) wq.heap.size rfl (.tmp 73) (.tmp 77) 25 34 (.agg #[.bool false, .string ⟨#[]⟩]) 24 rfl Tryz.underlying25 zcN rfl (by decide) (by decide) u13 ((r.f2.take j).map (fun a => e a.data.toList)) v [.bool v.f0, .string v.f1] (fun _ => True) (fun k_ => True /\ some k_ ≠ u13.ownBlock) rfl rfl (zcE _ _ _ v) (fun _ hk => hk) (fun _ _ => trivial) HO.out HWi.out HWs.out ?aL ?_; (case aL => (have h1 := HML.out; omega)); intro v1 w4 ho hb hg hat; have HO4 : Hid (RVal w4 wq.heap.size v1 ((r.f2.take (j + 1)).map (fun a => e a.data.toList))) := (by show RVal _ _ _ _; rw [HSucc.out]; exact ho); have HB4 := zpo hb; clear ho hb hg hat))
            go_roundg (r.f2.length - (j + 1))
            case measure => omega
            case rel => exact ⟨j + 1, by omega, by omega, by first | rfl | go_num, ⟨HO4.out⟩, ⟨HB4.out⟩⟩
          . have hl2z : ¬ (j : Int) < (r.f2.length : Int) := by omega
            obtain rfl : j = r.f2.length := by omega
            have hO := HO.out; rw [zqa] at hO; have hte : T = r.f2.map fun a => e a.data.toList := by rw [HT2.out]; unfold zab; rw [zp8]; rfl
            have HTe := zpo hte; have HOf := zpo hO; clear hte hO; go_wp2_with fail; go_ret
            exact ⟨_, rfl, by rw [HTe.out]; exact zqD HOf.out (zpy HB.out.size HWq.out.size), (HB.out.trans (HWq.out.mono HB.out.size)).trans (HWi.out.mono (zpy HB.out.size HWq.out.size))⟩
 . have d0 : ((vs.length : Int) != (r.f1.length : Int)) = true := by simp; omega
   have hT := HT.out; rw [if_pos (by omega)] at hT
   clear HT; have HT := zpo hT; clear hT hne; go_enter Tryz.func34, Tryz.ntmps34
   go_upto_if 21 with fail; generalize w.alloc (.cells #[.string r.f0, .slice B1 r.f1.length c1, .slice B2 r.f2.length c2, .slice B3 r.f3.length c3, .slice B4 r.f4.length c4] 45) = w1 at HB HK H1 H2 H4 HR HG |-; have k1 := bc1 HK.out; go_wp2_with fail; go_ret
   exact ⟨_, rfl, by rw [HT.out]; exact Kd.R_nil _ _ _ _ _, HB.out⟩
theorem zl6 (A : Option Addr) (c : Nat) (l : List ByteArray) (t : ByteArray) (w : World) (hr : Kd.C zp6 w A l.length l) :
 Calls zp0 64 #[.slice A l.length c, .string t] w fun e w' => e = .returned (.int .i64 (idxF l t)) /\ w = w' := by
 cases l with
 | cons a r => exact zhm A c (a :: r) t w hr (Nat.succ_pos _)
 | nil =>
  have he : idxF [] t = -1 := by unfold idxF; simp
  rw [he]; clear hr he; show Calls zp0 _ #[.slice A 0 c, .string t] w _
  go_enter Tryz.func64, Tryz.ntmps64
  go_wp2_with fail; go_loopg [5, 8] 0 (fun gg _ s8 wr => s8 = .int .i64 0 /\ wr = w)
  case atStart => exact ⟨rfl, rfl⟩
  case round =>
   obtain ⟨rfl, rfl⟩ := hrel; go_wp2_with fail; go_ret
   exact ⟨rfl, rfl⟩
def zbp (ins : List ByteArray) (vs : List SVal) (n : ByteArray) : SVal := if 0 <= idxF ins n /\ idxF ins n < vs.length then vs.getD (idxF ins n).toNat zV else zV
theorem zk1 (r : zaj) (B1 : Option Addr) (c1 : Nat) (B2 : Option Addr) (c2 : Nat) (B3 : Option Addr) (c3 : Nat) (B4 : Option Addr) (c4 : Nat) (Ai : Option Addr) (ci : Nat) (ins : List ByteArray) (A : Option Addr) (c : Nat) (vs : List SVal) (w : World) (hG : GOK w)
 (h1 : Kd.C zp6 w B1 r.f1.length r.f1) (h2 : Kd.C zp6 w B2 r.f2.length r.f2) (h4 : Kd.C k24 w B4 r.f4.length r.f4) (hi : Kd.C zp6 w Ai ins.length ins) (hr : Kd.C k34 w A vs.length vs) (hF : FitR r) (hsz : ∀ v ∈ vs, v.f1.size <= 4194304) :
 Calls zp0 36 #[.agg (zao r B1 c1 B2 c2 B3 c3 B4 c4), .slice Ai ins.length ci, .slice A vs.length c] w (zeg (runS (zav r) (r.f1.map (zbp ins vs))) w) := by
 have hlen : vs.length <= 9223372036854775807 := hr.2.1; have hn1 := hF.ins; have hW := (zpr w.heap.size w).alloc (zps _) (.cells (zao r B1 c1 B2 c2 B3 c3 B4 c4) 45); have HK := zpo (zak w (.cells (zao r B1 c1 B2 c2 B3 c3 B4 c4) 45)); have HB := zpo hW; have H1 := zpo (zqO h1 hW); have H2 := zpo (zqO h2 hW); have H4 := zpo (zqO h4 hW); have HI := zpo (zqO hi hW); have HR := zpo (zqO hr hW); have HG := zpo (hG.below hW); have HS := zpo hsz; have HF := zpo hF; have hOf := fun (W : World) (hW : Below w.heap.size w W) (A5 : Option Addr) (n5 : Nat) (hr5 : Kd.C k34 W A5 (r.f1.map (zbp ins vs)).length (r.f1.map (zbp ins vs))) => zfT r B1 c1 B2 c2 B3 c3 B4 c4 A5 n5 (r.f1.map (zbp ins vs)) W (hG.below hW) (zqO h1 hW) (zqO h2 hW) (zqO h4 hW) hr5 hF (fun v hv => by
  obtain ⟨n, _, rfl⟩ := zqT.1 hv; unfold zbp; split
  . rename_i hc
    rw [zpw, zpv (show (idxF ins n).toNat < vs.length by omega)]
    exact hsz _ (zqJ _)
  . exact zqf _)
 rw [zp9] at hOf; have HOf := zpo hOf; obtain ⟨T, hT⟩ : ∃ T, T = runS (zav r) (r.f1.map (zbp ins vs)) := ⟨_, rfl⟩; rw [<- hT] at HOf |-; clear hT hW h1 h2 h4 hi hr hG hsz hF hOf; unfold zao at *; go_enter Tryz.func36, Tryz.ntmps36
 go_upto_region 2 with fail; generalize w.alloc (.cells #[.string r.f0, .slice B1 r.f1.length c1, .slice B2 r.f2.length c2, .slice B3 r.f3.length c3, .slice B4 r.f4.length c4] 45) = w1 at HB HK H1 H2 H4 HI HR HG |-; have k1 := bc1 HK.out; go_wp2_with fail; go_loopg [7, 9, 10, 11, 15] r.f1.length (fun gg s7 _ _ _ s15 wr => ∃ kk : Nat, kk <= r.f1.length /\ r.f1.length - kk <= gg /\ s15 = .int .i64 kk /\ Aside0 (RVal wr w1.heap.size s7 ((r.f1.take kk).map (zbp ins vs))) /\ Aside0 (Below w1.heap.size w1 wr))
 case atStart => exact ⟨0, zqf _, by omega, rfl, ⟨Kd.R_nil _ _ _ _ _⟩, ⟨zpr _ _⟩⟩
 case round =>
  obtain ⟨kk, hkk, hgk, rfl, HO, HW⟩ := hrel; obtain ⟨wq, rfl⟩ : ∃ wq, wq = wr := ⟨wr, rfl⟩; by_cases hlt : kk < r.f1.length
  . have hltz : (kk : Int) < (r.f1.length : Int) := by omega
    obtain ⟨b, o, rfl, p0⟩ := zbj (zqO H1.out HW.out) kk hlt; have hb3 := (zpr wq.heap.size wq).alloc (zps _) (.cells #[.bool false, .string ⟨#[]⟩] 34); have HX3 := zpo (zak wq (.cells #[.bool false, .string ⟨#[]⟩] 34)); have HB3 := zpo hb3; have hix := zl6 Ai ci ins r.f1[kk] (wq.alloc (.cells #[.bool false, .string ⟨#[]⟩] 34)) (zqO HI.out (HW.out.alloc HW.out.size _)); have hsu : (r.f1.take (kk + 1)).map (zbp ins vs) = (r.f1.take kk).map (zbp ins vs) ++ [zbp ins vs r.f1[kk]] := by rw [zpU hlt, zqj]; rfl
    have hml : ((r.f1.take kk).map (zbp ins vs)).length = kk := by rw [zp9, zpD]; omega
    have HML := zpo hml; have hpv : zbp ins vs r.f1[kk] = if 0 <= idxF ins r.f1[kk] /\ idxF ins r.f1[kk] < vs.length then vs.getD (idxF ins r.f1[kk]).toNat zV else zV := rfl
    have HSu := zpo hsu; have HPv := zpo hpv; generalize zbp ins vs r.f1[kk] = v at HSu HPv; generalize idxF ins r.f1[kk] = i at hix HPv; generalize r.f1[kk] = n at p0 hix; clear hb3 hsu hml hpv; go_upto_region 6 with fail; generalize wq.alloc (.cells #[.bool false, .string ⟨#[]⟩] 34) = w3 at HX3 HB3 hix |-; have HBl := zpo (zac HW.out HW.out.size HB3.out); by_cases hi : 0 <= i /\ i < vs.length
    . have hP := HPv.out
      rw [if_pos hi] at hP; obtain ⟨hi1, hi2⟩ := hi; obtain ⟨m, rfl⟩ := Int.eq_ofNat_of_zero_le hi1; have hm : m < vs.length := by omega
      obtain ⟨bv, ov, rfl, v0, v1⟩ := zcR (zqO HR.out HBl.out) m hm; have hP2 : v = vs[m] := by rw [hP, zqF, zpw, zpv hm]; rfl
      rw [<- hP2] at v0 v1; have HPv2 : Hid (v = ⟨v.f0, v.f1⟩) := zpo rfl; have y0 := bc0 HX3.out; have y1 := bc1 HX3.out; have hfr0 := zai HX3.out 0; have hfr1 := zai HX3.out 1; clear hP hP2 HPv; go_upto_region 9 with (first | (go_at_call 64; refine hix.mono ?_; rintro e w4 ⟨rfl, rfl⟩))
      have HX5 : Hid (((w3.setCell ⟨wq.heap.size, 0, none⟩ (.bool v.f0)).setCell ⟨wq.heap.size, 1, none⟩ (.string v.f1)).heap[wq.heap.size]? = some (.cells #[.bool v.f0, .string v.f1] 34 (0, 0))) := zpo (zat (zat HX3.out 0 _ rfl) 1 _ rfl); have HBx := zpo ((HB3.out.setCell (p := ⟨wq.heap.size, 0, none⟩) (zps _) (.bool v.f0)).setCell (p := ⟨wq.heap.size, 1, none⟩) (zps _) (.string v.f1)); generalize (w3.setCell ⟨wq.heap.size, 0, none⟩ (.bool v.f0)).setCell ⟨wq.heap.size, 1, none⟩ (.string v.f1) = w5 at HX5 HBx |-; clear y0 y1 hfr0 hfr1 v0 v1; have z0 := bc0 HX5.out; have z1 := bc1 HX5.out; have HO5 := zpo (zqp HO.out HBx.out); have HB5 := zpo (zac HW.out HW.out.size HBx.out); have HWs := zpo HB5.out.size; go_wp2_with (first | ((with_reducible refine zaD (b := .append) (xs := #[.tmp 35, .tmp 37]) rfl ?_); at_builtin; refine Kd.R_append k34 (w0 := w1) w1.heap.size rfl (.tmp 35) (.tmp 37) 25 34 (.agg #[.bool false, .string ⟨#[]⟩]) 24 rfl Tryz.underlying25 zcN rfl (by decide) (by decide) u7 ((r.f1.take kk).map (zbp ins vs)) ⟨v.f0, v.f1⟩ [.bool v.f0, .string v.f1] (fun _ => True) (fun k_ => True /\ some k_ ≠ u7.ownBlock) rfl rfl (zcE _ _ _ ⟨v.f0, v.f1⟩) (fun _ hk => hk) (fun _ _ => trivial) HO5.out HB5.out HWs.out ?aL ?_; (case aL => (have h1 := HML.out; omega)); intro v1 w6 ho hb hg hat; have HO6 : Hid (RVal w6 w1.heap.size v1 ((r.f1.take (kk + 1)).map (zbp ins vs))) := (by show RVal _ _ _ _; rw [HSu.out]; exact ho); have HB6 := zpo hb; clear ho hb hg hat))
      go_roundg (r.f1.length - (kk + 1))
      case measure => omega
      case rel => exact ⟨kk + 1, by omega, by omega, by first | rfl | go_num, ⟨HO6.out⟩, ⟨HB6.out⟩⟩
    . have hP := HPv.out
      rw [if_neg hi] at hP; have HPv2 : Hid (v = ⟨false, ⟨#[]⟩⟩) := zpo hP; clear hP HPv; by_cases hi1 : 0 <= i
      . have hi2 : ¬ i < (vs.length : Int) := fun h => hi ⟨hi1, h⟩
        clear hi; go_upto_region 9 with (first | (go_at_call 64; refine hix.mono ?_; rintro e w4 ⟨rfl, rfl⟩))
        have z0 := bc0 HX3.out; have z1 := bc1 HX3.out; have HO5 := zpo (zqp HO.out HB3.out); have HB5 := zpo (zac HW.out HW.out.size HB3.out); have HWs := zpo HB5.out.size; go_wp2_with (first | ((with_reducible refine zaD (b := .append) (xs := #[.tmp 35, .tmp 37]) rfl ?_); at_builtin; refine Kd.R_append k34 (w0 := w1) w1.heap.size rfl (.tmp 35) (.tmp 37) 25 34 (.agg #[.bool false, .string ⟨#[]⟩]) 24 rfl Tryz.underlying25 zcN rfl (by decide) (by decide) u7 ((r.f1.take kk).map (zbp ins vs)) ⟨false, ⟨#[]⟩⟩ [.bool false, .string ⟨#[]⟩] (fun _ => True) (fun k_ => True /\ some k_ ≠ u7.ownBlock) rfl rfl (zcE _ _ _ ⟨false, ⟨#[]⟩⟩) (fun _ hk => hk) (fun _ _ => trivial) HO5.out HB5.out HWs.out ?aL ?_; (case aL => (have h1 := HML.out; omega)); intro v1 w6 ho hb hg hat; have HO6 : Hid (RVal w6 w1.heap.size v1 ((r.f1.take (kk + 1)).map (zbp ins vs))) := (by show RVal _ _ _ _; rw [HSu.out, HPv2.out]; exact ho); have HB6 := zpo hb; clear ho hb hg hat))
        go_roundg (r.f1.length - (kk + 1))
        case measure => omega
        case rel => exact ⟨kk + 1, by omega, by omega, by first | rfl | go_num, ⟨HO6.out⟩, ⟨HB6.out⟩⟩
      . clear hi
        go_upto_region 9 with (first | (go_at_call 64; refine hix.mono ?_; rintro e w4 ⟨rfl, rfl⟩))
        have z0 := bc0 HX3.out; have z1 := bc1 HX3.out; have HO5 := zpo (zqp HO.out HB3.out); have HB5 := zpo (zac HW.out HW.out.size HB3.out); have HWs := zpo HB5.out.size; go_wp2_with (first | ((with_reducible refine zaD (b := .append) (xs := #[.tmp 35, .tmp 37]) rfl ?_); at_builtin; refine Kd.R_append k34 (w0 := w1) w1.heap.size rfl (.tmp 35) (.tmp 37) 25 34 (.agg #[.bool false, .string ⟨#[]⟩]) 24 rfl Tryz.underlying25 zcN rfl (by decide) (by decide) u7 ((r.f1.take kk).map (zbp ins vs)) ⟨false, ⟨#[]⟩⟩ [.bool false, .string ⟨#[]⟩] (fun _ => True) (fun k_ => True /\ some k_ ≠ u7.ownBlock) rfl rfl (zcE _ _ _ ⟨false, ⟨#[]⟩⟩) (fun _ hk => hk) (fun _ _ => trivial) HO5.out HB5.out HWs.out ?aL ?_; (case aL => (have h1 := HML.out; omega)); intro v1 w6 ho hb hg hat; have HO6 : Hid (RVal w6 w1.heap.size v1 ((r.f1.take (kk + 1)).map (zbp ins vs))) := (by show RVal _ _ _ _; rw [HSu.out, HPv2.out]; exact ho); have HB6 := zpo hb; clear ho hb hg hat))
        go_roundg (r.f1.length - (kk + 1))
        case measure => omega
        case rel => exact ⟨kk + 1, by omega, by omega, by first | rfl | go_num, ⟨HO6.out⟩, ⟨HB6.out⟩⟩
  . have hltz : ¬ (kk : Int) < (r.f1.length : Int) := by omega
    obtain rfl : kk = r.f1.length := by omega
    have hO := HO.out; rw [zqa] at hO; obtain ⟨A5, n5, rfl, _, hC5⟩ := zql hO; rw [zp9] at hC5 |-; have hB := HB.out.trans (HW.out.mono HB.out.size); have hX := zah HK.out HW.out; have hcall := HOf.out wq hB A5 n5 hC5; have HBa := zpo hB; have x0 := bc0 hX; have x1 := bc1 hX; have x2 := bc2 hX; have x3 := bc3 hX; have x4 := bc4 hX; clear hO hC5 hB hX; go_wp2_with (first | (go_at_call 34; refine hcall.mono ?_; rintro e w7 ⟨v7, rfl, hR7, hb7⟩; have HR7 := zpo (zqD hR7 HBa.out.size); have HB7 := zpo (zac HBa.out HBa.out.size hb7); clear hR7 hb7))
    go_ret
    exact ⟨_, rfl, HR7.out, HB7.out⟩
def SetIs (w : World) (b n : Nat) (s : zaa -> Bool) : Prop := ∃ f, MapIs zp0 9 w b n f /\ ∀ k, (f k).getD (.bool false) = .bool (s k)
theorem SetIs.made (w : World) : SetIs (w.alloc (.map #[] 0)) w.heap.size 0 (fun _ => false) := ⟨_, MapIs.made w, fun _ => rfl⟩
theorem SetIs.lt {w : World} {b n : Nat} {s : zaa -> Bool} (h : SetIs w b n s) : b < w.heap.size := by obtain ⟨f, h, _⟩ := h; exact h.lt
theorem SetIs.mono {w : World} {b n n' : Nat} {s : zaa -> Bool} (h : SetIs w b n s) (hn : n <= n') : SetIs w b n' s := by obtain ⟨f, h, h2⟩ := h; exact ⟨f, h.mono hn, h2⟩
theorem SetIs.below {w w' : World} {b n : Nat} {s : zaa -> Bool} (h : SetIs w b n s) (hb : Below w.heap.size w w') : SetIs w' b n s := by obtain ⟨f, h, h2⟩ := h; exact ⟨f, h.below hb, h2⟩
theorem SetIs.grown {w w' : World} {b n : Nat} {s : zaa -> Bool} {row : Option Nat} (h : SetIs w b n s) (hg : w.grownBy w' row) (hne : some b ≠ row) : SetIs w' b n s := by obtain ⟨f, h, h2⟩ := h; exact ⟨f, h.grown hg hne, h2⟩
theorem MapIs.ne_cells {w : World} {kt b n : Nat} {f : zaa -> Option Value} (h : MapIs zp0 kt w b n f) {g t : Nat} {cs : Array Value} {fr : Nat × Nat} (hg : w.heap[g]? = some (.cells cs t fr)) : b ≠ g := by
 rintro rfl; obtain ⟨D, ⟨es, clock, hb, _⟩, _⟩ := h; rw [hb] at hg; cases hg
theorem SetIs.ne_cells {w : World} {b n : Nat} {s : zaa -> Bool} (h : SetIs w b n s) {g t : Nat} {cs : Array Value} {fr : Nat × Nat} (hg : w.heap[g]? = some (.cells cs t fr)) : b ≠ g := by obtain ⟨f, h, _⟩ := h; exact h.ne_cells hg
theorem SetIs.look {w : World} {b n : Nat} {s : zaa -> Bool} (h : SetIs w b n s) (k : ByteArray) (hs : k.size <= maxLen) :
 (Instr.lookup 119 (.map (some b)) (.string k) false).run zp0 w = .ok (.bool (s k.data.toList)) w := by
 obtain ⟨f, h, h2⟩ := h; rw [h.look Tryz.underlying9 Tryz.underlying119 (Tryz.zeroValue4 w) k hs]; exact congrArg (fun v => Result.ok v w) (h2 k.data.toList)
def addS (s : zaa -> Bool) (k : zaa) : zaa -> Bool := fun x => s x || x == k
theorem SetIs.put {w : World} {b n : Nat} {s : zaa -> Bool} (h : SetIs w b n s) (hn : n < maxLen) (k : ByteArray) (hs : k.size <= maxLen) :
 ∃ w', (Instr.mapUpdate 119 (.map (some b)) (.string k) (.bool true)).run zp0 w = .ok () w' /\ SetIs w' b (n + 1) (addS s k.data.toList) /\ w.grownBy w' (some b) := by
 obtain ⟨f, h, h2⟩ := h; obtain ⟨w', hrun, h', hg⟩ := h.store Tryz.underlying9 Tryz.underlying119 hn k hs (.bool true); refine ⟨w', hrun, ⟨_, h', fun x => ?_⟩, hg⟩
 unfold setF addS; by_cases e : x = k.data.toList
 . rw [if_pos e]
   simp [e]
 . rw [if_neg e, h2 x]
   simp [e]
def addL (s : zaa -> Bool) (l : List zaa) : zaa -> Bool := fun x => s x || l.contains x
theorem zfG (s : zaa -> Bool) : addL s [] = s := by funext x; simp [addL]
theorem zeC (s : zaa -> Bool) (l : List zaa) (k : zaa) : addL s (l ++ [k]) = addS (addL s l) k := by
 funext x
 unfold addL addS; rw [Bool.or_assoc]; congr 1
 rw [Bool.eq_iff_iff]; simp
end X
namespace X
def zaw (w : zaa -> Bool) : List zb7 -> List Bool × (zaa -> Bool)
 | [] => ([], w)
 | s :: r => ((zaw w r).2 s.out :: (zaw w r).1, fun x => (zaw w r).2 x || ((zaw w r).2 s.out && s.args.contains x))
def zcq (outs : List zaa) : List zb7 -> List Bool
 | [] => []
 | s :: r => (outs.contains s.out || (r.zip (zcq outs r)).any fun p => p.2 && p.1.args.contains s.out) :: zcq outs r
theorem zk9 (outs : List zaa) : ∀ L : List zb7, (zaw (fun x => outs.contains x) L).1 = zcq outs L /\ ∀ x, (zaw (fun x => outs.contains x) L).2 x = (outs.contains x || (L.zip (zcq outs L)).any fun p => p.2 && p.1.args.contains x)
 | [] => ⟨rfl, fun x => by simp [zaw, zcq]⟩
 | s :: r => by
  obtain ⟨h1, h2⟩ := zk9 outs r; have hd : (zaw (fun x => outs.contains x) r).2 s.out = (outs.contains s.out || (r.zip (zcq outs r)).any fun p => p.2 && p.1.args.contains s.out) := h2 s.out
  refine ⟨?_, fun x => ?_⟩
  . show (zaw (fun x => outs.contains x) r).2 s.out :: (zaw (fun x => outs.contains x) r).1 = _
    rw [h1, hd]; rfl
  . show ((zaw (fun x => outs.contains x) r).2 x || ((zaw (fun x => outs.contains x) r).2 s.out && s.args.contains x)) = _
    rw [h2 x, hd]; show _ = (outs.contains x || ((((outs.contains s.out || (r.zip (zcq outs r)).any fun p => p.2 && p.1.args.contains s.out)) && s.args.contains x) || (r.zip (zcq outs r)).any fun p => p.2 && p.1.args.contains x))
    generalize (r.zip (zcq outs r)).any (fun p => p.2 && p.1.args.contains x) = u
    generalize ((outs.contains s.out || (r.zip (zcq outs r)).any fun p => p.2 && p.1.args.contains s.out) && s.args.contains x) = v
    cases outs.contains x <;> cases u <;> cases v <;> rfl
theorem zgh (w : zaa -> Bool) : ∀ L : List zb7, (zaw w L).1.length = L.length
 | [] => rfl
 | s :: r => by show (zaw w r).1.length + 1 = _; rw [zgh w r]; rfl
def zaV : List zaa -> List zaa
 | [] => []
 | [x] => [x]
 | x :: y :: r => if x = y then zaV (y :: r) else x :: zaV (y :: r)
theorem zfW : ∀ (l : List zaa) (x : zaa), x ∈ zaV l ↔ x ∈ l
 | [], x => Iff.rfl
 | [y], x => Iff.rfl
 | y :: z :: r, x => by
  unfold zaV; split
  . rename_i h
    rw [zfW (z :: r) x, h]; simp
  . rw [zqH, zfW (z :: r) x, zqH, zqH]
    simp only [zqH]
def zcj (r : zc7) (m : List Bool) : List zaa := zaV (((r.steps.zip m).flatMap fun p => p.1.args.filter fun a => p.2 && r.ins.contains a).mergeSort fun x y => decide (x <= y))
end X
namespace X
open Go.RowKit Go.Maps YtdpgdnpddndeoaaGreatDoorW.PrintWords YtdpgdnpddndeoaaGreatDoorW.PrintMore YtdpgdnpddndeoaaGreatDoorW.PrintLast
abbrev zcl (w : World) (base : Nat) (v : Value) (l : List Bool) : Prop := Kd.R Kd.bool 4 w base (fun _ => True) v l
def zl9 (l : List Bool) (w : World) (e : Ending) (w' : World) : Prop := ∃ v, e = .returned v /\ zcl w' w.heap.size v l /\ Below w.heap.size w w'
theorem znm (w : zaa -> Bool) (L : List zb7) (j : Nat) (h : j < L.length) : zaw w (L.drop j) = ((zaw w (L.drop (j + 1))).2 L[j].out :: (zaw w (L.drop (j + 1))).1, fun x => (zaw w (L.drop (j + 1))).2 x || ((zaw w (L.drop (j + 1))).2 L[j].out && L[j].args.contains x)) := by
 rw [List.drop_eq_getElem_cons h]; rfl
theorem zjU (j : Nat) (b : Bool) (M : List Bool) : (List.replicate (j + 1) false ++ M).set j b = List.replicate j false ++ b :: M := by
 rw [List.set_append_left _ _ (by simp), List.replicate_succ', List.set_append_right _ _ (by simp)]
 simp
theorem zei (r : zaj) (B1 : Option Addr) (c1 : Nat) (B2 : Option Addr) (c2 : Nat) (B3 : Option Addr) (c3 : Nat) (B4 : Option Addr) (c4 : Nat) (A : Option Addr) (c : Nat) (fs : List ByteArray) (w : World)
 (h4 : Kd.C k24 w B4 r.f4.length r.f4) (hr : Kd.C zp6 w A fs.length fs) (hF : FitR r) (hl : fs.length <= 1000) (hsz : ∀ x ∈ fs, x.size <= maxLen) :
 Calls zp0 66 #[.agg (zao r B1 c1 B2 c2 B3 c3 B4 c4), .slice A fs.length c] w (zl9 (zaw (fun x => (zab fs).contains x) (zav r).steps).1 w) := by
 have hn4 := hF.steps; have hW := (zpr w.heap.size w).alloc (zps _) (.cells (zao r B1 c1 B2 c2 B3 c3 B4 c4) 45); have HK := zpo (zak w (.cells (zao r B1 c1 B2 c2 B3 c3 B4 c4) 45)); have HB := zpo hW; have H4 := zpo (zqO h4 hW); have HR := zpo (zqO hr hW); have HF := zpo hF; have HS := zpo hsz; obtain ⟨st, hst⟩ : ∃ st, st = (zav r).steps := ⟨_, rfl⟩; have hsl : st.length = r.f4.length := by rw [hst]; exact zp9 ..
 have HSl := zpo hsl; have HSt := zpo hst; rw [<- hst]; obtain ⟨w0, hw0⟩ : ∃ w0 : zaa -> Bool, w0 = fun x => (zab fs).contains x := ⟨_, rfl⟩
 rw [<- hw0]; have HW0 := zpo hw0; clear hw0; clear hW h4 hr hF hsz hst hsl; unfold zao at *; have hmm := @run_makeMap zp0; go_enter Tryz.func66, Tryz.ntmps66
 go_upto_region 1 with fail; generalize w.alloc (.cells #[.string r.f0, .slice B1 r.f1.length c1, .slice B2 r.f2.length c2, .slice B3 r.f3.length c3, .slice B4 r.f4.length c4] 45) = w1 at HB HK H4 HR |-; have k4 := bc4 HK.out; have hz0 : (0 : Int) <= (r.f4.length : Int) := by omega
 go_upto_region 2 with (first | (at_make; refine Kd.R_make Kd.bool (w0 := w1) w1.heap.size 4 rfl rfl 55 (.tmp 15) (.tmp 15) rfl (r.f4.length : Int) rfl rfl Tryz.underlying55 (.bool false) 1 info4 rfl (by decide) (by decide) false (okp := fun _ => True) (ok := fun _ => True) rfl (fun _ h => h) trivial hz0 (by omega) (zpr _ _) (zps _) ?_; intro v1 w2 ho hb hg hv; have HO2 := zpo ho; have HB2 := zpo hb; clear ho hb hg hv))
 rw [zqF] at HO2; have HO3 := zpo (zqp HO2.out ((zpr w2.heap.size w2).alloc (zps _) (.map #[] 0))); have HB3 : Hid (Below w1.heap.size w1 (w2.alloc (.map #[] 0))) := zpo (HB2.out.alloc HB2.out.size _); have HE3 := zpo (SetIs.made w2); have HZ2 := zpo HB2.out.size; have HRt := zpo (Kd.R_lt HO2.out); clear HO2 HB2; go_upto_region 3 with fail; generalize w2.heap.size = m at HE3 HZ2 HRt |-; generalize w2.alloc (.map #[] 0) = w3 at HO3 HB3 HE3 |-; go_wp2_with fail; go_loopg [8, 20] fs.length (fun gg _ s20 wr => ∃ kk : Nat, kk <= fs.length /\ fs.length - kk <= gg /\ s20 = .int .i64 kk /\ Aside0 (SetIs wr m kk (addL (fun _ => false) ((zab fs).take kk))) /\ Aside0 (zcl wr w1.heap.size v1 (List.replicate r.f4.length false)) /\ Aside0 (Below w1.heap.size w1 wr))
 case atStart => exact ⟨0, zqf _, by omega, rfl, ⟨by rw [zqX, zfG]; exact HE3.out⟩, ⟨HO3.out⟩, ⟨HB3.out⟩⟩
 case round =>
  obtain ⟨kk, hkk, hgk, rfl, HE, HO, HW⟩ := hrel; by_cases hlt : kk < fs.length
  . have hltz : (kk : Int) < (fs.length : Int) := by omega
    obtain ⟨b, o, rfl, p0⟩ := zbj (zqO HR.out HW.out) kk hlt; obtain ⟨w4, hrun, hE4, hg4⟩ := HE.out.put (by unfold maxLen; omega) fs[kk] (HS.out _ (zqJ hlt))
    have hst : (zab fs).take (kk + 1) = (zab fs).take kk ++ [fs[kk].data.toList] := by rw [zpU (by rw [zaL]; exact hlt), zce fs kk hlt]
    rw [<- zeC, <- hst] at hE4; have HE4 := zpo hE4; have HW4 : Hid (Below w1.heap.size w1 w4) := zpo (HW.out.grown hg4 HW.out.size (fun k hk => by cases hk; exact HZ2.out))
    have HO4 : Hid (zcl w4 w1.heap.size v1 (List.replicate r.f4.length false)) := zpo (Kd.R_mono (Kd.R_step (Kd.R_mono (Kd.R_bound HO.out) (fun k hk => hk)) (fun k hk hlt => hg4.block k hlt (fun e => by
     cases e
     obtain ⟨_, _, _, q, _, cells, hc⟩ := hk; exact HE.out.ne_cells hc rfl))) (fun _ _ => trivial))
    generalize fs[kk] = n at p0 hrun; clear hst hE4 hg4; go_wp2_with fail; go_roundg (fs.length - (kk + 1))
    case measure => omega
    case rel => exact ⟨kk + 1, by omega, by omega, by go_num, ⟨HE4.out⟩, ⟨HO4.out⟩, ⟨HW4.out⟩⟩
  . have hltz : ¬ (kk : Int) < (fs.length : Int) := by omega
    obtain rfl : kk = fs.length := by omega
    have HE1 : Hid (SetIs wr m (fs.length + 0) (zaw w0 (st.drop r.f4.length)).2) := by
     have h := HE.out; have e : (zaw w0 (st.drop r.f4.length)).2 = addL (fun _ => false) ((zab fs).take fs.length) := by
      rw [zqe (by rw [HSl.out]; exact zps _), zqS (by rw [zaL]; exact zps _), HW0.out]
      funext x
      simp [zaw, addL]
     show SetIs _ _ _ _
     rw [e]; exact h
    have HO1 : Hid (zcl wr w1.heap.size v1 (List.replicate r.f4.length false ++ (zaw w0 (st.drop r.f4.length)).1)) := by
     have e : (zaw w0 (st.drop r.f4.length)).1 = [] := by rw [zqe (by rw [HSl.out]; exact zps _)]; rfl
     show zcl _ _ _ _
     rw [e, List.append_nil]; exact HO.out
    have k4' := zad HW.out k4; go_upto_region 8 with fail; clear HE HO HE3 HO3 HB3; go_wp2_with fail; go_loopg [9, 10, 12] r.f4.length (fun gg s9 _ _ wr => ∃ jj : Nat, jj <= r.f4.length /\ jj <= gg /\ s9 = .int .i64 ((jj : Int) - 1) /\ Aside0 (SetIs wr m (fs.length + (r.f4.length - jj) * 1000) (zaw w0 (st.drop jj)).2) /\ Aside0 (zcl wr w1.heap.size v1 (List.replicate jj false ++ (zaw w0 (st.drop jj)).1)) /\ Aside0 (Below w1.heap.size w1 wr))
    case atStart => exact ⟨r.f4.length, zps _, zps _, rfl, ⟨by rw [Nat.sub_self, Nat.zero_mul]; exact HE1.out⟩, ⟨HO1.out⟩, ⟨HW.out⟩⟩
    case round =>
     obtain ⟨jj, hjj, hgj, rfl, HE, HO, HW5⟩ := hrel; obtain ⟨wq, rfl⟩ : ∃ wq, wq = wr := ⟨wr, rfl⟩; cases jj with
     | zero =>
      have hO := HO.out; rw [List.drop_zero, List.replicate_zero, List.nil_append] at hO; have HOf := zpo hO; clear hO; go_wp2_with fail; go_ret
      exact ⟨_, rfl, zqD HOf.out HB.out.size, HB.out.trans (HW5.out.mono HB.out.size)⟩
     | succ j =>
      have ej : (((j + 1 : Nat) : Int) - 1) = (j : Int) := by omega
      rw [ej]; have hlj : j < r.f4.length := by omega
      have hljz : (j : Int) < (r.f4.length : Int) := by omega
      have hj0 : (0 : Int) <= (j : Int) := by omega
      clear ej; have k4q := zad HW5.out k4; obtain ⟨b, o, C2, d2, C3, d3, rfl, p0, p1, p2, p3, p4, g2, g3⟩ := zdz H4.out j hlj; replace p0 := zad HW5.out p0
      replace p1 := zad HW5.out p1
      replace p2 := zad HW5.out p2
      replace p3 := zad HW5.out p3
      replace p4 := zad HW5.out p4
      have hdr := znm w0 st j (by rw [HSl.out]; exact hlj)
      have hsx : st[j]'(by rw [HSl.out]; exact hlj) = zaN r.f4[j] := by
       have h := HSt.out; subst h; exact List.getElem_map ..
      rw [hsx] at hdr; obtain ⟨hxo, hxl, hxn⟩ := HF.out.stepN _ (zqJ hlj); have hml : (List.replicate (j + 1) false ++ (zaw w0 (st.drop (j + 1))).1).length = r.f4.length := by
       rw [zpF, zqW, zgh, List.length_drop, HSl.out]; omega
      have HDr := zpo hdr; have HXo := zpo hxo; have HXn := zpo hxn; have HSm := zpo (zjU j ((zaw w0 (st.drop (j + 1))).2 (zaN r.f4[j]).out) (zaw w0 (st.drop (j + 1))).1); have HEq : Hid (SetIs wq m (fs.length + (r.f4.length - (j + 1)) * 1000) (zaw w0 (st.drop (j + 1))).2) := zpo HE.out; have HOq : Hid (zcl wq w1.heap.size v1 (List.replicate (j + 1) false ++ (zaw w0 (st.drop (j + 1))).1)) := zpo HO.out; generalize hx : r.f4[j] = x at p0 p1 p2 p3 p4 g2 g3 HDr HXo HXn hxl HSm; generalize (zaw w0 (st.drop (j + 1))).1 = M at hml HDr HSm HOq; generalize (zaw w0 (st.drop (j + 1))).2 = s at HDr HSm HEq; clear hx hdr hsx hxo hxn HE HO; obtain ⟨g, cap, hv1, hbg, hgl, _⟩ := Kd.R_form HOq.out (by rw [hml]; omega)
      rw [hml] at hv1; subst hv1; have hgz : (g : Nat) < wq.heap.size := hgl; have HGb : Hid (w1.heap.size <= g) := zpo hbg; have HGz := zpo hgz; have hb3 := (zpr wq.heap.size wq).alloc (zps _) (.cells #[.string x.f0, .int .i64 x.f1, .slice C2 x.f2.length d2, .slice C3 x.f3.length d3, .int .i64 x.f4] 24); have HX3 := zpo (zak wq (.cells #[.string x.f0, .int .i64 x.f1, .slice C2 x.f2.length d2, .slice C3 x.f3.length d3, .int .i64 x.f4] 24)); have HB3 : Hid (Below w1.heap.size w1 (wq.alloc (.cells #[.string x.f0, .int .i64 x.f1, .slice C2 x.f2.length d2, .slice C3 x.f3.length d3, .int .i64 x.f4] 24))) := zpo (HW5.out.alloc HW5.out.size _); have HG2 := zpo g2; have HE3 := zpo (HEq.out.below hb3); have HO3 := zpo (zqp HOq.out hb3); clear g2 g3 hb3 hbg hgl hgz hml; go_upto_region 12 with fail; generalize wq.alloc (.cells #[.string x.f0, .int .i64 x.f1, .slice C2 x.f2.length d2, .slice C3 x.f3.length d3, .int .i64 x.f4] 24) = w3 at HX3 HB3 HE3 HO3 |-; have x0 := bc0 HX3.out; have hlk := HE3.out.look x.f0 HXo.out; obtain ⟨hc0, hf0⟩ := Kd.R_celln false HO3.out (j : Int) hj0 (by omega)
      have hP := Kd.R_putn HO3.out (j : Int) (s x.f0.data.toList); rw [zqF] at hc0 hf0 hP; have hrep : rdOf false (List.replicate (j + 1) false ++ M) (j : Int) = false := by
       unfold rdOf; rw [zqF, zpw, List.getElem?_append_left (by simp), List.getElem?_replicate]
       simp
      rw [hrep] at hc0; have hSm2 := HSm.out; have hso : (zaN x).out = x.f0.data.toList := rfl; rw [hso] at hSm2; rw [hSm2] at hP; have HDr2 : Hid (zaw w0 (st.drop j) = (s x.f0.data.toList :: M, fun y => s y || (s x.f0.data.toList && (zab x.f2).contains y))) := zpo HDr.out
      have HX4 : Hid ((w3.setCell ⟨g, j, none⟩ (.bool (s x.f0.data.toList))).heap[wq.heap.size]? = some (.cells #[.string x.f0, .int .i64 x.f1, .slice C2 x.f2.length d2, .slice C3 x.f3.length d3, .int .i64 x.f4] 24 (0, 0))) :=
       zpo ((Below.heap_setCell w3 ⟨g, j, none⟩ (.bool (s x.f0.data.toList)) wq.heap.size (by have := HGz.out; show wq.heap.size ≠ g; omega)).trans HX3.out)
      have HP4 := zpo hP; have HB4 : Hid (Below w1.heap.size w1 (w3.setCell ⟨g, j, none⟩ (.bool (s x.f0.data.toList)))) := zpo (HB3.out.setCell (p := ⟨g, j, none⟩) HGb.out _); have hng : m ≠ g := by
       obtain ⟨cells, hcc⟩ := Kd.R_typed HO3.out g (by simp [Value.ownBlock])
       exact HE3.out.ne_cells hcc
      have HE4 : Hid (SetIs (w3.setCell ⟨g, j, none⟩ (.bool (s x.f0.data.toList))) m (fs.length + (r.f4.length - (j + 1)) * 1000) s) := zpo (HE3.out.grown (zeo w3 g j _) (by intro e; injection e; omega))
      have HNg := zpo hng; generalize s x.f0.data.toList = b0 at hlk HP4 HDr2 HX4 HB4 HE4; clear hP hSm2 hso HSm HDr hrep hng; go_upto_region 13 with fail; generalize w3.setCell ⟨g, j, none⟩ (.bool b0) = w4 at HP4 HX4 HB4 HE4 |-; obtain ⟨hc1, _⟩ := Kd.R_celln false HP4.out (j : Int) hj0 (by omega)
      rw [zqF] at hc1; have hrd : rdOf false (List.replicate j false ++ b0 :: M) (j : Int) = b0 := by unfold rdOf; simp [zpw]
      rw [hrd] at hc1; have HOj : Hid (zcl w4 w1.heap.size (.slice (some ⟨g, 0, none⟩) r.f4.length cap) (List.replicate j false ++ (zaw w0 (st.drop j)).1)) := by
       show zcl _ _ _ _
       rw [HDr2.out]; exact HP4.out
      have x2 := bc2 HX4.out; clear hrd hc0 hf0 hlk x0; cases b0 with
      | false =>
       have HEj : Hid (SetIs w4 m (fs.length + (r.f4.length - j) * 1000) (zaw w0 (st.drop j)).2) := by
        show SetIs _ _ _ _
        rw [HDr2.out]; have e : (fun y => s y || (false && (zab x.f2).contains y)) = s := by funext y; simp
        dsimp only; rw [e]; exact HE4.out.mono (Nat.add_le_add_left (zpK _ (by omega)) _)
       go_wp2_with fail; go_roundg j
       case measure => omega
       case rel => exact ⟨j, by omega, zps _, by first | rfl | go_num, ⟨HEj.out⟩, ⟨HOj.out⟩, ⟨HB4.out⟩⟩
      | true =>
       go_wp2_with fail; go_loopg [12, 54] x.f2.length (fun gg _ s54 wi => ∃ k : Nat, k <= x.f2.length /\ x.f2.length - k <= gg /\ s54 = .int .i64 k /\ Aside0 (SetIs wi m (fs.length + (r.f4.length - (j + 1)) * 1000 + k) (addL s ((zab x.f2).take k))) /\ Aside0 (zcl wi w1.heap.size (.slice (some ⟨g, 0, none⟩) r.f4.length cap) (List.replicate j false ++ (zaw w0 (st.drop j)).1)) /\ Aside0 (Below w1.heap.size w1 wi))
       case atStart => exact ⟨0, zqf _, by omega, rfl, ⟨by rw [zqX, zfG]; exact HE4.out⟩, ⟨HOj.out⟩, ⟨HB4.out⟩⟩
       case round =>
        obtain ⟨k, hk, hgk2, rfl, HEk, HOk, HBk⟩ := hrel; by_cases hlk2 : k < x.f2.length
        . have hlkz : (k : Int) < (x.f2.length : Int) := by omega
          obtain ⟨b5, o5, rfl, q0⟩ := zbj (zqO HG2.out HBk.out) k hlk2; have hbound : fs.length + (r.f4.length - (j + 1)) * 1000 + k < maxLen := by
           have : (r.f4.length - (j + 1)) * 1000 <= 1000 * 1000 := zpK _ (by omega)
           unfold maxLen; omega
          obtain ⟨w6, hrun, hE6, hg6⟩ := HEk.out.put hbound x.f2[k] (HXn.out _ (zqJ hlk2)); have hst2 : (zab x.f2).take (k + 1) = (zab x.f2).take k ++ [x.f2[k].data.toList] := by rw [zpU (by rw [zaL]; exact hlk2), zce x.f2 k hlk2]
          rw [<- zeC, <- hst2] at hE6; have HE6 := zpo hE6; have HW6 : Hid (Below w1.heap.size w1 w6) := zpo (HBk.out.grown hg6 HBk.out.size (fun k hk => by cases hk; exact HZ2.out))
          have HO6 : Hid (zcl w6 w1.heap.size (.slice (some ⟨g, 0, none⟩) r.f4.length cap) (List.replicate j false ++ (zaw w0 (st.drop j)).1)) := zpo (Kd.R_mono (Kd.R_step (Kd.R_bound HOk.out) (fun k hk hlt => hg6.block k hlt (fun e => by
           cases e
           obtain ⟨_, _, _, q, _, cells, hc⟩ := hk; exact HEk.out.ne_cells hc rfl))) (fun _ _ => trivial))
          generalize x.f2[k] = n at q0 hrun; clear hst2 hE6 hg6 hbound; go_wp2_with fail; go_roundg (x.f2.length - (k + 1))
          case measure => omega
          case rel => exact ⟨k + 1, by omega, by omega, by first | rfl | go_num, ⟨HE6.out⟩, ⟨HO6.out⟩, ⟨HW6.out⟩⟩
        . have hlkz : ¬ (k : Int) < (x.f2.length : Int) := by omega
          obtain rfl : k = x.f2.length := by omega
          have HEj : Hid (SetIs wr m (fs.length + (r.f4.length - j) * 1000) (zaw w0 (st.drop j)).2) := by
           have h := HEk.out; rw [zqS (by rw [zaL]; exact zps _)] at h
           show SetIs _ _ _ _
           rw [HDr2.out]; have e : (fun y => s y || (true && (zab x.f2).contains y)) = addL s (zab x.f2) := by funext y; simp [addL]
           dsimp only; rw [e]; refine h.mono ?_; have : (r.f4.length - j) * 1000 = (r.f4.length - (j + 1)) * 1000 + 1000 := by
            have e2 : r.f4.length - j = (r.f4.length - (j + 1)) + 1 := by omega
            rw [e2, Nat.add_mul]
           omega
          go_wp2_with fail; go_roundg j
          case measure => omega
          case rel => exact ⟨j, by omega, zps _, by first | rfl | go_num, ⟨HEj.out⟩, ⟨HOk.out⟩, ⟨HBk.out⟩⟩
end X
namespace X
open Go.RowKit Go.Maps Go.Sort YtdpgdnpddndeoaaGreatDoorW.PrintWords YtdpgdnpddndeoaaGreatDoorW.PrintMore YtdpgdnpddndeoaaGreatDoorW.PrintLast
theorem zfy : ∀ l : List zaa, (zaV l).length <= l.length
 | [] => zps _
 | [_] => zps _
 | y :: z :: r => by
  have := zfy (z :: r); unfold zaV; split
  . simp only [List.length_cons] at this |-; omega
  . simp only [List.length_cons] at this |-; omega
theorem zgw : ∀ (l : List zaa) (x : zaa), zaV (l ++ [x]) = zaV l ++ if l.getLast? = some x then [] else [x]
 | [], x => rfl
 | [y], x => by
  show zaV [y, x] = _
  unfold zaV; by_cases h : y = x
  . rw [if_pos h, if_pos (by rw [h]; rfl), h]
    rfl
  . rw [if_neg h, if_neg (by simpa using h)]
    rfl
 | y :: z :: r, x => by
  have ih := zgw (z :: r) x; have hl : (y :: z :: r).getLast? = (z :: r).getLast? := List.getLast?_cons_cons ..; rw [hl]; show zaV (y :: z :: (r ++ [x])) = _
  unfold zaV; split
  . exact ih
  . rw [show z :: (r ++ [x]) = (z :: r) ++ [x] from rfl, ih]
    rfl
theorem zf1 (l : List zaa) (j : Nat) (h : j < l.length) : l.toArray[j]! = l[j] := by
 rw [getElem!_pos l.toArray j (by simpa using h)]
 simp
theorem zhD (l : List zaa) (x : zaa) : ∀ m, m <= l.length -> Lib.compactUpTo (l ++ [x]).toArray m = Lib.compactUpTo l.toArray m
 | 0, _ => rfl
 | m + 1, h => by
  have e : ∀ j, j < l.length -> (l ++ [x]).toArray[j]! = l.toArray[j]! := by
   intro j hj; rw [zf1 _ _ (by simp; omega), zf1 _ _ hj, List.getElem_append_left hj]
  rw [Lib.compactUpTo_succ, Lib.compactUpTo_succ, zhD l x m (by omega), e m (by omega)]
  have hk : Lib.keeps (l ++ [x]).toArray m = Lib.keeps l.toArray m := by
   unfold Lib.keeps; rw [e m (by omega), e (m - 1) (by omega)]
  rw [hk]
theorem zoe (l : List zaa) : Lib.compact l = zaV l := by
 have key : ∀ (n : Nat) (l : List zaa), l.length = n -> Lib.compact l = zaV l := by
  intro n; induction n with
  | zero =>
   intro l h; have := zpu h; subst this; rfl
  | succ n ih =>
   intro l h; rcases List.eq_nil_or_concat l with h0 | ⟨k, x, hk⟩
   . rw [h0] at h; simp at h
   . rw [List.concat_eq_append] at hk
     subst hk; have hkl : k.length = n := by simpa using h
     rw [zgw, <- ih k hkl]; unfold Lib.compact; rw [zpF, List.length_singleton, Lib.compactUpTo_succ, zhD k x k.length (zps _)]; congr 1
     have hx : (k ++ [x]).toArray[k.length]! = x := by simp
     rw [hx]; cases hkn : k.length with
     | zero =>
      have := zpu hkn; subst this; rfl
     | succ m =>
      have hlast : (k ++ [x]).toArray[m + 1 - 1]! = k[m] := by
       rw [Nat.add_sub_cancel, zf1 _ m (by simp; omega), List.getElem_append_left (by omega)]
      have hgl : k.getLast? = some k[m] := by
       have e : k.length - 1 = m := by omega
       rw [List.getLast?_eq_getElem?, e, zpv (by omega)]
      have hx2 : (k ++ [x]).toArray[m + 1]! = x := by rw [<- hkn]; exact hx
      unfold Lib.keeps; rw [hlast, hx2, hgl]; by_cases he : x = k[m]
      . rw [if_neg (by simp [<- he]), if_pos (by rw [<- he])]
      . rw [if_pos (by simp [he]), if_neg (by simpa using Ne.symm he)]
 exact key l.length l rfl
def zbO (l : List ByteArray) : List ByteArray := (zaV (zab l)).map mk
theorem ze1 (l : List ByteArray) : (zae l).length = l.length := by unfold zae; rw [zp9, List.length_mergeSort, zp9]
theorem zgd (base : Nat) (v : Value) (l : List ByteArray) (w : World) (hO : RS w base v l) (hbytes : l.length * 16 <= 140737488355328) :
 Calls zp0 93 #[v] w fun e w' => e = .returned (.tuple #[]) /\ RS w' base v (zae l) /\ w.grownBy w' v.ownBlock := by
 have hown := Kd.own_of_R hO; rcases hown.2 with ⟨rfl, hz⟩ | ⟨gb, cap, cur, rfl, hbase, hgb, r1, r2, r3, r4⟩
 . have hss : l = [] := zpu hz
   subst hss; have cS := Go.Proofs.AnyM.slices_Sort_string_none Go.Proofs.Tryz.laysSort none 0 w; change Calls zp0 93 _ _ _ at cS
   refine cS.mono fun e w' ⟨he, hw⟩ => ⟨he, ?_, ?_⟩
   . rw [hw, show zae [] = [] by simp [zae]]
     exact Kd.R_nil _ _ _ _ _
   . rw [hw]; exact World.grownBy.refl _ _
 . have r4' : cur.toList.take l.length = (l.map fun x => x.data.toList).map encStr := by
    rw [<- zfj]; have h := r4; rw [zqV] at h; exact h
   have hH : Holds encStr w gb 0 (l.map fun x => x.data.toList).toArray := Go.holds_of_block hgb (by simpa using r4')
   have hgl : gb < w.heap.size := (Array.getElem?_eq_some_iff.1 hgb).1; have hsz : (l.map fun x => x.data.toList).length < 4611686018427387904 := by rw [zp9]; omega
   have cS := Go.Proofs.AnyM.slices_Sort_string Go.Proofs.Tryz.laysSort gb 0 cap (l.map fun x => x.data.toList) w hH hgl hsz
   change Calls zp0 93 _ _ _ at cS
   rw [zp9] at cS; refine cS.mono fun e w' ⟨he, nn, os, hw⟩ => ⟨he, ?_, ?_⟩
   . rw [hw]
     refine Kd.R_of_own (h1 := fun _ => rfl) ?_ (fun _ _ => trivial)
     have hos := ownsRow_sorted (n := nn) (os := os) (ss := l.map fun x => x.data.toList) (ts := (l.map fun x => x.data.toList).mergeSort fun x y => decide (x <= y)) (by simp) hbase hgb (by rw [zp9]; exact r1) r2 r3
     rw [zp9] at hos; rw [ze1]; have hrs : encs Value.string (zae l) = ((l.map fun x => x.data.toList).mergeSort fun x y => decide (x <= y)).map encStr := by
      unfold zae encs; rw [zp8]; rfl
     rw [hrs]; exact hos
   . rw [hw]; exact grownBy_sorted _
theorem ziL (base : Nat) (v : Value) (l : List ByteArray) (w : World) (hO : RS w base v l) :
 Calls zp0 94 #[v] w fun e w' => ∃ v', e = .returned v' /\ RS w' base v' (zbO l) /\ w.grownBy w' v.ownBlock := by
 have hown := Kd.own_of_R hO; rcases hown.2 with ⟨rfl, hz⟩ | ⟨gb, cap, cur, rfl, hbase, hgb, r1, r2, r3, r4⟩
 . have hss : l = [] := zpu hz
   subst hss; have cS := Go.Proofs.Any.slices_Compact_string_empty Go.Proofs.Tryz.lays194 none 0 w; change Calls zp0 94 _ _ _ at cS
   refine cS.mono fun e w' ⟨he, hw⟩ => ⟨_, he, ?_, ?_⟩
   . exact Kd.R_nil _ _ _ _ _
   . rw [hw]; exact World.grownBy.refl _ _
 . have r4' : cur.toList.take l.length = (l.map fun x => x.data.toList).map encStr := by
    rw [<- zfj]; have h := r4; rw [zqV] at h; exact h
   have hH : Holds encStr w gb 0 (l.map fun x => x.data.toList).toArray := Go.holds_of_block hgb (by simpa using r4')
   have cS := Go.Proofs.Any.slices_Compact_string Go.Proofs.Tryz.lays194 gb 0 cap (l.map fun x => x.data.toList) w hH (by rw [zp9]; simp only [maxLen] at r2; omega) (by rw [zp9]; exact r1)
   change Calls zp0 94 _ _ _ at cS
   rw [zoe, zp9] at cS; have hle : (zaV (zab l)).length <= l.length := by
    have := zfy (zab l); rw [zaL] at this; exact this
   change Calls zp0 94 _ _ (fun e w' => e = .returned (.slice (some ⟨gb, 0, none⟩) (zaV (zab l)).length cap) /\ ∃ q, w' = putRow encStr (Sort.ahead w q) gb 0 (zaV (zab l) ++ List.replicate (l.length - (zaV (zab l)).length) []).toArray) at cS
   refine cS.mono fun e w' ⟨he, q, hw⟩ => ⟨_, he, ?_, ?_⟩
   . have hg0 : w' = grow (putRow encStr (Sort.ahead w q) gb 0 (zaV (zab l) ++ List.replicate (l.length - (zaV (zab l)).length) []).toArray) #[] := by rw [hw]; simp
     rw [hg0]; have hcl : (zbO l).length = (zaV (zab l)).length := by unfold zbO; rw [zp9]
     have hen : encs Value.string (zbO l) = (zaV (zab l)).map encStr := by
      unfold zbO encs; rw [zp8]; rfl
     rw [<- hcl]; refine Kd.R_of_own (h1 := fun _ => rfl) ?_ (fun _ _ => trivial)
     rw [hen]; have hos := ownsRow_sorted (n := q) (os := #[]) (ss := zab l) (ts := zaV (zab l) ++ List.replicate (l.length - (zaV (zab l)).length) []) (by rw [zpF, zqW, zaL]; omega) hbase hgb (by rw [zaL]; exact r1) r2 r3
     rw [hcl]; have h2 := hos.2; refine ⟨by rw [zp9]; omega, ?_⟩
     rcases h2 with ⟨h3, _⟩ | ⟨g2, cap2, cur2, he2, hb2, hh2, s1, s2, s3, s4⟩
     . cases h3
     . injection he2 with e1 e2 e3
       injection e1 with e1; injection e1 with e1; subst e1; subst e3; refine .inr ⟨gb, cap, cur2, rfl, hb2, hh2, by omega, s2, s3, ?_⟩
       rw [zqV] at s4 |-; have h5 := congrArg (List.take (zaV (zab l)).length) s4; rw [List.take_take, zaL, Nat.min_eq_left hle, zqj, List.take_append_of_le_length (by rw [zp9]; exact zps _)] at h5
       exact h5.trans (zqS (by rw [zp9]; exact zps _))
   . rw [hw]
     have hg0 : putRow encStr (Sort.ahead w q) gb 0 (zaV (zab l) ++ List.replicate (l.length - (zaV (zab l)).length) []).toArray = grow (putRow encStr (Sort.ahead w q) gb 0 (zaV (zab l) ++ List.replicate (l.length - (zaV (zab l)).length) []).toArray) #[] := by simp
     rw [hg0]; exact grownBy_sorted _
end X
namespace X
open Go.RowKit Go.Maps YtdpgdnpddndeoaaGreatDoorW.PrintWords YtdpgdnpddndeoaaGreatDoorW.PrintMore YtdpgdnpddndeoaaGreatDoorW.PrintLast
theorem zff (s : ByteArray) (w : World) (hG : GOK w) :
 Calls zp0 95 #[.string s] w fun e w' => e = .returned (.bool (!may s.data.toList)) /\ Below w.heap.size w w' := by
 have hM := path_May.calls s (may s.data.toList) w hG rfl; generalize may s.data.toList = q at hM |-; have HM := zpo hM; clear hM hG; go_enter Tryz.func95, Tryz.ntmps95
 go_wp2_with (first | (go_at_call 102; refine HM.out.mono ?_; rintro e w2 ⟨rfl, hb2⟩))
 go_ret
 exact ⟨rfl, hb2⟩
theorem zjN : ∀ args w, (callFunc 95 args).run zp0 w = .ok (.enter 95 args) w := Go.Proofs.enters_of Tryz.func95 (by kernel_rfl) rfl
theorem zmw (w : World) (hG : GOK w) : zdM 95 #[] (fun x => !may x.data.toList) w := fun W x hb => zff x W (hG.below hb)
theorem zeq (A : Option Addr) (c : Nat) (l : List ByteArray) (w : World) (hG : GOK w) (hr : Kd.C zp6 w A l.length l) :
 Calls zp0 56 #[.slice A l.length c, .func (.func 95) #[] #[]] w fun e w' => e = .returned (.bool (!(zab l).all may)) /\ Below w.heap.size w w' := by
 have h := zdX 95 #[] zjN (fun x => !may x.data.toList) A c l w hr (zmw w hG)
 have e : l.any (fun x => !may x.data.toList) = !(zab l).all may := by
  unfold zab; rw [List.all_map, List.not_all_eq_any_not]; rfl
 rw [e] at h; exact h
theorem zc3 (A : Option Addr) (c : Nat) (l : List ByteArray) (s : ByteArray) (w : World) (hr : Kd.C zp6 w A l.length l) :
 Calls zp0 92 #[.slice A l.length c, .string s] w fun e w' => e = .returned (.bool ((zab l).contains s.data.toList)) /\ w = w' := by
 have hlen : l.length <= 9223372036854775807 := hr.2.1; have hc : Lib.containsS l s = (zab l).contains s.data.toList := by
  rw [Bool.eq_iff_iff, Lib.containsS_iff]; unfold zab; rw [List.contains_iff_mem, zqT]; constructor
  . intro h; exact ⟨s, h, rfl⟩
  . rintro ⟨x, hx, he⟩; rw [<- zbR he]; exact hx
 rcases zaJ hr with h0 | ⟨b, o, rfl, hb, hcell⟩
 . subst h0
   have hcall := Go.Proofs.Any.slices_Contains_string_empty Go.Proofs.Tryz.lays110 A c s w; change Calls zp0 92 _ _ _ at hcall
   exact hcall.mono fun e w' ⟨he, hw⟩ => ⟨he, hw.symm⟩
 . have hcall := Go.Proofs.Any.slices_Contains_string Go.Proofs.Tryz.lays110 b o l.length c l s w (zps _) hlen hcell
   change Calls zp0 92 _ _ _ at hcall
   rw [zqa, hc] at hcall; exact hcall.mono fun e w' ⟨he, hw⟩ => ⟨he, hw.symm⟩
def zeW (x : zar) (B2 : Option Addr) (c2 : Nat) (B3 : Option Addr) (c3 : Nat) : Value := .agg #[.string x.f0, .int .i64 x.f1, .slice B2 x.f2.length c2, .slice B3 x.f3.length c3, .int .i64 x.f4]
def zbJ (s : zb7) : Bool := !(may s.out && s.args.all may && mayC s.cmd)
theorem zlF (x : zar) (B2 : Option Addr) (c2 : Nat) (B3 : Option Addr) (c3 : Nat) (w : World) (hG : GOK w) (h2 : Kd.C zp6 w B2 x.f2.length x.f2) (h3 : Kd.C zp6 w B3 x.f3.length x.f3) :
 Calls zp0 97 #[zeW x B2 c2 B3 c3] w fun e w' => e = .returned (.bool (zbJ (zaN x))) /\ Below w.heap.size w w' := by
 have hab := (zpr w.heap.size w).alloc (zps _) (.cells #[.string x.f0, .int .i64 x.f1, .slice B2 x.f2.length c2, .slice B3 x.f3.length c3, .int .i64 x.f4] 24); have HK := zpo (zak w (.cells #[.string x.f0, .int .i64 x.f1, .slice B2 x.f2.length c2, .slice B3 x.f3.length c3, .int .i64 x.f4] 24)); have HB1 := zpo hab; have H2 := zpo (zqO h2 hab); have H3 := zpo (zqO h3 hab); have HG := zpo (hG.below hab); have hT : zbJ (zaN x) = !(may x.f0.data.toList && (zab x.f2).all may && mayC (zag x)) := rfl; rw [hT]; have HM := zpo (fun W (h2 : Kd.C zp6 W B2 x.f2.length x.f2) (h3 : Kd.C zp6 W B3 x.f3.length x.f3) => zeO x B2 c2 B3 c3 W h2 h3)
 have HN := zpo (fun W (hG : GOK W) => zff x.f0 W hG)
 have HA := zpo (fun W (hG : GOK W) (h : Kd.C zp6 W B2 x.f2.length x.f2) => zeq B2 c2 x.f2 W hG h)
 generalize may x.f0.data.toList = q1 at HN |-; generalize (zab x.f2).all may = q2 at HA |-; generalize mayC (zag x) = q3 at HM |-; clear hab h2 h3 hG hT; unfold zeW; go_enter Tryz.func97, Tryz.ntmps97
 go_upto_region 1 with fail; generalize w.alloc (.cells #[.string x.f0, .int .i64 x.f1, .slice B2 x.f2.length c2, .slice B3 x.f3.length c3, .int .i64 x.f4] 24) = w1 at HB1 HK H2 H3 HG |-; have k0 := bc0 HK.out; cases q1
 . go_wp2_with (first | (go_at_call 95; refine (HN.out _ HG.out).mono ?_; rintro e w2 ⟨rfl, hb2⟩))
   go_ret
   exact ⟨rfl, zac HB1.out HB1.out.size hb2⟩
 . cases q2
   . go_wp2_with (first
      | (go_at_call 95; refine (HN.out _ HG.out).mono ?_; rintro e w2 ⟨rfl, hb2⟩; have HB2 := zpo (zac HB1.out HB1.out.size hb2); have HK2 := zpo (zah HK.out hb2); have k2 := bc2 HK2.out; have H2' := zpo (zqO H2.out hb2); have HG2 := zpo (HG.out.below hb2); clear hb2)
      | (go_at_call 56; refine (HA.out _ HG2.out H2'.out).mono ?_; rintro e w3 ⟨rfl, hb3⟩; have HB3 := zpo (zac HB2.out HB2.out.size hb3); clear hb3))
     go_ret
     exact ⟨rfl, HB3.out⟩
   . go_wp2_with (first
      | (go_at_call 95; refine (HN.out _ HG.out).mono ?_; rintro e w2 ⟨rfl, hb2⟩; have HB2 := zpo (zac HB1.out HB1.out.size hb2); have HK2 := zpo (zah HK.out hb2); have k2 := bc2 HK2.out; have H2' := zpo (zqO H2.out hb2); have H3' := zpo (zqO H3.out hb2); have HG2 := zpo (HG.out.below hb2); clear hb2)
      | (go_at_call 56; refine (HA.out _ HG2.out H2'.out).mono ?_; rintro e w3 ⟨rfl, hb3⟩; have HB3 := zpo (zac HB2.out HB2.out.size hb3); have HK3 := zpo (zah HK2.out hb3); have j0 := bc0 HK3.out; have j1 := bc1 HK3.out; have j2 := bc2 HK3.out; have j3 := bc3 HK3.out; have j4 := bc4 HK3.out; have H2'' := zpo (zqO H2'.out hb3); have H3'' := zpo (zqO H3'.out hb3); clear hb3)
      | (go_at_call 20; refine (HM.out _ H2''.out H3''.out).mono ?_; rintro e w4 ⟨rfl, hb4⟩; have HB4 := zpo (zac HB3.out HB3.out.size hb4); clear hb4))
     go_ret
     exact ⟨by cases q3 <;> rfl, HB4.out⟩
theorem zj2 : ∀ args w, (callFunc 97 args).run zp0 w = .ok (.enter 97 args) w := Go.Proofs.enters_of Tryz.func97 (by kernel_rfl) rfl
abbrev RInt (w : World) (base : Nat) (v : Value) (l : List Int) : Prop := Kd.R (Kd.int .i64) 3 w base (fun _ => True) v l
def zf8 (l : List Int) (w : World) (e : Ending) (w' : World) : Prop := ∃ v, e = .returned v /\ RInt w' w.heap.size v l /\ Below w.heap.size w w'
def zfm (l : List ByteArray) (w : World) (e : Ending) (w' : World) : Prop := ∃ v, e = .returned v /\ RS w' w.heap.size v l /\ Below w.heap.size w w'
def zbo (m : List Bool) (is : Bool) : List Int := (m.zipIdx.filter fun p => p.1 == is).map fun p => (p.2 : Int)
theorem zkq (m : List Bool) (is : Bool) (k : Nat) (h : k < m.length) : zbo (m.take (k + 1)) is = zbo (m.take k) is ++ if m[k] == is then [(k : Int)] else [] := by
 unfold zbo; rw [zpU h, List.zipIdx_append, List.filter_append, zqj]; congr 1
 have hl : (m.take k).length = k := by rw [zpD]; omega
 cases hb : (m[k] == is) <;> simp [hl, hb]
theorem znE (m : List Bool) (is : Bool) : (zbo m is).length <= m.length := by
 unfold zbo; rw [zp9]; refine zpy (zqi _ _) ?_; rw [List.length_zipIdx]; exact zps _
theorem zgW {w : World} {A : Option Addr} {l : List Bool} (h : Kd.C Kd.bool w A l.length l) (k : Nat) (hk : k < l.length) : ∃ b o, A = some ⟨b, o, none⟩ /\ w.cell? ⟨b, o + k, none⟩ = some (.bool l[k]) := by
 obtain ⟨ad, rfl, hc⟩ := h.2.2 (by omega)
 obtain ⟨cs, _, h1, h2⟩ := hc k l[k] (zpv hk); have h1' : cs = [.bool l[k]] := h1; subst h1'; have h3 := h2 0 _ rfl; obtain ⟨cs0, _, h4, h5⟩ := hc 0 l[0] (zpv (by omega))
 have h4' : cs0 = [.bool l[0]] := h4; rw [h4'] at h5; have h6 := h5 0 _ rfl; have e1 : Kd.bool.sz = 1 := rfl; rw [e1] at h3 h6; obtain ⟨b, o, rfl⟩ := zdY (n := 1) (ad := ad) (by simpa using h6)
 refine ⟨b, o, rfl, ?_⟩; have e : ((⟨b, o, none⟩ : Addr).add (k * 1 + 0)) = ⟨b, o + k, none⟩ := by
  rw [zqV, Nat.add_zero]; unfold Addr.add; split
  . rename_i h0; simp [h0]
  . rfl
 rw [e] at h3; exact h3
theorem zgQ (A : Option Addr) (c : Nat) (m : List Bool) (is : Bool) (w : World) (hr : Kd.C Kd.bool w A m.length m) (hl : m.length <= 1000) :
 Calls zp0 65 #[.slice A m.length c, .bool is] w (zf8 (zbo m is) w) := by
 have HR := zpo hr; obtain ⟨T, hT⟩ : ∃ T, T = zbo m is := ⟨_, rfl⟩; rw [<- hT]; have HT := zpo hT; clear hr hT; go_enter Tryz.func65, Tryz.ntmps65
 go_wp2_with fail; go_loopg [5, 6, 7, 10] m.length (fun gg s5 _ _ s10 wr => ∃ kk : Nat, kk <= m.length /\ m.length - kk <= gg /\ s10 = .int .i64 kk /\ Aside0 (RInt wr w.heap.size s5 (zbo (m.take kk) is)) /\ Aside0 (Below w.heap.size w wr))
 case atStart => exact ⟨0, zqf _, by omega, rfl, ⟨Kd.R_nil _ _ _ _ _⟩, ⟨zpr _ _⟩⟩
 case round =>
  obtain ⟨kk, hkk, hgk, rfl, HO, HW⟩ := hrel; by_cases hlt : kk < m.length
  . have hltz : (kk : Int) < (m.length : Int) := by omega
    obtain ⟨b, o, rfl, p0⟩ := zgW (zqO HR.out HW.out) kk hlt; have HSt := zpo (zkq m is kk hlt); have hpl := znE (m.take kk) is; have hpl2 : (zbo (m.take kk) is).length <= 1000 := by
     have : (m.take kk).length = kk := by rw [zpD]; omega
     omega
    have HPl := zpo hpl2; have HWs := zpo HW.out.size; clear hpl hpl2; generalize m[kk] = y at p0 HSt; cases hy : (y == is) with
    | true =>
     have HN : Hid (zbo (m.take (kk + 1)) is = zbo (m.take kk) is ++ [(kk : Int)]) := by show _ = _; rw [HSt.out, hy]; rfl
     have hdy : (is == y) = true := by rw [<- hy]; cases is <;> cases y <;> rfl
     go_wp2_with (first | ((with_reducible refine zaD (b := .append) (xs := #[.tmp 18, .tmp 20]) rfl ?_); at_builtin; refine Kd.R_append (Kd.int .i64) (w0 := w) w.heap.size rfl (.tmp 18) (.tmp 20) 54 3 (.int .i64 0) 8 rfl Tryz.underlying54 info3 rfl (by decide) (by decide) u5 (zbo (m.take kk) is) (kk : Int) [.int .i64 (kk : Int)] (fun _ => True) (fun k_ => True /\ some k_ ≠ u5.ownBlock) rfl rfl rfl (fun _ hk => hk) (fun _ _ => trivial) HO.out HW.out HWs.out ?aL ?_; (case aL => (have h1 := HPl.out; omega)); intro v1 w4 ho hb hg hat; have HO4 : Hid (RInt w4 w.heap.size v1 (zbo (m.take (kk + 1)) is)) := (by show RInt _ _ _ _; rw [HN.out]; exact ho); have HB4 := zpo hb; clear ho hb hg hat))
     go_roundg (m.length - (kk + 1))
     case measure => omega
     case rel => exact ⟨kk + 1, by omega, by omega, by first | rfl | go_num, ⟨HO4.out⟩, ⟨HB4.out⟩⟩
    | false =>
     have HN : Hid (RInt wr w.heap.size u5 (zbo (m.take (kk + 1)) is)) := by show RInt _ _ _ _; rw [HSt.out, hy, if_neg (by simp), List.append_nil]; exact HO.out
     go_wp2_with fail; go_roundg (m.length - (kk + 1))
     case measure => omega
     case rel => exact ⟨kk + 1, by omega, by omega, by first | rfl | go_num, ⟨HN.out⟩, ⟨HW.out⟩⟩
  . have hltz : ¬ (kk : Int) < (m.length : Int) := by omega
    obtain rfl : kk = m.length := by omega
    have hO := HO.out; rw [zqa] at hO; have HOf := zpo hO; clear hO; go_wp2_with fail; go_ret
    exact ⟨_, rfl, by rw [HT.out]; exact HOf.out, HW.out⟩
def zbT (ins : List ByteArray) (b : Bool) (l : List ByteArray) : List ByteArray := l.filter fun a => b && (zab ins).contains a.data.toList
def outK (r : zaj) (m : List Bool) (k : Nat) : List ByteArray := ((r.f4.zip m).take k).flatMap fun p => zbT r.f1 p.2 p.1.f2
theorem zhu (r : zaj) (m : List Bool) (k : Nat) (h1 : k < r.f4.length) (h2 : k < m.length) : outK r m (k + 1) = outK r m k ++ zbT r.f1 m[k] r.f4[k].f2 := by
 unfold outK; have hz : k < (r.f4.zip m).length := by rw [List.length_zip]; omega
 rw [zpU hz, List.flatMap_append]; simp [List.getElem_zip]
theorem ziT (r : zaj) (m : List Bool) (c : Nat) (hF : ∀ s ∈ r.f4, s.f2.length <= c) : ∀ k, (outK r m k).length <= k * c
 | 0 => by simp [outK]
 | k + 1 => by
  have ih := ziT r m c hF k; have e2 : (k + 1) * c = k * c + c := Nat.succ_mul k c; by_cases h : k < r.f4.length /\ k < m.length
  . rw [zhu r m k h.1 h.2, zpF]
    have h1 : (zbT r.f1 m[k] r.f4[k].f2).length <= c := zpy (zqi _ _) (hF _ (zqJ h.1)); omega
  . have hl : (r.f4.zip m).length <= k := by rw [List.length_zip]; omega
    have e : outK r m (k + 1) = outK r m k := by
     unfold outK; rw [zqS (Nat.le_succ_of_le hl), zqS hl]
    rw [e]; omega
theorem zmT (ins : List ByteArray) (b : Bool) (l : List ByteArray) (k : Nat) (h : k < l.length) : zbT ins b (l.take (k + 1)) = zbT ins b (l.take k) ++ if b && (zab ins).contains l[k].data.toList then [l[k]] else [] := by
 unfold zbT; rw [zpU h, List.filter_append]; congr 1
 cases h2 : (b && (zab ins).contains l[k].data.toList) with
 | true => simp only [List.filter, h2, if_true]
 | false => simp only [List.filter, h2]; rfl
theorem zk3 (r : zaj) (m : List Bool) (hm : m.length = r.f4.length) : zbO (zae (outK r m r.f4.length)) = (zcj (zav r) m).map mk := by
 unfold zbO zcj; rw [zep]; congr 3
 unfold outK; rw [zqS (by rw [List.length_zip]; omega)]
 have e : (zav r).steps.zip m = (r.f4.zip m).map fun p => (zaN p.1, p.2) := by
  show (r.f4.map zaN).zip m = _
  rw [List.zip_map_left]; rfl
 rw [e, List.flatMap_map]; unfold zab; rw [List.map_flatMap]; congr 1
 funext p
 unfold zbT zaN zab; dsimp only; rw [List.filter_map]; rfl
theorem zgt (r : zaj) (B1 : Option Addr) (c1 : Nat) (B2 : Option Addr) (c2 : Nat) (B3 : Option Addr) (c3 : Nat) (B4 : Option Addr) (c4 : Nat) (A : Option Addr) (c : Nat) (m : List Bool) (w : World)
 (h1 : Kd.C zp6 w B1 r.f1.length r.f1) (h4 : Kd.C k24 w B4 r.f4.length r.f4) (hr : Kd.C Kd.bool w A m.length m) (hml : m.length = r.f4.length) (hF : FitR r) :
 Calls zp0 67 #[.agg (zao r B1 c1 B2 c2 B3 c3 B4 c4), .slice A m.length c] w (zfm ((zcj (zav r) m).map mk) w) := by
 have hn4 := hF.steps; have hW := (zpr w.heap.size w).alloc (zps _) (.cells (zao r B1 c1 B2 c2 B3 c3 B4 c4) 45); have HK := zpo (zak w (.cells (zao r B1 c1 B2 c2 B3 c3 B4 c4) 45)); have HB := zpo hW; have H1 := zpo (zqO h1 hW); have H4 := zpo (zqO h4 hW); have HR := zpo (zqO hr hW); have HF := zpo hF; have HML := zpo hml; have HOl := zpo (ziT r m 1000 (fun s hs => (hF.stepN s hs).2.1))
 rw [<- zk3 r m hml]; obtain ⟨T, hT⟩ : ∃ T, T = zbO (zae (outK r m r.f4.length)) := ⟨_, rfl⟩; rw [<- hT]; have HT := zpo hT; clear hW h1 h4 hr hF hml hT; unfold zao at *; go_enter Tryz.func67, Tryz.ntmps67
 go_upto_region 1 with fail; generalize w.alloc (.cells #[.string r.f0, .slice B1 r.f1.length c1, .slice B2 r.f2.length c2, .slice B3 r.f3.length c3, .slice B4 r.f4.length c4] 45) = w1 at HB HK H1 H4 HR |-; have k4 := bc4 HK.out; have k1 := bc1 HK.out; go_wp2_with fail; go_loopg [5, 6, 7, 9, 13] r.f4.length (fun gg s5 _ _ _ s13 wr => ∃ kk : Nat, kk <= r.f4.length /\ r.f4.length - kk <= gg /\ s13 = .int .i64 kk /\ Aside0 (RS wr w1.heap.size s5 (outK r m kk)) /\ Aside0 (Below w1.heap.size w1 wr))
 case atStart => exact ⟨0, zqf _, by omega, rfl, ⟨Kd.R_nil _ _ _ _ _⟩, ⟨zpr _ _⟩⟩
 case round =>
  obtain ⟨kk, hkk, hgk, rfl, HO, HW⟩ := hrel; obtain ⟨wq, rfl⟩ : ∃ wq, wq = wr := ⟨wr, rfl⟩; by_cases hlt : kk < r.f4.length
  . have hltz : (kk : Int) < (r.f4.length : Int) := by omega
    have hlm : kk < m.length := by have := HML.out; omega
    have hlmz : (kk : Int) < (m.length : Int) := by omega
    obtain ⟨b, o, C2, d2, C3, d3, rfl, p0, p1, p2, p3, p4, g2, g3⟩ := zdz H4.out kk hlt; replace p0 := zad HW.out p0
    replace p1 := zad HW.out p1
    replace p2 := zad HW.out p2
    replace p3 := zad HW.out p3
    replace p4 := zad HW.out p4
    obtain ⟨bm, om, rfl, q0⟩ := zgW HR.out kk hlm; have HSt := zpo (zhu r m kk hlt hlm); obtain ⟨hxo, hxl, hxn⟩ := HF.out.stepN _ (zqJ hlt); have hOl := HOl.out kk; have hOl2 : (outK r m kk).length <= 1000000 := by
     have : kk * 1000 <= 1000 * 1000 := zpK _ (by omega)
     omega
    have HOk := zpo hOl2; generalize hx : r.f4[kk] = x at p0 p1 p2 p3 p4 g2 g3 HSt hxl; generalize m[kk] = bk at q0 HSt; clear hx hxo hxn hOl hOl2; have HB3 : Hid (Below w1.heap.size w1 (wq.alloc (.cells #[.string x.f0, .int .i64 x.f1, .slice C2 x.f2.length d2, .slice C3 x.f3.length d3, .int .i64 x.f4] 24))) := zpo (HW.out.alloc HW.out.size _); have HX3 := zpo (zak wq (.cells #[.string x.f0, .int .i64 x.f1, .slice C2 x.f2.length d2, .slice C3 x.f3.length d3, .int .i64 x.f4] 24)); have HG2 := zpo g2; have HQ0 := zpo q0; have HO3 := zpo (zqp HO.out ((zpr wq.heap.size wq).alloc (zps _) (.cells #[.string x.f0, .int .i64 x.f1, .slice C2 x.f2.length d2, .slice C3 x.f3.length d3, .int .i64 x.f4] 24))); clear g2 g3 q0; go_upto_region 5 with fail; generalize wq.alloc (.cells #[.string x.f0, .int .i64 x.f1, .slice C2 x.f2.length d2, .slice C3 x.f3.length d3, .int .i64 x.f4] 24) = w3 at HX3 HB3 HO3 |-; have x2 := bc2 HX3.out; go_wp2_with fail; go_loopg [5, 9, 21] x.f2.length (fun gg s5 _ s21 wi => ∃ k : Nat, k <= x.f2.length /\ x.f2.length - k <= gg /\ s21 = .int .i64 k /\ Aside0 (RS wi w1.heap.size s5 (outK r m kk ++ zbT r.f1 bk (x.f2.take k))) /\ Aside0 (Below w1.heap.size w1 wi))
    case atStart => exact ⟨0, zqf _, by omega, rfl, ⟨by rw [zqX]; exact (by simpa [zbT] using HO3.out)⟩, ⟨HB3.out⟩⟩
    case round =>
     obtain ⟨k, hk, hgk2, rfl, HOi, HWi⟩ := hrel; by_cases hl2 : k < x.f2.length
     . have hl2z : (k : Int) < (x.f2.length : Int) := by omega
       obtain ⟨b5, o5, rfl, n0⟩ := zbj (zqO HG2.out HWi.out) k hl2; have m0 := zad HWi.out HQ0.out; have j1 := zad HWi.out k1; have HRs := zpo (zmT r.f1 bk x.f2 k hl2); have HRl : Hid ((zbT r.f1 bk (x.f2.take k)).length <= 1000) := zpo (zpy (zqi _ _) (by rw [zpD]; omega))
       have HWs := zpo HWi.out.size; have HCt := zpo (zc3 B1 c1 r.f1 x.f2[k] wr (zqO H1.out HWi.out)); generalize x.f2[k] = n at n0 HRs HCt; cases bk with
       | false =>
        have HN : Hid (RS wr w1.heap.size u5 (outK r m kk ++ zbT r.f1 false (x.f2.take (k + 1)))) := by show RS _ _ _ _; rw [HRs.out]; simpa using HOi.out
        go_wp2_with fail; go_roundg (x.f2.length - (k + 1))
        case measure => omega
        case rel => exact ⟨k + 1, by omega, by omega, by first | rfl | go_num, ⟨HN.out⟩, ⟨HWi.out⟩⟩
       | true =>
        have hRs := HRs.out; rw [Bool.true_and] at hRs; generalize (zab r.f1).contains n.data.toList = q at HCt hRs; have HRs2 := zpo hRs; clear hRs HRs; cases q with
        | false =>
         have HN : Hid (RS wr w1.heap.size u5 (outK r m kk ++ zbT r.f1 true (x.f2.take (k + 1)))) := by show RS _ _ _ _; rw [HRs2.out]; simpa using HOi.out
         go_wp2_with (first | (go_at_call 92; refine HCt.out.mono ?_; rintro e w2 ⟨rfl, rfl⟩))
         go_roundg (x.f2.length - (k + 1))
         case measure => omega
         case rel => exact ⟨k + 1, by omega, by omega, by first | rfl | go_num, ⟨HN.out⟩, ⟨HWi.out⟩⟩
        | true =>
         go_wp2_with (first | (go_at_call 92; refine HCt.out.mono ?_; rintro e w2 ⟨rfl, rfl⟩) | ((with_reducible refine zaD (b := .append) (xs := #[.tmp 35, .tmp 37]) rfl ?_); at_builtin; refine Kd.R_append zp6 (w0 := w1) w1.heap.size rfl (.tmp 35) (.tmp 37) 22 9 (.string ⟨#[]⟩) 16 rfl Tryz.underlying22 zbf rfl (by decide) (by decide) u5 (outK r m kk ++ zbT r.f1 true (x.f2.take k)) n [.string n] (fun _ => True) (fun k_ => True /\ some k_ ≠ u5.ownBlock) rfl rfl rfl (fun _ hk => hk) (fun _ _ => trivial) HOi.out HWi.out HWs.out ?aL ?_; (case aL => (have h1 := HRl.out; have h2 := HOk.out; rw [zpF]; omega)); intro v1 w4 ho hb hg hat; have HO4 : Hid (RS w4 w1.heap.size v1 (outK r m kk ++ zbT r.f1 true (x.f2.take (k + 1)))) := (by show RS _ _ _ _; rw [HRs2.out]; (rw [if_pos trivial, <- List.append_assoc]); exact ho); have HB4 := zpo hb; clear ho hb hg hat))
         go_roundg (x.f2.length - (k + 1))
         case measure => omega
         case rel => exact ⟨k + 1, by omega, by omega, by first | rfl | go_num, ⟨HO4.out⟩, ⟨HB4.out⟩⟩
     . have hl2z : ¬ (k : Int) < (x.f2.length : Int) := by omega
       obtain rfl : k = x.f2.length := by omega
       have HN : Hid (RS wr w1.heap.size u5 (outK r m (kk + 1))) := by
        have h := HOi.out; rw [zqa] at h; show RS _ _ _ _
        rw [HSt.out]; exact h
       go_wp2_with fail; go_roundg (r.f4.length - (kk + 1))
       case measure => omega
       case rel => exact ⟨kk + 1, by omega, by omega, by first | rfl | go_num, ⟨HN.out⟩, ⟨HWi.out⟩⟩
  . have hltz : ¬ (kk : Int) < (r.f4.length : Int) := by omega
    obtain rfl : kk = r.f4.length := by omega
    have hol := HOl.out r.f4.length; have hol2 : (outK r m r.f4.length).length * 16 <= 140737488355328 := by
     have : r.f4.length * 1000 <= 1000 * 1000 := zpK _ (by omega)
     omega
    have hSort := zgd w1.heap.size u5 (outK r m r.f4.length) wq HO.out hol2; have HSort := zpo hSort; have HBs := zpo (Kd.R_base HO.out); clear hol hol2 hSort; go_wp2_with (first
     | (go_at_call 93; refine HSort.out.mono ?_; rintro e w5 ⟨rfl, hR5, hg5⟩; have HR5 := zpo hR5; have HW5 := zpo (HW.out.grown hg5 HW.out.size (fun k hk => HBs.out k hk)); clear hR5 hg5)
     | (go_at_call 94; refine (ziL w1.heap.size u5 _ _ HR5.out).mono ?_; rintro e w6 ⟨v6, rfl, hR6, hg6⟩; have HR6 := zpo hR6; have HW6 := zpo (HW5.out.grown hg6 HW5.out.size (fun k hk => HBs.out k hk)); clear hR6 hg6))
    go_ret
    exact ⟨_, rfl, by rw [HT.out]; exact zqD HR6.out HB.out.size, HB.out.trans (HW6.out.mono HB.out.size)⟩
theorem zee (w : zaa -> Bool) (r : zaj) : (zaw w (zav r).steps).1.length = r.f4.length := by rw [zgh]; exact zp9 ..
def zbl (fs : List ByteArray) : zaa -> Bool := fun x => (zab fs).contains x
structure RuleAt (r : zaj) (B1 : Option Addr) (B2 : Option Addr) (B3 : Option Addr) (B4 : Option Addr) (w : World) : Prop where
 h1 : Kd.C zp6 w B1 r.f1.length r.f1
 h2 : Kd.C zp6 w B2 r.f2.length r.f2
 h3 : Kd.C zp6 w B3 r.f3.length r.f3
 h4 : Kd.C k24 w B4 r.f4.length r.f4
theorem RuleAt.below {r : zaj} {B1 B2 B3 B4 : Option Addr} {w w' : World} (h : RuleAt r B1 B2 B3 B4 w) (hb : Below w.heap.size w w') : RuleAt r B1 B2 B3 B4 w' := ⟨zqO h.h1 hb, zqO h.h2 hb, zqO h.h3 hb, zqO h.h4 hb⟩
theorem zlX (r : zaj) (B1 : Option Addr) (c1 : Nat) (B2 : Option Addr) (c2 : Nat) (B3 : Option Addr) (c3 : Nat) (B4 : Option Addr) (c4 : Nat) (o : ByteArray) (w : World) (hA : RuleAt r B1 B2 B3 B4 w) (hF : FitR r) (ho : o.size <= maxLen) :
 Calls zp0 39 #[.agg (zao r B1 c1 B2 c2 B3 c3 B4 c4), .string o] w (zf8 (zbo (zaw (zbl [o]) (zav r).steps).1 true) w) := by
 have hW := (zpr w.heap.size w).alloc (zps _) (.cells (zao r B1 c1 B2 c2 B3 c3 B4 c4) 45); have HK := zpo (zak w (.cells (zao r B1 c1 B2 c2 B3 c3 B4 c4) 45)); have HB := zpo hW; have HA := zpo (hA.below hW); have HL := zpo (zee (zbl [o]) r); have HF := zpo hF; have HN := zpo (fun (X : Option Addr) (c : Nat) (W : World) (h : RuleAt r B1 B2 B3 B4 W) (hr : Kd.C zp6 W X 1 [o]) => zei r B1 c1 B2 c2 B3 c3 B4 c4 X c [o] W h.h4 hr hF (by simp) (fun x hx => by rw [zqU.1 hx]; exact ho))
 have hn4 := hF.steps; have e : (fun x => (zab [o]).contains x) = zbl [o] := rfl
 rw [e] at HN; generalize (zaw (zbl [o]) (zav r).steps).1 = m at HL HN |-; obtain ⟨T, hT⟩ : ∃ T, T = zbo m true := ⟨_, rfl⟩; rw [<- hT]; have HT := zpo hT; clear hW hA hF ho e hT; unfold zao at *; go_enter Tryz.func39, Tryz.ntmps39
 go_upto_region 1 with fail; generalize w.alloc (.cells #[.string r.f0, .slice B1 r.f1.length c1, .slice B2 r.f2.length c2, .slice B3 r.f3.length c3, .slice B4 r.f4.length c4] 45) = w1 at HB HK HA |-; have k0 := bc0 HK.out; have k1 := bc1 HK.out; have k2 := bc2 HK.out; have k3 := bc3 HK.out; have k4 := bc4 HK.out; have HX := zpo ((zpr w1.heap.size w1).alloc (zps _) (.cells #[.string o] 9)); have HS := zpo (zbG zp6 w1 9 [o] [.string o] (Kd.reps_scalar _) (by simp))
 go_wp2_with (first
  | (go_at_call 66; refine (HN.out _ _ _ (HA.out.below HX.out) HS.out).mono ?_; rintro e w2 ⟨v2, rfl, hR2, hb2⟩; obtain ⟨A2, n2, rfl, _, hC2⟩ := zql hR2; have HC2 := zpo hC2; have HB2 := zpo (zac HX.out HX.out.size hb2); clear hR2 hC2 hb2)
  | (go_at_call 65; refine (zgQ A2 n2 m true w2 HC2.out (by have h := HL.out; omega)).mono ?_; rintro e w3 ⟨v3, rfl, hR3, hb3⟩; have HR3 := zpo hR3; have HB3 := zpo (zac HB2.out HB2.out.size hb3); have HZ3 := zpo HB2.out.size; clear hR3 hb3))
 go_ret
 exact ⟨_, rfl, by rw [HT.out]; exact zqD HR3.out (zpy HB.out.size HZ3.out), zac HB.out HB.out.size HB3.out⟩
theorem zl3 (r : zaj) (B1 : Option Addr) (c1 : Nat) (B2 : Option Addr) (c2 : Nat) (B3 : Option Addr) (c3 : Nat) (B4 : Option Addr) (c4 : Nat) (w : World) (hA : RuleAt r B1 B2 B3 B4 w) (hF : FitR r) :
 Calls zp0 44 #[.agg (zao r B1 c1 B2 c2 B3 c3 B4 c4)] w (zf8 (zbo (zaw (zbl r.f2) (zav r).steps).1 false) w) := by
 have hW := (zpr w.heap.size w).alloc (zps _) (.cells (zao r B1 c1 B2 c2 B3 c3 B4 c4) 45); have HK := zpo (zak w (.cells (zao r B1 c1 B2 c2 B3 c3 B4 c4) 45)); have HB := zpo hW; have HA := zpo (hA.below hW); have HL := zpo (zee (zbl r.f2) r); have HF := zpo hF; have HN := zpo (fun (X : Option Addr) (c : Nat) (W : World) (h : RuleAt r B1 B2 B3 B4 W) (hr : Kd.C zp6 W X r.f2.length r.f2) => zei r B1 c1 B2 c2 B3 c3 B4 c4 X c r.f2 W h.h4 hr hF hF.outs hF.outsN)
 have hn4 := hF.steps; have e : (fun x => (zab r.f2).contains x) = zbl r.f2 := rfl
 rw [e] at HN; generalize (zaw (zbl r.f2) (zav r).steps).1 = m at HL HN |-; obtain ⟨T, hT⟩ : ∃ T, T = zbo m false := ⟨_, rfl⟩; rw [<- hT]; have HT := zpo hT; clear hW hA hF e hT; unfold zao at *; go_enter Tryz.func44, Tryz.ntmps44
 go_upto_region 1 with fail; generalize w.alloc (.cells #[.string r.f0, .slice B1 r.f1.length c1, .slice B2 r.f2.length c2, .slice B3 r.f3.length c3, .slice B4 r.f4.length c4] 45) = w1 at HB HK HA |-; have k0 := bc0 HK.out; have k1 := bc1 HK.out; have k2 := bc2 HK.out; have k3 := bc3 HK.out; have k4 := bc4 HK.out; go_wp2_with (first
  | (go_at_call 66; refine (HN.out _ _ _ HA.out HA.out.h2).mono ?_; rintro e w2 ⟨v2, rfl, hR2, hb2⟩; obtain ⟨A2, n2, rfl, _, hC2⟩ := zql hR2; have HC2 := zpo hC2; have HB2 := zpo hb2; clear hR2 hC2 hb2)
  | (go_at_call 65; refine (zgQ A2 n2 m false w2 HC2.out (by have h := HL.out; omega)).mono ?_; rintro e w3 ⟨v3, rfl, hR3, hb3⟩; have HR3 := zpo hR3; have HB3 := zpo (zac HB2.out HB2.out.size hb3); have HZ3 := zpo HB2.out.size; clear hR3 hb3))
 go_ret
 exact ⟨_, rfl, by rw [HT.out]; exact zqD HR3.out (zpy HB.out.size HZ3.out), zac HB.out HB.out.size HB3.out⟩
theorem zoP (r : zaj) (B1 : Option Addr) (c1 : Nat) (B2 : Option Addr) (c2 : Nat) (B3 : Option Addr) (c3 : Nat) (B4 : Option Addr) (c4 : Nat) (w : World) (hA : RuleAt r B1 B2 B3 B4 w) (hF : FitR r) :
 Calls zp0 43 #[.agg (zao r B1 c1 B2 c2 B3 c3 B4 c4)] w (zfm ((zcj (zav r) (zaw (zbl r.f2) (zav r).steps).1).map mk) w) := by
 have hW := (zpr w.heap.size w).alloc (zps _) (.cells (zao r B1 c1 B2 c2 B3 c3 B4 c4) 45); have HK := zpo (zak w (.cells (zao r B1 c1 B2 c2 B3 c3 B4 c4) 45)); have HB := zpo hW; have HA := zpo (hA.below hW); have HL := zpo (zee (zbl r.f2) r); have HF := zpo hF; have HN := zpo (fun (X : Option Addr) (c : Nat) (W : World) (h : RuleAt r B1 B2 B3 B4 W) (hr : Kd.C zp6 W X r.f2.length r.f2) => zei r B1 c1 B2 c2 B3 c3 B4 c4 X c r.f2 W h.h4 hr hF hF.outs hF.outsN)
 have hn4 := hF.steps; have e : (fun x => (zab r.f2).contains x) = zbl r.f2 := rfl
 rw [e] at HN; generalize (zaw (zbl r.f2) (zav r).steps).1 = m at HL HN |-; obtain ⟨T, hT⟩ : ∃ T, T = (zcj (zav r) m).map mk := ⟨_, rfl⟩; rw [<- hT]; have HRd := zpo (fun (X : Option Addr) (c : Nat) (W : World) (h : RuleAt r B1 B2 B3 B4 W) (hr : Kd.C Kd.bool W X m.length m) => zgt r B1 c1 B2 c2 B3 c3 B4 c4 X c m W h.h1 h.h4 hr HL.out hF)
 have HT := zpo hT; clear hW hA hF e hT; unfold zao at *; go_enter Tryz.func43, Tryz.ntmps43
 go_upto_region 1 with fail; generalize w.alloc (.cells #[.string r.f0, .slice B1 r.f1.length c1, .slice B2 r.f2.length c2, .slice B3 r.f3.length c3, .slice B4 r.f4.length c4] 45) = w1 at HB HK HA |-; have Sof : ∀ W, Below w1.heap.size w1 W -> W.cell? ⟨w.heap.size, 0, none⟩ = some (.string r.f0) /\ W.cell? ⟨w.heap.size, 1, none⟩ = some (.slice B1 r.f1.length c1) /\ W.cell? ⟨w.heap.size, 2, none⟩ = some (.slice B2 r.f2.length c2) /\ W.cell? ⟨w.heap.size, 3, none⟩ = some (.slice B3 r.f3.length c3) /\ W.cell? ⟨w.heap.size, 4, none⟩ = some (.slice B4 r.f4.length c4) := fun W hW =>
  ⟨(zaf (zah HK.out hW) 0).trans rfl, (zaf (zah HK.out hW) 1).trans rfl, (zaf (zah HK.out hW) 2).trans rfl, (zaf (zah HK.out hW) 3).trans rfl, (zaf (zah HK.out hW) 4).trans rfl⟩
 have HSo := zpo Sof; have HBx : Hid (Below w1.heap.size w1 w1.drew) := zpo (zaW (zpr _ _)); clear Sof; go_region_held3 (fun W => W.cell? ⟨w.heap.size, 0, none⟩ = some (.string r.f0) /\ W.cell? ⟨w.heap.size, 1, none⟩ = some (.slice B1 r.f1.length c1) /\ W.cell? ⟨w.heap.size, 2, none⟩ = some (.slice B2 r.f2.length c2) /\ W.cell? ⟨w.heap.size, 3, none⟩ = some (.slice B3 r.f3.length c3) /\ W.cell? ⟨w.heap.size, 4, none⟩ = some (.slice B4 r.f4.length c4))
  (exact HSo.out _ HBx.out)
  (first
   | (go_at_call 66; refine (HN.out _ _ _ (HA.out.below HBx.out) (HA.out.below HBx.out).h2).mono ?_; rintro e w2 ⟨v2, rfl, hR2, hb2⟩; obtain ⟨A2, n2, rfl, _, hC2⟩ := zql hR2; have HC2 := zpo hC2; have HBx := zpo (zac HBx.out (HBx.out).size hb2); clear hR2 hC2 hb2)
   | (go_at_call 67; refine (HRd.out _ _ _ (HA.out.below HBx.out) HC2.out).mono ?_; rintro e w3 ⟨v3, rfl, hR3, hb3⟩; have HR3 := zpo hR3; have HZ3 := zpo HBx.out.size; have HBx := zpo (zac HBx.out HBx.out.size hb3); clear hR3 hb3))
 all_goals
  go_wp2_with fail; go_ret
  exact ⟨_, rfl, by rw [HT.out]; exact zqD HR3.out (zpy HB.out.size HZ3.out), zac HB.out HB.out.size HBx.out⟩
theorem zkV (r : zaj) (B1 : Option Addr) (c1 : Nat) (B2 : Option Addr) (c2 : Nat) (B3 : Option Addr) (c3 : Nat) (B4 : Option Addr) (c4 : Nat) (o : ByteArray) (w : World) (hA : RuleAt r B1 B2 B3 B4 w) (hF : FitR r) (ho : o.size <= maxLen) :
 Calls zp0 41 #[.agg (zao r B1 c1 B2 c2 B3 c3 B4 c4), .string o] w (zfm ((zcj (zav r) (zaw (zbl [o]) (zav r).steps).1).map mk) w) := by
 have hW := (zpr w.heap.size w).alloc (zps _) (.cells (zao r B1 c1 B2 c2 B3 c3 B4 c4) 45); have HK := zpo (zak w (.cells (zao r B1 c1 B2 c2 B3 c3 B4 c4) 45)); have HB := zpo hW; have HA := zpo (hA.below hW); have HL := zpo (zee (zbl [o]) r); have HF := zpo hF; have HN := zpo (fun (X : Option Addr) (c : Nat) (W : World) (h : RuleAt r B1 B2 B3 B4 W) (hr : Kd.C zp6 W X [o].length [o]) => zei r B1 c1 B2 c2 B3 c3 B4 c4 X c [o] W h.h4 hr hF (by simp) (fun x hx => by rw [zqU.1 hx]; exact ho))
 have hn4 := hF.steps; have e : (fun x => (zab [o]).contains x) = zbl [o] := rfl
 rw [e] at HN; generalize (zaw (zbl [o]) (zav r).steps).1 = m at HL HN |-; obtain ⟨T, hT⟩ : ∃ T, T = (zcj (zav r) m).map mk := ⟨_, rfl⟩; rw [<- hT]; have HRd := zpo (fun (X : Option Addr) (c : Nat) (W : World) (h : RuleAt r B1 B2 B3 B4 W) (hr : Kd.C Kd.bool W X m.length m) => zgt r B1 c1 B2 c2 B3 c3 B4 c4 X c m W h.h1 h.h4 hr HL.out hF)
 have HT := zpo hT; clear hW hA hF e hT ho; unfold zao at *; go_enter Tryz.func41, Tryz.ntmps41
 go_upto_region 1 with fail; generalize w.alloc (.cells #[.string r.f0, .slice B1 r.f1.length c1, .slice B2 r.f2.length c2, .slice B3 r.f3.length c3, .slice B4 r.f4.length c4] 45) = w1 at HB HK HA |-; have Sof : ∀ W, Below w1.heap.size w1 W -> W.cell? ⟨w.heap.size, 0, none⟩ = some (.string r.f0) /\ W.cell? ⟨w.heap.size, 1, none⟩ = some (.slice B1 r.f1.length c1) /\ W.cell? ⟨w.heap.size, 2, none⟩ = some (.slice B2 r.f2.length c2) /\ W.cell? ⟨w.heap.size, 3, none⟩ = some (.slice B3 r.f3.length c3) /\ W.cell? ⟨w.heap.size, 4, none⟩ = some (.slice B4 r.f4.length c4) := fun W hW =>
  ⟨(zaf (zah HK.out hW) 0).trans rfl, (zaf (zah HK.out hW) 1).trans rfl, (zaf (zah HK.out hW) 2).trans rfl, (zaf (zah HK.out hW) 3).trans rfl, (zaf (zah HK.out hW) 4).trans rfl⟩
 have HSo := zpo Sof; have HBx : Hid (Below w1.heap.size w1 w1.drew) := zpo (zaW (zpr _ _)); have HBa : Hid (Below w1.heap.size w1 (w1.drew.alloc (.cells #[.string o] 9))) := zpo (HBx.out.alloc HBx.out.size _); have HS := zpo (zbG zp6 w1.drew 9 [o] [.string o] (Kd.reps_scalar _) (by simp))
 clear Sof; go_region_held3 (fun W => W.cell? ⟨w.heap.size, 0, none⟩ = some (.string r.f0) /\ W.cell? ⟨w.heap.size, 1, none⟩ = some (.slice B1 r.f1.length c1) /\ W.cell? ⟨w.heap.size, 2, none⟩ = some (.slice B2 r.f2.length c2) /\ W.cell? ⟨w.heap.size, 3, none⟩ = some (.slice B3 r.f3.length c3) /\ W.cell? ⟨w.heap.size, 4, none⟩ = some (.slice B4 r.f4.length c4))
  (exact HSo.out _ (by first | exact HBx.out | exact HBa.out))
  (first
   | (go_at_call 66; refine (HN.out _ _ _ (HA.out.below HBa.out) HS.out).mono ?_; rintro e w2 ⟨v2, rfl, hR2, hb2⟩; obtain ⟨A2, n2, rfl, _, hC2⟩ := zql hR2; have HC2 := zpo hC2; have HBx := zpo (zac HBa.out (HBa.out).size hb2); clear hR2 hC2 hb2)
   | (go_at_call 67; refine (HRd.out _ _ _ (HA.out.below HBx.out) HC2.out).mono ?_; rintro e w3 ⟨v3, rfl, hR3, hb3⟩; have HR3 := zpo hR3; have HZ3 := zpo HBx.out.size; have HBx := zpo (zac HBx.out HBx.out.size hb3); clear hR3 hb3))
 all_goals
  go_wp2_with fail; go_ret
  exact ⟨_, rfl, by rw [HT.out]; exact zqD HR3.out (zpy HB.out.size HZ3.out), zac HB.out HB.out.size HBx.out⟩
theorem zlY (A : Option Addr) (c : Nat) (l : List zar) (w : World) (hG : GOK w) (hr : Kd.C k24 w A l.length l) (hl : l.length <= 1000) :
 Calls zp0 134 #[.slice A l.length c, .func (.func 97) #[] #[]] w fun e w' => ∃ i : Int, e = .returned (.int .i64 i) /\ decide (0 <= i) = l.any (fun x => zbJ (zaN x)) /\ Below w.heap.size w w' := by
 have HR := zpo hr; have HG := zpo hG; have eg := zj2; clear hr hG; go_enter Tryz.func134, Tryz.ntmps134
 go_wp2_with fail; go_loopg [5, 8] l.length (fun gg _ s8 wr => ∃ kk : Nat, kk <= l.length /\ l.length - kk <= gg /\ s8 = .int .i64 kk /\ Aside0 (Below w.heap.size w wr) /\ Aside0 (((l.take kk).any fun x => zbJ (zaN x)) = false))
 case atStart => exact ⟨0, zqf _, by omega, rfl, ⟨zpr _ _⟩, ⟨rfl⟩⟩
 case round =>
  obtain ⟨kk, hkk, hgk, rfl, HB, HA⟩ := hrel; by_cases hlt : kk < l.length
  . have hltz : (kk : Int) < (l.length : Int) := by omega
    obtain ⟨b, o, C2, d2, C3, d3, rfl, p0, p1, p2, p3, p4, g2, g3⟩ := zdz (zqO HR.out HB.out) kk hlt; have hS : ((l.take (kk + 1)).any fun x => zbJ (zaN x)) = (((l.take kk).any fun x => zbJ (zaN x)) || zbJ (zaN l[kk])) := by rw [zpU hlt, List.any_append]; simp
    rw [HA.out, Bool.false_or] at hS; have hmem : zbJ (zaN l[kk]) = true -> (l.any fun x => zbJ (zaN x)) = true := fun h => List.any_eq_true.2 ⟨_, zqJ hlt, h⟩
    have hcall := zlF l[kk] C2 d2 C3 d3 wr (HG.out.below HB.out) g2 g3; have HS := zpo hS; have HM := zpo hmem; generalize zbJ (zaN l[kk]) = q at hcall HS HM; generalize l[kk] = x at p0 p1 p2 p3 p4 hcall; unfold zeW at hcall; clear hS hmem g2 g3; cases q with
    | true =>
     go_wp2_with (first | (go_at_fn 97; refine hcall.mono ?_; rintro e w2 ⟨rfl, hb2⟩; have HB2 := zpo (zac HB.out HB.out.size hb2); clear hb2))
     go_ret
     exact ⟨kk, rfl, by rw [HM.out trivial]; simp, HB2.out⟩
    | false =>
     go_wp2_with (first | (go_at_fn 97; refine hcall.mono ?_; rintro e w2 ⟨rfl, hb2⟩; have HB2 := zpo (zac HB.out HB.out.size hb2); clear hb2))
     go_roundg (l.length - (kk + 1))
     case measure => omega
     case rel => exact ⟨kk + 1, by omega, by omega, by first | rfl | go_num, ⟨HB2.out⟩, ⟨HS.out⟩⟩
  . have hltz : ¬ (kk : Int) < (l.length : Int) := by omega
    obtain rfl : kk = l.length := by omega
    have hA := HA.out; rw [zqa] at hA; have HA2 := zpo hA; clear hA; go_wp2_with fail; go_ret
    exact ⟨-1, rfl, by rw [HA2.out]; rfl, HB.out⟩
theorem zm4 (A : Option Addr) (c : Nat) (l : List zar) (w : World) (hG : GOK w) (hr : Kd.C k24 w A l.length l) (hl : l.length <= 1000) :
 Calls zp0 96 #[.slice A l.length c, .func (.func 97) #[] #[]] w fun e w' => e = .returned (.bool (l.any (fun x => zbJ (zaN x)))) /\ Below w.heap.size w w' := by
 have hI := zlY A c l w hG hr hl; generalize l.any (fun x => zbJ (zaN x)) = q at hI |-
 clear hG hr; go_enter Tryz.func96, Tryz.ntmps96
 go_wp2_with (go_at_call 134; refine hI.mono ?_; rintro e w2 ⟨i, rfl, hq, hb2⟩)
 go_ret
 exact ⟨by rw [<- hq]; rfl, hb2⟩
theorem zoo (r : zaj) : zdx (zcd r) = (may r.f0.data.toList && !(decide (r.f2.length = 0)) && ((zab r.f1).all may && (zab r.f2).all may && (zab r.f3).all may) && !(r.f4.any fun x => zbJ (zaN x))) := by
 unfold zdx zcd zav; dsimp only; have h1 : (zab r.f2).isEmpty = decide (r.f2.length = 0) := by
  cases h : r.f2 with
  | nil => rfl
  | cons a l => simp [zab]
 have h2 : ((r.f4.map zaN).all fun s => may s.out && s.args.all may && mayC s.cmd) = !(r.f4.any fun x => zbJ (zaN x)) := by
  rw [List.all_map, List.not_any_eq_all_not]; congr 1
  funext x
  unfold zbJ; simp
 rw [h1, h2]
theorem zld (r : zaj) (B1 : Option Addr) (c1 : Nat) (B2 : Option Addr) (c2 : Nat) (B3 : Option Addr) (c3 : Nat) (B4 : Option Addr) (c4 : Nat) (w : World) (hG : GOK w) (hA : RuleAt r B1 B2 B3 B4 w) (hl : r.f4.length <= 1000) :
 Calls zp0 69 #[.agg (zao r B1 c1 B2 c2 B3 c3 B4 c4)] w fun e w' => e = .returned (.bool (zdx (zcd r))) /\ Below w.heap.size w w' := by
 have hW := (zpr w.heap.size w).alloc (zps _) (.cells (zao r B1 c1 B2 c2 B3 c3 B4 c4) 45); have HK := zpo (zak w (.cells (zao r B1 c1 B2 c2 B3 c3 B4 c4) 45)); have HB := zpo hW; have HA := zpo (hA.below hW); have HG := zpo (hG.below hW); have hln : r.f2.length <= 9223372036854775807 := hA.h2.2.1; rw [zoo]; have HN := zpo (fun W (hG : GOK W) => zff r.f0 W hG)
 have H1 := zpo (fun W (hG : GOK W) (h : Kd.C zp6 W B1 r.f1.length r.f1) => zeq B1 c1 r.f1 W hG h)
 have H2 := zpo (fun W (hG : GOK W) (h : Kd.C zp6 W B2 r.f2.length r.f2) => zeq B2 c2 r.f2 W hG h)
 have H3 := zpo (fun W (hG : GOK W) (h : Kd.C zp6 W B3 r.f3.length r.f3) => zeq B3 c3 r.f3 W hG h)
 have H4 := zpo (fun W (hG : GOK W) (h : Kd.C k24 W B4 r.f4.length r.f4) => zm4 B4 c4 r.f4 W hG h hl)
 generalize may r.f0.data.toList = q0 at HN |-; generalize (zab r.f1).all may = q1 at H1 |-; generalize (zab r.f2).all may = q2 at H2 |-; generalize (zab r.f3).all may = q3 at H3 |-; generalize r.f4.any (fun x => zbJ (zaN x)) = q4 at H4 |-
 clear hW hA hG hl; unfold zao at *; go_enter Tryz.func69, Tryz.ntmps69
 go_upto_if 13 with fail; generalize w.alloc (.cells #[.string r.f0, .slice B1 r.f1.length c1, .slice B2 r.f2.length c2, .slice B3 r.f3.length c3, .slice B4 r.f4.length c4] 45) = w1 at HB HK HA HG |-; have k0 := bc0 HK.out; cases q0 with
 | false =>
  go_wp2_with (first | (go_at_call 95; refine (HN.out _ HG.out).mono ?_; rintro e w2 ⟨rfl, hb2⟩))
  go_ret
  exact ⟨rfl, zac HB.out HB.out.size hb2⟩
 | true =>
  by_cases hz : r.f2.length = 0
  . have d0 : ((r.f2.length : Int) == 0) = true := by simp [hz]
    have hF : (true && !(decide (r.f2.length = 0)) && (q1 && q2 && q3) && !q4) = false := by simp [hz]
    have HF := zpo hF; have HZ := zpo hz; clear hz hF; go_wp2_with (first | (go_at_call 95; refine (HN.out _ HG.out).mono ?_; rintro e w2 ⟨rfl, hb2⟩; have HK2 := zpo (zah HK.out hb2); have j2 := bc2 HK2.out))
    go_ret
    exact ⟨by rw [HF.out]; rfl, zac HB.out HB.out.size hb2⟩
  . have d0 : ((r.f2.length : Int) == 0) = false := by simpa using hz
    have hF : (true && !(decide (r.f2.length = 0)) && (q1 && q2 && q3) && !q4) = ((q1 && q2 && q3) && !q4) := by simp [hz]
    have HF := zpo hF; clear hz hF; go_upto_region 3 with (first | (go_at_call 95; refine (HN.out _ HG.out).mono ?_; rintro e w2 ⟨rfl, hb2⟩; have HK2 := zpo (zah HK.out hb2); have j2 := bc2 HK2.out))
    have HB2 := zpo (zac HB.out HB.out.size hb2); have HA2 := zpo (HA.out.below hb2); have HG2 := zpo (HG.out.below hb2); have hb3 := (zpr w2.heap.size w2).alloc (zps _) (.cells #[.slice B1 r.f1.length c1, .slice B2 r.f2.length c2, .slice B3 r.f3.length c3] 22); have HX3 := zpo (zak w2 (.cells #[.slice B1 r.f1.length c1, .slice B2 r.f2.length c2, .slice B3 r.f3.length c3] 22)); have HB3 := zpo (zac HB2.out HB2.out.size hb3); have HA3 := zpo (HA2.out.below hb3); have HG3 := zpo (HG2.out.below hb3); have HK3 := zpo (zah HK2.out hb3); have j1 := bc1 HK2.out; have j3 := bc3 HK2.out; clear hb2 hb3; go_upto_block 0 with fail; generalize hg2 : w2.heap.size = g at HX3 |-; generalize w2.alloc (.cells #[.slice B1 r.f1.length c1, .slice B2 r.f2.length c2, .slice B3 r.f3.length c3] 22) = w3 at HX3 HB3 HA3 HG3 HK3 |-; clear hg2 j1 j2 j3 k0; go_wp2_with fail; go_loopg [4, 22] 3 (fun gg _ s22 wr => ∃ kk : Nat, kk <= 3 /\ 3 - kk <= gg /\ s22 = .int .i64 kk /\ Aside0 ((0 < kk -> q1 = true) /\ (1 < kk -> q2 = true) /\ (2 < kk -> q3 = true)) /\ Aside0 (Below w3.heap.size w3 wr))
    case atStart => exact ⟨0, by omega, by omega, rfl, ⟨fun h => absurd h (by omega), fun h => absurd h (by omega), fun h => absurd h (by omega)⟩, ⟨zpr _ _⟩⟩
    case round =>
     obtain ⟨kk, hkk, hgk, rfl, HQ, HW⟩ := hrel; have HXr := zpo (zah HX3.out HW.out); have x0 := bc0 HXr.out; have x1 := bc1 HXr.out; have x2 := bc2 HXr.out; have HAr := zpo (HA3.out.below HW.out); have HGr := zpo (HG3.out.below HW.out); have HBr := zpo (zac HB3.out HB3.out.size HW.out); have hkc : kk = 0 \/ kk = 1 \/ kk = 2 \/ kk = 3 := by omega
     rcases hkc with rfl | rfl | rfl | rfl
     . cases q1 with
       | false =>
        go_wp2_with (first | (go_at_call 56; refine (H1.out _ HGr.out HAr.out.h1).mono ?_; rintro e w4 ⟨rfl, hb4⟩))
        go_ret
        exact ⟨by rw [HF.out]; rfl, zac HBr.out HBr.out.size hb4⟩
       | true =>
        go_wp2_with (first | (go_at_call 56; refine (H1.out _ HGr.out HAr.out.h1).mono ?_; rintro e w4 ⟨rfl, hb4⟩))
        go_roundg 2
        case measure => omega
        case rel => exact ⟨1, by omega, by omega, by first | rfl | go_num, ⟨fun _ => by trivial, fun h => absurd h (by omega), fun h => absurd h (by omega)⟩, ⟨zac HW.out HW.out.size hb4⟩⟩
     . cases q2 with
       | false =>
        have hF2 := HF.out; go_wp2_with (first | (go_at_call 56; refine (H2.out _ HGr.out HAr.out.h2).mono ?_; rintro e w4 ⟨rfl, hb4⟩))
        go_ret
        exact ⟨by rw [HF.out]; simp, zac HBr.out HBr.out.size hb4⟩
       | true =>
        go_wp2_with (first | (go_at_call 56; refine (H2.out _ HGr.out HAr.out.h2).mono ?_; rintro e w4 ⟨rfl, hb4⟩))
        go_roundg 1
        case measure => omega
        case rel => exact ⟨2, by omega, by omega, by first | rfl | go_num, ⟨fun _ => HQ.out.1 (by omega), fun _ => by trivial, fun h => absurd h (by omega)⟩, ⟨zac HW.out HW.out.size hb4⟩⟩
     . cases q3 with
       | false =>
        go_wp2_with (first | (go_at_call 56; refine (H3.out _ HGr.out HAr.out.h3).mono ?_; rintro e w4 ⟨rfl, hb4⟩))
        go_ret
        exact ⟨by rw [HF.out]; simp, zac HBr.out HBr.out.size hb4⟩
       | true =>
        go_wp2_with (first | (go_at_call 56; refine (H3.out _ HGr.out HAr.out.h3).mono ?_; rintro e w4 ⟨rfl, hb4⟩))
        go_roundg 0
        case measure => omega
        case rel => exact ⟨3, by omega, by omega, by first | rfl | go_num, ⟨fun _ => HQ.out.1 (by omega), fun _ => HQ.out.2.1 (by omega), fun _ => by trivial⟩, ⟨zac HW.out HW.out.size hb4⟩⟩
     . have hq : (q1 && q2 && q3) = true := by rw [HQ.out.1 (by omega), HQ.out.2.1 (by omega), HQ.out.2.2 (by omega)]; rfl
       have hF3 : (true && !(decide (r.f2.length = 0)) && (q1 && q2 && q3) && !q4) = !q4 := by rw [HF.out, hq, Bool.true_and]
       have HF3 := zpo hF3; have HKr := zpo (zah HK3.out HW.out); have i4 := bc4 HKr.out; clear hq hF3; go_wp2_with (first | (go_at_call 96; refine (H4.out _ HGr.out HAr.out.h4).mono ?_; rintro e w4 ⟨rfl, hb4⟩))
       go_ret
       exact ⟨by rw [HF3.out]; rfl, zac HBr.out HBr.out.size hb4⟩
theorem zk6 {w : World} {A : Option Addr} {l : List ByteArray} (h : Kd.C zp6 w A l.length l) {k : Nat} (hk : k <= l.length) : Kd.C zp6 w A k (l.take k) := by
 refine ⟨by rw [zpD]; omega, by have := h.2.1; omega, fun hp => ?_⟩
 obtain ⟨ad, rfl, hc⟩ := h.2.2 (by omega)
 refine ⟨ad, rfl, fun j x hx => hc j x ?_⟩
 rw [List.getElem?_take] at hx; split at hx
 . exact hx
 . cases hx
theorem zpf (l : List ByteArray) (k : Nat) : zab (l.take k) = (zab l).take k := by unfold zab; rw [List.map_take]
theorem zov {l : List zaa} {k : Nat} (h : k < l.length) : (l.take (k + 1)).Nodup ↔ (l.take k).Nodup /\ l[k] ∉ l.take k := by
 rw [zpU h, List.nodup_append]; simp only [List.nodup_cons, List.not_mem_nil, not_false_eq_true, List.nodup_nil, and_self, zqU, true_and]; constructor
 . rintro ⟨h1, h2⟩
   exact ⟨h1, fun hm => h2 _ hm _ rfl rfl⟩
 . rintro ⟨h1, h2⟩
   exact ⟨h1, fun a ha b hb e => h2 (by rw [<- hb, <- e]; exact ha)⟩
theorem zf9 (A : Option Addr) (c : Nat) (l : List ByteArray) (w : World) (hr : Kd.C zp6 w A l.length l) (hc : l.length <= c) :
 Calls zp0 98 #[.slice A l.length c] w fun e w' => e = .returned (.bool (zb0 (zab l))) /\ w = w' := by
 have hlen : l.length <= 9223372036854775807 := hr.2.1; have HR := zpo hr; obtain ⟨T, hT⟩ : ∃ T, T = zb0 (zab l) := ⟨_, rfl⟩; rw [<- hT]; have HT := zpo hT; clear hr hT; go_enter Tryz.func98, Tryz.ntmps98
 go_wp2_with fail; go_loopg [3, 4, 7] l.length (fun gg _ _ s7 wr => ∃ kk : Nat, kk <= l.length /\ l.length - kk <= gg /\ s7 = .int .i64 kk /\ Aside0 (((zab l).take kk).Nodup) /\ wr = w)
 case atStart => exact ⟨0, zqf _, by omega, rfl, ⟨List.nodup_nil⟩, rfl⟩
 case round =>
  obtain ⟨kk, hkk, hgk, rfl, HN, rfl⟩ := hrel; by_cases hlt : kk < l.length
  . have hltz : (kk : Int) < (l.length : Int) := by omega
    obtain ⟨b, o, rfl, p0⟩ := zbj HR.out kk hlt; have hl2 : (l.take kk).length = kk := by rw [zpD]; omega
    have hct := zc3 (some ⟨b, o, none⟩) c (l.take kk) l[kk] wr (by rw [hl2]; exact zk6 HR.out (by omega))
    rw [hl2, zpf] at hct; have hnd := zov (l := zab l) (k := kk) (by rw [zaL]; exact hlt)
    rw [zce l kk hlt] at hnd; have hTt : ((zab l).take kk).contains l[kk].data.toList = true -> T = true := by
     intro h; rw [HT.out]; unfold zb0; have : ¬ (zab l).Nodup := by
      intro hn; have h2 : ((zab l).take (kk + 1)).Nodup := (List.take_sublist _ _).nodup hn; exact (hnd.1 h2).2 (by simpa using h)
     simp [this]
    have hTf : ((zab l).take kk).contains l[kk].data.toList = false -> ((zab l).take (kk + 1)).Nodup := fun h => hnd.2 ⟨HN.out, by simpa using h⟩
    have HTt := zpo hTt; have HTf := zpo hTf; have hb1 : (kk : Int) <= (l.length : Int) := by omega
    have hb2 : (l.length : Int) <= (c : Int) := by omega
    have hb3 : (kk : Int) <= (c : Int) := by omega
    have hb0 : (0 : Int) <= (kk : Int) := by omega
    generalize ((zab l).take kk).contains l[kk].data.toList = q at hct HTt HTf; generalize l[kk] = y at p0 hct; have HCt := zpo hct; clear hnd hTt hTf hct hl2; cases q with
    | true =>
     have HF : Hid (T = true) := zpo (HTt.out (by trivial))
     go_wp2_with (first | (go_at_call 92; refine HCt.out.mono ?_; rintro e w2 ⟨rfl, rfl⟩))
     go_ret
     exact ⟨by rw [HF.out]; rfl, rfl⟩
    | false =>
     have HF := zpo (HTf.out (by trivial))
     go_wp2_with (first | (go_at_call 92; refine HCt.out.mono ?_; rintro e w2 ⟨rfl, rfl⟩))
     go_roundg (l.length - (kk + 1))
     case measure => omega
     case rel => exact ⟨kk + 1, by omega, by omega, by first | rfl | go_num, ⟨HF.out⟩, rfl⟩
  . have hltz : ¬ (kk : Int) < (l.length : Int) := by omega
    obtain rfl : kk = l.length := by omega
    have hF : T = false := by
     rw [HT.out]; unfold zb0; have h := HN.out; rw [zqS (by rw [zaL]; exact zps _)] at h
     simp [h]
    have HF := zpo hF; clear hF; go_wp2_with fail; go_ret
    exact ⟨by rw [HF.out]; rfl, rfl⟩
end X
end Go.Proofs.YtdpgdnpddndeoaaGreatDoor
