/-
  What the cards lean on (part V8): contracts of functions, by hand, and plain laws; what is printed by the kit's print for this seat is among them. What is not reached is left out.
-/
import Derived.Test.YtdpgdnpddndeoaaGreatDoorV7
import Derived.Test.YtdpgdnpddndeoaaGreatDoorV5
set_option maxHeartbeats 8000000
set_option maxRecDepth 100000
set_option linter.unusedSimpArgs false
set_option linter.unusedVariables false
open Go.RowKit.Below renaming refl -> zpw
open Nat renaming le_refl -> zpx, le_trans -> zpD, mul_le_mul_right -> zpP, mul_one -> zqV, zero_le -> zqk
open List renaming map_map -> zqd, eq_nil_of_length_eq_zero -> zpz, getElem?_eq_getElem -> zpA, getD_eq_getElem?_getD -> zpB, length_map -> zqe, length_take -> zpI, length_append -> zpK, take_length -> zqf, take_succ_eq_append_getElem -> zpZ, length_cons -> zqh, drop_eq_nil_of_le -> zqj, mem_cons -> zqE, take_of_length_le -> zqP, length_filter_le -> zqn, length_replicate -> zqW, map_append -> zqo, getElem_mem -> zqQ, take_zero -> zqX
open Int renaming toNat_natCast -> zqN
open Go.Proofs.Tryz renaming prog -> zp5
open Go.Proofs.YtdpgdnpddndeoaaGreatDoorW.PrintWords.Kd renaming C_below -> zqS, string -> zqb, R_reads -> zqq, R_below -> zqu, R_lower -> zqJ
namespace Go.Proofs.YtdpgdnpddndeoaaGreatDoor
namespace X
open Go.RowKit Go.Maps YtdpgdnpddndeoaaGreatDoorW.PrintWords YtdpgdnpddndeoaaGreatDoorW.PrintMore YtdpgdnpddndeoaaGreatDoorW.PrintLast
abbrev RVal (w : World) (base : Nat) (v : Value) (l : List SVal) : Prop := Kd.R k34 34 w base (fun _ => True) v l
structure FitR (r : zaj) : Prop where
 ins : r.f1.length <= 1000
 outs : r.f2.length <= 1000
 steps : r.f4.length <= 1000
 insN : ∀ x ∈ r.f1, x.size <= maxLen
 outsN : ∀ x ∈ r.f2, x.size <= maxLen
 stepN : ∀ s ∈ r.f4, s.f0.size <= maxLen /\ s.f2.length <= 1000 /\ ∀ x ∈ s.f2, x.size <= maxLen
def zfC (l : List SVal) (w : World) (e : Ending) (w' : World) : Prop := ∃ v, e = .returned v /\ RVal w' w.heap.size v l /\ Below w.heap.size w w'
theorem za4 {w : World} {A : Option Addr} {l : List ByteArray} (h : Kd.C zqb w A l.length l) (k : Nat) (hk : k < l.length) : ∃ b o, A = some ⟨b, o, none⟩ /\ w.cell? ⟨b, o + k, none⟩ = some (.string l[k]) := by
 rcases zaX h with h0 | ⟨b, o, rfl, _, hcell⟩
 . exfalso; rw [h0] at hk; simp at hk
 . refine ⟨b, o, rfl, ?_⟩
   have := hcell k hk; rwa [show l.getD k ByteArray.empty = l[k] by simp [zpB, zpA hk]] at this
def zal (r : zaj) (B1 : Option Addr) (c1 : Nat) (B2 : Option Addr) (c2 : Nat) (B3 : Option Addr) (c3 : Nat) (B4 : Option Addr) (c4 : Nat) : Array Value :=
 #[.string r.f0, .slice B1 r.f1.length c1, .slice B2 r.f2.length c2, .slice B3 r.f3.length c3, .slice B4 r.f4.length c4]
theorem zcA {w : World} {A : Option Addr} {l : List zaw} (h : Kd.C k24 w A l.length l) (i : Nat) (hi : i < l.length) :
 ∃ b o B2 c2 B3 c3, A = some ⟨b, o, none⟩ /\ w.cell? ⟨b, o + i * 5, none⟩ = some (.string l[i].f0) /\ w.cell? ⟨b, o + i * 5 + 1, none⟩ = some (.int .i64 l[i].f1) /\ w.cell? ⟨b, o + i * 5 + 2, none⟩ = some (.slice B2 l[i].f2.length c2) /\
  w.cell? ⟨b, o + i * 5 + 3, none⟩ = some (.slice B3 l[i].f3.length c3) /\ w.cell? ⟨b, o + i * 5 + 4, none⟩ = some (.int .i64 l[i].f4) /\ Kd.C zqb w B2 l[i].f2.length l[i].f2 /\ Kd.C zqb w B3 l[i].f3.length l[i].f3 := by
 obtain ⟨ad, B2, c2, B3, c3, rfl, p0, p1, p2, p3, p4, q2, g2, q3, g3⟩ := zfo h (i : Int) (by omega) (by omega)
 have hx : zbP l (i : Int) = l[i] := by
  unfold zbP; rw [zqN, zpB, zpA hi]; rfl
 rw [hx, zqN] at p0 p1 p2 p3 p4; rw [hx] at q2 g2 q3 g3; obtain ⟨ad0, _, _, _, _, had0, z0, _⟩ := zfo h 0 (by omega) (by omega)
 cases had0
 obtain ⟨b, o, rfl⟩ := zdZ z0; have e : ((⟨b, o, none⟩ : Addr).add (i * 5)) = ⟨b, o + i * 5, none⟩ := by
  unfold Addr.add; split
  . rename_i h0; simp [h0]
  . rfl
 rw [e] at p0 p1 p2 p3 p4; exact ⟨b, o, B2, c2, B3, c3, rfl, p0, p1, p2, p3, p4, g2, g3⟩
theorem zf9 (r : zaj) (B1 : Option Addr) (c1 : Nat) (B2 : Option Addr) (c2 : Nat) (B3 : Option Addr) (c3 : Nat) (B4 : Option Addr) (c4 : Nat) (A : Option Addr) (c : Nat) (vs : List SVal) (w : World) (hG : GOK w)
 (h1 : Kd.C zqb w B1 r.f1.length r.f1) (h2 : Kd.C zqb w B2 r.f2.length r.f2) (h4 : Kd.C k24 w B4 r.f4.length r.f4) (hr : Kd.C k34 w A vs.length vs) (hF : FitR r) (hsz : ∀ v ∈ vs, v.f1.size <= 4194304) :
 Calls zp5 34 #[.agg (zal r B1 c1 B2 c2 B3 c3 B4 c4), .slice A vs.length c] w (zfC (runS (zao r) vs) w) := by
 have hlen : vs.length <= 9223372036854775807 := hr.2.1; have hn1 := hF.ins; have hn2 := hF.outs; have hn4 := hF.steps; have hW := (zpw w.heap.size w).alloc (zpx _) (.cells (zal r B1 c1 B2 c2 B3 c3 B4 c4) 45); have HK := zpt (zap w (.cells (zal r B1 c1 B2 c2 B3 c3 B4 c4) 45)); have HB := zpt hW; have H1 := zpt (zqS h1 hW); have H2 := zpt (zqS h2 hW); have H4 := zpt (zqS h4 hW); have HR := zpt (zqS hr hW); have HG := zpt (hG.below hW); have HS := zpt hsz; have HF := zpt hF; obtain ⟨T, hT⟩ : ∃ T, T = runS (zao r) vs := ⟨_, rfl⟩; rw [<- hT]; unfold runS at hT; have hni : (zao r).ins.length = r.f1.length := zaT _; rw [hni] at hT; have HT := zpt hT; clear hT hni hW h1 h2 h4 hr hG hsz hF; unfold zal at *; have hmm := @run_makeMap zp5; by_cases hne : vs.length = r.f1.length
 . have d0 : ((vs.length : Int) != (r.f1.length : Int)) = false := by simp [hne]
   have HN := zpt hne; have hT := HT.out; rw [if_neg (by omega)] at hT
   clear HT; have HT := zpt hT; clear hT hne; go_enter Tryz.func34, Tryz.ntmps34
   go_upto_region 3 with fail; generalize w.alloc (.cells #[.string r.f0, .slice B1 r.f1.length c1, .slice B2 r.f2.length c2, .slice B3 r.f3.length c3, .slice B4 r.f4.length c4] 45) = w1 at HB HK H1 H2 H4 HR HG |-; have k1 := bc1 HK.out; have hE0 := EnvIs.made w1; have hB0 := (zpw w1.heap.size w1).alloc (zpx _) (.map #[] 0); have HE0 := zpt hE0; have HB0 := zpt hB0; have HM0 : Hid (w1.heap.size < (w1.alloc (.map #[] 0)).heap.size) := zpt hE0.lt; have HK2 := zpt (zai HK.out hB0); have k1' := bc1 HK2.out; clear hE0 hB0; go_upto_region 4 with fail; generalize w1.alloc (.map #[] 0) = w2 at HE0 HB0 HM0 HK2 k1' |-; go_wp2_with fail; go_loopg [6, 7, 26] r.f1.length (fun gg _ _ s26 wr => ∃ kk : Nat, kk <= r.f1.length /\ r.f1.length - kk <= gg /\ s26 = .int .i64 kk /\ Aside0 (EnvIs wr w1.heap.size kk (envK (zab r.f1) vs kk)) /\ Aside0 (Below w1.heap.size w1 wr))
   case atStart => exact ⟨0, zqk _, by omega, rfl, ⟨HE0.out⟩, ⟨HB0.out⟩⟩
   case round =>
    obtain ⟨kk, hkk, hgk, rfl, HE, HW⟩ := hrel; by_cases hlt : kk < r.f1.length
    . have hltz : (kk : Int) < (r.f1.length : Int) := by omega
      have hlv : kk < vs.length := by have := HN.out; omega
      have hlvz : (kk : Int) < (vs.length : Int) := by omega
      obtain ⟨b, o, rfl, p0⟩ := za4 (zqS H1.out HW.out) kk hlt; obtain ⟨b2, o2, rfl, v0, v1⟩ := zdn (zqS HR.out HW.out) kk hlv; have hst := zme (zab r.f1) vs kk (by rw [zaT]; exact hlt) hlv
      rw [zco r.f1 kk hlt] at hst; have hsz := HF.out.insN _ (zqQ hlt); obtain ⟨w3, hrun, hE3, hg3⟩ := HE.out.store (by unfold maxLen; omega) r.f1[kk] hsz vs[kk]
      rw [<- hst] at hE3; unfold aggV at hrun; have HE3 := zpt hE3; have HW3 : Hid (Below w1.heap.size w1 w3) := zpt (HW.out.grown hg3 HW.out.size (fun k hk => by cases hk; exact zpx _))
      generalize r.f1[kk] = n at p0 hrun; generalize vs[kk] = v at v0 v1 hrun; clear hst hsz hE3 hg3; go_wp2_with fail; go_roundg (r.f1.length - (kk + 1))
      case measure => omega
      case rel => exact ⟨kk + 1, by omega, by omega, by go_num, ⟨HE3.out⟩, ⟨HW3.out⟩⟩
    . have hltz : ¬ (kk : Int) < (r.f1.length : Int) := by omega
      obtain rfl : kk = r.f1.length := by omega
      have HE1 : Hid (EnvIs wr w1.heap.size (r.f1.length + 0) (runK (zao r) vs 0)) := by
       have h := HE.out; have e : runK (zao r) vs 0 = envK (zab r.f1) vs r.f1.length := by
        show envK (zab r.f1) vs (zab r.f1).length = _
        rw [zaT]
       show EnvIs _ _ _ _
       rw [e]; exact h
      have HK3 := zpt (zai HK.out HW.out); have k4 := bc4 HK3.out; go_upto_region 9 with fail; clear HE HE0 HB0 HM0 HK2 k1'; go_wp2_with fail; go_loopg [9, 10, 12, 41] r.f4.length (fun gg _ _ _ s41 wq => ∃ jj : Nat, jj <= r.f4.length /\ r.f4.length - jj <= gg /\ s41 = .int .i64 jj /\ Aside0 (EnvIs wq w1.heap.size (r.f1.length + jj) (runK (zao r) vs jj)) /\ Aside0 (Below w1.heap.size w1 wq))
      case atStart => exact ⟨0, zqk _, by omega, rfl, ⟨HE1.out⟩, ⟨HW.out⟩⟩
      case round =>
       obtain ⟨jj, hjj, hgj, rfl, HEq, HWq⟩ := hrel; obtain ⟨wq, rfl⟩ : ∃ wq, wq = wr := ⟨wr, rfl⟩; by_cases hlj : jj < r.f4.length
       . have hljz : (jj : Int) < (r.f4.length : Int) := by omega
         obtain ⟨b, o, C2, d2, C3, d3, rfl, p0, p1, p2, p3, p4, g2, g3⟩ := zcA (zqS H4.out HWq.out) jj hlj; have hst := zkU (zao r) vs jj (by show jj < (r.f4.map zaC).length; rw [zqe]; exact hlj)
         have hsx : (zao r).steps[jj]'(by show jj < (r.f4.map zaC).length; rw [zqe]; exact hlj) = zaC r.f4[jj] := List.getElem_map ..
         rw [hsx] at hst; have hsm := zjm (zao r) vs HS.out jj; obtain ⟨hxo, hxl, hxn⟩ := HF.out.stepN _ (zqQ hlj); have HEr : Hid (EnvIs (wq) w1.heap.size (r.f1.length + jj) (runK (zao r) vs jj)) := zpt HEq.out; have HSt : Hid (runK (zao r) vs (jj + 1) = zcZ (runK (zao r) vs jj) (zaC r.f4[jj])) := zpt hst; have HXo := zpt hxo; have HXn := zpt hxn; have HSm := zpt hsm; generalize hx : r.f4[jj] = x at p0 p1 p2 p3 p4 g2 g3 HSt HXo HXn hxl; clear hx hst hsx hxo hxn hsm; generalize runK (zao r) vs jj = e at HEr HSt HSm; have hb3 := (zpw wq.heap.size wq).alloc (zpx _) (.cells #[.string x.f0, .int .i64 x.f1, .slice C2 x.f2.length d2, .slice C3 x.f3.length d3, .int .i64 x.f4] 24); have HX3 := zpt (zap wq (.cells #[.string x.f0, .int .i64 x.f1, .slice C2 x.f2.length d2, .slice C3 x.f3.length d3, .int .i64 x.f4] 24)); have HB3 := zpt hb3; have HG2 := zpt (zqS g2 hb3); have HG3 := zpt (zqS g3 hb3); have HE3 := zpt (HEr.out.below hb3); have HWz := zpt HWq.out.size; clear g2 g3 hb3; go_upto_region 12 with fail; generalize wq.alloc (.cells #[.string x.f0, .int .i64 x.f1, .slice C2 x.f2.length d2, .slice C3 x.f3.length d3, .int .i64 x.f4] 24) = w3 at HX3 HB3 HG2 HG3 HE3 |-; have x2 := bc2 HX3.out; go_wp2_with fail; go_loopg [10, 12, 48] x.f2.length (fun gg s10 _ s48 wi => ∃ j : Nat, j <= x.f2.length /\ x.f2.length - j <= gg /\ s48 = .int .i64 j /\ Aside0 (RVal wi w3.heap.size s10 ((x.f2.take j).map fun a => e a.data.toList)) /\ Aside0 (Below w3.heap.size w3 wi))
         case atStart => exact ⟨0, zqk _, by omega, rfl, ⟨Kd.R_nil _ _ _ _ _⟩, ⟨zpw _ _⟩⟩
         case round =>
          obtain ⟨j, hj, hgj2, rfl, HO, HWi⟩ := hrel; by_cases hl2 : j < x.f2.length
          . have hl2z : (j : Int) < (x.f2.length : Int) := by omega
            obtain ⟨b5, o5, rfl, q0⟩ := za4 (zqS HG2.out HWi.out) j hl2; have hlk := (HE3.out.below HWi.out).look x.f2[j] (HXn.out _ (zqQ hl2)); have HSucc : Hid ((x.f2.take (j + 1)).map (fun a => e a.data.toList) = (x.f2.take j).map (fun a => e a.data.toList) ++ [e x.f2[j].data.toList]) := by show _ = _; rw [zpZ hl2, zqo]; rfl
            have hml : ((x.f2.take j).map (fun a => e a.data.toList)).length = j := by rw [zqe, zpI]; omega
            have HML := zpt hml; have HWs := zpt HWi.out.size; generalize e x.f2[j].data.toList = v at hlk HSucc; generalize x.f2[j] = n at q0 hlk; unfold aggV at hlk; clear hml; go_wp2_with (first | ((with_reducible refine zaG (b := .append) (xs := #[.tmp 52, .tmp 56]) rfl ?_); at_builtin; refine Kd.R_append k34 (w0 := w3) w3.heap.size rfl (.tmp 52) (.tmp 56) 25 34 (.agg #[.bool false, .string ⟨#[]⟩]) 24 rfl Tryz.underlying25 zc4 rfl (by decide) (by decide) u10 ((x.f2.take j).map (fun a => e a.data.toList)) v [.bool v.f0, .string v.f1] (fun _ => True) (fun k_ => True /\ some k_ ≠ u10.ownBlock) rfl rfl (zcY _ _ _ v) (fun _ hk => hk) (fun _ _ => trivial) HO.out HWi.out HWs.out ?aL ?_; (case aL => (have h1 := HML.out; omega)); intro v1 w4 ho hb hg hat; have HO4 : Hid (RVal w4 w3.heap.size v1 ((x.f2.take (j + 1)).map (fun a => e a.data.toList))) := (by show RVal _ _ _ _; rw [HSucc.out]; exact ho); have HB4 := zpt hb; clear ho hb hg hat))
            go_roundg (x.f2.length - (j + 1))
            case measure => omega
            case rel => exact ⟨j + 1, by omega, by omega, by first | rfl | go_num, ⟨HO4.out⟩, ⟨HB4.out⟩⟩
          . have hl2z : ¬ (j : Int) < (x.f2.length : Int) := by omega
            obtain rfl : j = x.f2.length := by omega
            have hO := HO.out; rw [zqf] at hO; obtain ⟨A5, n5, rfl, hc5, hC5⟩ := zqq hO; have hlm : (x.f2.map fun a => e a.data.toList).length = x.f2.length := zqe ..
            have HC5 : Hid (Kd.C k34 wr A5 (x.f2.map fun a => e a.data.toList).length (x.f2.map fun a => e a.data.toList)) := zpt hC5
            have HWi2 : Hid (Below w1.heap.size w1 wr) := zpt ((HWq.out.trans (HB3.out.mono HWz.out)).trans (HWi.out.mono (zpD HWz.out HB3.out.size))); have hDo := fun (W : World) (hW : Below wr.heap.size wr W) => zjW x C2 d2 C3 d3 A5 n5 (x.f2.map fun a => e a.data.toList) W (HG.out.below (HWi2.out.trans (hW.mono HWi2.out.size))) (zqS HG2.out (HWi.out.trans (hW.mono HWi.out.size))) (zqS HG3.out (HWi.out.trans (hW.mono HWi.out.size))) (zqS HC5.out hW) (fun v hv => by
             obtain ⟨a, _, rfl⟩ := List.mem_map.1 hv; exact HSm.out _)
            rw [hlm] at hDo |-; have hse : zcZ e (zaC x) = updS e x.f0.data.toList (valS (doP (zam x) ((x.f2.map fun a => e a.data.toList).map valO))) := by
             unfold zcZ zaC zab; dsimp only; rw [zqd, zqd]; rfl
            have HSt2 : Hid (runK (zao r) vs (jj + 1) = updS e x.f0.data.toList (valS (doP (zam x) ((x.f2.map fun a => e a.data.toList).map valO)))) := HSt.out.trans hse
            generalize valS (doP (zam x) ((x.f2.map fun a => e a.data.toList).map valO)) = vx at hDo HSt2
            have HDo := zpt hDo; have HX5 := zpt (zai HX3.out HWi.out); have Sof : ∀ W : World, W.heap[wq.heap.size]? = some (.cells #[.string x.f0, .int .i64 x.f1, .slice C2 x.f2.length d2, .slice C3 x.f3.length d3, .int .i64 x.f4] 24 (0, 0)) -> W.cell? ⟨wq.heap.size, 0, none⟩ = some (.string x.f0) /\ W.cell? ⟨wq.heap.size, 1, none⟩ = some (.int .i64 x.f1) /\ W.cell? ⟨wq.heap.size, 2, none⟩ = some (.slice C2 x.f2.length d2) /\ W.cell? ⟨wq.heap.size, 3, none⟩ = some (.slice C3 x.f3.length d3) /\ W.cell? ⟨wq.heap.size, 4, none⟩ = some (.int .i64 x.f4) := fun W hW =>
             ⟨(zah hW 0).trans rfl, (zah hW 1).trans rfl, (zah hW 2).trans rfl, (zah hW 3).trans rfl, (zah hW 4).trans rfl⟩
            have HNe : Hid (w1.heap.size < wq.heap.size) := HEr.out.lt; have HSo := zpt Sof; have HBx : Hid (Below wr.heap.size wr wr.drew) := zpt (zaM (zpw _ _)); have HEs : Hid (∀ W, Below wr.heap.size wr W -> ∃ w6, (Instr.mapUpdate 91 (.map (some w1.heap.size)) (.string x.f0) (aggV vx)).run zp5 W = .ok () w6 /\ EnvIs w6 w1.heap.size (r.f1.length + jj + 1) (updS e x.f0.data.toList vx) /\ W.grownBy w6 (some w1.heap.size)) :=
             zpt (fun W hW => ((HE3.out.below HWi.out).below hW).store (by unfold maxLen; omega) x.f0 HXo.out vx)
            clear hDo hse hC5 hO Sof hc5 hlm x2; go_wp2_with fail; go_region_held3 (fun W => W.cell? ⟨wq.heap.size, 0, none⟩ = some (.string x.f0) /\ W.cell? ⟨wq.heap.size, 1, none⟩ = some (.int .i64 x.f1) /\ W.cell? ⟨wq.heap.size, 2, none⟩ = some (.slice C2 x.f2.length d2) /\ W.cell? ⟨wq.heap.size, 3, none⟩ = some (.slice C3 x.f3.length d3) /\ W.cell? ⟨wq.heap.size, 4, none⟩ = some (.int .i64 x.f4))
             (first | exact HSo.out _ (zai HX5.out HBx.out) | exact HSo.out _ HX6.out)
             (first | (go_at_call 25; refine (HDo.out _ HBx.out).mono ?_; rintro e5 w5 ⟨rfl, hb5⟩; have HBx := zpt (zac HBx.out HBx.out.size hb5); obtain ⟨w6, hrun, hE6, hg6⟩ := HEs.out _ HBx.out; have HE6 := zpt hE6; have HG6 := zpt hg6; have HX6 := zpt ((hg6.block wq.heap.size (za1 (zai HX5.out HBx.out)) (by have h := HNe.out; intro he; injection he; omega)).trans (zai HX5.out HBx.out)); clear hb5 hE6 hg6))
            all_goals
             have hW6 : Below w1.heap.size w1 w6 := (HWi2.out.trans (HBx.out.mono HWi2.out.size)).grown HG6.out (zpD HWi2.out.size HBx.out.size) (fun k hk => by cases hk; exact zpx _)
             have HW6 := zpt hW6; have HE7 : Hid (EnvIs w6 w1.heap.size (r.f1.length + (jj + 1)) (runK (zao r) vs (jj + 1))) := by
              show EnvIs _ _ _ _
              rw [HSt2.out]; exact HE6.out
             clear hW6; go_wp2_with fail; go_roundg (r.f4.length - (jj + 1))
             case measure => omega
             case rel => exact ⟨jj + 1, by omega, by omega, by first | rfl | go_num, ⟨HE7.out⟩, ⟨HW6.out⟩⟩
       . have hljz : ¬ (jj : Int) < (r.f4.length : Int) := by omega
         obtain rfl : jj = r.f4.length := by omega
         have HK4 := zpt (zai HK.out HWq.out); have k2 := bc2 HK4.out; have hkl : (zao r).steps.length = r.f4.length := zqe ..; have hT2 := HT.out; rw [hkl] at hT2; have HT2 : Hid (T = (zab r.f2).map (runK (zao r) vs r.f4.length)) := zpt hT2; have HEf : Hid (EnvIs wq w1.heap.size (r.f1.length + r.f4.length) (runK (zao r) vs r.f4.length)) := zpt HEq.out; clear hkl hT2; generalize runK (zao r) vs r.f4.length = e at HEf HT2; go_upto_region 21 with fail; go_wp2_with fail; go_loopg [13, 15, 69] r.f2.length (fun gg s13 _ s69 wi => ∃ j : Nat, j <= r.f2.length /\ r.f2.length - j <= gg /\ s69 = .int .i64 j /\ Aside0 (RVal wi wq.heap.size s13 ((r.f2.take j).map fun a => e a.data.toList)) /\ Aside0 (Below wq.heap.size wq wi))
         case atStart => exact ⟨0, zqk _, by omega, rfl, ⟨Kd.R_nil _ _ _ _ _⟩, ⟨zpw _ _⟩⟩
         case round =>
          obtain ⟨j, hj, hgj2, rfl, HO, HWi⟩ := hrel; by_cases hl2 : j < r.f2.length
          . have hl2z : (j : Int) < (r.f2.length : Int) := by omega
            obtain ⟨b5, o5, rfl, q0⟩ := za4 (zqS H2.out (HWq.out.trans (HWi.out.mono HWq.out.size))) j hl2; have hlk := (HEf.out.below HWi.out).look r.f2[j] (HF.out.outsN _ (zqQ hl2)); have HSucc : Hid ((r.f2.take (j + 1)).map (fun a => e a.data.toList) = (r.f2.take j).map (fun a => e a.data.toList) ++ [e r.f2[j].data.toList]) := by show _ = _; rw [zpZ hl2, zqo]; rfl
            have hml : ((r.f2.take j).map (fun a => e a.data.toList)).length = j := by rw [zqe, zpI]; omega
            have HML := zpt hml; have HWs := zpt HWi.out.size; generalize e r.f2[j].data.toList = v at hlk HSucc; generalize r.f2[j] = n at q0 hlk; unfold aggV at hlk; clear hml; go_wp2_with (first | ((with_reducible refine zaG (b := .append) (xs := #[.tmp 73, .tmp 77]) rfl ?_); at_builtin; refine Kd.R_append k34 (w0 := wq) wq.heap.size rfl (.tmp 73) (.tmp 77) 25 34 (.agg #[.bool false, .string ⟨#[]⟩]) 24 rfl Tryz.underlying25 zc4 rfl (by decide) (by decide) u13 ((r.f2.take j).map (fun a => e a.data.toList)) v [.bool v.f0, .string v.f1] (fun _ => True) (fun k_ => True /\ some k_ ≠ u13.ownBlock) rfl rfl (zcY _ _ _ v) (fun _ hk => hk) (fun _ _ => trivial) HO.out HWi.out HWs.out ?aL ?_; (case aL => (have h1 := HML.out; omega)); intro v1 w4 ho hb hg hat; have HO4 : Hid (RVal w4 wq.heap.size v1 ((r.f2.take (j + 1)).map (fun a => e a.data.toList))) := (by show RVal _ _ _ _; rw [HSucc.out]; exact ho); have HB4 := zpt hb; clear ho hb hg hat))
            go_roundg (r.f2.length - (j + 1))
            case measure => omega
            case rel => exact ⟨j + 1, by omega, by omega, by first | rfl | go_num, ⟨HO4.out⟩, ⟨HB4.out⟩⟩
          . have hl2z : ¬ (j : Int) < (r.f2.length : Int) := by omega
            obtain rfl : j = r.f2.length := by omega
            have hO := HO.out; rw [zqf] at hO; have hte : T = r.f2.map fun a => e a.data.toList := by rw [HT2.out]; unfold zab; rw [zqd]; rfl
            have HTe := zpt hte; have HOf := zpt hO; clear hte hO; go_wp2_with fail; go_ret
            exact ⟨_, rfl, by rw [HTe.out]; exact zqJ HOf.out (zpD HB.out.size HWq.out.size), (HB.out.trans (HWq.out.mono HB.out.size)).trans (HWi.out.mono (zpD HB.out.size HWq.out.size))⟩
 . have d0 : ((vs.length : Int) != (r.f1.length : Int)) = true := by simp; omega
   have hT := HT.out; rw [if_pos (by omega)] at hT
   clear HT; have HT := zpt hT; clear hT hne; go_enter Tryz.func34, Tryz.ntmps34
   go_upto_if 21 with fail; generalize w.alloc (.cells #[.string r.f0, .slice B1 r.f1.length c1, .slice B2 r.f2.length c2, .slice B3 r.f3.length c3, .slice B4 r.f4.length c4] 45) = w1 at HB HK H1 H2 H4 HR HG |-; have k1 := bc1 HK.out; go_wp2_with fail; go_ret
   exact ⟨_, rfl, by rw [HT.out]; exact Kd.R_nil _ _ _ _ _, HB.out⟩
def SetIs (w : World) (b n : Nat) (s : zaa -> Bool) : Prop := ∃ f, MapIs zp5 9 w b n f /\ ∀ k, (f k).getD (.bool false) = .bool (s k)
theorem SetIs.made (w : World) : SetIs (w.alloc (.map #[] 0)) w.heap.size 0 (fun _ => false) := ⟨_, MapIs.made w, fun _ => rfl⟩
theorem SetIs.lt {w : World} {b n : Nat} {s : zaa -> Bool} (h : SetIs w b n s) : b < w.heap.size := by obtain ⟨f, h, _⟩ := h; exact h.lt
theorem SetIs.mono {w : World} {b n n' : Nat} {s : zaa -> Bool} (h : SetIs w b n s) (hn : n <= n') : SetIs w b n' s := by obtain ⟨f, h, h2⟩ := h; exact ⟨f, h.mono hn, h2⟩
theorem SetIs.below {w w' : World} {b n : Nat} {s : zaa -> Bool} (h : SetIs w b n s) (hb : Below w.heap.size w w') : SetIs w' b n s := by obtain ⟨f, h, h2⟩ := h; exact ⟨f, h.below hb, h2⟩
theorem SetIs.grown {w w' : World} {b n : Nat} {s : zaa -> Bool} {row : Option Nat} (h : SetIs w b n s) (hg : w.grownBy w' row) (hne : some b ≠ row) : SetIs w' b n s := by obtain ⟨f, h, h2⟩ := h; exact ⟨f, h.grown hg hne, h2⟩
theorem MapIs.ne_cells {w : World} {kt b n : Nat} {f : zaa -> Option Value} (h : MapIs zp5 kt w b n f) {g t : Nat} {cs : Array Value} {fr : Nat × Nat} (hg : w.heap[g]? = some (.cells cs t fr)) : b ≠ g := by
 rintro rfl; obtain ⟨D, ⟨es, clock, hb, _⟩, _⟩ := h; rw [hb] at hg; cases hg
theorem SetIs.ne_cells {w : World} {b n : Nat} {s : zaa -> Bool} (h : SetIs w b n s) {g t : Nat} {cs : Array Value} {fr : Nat × Nat} (hg : w.heap[g]? = some (.cells cs t fr)) : b ≠ g := by obtain ⟨f, h, _⟩ := h; exact h.ne_cells hg
theorem SetIs.look {w : World} {b n : Nat} {s : zaa -> Bool} (h : SetIs w b n s) (k : ByteArray) (hs : k.size <= maxLen) :
 (Instr.lookup 119 (.map (some b)) (.string k) false).run zp5 w = .ok (.bool (s k.data.toList)) w := by
 obtain ⟨f, h, h2⟩ := h; rw [h.look Tryz.underlying9 Tryz.underlying119 (Tryz.zeroValue4 w) k hs]; exact congrArg (fun v => Result.ok v w) (h2 k.data.toList)
def addS (s : zaa -> Bool) (k : zaa) : zaa -> Bool := fun x => s x || x == k
theorem SetIs.put {w : World} {b n : Nat} {s : zaa -> Bool} (h : SetIs w b n s) (hn : n < maxLen) (k : ByteArray) (hs : k.size <= maxLen) :
 ∃ w', (Instr.mapUpdate 119 (.map (some b)) (.string k) (.bool true)).run zp5 w = .ok () w' /\ SetIs w' b (n + 1) (addS s k.data.toList) /\ w.grownBy w' (some b) := by
 obtain ⟨f, h, h2⟩ := h; obtain ⟨w', hrun, h', hg⟩ := h.store Tryz.underlying9 Tryz.underlying119 hn k hs (.bool true); refine ⟨w', hrun, ⟨_, h', fun x => ?_⟩, hg⟩
 unfold setF addS; by_cases e : x = k.data.toList
 . rw [if_pos e]
   simp [e]
 . rw [if_neg e, h2 x]
   simp [e]
def addL (s : zaa -> Bool) (l : List zaa) : zaa -> Bool := fun x => s x || l.contains x
theorem zff (s : zaa -> Bool) : addL s [] = s := by funext x; simp [addL]
theorem zez (s : zaa -> Bool) (l : List zaa) (k : zaa) : addL s (l ++ [k]) = addS (addL s l) k := by
 funext x
 unfold addL addS; rw [Bool.or_assoc]; congr 1
 rw [Bool.eq_iff_iff]; simp
end X
namespace X
def zau (w : zaa -> Bool) : List zbg -> List Bool × (zaa -> Bool)
 | [] => ([], w)
 | s :: r => ((zau w r).2 s.out :: (zau w r).1, fun x => (zau w r).2 x || ((zau w r).2 s.out && s.args.contains x))
def zaJ (outs : List zaa) : List zbg -> List Bool
 | [] => []
 | s :: r => (outs.contains s.out || (r.zip (zaJ outs r)).any fun p => p.2 && p.1.args.contains s.out) :: zaJ outs r
theorem zeo (outs : List zaa) : ∀ L : List zbg, (zau (fun x => outs.contains x) L).1 = zaJ outs L /\ ∀ x, (zau (fun x => outs.contains x) L).2 x = (outs.contains x || (L.zip (zaJ outs L)).any fun p => p.2 && p.1.args.contains x)
 | [] => ⟨rfl, fun x => by simp [zau, zaJ]⟩
 | s :: r => by
  obtain ⟨h1, h2⟩ := zeo outs r; have hd : (zau (fun x => outs.contains x) r).2 s.out = (outs.contains s.out || (r.zip (zaJ outs r)).any fun p => p.2 && p.1.args.contains s.out) := h2 s.out
  refine ⟨?_, fun x => ?_⟩
  . show (zau (fun x => outs.contains x) r).2 s.out :: (zau (fun x => outs.contains x) r).1 = _
    rw [h1, hd]; rfl
  . show ((zau (fun x => outs.contains x) r).2 x || ((zau (fun x => outs.contains x) r).2 s.out && s.args.contains x)) = _
    rw [h2 x, hd]; show _ = (outs.contains x || ((((outs.contains s.out || (r.zip (zaJ outs r)).any fun p => p.2 && p.1.args.contains s.out)) && s.args.contains x) || (r.zip (zaJ outs r)).any fun p => p.2 && p.1.args.contains x))
    generalize (r.zip (zaJ outs r)).any (fun p => p.2 && p.1.args.contains x) = u
    generalize ((outs.contains s.out || (r.zip (zaJ outs r)).any fun p => p.2 && p.1.args.contains s.out) && s.args.contains x) = v
    cases outs.contains x <;> cases u <;> cases v <;> rfl
theorem zf4 (w : zaa -> Bool) : ∀ L : List zbg, (zau w L).1.length = L.length
 | [] => rfl
 | s :: r => by show (zau w r).1.length + 1 = _; rw [zf4 w r]; rfl
def zaU : List zaa -> List zaa
 | [] => []
 | [x] => [x]
 | x :: y :: r => if x = y then zaU (y :: r) else x :: zaU (y :: r)
theorem zeK : ∀ (l : List zaa) (x : zaa), x ∈ zaU l ↔ x ∈ l
 | [], x => Iff.rfl
 | [y], x => Iff.rfl
 | y :: z :: r, x => by
  unfold zaU; split
  . rename_i h
    rw [zeK (z :: r) x, h]; simp
  . rw [zqE, zeK (z :: r) x, zqE, zqE]
    simp only [zqE]
def zbq (r : zb5) (m : List Bool) : List zaa := zaU (((r.steps.zip m).flatMap fun p => p.1.args.filter fun a => p.2 && r.ins.contains a).mergeSort fun x y => decide (x <= y))
end X
namespace X
open Go.RowKit Go.Maps YtdpgdnpddndeoaaGreatDoorW.PrintWords YtdpgdnpddndeoaaGreatDoorW.PrintMore YtdpgdnpddndeoaaGreatDoorW.PrintLast
abbrev zck (w : World) (base : Nat) (v : Value) (l : List Bool) : Prop := Kd.R Kd.bool 4 w base (fun _ => True) v l
def zjZ (l : List Bool) (w : World) (e : Ending) (w' : World) : Prop := ∃ v, e = .returned v /\ zck w' w.heap.size v l /\ Below w.heap.size w w'
theorem zla (w : zaa -> Bool) (L : List zbg) (j : Nat) (h : j < L.length) : zau w (L.drop j) = ((zau w (L.drop (j + 1))).2 L[j].out :: (zau w (L.drop (j + 1))).1, fun x => (zau w (L.drop (j + 1))).2 x || ((zau w (L.drop (j + 1))).2 L[j].out && L[j].args.contains x)) := by
 rw [List.drop_eq_getElem_cons h]; rfl
theorem zky (j : Nat) (b : Bool) (M : List Bool) : (List.replicate (j + 1) false ++ M).set j b = List.replicate j false ++ b :: M := by
 rw [List.set_append_left _ _ (by simp), List.replicate_succ', List.set_append_right _ _ (by simp)]
 simp
theorem zeM (r : zaj) (B1 : Option Addr) (c1 : Nat) (B2 : Option Addr) (c2 : Nat) (B3 : Option Addr) (c3 : Nat) (B4 : Option Addr) (c4 : Nat) (A : Option Addr) (c : Nat) (fs : List ByteArray) (w : World)
 (h4 : Kd.C k24 w B4 r.f4.length r.f4) (hr : Kd.C zqb w A fs.length fs) (hF : FitR r) (hl : fs.length <= 1000) (hsz : ∀ x ∈ fs, x.size <= maxLen) :
 Calls zp5 66 #[.agg (zal r B1 c1 B2 c2 B3 c3 B4 c4), .slice A fs.length c] w (zjZ (zau (fun x => (zab fs).contains x) (zao r).steps).1 w) := by
 have hn4 := hF.steps; have hW := (zpw w.heap.size w).alloc (zpx _) (.cells (zal r B1 c1 B2 c2 B3 c3 B4 c4) 45); have HK := zpt (zap w (.cells (zal r B1 c1 B2 c2 B3 c3 B4 c4) 45)); have HB := zpt hW; have H4 := zpt (zqS h4 hW); have HR := zpt (zqS hr hW); have HF := zpt hF; have HS := zpt hsz; obtain ⟨st, hst⟩ : ∃ st, st = (zao r).steps := ⟨_, rfl⟩; have hsl : st.length = r.f4.length := by rw [hst]; exact zqe ..
 have HSl := zpt hsl; have HSt := zpt hst; rw [<- hst]; obtain ⟨w0, hw0⟩ : ∃ w0 : zaa -> Bool, w0 = fun x => (zab fs).contains x := ⟨_, rfl⟩
 rw [<- hw0]; have HW0 := zpt hw0; clear hw0; clear hW h4 hr hF hsz hst hsl; unfold zal at *; have hmm := @run_makeMap zp5; go_enter Tryz.func66, Tryz.ntmps66
 go_upto_region 1 with fail; generalize w.alloc (.cells #[.string r.f0, .slice B1 r.f1.length c1, .slice B2 r.f2.length c2, .slice B3 r.f3.length c3, .slice B4 r.f4.length c4] 45) = w1 at HB HK H4 HR |-; have k4 := bc4 HK.out; have hz0 : (0 : Int) <= (r.f4.length : Int) := by omega
 go_upto_region 2 with (first | (at_make; refine Kd.R_make Kd.bool (w0 := w1) w1.heap.size 4 rfl rfl 55 (.tmp 15) (.tmp 15) rfl (r.f4.length : Int) rfl rfl Tryz.underlying55 (.bool false) 1 zhA rfl (by decide) (by decide) false (okp := fun _ => True) (ok := fun _ => True) rfl (fun _ h => h) trivial hz0 (by omega) (zpw _ _) (zpx _) ?_; intro v1 w2 ho hb hg hv; have HO2 := zpt ho; have HB2 := zpt hb; clear ho hb hg hv))
 rw [zqN] at HO2; have HO3 := zpt (zqu HO2.out ((zpw w2.heap.size w2).alloc (zpx _) (.map #[] 0))); have HB3 : Hid (Below w1.heap.size w1 (w2.alloc (.map #[] 0))) := zpt (HB2.out.alloc HB2.out.size _); have HE3 := zpt (SetIs.made w2); have HZ2 := zpt HB2.out.size; have HRt := zpt (Kd.R_lt HO2.out); clear HO2 HB2; go_upto_region 3 with fail; generalize w2.heap.size = m at HE3 HZ2 HRt |-; generalize w2.alloc (.map #[] 0) = w3 at HO3 HB3 HE3 |-; go_wp2_with fail; go_loopg [8, 20] fs.length (fun gg _ s20 wr => ∃ kk : Nat, kk <= fs.length /\ fs.length - kk <= gg /\ s20 = .int .i64 kk /\ Aside0 (SetIs wr m kk (addL (fun _ => false) ((zab fs).take kk))) /\ Aside0 (zck wr w1.heap.size v1 (List.replicate r.f4.length false)) /\ Aside0 (Below w1.heap.size w1 wr))
 case atStart => exact ⟨0, zqk _, by omega, rfl, ⟨by rw [zqX, zff]; exact HE3.out⟩, ⟨HO3.out⟩, ⟨HB3.out⟩⟩
 case round =>
  obtain ⟨kk, hkk, hgk, rfl, HE, HO, HW⟩ := hrel; by_cases hlt : kk < fs.length
  . have hltz : (kk : Int) < (fs.length : Int) := by omega
    obtain ⟨b, o, rfl, p0⟩ := za4 (zqS HR.out HW.out) kk hlt; obtain ⟨w4, hrun, hE4, hg4⟩ := HE.out.put (by unfold maxLen; omega) fs[kk] (HS.out _ (zqQ hlt))
    have hst : (zab fs).take (kk + 1) = (zab fs).take kk ++ [fs[kk].data.toList] := by rw [zpZ (by rw [zaT]; exact hlt), zco fs kk hlt]
    rw [<- zez, <- hst] at hE4; have HE4 := zpt hE4; have HW4 : Hid (Below w1.heap.size w1 w4) := zpt (HW.out.grown hg4 HW.out.size (fun k hk => by cases hk; exact HZ2.out))
    have HO4 : Hid (zck w4 w1.heap.size v1 (List.replicate r.f4.length false)) := zpt (Kd.R_mono (Kd.R_step (Kd.R_mono (Kd.R_bound HO.out) (fun k hk => hk)) (fun k hk hlt => hg4.block k hlt (fun e => by
     cases e
     obtain ⟨_, _, _, q, _, cells, hc⟩ := hk; exact HE.out.ne_cells hc rfl))) (fun _ _ => trivial))
    generalize fs[kk] = n at p0 hrun; clear hst hE4 hg4; go_wp2_with fail; go_roundg (fs.length - (kk + 1))
    case measure => omega
    case rel => exact ⟨kk + 1, by omega, by omega, by go_num, ⟨HE4.out⟩, ⟨HO4.out⟩, ⟨HW4.out⟩⟩
  . have hltz : ¬ (kk : Int) < (fs.length : Int) := by omega
    obtain rfl : kk = fs.length := by omega
    have HE1 : Hid (SetIs wr m (fs.length + 0) (zau w0 (st.drop r.f4.length)).2) := by
     have h := HE.out; have e : (zau w0 (st.drop r.f4.length)).2 = addL (fun _ => false) ((zab fs).take fs.length) := by
      rw [zqj (by rw [HSl.out]; exact zpx _), zqP (by rw [zaT]; exact zpx _), HW0.out]
      funext x
      simp [zau, addL]
     show SetIs _ _ _ _
     rw [e]; exact h
    have HO1 : Hid (zck wr w1.heap.size v1 (List.replicate r.f4.length false ++ (zau w0 (st.drop r.f4.length)).1)) := by
     have e : (zau w0 (st.drop r.f4.length)).1 = [] := by rw [zqj (by rw [HSl.out]; exact zpx _)]; rfl
     show zck _ _ _ _
     rw [e, List.append_nil]; exact HO.out
    have k4' := zad HW.out k4; go_upto_region 8 with fail; clear HE HO HE3 HO3 HB3; go_wp2_with fail; go_loopg [9, 10, 12] r.f4.length (fun gg s9 _ _ wr => ∃ jj : Nat, jj <= r.f4.length /\ jj <= gg /\ s9 = .int .i64 ((jj : Int) - 1) /\ Aside0 (SetIs wr m (fs.length + (r.f4.length - jj) * 1000) (zau w0 (st.drop jj)).2) /\ Aside0 (zck wr w1.heap.size v1 (List.replicate jj false ++ (zau w0 (st.drop jj)).1)) /\ Aside0 (Below w1.heap.size w1 wr))
    case atStart => exact ⟨r.f4.length, zpx _, zpx _, rfl, ⟨by rw [Nat.sub_self, Nat.zero_mul]; exact HE1.out⟩, ⟨HO1.out⟩, ⟨HW.out⟩⟩
    case round =>
     obtain ⟨jj, hjj, hgj, rfl, HE, HO, HW5⟩ := hrel; obtain ⟨wq, rfl⟩ : ∃ wq, wq = wr := ⟨wr, rfl⟩; cases jj with
     | zero =>
      have hO := HO.out; rw [List.drop_zero, List.replicate_zero, List.nil_append] at hO; have HOf := zpt hO; clear hO; go_wp2_with fail; go_ret
      exact ⟨_, rfl, zqJ HOf.out HB.out.size, HB.out.trans (HW5.out.mono HB.out.size)⟩
     | succ j =>
      have ej : (((j + 1 : Nat) : Int) - 1) = (j : Int) := by omega
      rw [ej]; have hlj : j < r.f4.length := by omega
      have hljz : (j : Int) < (r.f4.length : Int) := by omega
      have hj0 : (0 : Int) <= (j : Int) := by omega
      clear ej; have k4q := zad HW5.out k4; obtain ⟨b, o, C2, d2, C3, d3, rfl, p0, p1, p2, p3, p4, g2, g3⟩ := zcA H4.out j hlj; replace p0 := zad HW5.out p0
      replace p1 := zad HW5.out p1
      replace p2 := zad HW5.out p2
      replace p3 := zad HW5.out p3
      replace p4 := zad HW5.out p4
      have hdr := zla w0 st j (by rw [HSl.out]; exact hlj)
      have hsx : st[j]'(by rw [HSl.out]; exact hlj) = zaC r.f4[j] := by
       have h := HSt.out; subst h; exact List.getElem_map ..
      rw [hsx] at hdr; obtain ⟨hxo, hxl, hxn⟩ := HF.out.stepN _ (zqQ hlj); have hml : (List.replicate (j + 1) false ++ (zau w0 (st.drop (j + 1))).1).length = r.f4.length := by
       rw [zpK, zqW, zf4, List.length_drop, HSl.out]; omega
      have HDr := zpt hdr; have HXo := zpt hxo; have HXn := zpt hxn; have HSm := zpt (zky j ((zau w0 (st.drop (j + 1))).2 (zaC r.f4[j]).out) (zau w0 (st.drop (j + 1))).1); have HEq : Hid (SetIs wq m (fs.length + (r.f4.length - (j + 1)) * 1000) (zau w0 (st.drop (j + 1))).2) := zpt HE.out; have HOq : Hid (zck wq w1.heap.size v1 (List.replicate (j + 1) false ++ (zau w0 (st.drop (j + 1))).1)) := zpt HO.out; generalize hx : r.f4[j] = x at p0 p1 p2 p3 p4 g2 g3 HDr HXo HXn hxl HSm; generalize (zau w0 (st.drop (j + 1))).1 = M at hml HDr HSm HOq; generalize (zau w0 (st.drop (j + 1))).2 = s at HDr HSm HEq; clear hx hdr hsx hxo hxn HE HO; obtain ⟨g, cap, hv1, hbg, hgl, _⟩ := Kd.R_form HOq.out (by rw [hml]; omega)
      rw [hml] at hv1; subst hv1; have hgz : (g : Nat) < wq.heap.size := hgl; have HGb : Hid (w1.heap.size <= g) := zpt hbg; have HGz := zpt hgz; have hb3 := (zpw wq.heap.size wq).alloc (zpx _) (.cells #[.string x.f0, .int .i64 x.f1, .slice C2 x.f2.length d2, .slice C3 x.f3.length d3, .int .i64 x.f4] 24); have HX3 := zpt (zap wq (.cells #[.string x.f0, .int .i64 x.f1, .slice C2 x.f2.length d2, .slice C3 x.f3.length d3, .int .i64 x.f4] 24)); have HB3 : Hid (Below w1.heap.size w1 (wq.alloc (.cells #[.string x.f0, .int .i64 x.f1, .slice C2 x.f2.length d2, .slice C3 x.f3.length d3, .int .i64 x.f4] 24))) := zpt (HW5.out.alloc HW5.out.size _); have HG2 := zpt g2; have HE3 := zpt (HEq.out.below hb3); have HO3 := zpt (zqu HOq.out hb3); clear g2 g3 hb3 hbg hgl hgz hml; go_upto_region 12 with fail; generalize wq.alloc (.cells #[.string x.f0, .int .i64 x.f1, .slice C2 x.f2.length d2, .slice C3 x.f3.length d3, .int .i64 x.f4] 24) = w3 at HX3 HB3 HE3 HO3 |-; have x0 := bc0 HX3.out; have hlk := HE3.out.look x.f0 HXo.out; obtain ⟨hc0, hf0⟩ := Kd.R_celln false HO3.out (j : Int) hj0 (by omega)
      have hP := Kd.R_putn HO3.out (j : Int) (s x.f0.data.toList); rw [zqN] at hc0 hf0 hP; have hrep : rdOf false (List.replicate (j + 1) false ++ M) (j : Int) = false := by
       unfold rdOf; rw [zqN, zpB, List.getElem?_append_left (by simp), List.getElem?_replicate]
       simp
      rw [hrep] at hc0; have hSm2 := HSm.out; have hso : (zaC x).out = x.f0.data.toList := rfl; rw [hso] at hSm2; rw [hSm2] at hP; have HDr2 : Hid (zau w0 (st.drop j) = (s x.f0.data.toList :: M, fun y => s y || (s x.f0.data.toList && (zab x.f2).contains y))) := zpt HDr.out
      have HX4 : Hid ((w3.setCell ⟨g, j, none⟩ (.bool (s x.f0.data.toList))).heap[wq.heap.size]? = some (.cells #[.string x.f0, .int .i64 x.f1, .slice C2 x.f2.length d2, .slice C3 x.f3.length d3, .int .i64 x.f4] 24 (0, 0))) :=
       zpt ((Below.heap_setCell w3 ⟨g, j, none⟩ (.bool (s x.f0.data.toList)) wq.heap.size (by have := HGz.out; show wq.heap.size ≠ g; omega)).trans HX3.out)
      have HP4 := zpt hP; have HB4 : Hid (Below w1.heap.size w1 (w3.setCell ⟨g, j, none⟩ (.bool (s x.f0.data.toList)))) := zpt (HB3.out.setCell (p := ⟨g, j, none⟩) HGb.out _); have hng : m ≠ g := by
       obtain ⟨cells, hcc⟩ := Kd.R_typed HO3.out g (by simp [Value.ownBlock])
       exact HE3.out.ne_cells hcc
      have HE4 : Hid (SetIs (w3.setCell ⟨g, j, none⟩ (.bool (s x.f0.data.toList))) m (fs.length + (r.f4.length - (j + 1)) * 1000) s) := zpt (HE3.out.grown (zeU w3 g j _) (by intro e; injection e; omega))
      have HNg := zpt hng; generalize s x.f0.data.toList = b0 at hlk HP4 HDr2 HX4 HB4 HE4; clear hP hSm2 hso HSm HDr hrep hng; go_upto_region 13 with fail; generalize w3.setCell ⟨g, j, none⟩ (.bool b0) = w4 at HP4 HX4 HB4 HE4 |-; obtain ⟨hc1, _⟩ := Kd.R_celln false HP4.out (j : Int) hj0 (by omega)
      rw [zqN] at hc1; have hrd : rdOf false (List.replicate j false ++ b0 :: M) (j : Int) = b0 := by unfold rdOf; simp [zpB]
      rw [hrd] at hc1; have HOj : Hid (zck w4 w1.heap.size (.slice (some ⟨g, 0, none⟩) r.f4.length cap) (List.replicate j false ++ (zau w0 (st.drop j)).1)) := by
       show zck _ _ _ _
       rw [HDr2.out]; exact HP4.out
      have x2 := bc2 HX4.out; clear hrd hc0 hf0 hlk x0; cases b0 with
      | false =>
       have HEj : Hid (SetIs w4 m (fs.length + (r.f4.length - j) * 1000) (zau w0 (st.drop j)).2) := by
        show SetIs _ _ _ _
        rw [HDr2.out]; have e : (fun y => s y || (false && (zab x.f2).contains y)) = s := by funext y; simp
        dsimp only; rw [e]; exact HE4.out.mono (Nat.add_le_add_left (zpP _ (by omega)) _)
       go_wp2_with fail; go_roundg j
       case measure => omega
       case rel => exact ⟨j, by omega, zpx _, by first | rfl | go_num, ⟨HEj.out⟩, ⟨HOj.out⟩, ⟨HB4.out⟩⟩
      | true =>
       go_wp2_with fail; go_loopg [12, 54] x.f2.length (fun gg _ s54 wi => ∃ k : Nat, k <= x.f2.length /\ x.f2.length - k <= gg /\ s54 = .int .i64 k /\ Aside0 (SetIs wi m (fs.length + (r.f4.length - (j + 1)) * 1000 + k) (addL s ((zab x.f2).take k))) /\ Aside0 (zck wi w1.heap.size (.slice (some ⟨g, 0, none⟩) r.f4.length cap) (List.replicate j false ++ (zau w0 (st.drop j)).1)) /\ Aside0 (Below w1.heap.size w1 wi))
       case atStart => exact ⟨0, zqk _, by omega, rfl, ⟨by rw [zqX, zff]; exact HE4.out⟩, ⟨HOj.out⟩, ⟨HB4.out⟩⟩
       case round =>
        obtain ⟨k, hk, hgk2, rfl, HEk, HOk, HBk⟩ := hrel; by_cases hlk2 : k < x.f2.length
        . have hlkz : (k : Int) < (x.f2.length : Int) := by omega
          obtain ⟨b5, o5, rfl, q0⟩ := za4 (zqS HG2.out HBk.out) k hlk2; have hbound : fs.length + (r.f4.length - (j + 1)) * 1000 + k < maxLen := by
           have : (r.f4.length - (j + 1)) * 1000 <= 1000 * 1000 := zpP _ (by omega)
           unfold maxLen; omega
          obtain ⟨w6, hrun, hE6, hg6⟩ := HEk.out.put hbound x.f2[k] (HXn.out _ (zqQ hlk2)); have hst2 : (zab x.f2).take (k + 1) = (zab x.f2).take k ++ [x.f2[k].data.toList] := by rw [zpZ (by rw [zaT]; exact hlk2), zco x.f2 k hlk2]
          rw [<- zez, <- hst2] at hE6; have HE6 := zpt hE6; have HW6 : Hid (Below w1.heap.size w1 w6) := zpt (HBk.out.grown hg6 HBk.out.size (fun k hk => by cases hk; exact HZ2.out))
          have HO6 : Hid (zck w6 w1.heap.size (.slice (some ⟨g, 0, none⟩) r.f4.length cap) (List.replicate j false ++ (zau w0 (st.drop j)).1)) := zpt (Kd.R_mono (Kd.R_step (Kd.R_bound HOk.out) (fun k hk hlt => hg6.block k hlt (fun e => by
           cases e
           obtain ⟨_, _, _, q, _, cells, hc⟩ := hk; exact HEk.out.ne_cells hc rfl))) (fun _ _ => trivial))
          generalize x.f2[k] = n at q0 hrun; clear hst2 hE6 hg6 hbound; go_wp2_with fail; go_roundg (x.f2.length - (k + 1))
          case measure => omega
          case rel => exact ⟨k + 1, by omega, by omega, by first | rfl | go_num, ⟨HE6.out⟩, ⟨HO6.out⟩, ⟨HW6.out⟩⟩
        . have hlkz : ¬ (k : Int) < (x.f2.length : Int) := by omega
          obtain rfl : k = x.f2.length := by omega
          have HEj : Hid (SetIs wr m (fs.length + (r.f4.length - j) * 1000) (zau w0 (st.drop j)).2) := by
           have h := HEk.out; rw [zqP (by rw [zaT]; exact zpx _)] at h
           show SetIs _ _ _ _
           rw [HDr2.out]; have e : (fun y => s y || (true && (zab x.f2).contains y)) = addL s (zab x.f2) := by funext y; simp [addL]
           dsimp only; rw [e]; refine h.mono ?_; have : (r.f4.length - j) * 1000 = (r.f4.length - (j + 1)) * 1000 + 1000 := by
            have e2 : r.f4.length - j = (r.f4.length - (j + 1)) + 1 := by omega
            rw [e2, Nat.add_mul]
           omega
          go_wp2_with fail; go_roundg j
          case measure => omega
          case rel => exact ⟨j, by omega, zpx _, by first | rfl | go_num, ⟨HEj.out⟩, ⟨HOk.out⟩, ⟨HBk.out⟩⟩
end X
namespace X
open Go.RowKit Go.Maps Go.Sort YtdpgdnpddndeoaaGreatDoorW.PrintWords YtdpgdnpddndeoaaGreatDoorW.PrintMore YtdpgdnpddndeoaaGreatDoorW.PrintLast
theorem zfi : ∀ l : List zaa, (zaU l).length <= l.length
 | [] => zpx _
 | [_] => zpx _
 | y :: z :: r => by
  have := zfi (z :: r); unfold zaU; split
  . simp only [zqh] at this |-; omega
  . simp only [zqh] at this |-; omega
theorem ziq : ∀ (l : List zaa) (x : zaa), zaU (l ++ [x]) = zaU l ++ if l.getLast? = some x then [] else [x]
 | [], x => rfl
 | [y], x => by
  show zaU [y, x] = _
  unfold zaU; by_cases h : y = x
  . rw [if_pos h, if_pos (by rw [h]; rfl), h]
    rfl
  . rw [if_neg h, if_neg (by simpa using h)]
    rfl
 | y :: z :: r, x => by
  have ih := ziq (z :: r) x; have hl : (y :: z :: r).getLast? = (z :: r).getLast? := List.getLast?_cons_cons ..; rw [hl]; show zaU (y :: z :: (r ++ [x])) = _
  unfold zaU; split
  . exact ih
  . rw [show z :: (r ++ [x]) = (z :: r) ++ [x] from rfl, ih]
    rfl
theorem zfE (l : List zaa) (j : Nat) (h : j < l.length) : l.toArray[j]! = l[j] := by
 rw [getElem!_pos l.toArray j (by simpa using h)]
 simp
theorem zh8 (l : List zaa) (x : zaa) : ∀ m, m <= l.length -> Lib.compactUpTo (l ++ [x]).toArray m = Lib.compactUpTo l.toArray m
 | 0, _ => rfl
 | m + 1, h => by
  have e : ∀ j, j < l.length -> (l ++ [x]).toArray[j]! = l.toArray[j]! := by
   intro j hj; rw [zfE _ _ (by simp; omega), zfE _ _ hj, List.getElem_append_left hj]
  rw [Lib.compactUpTo_succ, Lib.compactUpTo_succ, zh8 l x m (by omega), e m (by omega)]
  have hk : Lib.keeps (l ++ [x]).toArray m = Lib.keeps l.toArray m := by
   unfold Lib.keeps; rw [e m (by omega), e (m - 1) (by omega)]
  rw [hk]
theorem zm6 (l : List zaa) : Lib.compact l = zaU l := by
 have key : ∀ (n : Nat) (l : List zaa), l.length = n -> Lib.compact l = zaU l := by
  intro n; induction n with
  | zero =>
   intro l h; have := zpz h; subst this; rfl
  | succ n ih =>
   intro l h; rcases List.eq_nil_or_concat l with h0 | ⟨k, x, hk⟩
   . rw [h0] at h; simp at h
   . rw [List.concat_eq_append] at hk
     subst hk; have hkl : k.length = n := by simpa using h
     rw [ziq, <- ih k hkl]; unfold Lib.compact; rw [zpK, List.length_singleton, Lib.compactUpTo_succ, zh8 k x k.length (zpx _)]; congr 1
     have hx : (k ++ [x]).toArray[k.length]! = x := by simp
     rw [hx]; cases hkn : k.length with
     | zero =>
      have := zpz hkn; subst this; rfl
     | succ m =>
      have hlast : (k ++ [x]).toArray[m + 1 - 1]! = k[m] := by
       rw [Nat.add_sub_cancel, zfE _ m (by simp; omega), List.getElem_append_left (by omega)]
      have hgl : k.getLast? = some k[m] := by
       have e : k.length - 1 = m := by omega
       rw [List.getLast?_eq_getElem?, e, zpA (by omega)]
      have hx2 : (k ++ [x]).toArray[m + 1]! = x := by rw [<- hkn]; exact hx
      unfold Lib.keeps; rw [hlast, hx2, hgl]; by_cases he : x = k[m]
      . rw [if_neg (by simp [<- he]), if_pos (by rw [<- he])]
      . rw [if_pos (by simp [he]), if_neg (by simpa using Ne.symm he)]
 exact key l.length l rfl
def zbR (l : List ByteArray) : List ByteArray := (zaU (zab l)).map mk
theorem zfN (l : List ByteArray) : (zae l).length = l.length := by unfold zae; rw [zqe, List.length_mergeSort, zqe]
theorem zfF (base : Nat) (v : Value) (l : List ByteArray) (w : World) (hO : RS w base v l) (hbytes : l.length * 16 <= 140737488355328) :
 Calls zp5 93 #[v] w fun e w' => e = .returned (.tuple #[]) /\ RS w' base v (zae l) /\ w.grownBy w' v.ownBlock := by
 have hown := Kd.own_of_R hO; rcases hown.2 with ⟨rfl, hz⟩ | ⟨gb, cap, cur, rfl, hbase, hgb, r1, r2, r3, r4⟩
 . have hss : l = [] := zpz hz
   subst hss; have cS := Go.Proofs.AnyM.slices_Sort_string_none Go.Proofs.Tryz.laysSort none 0 w; change Calls zp5 93 _ _ _ at cS
   refine cS.mono fun e w' ⟨he, hw⟩ => ⟨he, ?_, ?_⟩
   . rw [hw, show zae [] = [] by simp [zae]]
     exact Kd.R_nil _ _ _ _ _
   . rw [hw]; exact World.grownBy.refl _ _
 . have r4' : cur.toList.take l.length = (l.map fun x => x.data.toList).map encStr := by
    rw [<- zfk]; have h := r4; rw [zqV] at h; exact h
   have hH : Holds encStr w gb 0 (l.map fun x => x.data.toList).toArray := Go.holds_of_block hgb (by simpa using r4')
   have hgl : gb < w.heap.size := (Array.getElem?_eq_some_iff.1 hgb).1; have hsz : (l.map fun x => x.data.toList).length < 4611686018427387904 := by rw [zqe]; omega
   have cS := Go.Proofs.AnyM.slices_Sort_string Go.Proofs.Tryz.laysSort gb 0 cap (l.map fun x => x.data.toList) w hH hgl hsz
   change Calls zp5 93 _ _ _ at cS
   rw [zqe] at cS; refine cS.mono fun e w' ⟨he, nn, os, hw⟩ => ⟨he, ?_, ?_⟩
   . rw [hw]
     refine Kd.R_of_own (h1 := fun _ => rfl) ?_ (fun _ _ => trivial)
     have hos := ownsRow_sorted (n := nn) (os := os) (ss := l.map fun x => x.data.toList) (ts := (l.map fun x => x.data.toList).mergeSort fun x y => decide (x <= y)) (by simp) hbase hgb (by rw [zqe]; exact r1) r2 r3
     rw [zqe] at hos; rw [zfN]; have hrs : encs Value.string (zae l) = ((l.map fun x => x.data.toList).mergeSort fun x y => decide (x <= y)).map encStr := by
      unfold zae encs; rw [zqd]; rfl
     rw [hrs]; exact hos
   . rw [hw]; exact grownBy_sorted _
theorem zgP (base : Nat) (v : Value) (l : List ByteArray) (w : World) (hO : RS w base v l) :
 Calls zp5 94 #[v] w fun e w' => ∃ v', e = .returned v' /\ RS w' base v' (zbR l) /\ w.grownBy w' v.ownBlock := by
 have hown := Kd.own_of_R hO; rcases hown.2 with ⟨rfl, hz⟩ | ⟨gb, cap, cur, rfl, hbase, hgb, r1, r2, r3, r4⟩
 . have hss : l = [] := zpz hz
   subst hss; have cS := Go.Proofs.Any.slices_Compact_string_empty Go.Proofs.Tryz.lays194 none 0 w; change Calls zp5 94 _ _ _ at cS
   refine cS.mono fun e w' ⟨he, hw⟩ => ⟨_, he, ?_, ?_⟩
   . exact Kd.R_nil _ _ _ _ _
   . rw [hw]; exact World.grownBy.refl _ _
 . have r4' : cur.toList.take l.length = (l.map fun x => x.data.toList).map encStr := by
    rw [<- zfk]; have h := r4; rw [zqV] at h; exact h
   have hH : Holds encStr w gb 0 (l.map fun x => x.data.toList).toArray := Go.holds_of_block hgb (by simpa using r4')
   have cS := Go.Proofs.Any.slices_Compact_string Go.Proofs.Tryz.lays194 gb 0 cap (l.map fun x => x.data.toList) w hH (by rw [zqe]; simp only [maxLen] at r2; omega) (by rw [zqe]; exact r1)
   change Calls zp5 94 _ _ _ at cS
   rw [zm6, zqe] at cS; have hle : (zaU (zab l)).length <= l.length := by
    have := zfi (zab l); rw [zaT] at this; exact this
   change Calls zp5 94 _ _ (fun e w' => e = .returned (.slice (some ⟨gb, 0, none⟩) (zaU (zab l)).length cap) /\ ∃ q, w' = putRow encStr (Sort.ahead w q) gb 0 (zaU (zab l) ++ List.replicate (l.length - (zaU (zab l)).length) []).toArray) at cS
   refine cS.mono fun e w' ⟨he, q, hw⟩ => ⟨_, he, ?_, ?_⟩
   . have hg0 : w' = grow (putRow encStr (Sort.ahead w q) gb 0 (zaU (zab l) ++ List.replicate (l.length - (zaU (zab l)).length) []).toArray) #[] := by rw [hw]; simp
     rw [hg0]; have hcl : (zbR l).length = (zaU (zab l)).length := by unfold zbR; rw [zqe]
     have hen : encs Value.string (zbR l) = (zaU (zab l)).map encStr := by
      unfold zbR encs; rw [zqd]; rfl
     rw [<- hcl]; refine Kd.R_of_own (h1 := fun _ => rfl) ?_ (fun _ _ => trivial)
     rw [hen]; have hos := ownsRow_sorted (n := q) (os := #[]) (ss := zab l) (ts := zaU (zab l) ++ List.replicate (l.length - (zaU (zab l)).length) []) (by rw [zpK, zqW, zaT]; omega) hbase hgb (by rw [zaT]; exact r1) r2 r3
     rw [hcl]; have h2 := hos.2; refine ⟨by rw [zqe]; omega, ?_⟩
     rcases h2 with ⟨h3, _⟩ | ⟨g2, cap2, cur2, he2, hb2, hh2, s1, s2, s3, s4⟩
     . cases h3
     . injection he2 with e1 e2 e3
       injection e1 with e1; injection e1 with e1; subst e1; subst e3; refine .inr ⟨gb, cap, cur2, rfl, hb2, hh2, by omega, s2, s3, ?_⟩
       rw [zqV] at s4 |-; have h5 := congrArg (List.take (zaU (zab l)).length) s4; rw [List.take_take, zaT, Nat.min_eq_left hle, zqo, List.take_append_of_le_length (by rw [zqe]; exact zpx _)] at h5
       exact h5.trans (zqP (by rw [zqe]; exact zpx _))
   . rw [hw]
     have hg0 : putRow encStr (Sort.ahead w q) gb 0 (zaU (zab l) ++ List.replicate (l.length - (zaU (zab l)).length) []).toArray = grow (putRow encStr (Sort.ahead w q) gb 0 (zaU (zab l) ++ List.replicate (l.length - (zaU (zab l)).length) []).toArray) #[] := by simp
     rw [hg0]; exact grownBy_sorted _
end X
namespace X
open Go.RowKit Go.Maps YtdpgdnpddndeoaaGreatDoorW.PrintWords YtdpgdnpddndeoaaGreatDoorW.PrintMore YtdpgdnpddndeoaaGreatDoorW.PrintLast
theorem zfw (s : ByteArray) (w : World) (hG : GOK w) :
 Calls zp5 95 #[.string s] w fun e w' => e = .returned (.bool (!may s.data.toList)) /\ Below w.heap.size w w' := by
 have hM := path_May.calls s (may s.data.toList) w hG rfl; generalize may s.data.toList = q at hM |-; have HM := zpt hM; clear hM hG; go_enter Tryz.func95, Tryz.ntmps95
 go_wp2_with (first | (go_at_call 102; refine HM.out.mono ?_; rintro e w2 ⟨rfl, hb2⟩))
 go_ret
 exact ⟨rfl, hb2⟩
theorem znM : ∀ args w, (callFunc 95 args).run zp5 w = .ok (.enter 95 args) w := Go.Proofs.enters_of Tryz.func95 (by kernel_rfl) rfl
theorem znA (w : World) (hG : GOK w) : zd2 95 #[] (fun x => !may x.data.toList) w := fun W x hb => zfw x W (hG.below hb)
theorem zeS (A : Option Addr) (c : Nat) (l : List ByteArray) (w : World) (hG : GOK w) (hr : Kd.C zqb w A l.length l) :
 Calls zp5 56 #[.slice A l.length c, .func (.func 95) #[] #[]] w fun e w' => e = .returned (.bool (!(zab l).all may)) /\ Below w.heap.size w w' := by
 have h := zdM 95 #[] znM (fun x => !may x.data.toList) A c l w hr (znA w hG)
 have e : l.any (fun x => !may x.data.toList) = !(zab l).all may := by
  unfold zab; rw [List.all_map, List.not_all_eq_any_not]; rfl
 rw [e] at h; exact h
theorem zdg (A : Option Addr) (c : Nat) (l : List ByteArray) (s : ByteArray) (w : World) (hr : Kd.C zqb w A l.length l) :
 Calls zp5 92 #[.slice A l.length c, .string s] w fun e w' => e = .returned (.bool ((zab l).contains s.data.toList)) /\ w = w' := by
 have hlen : l.length <= 9223372036854775807 := hr.2.1; have hc : Lib.containsS l s = (zab l).contains s.data.toList := by
  rw [Bool.eq_iff_iff, Lib.containsS_iff]; unfold zab; rw [List.contains_iff_mem, List.mem_map]; constructor
  . intro h; exact ⟨s, h, rfl⟩
  . rintro ⟨x, hx, he⟩; rw [<- zcn he]; exact hx
 rcases zaX hr with h0 | ⟨b, o, rfl, hb, hcell⟩
 . subst h0
   have hcall := Go.Proofs.Any.slices_Contains_string_empty Go.Proofs.Tryz.lays110 A c s w; change Calls zp5 92 _ _ _ at hcall
   exact hcall.mono fun e w' ⟨he, hw⟩ => ⟨he, hw.symm⟩
 . have hcall := Go.Proofs.Any.slices_Contains_string Go.Proofs.Tryz.lays110 b o l.length c l s w (zpx _) hlen hcell
   change Calls zp5 92 _ _ _ at hcall
   rw [zqf, hc] at hcall; exact hcall.mono fun e w' ⟨he, hw⟩ => ⟨he, hw.symm⟩
def zgn (x : zaw) (B2 : Option Addr) (c2 : Nat) (B3 : Option Addr) (c3 : Nat) : Value := .agg #[.string x.f0, .int .i64 x.f1, .slice B2 x.f2.length c2, .slice B3 x.f3.length c3, .int .i64 x.f4]
def zbK (s : zbg) : Bool := !(may s.out && s.args.all may && mayC s.cmd)
theorem zkk (x : zaw) (B2 : Option Addr) (c2 : Nat) (B3 : Option Addr) (c3 : Nat) (w : World) (hG : GOK w) (h2 : Kd.C zqb w B2 x.f2.length x.f2) (h3 : Kd.C zqb w B3 x.f3.length x.f3) :
 Calls zp5 97 #[zgn x B2 c2 B3 c3] w fun e w' => e = .returned (.bool (zbK (zaC x))) /\ Below w.heap.size w w' := by
 have hab := (zpw w.heap.size w).alloc (zpx _) (.cells #[.string x.f0, .int .i64 x.f1, .slice B2 x.f2.length c2, .slice B3 x.f3.length c3, .int .i64 x.f4] 24); have HK := zpt (zap w (.cells #[.string x.f0, .int .i64 x.f1, .slice B2 x.f2.length c2, .slice B3 x.f3.length c3, .int .i64 x.f4] 24)); have HB1 := zpt hab; have H2 := zpt (zqS h2 hab); have H3 := zpt (zqS h3 hab); have HG := zpt (hG.below hab); have hT : zbK (zaC x) = !(may x.f0.data.toList && (zab x.f2).all may && mayC (zam x)) := rfl; rw [hT]; have HM := zpt (fun W (h2 : Kd.C zqb W B2 x.f2.length x.f2) (h3 : Kd.C zqb W B3 x.f3.length x.f3) => zfx x B2 c2 B3 c3 W h2 h3)
 have HN := zpt (fun W (hG : GOK W) => zfw x.f0 W hG)
 have HA := zpt (fun W (hG : GOK W) (h : Kd.C zqb W B2 x.f2.length x.f2) => zeS B2 c2 x.f2 W hG h)
 generalize may x.f0.data.toList = q1 at HN |-; generalize (zab x.f2).all may = q2 at HA |-; generalize mayC (zam x) = q3 at HM |-; clear hab h2 h3 hG hT; unfold zgn; go_enter Tryz.func97, Tryz.ntmps97
 go_upto_region 1 with fail; generalize w.alloc (.cells #[.string x.f0, .int .i64 x.f1, .slice B2 x.f2.length c2, .slice B3 x.f3.length c3, .int .i64 x.f4] 24) = w1 at HB1 HK H2 H3 HG |-; have k0 := bc0 HK.out; cases q1
 . go_wp2_with (first | (go_at_call 95; refine (HN.out _ HG.out).mono ?_; rintro e w2 ⟨rfl, hb2⟩))
   go_ret
   exact ⟨rfl, zac HB1.out HB1.out.size hb2⟩
 . cases q2
   . go_wp2_with (first
      | (go_at_call 95; refine (HN.out _ HG.out).mono ?_; rintro e w2 ⟨rfl, hb2⟩; have HB2 := zpt (zac HB1.out HB1.out.size hb2); have HK2 := zpt (zai HK.out hb2); have k2 := bc2 HK2.out; have H2' := zpt (zqS H2.out hb2); have HG2 := zpt (HG.out.below hb2); clear hb2)
      | (go_at_call 56; refine (HA.out _ HG2.out H2'.out).mono ?_; rintro e w3 ⟨rfl, hb3⟩; have HB3 := zpt (zac HB2.out HB2.out.size hb3); clear hb3))
     go_ret
     exact ⟨rfl, HB3.out⟩
   . go_wp2_with (first
      | (go_at_call 95; refine (HN.out _ HG.out).mono ?_; rintro e w2 ⟨rfl, hb2⟩; have HB2 := zpt (zac HB1.out HB1.out.size hb2); have HK2 := zpt (zai HK.out hb2); have k2 := bc2 HK2.out; have H2' := zpt (zqS H2.out hb2); have H3' := zpt (zqS H3.out hb2); have HG2 := zpt (HG.out.below hb2); clear hb2)
      | (go_at_call 56; refine (HA.out _ HG2.out H2'.out).mono ?_; rintro e w3 ⟨rfl, hb3⟩; have HB3 := zpt (zac HB2.out HB2.out.size hb3); have HK3 := zpt (zai HK2.out hb3); have j0 := bc0 HK3.out; have j1 := bc1 HK3.out; have j2 := bc2 HK3.out; have j3 := bc3 HK3.out; have j4 := bc4 HK3.out; have H2'' := zpt (zqS H2'.out hb3); have H3'' := zpt (zqS H3'.out hb3); clear hb3)
      | (go_at_call 20; refine (HM.out _ H2''.out H3''.out).mono ?_; rintro e w4 ⟨rfl, hb4⟩; have HB4 := zpt (zac HB3.out HB3.out.size hb4); clear hb4))
     go_ret
     exact ⟨by cases q3 <;> rfl, HB4.out⟩
theorem zod : ∀ args w, (callFunc 97 args).run zp5 w = .ok (.enter 97 args) w := Go.Proofs.enters_of Tryz.func97 (by kernel_rfl) rfl
abbrev RInt (w : World) (base : Nat) (v : Value) (l : List Int) : Prop := Kd.R (Kd.int .i64) 3 w base (fun _ => True) v l
def zgo (l : List Int) (w : World) (e : Ending) (w' : World) : Prop := ∃ v, e = .returned v /\ RInt w' w.heap.size v l /\ Below w.heap.size w w'
def zfD (l : List ByteArray) (w : World) (e : Ending) (w' : World) : Prop := ∃ v, e = .returned v /\ RS w' w.heap.size v l /\ Below w.heap.size w w'
def zaR (m : List Bool) (is : Bool) : List Int := (m.zipIdx.filter fun p => p.1 == is).map fun p => (p.2 : Int)
theorem zis (m : List Bool) (is : Bool) (k : Nat) (h : k < m.length) : zaR (m.take (k + 1)) is = zaR (m.take k) is ++ if m[k] == is then [(k : Int)] else [] := by
 unfold zaR; rw [zpZ h, List.zipIdx_append, List.filter_append, zqo]; congr 1
 have hl : (m.take k).length = k := by rw [zpI]; omega
 cases hb : (m[k] == is) <;> simp [hl, hb]
theorem ziW (m : List Bool) (is : Bool) : (zaR m is).length <= m.length := by
 unfold zaR; rw [zqe]; refine zpD (zqn _ _) ?_; rw [List.length_zipIdx]; exact zpx _
theorem zgQ {w : World} {A : Option Addr} {l : List Bool} (h : Kd.C Kd.bool w A l.length l) (k : Nat) (hk : k < l.length) : ∃ b o, A = some ⟨b, o, none⟩ /\ w.cell? ⟨b, o + k, none⟩ = some (.bool l[k]) := by
 obtain ⟨ad, rfl, hc⟩ := h.2.2 (by omega)
 obtain ⟨cs, _, h1, h2⟩ := hc k l[k] (zpA hk); have h1' : cs = [.bool l[k]] := h1; subst h1'; have h3 := h2 0 _ rfl; obtain ⟨cs0, _, h4, h5⟩ := hc 0 l[0] (zpA (by omega))
 have h4' : cs0 = [.bool l[0]] := h4; rw [h4'] at h5; have h6 := h5 0 _ rfl; have e1 : Kd.bool.sz = 1 := rfl; rw [e1] at h3 h6; obtain ⟨b, o, rfl⟩ := zdZ (n := 1) (ad := ad) (by simpa using h6)
 refine ⟨b, o, rfl, ?_⟩; have e : ((⟨b, o, none⟩ : Addr).add (k * 1 + 0)) = ⟨b, o + k, none⟩ := by
  rw [zqV, Nat.add_zero]; unfold Addr.add; split
  . rename_i h0; simp [h0]
  . rfl
 rw [e] at h3; exact h3
theorem zjb (A : Option Addr) (c : Nat) (m : List Bool) (is : Bool) (w : World) (hr : Kd.C Kd.bool w A m.length m) (hl : m.length <= 1000) :
 Calls zp5 65 #[.slice A m.length c, .bool is] w (zgo (zaR m is) w) := by
 have HR := zpt hr; obtain ⟨T, hT⟩ : ∃ T, T = zaR m is := ⟨_, rfl⟩; rw [<- hT]; have HT := zpt hT; clear hr hT; go_enter Tryz.func65, Tryz.ntmps65
 go_wp2_with fail; go_loopg [5, 6, 7, 10] m.length (fun gg s5 _ _ s10 wr => ∃ kk : Nat, kk <= m.length /\ m.length - kk <= gg /\ s10 = .int .i64 kk /\ Aside0 (RInt wr w.heap.size s5 (zaR (m.take kk) is)) /\ Aside0 (Below w.heap.size w wr))
 case atStart => exact ⟨0, zqk _, by omega, rfl, ⟨Kd.R_nil _ _ _ _ _⟩, ⟨zpw _ _⟩⟩
 case round =>
  obtain ⟨kk, hkk, hgk, rfl, HO, HW⟩ := hrel; by_cases hlt : kk < m.length
  . have hltz : (kk : Int) < (m.length : Int) := by omega
    obtain ⟨b, o, rfl, p0⟩ := zgQ (zqS HR.out HW.out) kk hlt; have HSt := zpt (zis m is kk hlt); have hpl := ziW (m.take kk) is; have hpl2 : (zaR (m.take kk) is).length <= 1000 := by
     have : (m.take kk).length = kk := by rw [zpI]; omega
     omega
    have HPl := zpt hpl2; have HWs := zpt HW.out.size; clear hpl hpl2; generalize m[kk] = y at p0 HSt; cases hy : (y == is) with
    | true =>
     have HN : Hid (zaR (m.take (kk + 1)) is = zaR (m.take kk) is ++ [(kk : Int)]) := by show _ = _; rw [HSt.out, hy]; rfl
     have hdy : (is == y) = true := by rw [<- hy]; cases is <;> cases y <;> rfl
     go_wp2_with (first | ((with_reducible refine zaG (b := .append) (xs := #[.tmp 18, .tmp 20]) rfl ?_); at_builtin; refine Kd.R_append (Kd.int .i64) (w0 := w) w.heap.size rfl (.tmp 18) (.tmp 20) 54 3 (.int .i64 0) 8 rfl Tryz.underlying54 info3 rfl (by decide) (by decide) u5 (zaR (m.take kk) is) (kk : Int) [.int .i64 (kk : Int)] (fun _ => True) (fun k_ => True /\ some k_ ≠ u5.ownBlock) rfl rfl rfl (fun _ hk => hk) (fun _ _ => trivial) HO.out HW.out HWs.out ?aL ?_; (case aL => (have h1 := HPl.out; omega)); intro v1 w4 ho hb hg hat; have HO4 : Hid (RInt w4 w.heap.size v1 (zaR (m.take (kk + 1)) is)) := (by show RInt _ _ _ _; rw [HN.out]; exact ho); have HB4 := zpt hb; clear ho hb hg hat))
     go_roundg (m.length - (kk + 1))
     case measure => omega
     case rel => exact ⟨kk + 1, by omega, by omega, by first | rfl | go_num, ⟨HO4.out⟩, ⟨HB4.out⟩⟩
    | false =>
     have HN : Hid (RInt wr w.heap.size u5 (zaR (m.take (kk + 1)) is)) := by show RInt _ _ _ _; rw [HSt.out, hy, if_neg (by simp), List.append_nil]; exact HO.out
     go_wp2_with fail; go_roundg (m.length - (kk + 1))
     case measure => omega
     case rel => exact ⟨kk + 1, by omega, by omega, by first | rfl | go_num, ⟨HN.out⟩, ⟨HW.out⟩⟩
  . have hltz : ¬ (kk : Int) < (m.length : Int) := by omega
    obtain rfl : kk = m.length := by omega
    have hO := HO.out; rw [zqf] at hO; have HOf := zpt hO; clear hO; go_wp2_with fail; go_ret
    exact ⟨_, rfl, by rw [HT.out]; exact HOf.out, HW.out⟩
def zbV (ins : List ByteArray) (b : Bool) (l : List ByteArray) : List ByteArray := l.filter fun a => b && (zab ins).contains a.data.toList
def outK (r : zaj) (m : List Bool) (k : Nat) : List ByteArray := ((r.f4.zip m).take k).flatMap fun p => zbV r.f1 p.2 p.1.f2
theorem zho (r : zaj) (m : List Bool) (k : Nat) (h1 : k < r.f4.length) (h2 : k < m.length) : outK r m (k + 1) = outK r m k ++ zbV r.f1 m[k] r.f4[k].f2 := by
 unfold outK; have hz : k < (r.f4.zip m).length := by rw [List.length_zip]; omega
 rw [zpZ hz, List.flatMap_append]; simp [List.getElem_zip]
theorem zhK (r : zaj) (m : List Bool) (c : Nat) (hF : ∀ s ∈ r.f4, s.f2.length <= c) : ∀ k, (outK r m k).length <= k * c
 | 0 => by simp [outK]
 | k + 1 => by
  have ih := zhK r m c hF k; have e2 : (k + 1) * c = k * c + c := Nat.succ_mul k c; by_cases h : k < r.f4.length /\ k < m.length
  . rw [zho r m k h.1 h.2, zpK]
    have h1 : (zbV r.f1 m[k] r.f4[k].f2).length <= c := zpD (zqn _ _) (hF _ (zqQ h.1)); omega
  . have hl : (r.f4.zip m).length <= k := by rw [List.length_zip]; omega
    have e : outK r m (k + 1) = outK r m k := by
     unfold outK; rw [zqP (Nat.le_succ_of_le hl), zqP hl]
    rw [e]; omega
theorem zn4 (ins : List ByteArray) (b : Bool) (l : List ByteArray) (k : Nat) (h : k < l.length) : zbV ins b (l.take (k + 1)) = zbV ins b (l.take k) ++ if b && (zab ins).contains l[k].data.toList then [l[k]] else [] := by
 unfold zbV; rw [zpZ h, List.filter_append]; congr 1
 cases h2 : (b && (zab ins).contains l[k].data.toList) with
 | true => simp only [List.filter, h2, if_true]
 | false => simp only [List.filter, h2]; rfl
theorem zmi (r : zaj) (m : List Bool) (hm : m.length = r.f4.length) : zbR (zae (outK r m r.f4.length)) = (zbq (zao r) m).map mk := by
 unfold zbR zbq; rw [zeE]; congr 3
 unfold outK; rw [zqP (by rw [List.length_zip]; omega)]
 have e : (zao r).steps.zip m = (r.f4.zip m).map fun p => (zaC p.1, p.2) := by
  show (r.f4.map zaC).zip m = _
  rw [List.zip_map_left]; rfl
 rw [e, List.flatMap_map]; unfold zab; rw [List.map_flatMap]; congr 1
 funext p
 unfold zbV zaC zab; dsimp only; rw [List.filter_map]; rfl
theorem zjd (r : zaj) (B1 : Option Addr) (c1 : Nat) (B2 : Option Addr) (c2 : Nat) (B3 : Option Addr) (c3 : Nat) (B4 : Option Addr) (c4 : Nat) (A : Option Addr) (c : Nat) (m : List Bool) (w : World)
 (h1 : Kd.C zqb w B1 r.f1.length r.f1) (h4 : Kd.C k24 w B4 r.f4.length r.f4) (hr : Kd.C Kd.bool w A m.length m) (hml : m.length = r.f4.length) (hF : FitR r) :
 Calls zp5 67 #[.agg (zal r B1 c1 B2 c2 B3 c3 B4 c4), .slice A m.length c] w (zfD ((zbq (zao r) m).map mk) w) := by
 have hn4 := hF.steps; have hW := (zpw w.heap.size w).alloc (zpx _) (.cells (zal r B1 c1 B2 c2 B3 c3 B4 c4) 45); have HK := zpt (zap w (.cells (zal r B1 c1 B2 c2 B3 c3 B4 c4) 45)); have HB := zpt hW; have H1 := zpt (zqS h1 hW); have H4 := zpt (zqS h4 hW); have HR := zpt (zqS hr hW); have HF := zpt hF; have HML := zpt hml; have HOl := zpt (zhK r m 1000 (fun s hs => (hF.stepN s hs).2.1))
 rw [<- zmi r m hml]; obtain ⟨T, hT⟩ : ∃ T, T = zbR (zae (outK r m r.f4.length)) := ⟨_, rfl⟩; rw [<- hT]; have HT := zpt hT; clear hW h1 h4 hr hF hml hT; unfold zal at *; go_enter Tryz.func67, Tryz.ntmps67
 go_upto_region 1 with fail; generalize w.alloc (.cells #[.string r.f0, .slice B1 r.f1.length c1, .slice B2 r.f2.length c2, .slice B3 r.f3.length c3, .slice B4 r.f4.length c4] 45) = w1 at HB HK H1 H4 HR |-; have k4 := bc4 HK.out; have k1 := bc1 HK.out; go_wp2_with fail; go_loopg [5, 6, 7, 9, 13] r.f4.length (fun gg s5 _ _ _ s13 wr => ∃ kk : Nat, kk <= r.f4.length /\ r.f4.length - kk <= gg /\ s13 = .int .i64 kk /\ Aside0 (RS wr w1.heap.size s5 (outK r m kk)) /\ Aside0 (Below w1.heap.size w1 wr))
 case atStart => exact ⟨0, zqk _, by omega, rfl, ⟨Kd.R_nil _ _ _ _ _⟩, ⟨zpw _ _⟩⟩
 case round =>
  obtain ⟨kk, hkk, hgk, rfl, HO, HW⟩ := hrel; obtain ⟨wq, rfl⟩ : ∃ wq, wq = wr := ⟨wr, rfl⟩; by_cases hlt : kk < r.f4.length
  . have hltz : (kk : Int) < (r.f4.length : Int) := by omega
    have hlm : kk < m.length := by have := HML.out; omega
    have hlmz : (kk : Int) < (m.length : Int) := by omega
    obtain ⟨b, o, C2, d2, C3, d3, rfl, p0, p1, p2, p3, p4, g2, g3⟩ := zcA H4.out kk hlt; replace p0 := zad HW.out p0
    replace p1 := zad HW.out p1
    replace p2 := zad HW.out p2
    replace p3 := zad HW.out p3
    replace p4 := zad HW.out p4
    obtain ⟨bm, om, rfl, q0⟩ := zgQ HR.out kk hlm; have HSt := zpt (zho r m kk hlt hlm); obtain ⟨hxo, hxl, hxn⟩ := HF.out.stepN _ (zqQ hlt); have hOl := HOl.out kk; have hOl2 : (outK r m kk).length <= 1000000 := by
     have : kk * 1000 <= 1000 * 1000 := zpP _ (by omega)
     omega
    have HOk := zpt hOl2; generalize hx : r.f4[kk] = x at p0 p1 p2 p3 p4 g2 g3 HSt hxl; generalize m[kk] = bk at q0 HSt; clear hx hxo hxn hOl hOl2; have HB3 : Hid (Below w1.heap.size w1 (wq.alloc (.cells #[.string x.f0, .int .i64 x.f1, .slice C2 x.f2.length d2, .slice C3 x.f3.length d3, .int .i64 x.f4] 24))) := zpt (HW.out.alloc HW.out.size _); have HX3 := zpt (zap wq (.cells #[.string x.f0, .int .i64 x.f1, .slice C2 x.f2.length d2, .slice C3 x.f3.length d3, .int .i64 x.f4] 24)); have HG2 := zpt g2; have HQ0 := zpt q0; have HO3 := zpt (zqu HO.out ((zpw wq.heap.size wq).alloc (zpx _) (.cells #[.string x.f0, .int .i64 x.f1, .slice C2 x.f2.length d2, .slice C3 x.f3.length d3, .int .i64 x.f4] 24))); clear g2 g3 q0; go_upto_region 5 with fail; generalize wq.alloc (.cells #[.string x.f0, .int .i64 x.f1, .slice C2 x.f2.length d2, .slice C3 x.f3.length d3, .int .i64 x.f4] 24) = w3 at HX3 HB3 HO3 |-; have x2 := bc2 HX3.out; go_wp2_with fail; go_loopg [5, 9, 21] x.f2.length (fun gg s5 _ s21 wi => ∃ k : Nat, k <= x.f2.length /\ x.f2.length - k <= gg /\ s21 = .int .i64 k /\ Aside0 (RS wi w1.heap.size s5 (outK r m kk ++ zbV r.f1 bk (x.f2.take k))) /\ Aside0 (Below w1.heap.size w1 wi))
    case atStart => exact ⟨0, zqk _, by omega, rfl, ⟨by rw [zqX]; exact (by simpa [zbV] using HO3.out)⟩, ⟨HB3.out⟩⟩
    case round =>
     obtain ⟨k, hk, hgk2, rfl, HOi, HWi⟩ := hrel; by_cases hl2 : k < x.f2.length
     . have hl2z : (k : Int) < (x.f2.length : Int) := by omega
       obtain ⟨b5, o5, rfl, n0⟩ := za4 (zqS HG2.out HWi.out) k hl2; have m0 := zad HWi.out HQ0.out; have j1 := zad HWi.out k1; have HRs := zpt (zn4 r.f1 bk x.f2 k hl2); have HRl : Hid ((zbV r.f1 bk (x.f2.take k)).length <= 1000) := zpt (zpD (zqn _ _) (by rw [zpI]; omega))
       have HWs := zpt HWi.out.size; have HCt := zpt (zdg B1 c1 r.f1 x.f2[k] wr (zqS H1.out HWi.out)); generalize x.f2[k] = n at n0 HRs HCt; cases bk with
       | false =>
        have HN : Hid (RS wr w1.heap.size u5 (outK r m kk ++ zbV r.f1 false (x.f2.take (k + 1)))) := by show RS _ _ _ _; rw [HRs.out]; simpa using HOi.out
        go_wp2_with fail; go_roundg (x.f2.length - (k + 1))
        case measure => omega
        case rel => exact ⟨k + 1, by omega, by omega, by first | rfl | go_num, ⟨HN.out⟩, ⟨HWi.out⟩⟩
       | true =>
        have hRs := HRs.out; rw [Bool.true_and] at hRs; generalize (zab r.f1).contains n.data.toList = q at HCt hRs; have HRs2 := zpt hRs; clear hRs HRs; cases q with
        | false =>
         have HN : Hid (RS wr w1.heap.size u5 (outK r m kk ++ zbV r.f1 true (x.f2.take (k + 1)))) := by show RS _ _ _ _; rw [HRs2.out]; simpa using HOi.out
         go_wp2_with (first | (go_at_call 92; refine HCt.out.mono ?_; rintro e w2 ⟨rfl, rfl⟩))
         go_roundg (x.f2.length - (k + 1))
         case measure => omega
         case rel => exact ⟨k + 1, by omega, by omega, by first | rfl | go_num, ⟨HN.out⟩, ⟨HWi.out⟩⟩
        | true =>
         go_wp2_with (first | (go_at_call 92; refine HCt.out.mono ?_; rintro e w2 ⟨rfl, rfl⟩) | ((with_reducible refine zaG (b := .append) (xs := #[.tmp 35, .tmp 37]) rfl ?_); at_builtin; refine Kd.R_append zqb (w0 := w1) w1.heap.size rfl (.tmp 35) (.tmp 37) 22 9 (.string ⟨#[]⟩) 16 rfl Tryz.underlying22 zbi rfl (by decide) (by decide) u5 (outK r m kk ++ zbV r.f1 true (x.f2.take k)) n [.string n] (fun _ => True) (fun k_ => True /\ some k_ ≠ u5.ownBlock) rfl rfl rfl (fun _ hk => hk) (fun _ _ => trivial) HOi.out HWi.out HWs.out ?aL ?_; (case aL => (have h1 := HRl.out; have h2 := HOk.out; rw [zpK]; omega)); intro v1 w4 ho hb hg hat; have HO4 : Hid (RS w4 w1.heap.size v1 (outK r m kk ++ zbV r.f1 true (x.f2.take (k + 1)))) := (by show RS _ _ _ _; rw [HRs2.out]; (rw [if_pos trivial, <- List.append_assoc]); exact ho); have HB4 := zpt hb; clear ho hb hg hat))
         go_roundg (x.f2.length - (k + 1))
         case measure => omega
         case rel => exact ⟨k + 1, by omega, by omega, by first | rfl | go_num, ⟨HO4.out⟩, ⟨HB4.out⟩⟩
     . have hl2z : ¬ (k : Int) < (x.f2.length : Int) := by omega
       obtain rfl : k = x.f2.length := by omega
       have HN : Hid (RS wr w1.heap.size u5 (outK r m (kk + 1))) := by
        have h := HOi.out; rw [zqf] at h; show RS _ _ _ _
        rw [HSt.out]; exact h
       go_wp2_with fail; go_roundg (r.f4.length - (kk + 1))
       case measure => omega
       case rel => exact ⟨kk + 1, by omega, by omega, by first | rfl | go_num, ⟨HN.out⟩, ⟨HWi.out⟩⟩
  . have hltz : ¬ (kk : Int) < (r.f4.length : Int) := by omega
    obtain rfl : kk = r.f4.length := by omega
    have hol := HOl.out r.f4.length; have hol2 : (outK r m r.f4.length).length * 16 <= 140737488355328 := by
     have : r.f4.length * 1000 <= 1000 * 1000 := zpP _ (by omega)
     omega
    have hSort := zfF w1.heap.size u5 (outK r m r.f4.length) wq HO.out hol2; have HSort := zpt hSort; have HBs := zpt (Kd.R_base HO.out); clear hol hol2 hSort; go_wp2_with (first
     | (go_at_call 93; refine HSort.out.mono ?_; rintro e w5 ⟨rfl, hR5, hg5⟩; have HR5 := zpt hR5; have HW5 := zpt (HW.out.grown hg5 HW.out.size (fun k hk => HBs.out k hk)); clear hR5 hg5)
     | (go_at_call 94; refine (zgP w1.heap.size u5 _ _ HR5.out).mono ?_; rintro e w6 ⟨v6, rfl, hR6, hg6⟩; have HR6 := zpt hR6; have HW6 := zpt (HW5.out.grown hg6 HW5.out.size (fun k hk => HBs.out k hk)); clear hR6 hg6))
    go_ret
    exact ⟨_, rfl, by rw [HT.out]; exact zqJ HR6.out HB.out.size, HB.out.trans (HW6.out.mono HB.out.size)⟩
theorem zeb (w : zaa -> Bool) (r : zaj) : (zau w (zao r).steps).1.length = r.f4.length := by rw [zf4]; exact zqe ..
def za2 (fs : List ByteArray) : zaa -> Bool := fun x => (zab fs).contains x
structure RuleAt (r : zaj) (B1 : Option Addr) (B2 : Option Addr) (B3 : Option Addr) (B4 : Option Addr) (w : World) : Prop where
 h1 : Kd.C zqb w B1 r.f1.length r.f1
 h2 : Kd.C zqb w B2 r.f2.length r.f2
 h3 : Kd.C zqb w B3 r.f3.length r.f3
 h4 : Kd.C k24 w B4 r.f4.length r.f4
theorem RuleAt.below {r : zaj} {B1 B2 B3 B4 : Option Addr} {w w' : World} (h : RuleAt r B1 B2 B3 B4 w) (hb : Below w.heap.size w w') : RuleAt r B1 B2 B3 B4 w' := ⟨zqS h.h1 hb, zqS h.h2 hb, zqS h.h3 hb, zqS h.h4 hb⟩
theorem ziw (r : zaj) (B1 : Option Addr) (c1 : Nat) (B2 : Option Addr) (c2 : Nat) (B3 : Option Addr) (c3 : Nat) (B4 : Option Addr) (c4 : Nat) (o : ByteArray) (w : World) (hA : RuleAt r B1 B2 B3 B4 w) (hF : FitR r) (ho : o.size <= maxLen) :
 Calls zp5 39 #[.agg (zal r B1 c1 B2 c2 B3 c3 B4 c4), .string o] w (zgo (zaR (zau (za2 [o]) (zao r).steps).1 true) w) := by
 have hW := (zpw w.heap.size w).alloc (zpx _) (.cells (zal r B1 c1 B2 c2 B3 c3 B4 c4) 45); have HK := zpt (zap w (.cells (zal r B1 c1 B2 c2 B3 c3 B4 c4) 45)); have HB := zpt hW; have HA := zpt (hA.below hW); have HL := zpt (zeb (za2 [o]) r); have HF := zpt hF; have HN := zpt (fun (X : Option Addr) (c : Nat) (W : World) (h : RuleAt r B1 B2 B3 B4 W) (hr : Kd.C zqb W X 1 [o]) => zeM r B1 c1 B2 c2 B3 c3 B4 c4 X c [o] W h.h4 hr hF (by simp) (fun x hx => by rw [List.mem_singleton.1 hx]; exact ho))
 have hn4 := hF.steps; have e : (fun x => (zab [o]).contains x) = za2 [o] := rfl
 rw [e] at HN; generalize (zau (za2 [o]) (zao r).steps).1 = m at HL HN |-; obtain ⟨T, hT⟩ : ∃ T, T = zaR m true := ⟨_, rfl⟩; rw [<- hT]; have HT := zpt hT; clear hW hA hF ho e hT; unfold zal at *; go_enter Tryz.func39, Tryz.ntmps39
 go_upto_region 1 with fail; generalize w.alloc (.cells #[.string r.f0, .slice B1 r.f1.length c1, .slice B2 r.f2.length c2, .slice B3 r.f3.length c3, .slice B4 r.f4.length c4] 45) = w1 at HB HK HA |-; have k0 := bc0 HK.out; have k1 := bc1 HK.out; have k2 := bc2 HK.out; have k3 := bc3 HK.out; have k4 := bc4 HK.out; have HX := zpt ((zpw w1.heap.size w1).alloc (zpx _) (.cells #[.string o] 9)); have HS := zpt (zbO zqb w1 9 [o] [.string o] (Kd.reps_scalar _) (by simp))
 go_wp2_with (first
  | (go_at_call 66; refine (HN.out _ _ _ (HA.out.below HX.out) HS.out).mono ?_; rintro e w2 ⟨v2, rfl, hR2, hb2⟩; obtain ⟨A2, n2, rfl, _, hC2⟩ := zqq hR2; have HC2 := zpt hC2; have HB2 := zpt (zac HX.out HX.out.size hb2); clear hR2 hC2 hb2)
  | (go_at_call 65; refine (zjb A2 n2 m true w2 HC2.out (by have h := HL.out; omega)).mono ?_; rintro e w3 ⟨v3, rfl, hR3, hb3⟩; have HR3 := zpt hR3; have HB3 := zpt (zac HB2.out HB2.out.size hb3); have HZ3 := zpt HB2.out.size; clear hR3 hb3))
 go_ret
 exact ⟨_, rfl, by rw [HT.out]; exact zqJ HR3.out (zpD HB.out.size HZ3.out), zac HB.out HB.out.size HB3.out⟩
theorem zoP (r : zaj) (B1 : Option Addr) (c1 : Nat) (B2 : Option Addr) (c2 : Nat) (B3 : Option Addr) (c3 : Nat) (B4 : Option Addr) (c4 : Nat) (w : World) (hA : RuleAt r B1 B2 B3 B4 w) (hF : FitR r) :
 Calls zp5 44 #[.agg (zal r B1 c1 B2 c2 B3 c3 B4 c4)] w (zgo (zaR (zau (za2 r.f2) (zao r).steps).1 false) w) := by
 have hW := (zpw w.heap.size w).alloc (zpx _) (.cells (zal r B1 c1 B2 c2 B3 c3 B4 c4) 45); have HK := zpt (zap w (.cells (zal r B1 c1 B2 c2 B3 c3 B4 c4) 45)); have HB := zpt hW; have HA := zpt (hA.below hW); have HL := zpt (zeb (za2 r.f2) r); have HF := zpt hF; have HN := zpt (fun (X : Option Addr) (c : Nat) (W : World) (h : RuleAt r B1 B2 B3 B4 W) (hr : Kd.C zqb W X r.f2.length r.f2) => zeM r B1 c1 B2 c2 B3 c3 B4 c4 X c r.f2 W h.h4 hr hF hF.outs hF.outsN)
 have hn4 := hF.steps; have e : (fun x => (zab r.f2).contains x) = za2 r.f2 := rfl
 rw [e] at HN; generalize (zau (za2 r.f2) (zao r).steps).1 = m at HL HN |-; obtain ⟨T, hT⟩ : ∃ T, T = zaR m false := ⟨_, rfl⟩; rw [<- hT]; have HT := zpt hT; clear hW hA hF e hT; unfold zal at *; go_enter Tryz.func44, Tryz.ntmps44
 go_upto_region 1 with fail; generalize w.alloc (.cells #[.string r.f0, .slice B1 r.f1.length c1, .slice B2 r.f2.length c2, .slice B3 r.f3.length c3, .slice B4 r.f4.length c4] 45) = w1 at HB HK HA |-; have k0 := bc0 HK.out; have k1 := bc1 HK.out; have k2 := bc2 HK.out; have k3 := bc3 HK.out; have k4 := bc4 HK.out; go_wp2_with (first
  | (go_at_call 66; refine (HN.out _ _ _ HA.out HA.out.h2).mono ?_; rintro e w2 ⟨v2, rfl, hR2, hb2⟩; obtain ⟨A2, n2, rfl, _, hC2⟩ := zqq hR2; have HC2 := zpt hC2; have HB2 := zpt hb2; clear hR2 hC2 hb2)
  | (go_at_call 65; refine (zjb A2 n2 m false w2 HC2.out (by have h := HL.out; omega)).mono ?_; rintro e w3 ⟨v3, rfl, hR3, hb3⟩; have HR3 := zpt hR3; have HB3 := zpt (zac HB2.out HB2.out.size hb3); have HZ3 := zpt HB2.out.size; clear hR3 hb3))
 go_ret
 exact ⟨_, rfl, by rw [HT.out]; exact zqJ HR3.out (zpD HB.out.size HZ3.out), zac HB.out HB.out.size HB3.out⟩
theorem zh3 (r : zaj) (B1 : Option Addr) (c1 : Nat) (B2 : Option Addr) (c2 : Nat) (B3 : Option Addr) (c3 : Nat) (B4 : Option Addr) (c4 : Nat) (w : World) (hA : RuleAt r B1 B2 B3 B4 w) (hF : FitR r) :
 Calls zp5 43 #[.agg (zal r B1 c1 B2 c2 B3 c3 B4 c4)] w (zfD ((zbq (zao r) (zau (za2 r.f2) (zao r).steps).1).map mk) w) := by
 have hW := (zpw w.heap.size w).alloc (zpx _) (.cells (zal r B1 c1 B2 c2 B3 c3 B4 c4) 45); have HK := zpt (zap w (.cells (zal r B1 c1 B2 c2 B3 c3 B4 c4) 45)); have HB := zpt hW; have HA := zpt (hA.below hW); have HL := zpt (zeb (za2 r.f2) r); have HF := zpt hF; have HN := zpt (fun (X : Option Addr) (c : Nat) (W : World) (h : RuleAt r B1 B2 B3 B4 W) (hr : Kd.C zqb W X r.f2.length r.f2) => zeM r B1 c1 B2 c2 B3 c3 B4 c4 X c r.f2 W h.h4 hr hF hF.outs hF.outsN)
 have hn4 := hF.steps; have e : (fun x => (zab r.f2).contains x) = za2 r.f2 := rfl
 rw [e] at HN; generalize (zau (za2 r.f2) (zao r).steps).1 = m at HL HN |-; obtain ⟨T, hT⟩ : ∃ T, T = (zbq (zao r) m).map mk := ⟨_, rfl⟩; rw [<- hT]; have HRd := zpt (fun (X : Option Addr) (c : Nat) (W : World) (h : RuleAt r B1 B2 B3 B4 W) (hr : Kd.C Kd.bool W X m.length m) => zjd r B1 c1 B2 c2 B3 c3 B4 c4 X c m W h.h1 h.h4 hr HL.out hF)
 have HT := zpt hT; clear hW hA hF e hT; unfold zal at *; go_enter Tryz.func43, Tryz.ntmps43
 go_upto_region 1 with fail; generalize w.alloc (.cells #[.string r.f0, .slice B1 r.f1.length c1, .slice B2 r.f2.length c2, .slice B3 r.f3.length c3, .slice B4 r.f4.length c4] 45) = w1 at HB HK HA |-; have Sof : ∀ W, Below w1.heap.size w1 W -> W.cell? ⟨w.heap.size, 0, none⟩ = some (.string r.f0) /\ W.cell? ⟨w.heap.size, 1, none⟩ = some (.slice B1 r.f1.length c1) /\ W.cell? ⟨w.heap.size, 2, none⟩ = some (.slice B2 r.f2.length c2) /\ W.cell? ⟨w.heap.size, 3, none⟩ = some (.slice B3 r.f3.length c3) /\ W.cell? ⟨w.heap.size, 4, none⟩ = some (.slice B4 r.f4.length c4) := fun W hW =>
  ⟨(zah (zai HK.out hW) 0).trans rfl, (zah (zai HK.out hW) 1).trans rfl, (zah (zai HK.out hW) 2).trans rfl, (zah (zai HK.out hW) 3).trans rfl, (zah (zai HK.out hW) 4).trans rfl⟩
 have HSo := zpt Sof; have HBx : Hid (Below w1.heap.size w1 w1.drew) := zpt (zaM (zpw _ _)); clear Sof; go_region_held3 (fun W => W.cell? ⟨w.heap.size, 0, none⟩ = some (.string r.f0) /\ W.cell? ⟨w.heap.size, 1, none⟩ = some (.slice B1 r.f1.length c1) /\ W.cell? ⟨w.heap.size, 2, none⟩ = some (.slice B2 r.f2.length c2) /\ W.cell? ⟨w.heap.size, 3, none⟩ = some (.slice B3 r.f3.length c3) /\ W.cell? ⟨w.heap.size, 4, none⟩ = some (.slice B4 r.f4.length c4))
  (exact HSo.out _ HBx.out)
  (first
   | (go_at_call 66; refine (HN.out _ _ _ (HA.out.below HBx.out) (HA.out.below HBx.out).h2).mono ?_; rintro e w2 ⟨v2, rfl, hR2, hb2⟩; obtain ⟨A2, n2, rfl, _, hC2⟩ := zqq hR2; have HC2 := zpt hC2; have HBx := zpt (zac HBx.out (HBx.out).size hb2); clear hR2 hC2 hb2)
   | (go_at_call 67; refine (HRd.out _ _ _ (HA.out.below HBx.out) HC2.out).mono ?_; rintro e w3 ⟨v3, rfl, hR3, hb3⟩; have HR3 := zpt hR3; have HZ3 := zpt HBx.out.size; have HBx := zpt (zac HBx.out HBx.out.size hb3); clear hR3 hb3))
 all_goals
  go_wp2_with fail; go_ret
  exact ⟨_, rfl, by rw [HT.out]; exact zqJ HR3.out (zpD HB.out.size HZ3.out), zac HB.out HB.out.size HBx.out⟩
theorem zh1 (r : zaj) (B1 : Option Addr) (c1 : Nat) (B2 : Option Addr) (c2 : Nat) (B3 : Option Addr) (c3 : Nat) (B4 : Option Addr) (c4 : Nat) (o : ByteArray) (w : World) (hA : RuleAt r B1 B2 B3 B4 w) (hF : FitR r) (ho : o.size <= maxLen) :
 Calls zp5 41 #[.agg (zal r B1 c1 B2 c2 B3 c3 B4 c4), .string o] w (zfD ((zbq (zao r) (zau (za2 [o]) (zao r).steps).1).map mk) w) := by
 have hW := (zpw w.heap.size w).alloc (zpx _) (.cells (zal r B1 c1 B2 c2 B3 c3 B4 c4) 45); have HK := zpt (zap w (.cells (zal r B1 c1 B2 c2 B3 c3 B4 c4) 45)); have HB := zpt hW; have HA := zpt (hA.below hW); have HL := zpt (zeb (za2 [o]) r); have HF := zpt hF; have HN := zpt (fun (X : Option Addr) (c : Nat) (W : World) (h : RuleAt r B1 B2 B3 B4 W) (hr : Kd.C zqb W X [o].length [o]) => zeM r B1 c1 B2 c2 B3 c3 B4 c4 X c [o] W h.h4 hr hF (by simp) (fun x hx => by rw [List.mem_singleton.1 hx]; exact ho))
 have hn4 := hF.steps; have e : (fun x => (zab [o]).contains x) = za2 [o] := rfl
 rw [e] at HN; generalize (zau (za2 [o]) (zao r).steps).1 = m at HL HN |-; obtain ⟨T, hT⟩ : ∃ T, T = (zbq (zao r) m).map mk := ⟨_, rfl⟩; rw [<- hT]; have HRd := zpt (fun (X : Option Addr) (c : Nat) (W : World) (h : RuleAt r B1 B2 B3 B4 W) (hr : Kd.C Kd.bool W X m.length m) => zjd r B1 c1 B2 c2 B3 c3 B4 c4 X c m W h.h1 h.h4 hr HL.out hF)
 have HT := zpt hT; clear hW hA hF e hT ho; unfold zal at *; go_enter Tryz.func41, Tryz.ntmps41
 go_upto_region 1 with fail; generalize w.alloc (.cells #[.string r.f0, .slice B1 r.f1.length c1, .slice B2 r.f2.length c2, .slice B3 r.f3.length c3, .slice B4 r.f4.length c4] 45) = w1 at HB HK HA |-; have Sof : ∀ W, Below w1.heap.size w1 W -> W.cell? ⟨w.heap.size, 0, none⟩ = some (.string r.f0) /\ W.cell? ⟨w.heap.size, 1, none⟩ = some (.slice B1 r.f1.length c1) /\ W.cell? ⟨w.heap.size, 2, none⟩ = some (.slice B2 r.f2.length c2) /\ W.cell? ⟨w.heap.size, 3, none⟩ = some (.slice B3 r.f3.length c3) /\ W.cell? ⟨w.heap.size, 4, none⟩ = some (.slice B4 r.f4.length c4) := fun W hW =>
  ⟨(zah (zai HK.out hW) 0).trans rfl, (zah (zai HK.out hW) 1).trans rfl, (zah (zai HK.out hW) 2).trans rfl, (zah (zai HK.out hW) 3).trans rfl, (zah (zai HK.out hW) 4).trans rfl⟩
 have HSo := zpt Sof; have HBx : Hid (Below w1.heap.size w1 w1.drew) := zpt (zaM (zpw _ _)); have HBa : Hid (Below w1.heap.size w1 (w1.drew.alloc (.cells #[.string o] 9))) := zpt (HBx.out.alloc HBx.out.size _); have HS := zpt (zbO zqb w1.drew 9 [o] [.string o] (Kd.reps_scalar _) (by simp))
 clear Sof; go_region_held3 (fun W => W.cell? ⟨w.heap.size, 0, none⟩ = some (.string r.f0) /\ W.cell? ⟨w.heap.size, 1, none⟩ = some (.slice B1 r.f1.length c1) /\ W.cell? ⟨w.heap.size, 2, none⟩ = some (.slice B2 r.f2.length c2) /\ W.cell? ⟨w.heap.size, 3, none⟩ = some (.slice B3 r.f3.length c3) /\ W.cell? ⟨w.heap.size, 4, none⟩ = some (.slice B4 r.f4.length c4))
  (exact HSo.out _ (by first | exact HBx.out | exact HBa.out))
  (first
   | (go_at_call 66; refine (HN.out _ _ _ (HA.out.below HBa.out) HS.out).mono ?_; rintro e w2 ⟨v2, rfl, hR2, hb2⟩; obtain ⟨A2, n2, rfl, _, hC2⟩ := zqq hR2; have HC2 := zpt hC2; have HBx := zpt (zac HBa.out (HBa.out).size hb2); clear hR2 hC2 hb2)
   | (go_at_call 67; refine (HRd.out _ _ _ (HA.out.below HBx.out) HC2.out).mono ?_; rintro e w3 ⟨v3, rfl, hR3, hb3⟩; have HR3 := zpt hR3; have HZ3 := zpt HBx.out.size; have HBx := zpt (zac HBx.out HBx.out.size hb3); clear hR3 hb3))
 all_goals
  go_wp2_with fail; go_ret
  exact ⟨_, rfl, by rw [HT.out]; exact zqJ HR3.out (zpD HB.out.size HZ3.out), zac HB.out HB.out.size HBx.out⟩
def zev (r : zaj) (B1 : Option Addr) (c1 : Nat) (B2 : Option Addr) (c2 : Nat) (B3 : Option Addr) (c3 : Nat) (B4 : Option Addr) (c4 : Nat) (g : Nat) (W : World) : Prop :=
 W.cell? ⟨g, 0, none⟩ = some (.string r.f0) /\ W.cell? ⟨g, 1, none⟩ = some (.slice B1 r.f1.length c1) /\ W.cell? ⟨g, 2, none⟩ = some (.slice B2 r.f2.length c2) /\ W.cell? ⟨g, 3, none⟩ = some (.slice B3 r.f3.length c3) /\ W.cell? ⟨g, 4, none⟩ = some (.slice B4 r.f4.length c4)
theorem zjn {r : zaj} {B1 B2 B3 B4 : Option Addr} {c1 c2 c3 c4 g : Nat} {W : World} (h : W.heap[g]? = some (.cells (zal r B1 c1 B2 c2 B3 c3 B4 c4) 45 (0, 0))) : zev r B1 c1 B2 c2 B3 c3 B4 c4 g W := ⟨bc0 h, bc1 h, bc2 h, bc3 h, bc4 h⟩
def zcN (r : zaj) (k : Nat) : List ByteArray := ([r.f0] ++ r.f1 ++ r.f2 ++ r.f3) ++ (r.f4.take k).flatMap fun s => s.f0 :: s.f2
theorem zm7 (r : zaj) (k : Nat) (h : k < r.f4.length) : zcN r (k + 1) = zcN r k ++ [r.f4[k].f0] ++ r.f4[k].f2 := by
 unfold zcN; rw [zpZ h, List.flatMap_append]; simp
theorem zmo (r : zaj) : zcH (zbu r) = ((r.f4.all fun s => zbj (zam s)) && (zcN r r.f4.length).all (fun s => may s.data.toList) && !r.f2.isEmpty) := by
 unfold zcH zbu zao zcN zab; rw [zqf]; simp only [List.all_append, List.all_cons, List.all_map, List.all_flatMap, List.flatMap_map, List.isEmpty_map, List.all_nil, Bool.and_true, zaC, zab, Function.comp_def]
section
variable {P : Program} {ops : Array Oper} {o : Oper} {a : Act} {Kc : Act -> World -> Prop} {Q : Exit -> Act -> World -> Prop} {W : World}
theorem zdS (hw : Region.wanted o (yielded ops a.tmps) = true) (s x : Operand)
 (ho : o.op = .call { callee := .builtin .append, args := #[s, x], argTypes := #[22, 22] })
 (ht : P.underlying 22 = some (.slice 9)) (hinfo : (P.info? 9).map (fun i => (i.zero, i.size, i.bytes)) = some (some (.string ⟨#[]⟩), 1, 16))
 {base : Nat} {v : Value} {xs ys : List ByteArray} (hs : a.eval s = v) (HO : RS W base v xs) (hbase : base <= W.heap.size)
 (l : List ByteArray) (A : Option Addr) (c : Nat) (hx : a.eval x = .slice A l.length c) (HR : Kd.C zqb W A l.length l) (hl : (xs.length + l.length) * 16 <= 140737488355328) (hy : ys = xs ++ l)
 (h : ∀ X d w1, RS w1 base (.slice X ys.length d) ys -> Below base W w1 -> Kc (a.put o.dst (.slice X ys.length d)) w1) :
 if Region.wanted o (yielded ops a.tmps) = true then Oper.wp P o a W Kc Q else Kc (a.put o.dst undef) W := by
 subst hy; exact zk0 hw s x ho ht hinfo hs HO hbase l A c hx HR hl h
end
theorem zoF (r : zaj) (B1 : Option Addr) (c1 : Nat) (B2 : Option Addr) (c2 : Nat) (B3 : Option Addr) (c3 : Nat) (B4 : Option Addr) (c4 : Nat) (w : World) (hA : RuleAt r B1 B2 B3 B4 w) (hF : FitR r) (hf3 : r.f3.length <= 1000) :
 Calls zp5 90 #[.agg (zal r B1 c1 B2 c2 B3 c3 B4 c4)] w fun e w' => e = .returned (.bool (zcH (zbu r))) /\ Below w.heap.size w w' := by
 have hab := (zpw w.heap.size w).alloc (zpx _) (.cells (zal r B1 c1 B2 c2 B3 c3 B4 c4) 45); have HK := zpt (zap w (.cells (zal r B1 c1 B2 c2 B3 c3 B4 c4) 45)); have HB := zpt hab; have HA := zpt (hA.below hab); have HF := zpt hF; have hn1 := hF.ins; have hn2 := hF.outs; have hn4 := hF.steps; obtain ⟨T, hT⟩ : ∃ T, T = zcH (zbu r) := ⟨_, rfl⟩; rw [<- hT]; rw [zmo] at hT; have HT := zpt hT; clear hA hF hab hT; unfold zal at HB HA |-; go_enter Tryz.func90, Tryz.ntmps90
 go_upto_region 1 with fail; have HSo : Hid (∀ W : World, Below (w.alloc (.cells (zal r B1 c1 B2 c2 B3 c3 B4 c4) 45)).heap.size (w.alloc (.cells (zal r B1 c1 B2 c2 B3 c3 B4 c4) 45)) W -> zev r B1 c1 B2 c2 B3 c3 B4 c4 w.heap.size W) := fun W hW => zjn (zai HK.out hW)
 unfold zal at HSo HK; generalize w.alloc (.cells #[.string r.f0, .slice B1 r.f1.length c1, .slice B2 r.f2.length c2, .slice B3 r.f3.length c3, .slice B4 r.f4.length c4] 45) = w1 at HB HK HA HSo |-; obtain ⟨L1, hL1⟩ : ∃ L, L = [r.f0] ++ r.f1 := ⟨_, rfl⟩; obtain ⟨L2, hL2⟩ : ∃ L, L = L1 ++ r.f2 := ⟨_, rfl⟩; obtain ⟨L3, hL3⟩ : ∃ L, L = L2 ++ r.f3 := ⟨_, rfl⟩; have hz1 : L1.length <= 1001 := by rw [hL1]; simp; omega
 have hz2 : L2.length <= 2001 := by rw [hL2]; simp; omega
 have hz3 : L3.length <= 3001 := by rw [hL3]; simp; omega
 have HL1 := zpt hL1; have HL2 := zpt hL2; have HL3 := zpt hL3; clear hL1 hL2 hL3; have HBk : Hid (Below w1.heap.size w1 w1.drew) := zpt (zaM (zpw _ _)); go_region_held3 (fun W => (W.cell? ⟨w.heap.size, 0, none⟩ = some (.string r.f0) /\ W.cell? ⟨w.heap.size, 1, none⟩ = some (.slice B1 r.f1.length c1) /\ W.cell? ⟨w.heap.size, 2, none⟩ = some (.slice B2 r.f2.length c2) /\ W.cell? ⟨w.heap.size, 3, none⟩ = some (.slice B3 r.f3.length c3) /\ W.cell? ⟨w.heap.size, 4, none⟩ = some (.slice B4 r.f4.length c4)))
  (first | exact HSo.out _ HBk.out | exact HSo.out _ (zce HBk.out (.inr ⟨_, rfl⟩)))
  (first
   | (refine zdS (by rfl) (.tmp 8) (.tmp 10) rfl Tryz.underlying22 zbi (v := .slice (some ⟨w1.heap.size, 0, none⟩) 1 1) (by rfl) (zeN w1.drew w1.heap.size r.f0 (zpx _)) (HBk.out.alloc HBk.out.size _).size r.f1 B1 c1 (by rfl) (zqS HA.out.h1 (HBk.out.alloc HBk.out.size _)) (by simp; omega) HL1.out ?_; intro X1 d1 w2 ho hb; have HO1 := zpt ho; have HBk := zpt ((HBk.out.alloc HBk.out.size _).trans hb); clear ho hb)
   | (refine zdS (by rfl) (.tmp 11) (.tmp 13) rfl Tryz.underlying22 zbi (v := .slice X1 L1.length d1) (by rfl) HO1.out HBk.out.size r.f2 B2 c2 (by rfl) (zqS HA.out.h2 HBk.out) (by omega) HL2.out ?_; intro X2 d2 w3 ho hb; have HO2 := zpt ho; have HBk := zpt (HBk.out.trans hb); clear ho hb)
   | (refine zdS (by rfl) (.tmp 14) (.tmp 16) rfl Tryz.underlying22 zbi (v := .slice X2 L2.length d2) (by rfl) HO2.out HBk.out.size r.f3 B3 c3 (by rfl) (zqS HA.out.h3 HBk.out) (by omega) HL3.out ?_; intro X3 d3 w4 ho hb; have HO3 := zpt ho; have HBk := zpt (HBk.out.trans hb); clear ho hb))
 all_goals
  have HN0 : Hid (L3 = zcN r 0) := by show _ = _; rw [HL3.out, HL2.out, HL1.out]; unfold zcN; simp
  have HRow := zpt HO3.out; clear HO1 HO2 HO3; go_wp2_with fail; go_loopg [3, 4] r.f4.length (fun gg s3 s4 wr => ∃ (kk : Nat) (X : Option Addr) (d : Nat) (l : List ByteArray), kk <= r.f4.length /\ r.f4.length - kk <= gg /\ s4 = .int .i64 kk /\ s3 = .slice X l.length d /\ l.length <= 3001 + kk * 1001 /\ Aside0 (l = zcN r kk) /\ Aside0 ((r.f4.take kk).all (fun s => zbj (zam s)) = true) /\ Aside0 (RS wr w1.heap.size (.slice X l.length d) l) /\ Aside0 (Below w1.heap.size w1 wr))
  case atStart => exact ⟨0, X3, d3, L3, zqk _, by omega, rfl, rfl, by omega, ⟨HN0.out⟩, ⟨rfl⟩, ⟨HRow.out⟩, ⟨HBk.out⟩⟩
  case round =>
   obtain ⟨kk, X, d, l, hkk, hgk, rfl, rfl, hll, HL, HM, HO, HW⟩ := hrel; have k4 := (HSo.out _ HW.out).2.2.2.2; by_cases hlt : kk < r.f4.length
   . have hltz : (kk : Int) < (r.f4.length : Int) := by omega
     obtain ⟨b, o, C2, d2, C3, d3, rfl, p0, p1, p2, p3, p4, g2, g3⟩ := zcA HA.out.h4 kk hlt; have hst := zm7 r kk hlt; have hxl := (HF.out.stepN _ (zqQ hlt)).2.1; have hms : (r.f4.take (kk + 1)).all (fun s => zbj (zam s)) = ((r.f4.take kk).all (fun s => zbj (zam s)) && zbj (zam r.f4[kk])) := by rw [zpZ hlt, List.all_append]; simp
     have hal : zbj (zam r.f4[kk]) = false -> (r.f4.all fun s => zbj (zam s)) = false := fun h => List.all_eq_false.2 ⟨_, zqQ hlt, by rw [h]; decide⟩
     generalize r.f4[kk] = x at p0 p1 p2 p3 p4 g2 g3 hst hxl hms hal; have hmy := zkb x C2 d2 C3 d3 wr (zqS g2 HW.out) (zqS g3 HW.out); have HMs := zpt hms; have HAl := zpt hal; have HSt := zpt hst; have HG2 := zpt g2; have HP0 := zpt p0; have HP2 := zpt p2; have j0 := zad HW.out p0; have j1 := zad HW.out p1; have j2 := zad HW.out p2; have j3 := zad HW.out p3; have j4 := zad HW.out p4; clear hms hal hst g2 g3 p0 p1 p2 p3 p4; cases hm : zbj (zam x) with
     | false =>
      rw [hm] at hmy; have HT2 : Hid (T = false) := by show _ = _; rw [HT.out, HAl.out hm]; rfl
      clear hm; go_wp2_with (first | (go_at_call 21; refine hmy.mono ?_; rintro e w6 ⟨rfl, hb6⟩))
      go_ret
      exact ⟨by rw [HT2.out]; rfl, zac (zac HB.out HB.out.size HW.out) (zpD HB.out.size HW.out.size) hb6⟩
     | true =>
      rw [hm] at hmy; have HM2 : Hid ((r.f4.take (kk + 1)).all (fun s => zbj (zam s)) = true) := by show _ = _; rw [HMs.out, HM.out, hm]; rfl
      have HMy := zpt hmy; clear hm hmy; go_wp2_with (first | (go_at_call 21; refine HMy.out.mono ?_; rintro e w6 ⟨rfl, hb6⟩; have HB6 := zpt (zac HW.out HW.out.size hb6); have HW6 := zpt hb6; clear hb6))
      have HS7 : Hid (∀ W : World, Below w1.heap.size w1 W -> W.cell? ⟨w.heap.size, 4, none⟩ = some (.slice (some ⟨b, o, none⟩) r.f4.length c4) /\ W.cell? ⟨b, o + kk * 5, none⟩ = some (.string x.f0) /\ W.cell? ⟨b, o + kk * 5 + 2, none⟩ = some (.slice C2 x.f2.length d2)) := fun W hW => ⟨(HSo.out W hW).2.2.2.2, zad hW HP0.out, zad hW HP2.out⟩
      have HO6 := zpt (zqu HO.out HW6.out); obtain ⟨m1, hm1⟩ : ∃ L, L = l ++ [x.f0] := ⟨_, rfl⟩; obtain ⟨m2, hm2⟩ : ∃ L, L = m1 ++ x.f2 := ⟨_, rfl⟩; have hy1 : m1.length = l.length + 1 := by rw [hm1]; simp
      have hy2 : m2.length <= 3001 + (kk + 1) * 1001 := by rw [hm2, hm1]; simp; omega
      have HM1 := zpt hm1; have HM2b := zpt hm2; have HY1 := zpt hy1; clear hm1 hm2 hy1; have HBd : Hid (Below w1.heap.size w1 w6.drew) := zpt (zaM HB6.out); clear j0 j1 j2 j3 j4 k4; go_region_held3 (fun W => W.cell? ⟨w.heap.size, 4, none⟩ = some (.slice (some ⟨b, o, none⟩) r.f4.length c4) /\ W.cell? ⟨b, o + kk * 5, none⟩ = some (.string x.f0) /\ W.cell? ⟨b, o + kk * 5 + 2, none⟩ = some (.slice C2 x.f2.length d2))
       (first | exact HS7.out _ HBd.out | exact HS7.out _ (zce HBd.out (.inr ⟨_, rfl⟩)))
       (first
        | (refine zdS (by rfl) (.tmp 32) (.tmp 39) rfl Tryz.underlying22 zbi (v := .slice X l.length d) (by rfl) (zqu (zqu HO6.out (zaM (zpw _ _))) ((zpw _ _).alloc (zpx _) _)) (HBd.out.alloc HBd.out.size _).size [x.f0] _ _ (by rfl) (zo6 (zap _ _)) (by simp; omega) HM1.out ?_; intro Y1 e1 w7 ho hb; have HO7 := zpt ho; have HBd := zpt ((HBd.out.alloc HBd.out.size _).trans hb); clear ho hb)
        | (refine zdS (by rfl) (.tmp 40) (.tmp 46) rfl Tryz.underlying22 zbi (v := .slice Y1 m1.length e1) (by rfl) HO7.out HBd.out.size x.f2 C2 d2 (by rfl) (zqS HG2.out HBd.out) (by have h1 := HY1.out; omega) HM2b.out ?_; intro Y2 e2 w8 ho hb; have HO8 := zpt ho; have HBd := zpt (HBd.out.trans hb); clear ho hb))
      all_goals
       have HLx : Hid (m2 = zcN r (kk + 1)) := by show _ = _; rw [HM2b.out, HM1.out, HL.out, HSt.out]
       go_wp2_with fail; go_roundg (r.f4.length - (kk + 1))
       case measure => omega
       case rel => exact ⟨kk + 1, Y2, e2, m2, by omega, by omega, by first | rfl | go_num, rfl, hy2, ⟨HLx.out⟩, ⟨HM2.out⟩, ⟨HO8.out⟩, ⟨HBd.out⟩⟩
   . have hltz : ¬ (kk : Int) < (r.f4.length : Int) := by omega
     obtain rfl : kk = r.f4.length := by omega
     have hM := HM.out; rw [zqf] at hM; have hT := HT.out; rw [hM, Bool.true_and, <- HL.out] at hT; have HT2 := zpt hT; obtain ⟨X', d', he, _, hC⟩ := zqq HO.out; injection he with he1 he2 he3; subst he1 he3; have HC := zpt hC; have hl9 : l.length <= 1100000 := by omega
     clear hM hT hC he2 hll; go_wp2_with fail; go_loopg [5] l.length (fun gg s5 wi => ∃ jj : Nat, jj <= l.length /\ l.length - jj <= gg /\ s5 = .int .i64 jj /\ Aside0 ((l.take jj).all (fun s => may s.data.toList) = true) /\ Aside0 (Below wr.heap.size wr wi))
     case atStart => exact ⟨0, zqk _, by omega, rfl, ⟨rfl⟩, ⟨zpw _ _⟩⟩
     case round =>
      obtain ⟨jj, hjj, hgj, rfl, HY, HI⟩ := hrel; obtain ⟨wi, rfl⟩ : ∃ wi, wi = wr := ⟨wr, rfl⟩; by_cases hlj : jj < l.length
      . have hljz : (jj : Int) < (l.length : Int) := by omega
        obtain ⟨b2, o2, rfl, q0⟩ := za4 (zqS HC.out HI.out) jj hlj; have hst : (l.take (jj + 1)).all (fun s => may s.data.toList) = ((l.take jj).all (fun s => may s.data.toList) && may l[jj].data.toList) := by rw [zpZ hlj, List.all_append]; simp
        have hal : may l[jj].data.toList = false -> l.all (fun s => may s.data.toList) = false := fun h => List.all_eq_false.2 ⟨_, zqQ hlj, by rw [h]; decide⟩
        have hmy := znD l[jj] wi; generalize l[jj] = y at q0 hst hal hmy; have HSt := zpt hst; have HAl := zpt hal; clear hst hal; cases hm : may y.data.toList with
        | false =>
         rw [hm] at hmy; have HT3 : Hid (T = false) := by show _ = _; rw [HT2.out, HAl.out hm]; rfl
         clear hm; go_wp2_with (first | (go_at_call 131; refine hmy.mono ?_; rintro e w6 ⟨rfl, hb6⟩))
         go_ret
         exact ⟨by rw [HT3.out]; rfl, zac (zac (zac HB.out HB.out.size HW.out) (zpD HB.out.size HW.out.size) HI.out) (zpD (zpD HB.out.size HW.out.size) HI.out.size) hb6⟩
        | true =>
         rw [hm] at hmy; have HY2 : Hid ((l.take (jj + 1)).all (fun s => may s.data.toList) = true) := by show _ = _; rw [HSt.out, HY.out, hm]; rfl
         clear hm; go_wp2_with (first | (go_at_call 131; refine hmy.mono ?_; rintro e w6 ⟨rfl, hb6⟩; have HB6 := zpt (zac HI.out HI.out.size hb6); clear hb6))
         go_roundg (l.length - (jj + 1))
         case measure => omega
         case rel => exact ⟨jj + 1, by omega, by omega, by first | rfl | go_num, ⟨HY2.out⟩, ⟨HB6.out⟩⟩
      . have hljz : ¬ (jj : Int) < (l.length : Int) := by omega
        obtain rfl : jj = l.length := by omega
        have hY := HY.out; rw [zqf] at hY; have HT3 : Hid (T = !r.f2.isEmpty) := by show _ = _; rw [HT2.out, hY]; rfl
        have k2 := (HSo.out _ (zac HW.out HW.out.size HI.out)).2.2.1; have HB9 := zpt (zac (zac HB.out HB.out.size HW.out) (zpD HB.out.size HW.out.size) HI.out); clear hY; by_cases he : r.f2.length = 0
        . have hd : decide ((0 : Int) < (r.f2.length : Int)) = false := by simp [he]
          have hd0 : ¬ (0 : Int) < (r.f2.length : Int) := by omega
          have HT4 : Hid (T = false) := by show _ = _; rw [HT3.out, List.isEmpty_iff.2 (List.length_eq_zero_iff.1 he)]; rfl
          have HE := zpt he; clear he; go_wp2_with fail; go_ret
          exact ⟨by rw [HT4.out]; first | rfl | (simp; exact List.length_eq_zero_iff.1 HE.out) | (simp; have := HE.out; omega), HB9.out⟩
        . have hd0 : (0 : Int) < (r.f2.length : Int) := by omega
          have hd : decide ((0 : Int) < (r.f2.length : Int)) = true := by simp; omega
          have HT4 : Hid (T = true) := by
           show _ = _
           rw [HT3.out]; cases hf : r.f2 with
           | nil => rw [hf] at he; exact absurd rfl he
           | cons _ _ => rfl
          have HE := zpt he; clear he; go_wp2_with fail; go_ret
          exact ⟨by rw [HT4.out]; first | rfl | (simp; exact List.length_eq_zero_iff.1 HE.out) | (simp; have := HE.out; omega), HB9.out⟩
section
variable {ops : Array Oper} {o : Oper} {rest : List Oper} {a : Act} {Q : Exit -> Act -> World -> Prop}
theorem appS1 {w0 W : World} {base : Nat} {val : Value} {l : List ByteArray} (v : ByteArray) (hgd : o.guard = none) (s x : Operand)
 (ho : o.op = .call { callee := .builtin .append, args := #[s, x], argTypes := #[22, 22] })
 (hs : a.eval s = val) (hx : a.eval x = .slice (some ⟨W.heap.size, 0, none⟩) 1 1) (HO : RS W base val l) (HB : Below base w0 W) (hbs : base <= W.heap.size) (hl : l.length <= 1000000)
 (h : ∀ v1 w1, RS w1 base v1 (l ++ [v]) -> Below base w0 w1 -> wpList zp5 ops Q rest (a.put o.dst v1) w1) :
 wpList zp5 ops Q (o :: rest) a (W.alloc (.cells #[.string v] 9)) := by
 refine Kd.R_append zqb (w0 := w0) base hgd s x 22 9 (.string ⟨#[]⟩) 16 ho Tryz.underlying22 zbi rfl (by decide) (by decide) val l v [.string v] (fun _ => True) (fun k_ => True /\ some k_ ≠ val.ownBlock) hs hx rfl (fun _ hk => hk) (fun _ _ => trivial) HO HB hbs (by omega) ?_
 intro v1 w1 ho1 hb1 _ _; exact h v1 w1 ho1 hb1
end
theorem zmr (l : List ByteArray) (s : ByteArray) : zaN l s = match zc5 (zab l) s.data.toList with | some k => (k : Int) | none => -1 := by
 unfold zaN zcx zc5 zab; induction l with
 | nil => rfl
 | cons y r ih =>
  rw [List.map_cons, List.findIdx?_cons]; have hyy : (y.data.toList == s.data.toList) = (y.toList == s.toList) := by rw [zbh, zbh]
  rw [hyy]; cases hy : (y.toList == s.toList) with
  | true =>
   rw [List.takeWhile_cons_of_neg (by simp [hy])]
   rfl
  | false =>
   rw [List.takeWhile_cons_of_pos (by simp [hy]), if_neg (show ¬ (false = true) by decide)]
   simp only [zqh]; generalize (r.takeWhile fun x => !(x.toList == s.toList)).length = k at ih |-
   cases hf : (r.map (·.data.toList)).findIdx? (· == s.data.toList) with
   | none =>
    rw [hf] at ih; dsimp only at ih; by_cases hk : k < r.length
    . rw [if_pos hk] at ih; omega
    . rw [if_neg (by omega)]; rfl
   | some j =>
    rw [hf] at ih; dsimp only at ih; by_cases hk : k < r.length
    . rw [if_pos hk] at ih
      rw [if_pos (by omega)]
      show ((k + 1 : Nat) : Int) = ((j + 1 : Nat) : Int)
      omega
    . rw [if_neg hk] at ih
      have h2 : (-1 : Int) = (j : Int) := ih; cases h2
end X
end Go.Proofs.YtdpgdnpddndeoaaGreatDoor
