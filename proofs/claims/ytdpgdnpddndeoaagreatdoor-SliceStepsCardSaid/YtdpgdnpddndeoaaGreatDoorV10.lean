/-
  What the cards lean on (part V10): contracts of functions, by hand, and plain laws; what is printed by the kit's print for this seat is among them. What is not reached is left out.
-/
import Derived.Test.YtdpgdnpddndeoaaGreatDoorV8
import Derived.Test.YtdpgdnpddndeoaaGreatDoorV9
import Derived.Test.YtdpgdnpddndeoaaGreatDoorV0
set_option maxHeartbeats 16000000
set_option maxRecDepth 100000
set_option linter.unusedSimpArgs false
set_option linter.unusedVariables false
open Go.RowKit.Below renaming refl -> zpw
open Nat renaming le_refl -> zpx, succ_mul -> zpO, zero_le -> zqk
open List renaming getElem?_eq_getElem -> zpA, getD_eq_getElem?_getD -> zpB, length_map -> zqe, take_length -> zqf, map_cons -> zpX, take_succ_eq_append_getElem -> zpZ, mem_cons_self -> zqL, mem_cons_of_mem -> zqM, drop_eq_getElem_cons -> zp1, length_cons -> zqh, mem_cons -> zqE, take_of_length_le -> zqP, any_eq_true -> zqU, take_append_drop -> zq2, getElem_mem -> zqQ, any_eq_false -> zq3, sum_cons -> zq4, find?_eq_none -> zq5
open Int renaming toNat_natCast -> zqN
open Bool renaming false_or -> zqT
open Go.Proofs.Tryz renaming prog -> zp5
open Go.Proofs.YtdpgdnpddndeoaaGreatDoorW.PrintWords.Kd renaming C_below -> zqS, string -> zqb
namespace Go.Proofs.YtdpgdnpddndeoaaGreatDoor
namespace X
open Go.RowKit Go.Maps YtdpgdnpddndeoaaGreatDoorW.PrintWords YtdpgdnpddndeoaaGreatDoorW.PrintMore YtdpgdnpddndeoaaGreatDoorW.PrintLast
theorem zkh (A : Option Addr) (c : Nat) (l : List ByteArray) (t : ByteArray) (w : World) (hr : Kd.C zqb w A l.length l) :
 Calls zp5 64 #[.slice A l.length c, .string t] w fun e w' => e = .returned (.int .i64 (idxF l t)) /\ w = w' := by
 cases l with
 | cons a r => exact ziE A c (a :: r) t w hr (Nat.succ_pos _)
 | nil =>
  have he : idxF [] t = -1 := by unfold idxF; simp
  rw [he]; clear hr he; show Calls zp5 _ #[.slice A 0 c, .string t] w _
  go_enter Tryz.func64, Tryz.ntmps64
  go_wp2_with fail; go_loopg [5, 8] 0 (fun gg _ s8 wr => s8 = .int .i64 0 /\ wr = w)
  case atStart => exact ⟨rfl, rfl⟩
  case round =>
   obtain ⟨rfl, rfl⟩ := hrel; go_wp2_with fail; go_ret
   exact ⟨rfl, rfl⟩
def zbr (ins : List ByteArray) (vs : List SVal) (n : ByteArray) : SVal := if 0 <= idxF ins n /\ idxF ins n < vs.length then vs.getD (idxF ins n).toNat zV else zV
theorem zmW (r : zaj) (B1 : Option Addr) (c1 : Nat) (B2 : Option Addr) (c2 : Nat) (B3 : Option Addr) (c3 : Nat) (B4 : Option Addr) (c4 : Nat) (Ai : Option Addr) (ci : Nat) (ins : List ByteArray) (A : Option Addr) (c : Nat) (vs : List SVal) (w : World) (hG : GOK w)
 (h1 : Kd.C zqb w B1 r.f1.length r.f1) (h2 : Kd.C zqb w B2 r.f2.length r.f2) (h4 : Kd.C k24 w B4 r.f4.length r.f4) (hi : Kd.C zqb w Ai ins.length ins) (hr : Kd.C k34 w A vs.length vs) (hF : FitR r) (hsz : ∀ v ∈ vs, v.f1.size <= 4194304) :
 Calls zp5 36 #[.agg (zal r B1 c1 B2 c2 B3 c3 B4 c4), .slice Ai ins.length ci, .slice A vs.length c] w (zfC (runS (zao r) (r.f1.map (zbr ins vs))) w) := by
 have hlen : vs.length <= 9223372036854775807 := hr.2.1; have hn1 := hF.ins; have hW := (zpw w.heap.size w).alloc (zpx _) (.cells (zal r B1 c1 B2 c2 B3 c3 B4 c4) 45); have HK := zpt (zap w (.cells (zal r B1 c1 B2 c2 B3 c3 B4 c4) 45)); have HB := zpt hW; have H1 := zpt (zqS h1 hW); have H2 := zpt (zqS h2 hW); have H4 := zpt (zqS h4 hW); have HI := zpt (zqS hi hW); have HR := zpt (zqS hr hW); have HG := zpt (hG.below hW); have HS := zpt hsz; have HF := zpt hF; have hOf := fun (W : World) (hW : Below w.heap.size w W) (A5 : Option Addr) (n5 : Nat) (hr5 : Kd.C k34 W A5 (r.f1.map (zbr ins vs)).length (r.f1.map (zbr ins vs))) => zf9 r B1 c1 B2 c2 B3 c3 B4 c4 A5 n5 (r.f1.map (zbr ins vs)) W (hG.below hW) (zqS h1 hW) (zqS h2 hW) (zqS h4 hW) hr5 hF (fun v hv => by
  obtain ⟨n, _, rfl⟩ := List.mem_map.1 hv; unfold zbr; split
  . rename_i hc
    rw [zpB, zpA (show (idxF ins n).toNat < vs.length by omega)]
    exact hsz _ (zqQ _)
  . exact zqk _)
 rw [zqe] at hOf; have HOf := zpt hOf; obtain ⟨T, hT⟩ : ∃ T, T = runS (zao r) (r.f1.map (zbr ins vs)) := ⟨_, rfl⟩; rw [<- hT] at HOf |-; clear hT hW h1 h2 h4 hi hr hG hsz hF hOf; unfold zal at *; go_enter Tryz.func36, Tryz.ntmps36
 go_upto_region 2 with fail; generalize w.alloc (.cells #[.string r.f0, .slice B1 r.f1.length c1, .slice B2 r.f2.length c2, .slice B3 r.f3.length c3, .slice B4 r.f4.length c4] 45) = w1 at HB HK H1 H2 H4 HI HR HG |-; have k1 := bc1 HK.out; go_wp2_with fail; go_loopg [7, 9, 10, 11, 15] r.f1.length (fun gg s7 _ _ _ s15 wr => ∃ kk : Nat, kk <= r.f1.length /\ r.f1.length - kk <= gg /\ s15 = .int .i64 kk /\ Aside0 (RVal wr w1.heap.size s7 ((r.f1.take kk).map (zbr ins vs))) /\ Aside0 (Below w1.heap.size w1 wr))
 case atStart => exact ⟨0, zqk _, by omega, rfl, ⟨Kd.R_nil _ _ _ _ _⟩, ⟨zpw _ _⟩⟩
 case round =>
  obtain ⟨kk, hkk, hgk, rfl, HO, HW⟩ := hrel; obtain ⟨wq, rfl⟩ : ∃ wq, wq = wr := ⟨wr, rfl⟩; by_cases hlt : kk < r.f1.length
  . have hltz : (kk : Int) < (r.f1.length : Int) := by omega
    obtain ⟨b, o, rfl, p0⟩ := za4 (zqS H1.out HW.out) kk hlt; have hb3 := (zpw wq.heap.size wq).alloc (zpx _) (.cells #[.bool false, .string ⟨#[]⟩] 34); have HX3 := zpt (zap wq (.cells #[.bool false, .string ⟨#[]⟩] 34)); have HB3 := zpt hb3; have hix := zkh Ai ci ins r.f1[kk] (wq.alloc (.cells #[.bool false, .string ⟨#[]⟩] 34)) (zqS HI.out (HW.out.alloc HW.out.size _)); have hsu : (r.f1.take (kk + 1)).map (zbr ins vs) = (r.f1.take kk).map (zbr ins vs) ++ [zbr ins vs r.f1[kk]] := by rw [zpZ hlt, List.map_append]; rfl
    have hml : ((r.f1.take kk).map (zbr ins vs)).length = kk := by rw [zqe, List.length_take]; omega
    have HML := zpt hml; have hpv : zbr ins vs r.f1[kk] = if 0 <= idxF ins r.f1[kk] /\ idxF ins r.f1[kk] < vs.length then vs.getD (idxF ins r.f1[kk]).toNat zV else zV := rfl
    have HSu := zpt hsu; have HPv := zpt hpv; generalize zbr ins vs r.f1[kk] = v at HSu HPv; generalize idxF ins r.f1[kk] = i at hix HPv; generalize r.f1[kk] = n at p0 hix; clear hb3 hsu hml hpv; go_upto_region 6 with fail; generalize wq.alloc (.cells #[.bool false, .string ⟨#[]⟩] 34) = w3 at HX3 HB3 hix |-; have HBl := zpt (zac HW.out HW.out.size HB3.out); by_cases hi : 0 <= i /\ i < vs.length
    . have hP := HPv.out
      rw [if_pos hi] at hP; obtain ⟨hi1, hi2⟩ := hi; obtain ⟨m, rfl⟩ := Int.eq_ofNat_of_zero_le hi1; have hm : m < vs.length := by omega
      obtain ⟨bv, ov, rfl, v0, v1⟩ := zdn (zqS HR.out HBl.out) m hm; have hP2 : v = vs[m] := by rw [hP, zqN, zpB, zpA hm]; rfl
      rw [<- hP2] at v0 v1; have HPv2 : Hid (v = ⟨v.f0, v.f1⟩) := zpt rfl; have y0 := bc0 HX3.out; have y1 := bc1 HX3.out; have hfr0 := zak HX3.out 0; have hfr1 := zak HX3.out 1; clear hP hP2 HPv; go_upto_region 9 with (first | (go_at_call 64; refine hix.mono ?_; rintro e w4 ⟨rfl, rfl⟩))
      have HX5 : Hid (((w3.setCell ⟨wq.heap.size, 0, none⟩ (.bool v.f0)).setCell ⟨wq.heap.size, 1, none⟩ (.string v.f1)).heap[wq.heap.size]? = some (.cells #[.bool v.f0, .string v.f1] 34 (0, 0))) := zpt (zav (zav HX3.out 0 _ rfl) 1 _ rfl); have HBx := zpt ((HB3.out.setCell (p := ⟨wq.heap.size, 0, none⟩) (zpx _) (.bool v.f0)).setCell (p := ⟨wq.heap.size, 1, none⟩) (zpx _) (.string v.f1)); generalize (w3.setCell ⟨wq.heap.size, 0, none⟩ (.bool v.f0)).setCell ⟨wq.heap.size, 1, none⟩ (.string v.f1) = w5 at HX5 HBx |-; clear y0 y1 hfr0 hfr1 v0 v1; have z0 := bc0 HX5.out; have z1 := bc1 HX5.out; have HO5 := zpt (Kd.R_below HO.out HBx.out); have HB5 := zpt (zac HW.out HW.out.size HBx.out); have HWs := zpt HB5.out.size; go_wp2_with (first | ((with_reducible refine zaG (b := .append) (xs := #[.tmp 35, .tmp 37]) rfl ?_); at_builtin; refine Kd.R_append k34 (w0 := w1) w1.heap.size rfl (.tmp 35) (.tmp 37) 25 34 (.agg #[.bool false, .string ⟨#[]⟩]) 24 rfl Tryz.underlying25 zc4 rfl (by decide) (by decide) u7 ((r.f1.take kk).map (zbr ins vs)) ⟨v.f0, v.f1⟩ [.bool v.f0, .string v.f1] (fun _ => True) (fun k_ => True /\ some k_ ≠ u7.ownBlock) rfl rfl (zcY _ _ _ ⟨v.f0, v.f1⟩) (fun _ hk => hk) (fun _ _ => trivial) HO5.out HB5.out HWs.out ?aL ?_; (case aL => (have h1 := HML.out; omega)); intro v1 w6 ho hb hg hat; have HO6 : Hid (RVal w6 w1.heap.size v1 ((r.f1.take (kk + 1)).map (zbr ins vs))) := (by show RVal _ _ _ _; rw [HSu.out]; exact ho); have HB6 := zpt hb; clear ho hb hg hat))
      go_roundg (r.f1.length - (kk + 1))
      case measure => omega
      case rel => exact ⟨kk + 1, by omega, by omega, by first | rfl | go_num, ⟨HO6.out⟩, ⟨HB6.out⟩⟩
    . have hP := HPv.out
      rw [if_neg hi] at hP; have HPv2 : Hid (v = ⟨false, ⟨#[]⟩⟩) := zpt hP; clear hP HPv; by_cases hi1 : 0 <= i
      . have hi2 : ¬ i < (vs.length : Int) := fun h => hi ⟨hi1, h⟩
        clear hi; go_upto_region 9 with (first | (go_at_call 64; refine hix.mono ?_; rintro e w4 ⟨rfl, rfl⟩))
        have z0 := bc0 HX3.out; have z1 := bc1 HX3.out; have HO5 := zpt (Kd.R_below HO.out HB3.out); have HB5 := zpt (zac HW.out HW.out.size HB3.out); have HWs := zpt HB5.out.size; go_wp2_with (first | ((with_reducible refine zaG (b := .append) (xs := #[.tmp 35, .tmp 37]) rfl ?_); at_builtin; refine Kd.R_append k34 (w0 := w1) w1.heap.size rfl (.tmp 35) (.tmp 37) 25 34 (.agg #[.bool false, .string ⟨#[]⟩]) 24 rfl Tryz.underlying25 zc4 rfl (by decide) (by decide) u7 ((r.f1.take kk).map (zbr ins vs)) ⟨false, ⟨#[]⟩⟩ [.bool false, .string ⟨#[]⟩] (fun _ => True) (fun k_ => True /\ some k_ ≠ u7.ownBlock) rfl rfl (zcY _ _ _ ⟨false, ⟨#[]⟩⟩) (fun _ hk => hk) (fun _ _ => trivial) HO5.out HB5.out HWs.out ?aL ?_; (case aL => (have h1 := HML.out; omega)); intro v1 w6 ho hb hg hat; have HO6 : Hid (RVal w6 w1.heap.size v1 ((r.f1.take (kk + 1)).map (zbr ins vs))) := (by show RVal _ _ _ _; rw [HSu.out, HPv2.out]; exact ho); have HB6 := zpt hb; clear ho hb hg hat))
        go_roundg (r.f1.length - (kk + 1))
        case measure => omega
        case rel => exact ⟨kk + 1, by omega, by omega, by first | rfl | go_num, ⟨HO6.out⟩, ⟨HB6.out⟩⟩
      . clear hi
        go_upto_region 9 with (first | (go_at_call 64; refine hix.mono ?_; rintro e w4 ⟨rfl, rfl⟩))
        have z0 := bc0 HX3.out; have z1 := bc1 HX3.out; have HO5 := zpt (Kd.R_below HO.out HB3.out); have HB5 := zpt (zac HW.out HW.out.size HB3.out); have HWs := zpt HB5.out.size; go_wp2_with (first | ((with_reducible refine zaG (b := .append) (xs := #[.tmp 35, .tmp 37]) rfl ?_); at_builtin; refine Kd.R_append k34 (w0 := w1) w1.heap.size rfl (.tmp 35) (.tmp 37) 25 34 (.agg #[.bool false, .string ⟨#[]⟩]) 24 rfl Tryz.underlying25 zc4 rfl (by decide) (by decide) u7 ((r.f1.take kk).map (zbr ins vs)) ⟨false, ⟨#[]⟩⟩ [.bool false, .string ⟨#[]⟩] (fun _ => True) (fun k_ => True /\ some k_ ≠ u7.ownBlock) rfl rfl (zcY _ _ _ ⟨false, ⟨#[]⟩⟩) (fun _ hk => hk) (fun _ _ => trivial) HO5.out HB5.out HWs.out ?aL ?_; (case aL => (have h1 := HML.out; omega)); intro v1 w6 ho hb hg hat; have HO6 : Hid (RVal w6 w1.heap.size v1 ((r.f1.take (kk + 1)).map (zbr ins vs))) := (by show RVal _ _ _ _; rw [HSu.out, HPv2.out]; exact ho); have HB6 := zpt hb; clear ho hb hg hat))
        go_roundg (r.f1.length - (kk + 1))
        case measure => omega
        case rel => exact ⟨kk + 1, by omega, by omega, by first | rfl | go_num, ⟨HO6.out⟩, ⟨HB6.out⟩⟩
  . have hltz : ¬ (kk : Int) < (r.f1.length : Int) := by omega
    obtain rfl : kk = r.f1.length := by omega
    have hO := HO.out; rw [zqf] at hO; obtain ⟨A5, n5, rfl, _, hC5⟩ := Kd.R_reads hO; rw [zqe] at hC5 |-; have hB := HB.out.trans (HW.out.mono HB.out.size); have hX := zai HK.out HW.out; have hcall := HOf.out wq hB A5 n5 hC5; have HBa := zpt hB; have x0 := bc0 hX; have x1 := bc1 hX; have x2 := bc2 hX; have x3 := bc3 hX; have x4 := bc4 hX; clear hO hC5 hB hX; go_wp2_with (first | (go_at_call 34; refine hcall.mono ?_; rintro e w7 ⟨v7, rfl, hR7, hb7⟩; have HR7 := zpt (Kd.R_lower hR7 HBa.out.size); have HB7 := zpt (zac HBa.out HBa.out.size hb7); clear hR7 hb7))
    go_ret
    exact ⟨_, rfl, HR7.out, HB7.out⟩
theorem zc0 {w : World} {A : Option Addr} {l : List zaj} (h : Kd.C k45 w A l.length l) (i : Nat) (hi : i < l.length) :
 ∃ b o B1 c1 B2 c2 B3 c3 B4 c4, A = some ⟨b, o, none⟩ /\ w.cell? ⟨b, o + i * 5, none⟩ = some (.string l[i].f0) /\ w.cell? ⟨b, o + i * 5 + 1, none⟩ = some (.slice B1 l[i].f1.length c1) /\ w.cell? ⟨b, o + i * 5 + 2, none⟩ = some (.slice B2 l[i].f2.length c2) /\
  w.cell? ⟨b, o + i * 5 + 3, none⟩ = some (.slice B3 l[i].f3.length c3) /\ w.cell? ⟨b, o + i * 5 + 4, none⟩ = some (.slice B4 l[i].f4.length c4) /\ RuleAt l[i] B1 B2 B3 B4 w /\ CapR l[i] c1 c2 c3 c4 := by
 obtain ⟨ad, B1, c1, B2, c2, B3, c3, B4, c4, rfl, p0, p1, p2, p3, p4, q1, g1, q2, g2, q3, g3, q4, g4⟩ := zie h (i : Int) (by omega) (by omega)
 have hx : zbw l (i : Int) = l[i] := by
  unfold zbw; rw [zqN, zpB, zpA hi]; rfl
 rw [hx, zqN] at p0 p1 p2 p3 p4; rw [hx] at q1 g1 q2 g2 q3 g3 q4 g4; obtain ⟨ad0, _, _, _, _, _, _, _, _, had0, z0, _⟩ := zie h 0 (by omega) (by omega)
 cases had0
 obtain ⟨b, o, rfl⟩ := zdZ z0; have e : ((⟨b, o, none⟩ : Addr).add (i * 5)) = ⟨b, o + i * 5, none⟩ := by
  unfold Addr.add; split
  . rename_i h0; simp [h0]
  . rfl
 rw [e] at p0 p1 p2 p3 p4; exact ⟨b, o, B1, c1, B2, c2, B3, c3, B4, c4, rfl, p0, p1, p2, p3, p4, ⟨g1, g2, g3, g4⟩, ⟨q1, q2, q3, q4⟩⟩
theorem zol (g : Nat) (lb : Array Value) (eg : ∀ args w, (callFunc g args).run zp5 w = .ok (.enter g args) w) (p : ByteArray -> Bool) (A : Option Addr) (c : Nat) (l : List ByteArray) (w : World)
 (hr : Kd.C zqb w A l.length l) (hp : ∀ (W : World), Below w.heap.size w W -> ∀ x ∈ l, Calls zp5 g (#[.string x] ++ lb) W fun e w' => e = .returned (.bool (p x)) /\ Below W.heap.size W w') :
 Calls zp5 76 #[.slice A l.length c, .func (.func g) #[] lb] w fun e w' => ∃ i : Int, e = .returned (.int .i64 i) /\ decide (0 <= i) = l.any p /\ Below w.heap.size w w' := by
 have hlen : l.length <= 9223372036854775807 := hr.2.1; have HP := zpt hp; have HR := zpt hr; clear hp hr; go_enter Tryz.func76, Tryz.ntmps76
 go_wp2_with fail; go_loopg [5, 8] l.length (fun gg _ s8 wr => ∃ kk : Nat, kk <= l.length /\ l.length - kk <= gg /\ s8 = .int .i64 kk /\ Aside0 (Below w.heap.size w wr) /\ Aside0 ((l.take kk).any p = false))
 case atStart => exact ⟨0, zqk _, by omega, rfl, ⟨zpw _ _⟩, ⟨rfl⟩⟩
 case round =>
  obtain ⟨kk, hkk, hgk, rfl, HB, HA⟩ := hrel; by_cases hlt : kk < l.length
  . have hltz : (kk : Int) < (l.length : Int) := by omega
    obtain ⟨b, o, rfl, p0⟩ := za4 (zqS HR.out HB.out) kk hlt; have hS : (l.take (kk + 1)).any p = ((l.take kk).any p || p l[kk]) := by rw [zpZ hlt, List.any_append]; simp
    rw [HA.out, zqT] at hS; have hmem : p l[kk] = true -> l.any p = true := fun h => zqU.2 ⟨_, zqQ hlt, h⟩
    have hcall := HP.out wr HB.out l[kk] (zqQ hlt); have HS := zpt hS; have HM := zpt hmem; generalize p l[kk] = q at hcall HS HM; generalize l[kk] = x at p0 hcall; clear hS hmem; cases q with
    | true =>
     go_wp2_with (first | (go_at_fn g; refine hcall.mono ?_; rintro e w2 ⟨rfl, hb2⟩; have HB2 := zpt (zac HB.out HB.out.size hb2); clear hb2))
     go_ret
     exact ⟨kk, rfl, by rw [HM.out trivial]; simp, HB2.out⟩
    | false =>
     go_wp2_with (first | (go_at_fn g; refine hcall.mono ?_; rintro e w2 ⟨rfl, hb2⟩; have HB2 := zpt (zac HB.out HB.out.size hb2); clear hb2))
     go_roundg (l.length - (kk + 1))
     case measure => omega
     case rel => exact ⟨kk + 1, by omega, by omega, by first | rfl | go_num, ⟨HB2.out⟩, ⟨HS.out⟩⟩
  . have hltz : ¬ (kk : Int) < (l.length : Int) := by omega
    obtain rfl : kk = l.length := by omega
    have hA := HA.out; rw [zqf] at hA; have HA2 := zpt hA; clear hA; go_wp2_with fail; go_ret
    exact ⟨-1, rfl, by rw [HA2.out]; rfl, HB.out⟩
theorem zhT (g : Nat) (lb : Array Value) (eg : ∀ args w, (callFunc g args).run zp5 w = .ok (.enter g args) w) (p : ByteArray -> Bool) (A : Option Addr) (c : Nat) (l : List ByteArray) (w : World)
 (hr : Kd.C zqb w A l.length l) (hp : ∀ (W : World), Below w.heap.size w W -> ∀ x ∈ l, Calls zp5 g (#[.string x] ++ lb) W fun e w' => e = .returned (.bool (p x)) /\ Below W.heap.size W w') :
 Calls zp5 56 #[.slice A l.length c, .func (.func g) #[] lb] w fun e w' => e = .returned (.bool (l.any p)) /\ Below w.heap.size w w' := by
 have hI := zol g lb eg p A c l w hr hp; clear hr hp; generalize l.any p = q at *; go_enter Tryz.func56, Tryz.ntmps56
 go_wp2_with (go_at_call 76; refine hI.mono ?_; rintro e w2 ⟨i, rfl, hq, hb2⟩)
 go_ret
 exact ⟨by rw [<- hq]; rfl, hb2⟩
structure PSt (w : World) (K7 K8 m1 m2 n1 n2 : Nat) (s1 s2 : zaa -> Bool) : Prop where
 c7 : w.heap[K7]? = some (.cells #[.map (some m1)] 119 (0, 0))
 c8 : w.heap[K8]? = some (.cells #[.map (some m2)] 119 (0, 0))
 e1 : SetIs w m1 n1 s1
 e2 : SetIs w m2 n2 s2
 ne : m1 ≠ m2
theorem PSt.below {w w' : World} {K7 K8 m1 m2 n1 n2 : Nat} {s1 s2 : zaa -> Bool} (h : PSt w K7 K8 m1 m2 n1 n2 s1 s2) (hb : Below w.heap.size w w') : PSt w' K7 K8 m1 m2 n1 n2 s1 s2 := ⟨zai h.c7 hb, zai h.c8 hb, h.e1.below hb, h.e2.below hb, h.ne⟩
theorem PSt.put1 {w : World} {K7 K8 m1 m2 n1 n2 : Nat} {s1 s2 : zaa -> Bool} (h : PSt w K7 K8 m1 m2 n1 n2 s1 s2) (hn : n1 < maxLen) (k : ByteArray) (hs : k.size <= maxLen) :
 ∃ w', (Instr.mapUpdate 119 (.map (some m1)) (.string k) (.bool true)).run zp5 w = .ok () w' /\ PSt w' K7 K8 m1 m2 (n1 + 1) n2 (addS s1 k.data.toList) s2 /\ w.grownBy w' (some m1) := by
 obtain ⟨w', hrun, he, hg⟩ := h.e1.put hn k hs; exact ⟨w', hrun, ⟨zaY h.c7 hg (by intro e; injection e with e; exact h.e1.ne_cells h.c7 e.symm), zaY h.c8 hg (by intro e; injection e with e; exact h.e1.ne_cells h.c8 e.symm), he, h.e2.grown hg (by intro e; injection e with e; exact h.ne e.symm), h.ne⟩, hg⟩
theorem PSt.put2 {w : World} {K7 K8 m1 m2 n1 n2 : Nat} {s1 s2 : zaa -> Bool} (h : PSt w K7 K8 m1 m2 n1 n2 s1 s2) (hn : n2 < maxLen) (k : ByteArray) (hs : k.size <= maxLen) :
 ∃ w', (Instr.mapUpdate 119 (.map (some m2)) (.string k) (.bool true)).run zp5 w = .ok () w' /\ PSt w' K7 K8 m1 m2 n1 (n2 + 1) s1 (addS s2 k.data.toList) /\ w.grownBy w' (some m2) := by
 obtain ⟨w', hrun, he, hg⟩ := h.e2.put hn k hs; exact ⟨w', hrun, ⟨zaY h.c7 hg (by intro e; injection e with e; exact h.e2.ne_cells h.c7 e.symm), zaY h.c8 hg (by intro e; injection e with e; exact h.e2.ne_cells h.c8 e.symm), h.e1.grown hg (by intro e; injection e with e; exact h.ne e), he, h.ne⟩, hg⟩
theorem zmj : ∀ args w, (callFunc 103 args).run zp5 w = .ok (.enter 103 args) w := Go.Proofs.enters_of Tryz.func103 (by kernel_rfl) rfl
theorem zlt : ∀ args w, (callFunc 104 args).run zp5 w = .ok (.enter 104 args) w := Go.Proofs.enters_of Tryz.func104 (by kernel_rfl) rfl
theorem zj0 (K m n : Nat) (s : zaa -> Bool) (x : ByteArray) (w : World) (hk : w.cell? ⟨K, 0, none⟩ = some (.map (some m))) (he : SetIs w m n s) (hx : x.size <= maxLen) :
 Calls zp5 103 #[.string x, .pointer (some ⟨K, 0, none⟩)] w fun e w' => e = .returned (.bool (s x.data.toList)) /\ w = w' := by
 have hl := he.look x hx; generalize s x.data.toList = q at hl |-; clear he; go_enter Tryz.func103, Tryz.ntmps103
 go_wp2_with fail; go_ret
 exact ⟨rfl, rfl⟩
theorem zni (K m n : Nat) (s : zaa -> Bool) (x : ByteArray) (w : World) (hk : w.cell? ⟨K, 0, none⟩ = some (.map (some m))) (he : SetIs w m n s) (hx : x.size <= maxLen) :
 Calls zp5 104 #[.string x, .pointer (some ⟨K, 0, none⟩)] w fun e w' => e = .returned (.bool (!s x.data.toList)) /\ w = w' := by
 have hl := he.look x hx; generalize s x.data.toList = q at hl |-; clear he; go_enter Tryz.func104, Tryz.ntmps104
 go_wp2_with fail; go_ret
 exact ⟨rfl, rfl⟩
theorem zot (K m n : Nat) (s : zaa -> Bool) (B : Option Addr) (d : Nat) (l : List ByteArray) (w : World) (hk : w.cell? ⟨K, 0, none⟩ = some (.map (some m))) (he : SetIs w m n s) (hx : Kd.C zqb w B l.length l) (hs : ∀ x ∈ l, x.size <= maxLen) :
 Calls zp5 56 #[.slice B l.length d, .func (.func 103) #[] #[.pointer (some ⟨K, 0, none⟩)]] w fun e w' => e = .returned (.bool ((zab l).any s)) /\ Below w.heap.size w w' := by
 have h := zhT 103 #[.pointer (some ⟨K, 0, none⟩)] zmj (fun x => s x.data.toList) B d l w hx (fun W hW x hxm => (zj0 K m n s x W (zad hW hk) (he.below hW) (hs x hxm)).mono fun e w' ⟨he, hw⟩ => ⟨he, by rw [<- hw]; exact zpw _ _⟩)
 have e : l.any (fun x => s x.data.toList) = (zab l).any s := by
  unfold zab; rw [List.any_map]; rfl
 rw [e] at h; exact h
theorem zkd (K m n : Nat) (s : zaa -> Bool) (B : Option Addr) (d : Nat) (l : List ByteArray) (w : World) (hk : w.cell? ⟨K, 0, none⟩ = some (.map (some m))) (he : SetIs w m n s) (hx : Kd.C zqb w B l.length l) (hs : ∀ x ∈ l, x.size <= maxLen) :
 Calls zp5 56 #[.slice B l.length d, .func (.func 104) #[] #[.pointer (some ⟨K, 0, none⟩)]] w fun e w' => e = .returned (.bool ((zab l).any fun a => !s a)) /\ Below w.heap.size w w' := by
 have h := zhT 104 #[.pointer (some ⟨K, 0, none⟩)] zlt (fun x => !s x.data.toList) B d l w hx (fun W hW x hxm => (zni K m n s x W (zad hW hk) (he.below hW) (hs x hxm)).mono fun e w' ⟨he, hw⟩ => ⟨he, by rw [<- hw]; exact zpw _ _⟩)
 have e : l.any (fun x => !s x.data.toList) = (zab l).any fun a => !s a := by
  unfold zab; rw [List.any_map]; rfl
 rw [e] at h; exact h
structure zcj (rs : List zaj) : Prop where
 len : rs.length <= 1000
 fit : ∀ r ∈ rs, FitR r /\ r.f3.length <= 1000 /\ r.f0.size <= maxLen /\ ∀ x ∈ r.f3, x.size <= maxLen
def zbv (l : List zaa) : zaa -> Bool := addL (fun _ => false) l
theorem zja (l : List zaa) (x : zaa) : zbv l x = l.contains x := by unfold zbv addL; rw [zqT]
theorem ziK (l : List zaa) : zbv l = fun x => l.contains x := funext (zja l)
def dupS : List zaj -> List zaa -> List zaa -> Option zaj
 | [], _, _ => none
 | r :: rs, N, O => if N.contains r.f0.data.toList || (zab r.f2).any (fun o => O.contains o) then some r else dupS rs (N ++ [r.f0.data.toList]) (O ++ zab r.f2)
def whoV (e : Int) (o : Option zaj) (d : Int × ByteArray) : Int × ByteArray := match o with
 | some r => (e, r.f0)
 | none => d
def zdc (rs : List zaj) : Option zaj := rs.find? (fun r => (zab r.f3).any fun a => !(rs.map fun q => q.f0.data.toList).contains a)
def zbE (rs : List zaj) : Int × ByteArray := match rs.find? (fun r => zbn r != 0) with
 | some r => (zbn r, r.f0)
 | none => if 40 < rs.length then (4, ⟨#[]⟩) else whoV 2 (dupS rs [] []) (whoV 2 (zdc rs) (0, ⟨#[]⟩))
def zdY (p : Int × ByteArray) (w : World) (e : Ending) (w' : World) : Prop := e = .returned (.tuple #[.int .i64 p.1, .string p.2]) /\ Below w.heap.size w w'
theorem zgb {α : Type} (p : α -> Bool) (l : List α) (k : Nat) (h : k < l.length) (hn : (l.take k).any p = false) (hp : p l[k] = true) : l.find? p = some l[k] := by
 have e : l = l.take k ++ l[k] :: l.drop (k + 1) := by rw [<- zp1 h, zq2]
 have h1 : (l.take k).find? p = none := by
  rw [zq5]; intro x hx hpx; have := zq3.1 hn x hx; exact this hpx
 conv => lhs; rw [e]
 rw [List.find?_append, h1, List.find?_cons_of_pos hp]; rfl
theorem zfh {α : Type} (p : α -> Bool) (l : List α) (hn : l.any p = false) : l.find? p = none := by
 rw [zq5]; intro x hx hpx; exact zq3.1 hn x hx hpx
theorem ze8 {α : Type} (p : α -> Bool) (l : List α) (k : Nat) (h : k < l.length) : (l.take (k + 1)).any p = ((l.take k).any p || p l[k]) := by
 rw [zpZ h, List.any_append]; simp
theorem znn (rs : List zaj) (N O : List zaa) (k : Nat) (h : k < rs.length) : dupS (rs.drop k) N O = if N.contains rs[k].f0.data.toList || (zab rs[k].f2).any (fun o => O.contains o) then some rs[k] else dupS (rs.drop (k + 1)) (N ++ [rs[k].f0.data.toList]) (O ++ zab rs[k].f2) := by
 rw [zp1 h]; rfl
def nmK (rs : List zaj) (k : Nat) : List zaa := (rs.take k).map fun q => q.f0.data.toList
def otK (rs : List zaj) (k : Nat) : List zaa := (rs.take k).flatMap fun q => zab q.f2
theorem zns (rs : List zaj) (k : Nat) (h : k < rs.length) : nmK rs (k + 1) = nmK rs k ++ [rs[k].f0.data.toList] := by unfold nmK; rw [zpZ h, List.map_append]; rfl
theorem zoh (rs : List zaj) (k : Nat) (h : k < rs.length) : otK rs (k + 1) = otK rs k ++ zab rs[k].f2 := by unfold otK; rw [zpZ h, List.flatMap_append]; simp
theorem zkx (w : World) : PSt ((((w.alloc (.map #[] 0)).alloc (.map #[] 0)).alloc (.cells #[.map (some w.heap.size)] 119)).alloc (.cells #[.map (some (w.heap.size + 1))] 119)) (w.heap.size + 1 + 1) (w.heap.size + 1 + 1 + 1) w.heap.size (w.heap.size + 1) 0 0 (zbv []) (zbv []) := by
 have e0 : zbv [] = fun _ => false := zff _
 have b1 : ∀ (W : World) (ob : Obj), Below W.heap.size W (W.alloc ob) := fun W ob => (zpw W.heap.size W).alloc (zpx _) ob
 have s1 : (w.alloc (.map #[] 0)).heap.size = w.heap.size + 1 := by simp
 have s2 : ((w.alloc (.map #[] 0)).alloc (.map #[] 0)).heap.size = w.heap.size + 1 + 1 := by simp
 have s3 : (((w.alloc (.map #[] 0)).alloc (.map #[] 0)).alloc (.cells #[.map (some w.heap.size)] 119)).heap.size = w.heap.size + 1 + 1 + 1 := by simp
 have m1 := SetIs.made w; have m2 := SetIs.made (w.alloc (.map #[] 0)); have k7 := zap ((w.alloc (.map #[] 0)).alloc (.map #[] 0)) (.cells #[.map (some w.heap.size)] 119); have k8 := zap (((w.alloc (.map #[] 0)).alloc (.map #[] 0)).alloc (.cells #[.map (some w.heap.size)] 119)) (.cells #[.map (some (w.heap.size + 1))] 119); rw [s1] at m2; rw [s2] at k7; rw [s3] at k8; rw [e0]; exact ⟨zai k7 (b1 _ _), k8, ((m1.below (b1 _ _)).below (b1 _ _)).below (b1 _ _), (m2.below (b1 _ _)).below (b1 _ _), by omega⟩
theorem zg4 (A : Option Addr) (c : Nat) (rs : List zaj) (w : World) (hG : GOK w) (hr : Kd.C k45 w A rs.length rs) (hF : zcj rs) :
 Calls zp5 72 #[.slice A rs.length c] w (zdY (zbE rs) w) := by
 have hn := hF.len; have HR := zpt hr; have HG := zpt hG; have HF := zpt hF.fit; obtain ⟨T, hT⟩ : ∃ T, T = zbE rs := ⟨_, rfl⟩; rw [<- hT]; have HT := zpt hT; clear hr hG hF hT; have hmm := @run_makeMap zp5; go_enter Tryz.func72, Tryz.ntmps72
 go_wp2_with fail; go_loopg [5, 6, 18] rs.length (fun gg _ _ s18 wr => ∃ kk : Nat, kk <= rs.length /\ rs.length - kk <= gg /\ s18 = .int .i64 kk /\ Aside0 ((rs.take kk).any (fun r => zbn r != 0) = false) /\ Aside0 (Below w.heap.size w wr))
 case atStart => exact ⟨0, zqk _, by omega, rfl, ⟨rfl⟩, ⟨zpw _ _⟩⟩
 case round =>
  obtain ⟨kk, hkk, hgk, rfl, HN, HW⟩ := hrel; obtain ⟨wq, rfl⟩ : ∃ wq, wq = wr := ⟨wr, rfl⟩; by_cases hlt : kk < rs.length
  . have hltz : (kk : Int) < (rs.length : Int) := by omega
    obtain ⟨b, o, B1, c1, B2, c2, B3, c3, B4, c4, rfl, p0, p1, p2, p3, p4, hA, hC⟩ := zc0 HR.out kk hlt; replace p0 := zad HW.out p0
    replace p1 := zad HW.out p1
    replace p2 := zad HW.out p2
    replace p3 := zad HW.out p3
    replace p4 := zad HW.out p4
    obtain ⟨hf, _, hf0, _⟩ := HF.out _ (zqQ hlt); have hst := ze8 (fun r => zbn r != 0) rs kk hlt
    rw [HN.out, zqT] at hst; have hfd := zgb (fun r => zbn r != 0) rs kk hlt HN.out
    have HSt := zpt hst; have HFd := zpt hfd; generalize rs[kk] = x at p0 p1 p2 p3 p4 hA hC hf HSt HFd; have hb3 := (zpw wq.heap.size wq).alloc (zpx _) (.cells (zal x B1 c1 B2 c2 B3 c3 B4 c4) 45); have HX3 := zpt (zap wq (.cells (zal x B1 c1 B2 c2 B3 c3 B4 c4) 45)); have HB3 := zpt (zac HW.out HW.out.size hb3); have HRu := zpt (zi4 x B1 c1 B2 c2 B3 c3 B4 c4 _ ((HG.out.below HW.out).below hb3) ((hA.below HW.out).below hb3) hC hf.steps hf.ins); clear hst hfd hA hC hf hf0 hb3; unfold zal at HX3 HB3 HRu; go_upto_region 4 with fail; generalize wq.alloc (.cells #[.string x.f0, .slice B1 x.f1.length c1, .slice B2 x.f2.length c2, .slice B3 x.f3.length c3, .slice B4 x.f4.length c4] 45) = w3 at HX3 HB3 HRu |-; have x0 := bc0 HX3.out; have x1 := bc1 HX3.out; have x2 := bc2 HX3.out; have x3 := bc3 HX3.out; have x4 := bc4 HX3.out; obtain ⟨v, hv⟩ : ∃ v, v = zbn x := ⟨_, rfl⟩; rw [<- hv] at HRu HSt HFd; have HVx := zpt hv; clear hv; by_cases h0 : v = 0
    . have d0 : (v == 0) = true := by simp [h0]
      have d1 : (v != 0) = false := by simp [h0]
      have HN2 : Hid ((rs.take (kk + 1)).any (fun r => zbn r != 0) = false) := by show _ = _; rw [HSt.out, d1]
      clear h0; go_wp2_with (first | (go_at_call 46; refine HRu.out.mono ?_; rintro e w4 ⟨rfl, hb4⟩; have HB4 := zpt (zac HB3.out HB3.out.size hb4); clear hb4))
      go_roundg (rs.length - (kk + 1))
      case measure => omega
      case rel => exact ⟨kk + 1, by omega, by omega, by first | rfl | go_num, ⟨HN2.out⟩, ⟨HB4.out⟩⟩
    . have d0 : (v == 0) = false := by simp [h0]
      have d1 : (v != 0) = true := by simp [h0]
      have HV : Hid (T = (v, x.f0)) := by
       show _ = _
       rw [HT.out]; unfold zbE; rw [HFd.out d1, HVx.out]
      clear h0; go_wp2_with (first | (go_at_call 46; refine HRu.out.mono ?_; rintro e w4 ⟨rfl, hb4⟩; have HB4 := zpt (zac HB3.out HB3.out.size hb4); have y0 := zad hb4 x0; clear hb4))
      go_quiet (fail)
      go_wp2_with fail; go_ret2
      exact ⟨by rw [HV.out]; rfl, by first | exact HB4.out | exact zaq HB4.out _⟩
  . have hltz : ¬ (kk : Int) < (rs.length : Int) := by omega
    obtain rfl : kk = rs.length := by omega
    have hN := HN.out; rw [zqf] at hN; have hT := HT.out; unfold zbE at hT; rw [zfh _ _ hN] at hT; have HT2 : Hid (T = if 40 < rs.length then (4, ⟨#[]⟩) else whoV 2 (dupS rs [] []) (whoV 2 (zdc rs) (0, ⟨#[]⟩))) := zpt hT
    clear hN hT HT HN; by_cases h40 : 40 < rs.length
    . have d0 : decide ((40 : Int) < (rs.length : Int)) = true := by simp; omega
      have d1 : (40 : Int) < (rs.length : Int) := by omega
      have HV : Hid (T = (4, ⟨#[]⟩)) := by show _ = _; rw [HT2.out, if_pos h40]
      clear h40; go_wp2_with fail; go_ret2
      exact ⟨by rw [HV.out]; rfl, HW.out⟩
    . have d0 : decide ((40 : Int) < (rs.length : Int)) = false := by simp; omega
      have d1 : ¬ (40 : Int) < (rs.length : Int) := by omega
      have hT := HT2.out; rw [if_neg h40] at hT; clear h40; go_upto_region 11 with fail; have hPS := zkx wq; have hB2 := (((HW.out.alloc HW.out.size (.map #[] 0)).alloc (by have := HW.out.size; simp; omega) (.map #[] 0)).alloc (by have := HW.out.size; simp; omega) (.cells #[.map (some wq.heap.size)] 119)).alloc (by have := HW.out.size; simp; omega) (.cells #[.map (some (wq.heap.size + 1))] 119)
      have HPS := zpt hPS; have HB2 := zpt hB2; have HM1 : Hid (w.heap.size <= wq.heap.size) := zpt HW.out.size; have HM2 : Hid (w.heap.size <= wq.heap.size + 1) := zpt (Nat.le_succ_of_le HW.out.size); clear hPS hB2; generalize (((wq.alloc (.map #[] 0)).alloc (.map #[] 0)).alloc (.cells #[.map (some wq.heap.size)] 119)).alloc (.cells #[.map (some (wq.heap.size + 1))] 119) = w2 at HPS HB2 |-; generalize wq.heap.size + 1 + 1 + 1 = K8 at HPS |-; generalize wq.heap.size + 1 + 1 = K7 at HPS |-; generalize wq.heap.size + 1 = m2 at HPS HM2 |-; generalize wq.heap.size = m1 at HPS HM1 |-; obtain ⟨D, hD⟩ : ∃ D, D = dupS rs [] [] := ⟨_, rfl⟩; rw [<- hD] at hT; have HT3 := zpt hT; have HD := zpt hD; clear hT hD HT2 HW; go_wp2_with fail; go_loopg [10, 11, 13, 37] rs.length (fun gg _ _ _ s37 wr => ∃ kk : Nat, kk <= rs.length /\ rs.length - kk <= gg /\ s37 = .int .i64 kk /\ Aside0 (PSt wr K7 K8 m1 m2 kk (kk * 1000) (zbv (nmK rs kk)) (zbv (otK rs kk))) /\ Aside0 (dupS (rs.drop kk) (nmK rs kk) (otK rs kk) = D) /\ Aside0 (Below w.heap.size w wr))
      case atStart => exact ⟨0, zqk _, by omega, rfl, ⟨by rw [Nat.zero_mul]; exact HPS.out⟩, ⟨by rw [List.drop_zero]; exact HD.out.symm⟩, ⟨HB2.out⟩⟩
      case round =>
       obtain ⟨kk, hkk, hgk, rfl, HP, HDr, HW⟩ := hrel; obtain ⟨wz, rfl⟩ : ∃ wz, wz = wr := ⟨wr, rfl⟩; by_cases hlt : kk < rs.length
       . have hltz : (kk : Int) < (rs.length : Int) := by omega
         obtain ⟨b, o, B1, c1, B2, c2, B3, c3, B4, c4, rfl, p0, p1, p2, p3, p4, hA, hC⟩ := zc0 HR.out kk hlt; replace p0 := zad HW.out p0
         replace p1 := zad HW.out p1
         replace p2 := zad HW.out p2
         replace p3 := zad HW.out p3
         replace p4 := zad HW.out p4
         obtain ⟨hf, _, hf0, _⟩ := HF.out _ (zqQ hlt); have hds := znn rs (nmK rs kk) (otK rs kk) kk hlt; rw [HDr.out] at hds; have hsn := zns rs kk hlt; have hso := zoh rs kk hlt; have HSn := zpt hsn; have HSo := zpt hso; have HDs := zpt hds; have HF2 := zpt hf.outsN; have HFl := zpt hf.outs; have HF0 := zpt hf0; generalize rs[kk] = x at p0 p1 p2 p3 p4 hA hC HF2 HFl HF0 HSn HSo HDs; have HB3 : Hid (Below w.heap.size w (wz.alloc (.cells (zal x B1 c1 B2 c2 B3 c3 B4 c4) 45))) := zpt (HW.out.alloc HW.out.size _); have hb3 := (zpw wz.heap.size wz).alloc (zpx _) (.cells (zal x B1 c1 B2 c2 B3 c3 B4 c4) 45); have HX3 := zpt (zap wz (.cells (zal x B1 c1 B2 c2 B3 c3 B4 c4) 45)); have HP3 := zpt (HP.out.below hb3); have HA := zpt hA; clear hds hsn hso hA hC hf hf0 hb3 HP; unfold zal at HX3 HB3 HP3; go_upto_region 14 with fail; generalize wz.alloc (.cells #[.string x.f0, .slice B1 x.f1.length c1, .slice B2 x.f2.length c2, .slice B3 x.f3.length c3, .slice B4 x.f4.length c4] 45) = w3 at HX3 HB3 HP3 |-; have x0 := bc0 HX3.out; have x2 := bc2 HX3.out; have y7 : w3.cell? ⟨K7, 0, none⟩ = some (.map (some m1)) := (zah HP3.out.c7 0).trans rfl; have y8 : w3.cell? ⟨K8, 0, none⟩ = some (.map (some m2)) := (zah HP3.out.c8 0).trans rfl; have hlk := HP3.out.e1.look x.f0 HF0.out; have HMd := zpt (zot K8 m2 (kk * 1000) (zbv (otK rs kk)) B2 c2 x.f2 w3 y8 HP3.out.e2 (HA.out.below HB3.out).h2 HF2.out); have hDs := HDs.out; rw [zja] at hlk; rw [ziK (otK rs kk)] at HMd; generalize (nmK rs kk).contains x.f0.data.toList = q1 at hlk hDs; generalize (zab x.f2).any (fun o => (otK rs kk).contains o) = q2 at HMd hDs
         have HDs2 := zpt hDs; clear hDs HDs; cases q1 with
         | true =>
          have HV : Hid (T = (2, x.f0)) := by show _ = _; rw [HT3.out, HDs2.out]; rfl
          go_wp2_with fail; go_quiet (fail)
          go_wp2_with fail; go_ret2
          exact ⟨by rw [HV.out]; rfl, by first | exact HB3.out | exact zaq HB3.out _⟩
         | false =>
          cases q2 with
          | true =>
           have HV : Hid (T = (2, x.f0)) := by show _ = _; rw [HT3.out, HDs2.out]; rfl
           go_wp2_with (first | (go_at_call 56; refine HMd.out.mono ?_; rintro e w4 ⟨rfl, hb4⟩; have HB4 := zpt (zac HB3.out HB3.out.size hb4); have z0 := zad hb4 x0; clear hb4))
           go_quiet (fail)
           go_wp2_with fail; go_ret2
           exact ⟨by rw [HV.out]; rfl, by first | exact HB4.out | exact zaq HB4.out _⟩
          | false =>
           have HDn : Hid (dupS (rs.drop (kk + 1)) (nmK rs (kk + 1)) (otK rs (kk + 1)) = D) := by
            show _ = _
            rw [HSn.out, HSo.out]; exact HDs2.out.symm
           go_upto_region 17 with (first | (go_at_call 56; refine HMd.out.mono ?_; rintro e w4 ⟨rfl, hb4⟩; have HB4 := zpt (zac HB3.out HB3.out.size hb4); have HP4 := zpt (HP3.out.below hb4); have HX4 := zpt (zai HX3.out hb4); clear hb4))
           have z0 := bc0 HX4.out; have z7 : w4.cell? ⟨K7, 0, none⟩ = some (.map (some m1)) := (zah HP4.out.c7 0).trans rfl; obtain ⟨w5, hrun, hP5, hg5⟩ := HP4.out.put1 (by unfold maxLen; omega) x.f0 HF0.out
           have hX5 := zaY HX4.out hg5 (by intro e; injection e with e; exact HP4.out.e1.ne_cells HX4.out e.symm)
           have hB5 := HB4.out.grown hg5 HB4.out.size (fun k hk => by cases hk; exact HM1.out)
           have hadd : addS (zbv (nmK rs kk)) x.f0.data.toList = zbv (nmK rs (kk + 1)) := by rw [HSn.out]; exact (zez _ _ _).symm
           rw [hadd] at hP5; have HP5 := zpt hP5; have HX5 := zpt hX5; have HB5 := zpt hB5; clear hP5 hg5 hX5 hB5 hadd x0 x2 y7 y8 hlk; go_upto_region 18 with fail; have u2 := bc2 HX5.out; clear hrun; have hx2 := HFl.out; go_wp2_with fail; go_loopg [13, 60] x.f2.length (fun gg _ s60 wi => ∃ j : Nat, j <= x.f2.length /\ x.f2.length - j <= gg /\ s60 = .int .i64 j /\ Aside0 (PSt wi K7 K8 m1 m2 (kk + 1) (kk * 1000 + j) (zbv (nmK rs (kk + 1))) (zbv (otK rs kk ++ (zab x.f2).take j))) /\ Aside0 (Below w.heap.size w wi))
           case atStart => exact ⟨0, zqk _, by omega, rfl, ⟨by rw [List.take_zero, List.append_nil]; exact HP5.out⟩, ⟨HB5.out⟩⟩
           case round =>
            obtain ⟨j, hj, hgj, rfl, HPi, HWi⟩ := hrel; by_cases hlj : j < x.f2.length
            . have hljz : (j : Int) < (x.f2.length : Int) := by omega
              obtain ⟨b5, o5, rfl, n0⟩ := za4 (HA.out.below HWi.out).h2 j hlj; have v8 : wr.cell? ⟨K8, 0, none⟩ = some (.map (some m2)) := (zah HPi.out.c8 0).trans rfl; obtain ⟨w6, hrun, hP6, hg6⟩ := HPi.out.put2 (by have h1 := HFl.out; unfold maxLen; omega) x.f2[j] (HF2.out _ (zqQ hlj))
              have hB6 := HWi.out.grown hg6 HWi.out.size (fun k hk => by cases hk; exact HM2.out)
              have hadd : addS (zbv (otK rs kk ++ (zab x.f2).take j)) x.f2[j].data.toList = zbv (otK rs kk ++ (zab x.f2).take (j + 1)) := by
               rw [zpZ (by rw [zaT]; exact hlj), zco x.f2 j hlj, <- List.append_assoc]
               exact (zez _ _ _).symm
              rw [hadd] at hP6; have HP6 := zpt hP6; have HB6 := zpt hB6; generalize x.f2[j] = n at n0 hrun; clear hP6 hg6 hB6 hadd; go_wp2_with fail; go_roundg (x.f2.length - (j + 1))
              case measure => omega
              case rel => exact ⟨j + 1, by omega, by omega, by first | rfl | go_num, ⟨HP6.out⟩, ⟨HB6.out⟩⟩
            . have hljz : ¬ (j : Int) < (x.f2.length : Int) := by omega
              obtain rfl : j = x.f2.length := by omega
              have HPn : Hid (PSt wr K7 K8 m1 m2 (kk + 1) ((kk + 1) * 1000) (zbv (nmK rs (kk + 1))) (zbv (otK rs (kk + 1)))) := by
               have h := HPi.out; rw [zqP (by rw [zaT]; exact zpx _), <- HSo.out] at h
               have hle : kk * 1000 + x.f2.length <= (kk + 1) * 1000 := by
                have h1 := HFl.out; have h2 : (kk + 1) * 1000 = kk * 1000 + 1000 := zpO kk 1000; omega
               exact ⟨h.c7, h.c8, h.e1, h.e2.mono hle, h.ne⟩
              go_wp2_with fail; go_roundg (rs.length - (kk + 1))
              case measure => omega
              case rel => exact ⟨kk + 1, by omega, by omega, by first | rfl | go_num, ⟨HPn.out⟩, ⟨HDn.out⟩, ⟨HWi.out⟩⟩
       . have hltz : ¬ (kk : Int) < (rs.length : Int) := by omega
         obtain rfl : kk = rs.length := by omega
         have hd := HDr.out; rw [List.drop_length] at hd; have hT := HT3.out; rw [<- hd] at hT; have HT4 : Hid (T = whoV 2 (zdc rs) (0, ⟨#[]⟩)) := zpt hT; have HPe : Hid (PSt wz K7 K8 m1 m2 rs.length (rs.length * 1000) (zbv (rs.map fun q => q.f0.data.toList)) (zbv (otK rs rs.length))) := by
          have h := HP.out; have e : nmK rs rs.length = rs.map fun q => q.f0.data.toList := by unfold nmK; rw [zqf]
          rw [e] at h; exact h
         have HWz : Hid (Below w.heap.size w wz) := zpt HW.out; clear hd hT HP HDr HT3; go_wp2_with fail; go_loopg [15, 70] rs.length (fun gg _ s70 wr => ∃ jj : Nat, jj <= rs.length /\ rs.length - jj <= gg /\ s70 = .int .i64 jj /\ Aside0 ((rs.take jj).any (fun r => (zab r.f3).any fun a => !(rs.map fun q => q.f0.data.toList).contains a) = false) /\ Aside0 (Below wz.heap.size wz wr))
         case atStart => exact ⟨0, zqk _, by omega, rfl, ⟨rfl⟩, ⟨zpw _ _⟩⟩
         case round =>
          obtain ⟨jj, hjj, hgj, rfl, HN, HWr⟩ := hrel; obtain ⟨wy, rfl⟩ : ∃ wy, wy = wr := ⟨wr, rfl⟩; have HWw := zpt (zac HWz.out HWz.out.size HWr.out); by_cases hlj : jj < rs.length
          . have hljz : (jj : Int) < (rs.length : Int) := by omega
            obtain ⟨b, o, B1, c1, B2, c2, B3, c3, B4, c4, rfl, p0, p1, p2, p3, p4, hA, hC⟩ := zc0 HR.out jj hlj; replace p0 := zad HWw.out p0
            replace p1 := zad HWw.out p1
            replace p2 := zad HWw.out p2
            replace p3 := zad HWw.out p3
            replace p4 := zad HWw.out p4
            obtain ⟨_, _, _, hf3⟩ := HF.out _ (zqQ hlj); have hst := ze8 (fun r => (zab r.f3).any fun a => !(rs.map fun q => q.f0.data.toList).contains a) rs jj hlj
            rw [HN.out, zqT] at hst; have hfd := zgb (fun r => (zab r.f3).any fun a => !(rs.map fun q => q.f0.data.toList).contains a) rs jj hlj HN.out
            have hb3 := (zpw wy.heap.size wy).alloc (zpx _) (.cells (zal rs[jj] B1 c1 B2 c2 B3 c3 B4 c4) 45); have HX3 := zpt (zap wy (.cells (zal rs[jj] B1 c1 B2 c2 B3 c3 B4 c4) 45)); have HB3 := zpt (zac HWw.out HWw.out.size hb3); have HP3 := zpt ((HPe.out.below HWr.out).below hb3); have HBz := zpt (zac HWr.out HWr.out.size hb3); have hls := zkd K7 m1 rs.length (zbv (rs.map fun q => q.f0.data.toList)) B3 c3 rs[jj].f3 _ ((zah HP3.out.c7 0).trans rfl) HP3.out.e1 (hA.below HB3.out).h3 hf3
            rw [ziK] at hls; have HLs := zpt hls; have HSt := zpt hst; have HFd := zpt hfd; clear hst hfd hls hA hC hf3 hb3; generalize ((zab rs[jj].f3).any fun a => !(rs.map fun q => q.f0.data.toList).contains a) = q at HLs HSt HFd
            generalize rs[jj] = x at p0 p1 p2 p3 p4 HX3 HB3 HP3 HBz HLs HFd; unfold zal at HX3 HB3 HP3 HBz HLs; go_upto_region 27 with fail; generalize wy.alloc (.cells #[.string x.f0, .slice B1 x.f1.length c1, .slice B2 x.f2.length c2, .slice B3 x.f3.length c3, .slice B4 x.f4.length c4] 45) = w3 at HX3 HB3 HP3 HBz HLs |-; have x0 := bc0 HX3.out; have x3 := bc3 HX3.out; cases q with
            | true =>
             have HV : Hid (T = (2, x.f0)) := by
              show _ = _
              rw [HT4.out]; unfold zdc; rw [HFd.out (by trivial)]
              rfl
             go_wp2_with (first | (go_at_call 56; refine HLs.out.mono ?_; rintro e w4 ⟨rfl, hb4⟩; have HB4 := zpt (zac HB3.out HB3.out.size hb4); have z0 := zad hb4 x0; clear hb4))
             go_quiet (fail)
             go_wp2_with fail; go_ret2
             exact ⟨by rw [HV.out]; rfl, by first | exact HB4.out | exact zaq HB4.out _⟩
            | false =>
             go_wp2_with (first | (go_at_call 56; refine HLs.out.mono ?_; rintro e w4 ⟨rfl, hb4⟩; have HB4 := zpt (zac HBz.out HBz.out.size hb4); clear hb4))
             go_roundg (rs.length - (jj + 1))
             case measure => omega
             case rel => exact ⟨jj + 1, by omega, by omega, by first | rfl | go_num, ⟨HSt.out⟩, ⟨HB4.out⟩⟩
          . have hljz : ¬ (jj : Int) < (rs.length : Int) := by omega
            obtain rfl : jj = rs.length := by omega
            have hN := HN.out; rw [zqf] at hN; have HV : Hid (T = (0, ⟨#[]⟩)) := by
             show _ = _
             rw [HT4.out]; unfold zdc; rw [zfh _ _ hN]; rfl
            clear hN; go_wp2_with fail; go_ret2
            exact ⟨by rw [HV.out]; rfl, HWw.out⟩
theorem zgw {w : World} {a : Addr} {v : Value} (h : w.cell? a = some v) : ∃ (cs : Array Value) (t : TypeId) (fr : Nat × Nat), w.heap[a.block]? = some (Obj.cells cs t fr) := by
 unfold World.cell? at h; split at h
 . rename_i c t fr hb
   exact ⟨c, t, fr, hb⟩
 . cases h
theorem zhs {w w' : World} {A : Option Addr} {l : List ByteArray} (h : Kd.C zqb w A l.length l) {m : Nat} (hm : ∀ (g t : Nat) (cs : Array Value) (fr : Nat × Nat), w.heap[g]? = some (Obj.cells cs t fr) -> m ≠ g) (hg : w.grownBy w' (some m)) : Kd.C zqb w' A l.length l := by
 refine ⟨h.1, h.2.1, fun hp => ?_⟩
 obtain ⟨ad, rfl, hc⟩ := h.2.2 hp; refine ⟨ad, rfl, fun j x hx => ?_⟩
 obtain ⟨c, h1, h2, h3⟩ := hc j x hx; refine ⟨c, h1, h2, fun i v hv => ?_⟩
 have h4 := h3 i v hv; obtain ⟨cs, t, fr, hb⟩ := zgw h4; have h5 := hg.block _ (Array.getElem?_eq_some_iff.1 hb).1 (by intro e; injection e with e; exact hm _ _ _ _ hb e.symm)
 unfold World.cell? at h4 |-; rw [h5]; exact h4
def MkIs (w : World) (b n : Nat) (g : zaa -> Option ByteArray) : Prop := ∃ f, MapIs zp5 9 w b n f /\ ∀ k, f k = (g k).map Value.string
theorem MkIs.made (w : World) : MkIs (w.alloc (.map #[] 0)) w.heap.size 0 (fun _ => none) := ⟨_, MapIs.made w, fun _ => rfl⟩
theorem MkIs.lt {w : World} {b n : Nat} {g : zaa -> Option ByteArray} (h : MkIs w b n g) : b < w.heap.size := by obtain ⟨f, h, _⟩ := h; exact h.lt
theorem MkIs.mono {w : World} {b n n' : Nat} {g : zaa -> Option ByteArray} (h : MkIs w b n g) (hn : n <= n') : MkIs w b n' g := by obtain ⟨f, h, h2⟩ := h; exact ⟨f, h.mono hn, h2⟩
theorem MkIs.below {w w' : World} {b n : Nat} {g : zaa -> Option ByteArray} (h : MkIs w b n g) (hb : Below w.heap.size w w') : MkIs w' b n g := by obtain ⟨f, h, h2⟩ := h; exact ⟨f, h.below hb, h2⟩
theorem MkIs.grown {w w' : World} {b n : Nat} {g : zaa -> Option ByteArray} {row : Option Nat} (h : MkIs w b n g) (hg : w.grownBy w' row) (hne : some b ≠ row) : MkIs w' b n g := by obtain ⟨f, h, h2⟩ := h; exact ⟨f, h.grown hg hne, h2⟩
theorem MkIs.ne_cells {w : World} {b n : Nat} {g : zaa -> Option ByteArray} (h : MkIs w b n g) {a t : Nat} {cs : Array Value} {fr : Nat × Nat} (hg : w.heap[a]? = some (.cells cs t fr)) : b ≠ a := by obtain ⟨f, h, _⟩ := h; exact h.ne_cells hg
theorem MkIs.look2 {w : World} {b n : Nat} {g : zaa -> Option ByteArray} (h : MkIs w b n g) (k : ByteArray) (hs : k.size <= maxLen) :
 (Instr.lookup 98 (.map (some b)) (.string k) true).run zp5 w = .ok (.tuple #[.string ((g k.data.toList).getD ⟨#[]⟩), .bool (g k.data.toList).isSome]) w := by
 obtain ⟨f, h, h2⟩ := h; rw [h.look2 Tryz.underlying9 Tryz.underlying98 (Tryz.zeroValue9 w) k hs, h2]; cases g k.data.toList <;> rfl
def setG {α : Type} (g : zaa -> Option α) (k : zaa) (v : α) : zaa -> Option α := fun x => if x = k then some v else g x
theorem MkIs.put {w : World} {b n : Nat} {g : zaa -> Option ByteArray} (h : MkIs w b n g) (hn : n < maxLen) (k : ByteArray) (hs : k.size <= maxLen) (v : ByteArray) :
 ∃ w', (Instr.mapUpdate 98 (.map (some b)) (.string k) (.string v)).run zp5 w = .ok () w' /\ MkIs w' b (n + 1) (setG g k.data.toList v) /\ w.grownBy w' (some b) := by
 obtain ⟨f, h, h2⟩ := h; obtain ⟨w', hrun, h', hg⟩ := h.store Tryz.underlying9 Tryz.underlying98 hn k hs (.string v); refine ⟨w', hrun, ⟨_, h', fun x => ?_⟩, hg⟩
 unfold setF setG; split
 . rfl
 . exact h2 x
def zgx (w : World) (v : Value) (l : List ByteArray) : Prop := ∃ A c, v = .slice A l.length c /\ Kd.C zqb w A l.length l
def AllIs (w : World) (b n : Nat) (g : zaa -> Option (List ByteArray)) : Prop := ∃ f, MapIs zp5 9 w b n f /\ (∀ k, (f k).isSome = (g k).isSome) /\ ∀ k v l, f k = some v -> g k = some l -> zgx w v l
theorem AllIs.made (w : World) : AllIs (w.alloc (.map #[] 0)) w.heap.size 0 (fun _ => none) := ⟨_, MapIs.made w, fun _ => rfl, fun _ _ _ h => by cases h⟩
theorem AllIs.lt {w : World} {b n : Nat} {g : zaa -> Option (List ByteArray)} (h : AllIs w b n g) : b < w.heap.size := by obtain ⟨f, h, _⟩ := h; exact h.lt
theorem AllIs.below {w w' : World} {b n : Nat} {g : zaa -> Option (List ByteArray)} (h : AllIs w b n g) (hb : Below w.heap.size w w') : AllIs w' b n g := by
 obtain ⟨f, h, h1, h2⟩ := h; refine ⟨f, h.below hb, h1, fun k v l hv hl => ?_⟩
 obtain ⟨A, c, e, hc⟩ := h2 k v l hv hl; exact ⟨A, c, e, zqS hc hb⟩
theorem AllIs.put {w : World} {b n : Nat} {g : zaa -> Option (List ByteArray)} (h : AllIs w b n g) (hn : n < maxLen) (k : ByteArray) (hs : k.size <= maxLen) (A : Option Addr) (c : Nat) (l : List ByteArray) (hl : Kd.C zqb w A l.length l) :
 ∃ w', (Instr.mapUpdate 125 (.map (some b)) (.string k) (.slice A l.length c)).run zp5 w = .ok () w' /\ AllIs w' b (n + 1) (setG g k.data.toList l) /\ w.grownBy w' (some b) := by
 obtain ⟨f, h, h1, h2⟩ := h; obtain ⟨w', hrun, h', hg⟩ := h.store Tryz.underlying9 Tryz.underlying125 hn k hs (.slice A l.length c); have hne : ∀ (a t : Nat) (cs : Array Value) (fr : Nat × Nat), w.heap[a]? = some (Obj.cells cs t fr) -> b ≠ a := fun a t cs fr hc => h.ne_cells hc
 refine ⟨w', hrun, ⟨_, h', fun x => ?_, fun x v l2 hv hl2 => ?_⟩, hg⟩
 . unfold setF setG
   split
   . rfl
   . exact h1 x
 . unfold setF at hv
   unfold setG at hl2; split at hv
   . rename_i e
     rw [if_pos e] at hl2; cases hv
     cases hl2
     exact ⟨A, c, rfl, zhs hl hne hg⟩
   . rename_i e
     rw [if_neg e] at hl2; obtain ⟨A', c', e', hc'⟩ := h2 x v l2 hv hl2; exact ⟨A', c', e', zhs hc' hne hg⟩
def za3 (rs : List zaj) : zaa -> Option ByteArray := fun o => (rs.reverse.find? fun r => (zab r.f2).contains o).map (·.f0)
theorem znU (rs : List zaj) (r : zaj) : za3 (rs ++ [r]) = fun o => if (zab r.f2).contains o then some r.f0 else za3 rs o := by
 funext o
 unfold za3; rw [List.reverse_append, List.reverse_singleton, List.singleton_append, List.find?_cons]; cases (zab r.f2).contains o <;> rfl
def zb3 (rs : List zaj) (r : zaj) : List ByteArray := r.f3 ++ r.f1.filterMap fun i => za3 rs i.data.toList
def zbz (all : List zaj) (rs : List zaj) : zaa -> Option (List ByteArray) := fun n => (rs.reverse.find? fun r => r.f0.data.toList == n).map fun r => zbR (zae (zb3 all r))
theorem zoj (all rs : List zaj) (r : zaj) : zbz all (rs ++ [r]) = setG (zbz all rs) r.f0.data.toList (zbR (zae (zb3 all r))) := by
 funext n
 unfold zbz setG; rw [List.reverse_append, List.reverse_singleton, List.singleton_append, List.find?_cons]; by_cases h : n = r.f0.data.toList
 . rw [if_pos h, h]
   simp
 . rw [if_neg h]
   have : (r.f0.data.toList == n) = false := by simpa using Ne.symm h
   rw [this]
theorem zfG {α : Type} (l : List α) (k : Nat) (h : k < l.length) : l.take (k + 1) = l.take k ++ [l[k]] := zpZ h
theorem zmn (all : List zaj) (f3 f1 : List ByteArray) (j : Nat) (h : j < f1.length) (n : ByteArray) (hm : za3 all f1[j].data.toList = some n) : f3 ++ (f1.take (j + 1)).filterMap (fun i => za3 all i.data.toList) = (f3 ++ (f1.take j).filterMap fun i => za3 all i.data.toList) ++ [n] := by
 rw [zpZ h, List.filterMap_append, List.append_assoc]; simp [hm]
theorem znr (all : List zaj) (f3 f1 : List ByteArray) (j : Nat) (h : j < f1.length) (hm : za3 all f1[j].data.toList = none) : f3 ++ (f1.take (j + 1)).filterMap (fun i => za3 all i.data.toList) = f3 ++ (f1.take j).filterMap fun i => za3 all i.data.toList := by
 rw [zpZ h, List.filterMap_append]; simp [hm]
theorem zix (all : List zaj) (r : zaj) : (zb3 all r).length <= r.f3.length + r.f1.length := by
 unfold zb3; rw [List.length_append]; have := List.length_filterMap_le (fun i : ByteArray => za3 all i.data.toList) r.f1
 omega
theorem zmf (A : Option Addr) (c : Nat) (rs : List zaj) (w : World) (hr : Kd.C k45 w A rs.length rs) (hF : zcj rs) :
 Calls zp5 105 #[.slice A rs.length c] w fun e w' => ∃ b, e = .returned (.map (some b)) /\ w.heap.size <= b /\ AllIs w' b rs.length (zbz rs rs) /\ Below w.heap.size w w' := by
 have hn := hF.len; have HR := zpt hr; have HF := zpt hF.fit; have hmm := @run_makeMap zp5; have HM0 := zpt (MkIs.made w); have HB0 := zpt ((zpw w.heap.size w).alloc (zpx _) (.map #[] 0)); obtain ⟨g, hg⟩ : ∃ g, g = zbz rs rs := ⟨_, rfl⟩; rw [<- hg]; have HGg := zpt hg; clear hr hF hg; go_enter Tryz.func105, Tryz.ntmps105
 go_upto_region 2 with fail; generalize w.alloc (.map #[] 0) = w1 at HM0 HB0 |-; go_wp2_with fail; go_loopg [5, 7, 19] rs.length (fun gg _ _ s19 wr => ∃ kk : Nat, kk <= rs.length /\ rs.length - kk <= gg /\ s19 = .int .i64 kk /\ Aside0 (MkIs wr w.heap.size (kk * 1000) (za3 (rs.take kk))) /\ Aside0 (Below w.heap.size w wr))
 case atStart => exact ⟨0, zqk _, by omega, rfl, ⟨by rw [Nat.zero_mul]; exact HM0.out⟩, ⟨HB0.out⟩⟩
 case round =>
  obtain ⟨kk, hkk, hgk, rfl, HM, HW⟩ := hrel; obtain ⟨wq, rfl⟩ : ∃ wq, wq = wr := ⟨wr, rfl⟩; by_cases hlt : kk < rs.length
  . have hltz : (kk : Int) < (rs.length : Int) := by omega
    obtain ⟨b, o, B1, c1, B2, c2, B3, c3, B4, c4, rfl, p0, p1, p2, p3, p4, hA, hC⟩ := zc0 HR.out kk hlt; replace p0 := zad HW.out p0
    replace p1 := zad HW.out p1
    replace p2 := zad HW.out p2
    replace p3 := zad HW.out p3
    replace p4 := zad HW.out p4
    obtain ⟨hf, _, hf0, _⟩ := HF.out _ (zqQ hlt); have hsn := znU (rs.take kk) rs[kk]; rw [<- zfG rs kk hlt] at hsn; have HSn := zpt hsn; have HF2 := zpt hf.outsN; have hx2 := hf.outs; have HF0 := zpt hf0; have hb3 := (zpw wq.heap.size wq).alloc (zpx _) (.cells (zal rs[kk] B1 c1 B2 c2 B3 c3 B4 c4) 45); have HX3 := zpt (zap wq (.cells (zal rs[kk] B1 c1 B2 c2 B3 c3 B4 c4) 45)); have HB3 := zpt (HW.out.alloc HW.out.size (.cells (zal rs[kk] B1 c1 B2 c2 B3 c3 B4 c4) 45)); have HM3 := zpt (HM.out.below hb3); have HA := zpt hA; generalize rs[kk] = x at p0 p1 p2 p3 p4 HA HX3 HB3 HM3 HSn HF2 HF0 hx2; clear hA hC hf hf0 hsn hb3; unfold zal at HX3 HB3 HM3; go_upto_region 5 with fail; generalize wq.alloc (.cells #[.string x.f0, .slice B1 x.f1.length c1, .slice B2 x.f2.length c2, .slice B3 x.f3.length c3, .slice B4 x.f4.length c4] 45) = w3 at HX3 HB3 HM3 |-; have x2 := bc2 HX3.out; go_wp2_with fail; go_loopg [7, 26] x.f2.length (fun gg _ s26 wi => ∃ j : Nat, j <= x.f2.length /\ x.f2.length - j <= gg /\ s26 = .int .i64 j /\ Aside0 (MkIs wi w.heap.size (kk * 1000 + j) (fun o => if ((zab x.f2).take j).contains o then some x.f0 else za3 (rs.take kk) o)) /\ Aside0 (wi.heap[wq.heap.size]? = some (.cells #[.string x.f0, .slice B1 x.f1.length c1, .slice B2 x.f2.length c2, .slice B3 x.f3.length c3, .slice B4 x.f4.length c4] 45 (0, 0))) /\ Aside0 (Below w.heap.size w wi))
    case atStart => exact ⟨0, zqk _, by omega, rfl, ⟨by simpa using HM3.out⟩, ⟨HX3.out⟩, ⟨HB3.out⟩⟩
    case round =>
     obtain ⟨j, hj, hgj, rfl, HMi, HXi, HWi⟩ := hrel; by_cases hlj : j < x.f2.length
     . have hljz : (j : Int) < (x.f2.length : Int) := by omega
       obtain ⟨b5, o5, rfl, n0⟩ := za4 (HA.out.below HWi.out).h2 j hlj; have z0 := bc0 HXi.out; obtain ⟨w6, hrun, hM6, hg6⟩ := HMi.out.put (by unfold maxLen; omega) x.f2[j] (HF2.out _ (zqQ hlj)) x.f0
       have hB6 := HWi.out.grown hg6 HWi.out.size (fun k hk => by cases hk; exact zpx _)
       have hX6 := zaY HXi.out hg6 (by intro e; injection e with e; exact HMi.out.ne_cells HXi.out e.symm)
       have hadd : setG (fun o => if ((zab x.f2).take j).contains o then some x.f0 else za3 (rs.take kk) o) x.f2[j].data.toList x.f0 = fun o => if ((zab x.f2).take (j + 1)).contains o then some x.f0 else za3 (rs.take kk) o := by
        funext o
        rw [zfG (zab x.f2) j (by rw [zaT]; exact hlj), zco x.f2 j hlj]
        unfold setG; by_cases ho : o = x.f2[j].data.toList
        . rw [if_pos ho, if_pos (by rw [ho]; simp)]
        . rw [if_neg ho]
          have : ((zab x.f2).take j ++ [x.f2[j].data.toList]).contains o = ((zab x.f2).take j).contains o := by
           rw [Bool.eq_iff_iff]; simp [ho]
          rw [this]
       rw [hadd] at hM6; have HM6 := zpt hM6; have HB6 := zpt hB6; have HX6 := zpt hX6; generalize x.f2[j] = n at n0 hrun; clear hM6 hg6 hB6 hX6 hadd; go_wp2_with fail; go_roundg (x.f2.length - (j + 1))
       case measure => omega
       case rel => exact ⟨j + 1, by omega, by omega, by first | rfl | go_num, ⟨HM6.out⟩, ⟨HX6.out⟩, ⟨HB6.out⟩⟩
     . have hljz : ¬ (j : Int) < (x.f2.length : Int) := by omega
       obtain rfl : j = x.f2.length := by omega
       have HMn : Hid (MkIs wr w.heap.size ((kk + 1) * 1000) (za3 (rs.take (kk + 1)))) := by
        have h := HMi.out; rw [zqP (by rw [zaT]; exact zpx _)] at h
        show MkIs _ _ _ _
        rw [HSn.out]; refine h.mono ?_; have h2 : (kk + 1) * 1000 = kk * 1000 + 1000 := zpO kk 1000; omega
       go_wp2_with fail; go_roundg (rs.length - (kk + 1))
       case measure => omega
       case rel => exact ⟨kk + 1, by omega, by omega, by first | rfl | go_num, ⟨HMn.out⟩, ⟨HWi.out⟩⟩
  . have hltz : ¬ (kk : Int) < (rs.length : Int) := by omega
    obtain rfl : kk = rs.length := by omega
    have hM := HM.out; rw [zqf] at hM; have hb1 := (zpw wq.heap.size wq).alloc (zpx _) (.map #[] 0); have HM1 := zpt (hM.below hb1); have HE1 := zpt (AllIs.made wq); have HB1 := zpt (HW.out.alloc HW.out.size (.map #[] 0)); have HZ1 := zpt HW.out.size; have HZ0 : Hid (w.heap.size < wq.heap.size) := zpt hM.lt; clear hM hb1 HM; go_upto_region 12 with fail; generalize hb : wq.heap.size = b at HE1 HZ1 HZ0 |-; generalize wq.alloc (.map #[] 0) = w2 at HM1 HE1 HB1 |-; clear hb; go_wp2_with fail; go_loopg [10, 11, 13, 14, 15, 39] rs.length (fun gg _ _ _ _ _ s39 wr => ∃ kk : Nat, kk <= rs.length /\ rs.length - kk <= gg /\ s39 = .int .i64 kk /\ Aside0 (AllIs wr b kk (zbz rs (rs.take kk))) /\ Aside0 (MkIs wr w.heap.size (rs.length * 1000) (za3 rs)) /\ Aside0 (Below w.heap.size w wr))
    case atStart => exact ⟨0, zqk _, by omega, rfl, ⟨HE1.out⟩, ⟨HM1.out⟩, ⟨HB1.out⟩⟩
    case round =>
     obtain ⟨kk, hkk, hgk, rfl, HE, HM, HW⟩ := hrel; obtain ⟨wq, rfl⟩ : ∃ wq, wq = wr := ⟨wr, rfl⟩; by_cases hlt : kk < rs.length
     . have hltz : (kk : Int) < (rs.length : Int) := by omega
       obtain ⟨bb, o, B1, c1, B2, c2, B3, c3, B4, c4, rfl, p0, p1, p2, p3, p4, hA, hC⟩ := zc0 HR.out kk hlt; replace p0 := zad HW.out p0
       replace p1 := zad HW.out p1
       replace p2 := zad HW.out p2
       replace p3 := zad HW.out p3
       replace p4 := zad HW.out p4
       obtain ⟨hf, hf3, hf0, _⟩ := HF.out _ (zqQ hlt); have hsn := zoj rs (rs.take kk) rs[kk]; rw [<- zfG rs kk hlt] at hsn; have HSn := zpt hsn; have HF1 := zpt hf.insN; have hx1 := hf.ins; have HF0 := zpt hf0; have hb3 := (zpw wq.heap.size wq).alloc (zpx _) (.cells (zal rs[kk] B1 c1 B2 c2 B3 c3 B4 c4) 45); have HX3 := zpt (zap wq (.cells (zal rs[kk] B1 c1 B2 c2 B3 c3 B4 c4) 45)); have HB3 := zpt (HW.out.alloc HW.out.size (.cells (zal rs[kk] B1 c1 B2 c2 B3 c3 B4 c4) 45)); have HM3 := zpt (HM.out.below hb3); have HE3 := zpt (HE.out.below hb3); have HA3 := zpt (hA.below HB3.out); have hnl := zix rs rs[kk]; have hnl2 : (zb3 rs rs[kk]).length <= 2000 := by omega
       have HNl := zpt hnl2; generalize hxx : rs[kk] = x at p0 p1 p2 p3 p4 HX3 HB3 HM3 HE3 HA3 HSn HF1 HF0 hx1 HNl hf3; clear hA hC hf hf0 hsn hb3 hnl hnl2 hxx HM HE; unfold zal at HX3 HB3 HM3 HE3 HA3; go_upto_region 15 with fail; generalize wq.alloc (.cells #[.string x.f0, .slice B1 x.f1.length c1, .slice B2 x.f2.length c2, .slice B3 x.f3.length c3, .slice B4 x.f4.length c4] 45) = w3 at HX3 HB3 HM3 HE3 HA3 |-; have x3 := bc3 HX3.out; have hcl := zc6 B3 c3 x.f3 w3 HA3.out.h3 (by omega)
       go_upto_region 16 with (first | (go_at_call 99; refine hcl.mono ?_; rintro e w4 ⟨v4, rfl, hown, hb4⟩; have HO4 : Hid (RS w4 w3.heap.size v4 x.f3) := zpt (Kd.R_of_own (h1 := fun _ => rfl) hown (fun _ _ => trivial)); have HB4 := zpt hb4; have HX4 := zpt (zai HX3.out hb4); clear hown hb4))
       have x1 := bc1 HX4.out; clear hcl x3; go_wp2_with fail; go_loopg [11, 13, 14, 15, 49] x.f1.length (fun gg s11 _ _ _ s49 wi => ∃ j : Nat, j <= x.f1.length /\ x.f1.length - j <= gg /\ s49 = .int .i64 j /\ Aside0 (RS wi w3.heap.size s11 (x.f3 ++ (x.f1.take j).filterMap fun i => za3 rs i.data.toList)) /\ Aside0 (Below w3.heap.size w3 wi))
       case atStart => exact ⟨0, zqk _, by omega, rfl, ⟨by simpa using HO4.out⟩, ⟨HB4.out⟩⟩
       case round =>
        obtain ⟨j, hj, hgj, rfl, HO, HWi⟩ := hrel; by_cases hlj : j < x.f1.length
        . have hljz : (j : Int) < (x.f1.length : Int) := by omega
          obtain ⟨b5, o5, rfl, n0⟩ := za4 (HA3.out.below HWi.out).h1 j hlj; have hlk := (HM3.out.below HWi.out).look2 x.f1[j] (HF1.out _ (zqQ hlj)); have hfl : ((x.f1.take j).filterMap fun i => za3 rs i.data.toList).length <= 1000 := Nat.le_trans (List.length_filterMap_le _ _) (by rw [List.length_take]; omega)
          have HFl := zpt hfl; have HWs := zpt HWi.out.size; have HSome := zpt (zmn rs x.f3 x.f1 j hlj); have HNone := zpt (znr rs x.f3 x.f1 j hlj); generalize za3 rs x.f1[j].data.toList = mo at hlk HSome HNone; generalize x.f1[j] = n at n0 hlk; clear hfl; cases mo with
          | none =>
           have HN : Hid (RS wr w3.heap.size u11 (x.f3 ++ (x.f1.take (j + 1)).filterMap fun i => za3 rs i.data.toList)) := by show RS _ _ _ _; rw [HNone.out (by trivial)]; exact HO.out
           simp only [Option.getD_none, Option.isSome_none] at hlk; go_wp2_with fail; go_roundg (x.f1.length - (j + 1))
           case measure => omega
           case rel => exact ⟨j + 1, by omega, by omega, by first | rfl | go_num, ⟨HN.out⟩, ⟨HWi.out⟩⟩
          | some nm =>
           have HN : Hid (x.f3 ++ (x.f1.take (j + 1)).filterMap (fun i => za3 rs i.data.toList) = (x.f3 ++ (x.f1.take j).filterMap fun i => za3 rs i.data.toList) ++ [nm]) := HSome.out nm rfl
           simp only [Option.getD_some, Option.isSome_some] at hlk; go_wp2_with (first | ((with_reducible refine zaG (b := .append) (xs := #[.tmp 60, .tmp 62]) rfl ?_); at_builtin; refine Kd.R_append zqb (w0 := w3) w3.heap.size rfl (.tmp 60) (.tmp 62) 22 9 (.string ⟨#[]⟩) 16 rfl Tryz.underlying22 zbi rfl (by decide) (by decide) u11 (x.f3 ++ (x.f1.take j).filterMap fun i => za3 rs i.data.toList) nm [.string nm] (fun _ => True) (fun k_ => True /\ some k_ ≠ u11.ownBlock) rfl rfl rfl (fun _ hk => hk) (fun _ _ => trivial) HO.out HWi.out HWs.out ?aL ?_; (case aL => (have h1 := HFl.out; rw [List.length_append]; omega)); intro v1 w5 ho hb hg hat; have HO5 : Hid (RS w5 w3.heap.size v1 (x.f3 ++ (x.f1.take (j + 1)).filterMap fun i => za3 rs i.data.toList)) := (by show RS _ _ _ _; rw [HN.out]; exact ho); have HB5 := zpt hb; clear ho hb hg hat))
           go_roundg (x.f1.length - (j + 1))
           case measure => omega
           case rel => exact ⟨j + 1, by omega, by omega, by first | rfl | go_num, ⟨HO5.out⟩, ⟨HB5.out⟩⟩
        . have hljz : ¬ (j : Int) < (x.f1.length : Int) := by omega
          obtain rfl : j = x.f1.length := by omega
          have hO := HO.out; rw [zqf] at hO; have hO' : RS wr w3.heap.size u11 (zb3 rs x) := hO; have hSort := zfF w3.heap.size u11 (zb3 rs x) wr hO' (by have := HNl.out; omega)
          have HSort := zpt hSort; have HBs := zpt (Kd.R_base hO'); have HSn2 := HSn.out; generalize zb3 rs x = nl at HSort HSn2 HNl; have HSn3 := zpt HSn2; clear hO hO' hSort HSn2 HSn HO; go_upto_region 24 with (first
           | (go_at_call 93; refine HSort.out.mono ?_; rintro e w5 ⟨rfl, hR5, hg5⟩; have HR5 := zpt hR5; have HW5 := zpt (HWi.out.grown hg5 HWi.out.size (fun k hk => HBs.out k hk)); clear hR5 hg5))
          have HX5 := zpt (zai HX3.out HW5.out); have HSo : Hid (∀ W, Below w3.heap.size w3 W -> W.cell? ⟨wq.heap.size, 0, none⟩ = some (.string x.f0)) := zpt (fun W hW => (zah (zai HX3.out hW) 0).trans rfl)
          have HBx : Hid (Below w3.heap.size w3 w5.drew) := zpt (zaM HW5.out); have HR5d := zpt (Kd.R_drew HR5.out); go_wp2_with fail; go_region_held3 (fun W => W.cell? ⟨wq.heap.size, 0, none⟩ = some (.string x.f0)) (first | exact HSo.out _ HBx.out | exact (zah HX7.out 0).trans rfl)
           (first | (go_at_call 94; refine (zgP w3.heap.size u11 _ _ HR5d.out).mono ?_; rintro e w6 ⟨v6, rfl, hR6, hg6⟩; obtain ⟨A6, n6, rfl, _, hC6⟩ := Kd.R_reads hR6; have HBx := zpt (HBx.out.grown hg6 HBx.out.size (fun k hk => HBs.out k hk)); obtain ⟨w7, hrun, hE7, hg7⟩ := (HE3.out.below HBx.out).put (by unfold maxLen; omega) x.f0 HF0.out A6 n6 _ hC6; have HE7 := zpt hE7; have HG7 := zpt hg7; have HX7 := zpt (zaY (zai HX3.out HBx.out) hg7 (by intro e; injection e with e; obtain ⟨f, hf, _⟩ := HE3.out.below HBx.out; exact hf.ne_cells (zai HX3.out HBx.out) e.symm)); have HM7 := zpt ((HM3.out.below HBx.out).grown hg7 (by have h0 := HZ0.out; intro e; injection e with e; omega)); clear hR6 hg6 hC6 hE7 hg7))
          all_goals
           have HB7 : Hid (Below w.heap.size w w7) := zpt ((HB3.out.trans (HBx.out.mono HB3.out.size)).grown HG7.out (Nat.le_trans HB3.out.size HBx.out.size) (fun k hk => by cases hk; exact HZ1.out))
           have HE8 : Hid (AllIs w7 b (kk + 1) (zbz rs (rs.take (kk + 1)))) := by
            show AllIs _ _ _ _
            rw [HSn3.out]; exact HE7.out
           go_wp2_with fail; go_roundg (rs.length - (kk + 1))
           case measure => omega
           case rel => exact ⟨kk + 1, by omega, by omega, by first | rfl | go_num, ⟨HE8.out⟩, ⟨HM7.out⟩, ⟨HB7.out⟩⟩
     . have hltz : ¬ (kk : Int) < (rs.length : Int) := by omega
       obtain rfl : kk = rs.length := by omega
       have hE := HE.out; rw [zqf, <- HGg.out] at hE; have HEf := zpt hE; clear hE; go_wp2_with fail; go_ret
       exact ⟨b, rfl, HZ1.out, HEf.out, HW.out⟩
end X
namespace X
def goes (G : zaa -> List zaa) (t : zaa) : Nat -> zaa -> Prop
 | 0, x => x = t
 | n + 1, x => ∃ y, y ∈ G x /\ goes G t n y
structure IsFar (G : zaa -> List zaa) (t : zaa) (far : zaa -> Option Nat) : Prop where
 sound : ∀ x d, far x = some d -> goes G t d x
 least : ∀ x n, goes G t n x -> ∃ d, far x = some d /\ d <= n
theorem IsFar.le {G : zaa -> List zaa} {t : zaa} {f g : zaa -> Option Nat} (hf : IsFar G t f) (hg : IsFar G t g) {x : zaa} {d : Nat} (h : f x = some d) : g x = some d := by
 obtain ⟨e, he, hle⟩ := hg.least x d (hf.sound x d h); obtain ⟨d', hd', hle'⟩ := hf.least x e (hg.sound x e he); rw [h] at hd'; obtain rfl := Option.some.inj hd'; rw [he, Nat.le_antisymm hle hle']
theorem IsFar.unique {G : zaa -> List zaa} {t : zaa} {f g : zaa -> Option Nat} (hf : IsFar G t f) (hg : IsFar G t g) : f = g := by
 funext x
 cases h : f x with
 | some d => rw [hf.le hg h]
 | none =>
  cases h2 : g x with
  | none => rfl
  | some d => rw [hg.le hf h2] at h; cases h
theorem zjz {G : zaa -> List zaa} {t : zaa} {far : zaa -> Option Nat} (h0 : far t = some 0) (hs : ∀ x d, far x = some d -> goes G t d x) (hc : ∀ x y d, y ∈ G x -> far y = some d -> ∃ e, far x = some e /\ e <= d + 1) : IsFar G t far := by
 refine ⟨hs, fun x n => ?_⟩
 induction n generalizing x with
 | zero => rintro rfl; exact ⟨0, h0, zpx _⟩
 | succ n ih =>
  rintro ⟨y, hy, hg⟩; obtain ⟨d, hd, hle⟩ := ih y hg; obtain ⟨e, he, hle2⟩ := hc x y d hy hd; exact ⟨e, he, by omega⟩
theorem IsFar.self {G : zaa -> List zaa} {t : zaa} {far : zaa -> Option Nat} (h : IsFar G t far) : far t = some 0 := by
 obtain ⟨d, hd, hle⟩ := h.least t 0 rfl; rw [hd, Nat.le_zero.1 hle]
theorem IsFar.next {G : zaa -> List zaa} {t : zaa} {far : zaa -> Option Nat} (h : IsFar G t far) {x : zaa} {k : Nat} (hx : far x = some (k + 1)) : ∃ y, y ∈ G x /\ far y = some k := by
 obtain ⟨y, hy, hg⟩ := h.sound x _ hx; obtain ⟨d, hd, hle⟩ := h.least y k hg; refine ⟨y, hy, ?_⟩; obtain ⟨e, he, hle2⟩ := h.least x (d + 1) ⟨y, hy, h.sound y d hd⟩; rw [hx] at he; obtain rfl := Option.some.inj he; rw [hd]; congr 1
 omega
def zbG (b : Option Nat) (v : Option Nat) : Option Nat := match v, b with
 | none, b => b
 | some d, none => some d
 | some d, some e => if d < e then some d else some e
def zbI (far : zaa -> Option Nat) (l : List zaa) : Option Nat := l.foldl (fun b y => zbG b (far y)) none
theorem zgJ (far : zaa -> Option Nat) : ∀ (l : List zaa) (b : Option Nat), (match l.foldl (fun b y => zbG b (far y)) b with
 | none => b = none /\ ∀ y ∈ l, far y = none
 | some k => (b = some k \/ ∃ y ∈ l, far y = some k) /\ (∀ e, b = some e -> k <= e) /\ ∀ y ∈ l, ∀ d, far y = some d -> k <= d)
 | [], b => by
  cases b with
  | none => exact ⟨rfl, fun y hy => by cases hy⟩
  | some k => exact ⟨.inl rfl, fun e he => by cases he; exact zpx _, fun y hy => by cases hy⟩
 | y :: r, b => by
  have ih := zgJ far r (zbG b (far y)); rw [List.foldl_cons]; generalize r.foldl (fun b y => zbG b (far y)) (zbG b (far y)) = z at ih |-
  cases z with
  | none =>
   obtain ⟨h1, h2⟩ := ih; cases hy : far y with
   | none =>
    rw [hy] at h1; refine ⟨by cases b <;> first | rfl | exact h1, fun u hu => ?_⟩
    rcases zqE.1 hu with rfl | hu
    . exact hy
    . exact h2 u hu
   | some d =>
    rw [hy] at h1; exfalso
    cases b with
    | none => cases h1
    | some e => unfold zbG at h1; dsimp only at h1; split at h1 <;> cases h1
  | some k =>
   obtain ⟨h1, h2, h3⟩ := ih; cases hy : far y with
   | none =>
    rw [hy] at h1 h2; have e : zbG b none = b := by cases b <;> rfl
    rw [e] at h1 h2; refine ⟨?_, h2, fun u hu d hd => ?_⟩
    . rcases h1 with h1 | ⟨u, hu, hk⟩
      . exact .inl h1
      . exact .inr ⟨u, zqM _ hu, hk⟩
    . rcases zqE.1 hu with rfl | hu
      . rw [hy] at hd; cases hd
      . exact h3 u hu d hd
   | some d =>
    rw [hy] at h1 h2; cases b with
    | none =>
     have e : zbG none (some d) = some d := rfl; rw [e] at h1 h2; refine ⟨?_, (fun e he => by cases he), fun u hu d' hd => ?_⟩
     . rcases h1 with h1 | ⟨u, hu, hk⟩
       . exact .inr ⟨y, zqL, by rw [hy, h1]⟩
       . exact .inr ⟨u, zqM _ hu, hk⟩
     . rcases zqE.1 hu with rfl | hu
       . rw [hy] at hd; cases hd; exact h2 d rfl
       . exact h3 u hu d' hd
    | some e =>
     by_cases hlt : d < e
     . have e' : zbG (some e) (some d) = some d := by unfold zbG; dsimp only; rw [if_pos hlt]
       rw [e'] at h1 h2; have hk := h2 d rfl; refine ⟨?_, fun e2 he => by cases he; omega, fun u hu d' hd => ?_⟩
       . rcases h1 with h1 | ⟨u, hu, hk⟩
         . exact .inr ⟨y, zqL, by rw [hy, h1]⟩
         . exact .inr ⟨u, zqM _ hu, hk⟩
       . rcases zqE.1 hu with rfl | hu
         . rw [hy] at hd; cases hd; exact hk
         . exact h3 u hu d' hd
     . have e' : zbG (some e) (some d) = some e := by unfold zbG; dsimp only; rw [if_neg hlt]
       rw [e'] at h1 h2; have hk := h2 e rfl; refine ⟨?_, fun e2 he => by cases he; exact hk, fun u hu d' hd => ?_⟩
       . rcases h1 with h1 | ⟨u, hu, hk⟩
         . exact .inl h1
         . exact .inr ⟨u, zqM _ hu, hk⟩
       . rcases zqE.1 hu with rfl | hu
         . rw [hy] at hd; cases hd; omega
         . exact h3 u hu d' hd
theorem zgI {far : zaa -> Option Nat} {l : List zaa} {k : Nat} (h : zbI far l = some k) : (∃ y ∈ l, far y = some k) /\ ∀ y ∈ l, ∀ d, far y = some d -> k <= d := by
 have := zgJ far l none; unfold zbI at h; rw [h] at this; obtain ⟨h1, _, h3⟩ := this; exact ⟨by rcases h1 with h1 | h1; cases h1; exact h1, h3⟩
def zcr (G : zaa -> List zaa) (far : zaa -> Option Nat) : Nat -> zaa -> List zaa
 | 0, _ => []
 | k + 1, x => match (G x).find? (fun y => far y == some (k + 1)) with
  | some y => y :: zcr G far k y
  | none => []
def wayF (G : zaa -> List zaa) (far : zaa -> Option Nat) (t : zaa) : Option (List zaa) := match zbI far (G t) with
 | none => none
 | some k => some (t :: zcr G far k t)
def zfa (G : zaa -> List zaa) (far : zaa -> Option Nat) (t : zaa) (k : Nat) (x : zaa) : Prop := (x = t /\ zbI far (G t) = some k) \/ far x = some (k + 1)
theorem zjA {G : zaa -> List zaa} {t : zaa} {far : zaa -> Option Nat} (h : IsFar G t far) {k : Nat} {x : zaa} (hx : zfa G far t (k + 1) x) : ∃ y, (G x).find? (fun y => far y == some (k + 1)) = some y /\ y ∈ G x /\ far y = some (k + 1) /\ zcr G far (k + 1) x = y :: zcr G far k y /\ zfa G far t k y := by
 have hex : ∃ y, y ∈ G x /\ far y = some (k + 1) := by
  rcases hx with ⟨rfl, hb⟩ | hx
  . obtain ⟨⟨y, hy, hk⟩, _⟩ := zgI hb
    exact ⟨y, hy, hk⟩
  . exact h.next hx
 cases hf : (G x).find? (fun y => far y == some (k + 1)) with
 | none =>
  obtain ⟨y, hy, hk⟩ := hex; have := zq5.1 hf y hy; rw [hk] at this; simp at this
 | some y =>
  have h1 := List.mem_of_find?_eq_some hf; have h2 : far y = some (k + 1) := by simpa using List.find?_some hf
  refine ⟨y, rfl, h1, h2, ?_, .inr h2⟩; show (match (G x).find? (fun y => far y == some (k + 1)) with
   | some y => y :: zcr G far k y
   | none => []) = _
  rw [hf]
def far0 (t : zaa) : zaa -> Option Nat := fun x => if x = t then some 0 else none
def zew (G : zaa -> List zaa) (nodes : List zaa) (d : Nat) (far : zaa -> Option Nat) : zaa -> Option Nat := fun x =>
 match far x with
 | some e => some e
 | none => if nodes.contains x && (G x).any (fun y => far y == some d) then some (d + 1) else none
def farK (G : zaa -> List zaa) (nodes : List zaa) (t : zaa) : Nat -> zaa -> Option Nat
 | 0 => far0 t
 | d + 1 => zew G nodes d (farK G nodes t d)
structure zeq (G : zaa -> List zaa) (nodes : List zaa) : Prop where
 out : ∀ x y, y ∈ G x -> x ∈ nodes /\ y ∈ nodes
 nodup : nodes.Nodup
theorem zdX (G : zaa -> List zaa) (nodes : List zaa) (t : zaa) (hG : zeq G nodes) : ∀ d x, (∀ e, farK G nodes t d x = some e -> e <= d /\ goes G t e x /\ ∀ n, goes G t n x -> e <= n) /\ (farK G nodes t d x = none -> ∀ n, goes G t n x -> d < n)
 | 0, x => by
  unfold farK far0; by_cases hx : x = t
  . rw [if_pos hx]
    exact ⟨fun e he => by cases he; exact ⟨zpx _, hx, fun n _ => zqk _⟩, fun h => by cases h⟩
  . rw [if_neg hx]
    refine ⟨(fun e he => by cases he), fun _ n hn => ?_⟩
    cases n with
    | zero => exact absurd hn hx
    | succ n => omega
 | d + 1, x => by
  obtain ⟨i1, i2⟩ := zdX G nodes t hG d x; show (∀ e, zew G nodes d (farK G nodes t d) x = some e -> _) /\ (zew G nodes d (farK G nodes t d) x = none -> _)
  unfold zew; cases hx : farK G nodes t d x with
  | some e0 =>
   obtain ⟨a1, a2, a3⟩ := i1 e0 hx; exact ⟨fun e he => by cases he; exact ⟨by omega, a2, a3⟩, fun h => by cases h⟩
  | none =>
   have hfar := i2 hx; dsimp only; by_cases hc : (nodes.contains x && (G x).any (fun y => farK G nodes t d y == some d)) = true
   . rw [if_pos hc]
     refine ⟨fun e he => ?_, fun h => by cases h⟩
     cases he
     rw [Bool.and_eq_true] at hc; obtain ⟨y, hy, hyd⟩ := zqU.1 hc.2; have hyd' : farK G nodes t d y = some d := by simpa using hyd
     exact ⟨zpx _, ⟨y, hy, ((zdX G nodes t hG d y).1 d hyd').2.1⟩, fun n hn => hfar n hn⟩
   . rw [if_neg hc]
     refine ⟨(fun e he => by cases he), fun _ n hn => ?_⟩
     have h1 := hfar n hn; rcases Nat.lt_or_ge (d + 1) n with h2 | h2
     . exact h2
     . exfalso
       obtain rfl : n = d + 1 := by omega
       obtain ⟨y, hy, hg⟩ := hn; refine hc ?_; rw [Bool.and_eq_true]; refine ⟨by simpa using (hG.out x y hy).1, zqU.2 ⟨y, hy, ?_⟩⟩
       obtain ⟨j1, j2⟩ := zdX G nodes t hG d y; cases hyd : farK G nodes t d y with
       | none => exact absurd (j2 hyd d hg) (Nat.lt_irrefl _)
       | some e =>
        obtain ⟨b1, b2, b3⟩ := j1 e hyd; have := hfar (e + 1) ⟨y, hy, b2⟩; have : e = d := by omega
        rw [this]; simp
theorem zf5 {α : Type} [DecidableEq α] : ∀ (l k : List α), l.Nodup -> (∀ x ∈ l, x ∈ k) -> l.length <= k.length
 | [], _, _, _ => zqk _
 | x :: r, k, hd, hs => by
  obtain ⟨h1, h2⟩ := List.nodup_cons.1 hd; have hx := hs x zqL; have := zf5 r (k.erase x) h2 (fun y hy => by
   have hne : y ≠ x := fun e => h1 (e ▸ hy)
   exact (List.mem_erase_of_ne hne).2 (hs y (zqM _ hy)))
  rw [List.length_erase_of_mem hx] at this; have hp : 0 < k.length := List.length_pos_of_mem hx; rw [zqh]; omega
theorem zi7 {G : zaa -> List zaa} {nodes : List zaa} {t : zaa} (hG : zeq G nodes) (ht : t ∈ nodes) : ∀ (n : Nat) (x : zaa), goes G t n x -> (∀ m, goes G t m x -> n <= m) -> ∃ l : List zaa, l.length = n + 1 /\ l.Nodup /\ (∀ y ∈ l, y ∈ nodes) /\ ∀ y ∈ l, ∃ j, j <= n /\ goes G t j y /\ ∀ m, goes G t m y -> j <= m
 | 0, x, h, hm => by
  have hx : x = t := h; subst hx; exact ⟨[x], rfl, by simp, fun y hy => by rw [List.mem_singleton.1 hy]; exact ht, fun y hy => by rw [List.mem_singleton.1 hy]; exact ⟨0, zpx _, rfl, fun m _ => zqk _⟩⟩
 | n + 1, x, h, hm => by
  obtain ⟨y, hy, hg⟩ := h; have hym : ∀ m, goes G t m y -> n <= m := fun m hm' => by have := hm (m + 1) ⟨y, hy, hm'⟩; omega
  obtain ⟨l, h1, h2, h3, h4⟩ := zi7 hG ht n y hg hym; refine ⟨x :: l, by rw [zqh, h1], List.nodup_cons.2 ⟨fun hx => ?_, h2⟩, fun u hu => ?_, fun u hu => ?_⟩
  . obtain ⟨j, hj, hgj, _⟩ := h4 x hx
    have := hm j hgj; omega
  . rcases zqE.1 hu with rfl | hu
    . exact (hG.out _ y hy).1
    . exact h3 u hu
  . rcases zqE.1 hu with rfl | hu
    . exact ⟨n + 1, zpx _, ⟨y, hy, hg⟩, hm⟩
    . obtain ⟨j, hj, r⟩ := h4 u hu
      exact ⟨j, by omega, r⟩
theorem zj8 {G : zaa -> List zaa} {t x : zaa} : ∀ n, goes G t n x -> ∃ m, m <= n /\ goes G t m x /\ ∀ k, goes G t k x -> m <= k := by
 intro n; induction n using Nat.strongRecOn with
 | ind n ih =>
  intro h; by_cases hs : ∃ k, k < n /\ goes G t k x
  . obtain ⟨k, hk, hg⟩ := hs
    obtain ⟨m, hm, r⟩ := ih k hk hg; exact ⟨m, by omega, r⟩
  . exact ⟨n, zpx _, h, fun k hk => by
     rcases Nat.lt_or_ge k n with h1 | h1
     . exact absurd ⟨k, h1, hk⟩ hs
     . exact h1⟩
theorem zke (G : zaa -> List zaa) (nodes : List zaa) (t : zaa) (hG : zeq G nodes) (ht : t ∈ nodes) (k : Nat) (hk : nodes.length <= k + 1) : IsFar G t (farK G nodes t k) := by
 refine ⟨fun x d h => ((zdX G nodes t hG k x).1 d h).2.1, fun x n hn => ?_⟩
 obtain ⟨i1, i2⟩ := zdX G nodes t hG k x; cases hx : farK G nodes t k x with
 | some d => exact ⟨d, rfl, (i1 d hx).2.2 n hn⟩
 | none =>
  exfalso
  obtain ⟨m, hm, hg, hmin⟩ := zj8 n hn; have h1 := i2 hx m hg; obtain ⟨l, l1, l2, l3, _⟩ := zi7 hG ht m x hg hmin; have := zf5 l nodes l2 l3; omega
end X
namespace X
open Go.RowKit Go.Maps YtdpgdnpddndeoaaGreatDoorW.PrintWords YtdpgdnpddndeoaaGreatDoorW.PrintMore YtdpgdnpddndeoaaGreatDoorW.PrintLast
theorem zgs (f g : zaa -> Nat) (h : ∀ y, f y <= g y) : ∀ l : List zaa, (l.map f).sum <= (l.map g).sum
 | [] => zpx _
 | x :: r => by
  rw [zpX, zpX, zq4, zq4]; exact Nat.add_le_add (h x) (zgs f g h r)
theorem zeu (f g : zaa -> Nat) (h : ∀ y, f y <= g y) : ∀ (l : List zaa) (x : zaa), x ∈ l -> f x < g x -> (l.map f).sum < (l.map g).sum
 | y :: r, x, hx, hlt => by
  rw [zpX, zpX, zq4, zq4]; rcases zqE.1 hx with rfl | hx
  . have := zgs f g h r
    omega
  . have := zeu f g h r x hx hlt
    have := h y; omega
theorem ze4 (f : zaa -> Nat) (c : Nat) : ∀ l : List zaa, (∀ y, f y <= c) -> (l.map f).sum <= l.length * c
 | [], _ => zqk _
 | x :: r, h => by
  rw [zpX, zq4, zqh, zpO]; have := ze4 f c r h; have := h x; omega
def zcM (nodes : List zaa) (fd : zaa -> Option Nat) : Nat := (nodes.map fun x => if (fd x).isSome then 1 else 0).sum
def phiN (nodes : List zaa) (fd : zaa -> Option Nat) : Nat := (nodes.map fun x => (fd x).getD nodes.length).sum
theorem zgR (nodes : List zaa) (fd : zaa -> Option Nat) : zcM nodes fd <= nodes.length := by
 have := ze4 (fun x => if (fd x).isSome then 1 else 0) 1 nodes (fun y => by split <;> omega)
 unfold zcM; omega
structure FarInv (G : zaa -> List zaa) (nodes : List zaa) (t : zaa) (fd : zaa -> Option Nat) : Prop where
 self : fd t = some 0
 sound : ∀ x d, fd x = some d -> goes G t d x
 low : ∀ x d, fd x = some d -> d < zcM nodes fd
theorem FarInv.init (G : zaa -> List zaa) {nodes : List zaa} {t : zaa} (ht : t ∈ nodes) : FarInv G nodes t (setG (fun _ => none) t 0) := by
 have e : ∀ x d, setG (fun _ => none) t 0 x = some d -> x = t /\ d = 0 := by
  intro x d h; unfold setG at h; split at h
  . cases h; exact ⟨by assumption, rfl⟩
  . cases h
 refine ⟨by unfold setG; rw [if_pos rfl], fun x d h => ?_, fun x d h => ?_⟩
 . obtain ⟨rfl, rfl⟩ := e x d h
   exact rfl
 . obtain ⟨rfl, rfl⟩ := e x d h
   have := zeu (fun _ => 0) (fun y => if (setG (fun _ => none) x 0 y).isSome then 1 else 0) (fun y => zqk _) nodes x ht (by unfold setG; rw [if_pos rfl]; exact Nat.zero_lt_one)
   unfold zcM; omega
theorem FarInv.lt {G : zaa -> List zaa} {nodes : List zaa} {t x : zaa} {fd : zaa -> Option Nat} {d : Nat} (h : FarInv G nodes t fd) (hx : fd x = some d) : d < nodes.length := Nat.lt_of_lt_of_le (h.low x d hx) (zgR nodes fd)
theorem FarInv.phi {G : zaa -> List zaa} {nodes : List zaa} {t : zaa} {fd : zaa -> Option Nat} (h : FarInv G nodes t fd) : phiN nodes fd <= nodes.length * nodes.length := by
 refine ze4 _ _ nodes fun y => ?_
 cases hy : fd y with
 | none => exact zpx _
 | some d => exact Nat.le_of_lt (h.lt hy)
theorem FarInv.put {G : zaa -> List zaa} {nodes : List zaa} {t x y : zaa} {fd : zaa -> Option Nat} {d : Nat} (h : FarInv G nodes t fd) (hx : x ∈ nodes) (hy : y ∈ G x) (hd : fd y = some d) (hn : ∀ e, fd x = some e -> d + 1 < e) :
 FarInv G nodes t (setG fd x (d + 1)) /\ phiN nodes (setG fd x (d + 1)) < phiN nodes fd := by
 have hs : setG fd x (d + 1) x = some (d + 1) := by unfold setG; rw [if_pos rfl]
 have hne : ∀ z, z ≠ x -> setG fd x (d + 1) z = fd z := fun z hz => by unfold setG; rw [if_neg hz]
 have hkle : ∀ z, (if (fd z).isSome then 1 else 0 : Nat) <= if (setG fd x (d + 1) z).isSome then 1 else 0 := by
  intro z; by_cases hz : z = x
  . rw [hz, hs]
    split <;> simp
  . rw [hne z hz]
    exact zpx _
 have hk : zcM nodes fd <= zcM nodes (setG fd x (d + 1)) := zgs _ _ hkle nodes; have hdk : d + 1 < zcM nodes (setG fd x (d + 1)) := by
  cases hfx : fd x with
  | some e =>
   have := hn e hfx; have := h.low x e hfx; omega
  | none =>
   have h1 := h.low y d hd; have h2 : zcM nodes fd < zcM nodes (setG fd x (d + 1)) := zeu _ _ hkle nodes x hx (by rw [hs, hfx]; simp)
   omega
 have hN := zgR nodes (setG fd x (d + 1)); refine ⟨⟨?_, fun z e hz => ?_, fun z e hz => ?_⟩, ?_⟩
 . have : t ≠ x := by
    rintro rfl; have := hn 0 h.self; omega
   rw [hne t this, h.self]
 . by_cases hzx : z = x
   . subst hzx
     rw [hs] at hz; cases hz
     exact ⟨y, hy, h.sound y d hd⟩
   . rw [hne z hzx] at hz
     exact h.sound z e hz
 . by_cases hzx : z = x
   . subst hzx
     rw [hs] at hz; cases hz
     exact hdk
   . rw [hne z hzx] at hz
     have := h.low z e hz; omega
 . refine zeu _ _ (fun z => ?_) nodes x hx ?_
   . by_cases hz : z = x
     . rw [hz, hs]
       cases hfx : fd x with
       | some e => exact Nat.le_of_lt (hn e hfx)
       | none => show d + 1 <= nodes.length; omega
     . rw [hne z hz]
       exact zpx _
   . show (setG fd x (d + 1) x).getD nodes.length < (fd x).getD nodes.length
     rw [hs]; cases hfx : fd x with
     | some e => exact hn e hfx
     | none => show d + 1 < nodes.length; omega
def zc3 (G : zaa -> List zaa) (fd : zaa -> Option Nat) (x : zaa) : Prop := ∀ y ∈ G x, ∀ d, fd y = some d -> ∃ e, fd x = some e /\ e <= d + 1
theorem FarInv.is {G : zaa -> List zaa} {nodes : List zaa} {t : zaa} {fd : zaa -> Option Nat} (h : FarInv G nodes t fd) (hc : ∀ x, zc3 G fd x) : IsFar G t fd := zjz h.self h.sound fun x y d hy hd => hc x y hy d hd
def IntIs (w : World) (b n : Nat) (fd : zaa -> Option Nat) : Prop := ∃ f, MapIs zp5 9 w b n f /\ ∀ k, f k = (fd k).map fun d => Value.int .i64 (d : Int)
theorem IntIs.made (w : World) : IntIs (w.alloc (.map #[] 0)) w.heap.size 0 (fun _ => none) := ⟨_, MapIs.made w, fun _ => rfl⟩
theorem IntIs.lt {w : World} {b n : Nat} {g : zaa -> Option Nat} (h : IntIs w b n g) : b < w.heap.size := by obtain ⟨f, h, _⟩ := h; exact h.lt
theorem IntIs.below {w w' : World} {b n : Nat} {g : zaa -> Option Nat} (h : IntIs w b n g) (hb : Below w.heap.size w w') : IntIs w' b n g := by obtain ⟨f, h, h2⟩ := h; exact ⟨f, h.below hb, h2⟩
theorem IntIs.grown {w w' : World} {b n : Nat} {g : zaa -> Option Nat} {row : Option Nat} (h : IntIs w b n g) (hg : w.grownBy w' row) (hne : some b ≠ row) : IntIs w' b n g := by obtain ⟨f, h, h2⟩ := h; exact ⟨f, h.grown hg hne, h2⟩
theorem IntIs.ne_cells {w : World} {b n : Nat} {g : zaa -> Option Nat} (h : IntIs w b n g) {a t : Nat} {cs : Array Value} {fr : Nat × Nat} (hg : w.heap[a]? = some (.cells cs t fr)) : b ≠ a := by obtain ⟨f, h, _⟩ := h; exact h.ne_cells hg
theorem IntIs.look2 {w : World} {b n : Nat} {g : zaa -> Option Nat} (h : IntIs w b n g) (k : ByteArray) (hs : k.size <= maxLen) :
 (Instr.lookup 162 (.map (some b)) (.string k) true).run zp5 w = .ok (.tuple #[.int .i64 (((g k.data.toList).getD 0 : Nat) : Int), .bool (g k.data.toList).isSome]) w := by
 obtain ⟨f, h, h2⟩ := h; rw [h.look2 Tryz.underlying9 Tryz.underlying162 (Tryz.zeroValue3 w) k hs, h2]; cases g k.data.toList <;> rfl
theorem IntIs.put {w : World} {b n : Nat} {g : zaa -> Option Nat} (h : IntIs w b n g) (hn : n < maxLen) (k : ByteArray) (hs : k.size <= maxLen) (v : Nat) :
 ∃ w', (Instr.mapUpdate 162 (.map (some b)) (.string k) (.int .i64 (v : Int))).run zp5 w = .ok () w' /\ IntIs w' b (n + 1) (setG g k.data.toList v) /\ w.grownBy w' (some b) := by
 obtain ⟨f, h, h2⟩ := h; obtain ⟨w', hrun, h', hg⟩ := h.store Tryz.underlying9 Tryz.underlying162 hn k hs (.int .i64 (v : Int)); refine ⟨w', hrun, ⟨_, h', fun x => ?_⟩, hg⟩
 unfold setF setG; split
 . rfl
 . exact h2 x
structure FSt (w : World) (K m n : Nat) (fd : zaa -> Option Nat) : Prop where
 c : w.heap[K]? = some (.cells #[.map (some m)] 162 (0, 0))
 e : IntIs w m n fd
theorem FSt.below {w w' : World} {K m n : Nat} {fd : zaa -> Option Nat} (h : FSt w K m n fd) (hb : Below w.heap.size w w') : FSt w' K m n fd := ⟨zai h.c hb, h.e.below hb⟩
theorem FSt.grown {w w' : World} {K m n : Nat} {fd : zaa -> Option Nat} {row : Option Nat} (h : FSt w K m n fd) (hg : w.grownBy w' row) (h1 : some K ≠ row) (h2 : some m ≠ row) : FSt w' K m n fd := ⟨zaY h.c hg h1, h.e.grown hg h2⟩
theorem FSt.cell {w : World} {K m n : Nat} {fd : zaa -> Option Nat} (h : FSt w K m n fd) : w.cell? ⟨K, 0, none⟩ = some (.map (some m)) := (zah h.c 0).trans rfl
theorem FSt.put {w : World} {K m n : Nat} {fd : zaa -> Option Nat} (h : FSt w K m n fd) (hn : n < maxLen) (k : ByteArray) (hs : k.size <= maxLen) (v : Nat) :
 ∃ w', (Instr.mapUpdate 162 (.map (some m)) (.string k) (.int .i64 (v : Int))).run zp5 w = .ok () w' /\ FSt w' K m (n + 1) (setG fd k.data.toList v) /\ w.grownBy w' (some m) := by
 obtain ⟨w', hrun, he, hg⟩ := h.e.put hn k hs v; exact ⟨w', hrun, ⟨zaY h.c hg (by intro e; injection e with e; exact h.e.ne_cells h.c e.symm), he⟩, hg⟩
section
variable {P : Program} {kt et t : TypeId} {w : World} {b n : Nat} {f : zaa -> Option Value} {ops : Array Oper} {rest : List Oper} {o : Oper} {a : Act} {Q : Exit -> Act -> World -> Prop}
theorem zkm (hg : o.guard = none) (m : Operand) (hop : o.op = Op.range t m) (hk : P.underlying kt = some .string) (ht : P.underlying t = some (.map kt et)) (hm : a.eval m = .map (some b)) (h : MapIs P kt w b n f)
 (hK : ∀ w' cnt, RangesIs P kt w' b w.heap.size n f (fun k => (f k).isSome) cnt -> cnt <= n -> w.grownBy w' none -> w'.heap.size = w.heap.size + 1 -> wpList P ops Q rest (a.put o.dst (.pointer (some ⟨w.heap.size, 0, none⟩))) w') :
 wpList P ops Q (o :: rest) a w := by
 refine wpList_plain hg fun K' hK' => ?_
 obtain ⟨w', cnt, hrun, r1, r0, r2, r3⟩ := h.range hk ht; unfold Oper.wp; simp [execOp, hop, hm, hrun, Result.andThen]
 exact hK' _ _ (hK w' cnt r1 r0 r2 r3)
theorem zou (hg : o.guard = none) (it : Operand) (hop : o.op = Op.next it false) (hk : P.underlying kt = some .string) {r cnt : Nat} {left : zaa -> Bool} (hit : a.eval it = .pointer (some ⟨r, 0, none⟩)) (h : RangesIs P kt w b r n f left cnt)
 (hDone : cnt = 0 -> (∀ k, left k = false) -> wpList P ops Q rest (a.put o.dst (.tuple #[.bool false])) w)
 (hMore : ∀ (k : ByteArray) (v : Value) (w' : World) (cnt' : Nat), k.size <= maxLen -> left k.data.toList = true -> f k.data.toList = some v -> RangesIs P kt w' b r n f (fun x => left x && !(x == k.data.toList)) cnt' -> cnt' < cnt -> w.grownBy w' (some r) -> w'.heap.size = w.heap.size ->
  (Instr.entry (.pointer (some ⟨r, 0, none⟩))).run P w' = .ok (.tuple #[.string k, v]) w' -> wpList P ops Q rest (a.put o.dst (.tuple #[.bool true, .string k, v])) w') :
 wpList P ops Q (o :: rest) a w := by
 refine wpList_plain hg fun K' hK' => ?_
 unfold Oper.wp; rcases h.next hk o.type with ⟨h0, hl, hrun⟩ | ⟨k, v, w', cnt', hks, hlk, hf, hrun, hrg, hlt, hgr, hsz, hen⟩
 . simp [execOp, hop, hit, hrun, Result.andThen]
   exact hK' _ _ (hDone h0 hl)
 . simp [execOp, hop, hit, hrun, Result.andThen]
   exact hK' _ _ (hMore k v w' cnt' hks hlk hf hrg hlt hgr hsz hen)
end
theorem zoL : ∀ args w, (callFunc 137 args).run zp5 w = .ok (.enter 137 args) w := Go.Proofs.enters_of Tryz.func137 (by kernel_rfl) rfl
theorem zj6 (K m n J k : Nat) (fd : zaa -> Option Nat) (x : ByteArray) (w : World) (h : FSt w K m n fd) (hJ : w.cell? ⟨J, 0, none⟩ = some (.int .i64 (k : Int))) (hx : x.size <= maxLen) :
 Calls zp5 137 #[.string x, .pointer (some ⟨K, 0, none⟩), .pointer (some ⟨J, 0, none⟩)] w fun e w' => e = .returned (.bool (fd x.data.toList == some k)) /\ w = w' := by
 have hl := h.e.look2 x hx; have hc := h.cell; clear h; generalize fd x.data.toList = q at hl |-; go_enter Tryz.func137, Tryz.ntmps137
 cases q with
 | none =>
  simp only [Option.getD_none, Option.isSome_none] at hl; go_wp2_with fail; go_ret
  exact ⟨rfl, rfl⟩
 | some d =>
  simp only [Option.getD_some, Option.isSome_some] at hl; by_cases hd : d = k
  . subst hd
    go_wp2_with fail; go_ret
    exact ⟨by simp, rfl⟩
  . have hdz : ¬ (d : Int) = (k : Int) := by omega
    go_wp2_with fail; go_ret
    have e1 : ((d : Int) == (k : Int)) = false := by simpa using hdz
    have e2 : (d == k) = false := by simpa using hd
    exact ⟨by simp [e1, e2], rfl⟩
theorem zlb (g : Nat) (lb : Array Value) (eg : ∀ args w, (callFunc g args).run zp5 w = .ok (.enter g args) w) (p : ByteArray -> Bool) (A : Option Addr) (c : Nat) (l : List ByteArray) (w : World) (hl0 : l.length <= 9223372036854775807)
 (hr : Kd.C zqb w A l.length l) (hp : ∀ (W : World), Below w.heap.size w W -> ∀ x ∈ l, Calls zp5 g (#[.string x] ++ lb) W fun e w' => e = .returned (.bool (p x)) /\ Below W.heap.size W w') :
 Calls zp5 76 #[.slice A l.length c, .func (.func g) #[] lb] w fun e w' => ((l.any p = false /\ e = .returned (.int .i64 (-1))) \/ ∃ (i : Nat) (h : i < l.length), e = .returned (.int .i64 i) /\ l.find? p = some l[i]) /\ Below w.heap.size w w' := by
 have hlen : l.length <= 9223372036854775807 := hr.2.1; have HP := zpt hp; have HR := zpt hr; clear hp hr; go_enter Tryz.func76, Tryz.ntmps76
 go_wp2_with fail; go_loopg [5, 8] l.length (fun gg _ s8 wr => ∃ kk : Nat, kk <= l.length /\ l.length - kk <= gg /\ s8 = .int .i64 kk /\ Aside0 (Below w.heap.size w wr) /\ Aside0 ((l.take kk).any p = false))
 case atStart => exact ⟨0, zqk _, by omega, rfl, ⟨zpw _ _⟩, ⟨rfl⟩⟩
 case round =>
  obtain ⟨kk, hkk, hgk, rfl, HB, HA⟩ := hrel; by_cases hlt : kk < l.length
  . have hltz : (kk : Int) < (l.length : Int) := by omega
    obtain ⟨b, o, rfl, p0⟩ := za4 (zqS HR.out HB.out) kk hlt; have hS : (l.take (kk + 1)).any p = ((l.take kk).any p || p l[kk]) := by rw [zpZ hlt, List.any_append]; simp
    rw [HA.out, zqT] at hS; have hfind : p l[kk] = true -> l.find? p = some l[kk] := fun h => by
     have e : l = l.take kk ++ (l[kk] :: l.drop (kk + 1)) := by rw [<- zp1 hlt, zq2]
     have h0 : (l.take kk).find? p = none := by
      rw [zq5]; intro x hx hpx; have := HA.out; rw [zq3] at this; exact this x hx hpx
     have e2 : l.find? p = (l.take kk ++ (l[kk] :: l.drop (kk + 1))).find? p := congrArg (List.find? p) e; rw [e2, List.find?_append, h0, List.find?_cons, h]; rfl
    have hcall := HP.out wr HB.out l[kk] (zqQ hlt); have HS := zpt hS; have HFi := zpt hfind; generalize hpk : p l[kk] = q at hcall HS HFi; generalize hxk : l[kk] = x at p0 hcall; clear hS hfind hpk; cases q with
    | true =>
     have HFi2 := zpt (HFi.out rfl); have HX2 := zpt hxk; clear hxk; go_wp2_with (first | (go_at_fn g; refine hcall.mono ?_; rintro e w2 ⟨rfl, hb2⟩; have HB2 := zpt (zac HB.out HB.out.size hb2); clear hb2))
     go_ret
     exact ⟨.inr ⟨kk, hlt, rfl, HFi2.out⟩, HB2.out⟩
    | false =>
     clear hxk; go_wp2_with (first | (go_at_fn g; refine hcall.mono ?_; rintro e w2 ⟨rfl, hb2⟩; have HB2 := zpt (zac HB.out HB.out.size hb2); clear hb2))
     go_roundg (l.length - (kk + 1))
     case measure => omega
     case rel => exact ⟨kk + 1, by omega, by omega, by first | rfl | go_num, ⟨HB2.out⟩, ⟨HS.out⟩⟩
  . have hltz : ¬ (kk : Int) < (l.length : Int) := by omega
    obtain rfl : kk = l.length := by omega
    have hA := HA.out; rw [zqf] at hA; have HA2 := zpt hA; clear hA; go_wp2_with fail; go_ret
    exact ⟨.inl ⟨by first | exact HA2.out | (intro x hx; simpa using zq3.1 HA2.out x hx), rfl⟩, HB.out⟩
end X
end Go.Proofs.YtdpgdnpddndeoaaGreatDoor
