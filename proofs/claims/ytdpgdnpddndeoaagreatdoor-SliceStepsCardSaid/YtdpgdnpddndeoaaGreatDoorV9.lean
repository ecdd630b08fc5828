/-
  What the cards lean on (part V9): contracts of functions, by hand, and plain laws; what is printed by the kit's print for this seat is among them. What is not reached is left out.
-/
import Derived.Deep.RegionHeld3
import Derived.Test.YtdpgdnpddndeoaaGreatDoorV8
import Derived.Test.YtdpgdnpddndeoaaGreatDoorV7
set_option maxHeartbeats 16000000
set_option maxRecDepth 100000
set_option linter.unusedSimpArgs false
set_option linter.unusedVariables false
open Go.RowKit.Below renaming refl -> zpw
open Nat renaming le_refl -> zpx, zero_le -> zqk, ne_of_lt -> zqG
open List renaming getElem?_eq_getElem -> zpA, length_map -> zqe, length_take -> zpI, map_nil -> zpY, take_succ_eq_append_getElem -> zpZ, drop_eq_getElem_cons -> zp1, append_nil -> zqD, take_of_length_le -> zqP, drop_of_length_le -> zqw, map_append -> zqo, getElem_mem -> zqQ, take_zero -> zqX, setIfInBounds_toArray -> zqZ, set_cons_zero -> zq0, set_cons_succ -> zq1
open Int renaming toNat_natCast -> zqN
open Bool renaming false_or -> zqT
open Or renaming inl -> zqY
open Go.Proofs.Tryz renaming prog -> zp5
open Go.Proofs.YtdpgdnpddndeoaaGreatDoorW.PrintWords.Kd renaming C_below -> zqS, string -> zqb, R_reads -> zqq, R_below -> zqu, R_set -> zqK
namespace Go.Proofs.YtdpgdnpddndeoaaGreatDoor
open Go.RowKit Go.Maps YtdpgdnpddndeoaaGreatDoorW.PrintWords YtdpgdnpddndeoaaGreatDoorW.PrintMore YtdpgdnpddndeoaaGreatDoorW.PrintLast
namespace X
theorem zkW (A : Option Addr) (c : Nat) (l : List zaw) (w : World) (hG : GOK w) (hr : Kd.C k24 w A l.length l) (hl : l.length <= 1000) :
 Calls zp5 134 #[.slice A l.length c, .func (.func 97) #[] #[]] w fun e w' => ∃ i : Int, e = .returned (.int .i64 i) /\ decide (0 <= i) = l.any (fun x => zbK (zaC x)) /\ Below w.heap.size w w' := by
 have HR := zpt hr; have HG := zpt hG; have eg := zod; clear hr hG; go_enter Tryz.func134, Tryz.ntmps134
 go_wp2_with fail; go_loopg [5, 8] l.length (fun gg _ s8 wr => ∃ kk : Nat, kk <= l.length /\ l.length - kk <= gg /\ s8 = .int .i64 kk /\ Aside0 (Below w.heap.size w wr) /\ Aside0 (((l.take kk).any fun x => zbK (zaC x)) = false))
 case atStart => exact ⟨0, zqk _, by omega, rfl, ⟨zpw _ _⟩, ⟨rfl⟩⟩
 case round =>
  obtain ⟨kk, hkk, hgk, rfl, HB, HA⟩ := hrel; by_cases hlt : kk < l.length
  . have hltz : (kk : Int) < (l.length : Int) := by omega
    obtain ⟨b, o, C2, d2, C3, d3, rfl, p0, p1, p2, p3, p4, g2, g3⟩ := zcA (zqS HR.out HB.out) kk hlt; have hS : ((l.take (kk + 1)).any fun x => zbK (zaC x)) = (((l.take kk).any fun x => zbK (zaC x)) || zbK (zaC l[kk])) := by rw [zpZ hlt, List.any_append]; simp
    rw [HA.out, zqT] at hS; have hmem : zbK (zaC l[kk]) = true -> (l.any fun x => zbK (zaC x)) = true := fun h => List.any_eq_true.2 ⟨_, zqQ hlt, h⟩
    have hcall := zkk l[kk] C2 d2 C3 d3 wr (HG.out.below HB.out) g2 g3; have HS := zpt hS; have HM := zpt hmem; generalize zbK (zaC l[kk]) = q at hcall HS HM; generalize l[kk] = x at p0 p1 p2 p3 p4 hcall; unfold zgn at hcall; clear hS hmem g2 g3; cases q with
    | true =>
     go_wp2_with (first | (go_at_fn 97; refine hcall.mono ?_; rintro e w2 ⟨rfl, hb2⟩; have HB2 := zpt (zac HB.out HB.out.size hb2); clear hb2))
     go_ret
     exact ⟨kk, rfl, by rw [HM.out trivial]; simp, HB2.out⟩
    | false =>
     go_wp2_with (first | (go_at_fn 97; refine hcall.mono ?_; rintro e w2 ⟨rfl, hb2⟩; have HB2 := zpt (zac HB.out HB.out.size hb2); clear hb2))
     go_roundg (l.length - (kk + 1))
     case measure => omega
     case rel => exact ⟨kk + 1, by omega, by omega, by first | rfl | go_num, ⟨HB2.out⟩, ⟨HS.out⟩⟩
  . have hltz : ¬ (kk : Int) < (l.length : Int) := by omega
    obtain rfl : kk = l.length := by omega
    have hA := HA.out; rw [List.take_length] at hA; have HA2 := zpt hA; clear hA; go_wp2_with fail; go_ret
    exact ⟨-1, rfl, by rw [HA2.out]; rfl, HB.out⟩
theorem zkc (A : Option Addr) (c : Nat) (l : List zaw) (w : World) (hG : GOK w) (hr : Kd.C k24 w A l.length l) (hl : l.length <= 1000) :
 Calls zp5 96 #[.slice A l.length c, .func (.func 97) #[] #[]] w fun e w' => e = .returned (.bool (l.any (fun x => zbK (zaC x)))) /\ Below w.heap.size w w' := by
 have hI := zkW A c l w hG hr hl; generalize l.any (fun x => zbK (zaC x)) = q at hI |-
 clear hG hr; go_enter Tryz.func96, Tryz.ntmps96
 go_wp2_with (go_at_call 134; refine hI.mono ?_; rintro e w2 ⟨i, rfl, hq, hb2⟩)
 go_ret
 exact ⟨by rw [<- hq]; rfl, hb2⟩
theorem zpr (r : zaj) : zcO (zbu r) = (may r.f0.data.toList && !(decide (r.f2.length = 0)) && ((zab r.f1).all may && (zab r.f2).all may && (zab r.f3).all may) && !(r.f4.any fun x => zbK (zaC x))) := by
 unfold zcO zbu zao; dsimp only; have h1 : (zab r.f2).isEmpty = decide (r.f2.length = 0) := by
  cases h : r.f2 with
  | nil => rfl
  | cons a l => simp [zab]
 have h2 : ((r.f4.map zaC).all fun s => may s.out && s.args.all may && mayC s.cmd) = !(r.f4.any fun x => zbK (zaC x)) := by
  rw [List.all_map, List.not_any_eq_all_not]; congr 1
  funext x
  unfold zbK; simp
 rw [h1, h2]
theorem zmk (r : zaj) (B1 : Option Addr) (c1 : Nat) (B2 : Option Addr) (c2 : Nat) (B3 : Option Addr) (c3 : Nat) (B4 : Option Addr) (c4 : Nat) (w : World) (hG : GOK w) (hA : RuleAt r B1 B2 B3 B4 w) (hl : r.f4.length <= 1000) :
 Calls zp5 69 #[.agg (zal r B1 c1 B2 c2 B3 c3 B4 c4)] w fun e w' => e = .returned (.bool (zcO (zbu r))) /\ Below w.heap.size w w' := by
 have hW := (zpw w.heap.size w).alloc (zpx _) (.cells (zal r B1 c1 B2 c2 B3 c3 B4 c4) 45); have HK := zpt (zap w (.cells (zal r B1 c1 B2 c2 B3 c3 B4 c4) 45)); have HB := zpt hW; have HA := zpt (hA.below hW); have HG := zpt (hG.below hW); have hln : r.f2.length <= 9223372036854775807 := hA.h2.2.1; rw [zpr]; have HN := zpt (fun W (hG : GOK W) => zfw r.f0 W hG)
 have H1 := zpt (fun W (hG : GOK W) (h : Kd.C zqb W B1 r.f1.length r.f1) => zeS B1 c1 r.f1 W hG h)
 have H2 := zpt (fun W (hG : GOK W) (h : Kd.C zqb W B2 r.f2.length r.f2) => zeS B2 c2 r.f2 W hG h)
 have H3 := zpt (fun W (hG : GOK W) (h : Kd.C zqb W B3 r.f3.length r.f3) => zeS B3 c3 r.f3 W hG h)
 have H4 := zpt (fun W (hG : GOK W) (h : Kd.C k24 W B4 r.f4.length r.f4) => zkc B4 c4 r.f4 W hG h hl)
 generalize may r.f0.data.toList = q0 at HN |-; generalize (zab r.f1).all may = q1 at H1 |-; generalize (zab r.f2).all may = q2 at H2 |-; generalize (zab r.f3).all may = q3 at H3 |-; generalize r.f4.any (fun x => zbK (zaC x)) = q4 at H4 |-
 clear hW hA hG hl; unfold zal at *; go_enter Tryz.func69, Tryz.ntmps69
 go_upto_if 13 with fail; generalize w.alloc (.cells #[.string r.f0, .slice B1 r.f1.length c1, .slice B2 r.f2.length c2, .slice B3 r.f3.length c3, .slice B4 r.f4.length c4] 45) = w1 at HB HK HA HG |-; have k0 := bc0 HK.out; cases q0 with
 | false =>
  go_wp2_with (first | (go_at_call 95; refine (HN.out _ HG.out).mono ?_; rintro e w2 ⟨rfl, hb2⟩))
  go_ret
  exact ⟨rfl, zac HB.out HB.out.size hb2⟩
 | true =>
  by_cases hz : r.f2.length = 0
  . have d0 : ((r.f2.length : Int) == 0) = true := by simp [hz]
    have hF : (true && !(decide (r.f2.length = 0)) && (q1 && q2 && q3) && !q4) = false := by simp [hz]
    have HF := zpt hF; have HZ := zpt hz; clear hz hF; go_wp2_with (first | (go_at_call 95; refine (HN.out _ HG.out).mono ?_; rintro e w2 ⟨rfl, hb2⟩; have HK2 := zpt (zai HK.out hb2); have j2 := bc2 HK2.out))
    go_ret
    exact ⟨by rw [HF.out]; rfl, zac HB.out HB.out.size hb2⟩
  . have d0 : ((r.f2.length : Int) == 0) = false := by simpa using hz
    have hF : (true && !(decide (r.f2.length = 0)) && (q1 && q2 && q3) && !q4) = ((q1 && q2 && q3) && !q4) := by simp [hz]
    have HF := zpt hF; clear hz hF; go_upto_region 3 with (first | (go_at_call 95; refine (HN.out _ HG.out).mono ?_; rintro e w2 ⟨rfl, hb2⟩; have HK2 := zpt (zai HK.out hb2); have j2 := bc2 HK2.out))
    have HB2 := zpt (zac HB.out HB.out.size hb2); have HA2 := zpt (HA.out.below hb2); have HG2 := zpt (HG.out.below hb2); have hb3 := (zpw w2.heap.size w2).alloc (zpx _) (.cells #[.slice B1 r.f1.length c1, .slice B2 r.f2.length c2, .slice B3 r.f3.length c3] 22); have HX3 := zpt (zap w2 (.cells #[.slice B1 r.f1.length c1, .slice B2 r.f2.length c2, .slice B3 r.f3.length c3] 22)); have HB3 := zpt (zac HB2.out HB2.out.size hb3); have HA3 := zpt (HA2.out.below hb3); have HG3 := zpt (HG2.out.below hb3); have HK3 := zpt (zai HK2.out hb3); have j1 := bc1 HK2.out; have j3 := bc3 HK2.out; clear hb2 hb3; go_upto_block 0 with fail; generalize hg2 : w2.heap.size = g at HX3 |-; generalize w2.alloc (.cells #[.slice B1 r.f1.length c1, .slice B2 r.f2.length c2, .slice B3 r.f3.length c3] 22) = w3 at HX3 HB3 HA3 HG3 HK3 |-; clear hg2 j1 j2 j3 k0; go_wp2_with fail; go_loopg [4, 22] 3 (fun gg _ s22 wr => ∃ kk : Nat, kk <= 3 /\ 3 - kk <= gg /\ s22 = .int .i64 kk /\ Aside0 ((0 < kk -> q1 = true) /\ (1 < kk -> q2 = true) /\ (2 < kk -> q3 = true)) /\ Aside0 (Below w3.heap.size w3 wr))
    case atStart => exact ⟨0, by omega, by omega, rfl, ⟨fun h => absurd h (by omega), fun h => absurd h (by omega), fun h => absurd h (by omega)⟩, ⟨zpw _ _⟩⟩
    case round =>
     obtain ⟨kk, hkk, hgk, rfl, HQ, HW⟩ := hrel; have HXr := zpt (zai HX3.out HW.out); have x0 := bc0 HXr.out; have x1 := bc1 HXr.out; have x2 := bc2 HXr.out; have HAr := zpt (HA3.out.below HW.out); have HGr := zpt (HG3.out.below HW.out); have HBr := zpt (zac HB3.out HB3.out.size HW.out); have hkc : kk = 0 \/ kk = 1 \/ kk = 2 \/ kk = 3 := by omega
     rcases hkc with rfl | rfl | rfl | rfl
     . cases q1 with
       | false =>
        go_wp2_with (first | (go_at_call 56; refine (H1.out _ HGr.out HAr.out.h1).mono ?_; rintro e w4 ⟨rfl, hb4⟩))
        go_ret
        exact ⟨by rw [HF.out]; rfl, zac HBr.out HBr.out.size hb4⟩
       | true =>
        go_wp2_with (first | (go_at_call 56; refine (H1.out _ HGr.out HAr.out.h1).mono ?_; rintro e w4 ⟨rfl, hb4⟩))
        go_roundg 2
        case measure => omega
        case rel => exact ⟨1, by omega, by omega, by first | rfl | go_num, ⟨fun _ => by trivial, fun h => absurd h (by omega), fun h => absurd h (by omega)⟩, ⟨zac HW.out HW.out.size hb4⟩⟩
     . cases q2 with
       | false =>
        have hF2 := HF.out; go_wp2_with (first | (go_at_call 56; refine (H2.out _ HGr.out HAr.out.h2).mono ?_; rintro e w4 ⟨rfl, hb4⟩))
        go_ret
        exact ⟨by rw [HF.out]; simp, zac HBr.out HBr.out.size hb4⟩
       | true =>
        go_wp2_with (first | (go_at_call 56; refine (H2.out _ HGr.out HAr.out.h2).mono ?_; rintro e w4 ⟨rfl, hb4⟩))
        go_roundg 1
        case measure => omega
        case rel => exact ⟨2, by omega, by omega, by first | rfl | go_num, ⟨fun _ => HQ.out.1 (by omega), fun _ => by trivial, fun h => absurd h (by omega)⟩, ⟨zac HW.out HW.out.size hb4⟩⟩
     . cases q3 with
       | false =>
        go_wp2_with (first | (go_at_call 56; refine (H3.out _ HGr.out HAr.out.h3).mono ?_; rintro e w4 ⟨rfl, hb4⟩))
        go_ret
        exact ⟨by rw [HF.out]; simp, zac HBr.out HBr.out.size hb4⟩
       | true =>
        go_wp2_with (first | (go_at_call 56; refine (H3.out _ HGr.out HAr.out.h3).mono ?_; rintro e w4 ⟨rfl, hb4⟩))
        go_roundg 0
        case measure => omega
        case rel => exact ⟨3, by omega, by omega, by first | rfl | go_num, ⟨fun _ => HQ.out.1 (by omega), fun _ => HQ.out.2.1 (by omega), fun _ => by trivial⟩, ⟨zac HW.out HW.out.size hb4⟩⟩
     . have hq : (q1 && q2 && q3) = true := by rw [HQ.out.1 (by omega), HQ.out.2.1 (by omega), HQ.out.2.2 (by omega)]; rfl
       have hF3 : (true && !(decide (r.f2.length = 0)) && (q1 && q2 && q3) && !q4) = !q4 := by rw [HF.out, hq, Bool.true_and]
       have HF3 := zpt hF3; have HKr := zpt (zai HK3.out HW.out); have i4 := bc4 HKr.out; clear hq hF3; go_wp2_with (first | (go_at_call 96; refine (H4.out _ HGr.out HAr.out.h4).mono ?_; rintro e w4 ⟨rfl, hb4⟩))
       go_ret
       exact ⟨by rw [HF3.out]; rfl, zac HBr.out HBr.out.size hb4⟩
theorem zkM {w : World} {A : Option Addr} {l : List ByteArray} (h : Kd.C zqb w A l.length l) {k : Nat} (hk : k <= l.length) : Kd.C zqb w A k (l.take k) := by
 refine ⟨by rw [zpI]; omega, by have := h.2.1; omega, fun hp => ?_⟩
 obtain ⟨ad, rfl, hc⟩ := h.2.2 (by omega)
 refine ⟨ad, rfl, fun j x hx => hc j x ?_⟩
 rw [List.getElem?_take] at hx; split at hx
 . exact hx
 . cases hx
theorem zo4 (l : List ByteArray) (k : Nat) : zab (l.take k) = (zab l).take k := by unfold zab; rw [List.map_take]
theorem zk9 {l : List zaa} {k : Nat} (h : k < l.length) : (l.take (k + 1)).Nodup ↔ (l.take k).Nodup /\ l[k] ∉ l.take k := by
 rw [zpZ h, List.nodup_append]; simp only [List.nodup_cons, List.not_mem_nil, not_false_eq_true, List.nodup_nil, and_self, List.mem_singleton, true_and]; constructor
 . rintro ⟨h1, h2⟩
   exact ⟨h1, fun hm => h2 _ hm _ rfl rfl⟩
 . rintro ⟨h1, h2⟩
   exact ⟨h1, fun a ha b hb e => h2 (by rw [<- hb, <- e]; exact ha)⟩
theorem zfW (A : Option Addr) (c : Nat) (l : List ByteArray) (w : World) (hr : Kd.C zqb w A l.length l) (hc : l.length <= c) :
 Calls zp5 98 #[.slice A l.length c] w fun e w' => e = .returned (.bool (zaL (zab l))) /\ w = w' := by
 have hlen : l.length <= 9223372036854775807 := hr.2.1; have HR := zpt hr; obtain ⟨T, hT⟩ : ∃ T, T = zaL (zab l) := ⟨_, rfl⟩; rw [<- hT]; have HT := zpt hT; clear hr hT; go_enter Tryz.func98, Tryz.ntmps98
 go_wp2_with fail; go_loopg [3, 4, 7] l.length (fun gg _ _ s7 wr => ∃ kk : Nat, kk <= l.length /\ l.length - kk <= gg /\ s7 = .int .i64 kk /\ Aside0 (((zab l).take kk).Nodup) /\ wr = w)
 case atStart => exact ⟨0, zqk _, by omega, rfl, ⟨List.nodup_nil⟩, rfl⟩
 case round =>
  obtain ⟨kk, hkk, hgk, rfl, HN, rfl⟩ := hrel; by_cases hlt : kk < l.length
  . have hltz : (kk : Int) < (l.length : Int) := by omega
    obtain ⟨b, o, rfl, p0⟩ := za4 HR.out kk hlt; have hl2 : (l.take kk).length = kk := by rw [zpI]; omega
    have hct := zdg (some ⟨b, o, none⟩) c (l.take kk) l[kk] wr (by rw [hl2]; exact zkM HR.out (by omega))
    rw [hl2, zo4] at hct; have hnd := zk9 (l := zab l) (k := kk) (by rw [zaT]; exact hlt)
    rw [zco l kk hlt] at hnd; have hTt : ((zab l).take kk).contains l[kk].data.toList = true -> T = true := by
     intro h; rw [HT.out]; unfold zaL; have : ¬ (zab l).Nodup := by
      intro hn; have h2 : ((zab l).take (kk + 1)).Nodup := (List.take_sublist _ _).nodup hn; exact (hnd.1 h2).2 (by simpa using h)
     simp [this]
    have hTf : ((zab l).take kk).contains l[kk].data.toList = false -> ((zab l).take (kk + 1)).Nodup := fun h => hnd.2 ⟨HN.out, by simpa using h⟩
    have HTt := zpt hTt; have HTf := zpt hTf; have hb1 : (kk : Int) <= (l.length : Int) := by omega
    have hb2 : (l.length : Int) <= (c : Int) := by omega
    have hb3 : (kk : Int) <= (c : Int) := by omega
    have hb0 : (0 : Int) <= (kk : Int) := by omega
    generalize ((zab l).take kk).contains l[kk].data.toList = q at hct HTt HTf; generalize l[kk] = y at p0 hct; have HCt := zpt hct; clear hnd hTt hTf hct hl2; cases q with
    | true =>
     have HF : Hid (T = true) := zpt (HTt.out (by trivial))
     go_wp2_with (first | (go_at_call 92; refine HCt.out.mono ?_; rintro e w2 ⟨rfl, rfl⟩))
     go_ret
     exact ⟨by rw [HF.out]; rfl, rfl⟩
    | false =>
     have HF := zpt (HTf.out (by trivial))
     go_wp2_with (first | (go_at_call 92; refine HCt.out.mono ?_; rintro e w2 ⟨rfl, rfl⟩))
     go_roundg (l.length - (kk + 1))
     case measure => omega
     case rel => exact ⟨kk + 1, by omega, by omega, by first | rfl | go_num, ⟨HF.out⟩, rfl⟩
  . have hltz : ¬ (kk : Int) < (l.length : Int) := by omega
    obtain rfl : kk = l.length := by omega
    have hF : T = false := by
     rw [HT.out]; unfold zaL; have h := HN.out; rw [zqP (by rw [zaT]; exact zpx _)] at h
     simp [h]
    have HF := zpt hF; clear hF; go_wp2_with fail; go_ret
    exact ⟨by rw [HF.out]; rfl, rfl⟩
structure CapR (r : zaj) (c1 c2 c3 c4 : Nat) : Prop where
 l1 : r.f1.length <= c1
 l2 : r.f2.length <= c2
 l3 : r.f3.length <= c3
 l4 : r.f4.length <= c4
theorem zl9 : ∀ args w, (callFunc 100 args).run zp5 w = .ok (.enter 100 args) w := Go.Proofs.enters_of Tryz.func100 (by kernel_rfl) rfl
theorem zjE : ∀ args w, (callFunc 101 args).run zp5 w = .ok (.enter 101 args) w := Go.Proofs.enters_of Tryz.func101 (by kernel_rfl) rfl
theorem zl5 (K : Nat) (A : Option Addr) (c : Nat) (l : List ByteArray) (x : ByteArray) (w : World) (hk : w.cell? ⟨K, 0, none⟩ = some (.slice A l.length c)) (hr : Kd.C zqb w A l.length l) :
 Calls zp5 100 #[.string x, .pointer (some ⟨K, 0, none⟩)] w fun e w' => e = .returned (.bool (!(zab l).contains x.data.toList)) /\ w = w' := by
 have hC := zdg A c l x w hr; generalize (zab l).contains x.data.toList = q at hC |-; have HC := zpt hC; clear hC hr; go_enter Tryz.func100, Tryz.ntmps100
 go_wp2_with (first | (go_at_call 92; refine HC.out.mono ?_; rintro e w2 ⟨rfl, rfl⟩))
 go_ret
 exact ⟨rfl, rfl⟩
theorem zpj (K : Nat) (A : Option Addr) (c : Nat) (l : List ByteArray) (x : ByteArray) (w : World) (hk : w.cell? ⟨K, 1, none⟩ = some (.slice A l.length c)) (hr : Kd.C zqb w A l.length l) :
 Calls zp5 101 #[.string x, .pointer (some ⟨K, 0, none⟩)] w fun e w' => e = .returned (.bool ((zab l).contains x.data.toList)) /\ w = w' := by
 have hC := zdg A c l x w hr; generalize (zab l).contains x.data.toList = q at hC |-; have HC := zpt hC; clear hC hr; go_enter Tryz.func101, Tryz.ntmps101
 go_wp2_with (first | (go_at_call 92; refine HC.out.mono ?_; rintro e w2 ⟨rfl, rfl⟩))
 go_ret
 exact ⟨rfl, rfl⟩
theorem ziU (K : Nat) (A : Option Addr) (c : Nat) (l : List ByteArray) (B : Option Addr) (d : Nat) (k : List ByteArray) (w : World) (hk : w.cell? ⟨K, 0, none⟩ = some (.slice A l.length c)) (hr : Kd.C zqb w A l.length l) (hx : Kd.C zqb w B k.length k) :
 Calls zp5 56 #[.slice B k.length d, .func (.func 100) #[] #[.pointer (some ⟨K, 0, none⟩)]] w fun e w' => e = .returned (.bool ((zab k).any fun a => !(zab l).contains a)) /\ Below w.heap.size w w' := by
 have h := zdM 100 #[.pointer (some ⟨K, 0, none⟩)] zl9 (fun x => !(zab l).contains x.data.toList) B d k w hx (fun W x hW => (zl5 K A c l x W (zad hW hk) (zqS hr hW)).mono fun e w' ⟨he, hw⟩ => ⟨he, by rw [<- hw]; exact zpw _ _⟩)
 have e : k.any (fun x => !(zab l).contains x.data.toList) = (zab k).any fun a => !(zab l).contains a := by
  conv => rhs; unfold zab
  rw [List.any_map]; rfl
 rw [e] at h; exact h
theorem zkS (K : Nat) (A : Option Addr) (c : Nat) (l : List ByteArray) (B : Option Addr) (d : Nat) (k : List ByteArray) (w : World) (hk : w.cell? ⟨K, 1, none⟩ = some (.slice A l.length c)) (hr : Kd.C zqb w A l.length l) (hx : Kd.C zqb w B k.length k) :
 Calls zp5 56 #[.slice B k.length d, .func (.func 101) #[] #[.pointer (some ⟨K, 0, none⟩)]] w fun e w' => e = .returned (.bool ((zab k).any fun a => (zab l).contains a)) /\ Below w.heap.size w w' := by
 have h := zdM 101 #[.pointer (some ⟨K, 0, none⟩)] zjE (fun x => (zab l).contains x.data.toList) B d k w hx (fun W x hW => (zpj K A c l x W (zad hW hk) (zqS hr hW)).mono fun e w' ⟨he, hw⟩ => ⟨he, by rw [<- hw]; exact zpw _ _⟩)
 have e : k.any (fun x => (zab l).contains x.data.toList) = (zab k).any fun a => (zab l).contains a := by
  conv => rhs; unfold zab
  rw [List.any_map]; rfl
 rw [e] at h; exact h
def endP (outs : List zaa) : Option (List zaa) -> Bool
 | none => false
 | some known => !(outs.any fun o => !known.contains o)
theorem zmV (L : List zbg) (known : List zaa) (k : Nat) (h : k < L.length) : zcq (L.drop k) known = if known.contains L[k].out || L[k].args.any (fun a => !known.contains a) then none else zcq (L.drop (k + 1)) (known ++ [L[k].out]) := by
 rw [zp1 h]; rfl
theorem zpo (r : zaj) (B1 : Option Addr) (c1 : Nat) (B2 : Option Addr) (c2 : Nat) (B3 : Option Addr) (c3 : Nat) (B4 : Option Addr) (c4 : Nat) (w : World) (hA : RuleAt r B1 B2 B3 B4 w) (hC : CapR r c1 c2 c3 c4) (hl : r.f4.length <= 1000) (hl1 : r.f1.length <= 1000) :
 Calls zp5 70 #[.agg (zal r B1 c1 B2 c2 B3 c3 B4 c4)] w fun e w' => e = .returned (.bool (zcL (zbu r))) /\ Below w.heap.size w w' := by
 have hW := (zpw w.heap.size w).alloc (zpx _) (.cells (zal r B1 c1 B2 c2 B3 c3 B4 c4) 45); have HK := zpt (zap w (.cells (zal r B1 c1 B2 c2 B3 c3 B4 c4) 45)); have HB := zpt hW; have HA := zpt (hA.below hW); have hT : zcL (zbu r) = (!(zaL (zab r.f1) || zaL (zab r.f2) || zaL (zab r.f3) || (zab r.f3).contains r.f0.data.toList) && !((zab r.f2).any fun a => (zab r.f1).contains a) && endP (zab r.f2) (zcq (r.f4.map zaC) (zab r.f1))) := rfl
 have H1 := zpt (fun W (h : Kd.C zqb W B1 r.f1.length r.f1) => zfW B1 c1 r.f1 W h hC.l1)
 have H2 := zpt (fun W (h : Kd.C zqb W B2 r.f2.length r.f2) => zfW B2 c2 r.f2 W h hC.l2)
 have H3 := zpt (fun W (h : Kd.C zqb W B3 r.f3.length r.f3) => zfW B3 c3 r.f3 W h hC.l3)
 have H4 := zpt (fun W (h : Kd.C zqb W B3 r.f3.length r.f3) => zdg B3 c3 r.f3 r.f0 W h)
 obtain ⟨T, hT0⟩ : ∃ T, T = zcL (zbu r) := ⟨_, rfl⟩; rw [<- hT0]; rw [<- hT0] at hT; generalize zaL (zab r.f1) = q1 at H1 hT; generalize zaL (zab r.f2) = q2 at H2 hT; generalize zaL (zab r.f3) = q3 at H3 hT; generalize (zab r.f3).contains r.f0.data.toList = q4 at H4 hT; have HT := zpt hT; clear hW hA hT hT0; unfold zal at *; go_enter Tryz.func70, Tryz.ntmps70
 go_upto_if 26 with fail; generalize w.alloc (.cells #[.string r.f0, .slice B1 r.f1.length c1, .slice B2 r.f2.length c2, .slice B3 r.f3.length c3, .slice B4 r.f4.length c4] 45) = w1 at HB HK HA |-; have k0 := bc0 HK.out; have k1 := bc1 HK.out; have k2 := bc2 HK.out; have k3 := bc3 HK.out; have k4 := bc4 HK.out; have h1 := H1.out w1 HA.out.h1; have h2 := H2.out w1 HA.out.h2; have h3 := H3.out w1 HA.out.h3; have h4 := H4.out w1 HA.out.h3; have J1 := zpt h1; have J2 := zpt h2; have J3 := zpt h3; have J4 := zpt h4; clear h1 h2 h3 h4; by_cases hq : (q1 || q2 || q3 || q4) = true
 . have HF : Hid (T = false) := by show _ = _; rw [HT.out, hq]; rfl
   clear HT; cases q1 with
   | true =>
    clear hq; go_wp2_with (first
     | (go_at_call 98; first | ((with_reducible refine J1.out.mono ?_); rintro e w2 ⟨rfl, rfl⟩) | ((with_reducible refine J2.out.mono ?_); rintro e w2 ⟨rfl, rfl⟩) | ((with_reducible refine J3.out.mono ?_); rintro e w2 ⟨rfl, rfl⟩))
     | (go_at_call 92; refine J4.out.mono ?_; rintro e w2 ⟨rfl, rfl⟩))
    go_ret
    exact ⟨by rw [HF.out]; rfl, HB.out⟩
   | false =>
    cases q2 with
    | true =>
     clear hq; go_wp2_with (first
      | (go_at_call 98; first | ((with_reducible refine J1.out.mono ?_); rintro e w2 ⟨rfl, rfl⟩) | ((with_reducible refine J2.out.mono ?_); rintro e w2 ⟨rfl, rfl⟩) | ((with_reducible refine J3.out.mono ?_); rintro e w2 ⟨rfl, rfl⟩))
      | (go_at_call 92; refine J4.out.mono ?_; rintro e w2 ⟨rfl, rfl⟩))
     go_ret
     exact ⟨by rw [HF.out]; rfl, HB.out⟩
    | false =>
     cases q3 with
     | true =>
      clear hq; go_wp2_with (first
       | (go_at_call 98; first | ((with_reducible refine J1.out.mono ?_); rintro e w2 ⟨rfl, rfl⟩) | ((with_reducible refine J2.out.mono ?_); rintro e w2 ⟨rfl, rfl⟩) | ((with_reducible refine J3.out.mono ?_); rintro e w2 ⟨rfl, rfl⟩))
       | (go_at_call 92; refine J4.out.mono ?_; rintro e w2 ⟨rfl, rfl⟩))
      go_ret
      exact ⟨by rw [HF.out]; rfl, HB.out⟩
     | false =>
      cases q4 with
      | true =>
       clear hq; go_wp2_with (first
        | (go_at_call 98; first | ((with_reducible refine J1.out.mono ?_); rintro e w2 ⟨rfl, rfl⟩) | ((with_reducible refine J2.out.mono ?_); rintro e w2 ⟨rfl, rfl⟩) | ((with_reducible refine J3.out.mono ?_); rintro e w2 ⟨rfl, rfl⟩))
        | (go_at_call 92; refine J4.out.mono ?_; rintro e w2 ⟨rfl, rfl⟩))
       go_ret
       exact ⟨by rw [HF.out]; rfl, HB.out⟩
      | false => exact absurd hq (by decide)
 . have hq1 : q1 = false := by cases q1 with | false => rfl | true => exact absurd rfl hq
   subst hq1; have hq2 : q2 = false := by cases q2 with | false => rfl | true => exact absurd rfl hq
   subst hq2; have hq3 : q3 = false := by cases q3 with | false => rfl | true => exact absurd rfl hq
   subst hq3; have hq4 : q4 = false := by cases q4 with | false => rfl | true => exact absurd rfl hq
   subst hq4; clear hq; go_upto_region 3 with (first
    | (go_at_call 98; first | ((with_reducible refine J1.out.mono ?_); rintro e w2 ⟨rfl, rfl⟩) | ((with_reducible refine J2.out.mono ?_); rintro e w2 ⟨rfl, rfl⟩) | ((with_reducible refine J3.out.mono ?_); rintro e w2 ⟨rfl, rfl⟩))
    | (go_at_call 92; refine J4.out.mono ?_; rintro e w2 ⟨rfl, rfl⟩))
   have hcl := zc6 B1 c1 r.f1 w1 HA.out.h1 (by omega)
   go_upto_region 4 with (first | (go_at_call 99; refine hcl.mono ?_; rintro e w2 ⟨v, rfl, hown, hb2⟩; obtain ⟨A2, n2, rfl, hc2, _⟩ := zqq (Kd.R_of_own (h1 := fun _ => rfl) (ok := fun _ => True) hown (fun _ _ => trivial)); have HO2 : Hid (RS w2 w1.heap.size (.slice A2 r.f1.length n2) r.f1) := zpt (Kd.R_of_own (h1 := fun _ => rfl) hown (fun _ _ => trivial)); have HB2 := zpt hb2; clear hown hb2 hc2))
   clear hcl; have hb3 := (zpw w2.heap.size w2).alloc (zpx _) (.cells #[.slice A2 r.f1.length n2] 22); have HX3 := zpt (zap w2 (.cells #[.slice A2 r.f1.length n2] 22)); have HB3 := zpt (zac HB2.out HB2.out.size hb3); have HO3 := zpt (zqu HO2.out hb3); have HKw := zpt HB2.out.size; clear hb3 HO2; generalize hK : w2.heap.size = K at HX3 HKw |-; generalize w2.alloc (.cells #[.slice A2 r.f1.length n2] 22) = w3 at HX3 HB3 HO3 |-; clear hK; have l2 := zad HB3.out k2; have l1 := zad HB3.out k1; have HAi := zpt (zkS w.heap.size B1 c1 r.f1 B2 c2 r.f2 w3 l1 (HA.out.below HB3.out).h1 (HA.out.below HB3.out).h2); have hT := HT.out; generalize ((zab r.f2).any fun a => (zab r.f1).contains a) = q5 at HAi hT
   have HT5 := zpt hT; clear hT HT; cases q5 with
   | true =>
    have HF : Hid (T = false) := by show _ = _; rw [HT5.out]; rfl
    go_wp2_with (first | (go_at_call 56; refine HAi.out.mono ?_; rintro e w4 ⟨rfl, hb4⟩; have HB4 := zpt (zac HB3.out HB3.out.size hb4); clear hb4))
    go_ret
    exact ⟨by rw [HF.out]; rfl, HB.out.trans (HB4.out.mono HB.out.size)⟩
   | false =>
    obtain ⟨wp, hwp⟩ : ∃ wp, wp = zcq (r.f4.map zaC) (zab r.f1) := ⟨_, rfl⟩; have hT := HT5.out; rw [<- hwp] at hT; have HT6 : Hid (T = endP (zab r.f2) wp) := zpt (by rw [hT]; rfl)
    have HWp := zpt hwp; clear hT hwp HT5; go_upto_region 7 with (first | (go_at_call 56; refine HAi.out.mono ?_; rintro e w4 ⟨rfl, hb4⟩; have HX4 := zpt (zai HX3.out hb4); have HO4 := zpt (zqu HO3.out hb4); have HB4 := zpt (zac HB3.out HB3.out.size hb4); clear hb4))
    have m4 := zad HB4.out k4; go_wp2_with fail; go_loopg [6, 38] r.f4.length (fun gg _ s38 wr => ∃ (kk : Nat) (X : Option Addr) (n : Nat), kk <= r.f4.length /\ r.f4.length - kk <= gg /\ s38 = .int .i64 kk /\ Aside0 (wr.heap[K]? = some (.cells #[.slice X (r.f1 ++ (r.f4.take kk).map (·.f0)).length n] 22 (0, 0))) /\ Aside0 (RS wr w1.heap.size (.slice X (r.f1 ++ (r.f4.take kk).map (·.f0)).length n) (r.f1 ++ (r.f4.take kk).map (·.f0))) /\ Aside0 (zcq ((r.f4.map zaC).drop kk) (zab (r.f1 ++ (r.f4.take kk).map (·.f0))) = wp) /\ Aside0 (Below w1.heap.size w1 wr))
    case atStart =>
     refine ⟨0, A2, n2, zqk _, by omega, rfl, ⟨?_⟩, ⟨?_⟩, ⟨?_⟩, ⟨HB4.out⟩⟩
     . rw [zqX, zpY, zqD]; exact HX4.out
     . rw [zqX, zpY, zqD]; exact HO4.out
     . rw [zqX, zpY, zqD, List.drop_zero]; exact HWp.out.symm
    case round =>
     obtain ⟨kk, X, n, hkk, hgk, rfl, HXr, HOr, HWr, HBr⟩ := hrel; obtain ⟨wq, rfl⟩ : ∃ wq, wq = wr := ⟨wr, rfl⟩; by_cases hlt : kk < r.f4.length
     . have hltz : (kk : Int) < (r.f4.length : Int) := by omega
       obtain ⟨b, o, C2, d2, C3, d3, rfl, p0, p1, p2, p3, p4, g2, g3⟩ := zcA HA.out.h4 kk hlt; replace p0 := zad HBr.out p0
       replace p1 := zad HBr.out p1
       replace p2 := zad HBr.out p2
       replace p3 := zad HBr.out p3
       replace p4 := zad HBr.out p4
       have hdr := zmV (r.f4.map zaC) (zab (r.f1 ++ (r.f4.take kk).map (·.f0))) kk (by rw [zqe]; exact hlt)
       rw [HWr.out, List.getElem_map] at hdr; have hsn : r.f1 ++ (r.f4.take (kk + 1)).map (·.f0) = (r.f1 ++ (r.f4.take kk).map (·.f0)) ++ [r.f4[kk].f0] := by rw [zpZ hlt, zqo, List.append_assoc]; rfl
       have hln : (r.f1 ++ (r.f4.take kk).map (·.f0)).length <= 2000 := by rw [List.length_append, zqe, zpI]; omega
       have HSn := zpt hsn; have HLn := zpt hln; generalize r.f1 ++ (r.f4.take kk).map (·.f0) = kn at HXr HOr hdr HSn HLn; generalize hx : r.f4[kk] = x at p0 p1 p2 p3 p4 g2 g3 hdr HSn; have HDr : Hid (wp = if (zab kn).contains x.f0.data.toList || (zab x.f2).any (fun a => !(zab kn).contains a) then none else zcq ((r.f4.map zaC).drop (kk + 1)) (zab kn ++ [x.f0.data.toList])) := zpt hdr
       clear hx hdr hsn hln; have hb5 := (zpw wq.heap.size wq).alloc (zpx _) (.cells #[.string x.f0, .int .i64 x.f1, .slice C2 x.f2.length d2, .slice C3 x.f3.length d3, .int .i64 x.f4] 24); have HY5 := zpt (zap wq (.cells #[.string x.f0, .int .i64 x.f1, .slice C2 x.f2.length d2, .slice C3 x.f3.length d3, .int .i64 x.f4] 24)); have HB5 := zpt (zac HBr.out HBr.out.size hb5); have HX5 := zpt (zai HXr.out hb5); have HO5 := zpt (zqu HOr.out hb5); have HG2 := zpt g2; clear g2 g3 hb5; have m4q := zad HBr.out k4; go_upto_region 10 with fail; generalize wq.alloc (.cells #[.string x.f0, .int .i64 x.f1, .slice C2 x.f2.length d2, .slice C3 x.f3.length d3, .int .i64 x.f4] 24) = w5 at HY5 HB5 HX5 HO5 |-; have y0 := bc0 HY5.out; have y2 := bc2 HY5.out; have kK := bc0 HX5.out; have hCkn : Kd.C zqb w5 X kn.length kn := by
        obtain ⟨X', n', he, _, hC⟩ := zqq HO5.out; cases he
        exact hC
       have HCt := zpt (zdg X n kn x.f0 w5 hCkn); have HSt := zpt (ziU K X n kn C2 d2 x.f2 w5 kK hCkn (zqS HG2.out HB5.out)); have hDr := HDr.out; generalize (zab kn).contains x.f0.data.toList = q6 at HCt hDr; generalize (zab x.f2).any (fun a => !(zab kn).contains a) = q7 at HSt hDr
       have HDr2 := zpt hDr; clear hDr HDr hCkn; cases q6 with
       | true =>
        have HF : Hid (T = false) := by show _ = _; rw [HT6.out, HDr2.out]; rfl
        go_wp2_with (first | (go_at_call 92; refine HCt.out.mono ?_; rintro e w6 ⟨rfl, rfl⟩))
        go_ret
        exact ⟨by rw [HF.out]; rfl, HB.out.trans (HB5.out.mono HB.out.size)⟩
       | false =>
        cases q7 with
        | true =>
         have HF : Hid (T = false) := by show _ = _; rw [HT6.out, HDr2.out]; rfl
         go_wp2_with (first | (go_at_call 92; refine HCt.out.mono ?_; rintro e w6 ⟨rfl, rfl⟩) | (go_at_call 56; refine HSt.out.mono ?_; rintro e w6 ⟨rfl, hb6⟩; have HB6 := zpt (zac HB5.out HB5.out.size hb6); clear hb6))
         go_ret
         exact ⟨by rw [HF.out]; rfl, HB.out.trans (HB6.out.mono HB.out.size)⟩
        | false =>
         have HWn : Hid (zcq ((r.f4.map zaC).drop (kk + 1)) (zab (r.f1 ++ (r.f4.take (kk + 1)).map (·.f0))) = wp) := by
          show _ = _
          rw [HSn.out, HDr2.out]; unfold zab; rw [zqo]; rfl
         go_upto_region 12 with (first | (go_at_call 92; refine HCt.out.mono ?_; rintro e w6 ⟨rfl, rfl⟩) | (go_at_call 56; refine HSt.out.mono ?_; rintro e w6 ⟨rfl, hb6⟩; have HB6 := zpt (zac HB5.out HB5.out.size hb6); have HX6 := zpt (zai HX5.out hb6); have HO6 := zpt (zqu HO5.out hb6); have HY6 := zpt (zai HY5.out hb6); clear hb6))
         have z0 := bc0 HY6.out; have kK6 := bc0 HX6.out; have hb7 := (zpw w6.heap.size w6).alloc (zpx _) (.cells #[.string x.f0] 9); have HWs := zpt HB6.out.size; clear kK y0 y2 hb7; go_wp2_with (first | ((with_reducible refine zaG (b := .append) (xs := #[.tmp 52, .tmp 55]) rfl ?_); at_builtin; refine Kd.R_append zqb (w0 := w1) w1.heap.size rfl (.tmp 52) (.tmp 55) 22 9 (.string ⟨#[]⟩) 16 rfl Tryz.underlying22 zbi rfl (by decide) (by decide) (.slice X kn.length n) kn x.f0 [.string x.f0] (fun _ => True) (fun k_ => True /\ some k_ ≠ (Value.slice X kn.length n).ownBlock) rfl rfl rfl (fun _ hk => hk) (fun _ _ => trivial) HO6.out HB6.out HWs.out ?aL ?_; (case aL => (have h1 := HLn.out; omega)); intro v1 w8 ho hb hg hat; obtain ⟨X8, n8, rfl, _, _⟩ := zqq ho; obtain ⟨ln, hln⟩ : ∃ ln, ln = (kn ++ [x.f0]).length := ⟨_, rfl⟩; rw [<- hln] at ho |-; have HLn2 : Hid (ln = (r.f1 ++ (r.f4.take (kk + 1)).map (·.f0)).length) := (by show _ = _; rw [HSn.out]; exact hln); have HO8 : Hid (RS w8 w1.heap.size (.slice X8 ln n8) (r.f1 ++ (r.f4.take (kk + 1)).map (·.f0))) := (by show RS _ _ _ _; rw [HSn.out]; exact ho); have HB8 := zpt hb; have HX8 := zpt (zaY HX6.out hg (Kd.R_ne HO6.out HX6.out (by decide))); have f8 := zak HX8.out 0; have k8 := bc0 HX8.out; clear ho hb hg hat hln))
         have HX9 : Hid ((w8.setCell ⟨K, 0, none⟩ (.slice X8 ln n8)).heap[K]? = some (.cells #[.slice X8 ln n8] 22 (0, 0))) := zpt (zav HX8.out 0 _ rfl); have HO9 := zpt (zqK HO8.out HX8.out (by decide) 0 (.slice X8 ln n8))
         have HB9 := zpt (HB8.out.setCell (p := ⟨K, 0, none⟩) HKw.out (.slice X8 ln n8)); generalize w8.setCell ⟨K, 0, none⟩ (.slice X8 ln n8) = w9 at HX9 HO9 HB9 |-; go_roundg (r.f4.length - (kk + 1))
         case measure => omega
         case rel => exact ⟨kk + 1, X8, n8, by omega, by omega, by first | rfl | go_num, ⟨by rw [<- HLn2.out]; exact HX9.out⟩, ⟨by rw [<- HLn2.out]; exact HO9.out⟩, ⟨HWn.out⟩, ⟨HB9.out⟩⟩
     . have hltz : ¬ (kk : Int) < (r.f4.length : Int) := by omega
       obtain rfl : kk = r.f4.length := by omega
       have hW := HWr.out; rw [List.drop_eq_nil_of_le (by rw [zqe]; exact zpx _)] at hW
       generalize r.f1 ++ (r.f4.take r.f4.length).map (·.f0) = kn at HXr HOr hW; have hT := HT6.out; rw [<- hW] at hT; have hT' : T = !((zab r.f2).any fun o => !(zab kn).contains o) := hT
       have kK := bc0 HXr.out; have hCkn : Kd.C zqb wq X kn.length kn := by
        obtain ⟨X', n', he, _, hC⟩ := zqq HOr.out; cases he
        exact hC
       have HSt := zpt (ziU K X n kn B2 c2 r.f2 wq kK hCkn (HA.out.below HBr.out).h2); generalize ((zab r.f2).any fun o => !(zab kn).contains o) = q8 at HSt hT'
       have HT8 := zpt hT'; have i2 := zad HBr.out k2; clear hT hT' hW hCkn; go_wp2_with (first | (go_at_call 56; refine HSt.out.mono ?_; rintro e w6 ⟨rfl, hb6⟩; have HB6 := zpt (zac HBr.out HBr.out.size hb6); clear hb6))
       go_ret
       exact ⟨by rw [HT8.out]; rfl, HB.out.trans (HB6.out.mono HB.out.size)⟩
def zbn (r : zaj) : Int := zc9 zcO zcL (zbu r)
theorem ziF (r : zaj) : zbn r = if zcO (zbu r) = false then 1 else if 8 < r.f1.length \/ 4 < r.f2.length \/ 8 < r.f3.length \/ 12 < r.f4.length then 4 else if zcL (zbu r) = false then 2 else 0 := by
 unfold zbn zc9 zbu zao; dsimp only; rw [zaT, zaT, zaT, zqe]
theorem zi4 (r : zaj) (B1 : Option Addr) (c1 : Nat) (B2 : Option Addr) (c2 : Nat) (B3 : Option Addr) (c3 : Nat) (B4 : Option Addr) (c4 : Nat) (w : World) (hG : GOK w) (hA : RuleAt r B1 B2 B3 B4 w) (hC : CapR r c1 c2 c3 c4) (hl : r.f4.length <= 1000) (hl1 : r.f1.length <= 1000) :
 Calls zp5 46 #[.agg (zal r B1 c1 B2 c2 B3 c3 B4 c4)] w fun e w' => e = .returned (.int .i64 (zbn r)) /\ Below w.heap.size w w' := by
 have hW := (zpw w.heap.size w).alloc (zpx _) (.cells (zal r B1 c1 B2 c2 B3 c3 B4 c4) 45); have HK := zpt (zap w (.cells (zal r B1 c1 B2 c2 B3 c3 B4 c4) 45)); have HB := zpt hW; have HA := zpt (hA.below hW); have HG := zpt (hG.below hW); have hT := ziF r; obtain ⟨T, hT0⟩ : ∃ T, T = zbn r := ⟨_, rfl⟩; rw [<- hT0]; rw [<- hT0] at hT; have HF := zpt (fun W (hG : GOK W) (h : RuleAt r B1 B2 B3 B4 W) => zmk r B1 c1 B2 c2 B3 c3 B4 c4 W hG h hl)
 have HN := zpt (fun W (h : RuleAt r B1 B2 B3 B4 W) => zpo r B1 c1 B2 c2 B3 c3 B4 c4 W h hC hl hl1)
 generalize zcO (zbu r) = qf at HF hT; generalize zcL (zbu r) = qn at HN hT; have HT := zpt hT; clear hW hA hG hT hT0 hC; unfold zal at *; go_enter Tryz.func46, Tryz.ntmps46
 go_upto_block 0 with fail; generalize w.alloc (.cells #[.string r.f0, .slice B1 r.f1.length c1, .slice B2 r.f2.length c2, .slice B3 r.f3.length c3, .slice B4 r.f4.length c4] 45) = w1 at HB HK HA HG |-; have k0 := bc0 HK.out; have k1 := bc1 HK.out; have k2 := bc2 HK.out; have k3 := bc3 HK.out; have k4 := bc4 HK.out; cases qf with
 | false =>
  have HV : Hid (T = 1) := by show _ = _; rw [HT.out, if_pos rfl]
  clear HT; go_wp2_with (first | (go_at_call 69; refine (HF.out _ HG.out HA.out).mono ?_; rintro e w2 ⟨rfl, hb2⟩; have HB2 := zpt hb2; have HA2 := zpt (HA.out.below hb2); have i0 := zad hb2 k0; have i1 := zad hb2 k1; have i2 := zad hb2 k2; have i3 := zad hb2 k3; have i4 := zad hb2 k4; clear hb2))
  go_ret
  exact ⟨by rw [HV.out]; rfl, zac HB.out HB.out.size HB2.out⟩
 | true =>
  have hT := HT.out; rw [if_neg (by simp)] at hT
  have HT2 := zpt hT; clear hT HT; by_cases h1 : 8 < r.f1.length
  . have d1 : decide ((8 : Int) < (r.f1.length : Int)) = true := by simp; omega
    have e1 : (8 : Int) < (r.f1.length : Int) := by omega
    have HV : Hid (T = 4) := by show _ = _; rw [HT2.out, if_pos (by omega)]
    clear HT2; go_wp2_with (first | (go_at_call 69; refine (HF.out _ HG.out HA.out).mono ?_; rintro e w2 ⟨rfl, hb2⟩; have HB2 := zpt hb2; have HA2 := zpt (HA.out.below hb2); have i0 := zad hb2 k0; have i1 := zad hb2 k1; have i2 := zad hb2 k2; have i3 := zad hb2 k3; have i4 := zad hb2 k4; clear hb2))
    go_ret
    exact ⟨by rw [HV.out]; rfl, zac HB.out HB.out.size HB2.out⟩
  have d1 : decide ((8 : Int) < (r.f1.length : Int)) = false := by simp; omega
  have e1 : ¬ (8 : Int) < (r.f1.length : Int) := by omega
  by_cases h2 : 4 < r.f2.length
  . have d2 : decide ((4 : Int) < (r.f2.length : Int)) = true := by simp; omega
    have e2 : (4 : Int) < (r.f2.length : Int) := by omega
    have HV : Hid (T = 4) := by show _ = _; rw [HT2.out, if_pos (by omega)]
    clear HT2; go_wp2_with (first | (go_at_call 69; refine (HF.out _ HG.out HA.out).mono ?_; rintro e w2 ⟨rfl, hb2⟩; have HB2 := zpt hb2; have HA2 := zpt (HA.out.below hb2); have i0 := zad hb2 k0; have i1 := zad hb2 k1; have i2 := zad hb2 k2; have i3 := zad hb2 k3; have i4 := zad hb2 k4; clear hb2))
    go_ret
    exact ⟨by rw [HV.out]; rfl, zac HB.out HB.out.size HB2.out⟩
  have d2 : decide ((4 : Int) < (r.f2.length : Int)) = false := by simp; omega
  have e2 : ¬ (4 : Int) < (r.f2.length : Int) := by omega
  by_cases h3 : 8 < r.f3.length
  . have d3 : decide ((8 : Int) < (r.f3.length : Int)) = true := by simp; omega
    have e3 : (8 : Int) < (r.f3.length : Int) := by omega
    have HV : Hid (T = 4) := by show _ = _; rw [HT2.out, if_pos (by omega)]
    clear HT2; go_wp2_with (first | (go_at_call 69; refine (HF.out _ HG.out HA.out).mono ?_; rintro e w2 ⟨rfl, hb2⟩; have HB2 := zpt hb2; have HA2 := zpt (HA.out.below hb2); have i0 := zad hb2 k0; have i1 := zad hb2 k1; have i2 := zad hb2 k2; have i3 := zad hb2 k3; have i4 := zad hb2 k4; clear hb2))
    go_ret
    exact ⟨by rw [HV.out]; rfl, zac HB.out HB.out.size HB2.out⟩
  have d3 : decide ((8 : Int) < (r.f3.length : Int)) = false := by simp; omega
  have e3 : ¬ (8 : Int) < (r.f3.length : Int) := by omega
  by_cases h4 : 12 < r.f4.length
  . have d4 : decide ((12 : Int) < (r.f4.length : Int)) = true := by simp; omega
    have e4 : (12 : Int) < (r.f4.length : Int) := by omega
    have HV : Hid (T = 4) := by show _ = _; rw [HT2.out, if_pos (by omega)]
    clear HT2; go_wp2_with (first | (go_at_call 69; refine (HF.out _ HG.out HA.out).mono ?_; rintro e w2 ⟨rfl, hb2⟩; have HB2 := zpt hb2; have HA2 := zpt (HA.out.below hb2); have i0 := zad hb2 k0; have i1 := zad hb2 k1; have i2 := zad hb2 k2; have i3 := zad hb2 k3; have i4 := zad hb2 k4; clear hb2))
    go_ret
    exact ⟨by rw [HV.out]; rfl, zac HB.out HB.out.size HB2.out⟩
  have d4 : decide ((12 : Int) < (r.f4.length : Int)) = false := by simp; omega
  have e4 : ¬ (12 : Int) < (r.f4.length : Int) := by omega
  have hT := HT2.out; rw [if_neg (by omega)] at hT
  clear HT2; have HT2 := zpt hT; clear hT h1 h2 h3 h4; cases qn with
  | false =>
   have HV : Hid (T = 2) := by show _ = _; rw [HT2.out, if_pos rfl]
   clear HT2; go_wp2_with (first | (go_at_call 69; refine (HF.out _ HG.out HA.out).mono ?_; rintro e w2 ⟨rfl, hb2⟩; have HB2 := zpt hb2; have HA2 := zpt (HA.out.below hb2); have i0 := zad hb2 k0; have i1 := zad hb2 k1; have i2 := zad hb2 k2; have i3 := zad hb2 k3; have i4 := zad hb2 k4; clear hb2) | (go_at_call 70; refine (HN.out _ HA2.out).mono ?_; rintro e w3 ⟨rfl, hb3⟩; have HB3 := zpt (zac HB2.out HB2.out.size hb3); clear hb3))
   go_ret
   exact ⟨by rw [HV.out]; rfl, zac HB.out HB.out.size HB3.out⟩
  | true =>
   have HV : Hid (T = 0) := by show _ = _; rw [HT2.out, if_neg (by simp)]
   clear HT2; go_wp2_with (first | (go_at_call 69; refine (HF.out _ HG.out HA.out).mono ?_; rintro e w2 ⟨rfl, hb2⟩; have HB2 := zpt hb2; have HA2 := zpt (HA.out.below hb2); have i0 := zad hb2 k0; have i1 := zad hb2 k1; have i2 := zad hb2 k2; have i3 := zad hb2 k3; have i4 := zad hb2 k4; clear hb2) | (go_at_call 70; refine (HN.out _ HA2.out).mono ?_; rintro e w3 ⟨rfl, hb3⟩; have HB3 := zpt (zac HB2.out HB2.out.size hb3); clear hb3))
   go_ret
   exact ⟨by rw [HV.out]; rfl, zac HB.out HB.out.size HB3.out⟩
def mskO (n : Nat) (ord : List Nat) (k : Nat) : Array Bool := (Array.range n).map fun i => (ord.take k).contains i
section
variable {P : Program} {ops : Array Oper} {Q : Exit -> Act -> World -> Prop} {S : World -> Prop} {md : Region.Mode} {ds : List Nat} {ord : List Nat}
theorem zeh {id n : Nat} {a : Act} {w : World} (ord : List Nat) (hm : P.follows .mixedOrders = true) (hn : ops.size = n) (hl : Array.replicate n false = mskO n ord 0) (hS : S w.drew)
 (h : S w.drew -> zax P .any ops Q S ds n (mskO n ord 0) a w.drew) : (Code.region id ops true).wp P Q a w := zdy (mskO n ord 0) hm hn hl hS h
theorem zan {n : Nat} {oi : Oper} {v : Value} {fuel : Nat} {a : Act} {w : World} (k k1 i : Nat) (_ : k1 = k + 1) (hi : ops[i]? = some oi) (hc : zd5 md ops ds (mskO n ord k) (mskO n ord k1) i = true)
 (hQ : ∀ c a w, Q (.panic c) (a.put oi.dst v) w -> Q (.panic c) a w) (hy : YieldsIf P ops S oi v a) (hS : S w) {a' : Act} (ha : a.put oi.dst v = a')
 (h : zax P md ops Q S ds fuel (mskO n ord k1) a' w) : zax P md ops Q S ds (fuel + 1) (mskO n ord k) a w := take_ _ hi rfl hc hQ hy hS ha h
theorem oneI {n : Nat} {oi : Oper} {fuel : Nat} {a : Act} {w : World} (k k1 i : Nat) (_ : k1 = k + 1) (hi : ops[i]? = some oi) (hc : zd9 md ops (mskO n ord k) (mskO n ord k1) i = true) (hd : i ∉ ds)
 (h : ∀ K : Act -> World -> Prop, Shut (∀ a' w', S w' -> (S w' -> zax P md ops Q S ds fuel (mskO n ord k1) a' w') -> K a' w') -> if Region.wanted oi (yielded ops a.tmps) = true then Oper.wp P oi a w K Q else K (a.put oi.dst undef) w) :
 zax P md ops Q S ds (fuel + 1) (mskO n ord k) a w := one_ _ hi rfl hc hd h
end
def mskR (n : Nat) (rest : List Nat) : Array Bool := (Array.range n).map fun j => !rest.contains j
section
variable {P : Program} {ops : Array Oper} {Q : Exit -> Act -> World -> Prop} {S : World -> Prop} {md : Region.Mode} {ds : List Nat}
theorem startR {id n : Nat} {a : Act} {w : World} (ord : List Nat) (hm : P.follows .mixedOrders = true) (hn : ops.size = n) (hl : Array.replicate n false = mskR n ord) (hS : S w.drew)
 (h : S w.drew -> zax P .any ops Q S ds n (mskR n ord) a w.drew) : (Code.region id ops true).wp P Q a w := zdy (mskR n ord) hm hn hl hS h
theorem nextR {n i : Nat} {rest : List Nat} {oi : Oper} {v : Value} {fuel : Nat} {a : Act} {w : World} (hi : ops[i]? = some oi) (hc : zd5 md ops ds (mskR n (i :: rest)) (mskR n rest) i = true)
 (hQ : ∀ c a w, Q (.panic c) (a.put oi.dst v) w -> Q (.panic c) a w) (hy : YieldsIf P ops S oi v a) (hS : S w) {a' : Act} (ha : a.put oi.dst v = a')
 (h : zax P md ops Q S ds fuel (mskR n rest) a' w) : zax P md ops Q S ds (fuel + 1) (mskR n (i :: rest)) a w := take_ _ hi rfl hc hQ hy hS ha h
theorem oneR {n i : Nat} {rest : List Nat} {oi : Oper} {fuel : Nat} {a : Act} {w : World} (hi : ops[i]? = some oi) (hc : zd9 md ops (mskR n (i :: rest)) (mskR n rest) i = true) (hd : i ∉ ds)
 (h : ∀ K : Act -> World -> Prop, Shut (∀ a' w', S w' -> (S w' -> zax P md ops Q S ds fuel (mskR n rest) a' w') -> K a' w') -> if Region.wanted oi (yielded ops a.tmps) = true then Oper.wp P oi a w K Q else K (a.put oi.dst undef) w) :
 zax P md ops Q S ds (fuel + 1) (mskR n (i :: rest)) a w := one_ _ hi rfl hc hd h
end
theorem zcs (l : List ByteArray) (s : ByteArray) : decide (0 <= zaN l s) = (zab l).contains s.data.toList := by
 rw [zmr]; cases h : zc5 (zab l) s.data.toList with
 | none =>
  have h2 := findB_none.1 h; have h4 : (zab l).contains s.data.toList = false := Bool.eq_false_iff.2 (fun h3 => h2 (by simpa using h3))
  rw [h4]; rfl
 | some k =>
  obtain ⟨hk, h2, _⟩ := zmQ h; have h3 : s.data.toList ∈ zab l := h2 ▸ zqQ hk; rw [show (zab l).contains s.data.toList = true by simpa using h3]
  simp
theorem zgB (l : List ByteArray) : ∀ k, k <= l.length -> ((List.range k).any fun i => decide (0 <= zaN (l.take i) (l.getD i ByteArray.empty))) = !decide ((zab l).take k).Nodup
 | 0, _ => by simp
 | k + 1, h => by
  have hk : k < l.length := by omega
  rw [ziG l k hk, zgB l k (by omega), zcs]
  have hkB : k < (zab l).length := by rw [zaT]; exact hk
  have ht : zab (l.take k) = (zab l).take k := by unfold zab; rw [List.map_take]
  have hx : (zab l)[k] = l[k].data.toList := zco l k hk; rw [zpZ hkB, ht, hx]; generalize (zab l).take k = a; generalize l[k].data.toList = x; rw [Bool.eq_iff_iff]; simp only [Bool.or_eq_true, Bool.not_eq_true', decide_eq_false_iff_not, List.nodup_append, List.contains_iff_mem]; constructor
  . rintro (h | h) hn
    . exact h hn.1
    . exact hn.2.2 x h x (by simp) rfl
  . intro hn
    by_cases ha : a.Nodup
    . right
      apply Classical.byContradiction
      intro hx; exact hn ⟨ha, by simp, fun y hy z hz e => hx (by rw [List.mem_singleton] at hz; rw [<- hz, <- e]; exact hy)⟩
    . exact .inl ha
theorem zfL (l : List ByteArray) : zdv l = zaL (zab l) := by
 unfold zdv zaL; rw [zgB l l.length (zpx _), zqP (by rw [zaT]; exact zpx _)]
theorem zoN (r : zaj) : zbn r = if zcH (zbu r) = false then 1 else if 8 < r.f1.length \/ 4 < r.f2.length \/ 8 < r.f3.length \/ 12 < r.f4.length then 4 else if (zaL (zab r.f1) || zaL (zab r.f2) || zaL (zab r.f3) || (zab r.f3).contains r.f0.data.toList) = true then 2 else
 match zbN (zab r.f1) (r.f4.map zaC) [] with
 | none => 2
 | some known => if ((zab r.f2).any fun o => (zab r.f1).contains o || !known.contains o) = true then 2 else 0 := by
 rw [ziF, zgY, ziS]; congr 2
 unfold zc8 zbu zao; dsimp only; generalize (zaL (zab r.f1) || zaL (zab r.f2) || zaL (zab r.f3) || (zab r.f3).contains r.f0.data.toList) = t
 cases t with
 | true => rfl
 | false =>
  cases zbN (zab r.f1) (r.f4.map zaC) [] with
  | none => rfl
  | some known =>
   dsimp only; have hz : ∀ u : Bool, (if (!false && !u) = false then (2 : Int) else 0) = if u = true then 2 else 0 := by intro u; cases u <;> rfl
   exact (hz _).trans (if_neg (by decide)).symm
theorem znl (ins : List zaa) (x : zbg) (r : List zbg) (known : List zaa) : zbN ins (x :: r) known = if (ins.contains x.out || known.contains x.out) || x.args.any (fun a => !ins.contains a && !known.contains a) then none else zbN ins r (known ++ [x.out]) := rfl
theorem zkH (r : zaj) (B1 : Option Addr) (c1 : Nat) (B2 : Option Addr) (c2 : Nat) (B3 : Option Addr) (c3 : Nat) (B4 : Option Addr) (c4 : Nat) (w : World) (hA : RuleAt r B1 B2 B3 B4 w) (hC : CapR r c1 c2 c3 c4) (hF : FitR r) (hf3 : r.f3.length <= 1000) :
 Calls zp5 61 #[.agg (zal r B1 c1 B2 c2 B3 c3 B4 c4)] w fun e w' => e = .returned (.int .i64 (zbn r)) /\ Below w.heap.size w w' := by
 have hab := (zpw w.heap.size w).alloc (zpx _) (.cells (zal r B1 c1 B2 c2 B3 c3 B4 c4) 45); have HK := zpt (zap w (.cells (zal r B1 c1 B2 c2 B3 c3 B4 c4) 45)); have HB := zpt hab; have HA := zpt (hA.below hab); have HF := zpt hF; have hn1 := hF.ins; have hn2 := hF.outs; have hn4 := hF.steps; obtain ⟨T, hT⟩ : ∃ T, T = zbn r := ⟨_, rfl⟩; rw [<- hT]; rw [zoN] at hT; have HT := zpt hT; have HSo : Hid (∀ W : World, Below (w.alloc (.cells (zal r B1 c1 B2 c2 B3 c3 B4 c4) 45)).heap.size (w.alloc (.cells (zal r B1 c1 B2 c2 B3 c3 B4 c4) 45)) W -> zev r B1 c1 B2 c2 B3 c3 B4 c4 w.heap.size W) := fun W hW => zjn (zai HK.out hW)
 have hfm := zoF r B1 c1 B2 c2 B3 c3 B4 c4 _ (hA.below hab) hF hf3; have HT1 : Hid (∀ W : World, Below (w.alloc (.cells (zal r B1 c1 B2 c2 B3 c3 B4 c4) 45)).heap.size (w.alloc (.cells (zal r B1 c1 B2 c2 B3 c3 B4 c4) 45)) W -> Calls zp5 91 #[.slice B1 r.f1.length c1] W fun e w' => e = .returned (.bool (zaL (zab r.f1))) /\ Below W.heap.size W w') := fun W hW => by rw [<- zfL]; exact zfJ B1 c1 r.f1 W (zqS HA.out.h1 hW) hC.l1
 have HT2 : Hid (∀ W : World, Below (w.alloc (.cells (zal r B1 c1 B2 c2 B3 c3 B4 c4) 45)).heap.size (w.alloc (.cells (zal r B1 c1 B2 c2 B3 c3 B4 c4) 45)) W -> Calls zp5 91 #[.slice B2 r.f2.length c2] W fun e w' => e = .returned (.bool (zaL (zab r.f2))) /\ Below W.heap.size W w') := fun W hW => by rw [<- zfL]; exact zfJ B2 c2 r.f2 W (zqS HA.out.h2 hW) hC.l2
 have HT3 : Hid (∀ W : World, Below (w.alloc (.cells (zal r B1 c1 B2 c2 B3 c3 B4 c4) 45)).heap.size (w.alloc (.cells (zal r B1 c1 B2 c2 B3 c3 B4 c4) 45)) W -> Calls zp5 91 #[.slice B3 r.f3.length c3] W fun e w' => e = .returned (.bool (zaL (zab r.f3))) /\ Below W.heap.size W w') := fun W hW => by rw [<- zfL]; exact zfJ B3 c3 r.f3 W (zqS HA.out.h3 hW) hC.l3
 clear hA hF hab hT hC; unfold zal at HB HA HK HSo HT1 HT2 HT3 hfm |-; go_enter Tryz.func61, Tryz.ntmps61
 go_upto_region 1 with fail; generalize w.alloc (.cells #[.string r.f0, .slice B1 r.f1.length c1, .slice B2 r.f2.length c2, .slice B3 r.f3.length c3, .slice B4 r.f4.length c4] 45) = w1 at HB HK HA HSo HT1 HT2 HT3 hfm |-; obtain ⟨j0, j1, j2, j3, j4⟩ := HSo.out w1 (zpw _ _); have HFm := zpt hfm; clear hfm; cases hf : zcH (zbu r) with
 | false =>
  rw [hf] at HFm; have HV : Hid (T = 1) := by show _ = _; rw [HT.out, if_pos hf]
  clear hf; go_wp2_with (first | (go_at_call 90; refine HFm.out.mono ?_; rintro e w2 ⟨rfl, hb2⟩))
  go_ret
  exact ⟨by rw [HV.out]; rfl, zac HB.out HB.out.size hb2⟩
 | true =>
  rw [hf] at HFm; have hT := HT.out; rw [if_neg (by rw [hf]; decide)] at hT
  clear HT hf; have HT := zpt hT; clear hT; go_upto_region 3 with (first | (go_at_call 90; refine HFm.out.mono ?_; rintro e w2 ⟨rfl, hb2⟩; have HB2 := zpt hb2; clear hb2))
  clear j0 j1 j2 j3 j4; obtain ⟨_, j1, j2, j3, j4⟩ := HSo.out w2 HB2.out; obtain ⟨b1, hb1⟩ : ∃ b, decide ((8 : Int) < (r.f1.length : Int)) = b := ⟨_, rfl⟩; obtain ⟨b2, hb2⟩ : ∃ b, decide ((4 : Int) < (r.f2.length : Int)) = b := ⟨_, rfl⟩; obtain ⟨b3, hb3⟩ : ∃ b, decide ((8 : Int) < (r.f3.length : Int)) = b := ⟨_, rfl⟩; obtain ⟨b4, hb4⟩ : ∃ b, decide ((12 : Int) < (r.f4.length : Int)) = b := ⟨_, rfl⟩; have HMo : Hid ((b1 || b2 || b3 || b4) = true ↔ 8 < r.f1.length \/ 4 < r.f2.length \/ 8 < r.f3.length \/ 12 < r.f4.length) := by
   show _ ↔ _
   rw [<- hb1, <- hb2, <- hb3, <- hb4]; simp only [Bool.or_eq_true, decide_eq_true_eq]; omega
  go_cut [12] (fun s12 wx => s12 = .bool (b1 || b2 || b3 || b4) /\ wx = w2)
  case first =>
   cases b1 with
   | true => go_wp2_with fail; go_meet; exact ⟨rfl, rfl⟩
   | false =>
    cases b2 with
    | true => go_wp2_with fail; go_meet; exact ⟨rfl, rfl⟩
    | false =>
     cases b3 with
     | true => go_wp2_with fail; go_meet; exact ⟨rfl, rfl⟩
     | false => cases b4 <;> (go_wp2_with fail; go_meet; exact ⟨rfl, rfl⟩)
  case rest =>
  obtain ⟨rfl, rfl⟩ := hcut; clear hb1 hb2 hb3 hb4; have hT := HT.out; have HB1 := zpt (zac HB.out HB.out.size HB2.out); by_cases hm : (b1 || b2 || b3 || b4) = true
  . rw [if_pos (HMo.out.1 hm)] at hT
    have HV := zpt hT; clear hT HT; rw [hm]; clear hm; go_wp2_with fail; go_ret
    exact ⟨by rw [HV.out]; rfl, HB1.out⟩
  rw [if_neg (fun h => hm (HMo.out.2 h))] at hT
  rw [Bool.not_eq_true] at hm; rw [hm]; clear HMo hm HT; have HT := zpt hT; clear hT; go_upto_region 5 with fail; have HF30 := zpt (fun W (hW : Below w1.heap.size w1 W) => zcp B3 c3 r.f3 r.f0 W (zqS HA.out.h3 hW))
  have hz0 := zcs r.f3 r.f0; generalize zaN r.f3 r.f0 = z at HF30 hz0; have HZ := zpt hz0; generalize (zab r.f3).contains r.f0.data.toList = t4 at HT HZ; clear hz0; generalize zaL (zab r.f1) = t1 at HT HT1; generalize zaL (zab r.f2) = t2 at HT HT2; generalize zaL (zab r.f3) = t3 at HT HT3; have HBk := zpt HB2.out; have HSk : Hid (∀ W : World, Below w1.heap.size w1 W -> zev r B1 c1 B2 c2 B3 c3 B4 c4 w.heap.size W) := HSo; go_cut [35] (fun s35 wx => s35 = .bool (t1 || t2 || t3 || t4) /\ Aside0 (Below w1.heap.size w1 wx))
  case first =>
   cases t1 with
   | true =>
    go_wp2_with (first | (go_at_call_of 91 (Value.slice B1 r.f1.length c1); refine (HT1.out _ HBk.out).mono ?_; rintro e w3 ⟨rfl, hb3⟩; have HBk := zpt (zac HBk.out HBk.out.size hb3); clear hb3))
    go_meet
    exact ⟨rfl, ⟨HBk.out⟩⟩
   | false =>
    cases t2 with
    | true =>
     go_wp2_with (first
      | (go_at_call_of 91 (Value.slice B1 r.f1.length c1); refine (HT1.out _ HBk.out).mono ?_; rintro e w3 ⟨rfl, hb3⟩; have HBk := zpt (zac HBk.out HBk.out.size hb3); clear hb3 j1 j2 j3 j4; obtain ⟨_, j1, j2, j3, j4⟩ := HSk.out _ HBk.out)
      | (go_at_call_of 91 (Value.slice B2 r.f2.length c2); refine (HT2.out _ HBk.out).mono ?_; rintro e w4 ⟨rfl, hb4⟩; have HBk := zpt (zac HBk.out HBk.out.size hb4); clear hb4))
     go_meet
     exact ⟨rfl, ⟨HBk.out⟩⟩
    | false =>
     cases t3 with
     | true =>
      go_wp2_with (first
       | (go_at_call_of 91 (Value.slice B1 r.f1.length c1); refine (HT1.out _ HBk.out).mono ?_; rintro e w3 ⟨rfl, hb3⟩; have HBk := zpt (zac HBk.out HBk.out.size hb3); clear hb3 j1 j2 j3 j4; obtain ⟨_, j1, j2, j3, j4⟩ := HSk.out _ HBk.out)
       | (go_at_call_of 91 (Value.slice B2 r.f2.length c2); refine (HT2.out _ HBk.out).mono ?_; rintro e w4 ⟨rfl, hb4⟩; have HBk := zpt (zac HBk.out HBk.out.size hb4); clear hb4 j1 j2 j3 j4; obtain ⟨_, j1, j2, j3, j4⟩ := HSk.out _ HBk.out)
       | (go_at_call_of 91 (Value.slice B3 r.f3.length c3); refine (HT3.out _ HBk.out).mono ?_; rintro e w5 ⟨rfl, hb5⟩; have HBk := zpt (zac HBk.out HBk.out.size hb5); clear hb5))
      go_meet
      exact ⟨rfl, ⟨HBk.out⟩⟩
     | false =>
      have hz := HZ.out; go_wp2_with (first
       | (go_at_call_of 91 (Value.slice B1 r.f1.length c1); refine (HT1.out _ HBk.out).mono ?_; rintro e w3 ⟨rfl, hb3⟩; have HBk := zpt (zac HBk.out HBk.out.size hb3); clear hb3 j1 j2 j3 j4; obtain ⟨_, j1, j2, j3, j4⟩ := HSk.out _ HBk.out)
       | (go_at_call_of 91 (Value.slice B2 r.f2.length c2); refine (HT2.out _ HBk.out).mono ?_; rintro e w4 ⟨rfl, hb4⟩; have HBk := zpt (zac HBk.out HBk.out.size hb4); clear hb4 j1 j2 j3 j4; obtain ⟨_, j1, j2, j3, j4⟩ := HSk.out _ HBk.out)
       | (go_at_call_of 91 (Value.slice B3 r.f3.length c3); refine (HT3.out _ HBk.out).mono ?_; rintro e w5 ⟨rfl, hb5⟩; have HBk := zpt (zac HBk.out HBk.out.size hb5); clear hb5 j1 j2 j3 j4; obtain ⟨j0, j1, j2, j3, j4⟩ := HSk.out _ HBk.out)
       | (go_at_call 32; refine (HF30.out _ HBk.out).mono ?_; rintro e w6 ⟨rfl, rfl⟩))
      go_meet
      exact ⟨by first | rfl | (rw [hz]; rfl), ⟨HBk.out⟩⟩
  case rest =>
  clear HBk j1 j2 j3 j4; obtain ⟨rfl, HBk⟩ := hcut; have hT := HT.out; have HB5 := zpt (zac HB.out HB.out.size HBk.out); by_cases hm : (t1 || t2 || t3 || t4) = true
  . rw [if_pos hm] at hT
    have HV := zpt hT; clear hT HT; rw [hm]; clear hm; go_wp2_with fail; go_ret
    exact ⟨by rw [HV.out]; rfl, HB5.out⟩
  rw [if_neg hm] at hT; rw [Bool.not_eq_true] at hm; rw [hm]; clear hm HT; have HT := zpt hT; clear hT; obtain ⟨W0, hW0⟩ : ∃ W0, W0 = zbN (zab r.f1) (r.f4.map zaC) [] := ⟨_, rfl⟩; have HW0 := zpt hW0; rw [<- hW0] at HT; clear hW0; go_wp2_with fail; go_loopg [3, 4] r.f4.length (fun gg s3 s4 wr => ∃ (kk : Nat) (X : Option Addr) (d : Nat) (K : List ByteArray), kk <= r.f4.length /\ r.f4.length - kk <= gg /\ s4 = .int .i64 kk /\ s3 = .slice X K.length d /\ Aside0 (K.length = kk) /\ Aside0 (zbN (zab r.f1) ((r.f4.map zaC).drop kk) (zab K) = W0) /\ Aside0 (RS wr w1.heap.size (.slice X K.length d) K) /\ Aside0 (Below w1.heap.size w1 wr))
  case atStart => exact ⟨0, none, 0, [], zqk _, by omega, rfl, rfl, ⟨rfl⟩, ⟨by rw [HW0.out]; rfl⟩, ⟨Kd.R_nil _ _ _ _ _⟩, ⟨HBk.out⟩⟩
  case round =>
   obtain ⟨kk, X, d, K, hkk, hgk, rfl, rfl, HKl, HWk, HO, HW⟩ := hrel; obtain ⟨wq, rfl⟩ : ∃ wq, wq = wr := ⟨wr, rfl⟩; obtain ⟨_, j1, j2, j3, j4⟩ := HSk.out _ HW.out; by_cases hlt : kk < r.f4.length
   . have hltz : (kk : Int) < (r.f4.length : Int) := by omega
     obtain ⟨b, o, C2, d2, C3, d3, rfl, p0, p1, p2, p3, p4, g2, g3⟩ := zcA HA.out.h4 kk hlt; have hwk := HWk.out; rw [zp1 (by rw [zqe]; exact hlt), List.getElem_map, znl] at hwk
     have hxl := (HF.out.stepN _ (zqQ hlt)).2.1; generalize r.f4[kk] = x at p0 p1 p2 p3 p4 g2 g3 hwk hxl; have hwk2 : (if ((zab r.f1).contains x.f0.data.toList || (zab K).contains x.f0.data.toList) || (zab x.f2).any (fun a => !(zab r.f1).contains a && !(zab K).contains a) then none else zbN (zab r.f1) ((r.f4.map zaC).drop (kk + 1)) (zab K ++ [x.f0.data.toList])) = W0 := hwk
     have HWn := zpt hwk2; have i0 := zad HW.out p0; have i1 := zad HW.out p1; have i2 := zad HW.out p2; have i3 := zad HW.out p3; have i4 := zad HW.out p4; have HG2 := zpt g2; obtain ⟨X', d', he, _, hCK⟩ := zqq HO.out; injection he with he1 he2 he3; subst he1 he3; have hab3 := (zpw wq.heap.size wq).alloc (zpx _) (.cells #[.string x.f0, .int .i64 x.f1, .slice C2 x.f2.length d2, .slice C3 x.f3.length d3, .int .i64 x.f4] 24); have HX3 := zpt (zap wq (.cells #[.string x.f0, .int .i64 x.f1, .slice C2 x.f2.length d2, .slice C3 x.f3.length d3, .int .i64 x.f4] 24)); have HW3 := zpt (zac HW.out HW.out.size hab3); have HO3 := zpt (zqu HO.out hab3); have HC3 := zpt (zqS hCK hab3); clear hwk hwk2 p0 p1 p2 p3 p4 g2 g3 he2 hCK hab3; go_upto_region 12 with fail; generalize wq.alloc (.cells #[.string x.f0, .int .i64 x.f1, .slice C2 x.f2.length d2, .slice C3 x.f3.length d3, .int .i64 x.f4] 24) = w3 at HX3 HW3 HO3 HC3 |-; generalize wq.heap.size = S at HX3 |-; have x0 := bc0 HX3.out; obtain ⟨_, q1, _, _, _⟩ := HSk.out _ HW3.out; have HF1 := zpt (zcp B1 c1 r.f1 x.f0 w3 (zqS HA.out.h1 HW3.out)); have HF2 := zpt (zcp X d K x.f0 w3 HC3.out); have hz1 := zcs r.f1 x.f0; have hz2 := zcs K x.f0; generalize zaN r.f1 x.f0 = z1 at HF1 hz1; generalize zaN K x.f0 = z2 at HF2 hz2; have hwn := HWn.out; generalize (zab r.f1).contains x.f0.data.toList = a1 at hwn hz1; generalize (zab K).contains x.f0.data.toList = a2 at hwn hz2; clear HWn; have HWn := zpt hwn; clear hwn; go_cut [81] (fun s81 wx => s81 = .bool (a1 || a2) /\ wx = w3)
     case first =>
      cases a1 with
      | true =>
       go_wp2_with (first | (go_at_call_of 32 (Value.slice B1 r.f1.length c1); refine HF1.out.mono ?_; rintro e w5 ⟨rfl, rfl⟩))
       go_meet
       exact ⟨rfl, rfl⟩
      | false =>
       go_wp2_with (first | (go_at_call_of 32 (Value.slice B1 r.f1.length c1); refine HF1.out.mono ?_; rintro e w5 ⟨rfl, rfl⟩) | (go_at_call_of 32 (Value.slice X K.length d); refine HF2.out.mono ?_; rintro e w6 ⟨rfl, rfl⟩))
       go_meet
       exact ⟨by first | rfl | (rw [hz2]; rfl), rfl⟩
     case rest =>
     clear HF1 HF2 hz1 hz2; obtain ⟨rfl, rfl⟩ := hcut; have HB3 := zpt (zac HB.out HB.out.size HW3.out); by_cases hm : (a1 || a2) = true
     . have HV : Hid (T = 2) := by
        have h := HWn.out; rw [if_pos (by rw [hm]; rfl)] at h
        show _ = _
        rw [HT.out, <- h]
       rw [hm]; clear hm; go_wp2_with fail; go_ret
       exact ⟨by rw [HV.out]; rfl, HB3.out⟩
     rw [Bool.not_eq_true] at hm; have hwn := HWn.out; rw [hm, zqT] at hwn; rw [hm]; clear hm HWn; have HWn := zpt hwn; clear hwn; obtain ⟨w3, rfl⟩ : ∃ w3, w3 = wc := ⟨wc, rfl⟩; obtain ⟨RE, hRE⟩ : ∃ RE, RE = zbN (zab r.f1) ((r.f4.map zaC).drop (kk + 1)) (zab K ++ [x.f0.data.toList]) := ⟨_, rfl⟩; have hwn := HWn.out; rw [<- hRE] at hwn; have HRE := zpt hRE; clear HWn hRE; have HWn := zpt hwn; clear hwn; have HG3 := zpt (zqS HG2.out HW3.out); have HSy : Hid (∀ W : World, Below w3.heap.size w3 W -> W.cell? ⟨w.heap.size, 1, none⟩ = some (.slice B1 r.f1.length c1) /\ W.cell? ⟨S, 2, none⟩ = some (.slice C2 x.f2.length d2)) := zpt (fun W hW => ⟨(HSk.out W (zac HW3.out HW3.out.size hW)).2.1, bc2 (zai HX3.out hW)⟩)
     clear i0 i1 i2 i3 i4 q1 x0 HG2 j1 j2 j3 j4; go_wp2_with fail; go_loopg [6] x.f2.length (fun gg s6 wr => ∃ jj : Nat, jj <= x.f2.length /\ x.f2.length - jj <= gg /\ s6 = .int .i64 jj /\ Aside0 ((if ((zab x.f2).drop jj).any (fun a => !(zab r.f1).contains a && !(zab K).contains a) = true then none else RE) = W0) /\ Aside0 (Below w3.heap.size w3 wr))
     case atStart => exact ⟨0, zqk _, by omega, rfl, ⟨HWn.out⟩, ⟨zpw _ _⟩⟩
     case round =>
      obtain ⟨jj, hjj, hgj, rfl, HY, HI⟩ := hrel; obtain ⟨wi, rfl⟩ : ∃ wi, wi = wr := ⟨wr, rfl⟩; obtain ⟨y1, y2⟩ := HSy.out _ HI.out; by_cases hlj : jj < x.f2.length
      . have hljz : (jj : Int) < (x.f2.length : Int) := by omega
        obtain ⟨b5, o5, rfl, pa⟩ := za4 HG3.out jj hlj; have hany : ((zab x.f2).drop jj).any (fun a => !(zab r.f1).contains a && !(zab K).contains a) = ((!decide (0 <= zaN r.f1 x.f2[jj]) && !decide (0 <= zaN K x.f2[jj])) || ((zab x.f2).drop (jj + 1)).any (fun a => !(zab r.f1).contains a && !(zab K).contains a)) := by
         rw [zcs, zcs, zp1 (by rw [zaT]; exact hlj), List.any_cons, zco _ _ hlj]
        have hy := HY.out; rw [hany] at hy; clear hany; have HF1 := zpt (fun W (hW : Below w3.heap.size w3 W) => zcp B1 c1 r.f1 x.f2[jj] W (zqS HA.out.h1 (zac HW3.out HW3.out.size hW)))
        have HF2 := zpt (fun W (hW : Below w3.heap.size w3 W) => zcp X d K x.f2[jj] W (zqS HC3.out hW))
        generalize x.f2[jj] = a at pa HF1 HF2 hy; generalize zaN r.f1 a = z1 at HF1 hy; generalize zaN K a = z2 at HF2 hy; have HIb : Hid (Below w3.heap.size w3 wi.drew) := zpt (zac HI.out HI.out.size (zaM (zpw _ _))); have HPa := zpt pa; have HBi := zpt (zac HB3.out HB3.out.size HIb.out); have HY2 := zpt hy; clear hy HY; by_cases hz1 : z1 < 0
        . by_cases hz2 : z2 < 0
          . have HV : Hid (T = 2) := by
             have h := HY2.out; rw [decide_eq_false (show ¬ 0 <= z1 by omega), decide_eq_false (show ¬ 0 <= z2 by omega), if_pos (by rfl)] at h
             show _ = _
             rw [HT.out, <- h]
            go_wp2_with fail; go_region_held3 (fun W => W.cell? ⟨w.heap.size, 1, none⟩ = some (.slice B1 r.f1.length c1) /\ W.cell? ⟨S, 2, none⟩ = some (.slice (some ⟨b5, o5, none⟩) x.f2.length d2) /\ W.cell? ⟨b5, o5 + jj, none⟩ = some (.string a))
             (exact ⟨(HSy.out _ HIb.out).1, (HSy.out _ HIb.out).2, zad HIb.out HPa.out⟩)
             (first | (go_at_call_of 32 (Value.slice B1 r.f1.length c1); refine (HF1.out _ HIb.out).mono ?_; rintro e w5 ⟨rfl, rfl⟩) | (go_at_call_of 32 (Value.slice X K.length d); refine (HF2.out _ HIb.out).mono ?_; rintro e w6 ⟨rfl, rfl⟩))
            all_goals
             go_wp2_with fail; go_ret
             exact ⟨by rw [HV.out]; rfl, HBi.out⟩
          . have HYn : Hid ((if ((zab x.f2).drop (jj + 1)).any (fun a => !(zab r.f1).contains a && !(zab K).contains a) = true then none else RE) = W0) := by
             have h := HY2.out; rw [decide_eq_true (show 0 <= z2 by omega), Bool.not_true, Bool.and_false, zqT] at h
             exact h
            go_wp2_with fail; go_region_held3 (fun W => W.cell? ⟨w.heap.size, 1, none⟩ = some (.slice B1 r.f1.length c1) /\ W.cell? ⟨S, 2, none⟩ = some (.slice (some ⟨b5, o5, none⟩) x.f2.length d2) /\ W.cell? ⟨b5, o5 + jj, none⟩ = some (.string a))
             (exact ⟨(HSy.out _ HIb.out).1, (HSy.out _ HIb.out).2, zad HIb.out HPa.out⟩)
             (first | (go_at_call_of 32 (Value.slice B1 r.f1.length c1); refine (HF1.out _ HIb.out).mono ?_; rintro e w5 ⟨rfl, rfl⟩) | (go_at_call_of 32 (Value.slice X K.length d); refine (HF2.out _ HIb.out).mono ?_; rintro e w6 ⟨rfl, rfl⟩))
            all_goals
             go_wp2_with fail; go_roundg (x.f2.length - (jj + 1))
             case measure => omega
             case rel => exact ⟨jj + 1, by omega, by omega, by first | rfl | go_num, ⟨HYn.out⟩, ⟨HIb.out⟩⟩
        . have HYn : Hid ((if ((zab x.f2).drop (jj + 1)).any (fun a => !(zab r.f1).contains a && !(zab K).contains a) = true then none else RE) = W0) := by
           have h := HY2.out; rw [decide_eq_true (show 0 <= z1 by omega), Bool.not_true, Bool.false_and, zqT] at h
           exact h
          go_wp2_with fail; have hneg : decide (z1 < 0) = false := decide_eq_false (by omega)
          --WALK17
          have HSz : Hid (∀ w', Below w3.heap.size w3 w' -> w'.cell? ⟨w.heap.size, 1, none⟩ = some (.slice B1 r.f1.length c1) /\ w'.cell? ⟨S, 2, none⟩ = some (.slice (some ⟨b5, o5, none⟩) x.f2.length d2) /\ w'.cell? ⟨b5, o5 + jj, none⟩ = some (.string a)) := zpt (fun w' hW => ⟨(HSy.out _ hW).1, (HSy.out _ hW).2, zad hW HPa.out⟩)
          refine startR (n := 19) [0, 1, 2, 3, 4, 5, 6, 7, 8, 9, 10, 11, 12, 13, 14, 15, 16, 17, 18] (S := fun w' => w'.cell? ⟨w.heap.size, 1, none⟩ = some (.slice B1 r.f1.length c1) /\ w'.cell? ⟨S, 2, none⟩ = some (.slice (some ⟨b5, o5, none⟩) x.f2.length d2) /\ w'.cell? ⟨b5, o5 + jj, none⟩ = some (.string a)) (ds := []) (by kernel_rfl) rfl (by kernel_rfl) (HSz.out _ HIb.out) (fun hHeld => ?_)
          iterate 7 (refine nextR (v := ?_) (a' := ?_) rfl (by decide +kernel) (fun _ _ _ h => h) (zqY ⟨by rfl, ?_⟩) hHeld ?_ ?_; rotate_left; (rintro w' ⟨s0, s1, s2⟩; go_simp; with_reducible rfl); rotate_left; (simp only [Act.put, List.getElem_toArray, List.getElem_cons_zero, List.getElem_cons_succ, zqZ, zq0, zq1, zaf, zag]; rfl))
          refine oneR rfl (by decide +kernel) (by decide) (fun K hK => ?_)
          refine zb2 Tryz.func32 (by kernel_rfl) rfl #[.slice B1 r.f1.length c1, .string a] (by rfl) rfl rfl (by simp only [List.map_toArray, List.map_cons, zpY]; rfl) ?_
          with_reducible refine (HF1.out _ HIb.out).mono ?_
          rintro e w5 ⟨rfl, rfl⟩; refine ⟨_, rfl, ?_⟩; refine hK.out _ _ (HSz.out _ HIb.out) (fun hHeld => ?_)
          clear hK K; refine za6 (a' := ?_) ?_ ?_; rotate_left
          . show Act.put _ (some 96) _ = _
            (simp only [Act.put, List.getElem_toArray, List.getElem_cons_zero, List.getElem_cons_succ, zqZ, zq0, zq1, zaf, zag]; rfl)
          iterate 2 (refine nextR (v := ?_) (a' := ?_) rfl (by decide +kernel) (fun _ _ _ h => h) (zqY ⟨by rfl, ?_⟩) hHeld ?_ ?_; rotate_left; (rintro w' ⟨s0, s1, s2⟩; go_simp; with_reducible rfl); rotate_left; (simp only [Act.put, List.getElem_toArray, List.getElem_cons_zero, List.getElem_cons_succ, zqZ, zq0, zq1, zaf, zag]; rfl))
          iterate 8 (refine nextR (v := undef) (a' := ?_) rfl (by decide +kernel) (fun _ _ _ h => h) (Or.inr ⟨by rfl, rfl⟩) hHeld ?_ ?_; rotate_left; (simp only [Act.put, List.getElem_toArray, List.getElem_cons_zero, List.getElem_cons_succ, zqZ, zq0, zq1, zaf, zag]; rfl))
          iterate 1 (refine nextR (v := ?_) (a' := ?_) rfl (by decide +kernel) (fun _ _ _ h => h) (zqY ⟨by rfl, ?_⟩) hHeld ?_ ?_; rotate_left; (rintro w' ⟨s0, s1, s2⟩; go_simp; with_reducible rfl); rotate_left; (simp only [Act.put, List.getElem_toArray, List.getElem_cons_zero, List.getElem_cons_succ, zqZ, zq0, zq1, zaf, zag]; rfl))
          refine zcF (by decide +kernel) ?_
          --END17
          go_wp2_with fail; go_roundg (x.f2.length - (jj + 1))
          case measure => omega
          case rel => exact ⟨jj + 1, by omega, by omega, by first | rfl | go_num, ⟨HYn.out⟩, ⟨HIb.out⟩⟩
      . have hljz : ¬ (jj : Int) < (x.f2.length : Int) := by omega
        obtain rfl : jj = x.f2.length := by omega
        have hy := HY.out; rw [zqw (by rw [zaT]; exact zpx _)] at hy
        have hy2 : RE = W0 := hy; have HRW := zpt hy2; obtain ⟨K2, hK2⟩ : ∃ L, L = K ++ [x.f0] := ⟨_, rfl⟩; have HK2 := zpt hK2; have HO4 := zpt (zqu HO3.out HI.out); have HBx := zpt (zac HW3.out HW3.out.size HI.out); have y0 := bc0 (zai HX3.out HI.out); clear hy hy2 hK2 HY; go_wp2_with (first | ((with_reducible refine zaG (b := .append) (xs := #[.tmp 108, .tmp 111]) rfl ?_); at_builtin; refine appS1 x.f0 rfl (.tmp 108) (.tmp 111) rfl rfl rfl HO4.out HBx.out HBx.out.size ?aL ?_; (case aL => (have h1 := HKl.out; omega)); intro v1 w8 ho hb; rw [<- HK2.out] at ho; obtain ⟨Y1, e1, rfl, _, _⟩ := zqq ho; have HO8 := zpt ho; have HB8 := zpt hb; clear ho hb))
        go_roundg (r.f4.length - (kk + 1))
        case measure => omega
        case rel => exact ⟨kk + 1, Y1, e1, K2, by omega, by omega, by first | rfl | go_num, rfl, ⟨by rw [HK2.out, List.length_append, HKl.out]; rfl⟩, ⟨by rw [HK2.out, <- HRW.out, HRE.out]; unfold zab; rw [zqo]; rfl⟩, ⟨HO8.out⟩, ⟨HB8.out⟩⟩
   . have hltz : ¬ (kk : Int) < (r.f4.length : Int) := by omega
     obtain rfl : kk = r.f4.length := by omega
     have hw := HWk.out; rw [zqw (by rw [zqe]; exact zpx _)] at hw
     have hw2 : some (zab K) = W0 := hw; have hT := HT.out; rw [<- hw2] at hT; have hT2 : T = if ((zab r.f2).any fun o => (zab r.f1).contains o || !(zab K).contains o) = true then 2 else 0 := hT
     obtain ⟨X', d', he, _, hCK⟩ := zqq HO.out; injection he with he1 he2 he3; subst he1 he3; have HCK := zpt hCK; have HT2 := zpt hT2; clear hw hw2 hT hT2 he2 hCK HT; have HA2 := zpt (zqS HA.out.h2 HW.out); have HSy : Hid (∀ W : World, Below wq.heap.size wq W -> W.cell? ⟨w.heap.size, 1, none⟩ = some (.slice B1 r.f1.length c1) /\ W.cell? ⟨w.heap.size, 2, none⟩ = some (.slice B2 r.f2.length c2)) := zpt (fun W hW => ⟨(HSk.out W (zac HW.out HW.out.size hW)).2.1, (HSk.out W (zac HW.out HW.out.size hW)).2.2.1⟩)
     have HBq := zpt (zac HB.out HB.out.size HW.out); clear j1 j2 j3; go_wp2_with fail; go_loopg [7] r.f2.length (fun gg s7 wr => ∃ jj : Nat, jj <= r.f2.length /\ r.f2.length - jj <= gg /\ s7 = .int .i64 jj /\ Aside0 (T = if ((zab r.f2).drop jj).any (fun o => (zab r.f1).contains o || !(zab K).contains o) = true then 2 else 0) /\ Aside0 (Below wq.heap.size wq wr))
     case atStart => exact ⟨0, zqk _, by omega, rfl, ⟨HT2.out⟩, ⟨zpw _ _⟩⟩
     case round =>
      obtain ⟨jj, hjj, hgj, rfl, HY, HI⟩ := hrel; obtain ⟨wi, rfl⟩ : ∃ wi, wi = wr := ⟨wr, rfl⟩; obtain ⟨y1, y2⟩ := HSy.out _ HI.out; by_cases hlj : jj < r.f2.length
      . have hljz : (jj : Int) < (r.f2.length : Int) := by omega
        obtain ⟨b5, o5, rfl, pa⟩ := za4 HA2.out jj hlj; have hany : ((zab r.f2).drop jj).any (fun o => (zab r.f1).contains o || !(zab K).contains o) = ((decide (0 <= zaN r.f1 r.f2[jj]) || !decide (0 <= zaN K r.f2[jj])) || ((zab r.f2).drop (jj + 1)).any (fun o => (zab r.f1).contains o || !(zab K).contains o)) := by
         rw [zcs, zcs, zp1 (by rw [zaT]; exact hlj), List.any_cons, zco _ _ hlj]
        have hy := HY.out; rw [hany] at hy; clear hany; have HF1 := zpt (fun W (hW : Below wq.heap.size wq W) => zcp B1 c1 r.f1 r.f2[jj] W (zqS HA.out.h1 (zac HW.out HW.out.size hW)))
        have HF2 := zpt (fun W (hW : Below wq.heap.size wq W) => zcp X d K r.f2[jj] W (zqS HCK.out hW))
        generalize r.f2[jj] = a at pa HF1 HF2 hy; generalize zaN r.f1 a = z1 at HF1 hy; generalize zaN K a = z2 at HF2 hy; have HIb : Hid (Below wq.heap.size wq wi.drew) := zpt (zac HI.out HI.out.size (zaM (zpw _ _))); have HPa := zpt pa; have HBi := zpt (zac HBq.out HBq.out.size HIb.out); have HY2 := zpt hy; clear hy HY; by_cases hz1 : z1 < 0
        . by_cases hz2 : z2 < 0
          . have HV : Hid (T = 2) := by
             have h := HY2.out; rw [decide_eq_false (show ¬ 0 <= z1 by omega), decide_eq_false (show ¬ 0 <= z2 by omega), if_pos (by rfl)] at h
             exact h
            go_wp2_with fail; have hng : decide (0 <= z1) = false := decide_eq_false (by omega)
            go_region_held3 (fun W => W.cell? ⟨w.heap.size, 1, none⟩ = some (.slice B1 r.f1.length c1) /\ W.cell? ⟨w.heap.size, 2, none⟩ = some (.slice (some ⟨b5, o5, none⟩) r.f2.length c2) /\ W.cell? ⟨b5, o5 + jj, none⟩ = some (.string a))
             (exact ⟨(HSy.out _ HIb.out).1, (HSy.out _ HIb.out).2, zad HIb.out HPa.out⟩)
             (first | (go_at_call_of 32 (Value.slice B1 r.f1.length c1); refine (HF1.out _ HIb.out).mono ?_; rintro e w5 ⟨rfl, rfl⟩) | (go_at_call_of 32 (Value.slice X K.length d); refine (HF2.out _ HIb.out).mono ?_; rintro e w6 ⟨rfl, rfl⟩))
            all_goals
             go_wp2_with fail; go_ret
             exact ⟨by rw [HV.out]; rfl, HBi.out⟩
          . have HYn : Hid (T = if ((zab r.f2).drop (jj + 1)).any (fun o => (zab r.f1).contains o || !(zab K).contains o) = true then 2 else 0) := by
             have h := HY2.out; rw [decide_eq_false (show ¬ 0 <= z1 by omega), decide_eq_true (show 0 <= z2 by omega), Bool.not_true, Bool.or_false, zqT] at h
             exact h
            go_wp2_with fail; have hng : decide (0 <= z1) = false := decide_eq_false (by omega)
            go_region_held3 (fun W => W.cell? ⟨w.heap.size, 1, none⟩ = some (.slice B1 r.f1.length c1) /\ W.cell? ⟨w.heap.size, 2, none⟩ = some (.slice (some ⟨b5, o5, none⟩) r.f2.length c2) /\ W.cell? ⟨b5, o5 + jj, none⟩ = some (.string a))
             (exact ⟨(HSy.out _ HIb.out).1, (HSy.out _ HIb.out).2, zad HIb.out HPa.out⟩)
             (first | (go_at_call_of 32 (Value.slice B1 r.f1.length c1); refine (HF1.out _ HIb.out).mono ?_; rintro e w5 ⟨rfl, rfl⟩) | (go_at_call_of 32 (Value.slice X K.length d); refine (HF2.out _ HIb.out).mono ?_; rintro e w6 ⟨rfl, rfl⟩))
            all_goals
             go_wp2_with fail; go_roundg (r.f2.length - (jj + 1))
             case measure => omega
             case rel => exact ⟨jj + 1, by omega, by omega, by first | rfl | go_num, ⟨HYn.out⟩, ⟨HIb.out⟩⟩
        . have HV : Hid (T = 2) := by
           have h := HY2.out; rw [decide_eq_true (show 0 <= z1 by omega), Bool.true_or, if_pos (by rfl)] at h
           exact h
          go_wp2_with fail; have hge : decide (0 <= z1) = true := decide_eq_true (by omega)
          --WALK23
          have HSz : Hid (∀ w', Below wq.heap.size wq w' -> w'.cell? ⟨w.heap.size, 1, none⟩ = some (.slice B1 r.f1.length c1) /\ w'.cell? ⟨w.heap.size, 2, none⟩ = some (.slice (some ⟨b5, o5, none⟩) r.f2.length c2) /\ w'.cell? ⟨b5, o5 + jj, none⟩ = some (.string a)) := zpt (fun w' hW => ⟨(HSy.out _ hW).1, (HSy.out _ hW).2, zad hW HPa.out⟩)
          refine startR (n := 19) [0, 1, 2, 3, 4, 5, 6, 7, 8, 9, 10, 11, 12, 13, 14, 15, 16, 17, 18] (S := fun w' => w'.cell? ⟨w.heap.size, 1, none⟩ = some (.slice B1 r.f1.length c1) /\ w'.cell? ⟨w.heap.size, 2, none⟩ = some (.slice (some ⟨b5, o5, none⟩) r.f2.length c2) /\ w'.cell? ⟨b5, o5 + jj, none⟩ = some (.string a)) (ds := []) (by kernel_rfl) rfl (by kernel_rfl) (HSz.out _ HIb.out) (fun hHeld => ?_)
          iterate 7 (refine nextR (v := ?_) (a' := ?_) rfl (by decide +kernel) (fun _ _ _ h => h) (zqY ⟨by rfl, ?_⟩) hHeld ?_ ?_; rotate_left; (rintro w' ⟨s0, s1, s2⟩; go_simp; with_reducible rfl); rotate_left; (simp only [Act.put, List.getElem_toArray, List.getElem_cons_zero, List.getElem_cons_succ, zqZ, zq0, zq1, zaf, zag]; rfl))
          refine oneR rfl (by decide +kernel) (by decide) (fun K hK => ?_)
          refine zb2 Tryz.func32 (by kernel_rfl) rfl #[.slice B1 r.f1.length c1, .string a] (by rfl) rfl rfl (by simp only [List.map_toArray, List.map_cons, zpY]; rfl) ?_
          with_reducible refine (HF1.out _ HIb.out).mono ?_
          rintro e w5 ⟨rfl, rfl⟩; refine ⟨_, rfl, ?_⟩; refine hK.out _ _ (HSz.out _ HIb.out) (fun hHeld => ?_)
          clear hK K; refine za6 (a' := ?_) ?_ ?_; rotate_left
          . show Act.put _ (some 127) _ = _
            (simp only [Act.put, List.getElem_toArray, List.getElem_cons_zero, List.getElem_cons_succ, zqZ, zq0, zq1, zaf, zag]; rfl)
          iterate 2 (refine nextR (v := ?_) (a' := ?_) rfl (by decide +kernel) (fun _ _ _ h => h) (zqY ⟨by rfl, ?_⟩) hHeld ?_ ?_; rotate_left; (rintro w' ⟨s0, s1, s2⟩; go_simp; with_reducible rfl); rotate_left; (simp only [Act.put, List.getElem_toArray, List.getElem_cons_zero, List.getElem_cons_succ, zqZ, zq0, zq1, zaf, zag]; rfl))
          iterate 8 (refine nextR (v := undef) (a' := ?_) rfl (by decide +kernel) (fun _ _ _ h => h) (Or.inr ⟨by rfl, rfl⟩) hHeld ?_ ?_; rotate_left; (simp only [Act.put, List.getElem_toArray, List.getElem_cons_zero, List.getElem_cons_succ, zqZ, zq0, zq1, zaf, zag]; rfl))
          iterate 1 (refine nextR (v := ?_) (a' := ?_) rfl (by decide +kernel) (fun _ _ _ h => h) (zqY ⟨by rfl, ?_⟩) hHeld ?_ ?_; rotate_left; (rintro w' ⟨s0, s1, s2⟩; go_simp; with_reducible rfl); rotate_left; (simp only [Act.put, List.getElem_toArray, List.getElem_cons_zero, List.getElem_cons_succ, zqZ, zq0, zq1, zaf, zag]; rfl))
          refine zcF (by decide +kernel) ?_
          --END23
          go_wp2_with fail; go_ret
          exact ⟨by rw [HV.out]; rfl, HBi.out⟩
      . have hljz : ¬ (jj : Int) < (r.f2.length : Int) := by omega
        obtain rfl : jj = r.f2.length := by omega
        have hy := HY.out; rw [zqw (by rw [zaT]; exact zpx _)] at hy
        have hy2 : T = 0 := hy; have HV := zpt hy2; have HBi := zpt (zac HBq.out HBq.out.size HI.out); clear hy hy2 HY; go_wp2_with fail; go_ret
        exact ⟨by rw [HV.out]; rfl, HBi.out⟩
def upTo (n k : Nat) : Array Bool := (Array.range n).map fun i => decide (i < k)
section
variable {P : Program} {ops : Array Oper} {Q : Exit -> Act -> World -> Prop} {S : World -> Prop} {md : Region.Mode} {ds : List Nat}
theorem zkV {id n : Nat} {a : Act} {w : World} (hm : P.follows .mixedOrders = true) (hn : ops.size = n) (hl : Array.replicate n false = upTo n 0) (hS : S w.drew)
 (h : zax P .any ops Q S ds n (upTo n 0) a w.drew) : (Code.region id ops true).wp P Q a w := zdy (upTo n 0) hm hn hl hS (fun _ => h)
theorem nextT {n k : Nat} {oi : Oper} {v : Value} {fuel : Nat} {a : Act} {w : World} (hi : ops[k]? = some oi) (hc : zd5 md ops ds (upTo n k) (upTo n (k + 1)) k = true)
 (hQ : ∀ c a w, Q (.panic c) (a.put oi.dst v) w -> Q (.panic c) a w) (hy : YieldsIf P ops S oi v a) (hS : S w) {a' : Act} (ha : a.put oi.dst v = a')
 (h : zax P md ops Q S ds fuel (upTo n (k + 1)) a' w) : zax P md ops Q S ds (fuel + 1) (upTo n k) a w := take_ _ hi rfl hc hQ hy hS ha h
end
def upX (n k : Nat) (s : List Nat) : Array Bool := (Array.range n).map fun i => decide (i < k) && !s.contains i
section
variable {P : Program} {ops : Array Oper} {Q : Exit -> Act -> World -> Prop} {S : World -> Prop} {md : Region.Mode} {ds : List Nat} {s : List Nat}
theorem zfA {n k : Nat} {oi : Oper} {v : Value} {fuel : Nat} {a : Act} {w : World} (hi : ops[k]? = some oi) (hc : zd5 md ops ds (upX n k s) (upX n (k + 1) s) k = true)
 (hQ : ∀ c a w, Q (.panic c) (a.put oi.dst v) w -> Q (.panic c) a w) (hy : YieldsIf P ops S oi v a) (hS : S w) {a' : Act} (ha : a.put oi.dst v = a')
 (h : zax P md ops Q S ds fuel (upX n (k + 1) s) a' w) : zax P md ops Q S ds (fuel + 1) (upX n k s) a w := take_ _ hi rfl hc hQ hy hS ha h
theorem zje {n k : Nat} {oi : Oper} {v : Value} {fuel : Nat} {a : Act} {w : World} (hi : ops[k]? = some oi) (hc : anyB md ops (upX n k s) (upX n (k + 1) s) k = true)
 (hQ : ∀ c a w, Q (.panic c) (a.put oi.dst v) w -> Q (.panic c) a w) (hy : Yields P ops oi v a) {a' : Act} (ha : a.put oi.dst v = a')
 (h : zax P md ops Q S ds fuel (upX n (k + 1) s) a' w) : zax P md ops Q S ds (fuel + 1) (upX n k s) a w := zaF _ hi rfl hc hQ hy ha h
theorem zkr {G R : Prop} (main : G -> R) (tail : G) : R := main tail
theorem zhN {n k fuel : Nat} {a : Act} {w : World} (hc : (upX n k s == upX n (k + 1) s) = true) (h : zax P md ops Q S ds fuel (upX n (k + 1) s) a w) : zax P md ops Q S ds fuel (upX n k s) a w := by
 rw [beq_iff_eq] at hc; rw [hc]; exact h
end
def zbF (x : zaw) : zaw := ⟨x.f0, x.f1, x.f2.take 8, x.f3.take 3, x.f4⟩
def zb1 (r : zaj) : zaj := ⟨r.f0, r.f1.take 10, r.f2.take 6, r.f3.take 10, (r.f4.take 14).map zbF⟩
def zhu (r : zaj) (w : World) (e : Ending) (w' : World) : Prop :=
 ∃ X1 d1 X2 d2 X3 d3 X4 d4, e = .returned (.agg #[.string r.f0, .slice X1 r.f1.length d1, .slice X2 r.f2.length d2, .slice X3 r.f3.length d3, .slice X4 r.f4.length d4]) /\
  Kd.FK k45 w' (fun k => w.heap.size <= k) r [.string r.f0, .slice X1 r.f1.length d1, .slice X2 r.f2.length d2, .slice X3 r.f3.length d3, .slice X4 r.f4.length d4] /\ Below w.heap.size w w'
theorem zd6 {α : Type} {d : Kd α} {W : World} {A : Option Addr} {l : List α} (h : d.C W A l.length l) (k : Nat) : d.C W A (l.take k).length (l.take k) := by
 rcases Nat.lt_or_ge l.length k with hk | hk
 . rw [zqP (Nat.le_of_lt hk)]; exact h
 . exact Kd.C_take h hk
theorem zjc {α : Type} {d : Kd α} {W : World} {ok : Nat -> Prop} {A : Option Addr} {l : List α} (h : Kd.F d W ok A l.length l) (k : Nat) : Kd.F d W ok A (l.take k).length (l.take k) := Kd.F_imp h (fun _ hC => zd6 hC k)
theorem zmp (l : List zaw) (k : Nat) (h : k < l.length) : ((l.take k).map zbF ++ l.drop k).getD k z24 = l[k] := by
 have hl : ((l.take k).map zbF).length = k := by simp; omega
 rw [List.getD_eq_getElem?_getD, List.getElem?_append_right (by omega), hl, Nat.sub_self, List.getElem?_drop, Nat.add_zero, zpA h]
 rfl
theorem zng (l : List zaw) (k : Nat) (h : k < l.length) : ((l.take k).map zbF ++ l.drop k).set k (zbF l[k]) = (l.take (k + 1)).map zbF ++ l.drop (k + 1) := by
 have hl : ((l.take k).map zbF).length = k := by simp; omega
 rw [List.set_append_right _ _ (by omega), hl, Nat.sub_self, zp1 h, zq0, List.take_add_one, zpA h, zqo, List.append_assoc]
 rfl
theorem znX {f0 : ByteArray} {l1 l2 l3 n1 n2 n3 : List ByteArray} {l4 n4 : List zaw} {X1 X2 X3 X4 : Option Addr} {d1 d2 d3 d4 : Nat} {w w' : World} (h : n1 = l1.take 10 /\ n2 = l2.take 6 /\ n3 = l3.take 10 /\ n4 = l4.take 14)
 (hF : Kd.FK k45 w' (fun k => w.heap.size <= k) (zb1 ⟨f0, l1, l2, l3, l4⟩) [.string f0, .slice X1 n1.length d1, .slice X2 n2.length d2, .slice X3 n3.length d3, .slice X4 n4.length d4]) (hB : Below w.heap.size w w') :
 zhu (zb1 ⟨f0, l1, l2, l3, l4⟩) w (.returned (.agg #[.string f0, .slice X1 n1.length d1, .slice X2 n2.length d2, .slice X3 n3.length d3, .slice X4 n4.length d4])) w' := by
 obtain ⟨rfl, rfl, rfl, rfl⟩ := h; have e : (zb1 ⟨f0, l1, l2, l3, l4⟩).f4.length = (l4.take 14).length := zqe _; refine ⟨X1, d1, X2, d2, X3, d3, X4, d4, ?_, ?_, hB⟩
 . rw [e]; rfl
 . rw [e]; exact hF
theorem zkX (r : zaj) (A1 : Option Addr) (c1 : Nat) (A2 : Option Addr) (c2 : Nat) (A3 : Option Addr) (c3 : Nat) (A4 : Option Addr) (c4 : Nat) (w : World)
 (h1 : Kd.C zqb w A1 r.f1.length r.f1) (h2 : Kd.C zqb w A2 r.f2.length r.f2) (h3 : Kd.C zqb w A3 r.f3.length r.f3) (h4 : Kd.C k24 w A4 r.f4.length r.f4)
 (hls : ∀ x ∈ r.f4, x.f2.length * 16 <= 140737488355328 /\ x.f3.length * 16 <= 140737488355328)
 (hc1 : r.f1.length <= c1) (hc2 : r.f2.length <= c2) (hc3 : r.f3.length <= c3) (hc4 : r.f4.length <= c4) :
 Calls zp5 53 #[.agg #[.string r.f0, .slice A1 r.f1.length c1, .slice A2 r.f2.length c2, .slice A3 r.f3.length c3, .slice A4 r.f4.length c4]] w (zhu (zb1 r) w) := by
 obtain ⟨f0, l1, l2, l3, l4⟩ := r; dsimp only at *; have hb1 := (zpw w.heap.size w).alloc (zpx _) (.cells #[.string f0, .slice A1 l1.length c1, .slice A2 l2.length c2, .slice A3 l3.length c3, .slice A4 l4.length c4] 45); have hb2 := hb1.alloc hb1.size (.cells RUz 45); have hk := zaQ (zap w (.cells #[.string f0, .slice A1 l1.length c1, .slice A2 l2.length c2, .slice A3 l3.length c3, .slice A4 l4.length c4] 45)) (.cells RUz 45); have hz := zap (w.alloc (.cells #[.string f0, .slice A1 l1.length c1, .slice A2 l2.length c2, .slice A3 l3.length c3, .slice A4 l4.length c4] 45)) (.cells RUz 45); rw [World.size_alloc] at hz; have HB2 := zpt hb2; have HK2 := zpt hk; have HZ2 := zpt hz; have H1 := zpt (zqS h1 hb2); have H2 := zpt (zqS h2 hb2); have H3 := zpt (zqS h3 hb2); have H4 := zpt (zqS h4 hb2); have HLS := zpt hls; clear hb1 hb2 hk hz h1 h2 h3 h4 hls; go_enter Tryz.func53, Tryz.ntmps53
 go_wp2_with fail; generalize (w.alloc (.cells #[.string f0, .slice A1 l1.length c1, .slice A2 l2.length c2, .slice A3 l3.length c3, .slice A4 l4.length c4] 45)).alloc (.cells RUz 45) = w2 at HB2 HK2 HZ2 H1 H2 H3 H4 |-; obtain ⟨n1, hn1⟩ : ∃ n, n = l1.take 10 := ⟨_, rfl⟩; have e1 : min (l1.length : Int) 10 = (n1.length : Int) := by rw [hn1, zpI]; omega
 have b1 : (n1.length : Int) <= (c1 : Int) := by rw [hn1, zpI]; omega
 have HN1 := zpt (show Kd.C _ w2 A1 n1.length n1 by rw [hn1]; exact zd6 H1.out 10)
 obtain ⟨n2, hn2⟩ : ∃ n, n = l2.take 6 := ⟨_, rfl⟩; have e2 : min (l2.length : Int) 6 = (n2.length : Int) := by rw [hn2, zpI]; omega
 have b2 : (n2.length : Int) <= (c2 : Int) := by rw [hn2, zpI]; omega
 have HN2 := zpt (show Kd.C _ w2 A2 n2.length n2 by rw [hn2]; exact zd6 H2.out 6)
 obtain ⟨n3, hn3⟩ : ∃ n, n = l3.take 10 := ⟨_, rfl⟩; have e3 : min (l3.length : Int) 10 = (n3.length : Int) := by rw [hn3, zpI]; omega
 have b3 : (n3.length : Int) <= (c3 : Int) := by rw [hn3, zpI]; omega
 have HN3 := zpt (show Kd.C _ w2 A3 n3.length n3 by rw [hn3]; exact zd6 H3.out 10)
 obtain ⟨n4, hn4⟩ : ∃ n, n = l4.take 14 := ⟨_, rfl⟩; have e4 : min (l4.length : Int) 14 = (n4.length : Int) := by rw [hn4, zpI]; omega
 have b4 : (n4.length : Int) <= (c4 : Int) := by rw [hn4, zpI]; omega
 have HN4 := zpt (show Kd.C _ w2 A4 n4.length n4 by rw [hn4]; exact zd6 H4.out 14)
 have HW1 := zpt (show n1.length * 16 <= 140737488355328 by rw [hn1, zpI]; omega)
 have HW2 := zpt (show n2.length * 16 <= 140737488355328 by rw [hn2, zpI]; omega)
 have HW3 := zpt (show n3.length * 16 <= 140737488355328 by rw [hn3, zpI]; omega)
 have HW4 := zpt (show n4.length <= 14 by rw [hn4, zpI]; omega)
 have HNS := zpt (show ∀ x ∈ n4, x.f2.length * 16 <= 140737488355328 /\ x.f3.length * 16 <= 140737488355328 from fun x hx => HLS.out x (by rw [hn4] at hx; exact List.mem_of_mem_take hx))
 have HNQ := zpt (And.intro hn1 (And.intro hn2 (And.intro hn3 hn4))); clear hn1 hn2 hn3 hn4 hc1 hc2 hc3 hc4 H1 H2 H3 H4 HLS; have hS1 : ∀ W : World, W.heap[w.heap.size]? = some (.cells #[.string f0, .slice A1 l1.length c1, .slice A2 l2.length c2, .slice A3 l3.length c3, .slice A4 l4.length c4] 45 (0, 0)) -> W.cell? ⟨w.heap.size, 0, none⟩ = some (.string f0) /\ W.cell? ⟨w.heap.size, 1, none⟩ = some (.slice A1 l1.length c1) /\ W.cell? ⟨w.heap.size, 2, none⟩ = some (.slice A2 l2.length c2) /\ W.cell? ⟨w.heap.size, 3, none⟩ = some (.slice A3 l3.length c3) /\ W.cell? ⟨w.heap.size, 4, none⟩ = some (.slice A4 l4.length c4) := fun W h => ⟨(zah h 0).trans rfl, (zah h 1).trans rfl, (zah h 2).trans rfl, (zah h 3).trans rfl, (zah h 4).trans rfl⟩
 have HS1 := zpt hS1; clear hS1; refine zkV (n := 33) (S := fun W => W.cell? ⟨w.heap.size, 0, none⟩ = some (.string f0) /\ W.cell? ⟨w.heap.size, 1, none⟩ = some (.slice A1 l1.length c1) /\ W.cell? ⟨w.heap.size, 2, none⟩ = some (.slice A2 l2.length c2) /\ W.cell? ⟨w.heap.size, 3, none⟩ = some (.slice A3 l3.length c3) /\ W.cell? ⟨w.heap.size, 4, none⟩ = some (.slice A4 l4.length c4)) (ds := [32]) (by kernel_rfl) rfl (by kernel_rfl) ⟨(zah HK2.out 0).trans rfl, (zah HK2.out 1).trans rfl, (zah HK2.out 2).trans rfl, (zah HK2.out 3).trans rfl, (zah HK2.out 4).trans rfl⟩ ?_
 have hHeld : w2.drew.cell? ⟨w.heap.size, 0, none⟩ = some (.string f0) /\ w2.drew.cell? ⟨w.heap.size, 1, none⟩ = some (.slice A1 l1.length c1) /\ w2.drew.cell? ⟨w.heap.size, 2, none⟩ = some (.slice A2 l2.length c2) /\ w2.drew.cell? ⟨w.heap.size, 3, none⟩ = some (.slice A3 l3.length c3) /\ w2.drew.cell? ⟨w.heap.size, 4, none⟩ = some (.slice A4 l4.length c4) := ⟨(zah HK2.out 0).trans rfl, (zah HK2.out 1).trans rfl, (zah HK2.out 2).trans rfl, (zah HK2.out 3).trans rfl, (zah HK2.out 4).trans rfl⟩; iterate 31
  refine nextT (v := ?_) (a' := ?_) rfl (by kernel_rfl) (fun _ _ _ h => h) (zqY ⟨by rfl, ?_⟩) hHeld ?_ ?_
  rotate_left
  . rintro w' ⟨s0, s1, s2, s3, s4⟩
    go_simp
    with_reducible rfl
  rotate_left
  . simp only [Act.put, List.getElem_toArray, List.getElem_cons_zero, List.getElem_cons_succ, zqZ, zq0, zq1, zaf, zag]
    rfl
 refine one_ (i := 31) (N := some 3) (upTo 33 32) rfl rfl (by kernel_rfl) (by decide) (fun K hK => ?_)
 refine zcC (w1 := ?_) (v := ?_) (by rfl) rfl ?_ ?_
 rotate_left 2
 . go_simp
   constructor
   . rfl
   . rfl
 refine hK.out _ _ (HS1.out _ (zaQ (zaH HK2.out) _)) (fun hHeld => ?_)
 clear hK K; refine za6 (a' := ?_) ?_ ?_; rotate_left
 . show Act.put _ (some 3) _ = _
   simp only [Act.put, zqZ, zq0, zq1, zaf, zag]; rfl
 refine zej (i := 32) (N := none) (upTo 33 33) rfl rfl (by kernel_rfl) (by decide) (fun K hK => ?_)
 refine zcQ (w1 := ?_) (by rfl) rfl ?_ ?_
 rotate_left
 . go_simp
   rfl
 refine hK.out _ _ ?_; clear hK K; refine zcF (by kernel_rfl) ?_
 have hb3 : Below w2.heap.size w2 ((w2.alloc (.cells #[.string f0, .slice A1 n1.length c1, .slice A2 n2.length c2, .slice A3 n3.length c3, .slice A4 n4.length c4] 45)).drew) := zaM ((zpw w2.heap.size w2).alloc (zpx _) _); have hx3 : ((w2.alloc (.cells #[.string f0, .slice A1 n1.length c1, .slice A2 n2.length c2, .slice A3 n3.length c3, .slice A4 n4.length c4] 45)).drew).heap[w2.heap.size]? = some (.cells #[.string f0, .slice A1 n1.length c1, .slice A2 n2.length c2, .slice A3 n3.length c3, .slice A4 n4.length c4] 45 (0, 0)) := zaH (zap w2 _); have HB3 := zpt (zac HB2.out HB2.out.size hb3); have HZ3 := zpt (zai HZ2.out hb3); have HC1 := zpt (zqS HN1.out hb3); have HC2 := zpt (zqS HN2.out hb3); have HC3 := zpt (zqS HN3.out hb3); have HC4 := zpt (zqS HN4.out hb3); have HX3 := zpt hx3; generalize (w2.alloc (.cells #[.string f0, .slice A1 n1.length c1, .slice A2 n2.length c2, .slice A3 n3.length c3, .slice A4 n4.length c4] 45)).drew = w3 at HB3 HZ3 HC1 HC2 HC3 HC4 HX3 |-; generalize hG2 : w2.heap.size = G at HX3 |-; have hgw : w.heap.size + 1 < G := by rw [<- hG2]; exact za1 HZ2.out
 have HGW := zpt hgw; have HB3s := zpt HB3.out.size; clear hb3 hx3 hG2 hgw hHeld HS1 HK2 HZ2 HB2 HN1 HN2 HN3 HN4; have g0 := bc0 HX3.out; have g1 := bc1 HX3.out; have g2 := bc2 HX3.out; have g3 := bc3 HX3.out; have g4 := bc4 HX3.out; have hCp := zlK ⟨f0, n1, n2, n3, n4⟩ A1 c1 A2 c2 A3 c3 A4 c4 w3 HC1.out HC2.out HC3.out HC4.out HNS.out HW1.out HW2.out HW3.out (by have := HW4.out; show n4.length * 80 <= _; omega)
 go_wp2_with (go_at_call 45; refine hCp.mono ?_; rintro e w5 ⟨X1, d1, X2, d2, X3, d3, X4, d4, rfl, ho1, ho2, ho3, ho4, hb5⟩; have HX5 := zpt (zai HX3.out hb5); have HZ5 := zpt (zai HZ3.out hb5); have HB5 := zpt (zac HB3.out HB3.out.size hb5); have HO1 := zpt ho1; have HO2 := zpt ho2; have HO3 := zpt ho3; have HO4 := zpt ho4; have HGL := zpt (za1 HX3.out); have z0 := (zah HX5.out 0).trans rfl; have z1 := (zah HX5.out 1).trans rfl; have z2 := (zah HX5.out 2).trans rfl; have z3 := (zah HX5.out 3).trans rfl; have z4 := (zah HX5.out 4).trans rfl; have y0 := zak HX5.out 0; have y1 := zak HX5.out 1; have y2 := zak HX5.out 2; have y3 := zak HX5.out 3; have y4 := zak HX5.out 4; clear ho1 ho2 ho3 ho4 hb5)
 have hx6 := zcl (.string f0) (.slice X1 n1.length d1) (.slice X2 n2.length d2) (.slice X3 n3.length d3) (.slice X4 n4.length d4) HX5.out; have hz6 := zaP (zaP (zaP (zaP (zaP HZ5.out (p := ⟨G, 0, none⟩) (zqG HGW.out) (.string f0)) (p := ⟨G, 1, none⟩) (zqG HGW.out) (.slice X1 n1.length d1)) (p := ⟨G, 2, none⟩) (zqG HGW.out) (.slice X2 n2.length d2)) (p := ⟨G, 3, none⟩) (zqG HGW.out) (.slice X3 n3.length d3)) (p := ⟨G, 4, none⟩) (zqG HGW.out) (.slice X4 n4.length d4); have hr1 := RS.set5 HO1.out (.string f0) (.slice X1 n1.length d1) (.slice X2 n2.length d2) (.slice X3 n3.length d3) (.slice X4 n4.length d4) HX5.out (by decide)
 have hr2 := RS.set5 HO2.out (.string f0) (.slice X1 n1.length d1) (.slice X2 n2.length d2) (.slice X3 n3.length d3) (.slice X4 n4.length d4) HX5.out (by decide)
 have hr3 := RS.set5 HO3.out (.string f0) (.slice X1 n1.length d1) (.slice X2 n2.length d2) (.slice X3 n3.length d3) (.slice X4 n4.length d4) HX5.out (by decide)
 have hr4 := zdz HO4.out (.string f0) (.slice X1 n1.length d1) (.slice X2 n2.length d2) (.slice X3 n3.length d3) (.slice X4 n4.length d4) HX5.out (by decide)
 have hgl : w.heap.size <= G := by have := HGW.out; omega
 have hb6 := ((((HB5.out.setCell (p := ⟨G, 0, none⟩) hgl (.string f0)).setCell (p := ⟨G, 1, none⟩) hgl (.slice X1 n1.length d1)).setCell (p := ⟨G, 2, none⟩) hgl (.slice X2 n2.length d2)).setCell (p := ⟨G, 3, none⟩) hgl (.slice X3 n3.length d3)).setCell (p := ⟨G, 4, none⟩) hgl (.slice X4 n4.length d4); unfold set5 at hx6 hr1 hr2 hr3 hr4; generalize ((((w5.setCell ⟨G, 0, none⟩ (.string f0)).setCell ⟨G, 1, none⟩ (.slice X1 n1.length d1)).setCell ⟨G, 2, none⟩ (.slice X2 n2.length d2)).setCell ⟨G, 3, none⟩ (.slice X3 n3.length d3)).setCell ⟨G, 4, none⟩ (.slice X4 n4.length d4) = w6 at hx6 hz6 hr1 hr2 hr3 hr4 hb6 |-; have HX6 := zpt hx6; have HZ6 := zpt hz6; have HR1 := zpt hr1; have HR2 := zpt hr2; have HR3 := zpt hr3; have HR4 := zpt (Kd.R_N (Kd.R_mono (Kd.R_bound hr4) (fun _ h => h.2.1)))
 have HB6 := zpt hb6; clear hx6 hz6 hr1 hr2 hr3 hr4 hb6 hgl g0 g1 g2 g3 g4 z0 z1 z2 z3 z4 y0 y1 y2 y3 y4 hCp HO1 HO2 HO3 HO4 HX5 HZ5 HB5; have hl4b : n4.length <= 14 := HW4.out; go_loopg [4, 41] n4.length (fun gg _ s41 wr => ∃ kk : Nat, kk <= n4.length /\ n4.length - kk <= gg /\ s41 = .int .i64 kk /\ Aside0 (Below w.heap.size w wr) /\ Aside0 (wr.heap[G]? = some (.cells #[.string f0, .slice X1 n1.length d1, .slice X2 n2.length d2, .slice X3 n3.length d3, .slice X4 n4.length d4] 45 (0, 0))) /\ Aside0 (wr.heap[w.heap.size + 1]? = some (.cells RUz 45 (0, 0))) /\
  Aside0 (RS wr w3.heap.size (.slice X1 n1.length d1) n1) /\ Aside0 (RS wr w3.heap.size (.slice X2 n2.length d2) n2) /\ Aside0 (RS wr w3.heap.size (.slice X3 n3.length d3) n3) /\ Aside0 (Kd.N k24 24 wr w3.heap.size (fun k => w3.heap.size <= k) (.slice X4 n4.length d4) ((n4.take kk).map zbF ++ n4.drop kk)))
 case atStart => exact ⟨0, zqk _, by omega, rfl, ⟨HB6.out⟩, ⟨HX6.out⟩, ⟨HZ6.out⟩, ⟨HR1.out⟩, ⟨HR2.out⟩, ⟨HR3.out⟩, ⟨HR4.out⟩⟩
 case round =>
  obtain ⟨kk, hkk, hgk, rfl, HB, HX, HZ, HP1, HP2, HP3, HN⟩ := hrel; by_cases hlt : kk < n4.length
  . have hltz : (kk : Int) < (n4.length : Int) := by omega
    have hk0 : (0 : Int) <= (kk : Int) := by omega
    have hll : ((n4.take kk).map zbF ++ n4.drop kk).length = n4.length := by simp; omega
    obtain ⟨g, cap, ev, hgb, hgl, cur, hcur⟩ := Kd.N_form HN.out (by omega)
    injection ev with ev1 ev2 ev3; subst ev1 ev3; clear ev2; obtain ⟨c, hcl, hFK, hcc, hfr⟩ := Kd.N_elem HN.out z24 (kk : Int) hk0 hltz; rw [zqN, zmp n4 kk hlt] at hFK; rw [zqN] at hcc hfr; have HSET := zpt (zng n4 kk hlt); generalize n4[kk] = x at hFK HSET; obtain ⟨B2, e2, B3, e3, rfl, hc2, hF2, hc3, hF3⟩ := zlo hFK; have p2 : wr.drew.cell? ⟨g, kk * 5 + 2, none⟩ = some (.slice B2 x.f2.length e2) := hcc 2 _ rfl; have p3 : wr.drew.cell? ⟨g, kk * 5 + 3, none⟩ = some (.slice B3 x.f3.length e3) := hcc 3 _ rfl; have f2 : wr.drew.frozen? ⟨g, kk * 5 + 2, none⟩ = false := hfr 2; have f3 : wr.drew.frozen? ⟨g, kk * 5 + 3, none⟩ = false := hfr 3; have k4 := bc4 (zaH HX.out); obtain ⟨y2, hy2⟩ : ∃ y, y = x.f2.take 8 := ⟨_, rfl⟩; obtain ⟨y3, hy3⟩ : ∃ y, y = x.f3.take 3 := ⟨_, rfl⟩; have e8 : min (x.f2.length : Int) 8 = (y2.length : Int) := by rw [hy2, zpI]; omega
    have e9 : min (x.f3.length : Int) 3 = (y3.length : Int) := by rw [hy3, zpI]; omega
    have b8 : (y2.length : Int) <= (e2 : Int) := by rw [hy2, zpI]; omega
    have b9 : (y3.length : Int) <= (e3 : Int) := by rw [hy3, zpI]; omega
    have HY := zpt (And.intro hy2 hy3); have HFS := zpt (And.intro hcc (And.intro hF2 hF3)); have HCU := zpt (And.intro hcur (And.intro hgb hgl)); clear hy2 hy3 hcc hfr hF2 hF3 hFK hcl hcur hgb hgl hll hc2 hc3; go_wp2_with fail; refine zdy (n := 42) (S := fun W => W.cell? ⟨G, 4, none⟩ = some (.slice (some ⟨g, 0, none⟩) n4.length d4) /\ W.cell? ⟨g, kk * 5 + 3, none⟩ = some (.slice B3 x.f3.length e3)) (ds := [41]) (upX 42 0 [11, 17, 18, 19, 20, 38, 41]) (by kernel_rfl) rfl (by kernel_rfl) ⟨k4, p3⟩ (fun hHeld => ?_)
    iterate 11
     refine zfA (v := ?_) (a' := ?_) rfl (by decide +kernel) (fun _ _ _ h => h) (zqY ⟨by rfl, ?_⟩) hHeld ?_ ?_
     rotate_left
     . rintro w' ⟨s0, s2⟩
       go_simp
       with_reducible rfl
     rotate_left
     . simp only [Act.put, List.getElem_toArray, List.getElem_cons_zero, List.getElem_cons_succ, zqZ, zq0, zq1, zaf, zag]
       rfl
    iterate 1 (refine zhN (by decide +kernel) ?_)
    iterate 5
     refine zfA (v := ?_) (a' := ?_) rfl (by decide +kernel) (fun _ _ _ h => h) (zqY ⟨by rfl, ?_⟩) hHeld ?_ ?_
     rotate_left
     . rintro w' ⟨s0, s2⟩
       go_simp
       with_reducible rfl
     rotate_left
     . simp only [Act.put, List.getElem_toArray, List.getElem_cons_zero, List.getElem_cons_succ, zqZ, zq0, zq1, zaf, zag]
       rfl
    iterate 4 (refine zhN (by decide +kernel) ?_)
    iterate 15
     refine zfA (v := ?_) (a' := ?_) rfl (by decide +kernel) (fun _ _ _ h => h) (zqY ⟨by rfl, ?_⟩) hHeld ?_ ?_
     rotate_left
     . rintro w' ⟨s0, s2⟩
       go_simp
       with_reducible rfl
     rotate_left
     . simp only [Act.put, List.getElem_toArray, List.getElem_cons_zero, List.getElem_cons_succ, zqZ, zq0, zq1, zaf, zag]
       rfl
    apply zkr
    . intro tail
      refine two_ (i := 11) (j := 17) (Ni := some 55) (Nj := some 61) (upX 42 36 [17, 18, 19, 20, 38, 41]) (upX 42 36 [11, 18, 19, 20, 38, 41]) rfl rfl rfl rfl (by decide +kernel) (by decide) (by decide) (fun K hK => ?_) (fun K hK => ?_)
      . skip
        refine zcC (w1 := ?_) (v := ?_) (by rfl) rfl ?_ ?_
        rotate_left 2
        . go_simp
          constructor
          . rfl
          . rfl
        refine hK.out _ _ hHeld (fun hHeld => ?_)
        clear hK K; refine za6 (a' := ?_) ?_ ?_; rotate_left
        . show Act.put _ (some 55) _ = _
          simp only [Act.put, List.getElem_toArray, List.getElem_cons_zero, List.getElem_cons_succ, zqZ, zq0, zq1, zaf, zag]; rfl
        refine one_ (i := 17) (N := some 61) (upX 42 36 [18, 19, 20, 38, 41]) rfl rfl (by decide +kernel) (by decide) (fun K hK => ?_)
        refine zcC (w1 := ?_) (v := ?_) (by rfl) rfl ?_ ?_
        rotate_left 2
        . go_simp
          constructor
          . rfl
          . rfl
        refine hK.out _ _ hHeld (fun hHeld => ?_)
        clear hK K; refine za6 (a' := ?_) ?_ ?_; rotate_left
        . show Act.put _ (some 61) _ = _
          simp only [Act.put, List.getElem_toArray, List.getElem_cons_zero, List.getElem_cons_succ, zqZ, zq0, zq1, zaf, zag]; rfl
        refine zaF (i := 18) (N := some 62) (v := ?_) (a' := ?_) (upX 42 36 [19, 20, 38, 41]) rfl rfl (by decide +kernel) (fun _ _ _ h => h) (zqY ⟨by rfl, ?_⟩) ?_ ?_
        rotate_left
        . intro w'
          go_simp
          with_reducible rfl
        rotate_left
        . show Act.put _ (some 62) _ = _
          simp only [Act.put, List.getElem_toArray, List.getElem_cons_zero, List.getElem_cons_succ, zqZ, zq0, zq1, zaf, zag]; rfl
        refine zaF (i := 19) (N := some 63) (v := ?_) (a' := ?_) (upX 42 36 [20, 38, 41]) rfl rfl (by decide +kernel) (fun _ _ _ h => h) (zqY ⟨by rfl, ?_⟩) ?_ ?_
        rotate_left
        . intro w'
          go_simp
          with_reducible rfl
        rotate_left
        . show Act.put _ (some 63) _ = _
          simp only [Act.put, List.getElem_toArray, List.getElem_cons_zero, List.getElem_cons_succ, zqZ, zq0, zq1, zaf, zag]; rfl
        exact tail
      . skip
        refine zcC (w1 := ?_) (v := ?_) (by rfl) rfl ?_ ?_
        rotate_left 2
        . go_simp
          constructor
          . rfl
          . rfl
        refine hK.out _ _ hHeld (fun hHeld => ?_)
        clear hK K; refine za6 (a' := ?_) ?_ ?_; rotate_left
        . show Act.put _ (some 61) _ = _
          simp only [Act.put, List.getElem_toArray, List.getElem_cons_zero, List.getElem_cons_succ, zqZ, zq0, zq1, zaf, zag]; rfl
        refine zaF (i := 18) (N := some 62) (v := ?_) (a' := ?_) (upX 42 36 [11, 19, 20, 38, 41]) rfl rfl (by decide +kernel) (fun _ _ _ h => h) (zqY ⟨by rfl, ?_⟩) ?_ ?_
        rotate_left
        . intro w'
          go_simp
          with_reducible rfl
        rotate_left
        . show Act.put _ (some 62) _ = _
          simp only [Act.put, List.getElem_toArray, List.getElem_cons_zero, List.getElem_cons_succ, zqZ, zq0, zq1, zaf, zag]; rfl
        refine zaF (i := 19) (N := some 63) (v := ?_) (a' := ?_) (upX 42 36 [11, 20, 38, 41]) rfl rfl (by decide +kernel) (fun _ _ _ h => h) (zqY ⟨by rfl, ?_⟩) ?_ ?_
        rotate_left
        . intro w'
          go_simp
          with_reducible rfl
        rotate_left
        . show Act.put _ (some 63) _ = _
          simp only [Act.put, List.getElem_toArray, List.getElem_cons_zero, List.getElem_cons_succ, zqZ, zq0, zq1, zaf, zag]; rfl
        refine one_ (i := 11) (N := some 55) (upX 42 36 [20, 38, 41]) rfl rfl (by decide +kernel) (by decide) (fun K hK => ?_)
        refine zcC (w1 := ?_) (v := ?_) (by rfl) rfl ?_ ?_
        rotate_left 2
        . go_simp
          constructor
          . rfl
          . rfl
        refine hK.out _ _ hHeld (fun hHeld => ?_)
        clear hK K; refine za6 (a' := ?_) ?_ ?_; rotate_left
        . show Act.put _ (some 55) _ = _
          simp only [Act.put, List.getElem_toArray, List.getElem_cons_zero, List.getElem_cons_succ, zqZ, zq0, zq1, zaf, zag]; rfl
        exact tail
    refine zaF (i := 20) (N := some 64) (v := ?_) (a' := ?_) (upX 42 36 [38, 41]) rfl rfl (by decide +kernel) (fun _ _ _ h => h) (zqY ⟨by rfl, ?_⟩) ?_ ?_
    rotate_left
    . intro w'
      go_simp
      with_reducible rfl
    rotate_left
    . show Act.put _ (some 64) _ = _
      simp only [Act.put, List.getElem_toArray, List.getElem_cons_zero, List.getElem_cons_succ, zqZ, zq0, zq1, zaf, zag]; rfl
    iterate 2
     refine zje (v := ?_) (a' := ?_) rfl (by decide +kernel) (fun _ _ _ h => h) (zqY ⟨by rfl, ?_⟩) ?_ ?_
     rotate_left
     . intro w'
       go_simp
       with_reducible rfl
     rotate_left
     . simp only [Act.put, List.getElem_toArray, List.getElem_cons_zero, List.getElem_cons_succ, zqZ, zq0, zq1, zaf, zag]
       rfl
    refine one_ (i := 38) (N := none) (upX 42 39 [41]) rfl rfl (by decide +kernel) (by decide) (fun K hK => ?_)
    refine zcQ (w1 := ?_) (by rfl) rfl ?_ ?_
    rotate_left
    . go_simp
      rfl
    have hne : G ≠ g := by have q1 := HGL.out; have q2 := HCU.out.2.1; omega
    have hnz : w.heap.size + 1 ≠ g := by have q1 := HGL.out; have q2 := HCU.out.2.1; have q3 := HGW.out; omega
    have HNE := zpt hne; have HNZ := zpt hnz; have k4b := bc4 (zaP (zaH HX.out) (p := ⟨g, kk * 5 + 2, none⟩) hne (.slice B2 y2.length e2)); have p3b : (wr.drew.setCell ⟨g, kk * 5 + 2, none⟩ (.slice B2 y2.length e2)).cell? ⟨g, kk * 5 + 3, none⟩ = some (.slice B3 x.f3.length e3) := (World.cell?_setCell_other _ _ _ _ (by intro e; injection e with e1 e2; omega)).trans p3
    have f3b : (wr.drew.setCell ⟨g, kk * 5 + 2, none⟩ (.slice B2 y2.length e2)).frozen? ⟨g, kk * 5 + 3, none⟩ = false := zak (zbT (zaH HCU.out.1) (kk * 5 + 2) (.slice B2 y2.length e2)) _; clear hne hnz; refine hK.out _ _ ⟨k4b, p3b⟩ (fun hHeld => ?_)
    clear hK K; iterate 2
     refine zje (v := ?_) (a' := ?_) rfl (by decide +kernel) (fun _ _ _ h => h) (zqY ⟨by rfl, ?_⟩) ?_ ?_
     rotate_left
     . intro w'
       go_simp
       with_reducible rfl
     rotate_left
     . simp only [Act.put, List.getElem_toArray, List.getElem_cons_zero, List.getElem_cons_succ, zqZ, zq0, zq1, zaf, zag]
       rfl
    have f3w : wr.frozen? ⟨g, kk * 5 + 3, none⟩ = false := f3; refine zej (i := 41) (N := none) (upX 42 42 []) rfl rfl (by decide +kernel) (by decide) (fun K hK => ?_)
    refine zcQ (w1 := ?_) (by rfl) rfl ?_ ?_
    rotate_left
    . go_simp
      rfl
    refine hK.out _ _ ?_; clear hK K; refine zcF (by decide +kernel) ?_
    have hcd := zaH HCU.out.1; have hcd2 := zbT hcd (kk * 5 + 2) (.slice B2 y2.length e2); have hgW : w.heap.size <= g := by have q1 := HNZ.out; have q2 := HCU.out.2.1; have q3 := HB3s.out; omega
    have hb8 := ((zaM HB.out).setCell (p := ⟨g, kk * 5 + 2, none⟩) hgW (.slice B2 y2.length e2)).setCell (p := ⟨g, kk * 5 + 3, none⟩) hgW (.slice B3 y3.length e3); have hx8 := zaP (zaP (zaH HX.out) (p := ⟨g, kk * 5 + 2, none⟩) HNE.out (.slice B2 y2.length e2)) (p := ⟨g, kk * 5 + 3, none⟩) HNE.out (.slice B3 y3.length e3); have hz8 := zaP (zaP (zaH HZ.out) (p := ⟨g, kk * 5 + 2, none⟩) HNZ.out (.slice B2 y2.length e2)) (p := ⟨g, kk * 5 + 3, none⟩) HNZ.out (.slice B3 y3.length e3); have hq1 := zqK (zqK (Kd.R_drew HP1.out) hcd (by decide) (kk * 5 + 2) (.slice B2 y2.length e2)) hcd2 (by decide) (kk * 5 + 3) (.slice B3 y3.length e3)
    have hq2 := zqK (zqK (Kd.R_drew HP2.out) hcd (by decide) (kk * 5 + 2) (.slice B2 y2.length e2)) hcd2 (by decide) (kk * 5 + 3) (.slice B3 y3.length e3)
    have hq3 := zqK (zqK (Kd.R_drew HP3.out) hcd (by decide) (kk * 5 + 2) (.slice B2 y2.length e2)) hcd2 (by decide) (kk * 5 + 3) (.slice B3 y3.length e3)
    have hM : Kd.FK k24 wr.drew (fun k => w3.heap.size <= k /\ k ≠ g) (zbF x) [.string x.f0, .int .i64 x.f1, .slice B2 y2.length e2, .slice B3 y3.length e3, .int .i64 x.f4] := by
     have z2 := zjc HFS.out.2.1 8; have z3 := zjc HFS.out.2.2 3; rw [<- HY.out.1] at z2; rw [<- HY.out.2] at z3; have z4 : zbF x = ⟨x.f0, x.f1, y2, y3, x.f4⟩ := by rw [HY.out.1, HY.out.2]; rfl
     rw [z4]; exact zmx wr.drew _ ⟨x.f0, x.f1, y2, y3, x.f4⟩ (by show y2.length <= e2; omega) (Kd.F_drew z2) (by show y3.length <= e3; omega) (Kd.F_drew z3)
    have hn8 := (Kd.N_seg (Kd.N_drew HN.out) (kk : Int) (Int.natCast_nonneg _) (by omega) (c := [.string x.f0, .int .i64 x.f1, .slice B2 x.f2.length e2, .slice B3 x.f3.length e3, .int .i64 x.f4]) (seg := [.slice B2 y2.length e2, .slice B3 y3.length e3]) (j := 2) rfl (fun j u hu => HFS.out.1 j u hu) (show 2 + 2 <= 5 by decide) hM (fun _ hk => hk)).1
    rw [zqN, HSET.out] at hn8; have hn9 : Kd.N k24 24 ((wr.drew.setCell ⟨g, kk * 5 + 2, none⟩ (.slice B2 y2.length e2)).setCell ⟨g, kk * 5 + 3, none⟩ (.slice B3 y3.length e3)) w3.heap.size (fun k => w3.heap.size <= k) (.slice (some ⟨g, 0, none⟩) n4.length d4) ((n4.take (kk + 1)).map zbF ++ n4.drop (kk + 1)) := hn8
    have e8 : (wr.drew.setCell ⟨g, kk * 5 + 2, none⟩ (.slice B2 y2.length e2)).setCell ⟨g, kk * 5 + 3, none⟩ (.slice B3 y3.length e3) = ((wr.setCell ⟨g, kk * 5 + 2, none⟩ (.slice B2 y2.length e2)).setCell ⟨g, kk * 5 + 3, none⟩ (.slice B3 y3.length e3)).drew := rfl; rw [e8] at hb8 hx8 hz8 hq1 hq2 hq3 hn9; go_wp2_with fail; generalize ((wr.setCell ⟨g, kk * 5 + 2, none⟩ (.slice B2 y2.length e2)).setCell ⟨g, kk * 5 + 3, none⟩ (.slice B3 y3.length e3)).drew = w8 at hb8 hx8 hz8 hq1 hq2 hq3 hn9 |-; have HB8 := zpt hb8; have HX8 := zpt hx8; have HZ8 := zpt hz8; have HQ1 := zpt hq1; have HQ2 := zpt hq2; have HQ3 := zpt hq3; have HN9 := zpt hn9; clear e8 f3w hcd hcd2 hb8 hx8 hz8 hq1 hq2 hq3 hn8 hn9 hM k4b p3b f3b p2 p3 f2 f3 k4 hHeld hgW; go_roundg (n4.length - (kk + 1))
    case measure => omega
    case rel => exact ⟨kk + 1, by omega, by omega, by first | rfl | go_num, ⟨HB8.out⟩, ⟨HX8.out⟩, ⟨HZ8.out⟩, ⟨HQ1.out⟩, ⟨HQ2.out⟩, ⟨HQ3.out⟩, ⟨HN9.out⟩⟩
  . have hltz : ¬ (kk : Int) < (n4.length : Int) := by omega
    obtain rfl : kk = n4.length := by omega
    have hR := HN.out; rw [List.take_length, List.drop_length, zqD] at hR; have HN2 := zpt hR; have hZ := HZ.out; have g0 := bc0 HX.out; have g1 := bc1 HX.out; have g2 := bc2 HX.out; have g3 := bc3 HX.out; have g4 := bc4 HX.out; have r0 := bc0 hZ; have r1 := bc1 hZ; have r2 := bc2 hZ; have r3 := bc3 hZ; have r4 := bc4 hZ; have z0 := zak hZ 0; have z1 := zak hZ 1; have z2 := zak hZ 2; have z3 := zak hZ 3; have z4 := zak hZ 4; clear hR hZ; go_wp2_with fail; have hZok : ∀ k, w3.heap.size <= k -> k ≠ w.heap.size + 1 := by intro k hk e; have q1 := HGW.out; have q2 := HGL.out; omega
    have hs := zcl (.string f0) (.slice X1 n1.length d1) (.slice X2 n2.length d2) (.slice X3 n3.length d3) (.slice X4 n4.length d4) HZ.out; have hA := RS.set5 HP1.out (.string f0) (.slice X1 n1.length d1) (.slice X2 n2.length d2) (.slice X3 n3.length d3) (.slice X4 n4.length d4) HZ.out (by decide)
    have hB := RS.set5 HP2.out (.string f0) (.slice X1 n1.length d1) (.slice X2 n2.length d2) (.slice X3 n3.length d3) (.slice X4 n4.length d4) HZ.out (by decide)
    have hC := RS.set5 HP3.out (.string f0) (.slice X1 n1.length d1) (.slice X2 n2.length d2) (.slice X3 n3.length d3) (.slice X4 n4.length d4) HZ.out (by decide)
    have hE := (Kd.N_far (Kd.N_far (Kd.N_far (Kd.N_far (Kd.N_far HN2.out (p := ⟨w.heap.size + 1, 0, none⟩) hZok (.string f0)) (p := ⟨w.heap.size + 1, 1, none⟩) hZok (.slice X1 n1.length d1)) (p := ⟨w.heap.size + 1, 2, none⟩) hZok (.slice X2 n2.length d2)) (p := ⟨w.heap.size + 1, 3, none⟩) hZok (.slice X3 n3.length d3)) (p := ⟨w.heap.size + 1, 4, none⟩) hZok (.slice X4 n4.length d4)); have hle : w.heap.size <= w.heap.size + 1 := Nat.le_succ _; have hD := ((((HB.out.setCell (p := ⟨w.heap.size + 1, 0, none⟩) hle (.string f0)).setCell (p := ⟨w.heap.size + 1, 1, none⟩) hle (.slice X1 n1.length d1)).setCell (p := ⟨w.heap.size + 1, 2, none⟩) hle (.slice X2 n2.length d2)).setCell (p := ⟨w.heap.size + 1, 3, none⟩) hle (.slice X3 n3.length d3)).setCell (p := ⟨w.heap.size + 1, 4, none⟩) hle (.slice X4 n4.length d4); clear g0 g1 g2 g3 g4 r0 r1 r2 r3 r4 z0 z1 z2 z3 z4 hZok; unfold set5 at hs hA hB hC; generalize ((((wr.setCell ⟨w.heap.size + 1, 0, none⟩ (.string f0)).setCell ⟨w.heap.size + 1, 1, none⟩ (.slice X1 n1.length d1)).setCell ⟨w.heap.size + 1, 2, none⟩ (.slice X2 n2.length d2)).setCell ⟨w.heap.size + 1, 3, none⟩ (.slice X3 n3.length d3)).setCell ⟨w.heap.size + 1, 4, none⟩ (.slice X4 n4.length d4) = wE at hs hA hB hC hD hE |-; have g0 := (zah hs 0).trans rfl; have g1 := (zah hs 1).trans rfl; have g2 := (zah hs 2).trans rfl; have g3 := (zah hs 3).trans rfl; have g4 := (zah hs 4).trans rfl; have hup : ∀ k, w3.heap.size <= k -> w.heap.size <= k := fun k hk => Nat.le_trans HB3s.out hk
    have hF : Kd.FK k45 wE (fun k => w.heap.size <= k) (zb1 ⟨f0, l1, l2, l3, l4⟩) [.string f0, .slice X1 n1.length d1, .slice X2 n2.length d2, .slice X3 n3.length d3, .slice X4 n4.length d4] := by
     have q4 := Kd.F_mono (Kd.N_F hE) hup; have q5 := (Kd.N_reads' hE).2.1; have e1 : zb1 ⟨f0, l1, l2, l3, l4⟩ = ⟨f0, n1, n2, n3, n4.map zbF⟩ := by rw [HNQ.out.1, HNQ.out.2.1, HNQ.out.2.2.1, HNQ.out.2.2.2]; rfl
     have e2 : (n4.map zbF).length = n4.length := zqe _; rw [e1]; have q := zn5 wE (fun k => w.heap.size <= k) ⟨f0, n1, n2, n3, n4.map zbF⟩ (Kd.R_reads' hA).2.1 (Kd.R_F (Kd.R_mono (Kd.R_bound hA) (fun k h => hup k h.2.1))) (Kd.R_reads' hB).2.1 (Kd.R_F (Kd.R_mono (Kd.R_bound hB) (fun k h => hup k h.2.1))) (Kd.R_reads' hC).2.1 (Kd.R_F (Kd.R_mono (Kd.R_bound hC) (fun k h => hup k h.2.1))) (A4 := X4) (c4 := d4) (by rw [e2]; exact q5) (by rw [e2]; exact q4)
     rw [e2] at q; exact q
    exact bodyPost_ret (v := .agg #[.string f0, .slice X1 n1.length d1, .slice X2 n2.length d2, .slice X3 n3.length d3, .slice X4 n4.length d4]) (by simp [results, Tryz.results53, go_sem, g0, g1, g2, g3, g4]) rfl (znX HNQ.out hF hD)
end X
end Go.Proofs.YtdpgdnpddndeoaaGreatDoor
