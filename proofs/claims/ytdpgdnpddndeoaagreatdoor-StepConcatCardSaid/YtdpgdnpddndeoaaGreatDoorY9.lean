/-
  What the cards lean on (part Y9): contracts of functions, by hand, and plain laws; what is printed by the kit's print for this seat is among them. What is not reached is left out.
-/
import Derived.Test.YtdpgdnpddndeoaaGreatDoorY8
set_option maxHeartbeats 16000000
set_option maxRecDepth 100000
set_option linter.unusedSimpArgs false
set_option linter.unusedVariables false
open Go.RowKit.Below renaming refl -> zno
open Nat renaming le_refl -> znp, le_trans -> znv, mul_le_mul_right -> znH, zero_le -> zn8
open List renaming getElem?_eq_getElem -> zns, length_map -> zn0, length_take -> znA, length_append -> znC, take_length -> zn1, map_nil -> zn4, take_succ_eq_append_getElem -> znO, mem_singleton -> zoF, drop_eq_getElem_cons -> znQ, append_assoc -> zoG, append_nil -> zoq, take_of_length_le -> zox, length_filter_le -> zob, any_map -> zoI, map_append -> zoc, getElem_mem -> zoy, take_zero -> zoJ
open Bool renaming false_or -> zoH

namespace Go.Proofs.YtdpgdnpddndeoaaGreatDoor.X
open Go.RowKit Go.Maps Go.Proofs.YtdpgdnpddndeoaaGreatDoorW.PrintWords Go.Proofs.YtdpgdnpddndeoaaGreatDoorW.PrintMore Go.Proofs.YtdpgdnpddndeoaaGreatDoorW.PrintLast
abbrev RInt (w : World) (base : Nat) (v : Value) (l : List Int) : Prop := Kd.R (Kd.int .i64) 3 w base (fun _ => True) v l
def zeQ (l : List Int) (w : World) (e : Ending) (w' : World) : Prop := ∃ v, e = .returned v /\ RInt w' w.heap.size v l /\ Below w.heap.size w w'
def zfN (l : List ByteArray) (w : World) (e : Ending) (w' : World) : Prop := ∃ v, e = .returned v /\ RS w' w.heap.size v l /\ Below w.heap.size w w'
def zbj (m : List Bool) (is : Bool) : List Int := (m.zipIdx.filter fun p => p.1 == is).map fun p => (p.2 : Int)
theorem zjt (m : List Bool) (is : Bool) (k : Nat) (h : k < m.length) : zbj (m.take (k + 1)) is = zbj (m.take k) is ++ if m[k] == is then [(k : Int)] else [] := by
 unfold zbj; rw [znO h, List.zipIdx_append, List.filter_append, zoc]; congr 1
 have hl : (m.take k).length = k := by rw [znA]; omega
 cases hb : (m[k] == is) <;> simp [hl, hb]
theorem zjJ (m : List Bool) (is : Bool) : (zbj m is).length <= m.length := by
 unfold zbj; rw [zn0]; refine znv (zob _ _) ?_; rw [List.length_zipIdx]; exact znp _
theorem zhg {w : World} {A : Option Addr} {l : List Bool} (h : Kd.C Kd.bool w A l.length l) (k : Nat) (hk : k < l.length) : ∃ b o, A = some ⟨b, o, none⟩ /\ w.cell? ⟨b, o + k, none⟩ = some (.bool l[k]) := by
 obtain ⟨ad, rfl, hc⟩ := h.2.2 (by omega)
 obtain ⟨cs, _, h1, h2⟩ := hc k l[k] (zns hk); have h1' : cs = [.bool l[k]] := h1; subst h1'; have h3 := h2 0 _ rfl; obtain ⟨cs0, _, h4, h5⟩ := hc 0 l[0] (zns (by omega))
 have h4' : cs0 = [.bool l[0]] := h4; rw [h4'] at h5; have h6 := h5 0 _ rfl; have e1 : Kd.bool.sz = 1 := rfl; rw [e1] at h3 h6; obtain ⟨b, o, rfl⟩ := zem (n := 1) (ad := ad) (by simpa using h6)
 refine ⟨b, o, rfl, ?_⟩; have e : ((⟨b, o, none⟩ : Addr).add (k * 1 + 0)) = ⟨b, o + k, none⟩ := by
  rw [Nat.mul_one, Nat.add_zero]; unfold Addr.add; split
  . rename_i h0; simp [h0]
  . rfl
 rw [e] at h3; exact h3
theorem zhi (A : Option Addr) (c : Nat) (m : List Bool) (is : Bool) (w : World) (hr : Kd.C Kd.bool w A m.length m) (hl : m.length <= 1000) :
 Calls Tryz.prog 65 #[.slice A m.length c, .bool is] w (zeQ (zbj m is) w) := by
 have HR := znl hr; obtain ⟨T, hT⟩ : ∃ T, T = zbj m is := ⟨_, rfl⟩; rw [<- hT]; have HT := znl hT; clear hr hT; go_enter Tryz.func65, Tryz.ntmps65
 go_wp2_with fail; go_loopg [5, 6, 7, 10] m.length (fun gg s5 _ _ s10 wr => ∃ kk : Nat, kk <= m.length /\ m.length - kk <= gg /\ s10 = .int .i64 kk /\ Aside0 (RInt wr w.heap.size s5 (zbj (m.take kk) is)) /\ Aside0 (Below w.heap.size w wr))
 case atStart => exact ⟨0, zn8 _, by omega, rfl, ⟨Kd.R_nil _ _ _ _ _⟩, ⟨zno _ _⟩⟩
 case round =>
  obtain ⟨kk, hkk, hgk, rfl, HO, HW⟩ := hrel; by_cases hlt : kk < m.length
  . have hltz : (kk : Int) < (m.length : Int) := by omega
    obtain ⟨b, o, rfl, p0⟩ := zhg (Kd.C_below HR.out HW.out) kk hlt; have HSt := znl (zjt m is kk hlt); have hpl := zjJ (m.take kk) is; have hpl2 : (zbj (m.take kk) is).length <= 1000 := by
     have : (m.take kk).length = kk := by rw [znA]; omega
     omega
    have HPl := znl hpl2; have HWs := znl HW.out.size; clear hpl hpl2; generalize m[kk] = y at p0 HSt; cases hy : (y == is) with
    | true =>
     have HN : Hid (zbj (m.take (kk + 1)) is = zbj (m.take kk) is ++ [(kk : Int)]) := by show _ = _; rw [HSt.out, hy]; rfl
     have hdy : (is == y) = true := by rw [<- hy]; cases is <;> cases y <;> rfl
     go_wp2_with (first | ((with_reducible refine zaM (b := .append) (xs := #[.tmp 18, .tmp 20]) rfl ?_); at_builtin; refine Kd.R_append (Kd.int .i64) (w0 := w) w.heap.size rfl (.tmp 18) (.tmp 20) 54 3 (.int .i64 0) 8 rfl Tryz.underlying54 info3 rfl (by decide) (by decide) u5 (zbj (m.take kk) is) (kk : Int) [.int .i64 (kk : Int)] (fun _ => True) (fun k_ => True /\ some k_ ≠ u5.ownBlock) rfl rfl rfl (fun _ hk => hk) (fun _ _ => trivial) HO.out HW.out HWs.out ?aL ?_; (case aL => (have h1 := HPl.out; omega)); intro v1 w4 ho hb hg hat; have HO4 : Hid (RInt w4 w.heap.size v1 (zbj (m.take (kk + 1)) is)) := (by show RInt _ _ _ _; rw [HN.out]; exact ho); have HB4 := znl hb; clear ho hb hg hat))
     go_roundg (m.length - (kk + 1))
     case measure => omega
     case rel => exact ⟨kk + 1, by omega, by omega, by first | rfl | go_num, ⟨HO4.out⟩, ⟨HB4.out⟩⟩
    | false =>
     have HN : Hid (RInt wr w.heap.size u5 (zbj (m.take (kk + 1)) is)) := by show RInt _ _ _ _; rw [HSt.out, hy, if_neg (by simp), zoq]; exact HO.out
     go_wp2_with fail; go_roundg (m.length - (kk + 1))
     case measure => omega
     case rel => exact ⟨kk + 1, by omega, by omega, by first | rfl | go_num, ⟨HN.out⟩, ⟨HW.out⟩⟩
  . have hltz : ¬ (kk : Int) < (m.length : Int) := by omega
    obtain rfl : kk = m.length := by omega
    have hO := HO.out; rw [zn1] at hO; have HOf := znl hO; clear hO; go_wp2_with fail; go_ret
    exact ⟨_, rfl, by rw [HT.out]; exact HOf.out, HW.out⟩

def zbR (ins : List ByteArray) (b : Bool) (l : List ByteArray) : List ByteArray := l.filter fun a => b && (zac ins).contains a.data.toList
def outK (r : zai) (m : List Bool) (k : Nat) : List ByteArray := ((r.f4.zip m).take k).flatMap fun p => zbR r.f1 p.2 p.1.f2
theorem zf4 (r : zai) (m : List Bool) (k : Nat) (h1 : k < r.f4.length) (h2 : k < m.length) : outK r m (k + 1) = outK r m k ++ zbR r.f1 m[k] r.f4[k].f2 := by
 unfold outK; have hz : k < (r.f4.zip m).length := by rw [List.length_zip]; omega
 rw [znO hz, List.flatMap_append]; simp [List.getElem_zip]
theorem zhq (r : zai) (m : List Bool) (c : Nat) (hF : ∀ s ∈ r.f4, s.f2.length <= c) : ∀ k, (outK r m k).length <= k * c
 | 0 => by simp [outK]
 | k + 1 => by
  have ih := zhq r m c hF k; have e2 : (k + 1) * c = k * c + c := Nat.succ_mul k c; by_cases h : k < r.f4.length /\ k < m.length
  . rw [zf4 r m k h.1 h.2, znC]
    have h1 : (zbR r.f1 m[k] r.f4[k].f2).length <= c := znv (zob _ _) (hF _ (zoy h.1)); omega
  . have hl : (r.f4.zip m).length <= k := by rw [List.length_zip]; omega
    have e : outK r m (k + 1) = outK r m k := by
     unfold outK; rw [zox (Nat.le_succ_of_le hl), zox hl]
    rw [e]; omega
theorem ziy (ins : List ByteArray) (b : Bool) (l : List ByteArray) (k : Nat) (h : k < l.length) : zbR ins b (l.take (k + 1)) = zbR ins b (l.take k) ++ if b && (zac ins).contains l[k].data.toList then [l[k]] else [] := by
 unfold zbR; rw [znO h, List.filter_append]; congr 1
 cases h2 : (b && (zac ins).contains l[k].data.toList) with
 | true => simp only [List.filter, h2, if_true]
 | false => simp only [List.filter, h2]; rfl
theorem zl7 (r : zai) (m : List Bool) (hm : m.length = r.f4.length) : zbJ (zae (outK r m r.f4.length)) = (zcj (zax r) m).map mk := by
 unfold zbJ zcj; rw [zd2]; congr 3
 unfold outK; rw [zox (by rw [List.length_zip]; omega)]
 have e : (zax r).steps.zip m = (r.f4.zip m).map fun p => (zaJ p.1, p.2) := by
  show (r.f4.map zaJ).zip m = _
  rw [List.zip_map_left]; rfl
 rw [e, List.flatMap_map]; unfold zac; rw [List.map_flatMap]; congr 1
 funext p
 unfold zbR zaJ zac; dsimp only; rw [List.filter_map]; rfl
theorem zic (r : zai) (B1 : Option Addr) (c1 : Nat) (B2 : Option Addr) (c2 : Nat) (B3 : Option Addr) (c3 : Nat) (B4 : Option Addr) (c4 : Nat) (A : Option Addr) (c : Nat) (m : List Bool) (w : World)
 (h1 : Kd.C Kd.string w B1 r.f1.length r.f1) (h4 : Kd.C k24 w B4 r.f4.length r.f4) (hr : Kd.C Kd.bool w A m.length m) (hml : m.length = r.f4.length) (hF : FitR r) :
 Calls Tryz.prog 67 #[.agg (zaq r B1 c1 B2 c2 B3 c3 B4 c4), .slice A m.length c] w (zfN ((zcj (zax r) m).map mk) w) := by
 have hn4 := hF.steps; have hW := (zno w.heap.size w).alloc (znp _) (.cells (zaq r B1 c1 B2 c2 B3 c3 B4 c4) 45); have HK := znl (zao w (.cells (zaq r B1 c1 B2 c2 B3 c3 B4 c4) 45)); have HB := znl hW; have H1 := znl (Kd.C_below h1 hW); have H4 := znl (Kd.C_below h4 hW); have HR := znl (Kd.C_below hr hW); have HF := znl hF; have HML := znl hml; have HOl := znl (zhq r m 1000 (fun s hs => (hF.stepN s hs).2.1))
 rw [<- zl7 r m hml]; obtain ⟨T, hT⟩ : ∃ T, T = zbJ (zae (outK r m r.f4.length)) := ⟨_, rfl⟩; rw [<- hT]; have HT := znl hT; clear hW h1 h4 hr hF hml hT; unfold zaq at *; go_enter Tryz.func67, Tryz.ntmps67
 go_upto_region 1 with fail; generalize w.alloc (.cells #[.string r.f0, .slice B1 r.f1.length c1, .slice B2 r.f2.length c2, .slice B3 r.f3.length c3, .slice B4 r.f4.length c4] 45) = w1 at HB HK H1 H4 HR |-; have k4 : w1.cell? ⟨w.heap.size, 4, none⟩ = some (.slice B4 r.f4.length c4) := (zaa HK.out 4).trans rfl; have k1 : w1.cell? ⟨w.heap.size, 1, none⟩ = some (.slice B1 r.f1.length c1) := (zaa HK.out 1).trans rfl; go_wp2_with fail; go_loopg [5, 6, 7, 9, 13] r.f4.length (fun gg s5 _ _ _ s13 wr => ∃ kk : Nat, kk <= r.f4.length /\ r.f4.length - kk <= gg /\ s13 = .int .i64 kk /\ Aside0 (RS wr w1.heap.size s5 (outK r m kk)) /\ Aside0 (Below w1.heap.size w1 wr))
 case atStart => exact ⟨0, zn8 _, by omega, rfl, ⟨Kd.R_nil _ _ _ _ _⟩, ⟨zno _ _⟩⟩
 case round =>
  obtain ⟨kk, hkk, hgk, rfl, HO, HW⟩ := hrel; obtain ⟨wq, rfl⟩ : ∃ wq, wq = wr := ⟨wr, rfl⟩; by_cases hlt : kk < r.f4.length
  . have hltz : (kk : Int) < (r.f4.length : Int) := by omega
    have hlm : kk < m.length := by have := HML.out; omega
    have hlmz : (kk : Int) < (m.length : Int) := by omega
    obtain ⟨b, o, C2, d2, C3, d3, rfl, p0, p1, p2, p3, p4, g2, g3⟩ := zc7 H4.out kk hlt; replace p0 := zaf HW.out p0
    replace p1 := zaf HW.out p1
    replace p2 := zaf HW.out p2
    replace p3 := zaf HW.out p3
    replace p4 := zaf HW.out p4
    obtain ⟨bm, om, rfl, q0⟩ := zhg HR.out kk hlm; have HSt := znl (zf4 r m kk hlt hlm); obtain ⟨hxo, hxl, hxn⟩ := HF.out.stepN _ (zoy hlt); have hOl := HOl.out kk; have hOl2 : (outK r m kk).length <= 1000000 := by
     have : kk * 1000 <= 1000 * 1000 := znH _ (by omega)
     omega
    have HOk := znl hOl2; generalize hx : r.f4[kk] = x at p0 p1 p2 p3 p4 g2 g3 HSt hxl; generalize m[kk] = bk at q0 HSt; clear hx hxo hxn hOl hOl2; have HB3 : Hid (Below w1.heap.size w1 (wq.alloc (.cells #[.string x.f0, .int .i64 x.f1, .slice C2 x.f2.length d2, .slice C3 x.f3.length d3, .int .i64 x.f4] 24))) := znl (HW.out.alloc HW.out.size _); have HX3 := znl (zao wq (.cells #[.string x.f0, .int .i64 x.f1, .slice C2 x.f2.length d2, .slice C3 x.f3.length d3, .int .i64 x.f4] 24)); have HG2 := znl g2; have HQ0 := znl q0; have HO3 := znl (Kd.R_below HO.out ((zno wq.heap.size wq).alloc (znp _) (.cells #[.string x.f0, .int .i64 x.f1, .slice C2 x.f2.length d2, .slice C3 x.f3.length d3, .int .i64 x.f4] 24))); clear g2 g3 q0; go_upto_region 5 with fail; generalize wq.alloc (.cells #[.string x.f0, .int .i64 x.f1, .slice C2 x.f2.length d2, .slice C3 x.f3.length d3, .int .i64 x.f4] 24) = w3 at HX3 HB3 HO3 |-; have x2 : w3.cell? ⟨wq.heap.size, 2, none⟩ = some (.slice C2 x.f2.length d2) := (zaa HX3.out 2).trans rfl; go_wp2_with fail; go_loopg [5, 9, 21] x.f2.length (fun gg s5 _ s21 wi => ∃ k : Nat, k <= x.f2.length /\ x.f2.length - k <= gg /\ s21 = .int .i64 k /\ Aside0 (RS wi w1.heap.size s5 (outK r m kk ++ zbR r.f1 bk (x.f2.take k))) /\ Aside0 (Below w1.heap.size w1 wi))
    case atStart => exact ⟨0, zn8 _, by omega, rfl, ⟨by rw [zoJ]; exact (by simpa [zbR] using HO3.out)⟩, ⟨HB3.out⟩⟩
    case round =>
     obtain ⟨k, hk, hgk2, rfl, HOi, HWi⟩ := hrel; by_cases hl2 : k < x.f2.length
     . have hl2z : (k : Int) < (x.f2.length : Int) := by omega
       obtain ⟨b5, o5, rfl, n0⟩ := zbc (Kd.C_below HG2.out HWi.out) k hl2; have m0 := zaf HWi.out HQ0.out; have j1 := zaf HWi.out k1; have HRs := znl (ziy r.f1 bk x.f2 k hl2); have HRl : Hid ((zbR r.f1 bk (x.f2.take k)).length <= 1000) := znl (znv (zob _ _) (by rw [znA]; omega))
       have HWs := znl HWi.out.size; have HCt := znl (zc2 B1 c1 r.f1 x.f2[k] wr (Kd.C_below H1.out HWi.out)); generalize x.f2[k] = n at n0 HRs HCt; cases bk with
       | false =>
        have HN : Hid (RS wr w1.heap.size u5 (outK r m kk ++ zbR r.f1 false (x.f2.take (k + 1)))) := by show RS _ _ _ _; rw [HRs.out]; simpa using HOi.out
        go_wp2_with fail; go_roundg (x.f2.length - (k + 1))
        case measure => omega
        case rel => exact ⟨k + 1, by omega, by omega, by first | rfl | go_num, ⟨HN.out⟩, ⟨HWi.out⟩⟩
       | true =>
        have hRs := HRs.out; rw [Bool.true_and] at hRs; generalize (zac r.f1).contains n.data.toList = q at HCt hRs; have HRs2 := znl hRs; clear hRs HRs; cases q with
        | false =>
         have HN : Hid (RS wr w1.heap.size u5 (outK r m kk ++ zbR r.f1 true (x.f2.take (k + 1)))) := by show RS _ _ _ _; rw [HRs2.out]; simpa using HOi.out
         go_wp2_with (first | (go_at_call 92; refine HCt.out.mono ?_; rintro e w2 ⟨rfl, rfl⟩))
         go_roundg (x.f2.length - (k + 1))
         case measure => omega
         case rel => exact ⟨k + 1, by omega, by omega, by first | rfl | go_num, ⟨HN.out⟩, ⟨HWi.out⟩⟩
        | true =>
         go_wp2_with (first | (go_at_call 92; refine HCt.out.mono ?_; rintro e w2 ⟨rfl, rfl⟩) | ((with_reducible refine zaM (b := .append) (xs := #[.tmp 35, .tmp 37]) rfl ?_); at_builtin; refine Kd.R_append Kd.string (w0 := w1) w1.heap.size rfl (.tmp 35) (.tmp 37) 22 9 (.string ⟨#[]⟩) 16 rfl Tryz.underlying22 zcg rfl (by decide) (by decide) u5 (outK r m kk ++ zbR r.f1 true (x.f2.take k)) n [.string n] (fun _ => True) (fun k_ => True /\ some k_ ≠ u5.ownBlock) rfl rfl rfl (fun _ hk => hk) (fun _ _ => trivial) HOi.out HWi.out HWs.out ?aL ?_; (case aL => (have h1 := HRl.out; have h2 := HOk.out; rw [znC]; omega)); intro v1 w4 ho hb hg hat; have HO4 : Hid (RS w4 w1.heap.size v1 (outK r m kk ++ zbR r.f1 true (x.f2.take (k + 1)))) := (by show RS _ _ _ _; rw [HRs2.out]; (rw [if_pos trivial, <- zoG]); exact ho); have HB4 := znl hb; clear ho hb hg hat))
         go_roundg (x.f2.length - (k + 1))
         case measure => omega
         case rel => exact ⟨k + 1, by omega, by omega, by first | rfl | go_num, ⟨HO4.out⟩, ⟨HB4.out⟩⟩
     . have hl2z : ¬ (k : Int) < (x.f2.length : Int) := by omega
       obtain rfl : k = x.f2.length := by omega
       have HN : Hid (RS wr w1.heap.size u5 (outK r m (kk + 1))) := by
        have h := HOi.out; rw [zn1] at h; show RS _ _ _ _
        rw [HSt.out]; exact h
       go_wp2_with fail; go_roundg (r.f4.length - (kk + 1))
       case measure => omega
       case rel => exact ⟨kk + 1, by omega, by omega, by first | rfl | go_num, ⟨HN.out⟩, ⟨HWi.out⟩⟩
  . have hltz : ¬ (kk : Int) < (r.f4.length : Int) := by omega
    obtain rfl : kk = r.f4.length := by omega
    have hol := HOl.out r.f4.length; have hol2 : (outK r m r.f4.length).length * 16 <= 140737488355328 := by
     have : r.f4.length * 1000 <= 1000 * 1000 := znH _ (by omega)
     omega
    have hSort := zfF w1.heap.size u5 (outK r m r.f4.length) wq HO.out hol2; have HSort := znl hSort; have HBs := znl (Kd.R_base HO.out); clear hol hol2 hSort; go_wp2_with (first
     | (go_at_call 93; refine HSort.out.mono ?_; rintro e w5 ⟨rfl, hR5, hg5⟩; have HR5 := znl hR5; have HW5 := znl (HW.out.grown hg5 HW.out.size (fun k hk => HBs.out k hk)); clear hR5 hg5)
     | (go_at_call 94; refine (zhm w1.heap.size u5 _ _ HR5.out).mono ?_; rintro e w6 ⟨v6, rfl, hR6, hg6⟩; have HR6 := znl hR6; have HW6 := znl (HW5.out.grown hg6 HW5.out.size (fun k hk => HBs.out k hk)); clear hR6 hg6))
    go_ret
    exact ⟨_, rfl, by rw [HT.out]; exact Kd.R_lower HR6.out HB.out.size, HB.out.trans (HW6.out.mono HB.out.size)⟩

theorem zdZ (w : zab -> Bool) (r : zai) : (zaA w (zax r).steps).1.length = r.f4.length := by rw [ze2]; exact zn0 ..
def zbm (fs : List ByteArray) : zab -> Bool := fun x => (zac fs).contains x
structure RuleAt (r : zai) (B1 : Option Addr) (B2 : Option Addr) (B3 : Option Addr) (B4 : Option Addr) (w : World) : Prop where
 h1 : Kd.C Kd.string w B1 r.f1.length r.f1
 h2 : Kd.C Kd.string w B2 r.f2.length r.f2
 h3 : Kd.C Kd.string w B3 r.f3.length r.f3
 h4 : Kd.C k24 w B4 r.f4.length r.f4
theorem RuleAt.below {r : zai} {B1 B2 B3 B4 : Option Addr} {w w' : World} (h : RuleAt r B1 B2 B3 B4 w) (hb : Below w.heap.size w w') : RuleAt r B1 B2 B3 B4 w' := ⟨Kd.C_below h.h1 hb, Kd.C_below h.h2 hb, Kd.C_below h.h3 hb, Kd.C_below h.h4 hb⟩
theorem zlt (r : zai) (B1 : Option Addr) (c1 : Nat) (B2 : Option Addr) (c2 : Nat) (B3 : Option Addr) (c3 : Nat) (B4 : Option Addr) (c4 : Nat) (o : ByteArray) (w : World) (hA : RuleAt r B1 B2 B3 B4 w) (hF : FitR r) (ho : o.size <= maxLen) :
 Calls Tryz.prog 39 #[.agg (zaq r B1 c1 B2 c2 B3 c3 B4 c4), .string o] w (zeQ (zbj (zaA (zbm [o]) (zax r).steps).1 true) w) := by
 have hW := (zno w.heap.size w).alloc (znp _) (.cells (zaq r B1 c1 B2 c2 B3 c3 B4 c4) 45); have HK := znl (zao w (.cells (zaq r B1 c1 B2 c2 B3 c3 B4 c4) 45)); have HB := znl hW; have HA := znl (hA.below hW); have HL := znl (zdZ (zbm [o]) r); have HF := znl hF; have HN := znl (fun (X : Option Addr) (c : Nat) (W : World) (h : RuleAt r B1 B2 B3 B4 W) (hr : Kd.C Kd.string W X 1 [o]) => zd4 r B1 c1 B2 c2 B3 c3 B4 c4 X c [o] W h.h4 hr hF (by simp) (fun x hx => by rw [zoF.1 hx]; exact ho))
 have hn4 := hF.steps; have e : (fun x => (zac [o]).contains x) = zbm [o] := rfl
 rw [e] at HN; generalize (zaA (zbm [o]) (zax r).steps).1 = m at HL HN |-; obtain ⟨T, hT⟩ : ∃ T, T = zbj m true := ⟨_, rfl⟩; rw [<- hT]; have HT := znl hT; clear hW hA hF ho e hT; unfold zaq at *; go_enter Tryz.func39, Tryz.ntmps39
 go_upto_region 1 with fail; generalize w.alloc (.cells #[.string r.f0, .slice B1 r.f1.length c1, .slice B2 r.f2.length c2, .slice B3 r.f3.length c3, .slice B4 r.f4.length c4] 45) = w1 at HB HK HA |-; have k0 : w1.cell? ⟨w.heap.size, 0, none⟩ = some (.string r.f0) := (zaa HK.out 0).trans rfl; have k1 : w1.cell? ⟨w.heap.size, 1, none⟩ = some (.slice B1 r.f1.length c1) := (zaa HK.out 1).trans rfl; have k2 : w1.cell? ⟨w.heap.size, 2, none⟩ = some (.slice B2 r.f2.length c2) := (zaa HK.out 2).trans rfl; have k3 : w1.cell? ⟨w.heap.size, 3, none⟩ = some (.slice B3 r.f3.length c3) := (zaa HK.out 3).trans rfl; have k4 : w1.cell? ⟨w.heap.size, 4, none⟩ = some (.slice B4 r.f4.length c4) := (zaa HK.out 4).trans rfl; have HX := znl ((zno w1.heap.size w1).alloc (znp _) (.cells #[.string o] 9)); have HS := znl (zbI Kd.string w1 9 [o] [.string o] (Kd.reps_scalar _) (by simp))
 go_wp2_with (first
  | (go_at_call 66; refine (HN.out _ _ _ (HA.out.below HX.out) HS.out).mono ?_; rintro e w2 ⟨v2, rfl, hR2, hb2⟩; obtain ⟨A2, n2, rfl, _, hC2⟩ := Kd.R_reads hR2; have HC2 := znl hC2; have HB2 := znl (zad HX.out HX.out.size hb2); clear hR2 hC2 hb2)
  | (go_at_call 65; refine (zhi A2 n2 m true w2 HC2.out (by have h := HL.out; omega)).mono ?_; rintro e w3 ⟨v3, rfl, hR3, hb3⟩; have HR3 := znl hR3; have HB3 := znl (zad HB2.out HB2.out.size hb3); have HZ3 := znl HB2.out.size; clear hR3 hb3))
 go_ret
 exact ⟨_, rfl, by rw [HT.out]; exact Kd.R_lower HR3.out (znv HB.out.size HZ3.out), zad HB.out HB.out.size HB3.out⟩

theorem zmM (r : zai) (B1 : Option Addr) (c1 : Nat) (B2 : Option Addr) (c2 : Nat) (B3 : Option Addr) (c3 : Nat) (B4 : Option Addr) (c4 : Nat) (w : World) (hA : RuleAt r B1 B2 B3 B4 w) (hF : FitR r) :
 Calls Tryz.prog 44 #[.agg (zaq r B1 c1 B2 c2 B3 c3 B4 c4)] w (zeQ (zbj (zaA (zbm r.f2) (zax r).steps).1 false) w) := by
 have hW := (zno w.heap.size w).alloc (znp _) (.cells (zaq r B1 c1 B2 c2 B3 c3 B4 c4) 45); have HK := znl (zao w (.cells (zaq r B1 c1 B2 c2 B3 c3 B4 c4) 45)); have HB := znl hW; have HA := znl (hA.below hW); have HL := znl (zdZ (zbm r.f2) r); have HF := znl hF; have HN := znl (fun (X : Option Addr) (c : Nat) (W : World) (h : RuleAt r B1 B2 B3 B4 W) (hr : Kd.C Kd.string W X r.f2.length r.f2) => zd4 r B1 c1 B2 c2 B3 c3 B4 c4 X c r.f2 W h.h4 hr hF hF.outs hF.outsN)
 have hn4 := hF.steps; have e : (fun x => (zac r.f2).contains x) = zbm r.f2 := rfl
 rw [e] at HN; generalize (zaA (zbm r.f2) (zax r).steps).1 = m at HL HN |-; obtain ⟨T, hT⟩ : ∃ T, T = zbj m false := ⟨_, rfl⟩; rw [<- hT]; have HT := znl hT; clear hW hA hF e hT; unfold zaq at *; go_enter Tryz.func44, Tryz.ntmps44
 go_upto_region 1 with fail; generalize w.alloc (.cells #[.string r.f0, .slice B1 r.f1.length c1, .slice B2 r.f2.length c2, .slice B3 r.f3.length c3, .slice B4 r.f4.length c4] 45) = w1 at HB HK HA |-; have k0 : w1.cell? ⟨w.heap.size, 0, none⟩ = some (.string r.f0) := (zaa HK.out 0).trans rfl; have k1 : w1.cell? ⟨w.heap.size, 1, none⟩ = some (.slice B1 r.f1.length c1) := (zaa HK.out 1).trans rfl; have k2 : w1.cell? ⟨w.heap.size, 2, none⟩ = some (.slice B2 r.f2.length c2) := (zaa HK.out 2).trans rfl; have k3 : w1.cell? ⟨w.heap.size, 3, none⟩ = some (.slice B3 r.f3.length c3) := (zaa HK.out 3).trans rfl; have k4 : w1.cell? ⟨w.heap.size, 4, none⟩ = some (.slice B4 r.f4.length c4) := (zaa HK.out 4).trans rfl; go_wp2_with (first
  | (go_at_call 66; refine (HN.out _ _ _ HA.out HA.out.h2).mono ?_; rintro e w2 ⟨v2, rfl, hR2, hb2⟩; obtain ⟨A2, n2, rfl, _, hC2⟩ := Kd.R_reads hR2; have HC2 := znl hC2; have HB2 := znl hb2; clear hR2 hC2 hb2)
  | (go_at_call 65; refine (zhi A2 n2 m false w2 HC2.out (by have h := HL.out; omega)).mono ?_; rintro e w3 ⟨v3, rfl, hR3, hb3⟩; have HR3 := znl hR3; have HB3 := znl (zad HB2.out HB2.out.size hb3); have HZ3 := znl HB2.out.size; clear hR3 hb3))
 go_ret
 exact ⟨_, rfl, by rw [HT.out]; exact Kd.R_lower HR3.out (znv HB.out.size HZ3.out), zad HB.out HB.out.size HB3.out⟩

theorem zjK (r : zai) (B1 : Option Addr) (c1 : Nat) (B2 : Option Addr) (c2 : Nat) (B3 : Option Addr) (c3 : Nat) (B4 : Option Addr) (c4 : Nat) (w : World) (hA : RuleAt r B1 B2 B3 B4 w) (hF : FitR r) :
 Calls Tryz.prog 43 #[.agg (zaq r B1 c1 B2 c2 B3 c3 B4 c4)] w (zfN ((zcj (zax r) (zaA (zbm r.f2) (zax r).steps).1).map mk) w) := by
 have hW := (zno w.heap.size w).alloc (znp _) (.cells (zaq r B1 c1 B2 c2 B3 c3 B4 c4) 45); have HK := znl (zao w (.cells (zaq r B1 c1 B2 c2 B3 c3 B4 c4) 45)); have HB := znl hW; have HA := znl (hA.below hW); have HL := znl (zdZ (zbm r.f2) r); have HF := znl hF; have HN := znl (fun (X : Option Addr) (c : Nat) (W : World) (h : RuleAt r B1 B2 B3 B4 W) (hr : Kd.C Kd.string W X r.f2.length r.f2) => zd4 r B1 c1 B2 c2 B3 c3 B4 c4 X c r.f2 W h.h4 hr hF hF.outs hF.outsN)
 have hn4 := hF.steps; have e : (fun x => (zac r.f2).contains x) = zbm r.f2 := rfl
 rw [e] at HN; generalize (zaA (zbm r.f2) (zax r).steps).1 = m at HL HN |-; obtain ⟨T, hT⟩ : ∃ T, T = (zcj (zax r) m).map mk := ⟨_, rfl⟩; rw [<- hT]; have HRd := znl (fun (X : Option Addr) (c : Nat) (W : World) (h : RuleAt r B1 B2 B3 B4 W) (hr : Kd.C Kd.bool W X m.length m) => zic r B1 c1 B2 c2 B3 c3 B4 c4 X c m W h.h1 h.h4 hr HL.out hF)
 have HT := znl hT; clear hW hA hF e hT; unfold zaq at *; go_enter Tryz.func43, Tryz.ntmps43
 go_upto_region 1 with fail; generalize w.alloc (.cells #[.string r.f0, .slice B1 r.f1.length c1, .slice B2 r.f2.length c2, .slice B3 r.f3.length c3, .slice B4 r.f4.length c4] 45) = w1 at HB HK HA |-; have Sof : ∀ W, Below w1.heap.size w1 W -> W.cell? ⟨w.heap.size, 0, none⟩ = some (.string r.f0) /\ W.cell? ⟨w.heap.size, 1, none⟩ = some (.slice B1 r.f1.length c1) /\ W.cell? ⟨w.heap.size, 2, none⟩ = some (.slice B2 r.f2.length c2) /\ W.cell? ⟨w.heap.size, 3, none⟩ = some (.slice B3 r.f3.length c3) /\ W.cell? ⟨w.heap.size, 4, none⟩ = some (.slice B4 r.f4.length c4) := fun W hW =>
  ⟨(zaa (zah HK.out hW) 0).trans rfl, (zaa (zah HK.out hW) 1).trans rfl, (zaa (zah HK.out hW) 2).trans rfl, (zaa (zah HK.out hW) 3).trans rfl, (zaa (zah HK.out hW) 4).trans rfl⟩
 have HSo := znl Sof; have HBx : Hid (Below w1.heap.size w1 w1.drew) := znl (zbh (zno _ _)); clear Sof; go_region_held3 (fun W => W.cell? ⟨w.heap.size, 0, none⟩ = some (.string r.f0) /\ W.cell? ⟨w.heap.size, 1, none⟩ = some (.slice B1 r.f1.length c1) /\ W.cell? ⟨w.heap.size, 2, none⟩ = some (.slice B2 r.f2.length c2) /\ W.cell? ⟨w.heap.size, 3, none⟩ = some (.slice B3 r.f3.length c3) /\ W.cell? ⟨w.heap.size, 4, none⟩ = some (.slice B4 r.f4.length c4))
  (exact HSo.out _ HBx.out)
  (first
   | (go_at_call 66; refine (HN.out _ _ _ (HA.out.below HBx.out) (HA.out.below HBx.out).h2).mono ?_; rintro e w2 ⟨v2, rfl, hR2, hb2⟩; obtain ⟨A2, n2, rfl, _, hC2⟩ := Kd.R_reads hR2; have HC2 := znl hC2; have HBx := znl (zad HBx.out (HBx.out).size hb2); clear hR2 hC2 hb2)
   | (go_at_call 67; refine (HRd.out _ _ _ (HA.out.below HBx.out) HC2.out).mono ?_; rintro e w3 ⟨v3, rfl, hR3, hb3⟩; have HR3 := znl hR3; have HZ3 := znl HBx.out.size; have HBx := znl (zad HBx.out HBx.out.size hb3); clear hR3 hb3))
 all_goals
  go_wp2_with fail; go_ret
  exact ⟨_, rfl, by rw [HT.out]; exact Kd.R_lower HR3.out (znv HB.out.size HZ3.out), zad HB.out HB.out.size HBx.out⟩

theorem zlu (r : zai) (B1 : Option Addr) (c1 : Nat) (B2 : Option Addr) (c2 : Nat) (B3 : Option Addr) (c3 : Nat) (B4 : Option Addr) (c4 : Nat) (o : ByteArray) (w : World) (hA : RuleAt r B1 B2 B3 B4 w) (hF : FitR r) (ho : o.size <= maxLen) :
 Calls Tryz.prog 41 #[.agg (zaq r B1 c1 B2 c2 B3 c3 B4 c4), .string o] w (zfN ((zcj (zax r) (zaA (zbm [o]) (zax r).steps).1).map mk) w) := by
 have hW := (zno w.heap.size w).alloc (znp _) (.cells (zaq r B1 c1 B2 c2 B3 c3 B4 c4) 45); have HK := znl (zao w (.cells (zaq r B1 c1 B2 c2 B3 c3 B4 c4) 45)); have HB := znl hW; have HA := znl (hA.below hW); have HL := znl (zdZ (zbm [o]) r); have HF := znl hF; have HN := znl (fun (X : Option Addr) (c : Nat) (W : World) (h : RuleAt r B1 B2 B3 B4 W) (hr : Kd.C Kd.string W X [o].length [o]) => zd4 r B1 c1 B2 c2 B3 c3 B4 c4 X c [o] W h.h4 hr hF (by simp) (fun x hx => by rw [zoF.1 hx]; exact ho))
 have hn4 := hF.steps; have e : (fun x => (zac [o]).contains x) = zbm [o] := rfl
 rw [e] at HN; generalize (zaA (zbm [o]) (zax r).steps).1 = m at HL HN |-; obtain ⟨T, hT⟩ : ∃ T, T = (zcj (zax r) m).map mk := ⟨_, rfl⟩; rw [<- hT]; have HRd := znl (fun (X : Option Addr) (c : Nat) (W : World) (h : RuleAt r B1 B2 B3 B4 W) (hr : Kd.C Kd.bool W X m.length m) => zic r B1 c1 B2 c2 B3 c3 B4 c4 X c m W h.h1 h.h4 hr HL.out hF)
 have HT := znl hT; clear hW hA hF e hT ho; unfold zaq at *; go_enter Tryz.func41, Tryz.ntmps41
 go_upto_region 1 with fail; generalize w.alloc (.cells #[.string r.f0, .slice B1 r.f1.length c1, .slice B2 r.f2.length c2, .slice B3 r.f3.length c3, .slice B4 r.f4.length c4] 45) = w1 at HB HK HA |-; have Sof : ∀ W, Below w1.heap.size w1 W -> W.cell? ⟨w.heap.size, 0, none⟩ = some (.string r.f0) /\ W.cell? ⟨w.heap.size, 1, none⟩ = some (.slice B1 r.f1.length c1) /\ W.cell? ⟨w.heap.size, 2, none⟩ = some (.slice B2 r.f2.length c2) /\ W.cell? ⟨w.heap.size, 3, none⟩ = some (.slice B3 r.f3.length c3) /\ W.cell? ⟨w.heap.size, 4, none⟩ = some (.slice B4 r.f4.length c4) := fun W hW =>
  ⟨(zaa (zah HK.out hW) 0).trans rfl, (zaa (zah HK.out hW) 1).trans rfl, (zaa (zah HK.out hW) 2).trans rfl, (zaa (zah HK.out hW) 3).trans rfl, (zaa (zah HK.out hW) 4).trans rfl⟩
 have HSo := znl Sof; have HBx : Hid (Below w1.heap.size w1 w1.drew) := znl (zbh (zno _ _)); have HBa : Hid (Below w1.heap.size w1 (w1.drew.alloc (.cells #[.string o] 9))) := znl (HBx.out.alloc HBx.out.size _); have HS := znl (zbI Kd.string w1.drew 9 [o] [.string o] (Kd.reps_scalar _) (by simp))
 clear Sof; go_region_held3 (fun W => W.cell? ⟨w.heap.size, 0, none⟩ = some (.string r.f0) /\ W.cell? ⟨w.heap.size, 1, none⟩ = some (.slice B1 r.f1.length c1) /\ W.cell? ⟨w.heap.size, 2, none⟩ = some (.slice B2 r.f2.length c2) /\ W.cell? ⟨w.heap.size, 3, none⟩ = some (.slice B3 r.f3.length c3) /\ W.cell? ⟨w.heap.size, 4, none⟩ = some (.slice B4 r.f4.length c4))
  (exact HSo.out _ (by first | exact HBx.out | exact HBa.out))
  (first
   | (go_at_call 66; refine (HN.out _ _ _ (HA.out.below HBa.out) HS.out).mono ?_; rintro e w2 ⟨v2, rfl, hR2, hb2⟩; obtain ⟨A2, n2, rfl, _, hC2⟩ := Kd.R_reads hR2; have HC2 := znl hC2; have HBx := znl (zad HBa.out (HBa.out).size hb2); clear hR2 hC2 hb2)
   | (go_at_call 67; refine (HRd.out _ _ _ (HA.out.below HBx.out) HC2.out).mono ?_; rintro e w3 ⟨v3, rfl, hR3, hb3⟩; have HR3 := znl hR3; have HZ3 := znl HBx.out.size; have HBx := znl (zad HBx.out HBx.out.size hb3); clear hR3 hb3))
 all_goals
  go_wp2_with fail; go_ret
  exact ⟨_, rfl, by rw [HT.out]; exact Kd.R_lower HR3.out (znv HB.out.size HZ3.out), zad HB.out HB.out.size HBx.out⟩

theorem zjG (A : Option Addr) (c : Nat) (l : List zay) (w : World) (hG : GOK w) (hr : Kd.C k24 w A l.length l) (hl : l.length <= 1000) :
 Calls Tryz.prog 134 #[.slice A l.length c, .func (.func 97) #[] #[]] w fun e w' => ∃ i : Int, e = .returned (.int .i64 i) /\ decide (0 <= i) = l.any (fun x => zbB (zaJ x)) /\ Below w.heap.size w w' := by
 have HR := znl hr; have HG := znl hG; have eg := zj8; clear hr hG; go_enter Tryz.func134, Tryz.ntmps134
 go_wp2_with fail; go_loopg [5, 8] l.length (fun gg _ s8 wr => ∃ kk : Nat, kk <= l.length /\ l.length - kk <= gg /\ s8 = .int .i64 kk /\ Aside0 (Below w.heap.size w wr) /\ Aside0 (((l.take kk).any fun x => zbB (zaJ x)) = false))
 case atStart => exact ⟨0, zn8 _, by omega, rfl, ⟨zno _ _⟩, ⟨rfl⟩⟩
 case round =>
  obtain ⟨kk, hkk, hgk, rfl, HB, HA⟩ := hrel; by_cases hlt : kk < l.length
  . have hltz : (kk : Int) < (l.length : Int) := by omega
    obtain ⟨b, o, C2, d2, C3, d3, rfl, p0, p1, p2, p3, p4, g2, g3⟩ := zc7 (Kd.C_below HR.out HB.out) kk hlt; have hS : ((l.take (kk + 1)).any fun x => zbB (zaJ x)) = (((l.take kk).any fun x => zbB (zaJ x)) || zbB (zaJ l[kk])) := by rw [znO hlt, List.any_append]; simp
    rw [HA.out, zoH] at hS; have hmem : zbB (zaJ l[kk]) = true -> (l.any fun x => zbB (zaJ x)) = true := fun h => List.any_eq_true.2 ⟨_, zoy hlt, h⟩
    have hcall := zlo l[kk] C2 d2 C3 d3 wr (HG.out.below HB.out) g2 g3; have HS := znl hS; have HM := znl hmem; generalize zbB (zaJ l[kk]) = q at hcall HS HM; generalize l[kk] = x at p0 p1 p2 p3 p4 hcall; unfold zeJ at hcall; clear hS hmem g2 g3; cases q with
    | true =>
     go_wp2_with (first | (go_at_fn 97; refine hcall.mono ?_; rintro e w2 ⟨rfl, hb2⟩; have HB2 := znl (zad HB.out HB.out.size hb2); clear hb2))
     go_ret
     exact ⟨kk, rfl, by rw [HM.out trivial]; simp, HB2.out⟩
    | false =>
     go_wp2_with (first | (go_at_fn 97; refine hcall.mono ?_; rintro e w2 ⟨rfl, hb2⟩; have HB2 := znl (zad HB.out HB.out.size hb2); clear hb2))
     go_roundg (l.length - (kk + 1))
     case measure => omega
     case rel => exact ⟨kk + 1, by omega, by omega, by first | rfl | go_num, ⟨HB2.out⟩, ⟨HS.out⟩⟩
  . have hltz : ¬ (kk : Int) < (l.length : Int) := by omega
    obtain rfl : kk = l.length := by omega
    have hA := HA.out; rw [zn1] at hA; have HA2 := znl hA; clear hA; go_wp2_with fail; go_ret
    exact ⟨-1, rfl, by rw [HA2.out]; rfl, HB.out⟩
theorem zlP (A : Option Addr) (c : Nat) (l : List zay) (w : World) (hG : GOK w) (hr : Kd.C k24 w A l.length l) (hl : l.length <= 1000) :
 Calls Tryz.prog 96 #[.slice A l.length c, .func (.func 97) #[] #[]] w fun e w' => e = .returned (.bool (l.any (fun x => zbB (zaJ x)))) /\ Below w.heap.size w w' := by
 have hI := zjG A c l w hG hr hl; generalize l.any (fun x => zbB (zaJ x)) = q at hI |-
 clear hG hr; go_enter Tryz.func96, Tryz.ntmps96
 go_wp2_with (go_at_call 134; refine hI.mono ?_; rintro e w2 ⟨i, rfl, hq, hb2⟩)
 go_ret
 exact ⟨by rw [<- hq]; rfl, hb2⟩
theorem zlg (r : zai) : zc9 (zb5 r) = (may r.f0.data.toList && !(decide (r.f2.length = 0)) && ((zac r.f1).all may && (zac r.f2).all may && (zac r.f3).all may) && !(r.f4.any fun x => zbB (zaJ x))) := by
 unfold zc9 zb5 zax; dsimp only; have h1 : (zac r.f2).isEmpty = decide (r.f2.length = 0) := by
  cases h : r.f2 with
  | nil => rfl
  | cons a l => simp [zac]
 have h2 : ((r.f4.map zaJ).all fun s => may s.out && s.args.all may && mayC s.cmd) = !(r.f4.any fun x => zbB (zaJ x)) := by
  rw [List.all_map, List.not_any_eq_all_not]; congr 1
  funext x
  unfold zbB; simp
 rw [h1, h2]
theorem zm9 (r : zai) (B1 : Option Addr) (c1 : Nat) (B2 : Option Addr) (c2 : Nat) (B3 : Option Addr) (c3 : Nat) (B4 : Option Addr) (c4 : Nat) (w : World) (hG : GOK w) (hA : RuleAt r B1 B2 B3 B4 w) (hl : r.f4.length <= 1000) :
 Calls Tryz.prog 69 #[.agg (zaq r B1 c1 B2 c2 B3 c3 B4 c4)] w fun e w' => e = .returned (.bool (zc9 (zb5 r))) /\ Below w.heap.size w w' := by
 have hW := (zno w.heap.size w).alloc (znp _) (.cells (zaq r B1 c1 B2 c2 B3 c3 B4 c4) 45); have HK := znl (zao w (.cells (zaq r B1 c1 B2 c2 B3 c3 B4 c4) 45)); have HB := znl hW; have HA := znl (hA.below hW); have HG := znl (hG.below hW); have hln : r.f2.length <= 9223372036854775807 := hA.h2.2.1; rw [zlg]; have HN := znl (fun W (hG : GOK W) => zeN r.f0 W hG)
 have H1 := znl (fun W (hG : GOK W) (h : Kd.C Kd.string W B1 r.f1.length r.f1) => zd3 B1 c1 r.f1 W hG h)
 have H2 := znl (fun W (hG : GOK W) (h : Kd.C Kd.string W B2 r.f2.length r.f2) => zd3 B2 c2 r.f2 W hG h)
 have H3 := znl (fun W (hG : GOK W) (h : Kd.C Kd.string W B3 r.f3.length r.f3) => zd3 B3 c3 r.f3 W hG h)
 have H4 := znl (fun W (hG : GOK W) (h : Kd.C k24 W B4 r.f4.length r.f4) => zlP B4 c4 r.f4 W hG h hl)
 generalize may r.f0.data.toList = q0 at HN |-; generalize (zac r.f1).all may = q1 at H1 |-; generalize (zac r.f2).all may = q2 at H2 |-; generalize (zac r.f3).all may = q3 at H3 |-; generalize r.f4.any (fun x => zbB (zaJ x)) = q4 at H4 |-
 clear hW hA hG hl; unfold zaq at *; go_enter Tryz.func69, Tryz.ntmps69
 go_upto_if 13 with fail; generalize w.alloc (.cells #[.string r.f0, .slice B1 r.f1.length c1, .slice B2 r.f2.length c2, .slice B3 r.f3.length c3, .slice B4 r.f4.length c4] 45) = w1 at HB HK HA HG |-; have k0 : w1.cell? ⟨w.heap.size, 0, none⟩ = some (.string r.f0) := (zaa HK.out 0).trans rfl; cases q0 with
 | false =>
  go_wp2_with (first | (go_at_call 95; refine (HN.out _ HG.out).mono ?_; rintro e w2 ⟨rfl, hb2⟩))
  go_ret
  exact ⟨rfl, zad HB.out HB.out.size hb2⟩
 | true =>
  by_cases hz : r.f2.length = 0
  . have d0 : ((r.f2.length : Int) == 0) = true := by simp [hz]
    have hF : (true && !(decide (r.f2.length = 0)) && (q1 && q2 && q3) && !q4) = false := by simp [hz]
    have HF := znl hF; have HZ := znl hz; clear hz hF; go_wp2_with (first | (go_at_call 95; refine (HN.out _ HG.out).mono ?_; rintro e w2 ⟨rfl, hb2⟩; have HK2 := znl (zah HK.out hb2); have j2 : w2.cell? ⟨w.heap.size, 2, none⟩ = some (.slice B2 r.f2.length c2) := (zaa HK2.out 2).trans rfl))
    go_ret
    exact ⟨by rw [HF.out]; rfl, zad HB.out HB.out.size hb2⟩
  . have d0 : ((r.f2.length : Int) == 0) = false := by simpa using hz
    have hF : (true && !(decide (r.f2.length = 0)) && (q1 && q2 && q3) && !q4) = ((q1 && q2 && q3) && !q4) := by simp [hz]
    have HF := znl hF; clear hz hF; go_upto_region 3 with (first | (go_at_call 95; refine (HN.out _ HG.out).mono ?_; rintro e w2 ⟨rfl, hb2⟩; have HK2 := znl (zah HK.out hb2); have j2 : w2.cell? ⟨w.heap.size, 2, none⟩ = some (.slice B2 r.f2.length c2) := (zaa HK2.out 2).trans rfl))
    have HB2 := znl (zad HB.out HB.out.size hb2); have HA2 := znl (HA.out.below hb2); have HG2 := znl (HG.out.below hb2); have hb3 := (zno w2.heap.size w2).alloc (znp _) (.cells #[.slice B1 r.f1.length c1, .slice B2 r.f2.length c2, .slice B3 r.f3.length c3] 22); have HX3 := znl (zao w2 (.cells #[.slice B1 r.f1.length c1, .slice B2 r.f2.length c2, .slice B3 r.f3.length c3] 22)); have HB3 := znl (zad HB2.out HB2.out.size hb3); have HA3 := znl (HA2.out.below hb3); have HG3 := znl (HG2.out.below hb3); have HK3 := znl (zah HK2.out hb3); have j1 : w2.cell? ⟨w.heap.size, 1, none⟩ = some (.slice B1 r.f1.length c1) := (zaa HK2.out 1).trans rfl; have j3 : w2.cell? ⟨w.heap.size, 3, none⟩ = some (.slice B3 r.f3.length c3) := (zaa HK2.out 3).trans rfl; clear hb2 hb3; go_upto_block 0 with fail; generalize hg2 : w2.heap.size = g at HX3 |-; generalize w2.alloc (.cells #[.slice B1 r.f1.length c1, .slice B2 r.f2.length c2, .slice B3 r.f3.length c3] 22) = w3 at HX3 HB3 HA3 HG3 HK3 |-; clear hg2 j1 j2 j3 k0; go_wp2_with fail; go_loopg [4, 22] 3 (fun gg _ s22 wr => ∃ kk : Nat, kk <= 3 /\ 3 - kk <= gg /\ s22 = .int .i64 kk /\ Aside0 ((0 < kk -> q1 = true) /\ (1 < kk -> q2 = true) /\ (2 < kk -> q3 = true)) /\ Aside0 (Below w3.heap.size w3 wr))
    case atStart => exact ⟨0, by omega, by omega, rfl, ⟨fun h => absurd h (by omega), fun h => absurd h (by omega), fun h => absurd h (by omega)⟩, ⟨zno _ _⟩⟩
    case round =>
     obtain ⟨kk, hkk, hgk, rfl, HQ, HW⟩ := hrel; have HXr := znl (zah HX3.out HW.out); have x0 : wr.cell? ⟨g, 0, none⟩ = some (.slice B1 r.f1.length c1) := (zaa HXr.out 0).trans rfl; have x1 : wr.cell? ⟨g, 1, none⟩ = some (.slice B2 r.f2.length c2) := (zaa HXr.out 1).trans rfl; have x2 : wr.cell? ⟨g, 2, none⟩ = some (.slice B3 r.f3.length c3) := (zaa HXr.out 2).trans rfl; have HAr := znl (HA3.out.below HW.out); have HGr := znl (HG3.out.below HW.out); have HBr := znl (zad HB3.out HB3.out.size HW.out); have hkc : kk = 0 \/ kk = 1 \/ kk = 2 \/ kk = 3 := by omega
     rcases hkc with rfl | rfl | rfl | rfl
     . cases q1 with
       | false =>
        go_wp2_with (first | (go_at_call 56; refine (H1.out _ HGr.out HAr.out.h1).mono ?_; rintro e w4 ⟨rfl, hb4⟩))
        go_ret
        exact ⟨by rw [HF.out]; rfl, zad HBr.out HBr.out.size hb4⟩
       | true =>
        go_wp2_with (first | (go_at_call 56; refine (H1.out _ HGr.out HAr.out.h1).mono ?_; rintro e w4 ⟨rfl, hb4⟩))
        go_roundg 2
        case measure => omega
        case rel => exact ⟨1, by omega, by omega, by first | rfl | go_num, ⟨fun _ => by trivial, fun h => absurd h (by omega), fun h => absurd h (by omega)⟩, ⟨zad HW.out HW.out.size hb4⟩⟩
     . cases q2 with
       | false =>
        have hF2 := HF.out; go_wp2_with (first | (go_at_call 56; refine (H2.out _ HGr.out HAr.out.h2).mono ?_; rintro e w4 ⟨rfl, hb4⟩))
        go_ret
        exact ⟨by rw [HF.out]; simp, zad HBr.out HBr.out.size hb4⟩
       | true =>
        go_wp2_with (first | (go_at_call 56; refine (H2.out _ HGr.out HAr.out.h2).mono ?_; rintro e w4 ⟨rfl, hb4⟩))
        go_roundg 1
        case measure => omega
        case rel => exact ⟨2, by omega, by omega, by first | rfl | go_num, ⟨fun _ => HQ.out.1 (by omega), fun _ => by trivial, fun h => absurd h (by omega)⟩, ⟨zad HW.out HW.out.size hb4⟩⟩
     . cases q3 with
       | false =>
        go_wp2_with (first | (go_at_call 56; refine (H3.out _ HGr.out HAr.out.h3).mono ?_; rintro e w4 ⟨rfl, hb4⟩))
        go_ret
        exact ⟨by rw [HF.out]; simp, zad HBr.out HBr.out.size hb4⟩
       | true =>
        go_wp2_with (first | (go_at_call 56; refine (H3.out _ HGr.out HAr.out.h3).mono ?_; rintro e w4 ⟨rfl, hb4⟩))
        go_roundg 0
        case measure => omega
        case rel => exact ⟨3, by omega, by omega, by first | rfl | go_num, ⟨fun _ => HQ.out.1 (by omega), fun _ => HQ.out.2.1 (by omega), fun _ => by trivial⟩, ⟨zad HW.out HW.out.size hb4⟩⟩
     . have hq : (q1 && q2 && q3) = true := by rw [HQ.out.1 (by omega), HQ.out.2.1 (by omega), HQ.out.2.2 (by omega)]; rfl
       have hF3 : (true && !(decide (r.f2.length = 0)) && (q1 && q2 && q3) && !q4) = !q4 := by rw [HF.out, hq, Bool.true_and]
       have HF3 := znl hF3; have HKr := znl (zah HK3.out HW.out); have i4 : wr.cell? ⟨w.heap.size, 4, none⟩ = some (.slice B4 r.f4.length c4) := (zaa HKr.out 4).trans rfl; clear hq hF3; go_wp2_with (first | (go_at_call 96; refine (H4.out _ HGr.out HAr.out.h4).mono ?_; rintro e w4 ⟨rfl, hb4⟩))
       go_ret
       exact ⟨by rw [HF3.out]; rfl, zad HBr.out HBr.out.size hb4⟩

theorem zjR {w : World} {A : Option Addr} {l : List ByteArray} (h : Kd.C Kd.string w A l.length l) {k : Nat} (hk : k <= l.length) : Kd.C Kd.string w A k (l.take k) := by
 refine ⟨by rw [znA]; omega, by have := h.2.1; omega, fun hp => ?_⟩
 obtain ⟨ad, rfl, hc⟩ := h.2.2 (by omega)
 refine ⟨ad, rfl, fun j x hx => hc j x ?_⟩
 rw [List.getElem?_take] at hx; split at hx
 . exact hx
 . cases hx
theorem zl1 (l : List ByteArray) (k : Nat) : zac (l.take k) = (zac l).take k := by unfold zac; rw [List.map_take]
theorem zit {l : List zab} {k : Nat} (h : k < l.length) : (l.take (k + 1)).Nodup ↔ (l.take k).Nodup /\ l[k] ∉ l.take k := by
 rw [znO h, List.nodup_append]; simp only [List.nodup_cons, List.not_mem_nil, not_false_eq_true, List.nodup_nil, and_self, zoF, true_and]; constructor
 . rintro ⟨h1, h2⟩
   exact ⟨h1, fun hm => h2 _ hm _ rfl rfl⟩
 . rintro ⟨h1, h2⟩
   exact ⟨h1, fun a ha b hb e => h2 (by rw [<- hb, <- e]; exact ha)⟩
theorem zfA (A : Option Addr) (c : Nat) (l : List ByteArray) (w : World) (hr : Kd.C Kd.string w A l.length l) (hc : l.length <= c) :
 Calls Tryz.prog 98 #[.slice A l.length c] w fun e w' => e = .returned (.bool (zb1 (zac l))) /\ w = w' := by
 have hlen : l.length <= 9223372036854775807 := hr.2.1; have HR := znl hr; obtain ⟨T, hT⟩ : ∃ T, T = zb1 (zac l) := ⟨_, rfl⟩; rw [<- hT]; have HT := znl hT; clear hr hT; go_enter Tryz.func98, Tryz.ntmps98
 go_wp2_with fail; go_loopg [3, 4, 7] l.length (fun gg _ _ s7 wr => ∃ kk : Nat, kk <= l.length /\ l.length - kk <= gg /\ s7 = .int .i64 kk /\ Aside0 (((zac l).take kk).Nodup) /\ wr = w)
 case atStart => exact ⟨0, zn8 _, by omega, rfl, ⟨List.nodup_nil⟩, rfl⟩
 case round =>
  obtain ⟨kk, hkk, hgk, rfl, HN, rfl⟩ := hrel; by_cases hlt : kk < l.length
  . have hltz : (kk : Int) < (l.length : Int) := by omega
    obtain ⟨b, o, rfl, p0⟩ := zbc HR.out kk hlt; have hl2 : (l.take kk).length = kk := by rw [znA]; omega
    have hct := zc2 (some ⟨b, o, none⟩) c (l.take kk) l[kk] wr (by rw [hl2]; exact zjR HR.out (by omega))
    rw [hl2, zl1] at hct; have hnd := zit (l := zac l) (k := kk) (by rw [zaZ]; exact hlt)
    rw [zcD l kk hlt] at hnd; have hTt : ((zac l).take kk).contains l[kk].data.toList = true -> T = true := by
     intro h; rw [HT.out]; unfold zb1; have : ¬ (zac l).Nodup := by
      intro hn; have h2 : ((zac l).take (kk + 1)).Nodup := (List.take_sublist _ _).nodup hn; exact (hnd.1 h2).2 (by simpa using h)
     simp [this]
    have hTf : ((zac l).take kk).contains l[kk].data.toList = false -> ((zac l).take (kk + 1)).Nodup := fun h => hnd.2 ⟨HN.out, by simpa using h⟩
    have HTt := znl hTt; have HTf := znl hTf; have hb1 : (kk : Int) <= (l.length : Int) := by omega
    have hb2 : (l.length : Int) <= (c : Int) := by omega
    have hb3 : (kk : Int) <= (c : Int) := by omega
    have hb0 : (0 : Int) <= (kk : Int) := by omega
    generalize ((zac l).take kk).contains l[kk].data.toList = q at hct HTt HTf; generalize l[kk] = y at p0 hct; have HCt := znl hct; clear hnd hTt hTf hct hl2; cases q with
    | true =>
     have HF : Hid (T = true) := znl (HTt.out (by trivial))
     go_wp2_with (first | (go_at_call 92; refine HCt.out.mono ?_; rintro e w2 ⟨rfl, rfl⟩))
     go_ret
     exact ⟨by rw [HF.out]; rfl, rfl⟩
    | false =>
     have HF := znl (HTf.out (by trivial))
     go_wp2_with (first | (go_at_call 92; refine HCt.out.mono ?_; rintro e w2 ⟨rfl, rfl⟩))
     go_roundg (l.length - (kk + 1))
     case measure => omega
     case rel => exact ⟨kk + 1, by omega, by omega, by first | rfl | go_num, ⟨HF.out⟩, rfl⟩
  . have hltz : ¬ (kk : Int) < (l.length : Int) := by omega
    obtain rfl : kk = l.length := by omega
    have hF : T = false := by
     rw [HT.out]; unfold zb1; have h := HN.out; rw [zox (by rw [zaZ]; exact znp _)] at h
     simp [h]
    have HF := znl hF; clear hF; go_wp2_with fail; go_ret
    exact ⟨by rw [HF.out]; rfl, rfl⟩

structure CapR (r : zai) (c1 c2 c3 c4 : Nat) : Prop where
 l1 : r.f1.length <= c1
 l2 : r.f2.length <= c2
 l3 : r.f3.length <= c3
 l4 : r.f4.length <= c4
theorem ziY : ∀ args w, (callFunc 100 args).run Tryz.prog w = .ok (.enter 100 args) w := Go.Proofs.enters_of Tryz.func100 (by kernel_rfl) rfl
theorem zjf : ∀ args w, (callFunc 101 args).run Tryz.prog w = .ok (.enter 101 args) w := Go.Proofs.enters_of Tryz.func101 (by kernel_rfl) rfl
theorem zlq (K : Nat) (A : Option Addr) (c : Nat) (l : List ByteArray) (x : ByteArray) (w : World) (hk : w.cell? ⟨K, 0, none⟩ = some (.slice A l.length c)) (hr : Kd.C Kd.string w A l.length l) :
 Calls Tryz.prog 100 #[.string x, .pointer (some ⟨K, 0, none⟩)] w fun e w' => e = .returned (.bool (!(zac l).contains x.data.toList)) /\ w = w' := by
 have hC := zc2 A c l x w hr; generalize (zac l).contains x.data.toList = q at hC |-; have HC := znl hC; clear hC hr; go_enter Tryz.func100, Tryz.ntmps100
 go_wp2_with (first | (go_at_call 92; refine HC.out.mono ?_; rintro e w2 ⟨rfl, rfl⟩))
 go_ret
 exact ⟨rfl, rfl⟩
theorem zjn (K : Nat) (A : Option Addr) (c : Nat) (l : List ByteArray) (x : ByteArray) (w : World) (hk : w.cell? ⟨K, 1, none⟩ = some (.slice A l.length c)) (hr : Kd.C Kd.string w A l.length l) :
 Calls Tryz.prog 101 #[.string x, .pointer (some ⟨K, 0, none⟩)] w fun e w' => e = .returned (.bool ((zac l).contains x.data.toList)) /\ w = w' := by
 have hC := zc2 A c l x w hr; generalize (zac l).contains x.data.toList = q at hC |-; have HC := znl hC; clear hC hr; go_enter Tryz.func101, Tryz.ntmps101
 go_wp2_with (first | (go_at_call 92; refine HC.out.mono ?_; rintro e w2 ⟨rfl, rfl⟩))
 go_ret
 exact ⟨rfl, rfl⟩
theorem zgd (K : Nat) (A : Option Addr) (c : Nat) (l : List ByteArray) (B : Option Addr) (d : Nat) (k : List ByteArray) (w : World) (hk : w.cell? ⟨K, 0, none⟩ = some (.slice A l.length c)) (hr : Kd.C Kd.string w A l.length l) (hx : Kd.C Kd.string w B k.length k) :
 Calls Tryz.prog 56 #[.slice B k.length d, .func (.func 100) #[] #[.pointer (some ⟨K, 0, none⟩)]] w fun e w' => e = .returned (.bool ((zac k).any fun a => !(zac l).contains a)) /\ Below w.heap.size w w' := by
 have h := zdu 100 #[.pointer (some ⟨K, 0, none⟩)] ziY (fun x => !(zac l).contains x.data.toList) B d k w hx (fun W x hW => (zlq K A c l x W (zaf hW hk) (Kd.C_below hr hW)).mono fun e w' ⟨he, hw⟩ => ⟨he, by rw [<- hw]; exact zno _ _⟩)
 have e : k.any (fun x => !(zac l).contains x.data.toList) = (zac k).any fun a => !(zac l).contains a := by
  conv => rhs; unfold zac
  rw [zoI]; rfl
 rw [e] at h; exact h
theorem zi1 (K : Nat) (A : Option Addr) (c : Nat) (l : List ByteArray) (B : Option Addr) (d : Nat) (k : List ByteArray) (w : World) (hk : w.cell? ⟨K, 1, none⟩ = some (.slice A l.length c)) (hr : Kd.C Kd.string w A l.length l) (hx : Kd.C Kd.string w B k.length k) :
 Calls Tryz.prog 56 #[.slice B k.length d, .func (.func 101) #[] #[.pointer (some ⟨K, 0, none⟩)]] w fun e w' => e = .returned (.bool ((zac k).any fun a => (zac l).contains a)) /\ Below w.heap.size w w' := by
 have h := zdu 101 #[.pointer (some ⟨K, 0, none⟩)] zjf (fun x => (zac l).contains x.data.toList) B d k w hx (fun W x hW => (zjn K A c l x W (zaf hW hk) (Kd.C_below hr hW)).mono fun e w' ⟨he, hw⟩ => ⟨he, by rw [<- hw]; exact zno _ _⟩)
 have e : k.any (fun x => (zac l).contains x.data.toList) = (zac k).any fun a => (zac l).contains a := by
  conv => rhs; unfold zac
  rw [zoI]; rfl
 rw [e] at h; exact h
def endP (outs : List zab) : Option (List zab) -> Bool
 | none => false
 | some known => !(outs.any fun o => !known.contains o)
theorem zl8 (L : List zca) (known : List zab) (k : Nat) (h : k < L.length) : zcs (L.drop k) known = if known.contains L[k].out || L[k].args.any (fun a => !known.contains a) then none else zcs (L.drop (k + 1)) (known ++ [L[k].out]) := by
 rw [znQ h]; rfl
theorem zjC (r : zai) (B1 : Option Addr) (c1 : Nat) (B2 : Option Addr) (c2 : Nat) (B3 : Option Addr) (c3 : Nat) (B4 : Option Addr) (c4 : Nat) (w : World) (hA : RuleAt r B1 B2 B3 B4 w) (hC : CapR r c1 c2 c3 c4) (hl : r.f4.length <= 1000) (hl1 : r.f1.length <= 1000) :
 Calls Tryz.prog 70 #[.agg (zaq r B1 c1 B2 c2 B3 c3 B4 c4)] w fun e w' => e = .returned (.bool (zdh (zb5 r))) /\ Below w.heap.size w w' := by
 have hW := (zno w.heap.size w).alloc (znp _) (.cells (zaq r B1 c1 B2 c2 B3 c3 B4 c4) 45); have HK := znl (zao w (.cells (zaq r B1 c1 B2 c2 B3 c3 B4 c4) 45)); have HB := znl hW; have HA := znl (hA.below hW); have hT : zdh (zb5 r) = (!(zb1 (zac r.f1) || zb1 (zac r.f2) || zb1 (zac r.f3) || (zac r.f3).contains r.f0.data.toList) && !((zac r.f2).any fun a => (zac r.f1).contains a) && endP (zac r.f2) (zcs (r.f4.map zaJ) (zac r.f1))) := rfl
 have H1 := znl (fun W (h : Kd.C Kd.string W B1 r.f1.length r.f1) => zfA B1 c1 r.f1 W h hC.l1)
 have H2 := znl (fun W (h : Kd.C Kd.string W B2 r.f2.length r.f2) => zfA B2 c2 r.f2 W h hC.l2)
 have H3 := znl (fun W (h : Kd.C Kd.string W B3 r.f3.length r.f3) => zfA B3 c3 r.f3 W h hC.l3)
 have H4 := znl (fun W (h : Kd.C Kd.string W B3 r.f3.length r.f3) => zc2 B3 c3 r.f3 r.f0 W h)
 obtain ⟨T, hT0⟩ : ∃ T, T = zdh (zb5 r) := ⟨_, rfl⟩; rw [<- hT0]; rw [<- hT0] at hT; generalize zb1 (zac r.f1) = q1 at H1 hT; generalize zb1 (zac r.f2) = q2 at H2 hT; generalize zb1 (zac r.f3) = q3 at H3 hT; generalize (zac r.f3).contains r.f0.data.toList = q4 at H4 hT; have HT := znl hT; clear hW hA hT hT0; unfold zaq at *; go_enter Tryz.func70, Tryz.ntmps70
 go_upto_if 26 with fail; generalize w.alloc (.cells #[.string r.f0, .slice B1 r.f1.length c1, .slice B2 r.f2.length c2, .slice B3 r.f3.length c3, .slice B4 r.f4.length c4] 45) = w1 at HB HK HA |-; have k0 : w1.cell? ⟨w.heap.size, 0, none⟩ = some (.string r.f0) := (zaa HK.out 0).trans rfl; have k1 : w1.cell? ⟨w.heap.size, 1, none⟩ = some (.slice B1 r.f1.length c1) := (zaa HK.out 1).trans rfl; have k2 : w1.cell? ⟨w.heap.size, 2, none⟩ = some (.slice B2 r.f2.length c2) := (zaa HK.out 2).trans rfl; have k3 : w1.cell? ⟨w.heap.size, 3, none⟩ = some (.slice B3 r.f3.length c3) := (zaa HK.out 3).trans rfl; have k4 : w1.cell? ⟨w.heap.size, 4, none⟩ = some (.slice B4 r.f4.length c4) := (zaa HK.out 4).trans rfl; have h1 := H1.out w1 HA.out.h1; have h2 := H2.out w1 HA.out.h2; have h3 := H3.out w1 HA.out.h3; have h4 := H4.out w1 HA.out.h3; have J1 := znl h1; have J2 := znl h2; have J3 := znl h3; have J4 := znl h4; clear h1 h2 h3 h4; by_cases hq : (q1 || q2 || q3 || q4) = true
 . have HF : Hid (T = false) := by show _ = _; rw [HT.out, hq]; rfl
   clear HT; cases q1 with
   | true =>
    clear hq; go_wp2_with (first
     | (go_at_call 98; first | ((with_reducible refine J1.out.mono ?_); rintro e w2 ⟨rfl, rfl⟩) | ((with_reducible refine J2.out.mono ?_); rintro e w2 ⟨rfl, rfl⟩) | ((with_reducible refine J3.out.mono ?_); rintro e w2 ⟨rfl, rfl⟩))
     | (go_at_call 92; refine J4.out.mono ?_; rintro e w2 ⟨rfl, rfl⟩))
    go_ret
    exact ⟨by rw [HF.out]; rfl, HB.out⟩
   | false =>
    cases q2 with
    | true =>
     clear hq; go_wp2_with (first
      | (go_at_call 98; first | ((with_reducible refine J1.out.mono ?_); rintro e w2 ⟨rfl, rfl⟩) | ((with_reducible refine J2.out.mono ?_); rintro e w2 ⟨rfl, rfl⟩) | ((with_reducible refine J3.out.mono ?_); rintro e w2 ⟨rfl, rfl⟩))
      | (go_at_call 92; refine J4.out.mono ?_; rintro e w2 ⟨rfl, rfl⟩))
     go_ret
     exact ⟨by rw [HF.out]; rfl, HB.out⟩
    | false =>
     cases q3 with
     | true =>
      clear hq; go_wp2_with (first
       | (go_at_call 98; first | ((with_reducible refine J1.out.mono ?_); rintro e w2 ⟨rfl, rfl⟩) | ((with_reducible refine J2.out.mono ?_); rintro e w2 ⟨rfl, rfl⟩) | ((with_reducible refine J3.out.mono ?_); rintro e w2 ⟨rfl, rfl⟩))
       | (go_at_call 92; refine J4.out.mono ?_; rintro e w2 ⟨rfl, rfl⟩))
      go_ret
      exact ⟨by rw [HF.out]; rfl, HB.out⟩
     | false =>
      cases q4 with
      | true =>
       clear hq; go_wp2_with (first
        | (go_at_call 98; first | ((with_reducible refine J1.out.mono ?_); rintro e w2 ⟨rfl, rfl⟩) | ((with_reducible refine J2.out.mono ?_); rintro e w2 ⟨rfl, rfl⟩) | ((with_reducible refine J3.out.mono ?_); rintro e w2 ⟨rfl, rfl⟩))
        | (go_at_call 92; refine J4.out.mono ?_; rintro e w2 ⟨rfl, rfl⟩))
       go_ret
       exact ⟨by rw [HF.out]; rfl, HB.out⟩
      | false => exact absurd hq (by decide)
 . have hq1 : q1 = false := by cases q1 with | false => rfl | true => exact absurd rfl hq
   subst hq1; have hq2 : q2 = false := by cases q2 with | false => rfl | true => exact absurd rfl hq
   subst hq2; have hq3 : q3 = false := by cases q3 with | false => rfl | true => exact absurd rfl hq
   subst hq3; have hq4 : q4 = false := by cases q4 with | false => rfl | true => exact absurd rfl hq
   subst hq4; clear hq; go_upto_region 3 with (first
    | (go_at_call 98; first | ((with_reducible refine J1.out.mono ?_); rintro e w2 ⟨rfl, rfl⟩) | ((with_reducible refine J2.out.mono ?_); rintro e w2 ⟨rfl, rfl⟩) | ((with_reducible refine J3.out.mono ?_); rintro e w2 ⟨rfl, rfl⟩))
    | (go_at_call 92; refine J4.out.mono ?_; rintro e w2 ⟨rfl, rfl⟩))
   have hcl := zc0 B1 c1 r.f1 w1 HA.out.h1 (by omega)
   go_upto_region 4 with (first | (go_at_call 99; refine hcl.mono ?_; rintro e w2 ⟨v, rfl, hown, hb2⟩; obtain ⟨A2, n2, rfl, hc2, _⟩ := Kd.R_reads (Kd.R_of_own (h1 := fun _ => rfl) (ok := fun _ => True) hown (fun _ _ => trivial)); have HO2 : Hid (RS w2 w1.heap.size (.slice A2 r.f1.length n2) r.f1) := znl (Kd.R_of_own (h1 := fun _ => rfl) hown (fun _ _ => trivial)); have HB2 := znl hb2; clear hown hb2 hc2))
   clear hcl; have hb3 := (zno w2.heap.size w2).alloc (znp _) (.cells #[.slice A2 r.f1.length n2] 22); have HX3 := znl (zao w2 (.cells #[.slice A2 r.f1.length n2] 22)); have HB3 := znl (zad HB2.out HB2.out.size hb3); have HO3 := znl (Kd.R_below HO2.out hb3); have HKw := znl HB2.out.size; clear hb3 HO2; generalize hK : w2.heap.size = K at HX3 HKw |-; generalize w2.alloc (.cells #[.slice A2 r.f1.length n2] 22) = w3 at HX3 HB3 HO3 |-; clear hK; have l2 := zaf HB3.out k2; have l1 := zaf HB3.out k1; have HAi := znl (zi1 w.heap.size B1 c1 r.f1 B2 c2 r.f2 w3 l1 (HA.out.below HB3.out).h1 (HA.out.below HB3.out).h2); have hT := HT.out; generalize ((zac r.f2).any fun a => (zac r.f1).contains a) = q5 at HAi hT
   have HT5 := znl hT; clear hT HT; cases q5 with
   | true =>
    have HF : Hid (T = false) := by show _ = _; rw [HT5.out]; rfl
    go_wp2_with (first | (go_at_call 56; refine HAi.out.mono ?_; rintro e w4 ⟨rfl, hb4⟩; have HB4 := znl (zad HB3.out HB3.out.size hb4); clear hb4))
    go_ret
    exact ⟨by rw [HF.out]; rfl, HB.out.trans (HB4.out.mono HB.out.size)⟩
   | false =>
    obtain ⟨wp, hwp⟩ : ∃ wp, wp = zcs (r.f4.map zaJ) (zac r.f1) := ⟨_, rfl⟩; have hT := HT5.out; rw [<- hwp] at hT; have HT6 : Hid (T = endP (zac r.f2) wp) := znl (by rw [hT]; rfl)
    have HWp := znl hwp; clear hT hwp HT5; go_upto_region 7 with (first | (go_at_call 56; refine HAi.out.mono ?_; rintro e w4 ⟨rfl, hb4⟩; have HX4 := znl (zah HX3.out hb4); have HO4 := znl (Kd.R_below HO3.out hb4); have HB4 := znl (zad HB3.out HB3.out.size hb4); clear hb4))
    have m4 := zaf HB4.out k4; go_wp2_with fail; go_loopg [6, 38] r.f4.length (fun gg _ s38 wr => ∃ (kk : Nat) (X : Option Addr) (n : Nat), kk <= r.f4.length /\ r.f4.length - kk <= gg /\ s38 = .int .i64 kk /\ Aside0 (wr.heap[K]? = some (.cells #[.slice X (r.f1 ++ (r.f4.take kk).map (·.f0)).length n] 22 (0, 0))) /\ Aside0 (RS wr w1.heap.size (.slice X (r.f1 ++ (r.f4.take kk).map (·.f0)).length n) (r.f1 ++ (r.f4.take kk).map (·.f0))) /\ Aside0 (zcs ((r.f4.map zaJ).drop kk) (zac (r.f1 ++ (r.f4.take kk).map (·.f0))) = wp) /\ Aside0 (Below w1.heap.size w1 wr))
    case atStart =>
     refine ⟨0, A2, n2, zn8 _, by omega, rfl, ⟨?_⟩, ⟨?_⟩, ⟨?_⟩, ⟨HB4.out⟩⟩
     . rw [zoJ, zn4, zoq]; exact HX4.out
     . rw [zoJ, zn4, zoq]; exact HO4.out
     . rw [zoJ, zn4, zoq, List.drop_zero]; exact HWp.out.symm
    case round =>
     obtain ⟨kk, X, n, hkk, hgk, rfl, HXr, HOr, HWr, HBr⟩ := hrel; obtain ⟨wq, rfl⟩ : ∃ wq, wq = wr := ⟨wr, rfl⟩; by_cases hlt : kk < r.f4.length
     . have hltz : (kk : Int) < (r.f4.length : Int) := by omega
       obtain ⟨b, o, C2, d2, C3, d3, rfl, p0, p1, p2, p3, p4, g2, g3⟩ := zc7 HA.out.h4 kk hlt; replace p0 := zaf HBr.out p0
       replace p1 := zaf HBr.out p1
       replace p2 := zaf HBr.out p2
       replace p3 := zaf HBr.out p3
       replace p4 := zaf HBr.out p4
       have hdr := zl8 (r.f4.map zaJ) (zac (r.f1 ++ (r.f4.take kk).map (·.f0))) kk (by rw [zn0]; exact hlt)
       rw [HWr.out, List.getElem_map] at hdr; have hsn : r.f1 ++ (r.f4.take (kk + 1)).map (·.f0) = (r.f1 ++ (r.f4.take kk).map (·.f0)) ++ [r.f4[kk].f0] := by rw [znO hlt, zoc, zoG]; rfl
       have hln : (r.f1 ++ (r.f4.take kk).map (·.f0)).length <= 2000 := by rw [znC, zn0, znA]; omega
       have HSn := znl hsn; have HLn := znl hln; generalize r.f1 ++ (r.f4.take kk).map (·.f0) = kn at HXr HOr hdr HSn HLn; generalize hx : r.f4[kk] = x at p0 p1 p2 p3 p4 g2 g3 hdr HSn; have HDr : Hid (wp = if (zac kn).contains x.f0.data.toList || (zac x.f2).any (fun a => !(zac kn).contains a) then none else zcs ((r.f4.map zaJ).drop (kk + 1)) (zac kn ++ [x.f0.data.toList])) := znl hdr
       clear hx hdr hsn hln; have hb5 := (zno wq.heap.size wq).alloc (znp _) (.cells #[.string x.f0, .int .i64 x.f1, .slice C2 x.f2.length d2, .slice C3 x.f3.length d3, .int .i64 x.f4] 24); have HY5 := znl (zao wq (.cells #[.string x.f0, .int .i64 x.f1, .slice C2 x.f2.length d2, .slice C3 x.f3.length d3, .int .i64 x.f4] 24)); have HB5 := znl (zad HBr.out HBr.out.size hb5); have HX5 := znl (zah HXr.out hb5); have HO5 := znl (Kd.R_below HOr.out hb5); have HG2 := znl g2; clear g2 g3 hb5; have m4q := zaf HBr.out k4; go_upto_region 10 with fail; generalize wq.alloc (.cells #[.string x.f0, .int .i64 x.f1, .slice C2 x.f2.length d2, .slice C3 x.f3.length d3, .int .i64 x.f4] 24) = w5 at HY5 HB5 HX5 HO5 |-; have y0 : w5.cell? ⟨wq.heap.size, 0, none⟩ = some (.string x.f0) := (zaa HY5.out 0).trans rfl; have y2 : w5.cell? ⟨wq.heap.size, 2, none⟩ = some (.slice C2 x.f2.length d2) := (zaa HY5.out 2).trans rfl; have kK : w5.cell? ⟨K, 0, none⟩ = some (.slice X kn.length n) := (zaa HX5.out 0).trans rfl; have hCkn : Kd.C Kd.string w5 X kn.length kn := by
        obtain ⟨X', n', he, _, hC⟩ := Kd.R_reads HO5.out; cases he
        exact hC
       have HCt := znl (zc2 X n kn x.f0 w5 hCkn); have HSt := znl (zgd K X n kn C2 d2 x.f2 w5 kK hCkn (Kd.C_below HG2.out HB5.out)); have hDr := HDr.out; generalize (zac kn).contains x.f0.data.toList = q6 at HCt hDr; generalize (zac x.f2).any (fun a => !(zac kn).contains a) = q7 at HSt hDr
       have HDr2 := znl hDr; clear hDr HDr hCkn; cases q6 with
       | true =>
        have HF : Hid (T = false) := by show _ = _; rw [HT6.out, HDr2.out]; rfl
        go_wp2_with (first | (go_at_call 92; refine HCt.out.mono ?_; rintro e w6 ⟨rfl, rfl⟩))
        go_ret
        exact ⟨by rw [HF.out]; rfl, HB.out.trans (HB5.out.mono HB.out.size)⟩
       | false =>
        cases q7 with
        | true =>
         have HF : Hid (T = false) := by show _ = _; rw [HT6.out, HDr2.out]; rfl
         go_wp2_with (first | (go_at_call 92; refine HCt.out.mono ?_; rintro e w6 ⟨rfl, rfl⟩) | (go_at_call 56; refine HSt.out.mono ?_; rintro e w6 ⟨rfl, hb6⟩; have HB6 := znl (zad HB5.out HB5.out.size hb6); clear hb6))
         go_ret
         exact ⟨by rw [HF.out]; rfl, HB.out.trans (HB6.out.mono HB.out.size)⟩
        | false =>
         have HWn : Hid (zcs ((r.f4.map zaJ).drop (kk + 1)) (zac (r.f1 ++ (r.f4.take (kk + 1)).map (·.f0))) = wp) := by
          show _ = _
          rw [HSn.out, HDr2.out]; unfold zac; rw [zoc]; rfl
         go_upto_region 12 with (first | (go_at_call 92; refine HCt.out.mono ?_; rintro e w6 ⟨rfl, rfl⟩) | (go_at_call 56; refine HSt.out.mono ?_; rintro e w6 ⟨rfl, hb6⟩; have HB6 := znl (zad HB5.out HB5.out.size hb6); have HX6 := znl (zah HX5.out hb6); have HO6 := znl (Kd.R_below HO5.out hb6); have HY6 := znl (zah HY5.out hb6); clear hb6))
         have z0 : w6.cell? ⟨wq.heap.size, 0, none⟩ = some (.string x.f0) := (zaa HY6.out 0).trans rfl; have kK6 : w6.cell? ⟨K, 0, none⟩ = some (.slice X kn.length n) := (zaa HX6.out 0).trans rfl; have hb7 := (zno w6.heap.size w6).alloc (znp _) (.cells #[.string x.f0] 9); have HWs := znl HB6.out.size; clear kK y0 y2 hb7; go_wp2_with (first | ((with_reducible refine zaM (b := .append) (xs := #[.tmp 52, .tmp 55]) rfl ?_); at_builtin; refine Kd.R_append Kd.string (w0 := w1) w1.heap.size rfl (.tmp 52) (.tmp 55) 22 9 (.string ⟨#[]⟩) 16 rfl Tryz.underlying22 zcg rfl (by decide) (by decide) (.slice X kn.length n) kn x.f0 [.string x.f0] (fun _ => True) (fun k_ => True /\ some k_ ≠ (Value.slice X kn.length n).ownBlock) rfl rfl rfl (fun _ hk => hk) (fun _ _ => trivial) HO6.out HB6.out HWs.out ?aL ?_; (case aL => (have h1 := HLn.out; omega)); intro v1 w8 ho hb hg hat; obtain ⟨X8, n8, rfl, _, _⟩ := Kd.R_reads ho; obtain ⟨ln, hln⟩ : ∃ ln, ln = (kn ++ [x.f0]).length := ⟨_, rfl⟩; rw [<- hln] at ho |-; have HLn2 : Hid (ln = (r.f1 ++ (r.f4.take (kk + 1)).map (·.f0)).length) := (by show _ = _; rw [HSn.out]; exact hln); have HO8 : Hid (RS w8 w1.heap.size (.slice X8 ln n8) (r.f1 ++ (r.f4.take (kk + 1)).map (·.f0))) := (by show RS _ _ _ _; rw [HSn.out]; exact ho); have HB8 := znl hb; have HX8 := znl (zaK HX6.out hg (Kd.R_ne HO6.out HX6.out (by decide))); have f8 := zag HX8.out 0; have k8 : w8.cell? ⟨K, 0, none⟩ = some (.slice X kn.length n) := (zaa HX8.out 0).trans rfl; clear ho hb hg hat hln))
         have HX9 : Hid ((w8.setCell ⟨K, 0, none⟩ (.slice X8 ln n8)).heap[K]? = some (.cells #[.slice X8 ln n8] 22 (0, 0))) := znl (zar HX8.out 0 _ rfl); have HO9 := znl (Kd.R_set HO8.out HX8.out (by decide) 0 (.slice X8 ln n8))
         have HB9 := znl (HB8.out.setCell (p := ⟨K, 0, none⟩) HKw.out (.slice X8 ln n8)); generalize w8.setCell ⟨K, 0, none⟩ (.slice X8 ln n8) = w9 at HX9 HO9 HB9 |-; go_roundg (r.f4.length - (kk + 1))
         case measure => omega
         case rel => exact ⟨kk + 1, X8, n8, by omega, by omega, by first | rfl | go_num, ⟨by rw [<- HLn2.out]; exact HX9.out⟩, ⟨by rw [<- HLn2.out]; exact HO9.out⟩, ⟨HWn.out⟩, ⟨HB9.out⟩⟩
     . have hltz : ¬ (kk : Int) < (r.f4.length : Int) := by omega
       obtain rfl : kk = r.f4.length := by omega
       have hW := HWr.out; rw [List.drop_eq_nil_of_le (by rw [zn0]; exact znp _)] at hW
       generalize r.f1 ++ (r.f4.take r.f4.length).map (·.f0) = kn at HXr HOr hW; have hT := HT6.out; rw [<- hW] at hT; have hT' : T = !((zac r.f2).any fun o => !(zac kn).contains o) := hT
       have kK : wq.cell? ⟨K, 0, none⟩ = some (.slice X kn.length n) := (zaa HXr.out 0).trans rfl; have hCkn : Kd.C Kd.string wq X kn.length kn := by
        obtain ⟨X', n', he, _, hC⟩ := Kd.R_reads HOr.out; cases he
        exact hC
       have HSt := znl (zgd K X n kn B2 c2 r.f2 wq kK hCkn (HA.out.below HBr.out).h2); generalize ((zac r.f2).any fun o => !(zac kn).contains o) = q8 at HSt hT'
       have HT8 := znl hT'; have i2 := zaf HBr.out k2; clear hT hT' hW hCkn; go_wp2_with (first | (go_at_call 56; refine HSt.out.mono ?_; rintro e w6 ⟨rfl, hb6⟩; have HB6 := znl (zad HBr.out HBr.out.size hb6); clear hb6))
       go_ret
       exact ⟨by rw [HT8.out]; rfl, HB.out.trans (HB6.out.mono HB.out.size)⟩

def zbU (r : zai) : Int := zhB zc9 zdh (zb5 r)
theorem znc (r : zai) : zbU r = if zc9 (zb5 r) = false then 1 else if 8 < r.f1.length \/ 4 < r.f2.length \/ 8 < r.f3.length \/ 12 < r.f4.length then 4 else if zdh (zb5 r) = false then 2 else 0 := by
 unfold zbU zhB zb5 zax; dsimp only; rw [zaZ, zaZ, zaZ, zn0]
theorem zh8 (r : zai) (B1 : Option Addr) (c1 : Nat) (B2 : Option Addr) (c2 : Nat) (B3 : Option Addr) (c3 : Nat) (B4 : Option Addr) (c4 : Nat) (w : World) (hG : GOK w) (hA : RuleAt r B1 B2 B3 B4 w) (hC : CapR r c1 c2 c3 c4) (hl : r.f4.length <= 1000) (hl1 : r.f1.length <= 1000) :
 Calls Tryz.prog 46 #[.agg (zaq r B1 c1 B2 c2 B3 c3 B4 c4)] w fun e w' => e = .returned (.int .i64 (zbU r)) /\ Below w.heap.size w w' := by
 have hW := (zno w.heap.size w).alloc (znp _) (.cells (zaq r B1 c1 B2 c2 B3 c3 B4 c4) 45); have HK := znl (zao w (.cells (zaq r B1 c1 B2 c2 B3 c3 B4 c4) 45)); have HB := znl hW; have HA := znl (hA.below hW); have HG := znl (hG.below hW); have hT := znc r; obtain ⟨T, hT0⟩ : ∃ T, T = zbU r := ⟨_, rfl⟩; rw [<- hT0]; rw [<- hT0] at hT; have HF := znl (fun W (hG : GOK W) (h : RuleAt r B1 B2 B3 B4 W) => zm9 r B1 c1 B2 c2 B3 c3 B4 c4 W hG h hl)
 have HN := znl (fun W (h : RuleAt r B1 B2 B3 B4 W) => zjC r B1 c1 B2 c2 B3 c3 B4 c4 W h hC hl hl1)
 generalize zc9 (zb5 r) = qf at HF hT; generalize zdh (zb5 r) = qn at HN hT; have HT := znl hT; clear hW hA hG hT hT0 hC; unfold zaq at *; go_enter Tryz.func46, Tryz.ntmps46
 go_upto_block 0 with fail; generalize w.alloc (.cells #[.string r.f0, .slice B1 r.f1.length c1, .slice B2 r.f2.length c2, .slice B3 r.f3.length c3, .slice B4 r.f4.length c4] 45) = w1 at HB HK HA HG |-; have k0 : w1.cell? ⟨w.heap.size, 0, none⟩ = some (.string r.f0) := (zaa HK.out 0).trans rfl; have k1 : w1.cell? ⟨w.heap.size, 1, none⟩ = some (.slice B1 r.f1.length c1) := (zaa HK.out 1).trans rfl; have k2 : w1.cell? ⟨w.heap.size, 2, none⟩ = some (.slice B2 r.f2.length c2) := (zaa HK.out 2).trans rfl; have k3 : w1.cell? ⟨w.heap.size, 3, none⟩ = some (.slice B3 r.f3.length c3) := (zaa HK.out 3).trans rfl; have k4 : w1.cell? ⟨w.heap.size, 4, none⟩ = some (.slice B4 r.f4.length c4) := (zaa HK.out 4).trans rfl; cases qf with
 | false =>
  have HV : Hid (T = 1) := by show _ = _; rw [HT.out, if_pos rfl]
  clear HT; go_wp2_with (first | (go_at_call 69; refine (HF.out _ HG.out HA.out).mono ?_; rintro e w2 ⟨rfl, hb2⟩; have HB2 := znl hb2; have HA2 := znl (HA.out.below hb2); have i0 := zaf hb2 k0; have i1 := zaf hb2 k1; have i2 := zaf hb2 k2; have i3 := zaf hb2 k3; have i4 := zaf hb2 k4; clear hb2))
  go_ret
  exact ⟨by rw [HV.out]; rfl, zad HB.out HB.out.size HB2.out⟩
 | true =>
  have hT := HT.out; rw [if_neg (by simp)] at hT
  have HT2 := znl hT; clear hT HT; by_cases h1 : 8 < r.f1.length
  . have d1 : decide ((8 : Int) < (r.f1.length : Int)) = true := by simp; omega
    have e1 : (8 : Int) < (r.f1.length : Int) := by omega
    have HV : Hid (T = 4) := by show _ = _; rw [HT2.out, if_pos (by omega)]
    clear HT2; go_wp2_with (first | (go_at_call 69; refine (HF.out _ HG.out HA.out).mono ?_; rintro e w2 ⟨rfl, hb2⟩; have HB2 := znl hb2; have HA2 := znl (HA.out.below hb2); have i0 := zaf hb2 k0; have i1 := zaf hb2 k1; have i2 := zaf hb2 k2; have i3 := zaf hb2 k3; have i4 := zaf hb2 k4; clear hb2))
    go_ret
    exact ⟨by rw [HV.out]; rfl, zad HB.out HB.out.size HB2.out⟩
  have d1 : decide ((8 : Int) < (r.f1.length : Int)) = false := by simp; omega
  have e1 : ¬ (8 : Int) < (r.f1.length : Int) := by omega
  by_cases h2 : 4 < r.f2.length
  . have d2 : decide ((4 : Int) < (r.f2.length : Int)) = true := by simp; omega
    have e2 : (4 : Int) < (r.f2.length : Int) := by omega
    have HV : Hid (T = 4) := by show _ = _; rw [HT2.out, if_pos (by omega)]
    clear HT2; go_wp2_with (first | (go_at_call 69; refine (HF.out _ HG.out HA.out).mono ?_; rintro e w2 ⟨rfl, hb2⟩; have HB2 := znl hb2; have HA2 := znl (HA.out.below hb2); have i0 := zaf hb2 k0; have i1 := zaf hb2 k1; have i2 := zaf hb2 k2; have i3 := zaf hb2 k3; have i4 := zaf hb2 k4; clear hb2))
    go_ret
    exact ⟨by rw [HV.out]; rfl, zad HB.out HB.out.size HB2.out⟩
  have d2 : decide ((4 : Int) < (r.f2.length : Int)) = false := by simp; omega
  have e2 : ¬ (4 : Int) < (r.f2.length : Int) := by omega
  by_cases h3 : 8 < r.f3.length
  . have d3 : decide ((8 : Int) < (r.f3.length : Int)) = true := by simp; omega
    have e3 : (8 : Int) < (r.f3.length : Int) := by omega
    have HV : Hid (T = 4) := by show _ = _; rw [HT2.out, if_pos (by omega)]
    clear HT2; go_wp2_with (first | (go_at_call 69; refine (HF.out _ HG.out HA.out).mono ?_; rintro e w2 ⟨rfl, hb2⟩; have HB2 := znl hb2; have HA2 := znl (HA.out.below hb2); have i0 := zaf hb2 k0; have i1 := zaf hb2 k1; have i2 := zaf hb2 k2; have i3 := zaf hb2 k3; have i4 := zaf hb2 k4; clear hb2))
    go_ret
    exact ⟨by rw [HV.out]; rfl, zad HB.out HB.out.size HB2.out⟩
  have d3 : decide ((8 : Int) < (r.f3.length : Int)) = false := by simp; omega
  have e3 : ¬ (8 : Int) < (r.f3.length : Int) := by omega
  by_cases h4 : 12 < r.f4.length
  . have d4 : decide ((12 : Int) < (r.f4.length : Int)) = true := by simp; omega
    have e4 : (12 : Int) < (r.f4.length : Int) := by omega
    have HV : Hid (T = 4) := by show _ = _; rw [HT2.out, if_pos (by omega)]
    clear HT2; go_wp2_with (first | (go_at_call 69; refine (HF.out _ HG.out HA.out).mono ?_; rintro e w2 ⟨rfl, hb2⟩; have HB2 := znl hb2; have HA2 := znl (HA.out.below hb2); have i0 := zaf hb2 k0; have i1 := zaf hb2 k1; have i2 := zaf hb2 k2; have i3 := zaf hb2 k3; have i4 := zaf hb2 k4; clear hb2))
    go_ret
    exact ⟨by rw [HV.out]; rfl, zad HB.out HB.out.size HB2.out⟩
  have d4 : decide ((12 : Int) < (r.f4.length : Int)) = false := by simp; omega
  have e4 : ¬ (12 : Int) < (r.f4.length : Int) := by omega
  have hT := HT2.out; rw [if_neg (by omega)] at hT
  clear HT2; have HT2 := znl hT; clear hT h1 h2 h3 h4; cases qn with
  | false =>
   have HV : Hid (T = 2) := by show _ = _; rw [HT2.out, if_pos rfl]
   clear HT2; go_wp2_with (first | (go_at_call 69; refine (HF.out _ HG.out HA.out).mono ?_; rintro e w2 ⟨rfl, hb2⟩; have HB2 := znl hb2; have HA2 := znl (HA.out.below hb2); have i0 := zaf hb2 k0; have i1 := zaf hb2 k1; have i2 := zaf hb2 k2; have i3 := zaf hb2 k3; have i4 := zaf hb2 k4; clear hb2) | (go_at_call 70; refine (HN.out _ HA2.out).mono ?_; rintro e w3 ⟨rfl, hb3⟩; have HB3 := znl (zad HB2.out HB2.out.size hb3); clear hb3))
   go_ret
   exact ⟨by rw [HV.out]; rfl, zad HB.out HB.out.size HB3.out⟩
  | true =>
   have HV : Hid (T = 0) := by show _ = _; rw [HT2.out, if_neg (by simp)]
   clear HT2; go_wp2_with (first | (go_at_call 69; refine (HF.out _ HG.out HA.out).mono ?_; rintro e w2 ⟨rfl, hb2⟩; have HB2 := znl hb2; have HA2 := znl (HA.out.below hb2); have i0 := zaf hb2 k0; have i1 := zaf hb2 k1; have i2 := zaf hb2 k2; have i3 := zaf hb2 k3; have i4 := zaf hb2 k4; clear hb2) | (go_at_call 70; refine (HN.out _ HA2.out).mono ?_; rintro e w3 ⟨rfl, hb3⟩; have HB3 := znl (zad HB2.out HB2.out.size hb3); clear hb3))
   go_ret
   exact ⟨by rw [HV.out]; rfl, zad HB.out HB.out.size HB3.out⟩

theorem zcG {w : World} {A : Option Addr} {l : List zai} (h : Kd.C k45 w A l.length l) (i : Nat) (hi : i < l.length) :
 ∃ b o B1 c1 B2 c2 B3 c3 B4 c4, A = some ⟨b, o, none⟩ /\ w.cell? ⟨b, o + i * 5, none⟩ = some (.string l[i].f0) /\ w.cell? ⟨b, o + i * 5 + 1, none⟩ = some (.slice B1 l[i].f1.length c1) /\ w.cell? ⟨b, o + i * 5 + 2, none⟩ = some (.slice B2 l[i].f2.length c2) /\
  w.cell? ⟨b, o + i * 5 + 3, none⟩ = some (.slice B3 l[i].f3.length c3) /\ w.cell? ⟨b, o + i * 5 + 4, none⟩ = some (.slice B4 l[i].f4.length c4) /\ RuleAt l[i] B1 B2 B3 B4 w /\ CapR l[i] c1 c2 c3 c4 := by
 obtain ⟨ad, B1, c1, B2, c2, B3, c3, B4, c4, rfl, p0, p1, p2, p3, p4, q1, g1, q2, g2, q3, g3, q4, g4⟩ := zgo h (i : Int) (by omega) (by omega)
 have hx : zbp l (i : Int) = l[i] := by
  unfold zbp; rw [Int.toNat_natCast, List.getD_eq_getElem?_getD, zns hi]; rfl
 rw [hx, Int.toNat_natCast] at p0 p1 p2 p3 p4; rw [hx] at q1 g1 q2 g2 q3 g3 q4 g4; obtain ⟨ad0, _, _, _, _, _, _, _, _, had0, z0, _⟩ := zgo h 0 (by omega) (by omega)
 cases had0
 obtain ⟨b, o, rfl⟩ := zem z0; have e : ((⟨b, o, none⟩ : Addr).add (i * 5)) = ⟨b, o + i * 5, none⟩ := by
  unfold Addr.add; split
  . rename_i h0; simp [h0]
  . rfl
 rw [e] at p0 p1 p2 p3 p4; exact ⟨b, o, B1, c1, B2, c2, B3, c3, B4, c4, rfl, p0, p1, p2, p3, p4, ⟨g1, g2, g3, g4⟩, ⟨q1, q2, q3, q4⟩⟩

theorem zin (g : Nat) (lb : Array Value) (eg : ∀ args w, (callFunc g args).run Tryz.prog w = .ok (.enter g args) w) (p : ByteArray -> Bool) (A : Option Addr) (c : Nat) (l : List ByteArray) (w : World)
 (hr : Kd.C Kd.string w A l.length l) (hp : ∀ (W : World), Below w.heap.size w W -> ∀ x ∈ l, Calls Tryz.prog g (#[.string x] ++ lb) W fun e w' => e = .returned (.bool (p x)) /\ Below W.heap.size W w') :
 Calls Tryz.prog 76 #[.slice A l.length c, .func (.func g) #[] lb] w fun e w' => ∃ i : Int, e = .returned (.int .i64 i) /\ decide (0 <= i) = l.any p /\ Below w.heap.size w w' := by
 have hlen : l.length <= 9223372036854775807 := hr.2.1; have HP := znl hp; have HR := znl hr; clear hp hr; go_enter Tryz.func76, Tryz.ntmps76
 go_wp2_with fail; go_loopg [5, 8] l.length (fun gg _ s8 wr => ∃ kk : Nat, kk <= l.length /\ l.length - kk <= gg /\ s8 = .int .i64 kk /\ Aside0 (Below w.heap.size w wr) /\ Aside0 ((l.take kk).any p = false))
 case atStart => exact ⟨0, zn8 _, by omega, rfl, ⟨zno _ _⟩, ⟨rfl⟩⟩
 case round =>
  obtain ⟨kk, hkk, hgk, rfl, HB, HA⟩ := hrel; by_cases hlt : kk < l.length
  . have hltz : (kk : Int) < (l.length : Int) := by omega
    obtain ⟨b, o, rfl, p0⟩ := zbc (Kd.C_below HR.out HB.out) kk hlt; have hS : (l.take (kk + 1)).any p = ((l.take kk).any p || p l[kk]) := by rw [znO hlt, List.any_append]; simp
    rw [HA.out, zoH] at hS; have hmem : p l[kk] = true -> l.any p = true := fun h => List.any_eq_true.2 ⟨_, zoy hlt, h⟩
    have hcall := HP.out wr HB.out l[kk] (zoy hlt); have HS := znl hS; have HM := znl hmem; generalize p l[kk] = q at hcall HS HM; generalize l[kk] = x at p0 hcall; clear hS hmem; cases q with
    | true =>
     go_wp2_with (first | (go_at_fn g; refine hcall.mono ?_; rintro e w2 ⟨rfl, hb2⟩; have HB2 := znl (zad HB.out HB.out.size hb2); clear hb2))
     go_ret
     exact ⟨kk, rfl, by rw [HM.out trivial]; simp, HB2.out⟩
    | false =>
     go_wp2_with (first | (go_at_fn g; refine hcall.mono ?_; rintro e w2 ⟨rfl, hb2⟩; have HB2 := znl (zad HB.out HB.out.size hb2); clear hb2))
     go_roundg (l.length - (kk + 1))
     case measure => omega
     case rel => exact ⟨kk + 1, by omega, by omega, by first | rfl | go_num, ⟨HB2.out⟩, ⟨HS.out⟩⟩
  . have hltz : ¬ (kk : Int) < (l.length : Int) := by omega
    obtain rfl : kk = l.length := by omega
    have hA := HA.out; rw [zn1] at hA; have HA2 := znl hA; clear hA; go_wp2_with fail; go_ret
    exact ⟨-1, rfl, by rw [HA2.out]; rfl, HB.out⟩
theorem zhG (g : Nat) (lb : Array Value) (eg : ∀ args w, (callFunc g args).run Tryz.prog w = .ok (.enter g args) w) (p : ByteArray -> Bool) (A : Option Addr) (c : Nat) (l : List ByteArray) (w : World)
 (hr : Kd.C Kd.string w A l.length l) (hp : ∀ (W : World), Below w.heap.size w W -> ∀ x ∈ l, Calls Tryz.prog g (#[.string x] ++ lb) W fun e w' => e = .returned (.bool (p x)) /\ Below W.heap.size W w') :
 Calls Tryz.prog 56 #[.slice A l.length c, .func (.func g) #[] lb] w fun e w' => e = .returned (.bool (l.any p)) /\ Below w.heap.size w w' := by
 have hI := zin g lb eg p A c l w hr hp; clear hr hp; generalize l.any p = q at *; go_enter Tryz.func56, Tryz.ntmps56
 go_wp2_with (go_at_call 76; refine hI.mono ?_; rintro e w2 ⟨i, rfl, hq, hb2⟩)
 go_ret
 exact ⟨by rw [<- hq]; rfl, hb2⟩

structure PSt (w : World) (K7 K8 m1 m2 n1 n2 : Nat) (s1 s2 : zab -> Bool) : Prop where
 c7 : w.heap[K7]? = some (.cells #[.map (some m1)] 119 (0, 0))
 c8 : w.heap[K8]? = some (.cells #[.map (some m2)] 119 (0, 0))
 e1 : SetIs w m1 n1 s1
 e2 : SetIs w m2 n2 s2
 ne : m1 ≠ m2
theorem PSt.below {w w' : World} {K7 K8 m1 m2 n1 n2 : Nat} {s1 s2 : zab -> Bool} (h : PSt w K7 K8 m1 m2 n1 n2 s1 s2) (hb : Below w.heap.size w w') : PSt w' K7 K8 m1 m2 n1 n2 s1 s2 := ⟨zah h.c7 hb, zah h.c8 hb, h.e1.below hb, h.e2.below hb, h.ne⟩
theorem PSt.put1 {w : World} {K7 K8 m1 m2 n1 n2 : Nat} {s1 s2 : zab -> Bool} (h : PSt w K7 K8 m1 m2 n1 n2 s1 s2) (hn : n1 < maxLen) (k : ByteArray) (hs : k.size <= maxLen) :
 ∃ w', (Instr.mapUpdate 119 (.map (some m1)) (.string k) (.bool true)).run Tryz.prog w = .ok () w' /\ PSt w' K7 K8 m1 m2 (n1 + 1) n2 (addS s1 k.data.toList) s2 /\ w.grownBy w' (some m1) := by
 obtain ⟨w', hrun, he, hg⟩ := h.e1.put hn k hs; exact ⟨w', hrun, ⟨zaK h.c7 hg (by intro e; injection e with e; exact h.e1.ne_cells h.c7 e.symm), zaK h.c8 hg (by intro e; injection e with e; exact h.e1.ne_cells h.c8 e.symm), he, h.e2.grown hg (by intro e; injection e with e; exact h.ne e.symm), h.ne⟩, hg⟩
theorem PSt.put2 {w : World} {K7 K8 m1 m2 n1 n2 : Nat} {s1 s2 : zab -> Bool} (h : PSt w K7 K8 m1 m2 n1 n2 s1 s2) (hn : n2 < maxLen) (k : ByteArray) (hs : k.size <= maxLen) :
 ∃ w', (Instr.mapUpdate 119 (.map (some m2)) (.string k) (.bool true)).run Tryz.prog w = .ok () w' /\ PSt w' K7 K8 m1 m2 n1 (n2 + 1) s1 (addS s2 k.data.toList) /\ w.grownBy w' (some m2) := by
 obtain ⟨w', hrun, he, hg⟩ := h.e2.put hn k hs; exact ⟨w', hrun, ⟨zaK h.c7 hg (by intro e; injection e with e; exact h.e2.ne_cells h.c7 e.symm), zaK h.c8 hg (by intro e; injection e with e; exact h.e2.ne_cells h.c8 e.symm), h.e1.grown hg (by intro e; injection e with e; exact h.ne e), he, h.ne⟩, hg⟩
theorem zlU : ∀ args w, (callFunc 103 args).run Tryz.prog w = .ok (.enter 103 args) w := Go.Proofs.enters_of Tryz.func103 (by kernel_rfl) rfl
theorem ziU : ∀ args w, (callFunc 104 args).run Tryz.prog w = .ok (.enter 104 args) w := Go.Proofs.enters_of Tryz.func104 (by kernel_rfl) rfl
theorem zlO (K m n : Nat) (s : zab -> Bool) (x : ByteArray) (w : World) (hk : w.cell? ⟨K, 0, none⟩ = some (.map (some m))) (he : SetIs w m n s) (hx : x.size <= maxLen) :
 Calls Tryz.prog 103 #[.string x, .pointer (some ⟨K, 0, none⟩)] w fun e w' => e = .returned (.bool (s x.data.toList)) /\ w = w' := by
 have hl := he.look x hx; generalize s x.data.toList = q at hl |-; clear he; go_enter Tryz.func103, Tryz.ntmps103
 go_wp2_with fail; go_ret
 exact ⟨rfl, rfl⟩
theorem ziR (K m n : Nat) (s : zab -> Bool) (x : ByteArray) (w : World) (hk : w.cell? ⟨K, 0, none⟩ = some (.map (some m))) (he : SetIs w m n s) (hx : x.size <= maxLen) :
 Calls Tryz.prog 104 #[.string x, .pointer (some ⟨K, 0, none⟩)] w fun e w' => e = .returned (.bool (!s x.data.toList)) /\ w = w' := by
 have hl := he.look x hx; generalize s x.data.toList = q at hl |-; clear he; go_enter Tryz.func104, Tryz.ntmps104
 go_wp2_with fail; go_ret
 exact ⟨rfl, rfl⟩
theorem zj9 (K m n : Nat) (s : zab -> Bool) (B : Option Addr) (d : Nat) (l : List ByteArray) (w : World) (hk : w.cell? ⟨K, 0, none⟩ = some (.map (some m))) (he : SetIs w m n s) (hx : Kd.C Kd.string w B l.length l) (hs : ∀ x ∈ l, x.size <= maxLen) :
 Calls Tryz.prog 56 #[.slice B l.length d, .func (.func 103) #[] #[.pointer (some ⟨K, 0, none⟩)]] w fun e w' => e = .returned (.bool ((zac l).any s)) /\ Below w.heap.size w w' := by
 have h := zhG 103 #[.pointer (some ⟨K, 0, none⟩)] zlU (fun x => s x.data.toList) B d l w hx (fun W hW x hxm => (zlO K m n s x W (zaf hW hk) (he.below hW) (hs x hxm)).mono fun e w' ⟨he, hw⟩ => ⟨he, by rw [<- hw]; exact zno _ _⟩)
 have e : l.any (fun x => s x.data.toList) = (zac l).any s := by
  unfold zac; rw [zoI]; rfl
 rw [e] at h; exact h
theorem zki (K m n : Nat) (s : zab -> Bool) (B : Option Addr) (d : Nat) (l : List ByteArray) (w : World) (hk : w.cell? ⟨K, 0, none⟩ = some (.map (some m))) (he : SetIs w m n s) (hx : Kd.C Kd.string w B l.length l) (hs : ∀ x ∈ l, x.size <= maxLen) :
 Calls Tryz.prog 56 #[.slice B l.length d, .func (.func 104) #[] #[.pointer (some ⟨K, 0, none⟩)]] w fun e w' => e = .returned (.bool ((zac l).any fun a => !s a)) /\ Below w.heap.size w w' := by
 have h := zhG 104 #[.pointer (some ⟨K, 0, none⟩)] ziU (fun x => !s x.data.toList) B d l w hx (fun W hW x hxm => (ziR K m n s x W (zaf hW hk) (he.below hW) (hs x hxm)).mono fun e w' ⟨he, hw⟩ => ⟨he, by rw [<- hw]; exact zno _ _⟩)
 have e : l.any (fun x => !s x.data.toList) = (zac l).any fun a => !s a := by
  unfold zac; rw [zoI]; rfl
 rw [e] at h; exact h

structure zcc (rs : List zai) : Prop where
 len : rs.length <= 1000
 fit : ∀ r ∈ rs, FitR r /\ r.f3.length <= 1000 /\ r.f0.size <= maxLen /\ ∀ x ∈ r.f3, x.size <= maxLen
def zbi (l : List zab) : zab -> Bool := addL (fun _ => false) l
theorem zf7 (l : List zab) (x : zab) : zbi l x = l.contains x := by unfold zbi addL; rw [zoH]
theorem zho (l : List zab) : zbi l = fun x => l.contains x := funext (zf7 l)
def dupS : List zai -> List zab -> List zab -> Option zai
 | [], _, _ => none
 | r :: rs, N, O => if N.contains r.f0.data.toList || (zac r.f2).any (fun o => O.contains o) then some r else dupS rs (N ++ [r.f0.data.toList]) (O ++ zac r.f2)
def whoV (e : Int) (o : Option zai) (d : Int × ByteArray) : Int × ByteArray := match o with
 | some r => (e, r.f0)
 | none => d
def zc1 (rs : List zai) : Option zai := rs.find? (fun r => (zac r.f3).any fun a => !(rs.map fun q => q.f0.data.toList).contains a)
def zbz (rs : List zai) : Int × ByteArray := match rs.find? (fun r => zbU r != 0) with
 | some r => (zbU r, r.f0)
 | none => if 40 < rs.length then (4, ⟨#[]⟩) else whoV 2 (dupS rs [] []) (whoV 2 (zc1 rs) (0, ⟨#[]⟩))
def zdM (p : Int × ByteArray) (w : World) (e : Ending) (w' : World) : Prop := e = .returned (.tuple #[.int .i64 p.1, .string p.2]) /\ Below w.heap.size w w'
theorem zfM {α : Type} (p : α -> Bool) (l : List α) (k : Nat) (h : k < l.length) (hn : (l.take k).any p = false) (hp : p l[k] = true) : l.find? p = some l[k] := by
 have e : l = l.take k ++ l[k] :: l.drop (k + 1) := by rw [<- znQ h, List.take_append_drop]
 have h1 : (l.take k).find? p = none := by
  rw [List.find?_eq_none]; intro x hx hpx; have := List.any_eq_false.1 hn x hx; exact this hpx
 conv => lhs; rw [e]
 rw [List.find?_append, h1, List.find?_cons_of_pos hp]; rfl
theorem zfc {α : Type} (p : α -> Bool) (l : List α) (hn : l.any p = false) : l.find? p = none := by
 rw [List.find?_eq_none]; intro x hx hpx; exact List.any_eq_false.1 hn x hx hpx
theorem ze1 {α : Type} (p : α -> Bool) (l : List α) (k : Nat) (h : k < l.length) : (l.take (k + 1)).any p = ((l.take k).any p || p l[k]) := by
 rw [znO h, List.any_append]; simp
theorem zmS (rs : List zai) (N O : List zab) (k : Nat) (h : k < rs.length) : dupS (rs.drop k) N O = if N.contains rs[k].f0.data.toList || (zac rs[k].f2).any (fun o => O.contains o) then some rs[k] else dupS (rs.drop (k + 1)) (N ++ [rs[k].f0.data.toList]) (O ++ zac rs[k].f2) := by
 rw [znQ h]; rfl
def nmK (rs : List zai) (k : Nat) : List zab := (rs.take k).map fun q => q.f0.data.toList
def otK (rs : List zai) (k : Nat) : List zab := (rs.take k).flatMap fun q => zac q.f2
theorem zjV (rs : List zai) (k : Nat) (h : k < rs.length) : nmK rs (k + 1) = nmK rs k ++ [rs[k].f0.data.toList] := by unfold nmK; rw [znO h, zoc]; rfl
theorem ziI (rs : List zai) (k : Nat) (h : k < rs.length) : otK rs (k + 1) = otK rs k ++ zac rs[k].f2 := by unfold otK; rw [znO h, List.flatMap_append]; simp
theorem zjQ (w : World) : PSt ((((w.alloc (.map #[] 0)).alloc (.map #[] 0)).alloc (.cells #[.map (some w.heap.size)] 119)).alloc (.cells #[.map (some (w.heap.size + 1))] 119)) (w.heap.size + 1 + 1) (w.heap.size + 1 + 1 + 1) w.heap.size (w.heap.size + 1) 0 0 (zbi []) (zbi []) := by
 have e0 : zbi [] = fun _ => false := zfm _
 have b1 : ∀ (W : World) (ob : Obj), Below W.heap.size W (W.alloc ob) := fun W ob => (zno W.heap.size W).alloc (znp _) ob
 have s1 : (w.alloc (.map #[] 0)).heap.size = w.heap.size + 1 := by simp
 have s2 : ((w.alloc (.map #[] 0)).alloc (.map #[] 0)).heap.size = w.heap.size + 1 + 1 := by simp
 have s3 : (((w.alloc (.map #[] 0)).alloc (.map #[] 0)).alloc (.cells #[.map (some w.heap.size)] 119)).heap.size = w.heap.size + 1 + 1 + 1 := by simp
 have m1 := SetIs.made w; have m2 := SetIs.made (w.alloc (.map #[] 0)); have k7 := zao ((w.alloc (.map #[] 0)).alloc (.map #[] 0)) (.cells #[.map (some w.heap.size)] 119); have k8 := zao (((w.alloc (.map #[] 0)).alloc (.map #[] 0)).alloc (.cells #[.map (some w.heap.size)] 119)) (.cells #[.map (some (w.heap.size + 1))] 119); rw [s1] at m2; rw [s2] at k7; rw [s3] at k8; rw [e0]; exact ⟨zah k7 (b1 _ _), k8, ((m1.below (b1 _ _)).below (b1 _ _)).below (b1 _ _), (m2.below (b1 _ _)).below (b1 _ _), by omega⟩
theorem zhW (A : Option Addr) (c : Nat) (rs : List zai) (w : World) (hG : GOK w) (hr : Kd.C k45 w A rs.length rs) (hF : zcc rs) :
 Calls Tryz.prog 72 #[.slice A rs.length c] w (zdM (zbz rs) w) := by
 have hn := hF.len; have HR := znl hr; have HG := znl hG; have HF := znl hF.fit; obtain ⟨T, hT⟩ : ∃ T, T = zbz rs := ⟨_, rfl⟩; rw [<- hT]; have HT := znl hT; clear hr hG hF hT; have hmm := @run_makeMap Tryz.prog; go_enter Tryz.func72, Tryz.ntmps72
 go_wp2_with fail; go_loopg [5, 6, 18] rs.length (fun gg _ _ s18 wr => ∃ kk : Nat, kk <= rs.length /\ rs.length - kk <= gg /\ s18 = .int .i64 kk /\ Aside0 ((rs.take kk).any (fun r => zbU r != 0) = false) /\ Aside0 (Below w.heap.size w wr))
 case atStart => exact ⟨0, zn8 _, by omega, rfl, ⟨rfl⟩, ⟨zno _ _⟩⟩
 case round =>
  obtain ⟨kk, hkk, hgk, rfl, HN, HW⟩ := hrel; obtain ⟨wq, rfl⟩ : ∃ wq, wq = wr := ⟨wr, rfl⟩; by_cases hlt : kk < rs.length
  . have hltz : (kk : Int) < (rs.length : Int) := by omega
    obtain ⟨b, o, B1, c1, B2, c2, B3, c3, B4, c4, rfl, p0, p1, p2, p3, p4, hA, hC⟩ := zcG HR.out kk hlt; replace p0 := zaf HW.out p0
    replace p1 := zaf HW.out p1
    replace p2 := zaf HW.out p2
    replace p3 := zaf HW.out p3
    replace p4 := zaf HW.out p4
    obtain ⟨hf, _, hf0, _⟩ := HF.out _ (zoy hlt); have hst := ze1 (fun r => zbU r != 0) rs kk hlt
    rw [HN.out, zoH] at hst; have hfd := zfM (fun r => zbU r != 0) rs kk hlt HN.out
    have HSt := znl hst; have HFd := znl hfd; generalize rs[kk] = x at p0 p1 p2 p3 p4 hA hC hf HSt HFd; have hb3 := (zno wq.heap.size wq).alloc (znp _) (.cells (zaq x B1 c1 B2 c2 B3 c3 B4 c4) 45); have HX3 := znl (zao wq (.cells (zaq x B1 c1 B2 c2 B3 c3 B4 c4) 45)); have HB3 := znl (zad HW.out HW.out.size hb3); have HRu := znl (zh8 x B1 c1 B2 c2 B3 c3 B4 c4 _ ((HG.out.below HW.out).below hb3) ((hA.below HW.out).below hb3) hC hf.steps hf.ins); clear hst hfd hA hC hf hf0 hb3; unfold zaq at HX3 HB3 HRu; go_upto_region 4 with fail; generalize wq.alloc (.cells #[.string x.f0, .slice B1 x.f1.length c1, .slice B2 x.f2.length c2, .slice B3 x.f3.length c3, .slice B4 x.f4.length c4] 45) = w3 at HX3 HB3 HRu |-; have x0 : w3.cell? ⟨wq.heap.size, 0, none⟩ = some (.string x.f0) := (zaa HX3.out 0).trans rfl; have x1 : w3.cell? ⟨wq.heap.size, 1, none⟩ = some (.slice B1 x.f1.length c1) := (zaa HX3.out 1).trans rfl; have x2 : w3.cell? ⟨wq.heap.size, 2, none⟩ = some (.slice B2 x.f2.length c2) := (zaa HX3.out 2).trans rfl; have x3 : w3.cell? ⟨wq.heap.size, 3, none⟩ = some (.slice B3 x.f3.length c3) := (zaa HX3.out 3).trans rfl; have x4 : w3.cell? ⟨wq.heap.size, 4, none⟩ = some (.slice B4 x.f4.length c4) := (zaa HX3.out 4).trans rfl; obtain ⟨v, hv⟩ : ∃ v, v = zbU x := ⟨_, rfl⟩; rw [<- hv] at HRu HSt HFd; have HVx := znl hv; clear hv; by_cases h0 : v = 0
    . have d0 : (v == 0) = true := by simp [h0]
      have d1 : (v != 0) = false := by simp [h0]
      have HN2 : Hid ((rs.take (kk + 1)).any (fun r => zbU r != 0) = false) := by show _ = _; rw [HSt.out, d1]
      clear h0; go_wp2_with (first | (go_at_call 46; refine HRu.out.mono ?_; rintro e w4 ⟨rfl, hb4⟩; have HB4 := znl (zad HB3.out HB3.out.size hb4); clear hb4))
      go_roundg (rs.length - (kk + 1))
      case measure => omega
      case rel => exact ⟨kk + 1, by omega, by omega, by first | rfl | go_num, ⟨HN2.out⟩, ⟨HB4.out⟩⟩
    . have d0 : (v == 0) = false := by simp [h0]
      have d1 : (v != 0) = true := by simp [h0]
      have HV : Hid (T = (v, x.f0)) := by
       show _ = _
       rw [HT.out]; unfold zbz; rw [HFd.out d1, HVx.out]
      clear h0; go_wp2_with (first | (go_at_call 46; refine HRu.out.mono ?_; rintro e w4 ⟨rfl, hb4⟩; have HB4 := znl (zad HB3.out HB3.out.size hb4); have y0 := zaf hb4 x0; clear hb4))
      go_quiet (fail)
      go_wp2_with fail; go_ret2
      exact ⟨by rw [HV.out]; rfl, by first | exact HB4.out | exact zap HB4.out _⟩
  . have hltz : ¬ (kk : Int) < (rs.length : Int) := by omega
    obtain rfl : kk = rs.length := by omega
    have hN := HN.out; rw [zn1] at hN; have hT := HT.out; unfold zbz at hT; rw [zfc _ _ hN] at hT; have HT2 : Hid (T = if 40 < rs.length then (4, ⟨#[]⟩) else whoV 2 (dupS rs [] []) (whoV 2 (zc1 rs) (0, ⟨#[]⟩))) := znl hT
    clear hN hT HT HN; by_cases h40 : 40 < rs.length
    . have d0 : decide ((40 : Int) < (rs.length : Int)) = true := by simp; omega
      have d1 : (40 : Int) < (rs.length : Int) := by omega
      have HV : Hid (T = (4, ⟨#[]⟩)) := by show _ = _; rw [HT2.out, if_pos h40]
      clear h40; go_wp2_with fail; go_ret2
      exact ⟨by rw [HV.out]; rfl, HW.out⟩
    . have d0 : decide ((40 : Int) < (rs.length : Int)) = false := by simp; omega
      have d1 : ¬ (40 : Int) < (rs.length : Int) := by omega
      have hT := HT2.out; rw [if_neg h40] at hT; clear h40; go_upto_region 11 with fail; have hPS := zjQ wq; have hB2 := (((HW.out.alloc HW.out.size (.map #[] 0)).alloc (by have := HW.out.size; simp; omega) (.map #[] 0)).alloc (by have := HW.out.size; simp; omega) (.cells #[.map (some wq.heap.size)] 119)).alloc (by have := HW.out.size; simp; omega) (.cells #[.map (some (wq.heap.size + 1))] 119)
      have HPS := znl hPS; have HB2 := znl hB2; have HM1 : Hid (w.heap.size <= wq.heap.size) := znl HW.out.size; have HM2 : Hid (w.heap.size <= wq.heap.size + 1) := znl (Nat.le_succ_of_le HW.out.size); clear hPS hB2; generalize (((wq.alloc (.map #[] 0)).alloc (.map #[] 0)).alloc (.cells #[.map (some wq.heap.size)] 119)).alloc (.cells #[.map (some (wq.heap.size + 1))] 119) = w2 at HPS HB2 |-; generalize wq.heap.size + 1 + 1 + 1 = K8 at HPS |-; generalize wq.heap.size + 1 + 1 = K7 at HPS |-; generalize wq.heap.size + 1 = m2 at HPS HM2 |-; generalize wq.heap.size = m1 at HPS HM1 |-; obtain ⟨D, hD⟩ : ∃ D, D = dupS rs [] [] := ⟨_, rfl⟩; rw [<- hD] at hT; have HT3 := znl hT; have HD := znl hD; clear hT hD HT2 HW; go_wp2_with fail; go_loopg [10, 11, 13, 37] rs.length (fun gg _ _ _ s37 wr => ∃ kk : Nat, kk <= rs.length /\ rs.length - kk <= gg /\ s37 = .int .i64 kk /\ Aside0 (PSt wr K7 K8 m1 m2 kk (kk * 1000) (zbi (nmK rs kk)) (zbi (otK rs kk))) /\ Aside0 (dupS (rs.drop kk) (nmK rs kk) (otK rs kk) = D) /\ Aside0 (Below w.heap.size w wr))
      case atStart => exact ⟨0, zn8 _, by omega, rfl, ⟨by rw [Nat.zero_mul]; exact HPS.out⟩, ⟨by rw [List.drop_zero]; exact HD.out.symm⟩, ⟨HB2.out⟩⟩
      case round =>
       obtain ⟨kk, hkk, hgk, rfl, HP, HDr, HW⟩ := hrel; obtain ⟨wz, rfl⟩ : ∃ wz, wz = wr := ⟨wr, rfl⟩; by_cases hlt : kk < rs.length
       . have hltz : (kk : Int) < (rs.length : Int) := by omega
         obtain ⟨b, o, B1, c1, B2, c2, B3, c3, B4, c4, rfl, p0, p1, p2, p3, p4, hA, hC⟩ := zcG HR.out kk hlt; replace p0 := zaf HW.out p0
         replace p1 := zaf HW.out p1
         replace p2 := zaf HW.out p2
         replace p3 := zaf HW.out p3
         replace p4 := zaf HW.out p4
         obtain ⟨hf, _, hf0, _⟩ := HF.out _ (zoy hlt); have hds := zmS rs (nmK rs kk) (otK rs kk) kk hlt; rw [HDr.out] at hds; have hsn := zjV rs kk hlt; have hso := ziI rs kk hlt; have HSn := znl hsn; have HSo := znl hso; have HDs := znl hds; have HF2 := znl hf.outsN; have HFl := znl hf.outs; have HF0 := znl hf0; generalize rs[kk] = x at p0 p1 p2 p3 p4 hA hC HF2 HFl HF0 HSn HSo HDs; have HB3 : Hid (Below w.heap.size w (wz.alloc (.cells (zaq x B1 c1 B2 c2 B3 c3 B4 c4) 45))) := znl (HW.out.alloc HW.out.size _); have hb3 := (zno wz.heap.size wz).alloc (znp _) (.cells (zaq x B1 c1 B2 c2 B3 c3 B4 c4) 45); have HX3 := znl (zao wz (.cells (zaq x B1 c1 B2 c2 B3 c3 B4 c4) 45)); have HP3 := znl (HP.out.below hb3); have HA := znl hA; clear hds hsn hso hA hC hf hf0 hb3 HP; unfold zaq at HX3 HB3 HP3; go_upto_region 14 with fail; generalize wz.alloc (.cells #[.string x.f0, .slice B1 x.f1.length c1, .slice B2 x.f2.length c2, .slice B3 x.f3.length c3, .slice B4 x.f4.length c4] 45) = w3 at HX3 HB3 HP3 |-; have x0 : w3.cell? ⟨wz.heap.size, 0, none⟩ = some (.string x.f0) := (zaa HX3.out 0).trans rfl; have x2 : w3.cell? ⟨wz.heap.size, 2, none⟩ = some (.slice B2 x.f2.length c2) := (zaa HX3.out 2).trans rfl; have y7 : w3.cell? ⟨K7, 0, none⟩ = some (.map (some m1)) := (zaa HP3.out.c7 0).trans rfl; have y8 : w3.cell? ⟨K8, 0, none⟩ = some (.map (some m2)) := (zaa HP3.out.c8 0).trans rfl; have hlk := HP3.out.e1.look x.f0 HF0.out; have HMd := znl (zj9 K8 m2 (kk * 1000) (zbi (otK rs kk)) B2 c2 x.f2 w3 y8 HP3.out.e2 (HA.out.below HB3.out).h2 HF2.out); have hDs := HDs.out; rw [zf7] at hlk; rw [zho (otK rs kk)] at HMd; generalize (nmK rs kk).contains x.f0.data.toList = q1 at hlk hDs; generalize (zac x.f2).any (fun o => (otK rs kk).contains o) = q2 at HMd hDs
         have HDs2 := znl hDs; clear hDs HDs; cases q1 with
         | true =>
          have HV : Hid (T = (2, x.f0)) := by show _ = _; rw [HT3.out, HDs2.out]; rfl
          go_wp2_with fail; go_quiet (fail)
          go_wp2_with fail; go_ret2
          exact ⟨by rw [HV.out]; rfl, by first | exact HB3.out | exact zap HB3.out _⟩
         | false =>
          cases q2 with
          | true =>
           have HV : Hid (T = (2, x.f0)) := by show _ = _; rw [HT3.out, HDs2.out]; rfl
           go_wp2_with (first | (go_at_call 56; refine HMd.out.mono ?_; rintro e w4 ⟨rfl, hb4⟩; have HB4 := znl (zad HB3.out HB3.out.size hb4); have z0 := zaf hb4 x0; clear hb4))
           go_quiet (fail)
           go_wp2_with fail; go_ret2
           exact ⟨by rw [HV.out]; rfl, by first | exact HB4.out | exact zap HB4.out _⟩
          | false =>
           have HDn : Hid (dupS (rs.drop (kk + 1)) (nmK rs (kk + 1)) (otK rs (kk + 1)) = D) := by
            show _ = _
            rw [HSn.out, HSo.out]; exact HDs2.out.symm
           go_upto_region 17 with (first | (go_at_call 56; refine HMd.out.mono ?_; rintro e w4 ⟨rfl, hb4⟩; have HB4 := znl (zad HB3.out HB3.out.size hb4); have HP4 := znl (HP3.out.below hb4); have HX4 := znl (zah HX3.out hb4); clear hb4))
           have z0 : w4.cell? ⟨wz.heap.size, 0, none⟩ = some (.string x.f0) := (zaa HX4.out 0).trans rfl; have z7 : w4.cell? ⟨K7, 0, none⟩ = some (.map (some m1)) := (zaa HP4.out.c7 0).trans rfl; obtain ⟨w5, hrun, hP5, hg5⟩ := HP4.out.put1 (by unfold maxLen; omega) x.f0 HF0.out
           have hX5 := zaK HX4.out hg5 (by intro e; injection e with e; exact HP4.out.e1.ne_cells HX4.out e.symm)
           have hB5 := HB4.out.grown hg5 HB4.out.size (fun k hk => by cases hk; exact HM1.out)
           have hadd : addS (zbi (nmK rs kk)) x.f0.data.toList = zbi (nmK rs (kk + 1)) := by rw [HSn.out]; exact (zei _ _ _).symm
           rw [hadd] at hP5; have HP5 := znl hP5; have HX5 := znl hX5; have HB5 := znl hB5; clear hP5 hg5 hX5 hB5 hadd x0 x2 y7 y8 hlk; go_upto_region 18 with fail; have u2 : w5.cell? ⟨wz.heap.size, 2, none⟩ = some (.slice B2 x.f2.length c2) := (zaa HX5.out 2).trans rfl; clear hrun; have hx2 := HFl.out; go_wp2_with fail; go_loopg [13, 60] x.f2.length (fun gg _ s60 wi => ∃ j : Nat, j <= x.f2.length /\ x.f2.length - j <= gg /\ s60 = .int .i64 j /\ Aside0 (PSt wi K7 K8 m1 m2 (kk + 1) (kk * 1000 + j) (zbi (nmK rs (kk + 1))) (zbi (otK rs kk ++ (zac x.f2).take j))) /\ Aside0 (Below w.heap.size w wi))
           case atStart => exact ⟨0, zn8 _, by omega, rfl, ⟨by rw [zoJ, zoq]; exact HP5.out⟩, ⟨HB5.out⟩⟩
           case round =>
            obtain ⟨j, hj, hgj, rfl, HPi, HWi⟩ := hrel; by_cases hlj : j < x.f2.length
            . have hljz : (j : Int) < (x.f2.length : Int) := by omega
              obtain ⟨b5, o5, rfl, n0⟩ := zbc (HA.out.below HWi.out).h2 j hlj; have v8 : wr.cell? ⟨K8, 0, none⟩ = some (.map (some m2)) := (zaa HPi.out.c8 0).trans rfl; obtain ⟨w6, hrun, hP6, hg6⟩ := HPi.out.put2 (by have h1 := HFl.out; unfold maxLen; omega) x.f2[j] (HF2.out _ (zoy hlj))
              have hB6 := HWi.out.grown hg6 HWi.out.size (fun k hk => by cases hk; exact HM2.out)
              have hadd : addS (zbi (otK rs kk ++ (zac x.f2).take j)) x.f2[j].data.toList = zbi (otK rs kk ++ (zac x.f2).take (j + 1)) := by
               rw [znO (by rw [zaZ]; exact hlj), zcD x.f2 j hlj, <- zoG]
               exact (zei _ _ _).symm
              rw [hadd] at hP6; have HP6 := znl hP6; have HB6 := znl hB6; generalize x.f2[j] = n at n0 hrun; clear hP6 hg6 hB6 hadd; go_wp2_with fail; go_roundg (x.f2.length - (j + 1))
              case measure => omega
              case rel => exact ⟨j + 1, by omega, by omega, by first | rfl | go_num, ⟨HP6.out⟩, ⟨HB6.out⟩⟩
            . have hljz : ¬ (j : Int) < (x.f2.length : Int) := by omega
              obtain rfl : j = x.f2.length := by omega
              have HPn : Hid (PSt wr K7 K8 m1 m2 (kk + 1) ((kk + 1) * 1000) (zbi (nmK rs (kk + 1))) (zbi (otK rs (kk + 1)))) := by
               have h := HPi.out; rw [zox (by rw [zaZ]; exact znp _), <- HSo.out] at h
               have hle : kk * 1000 + x.f2.length <= (kk + 1) * 1000 := by
                have h1 := HFl.out; have h2 : (kk + 1) * 1000 = kk * 1000 + 1000 := Nat.succ_mul kk 1000; omega
               exact ⟨h.c7, h.c8, h.e1, h.e2.mono hle, h.ne⟩
              go_wp2_with fail; go_roundg (rs.length - (kk + 1))
              case measure => omega
              case rel => exact ⟨kk + 1, by omega, by omega, by first | rfl | go_num, ⟨HPn.out⟩, ⟨HDn.out⟩, ⟨HWi.out⟩⟩
       . have hltz : ¬ (kk : Int) < (rs.length : Int) := by omega
         obtain rfl : kk = rs.length := by omega
         have hd := HDr.out; rw [List.drop_length] at hd; have hT := HT3.out; rw [<- hd] at hT; have HT4 : Hid (T = whoV 2 (zc1 rs) (0, ⟨#[]⟩)) := znl hT; have HPe : Hid (PSt wz K7 K8 m1 m2 rs.length (rs.length * 1000) (zbi (rs.map fun q => q.f0.data.toList)) (zbi (otK rs rs.length))) := by
          have h := HP.out; have e : nmK rs rs.length = rs.map fun q => q.f0.data.toList := by unfold nmK; rw [zn1]
          rw [e] at h; exact h
         have HWz : Hid (Below w.heap.size w wz) := znl HW.out; clear hd hT HP HDr HT3; go_wp2_with fail; go_loopg [15, 70] rs.length (fun gg _ s70 wr => ∃ jj : Nat, jj <= rs.length /\ rs.length - jj <= gg /\ s70 = .int .i64 jj /\ Aside0 ((rs.take jj).any (fun r => (zac r.f3).any fun a => !(rs.map fun q => q.f0.data.toList).contains a) = false) /\ Aside0 (Below wz.heap.size wz wr))
         case atStart => exact ⟨0, zn8 _, by omega, rfl, ⟨rfl⟩, ⟨zno _ _⟩⟩
         case round =>
          obtain ⟨jj, hjj, hgj, rfl, HN, HWr⟩ := hrel; obtain ⟨wy, rfl⟩ : ∃ wy, wy = wr := ⟨wr, rfl⟩; have HWw := znl (zad HWz.out HWz.out.size HWr.out); by_cases hlj : jj < rs.length
          . have hljz : (jj : Int) < (rs.length : Int) := by omega
            obtain ⟨b, o, B1, c1, B2, c2, B3, c3, B4, c4, rfl, p0, p1, p2, p3, p4, hA, hC⟩ := zcG HR.out jj hlj; replace p0 := zaf HWw.out p0
            replace p1 := zaf HWw.out p1
            replace p2 := zaf HWw.out p2
            replace p3 := zaf HWw.out p3
            replace p4 := zaf HWw.out p4
            obtain ⟨_, _, _, hf3⟩ := HF.out _ (zoy hlj); have hst := ze1 (fun r => (zac r.f3).any fun a => !(rs.map fun q => q.f0.data.toList).contains a) rs jj hlj
            rw [HN.out, zoH] at hst; have hfd := zfM (fun r => (zac r.f3).any fun a => !(rs.map fun q => q.f0.data.toList).contains a) rs jj hlj HN.out
            have hb3 := (zno wy.heap.size wy).alloc (znp _) (.cells (zaq rs[jj] B1 c1 B2 c2 B3 c3 B4 c4) 45); have HX3 := znl (zao wy (.cells (zaq rs[jj] B1 c1 B2 c2 B3 c3 B4 c4) 45)); have HB3 := znl (zad HWw.out HWw.out.size hb3); have HP3 := znl ((HPe.out.below HWr.out).below hb3); have HBz := znl (zad HWr.out HWr.out.size hb3); have hls := zki K7 m1 rs.length (zbi (rs.map fun q => q.f0.data.toList)) B3 c3 rs[jj].f3 _ ((zaa HP3.out.c7 0).trans rfl) HP3.out.e1 (hA.below HB3.out).h3 hf3
            rw [zho] at hls; have HLs := znl hls; have HSt := znl hst; have HFd := znl hfd; clear hst hfd hls hA hC hf3 hb3; generalize ((zac rs[jj].f3).any fun a => !(rs.map fun q => q.f0.data.toList).contains a) = q at HLs HSt HFd
            generalize rs[jj] = x at p0 p1 p2 p3 p4 HX3 HB3 HP3 HBz HLs HFd; unfold zaq at HX3 HB3 HP3 HBz HLs; go_upto_region 27 with fail; generalize wy.alloc (.cells #[.string x.f0, .slice B1 x.f1.length c1, .slice B2 x.f2.length c2, .slice B3 x.f3.length c3, .slice B4 x.f4.length c4] 45) = w3 at HX3 HB3 HP3 HBz HLs |-; have x0 : w3.cell? ⟨wy.heap.size, 0, none⟩ = some (.string x.f0) := (zaa HX3.out 0).trans rfl; have x3 : w3.cell? ⟨wy.heap.size, 3, none⟩ = some (.slice B3 x.f3.length c3) := (zaa HX3.out 3).trans rfl; cases q with
            | true =>
             have HV : Hid (T = (2, x.f0)) := by
              show _ = _
              rw [HT4.out]; unfold zc1; rw [HFd.out (by trivial)]
              rfl
             go_wp2_with (first | (go_at_call 56; refine HLs.out.mono ?_; rintro e w4 ⟨rfl, hb4⟩; have HB4 := znl (zad HB3.out HB3.out.size hb4); have z0 := zaf hb4 x0; clear hb4))
             go_quiet (fail)
             go_wp2_with fail; go_ret2
             exact ⟨by rw [HV.out]; rfl, by first | exact HB4.out | exact zap HB4.out _⟩
            | false =>
             go_wp2_with (first | (go_at_call 56; refine HLs.out.mono ?_; rintro e w4 ⟨rfl, hb4⟩; have HB4 := znl (zad HBz.out HBz.out.size hb4); clear hb4))
             go_roundg (rs.length - (jj + 1))
             case measure => omega
             case rel => exact ⟨jj + 1, by omega, by omega, by first | rfl | go_num, ⟨HSt.out⟩, ⟨HB4.out⟩⟩
          . have hljz : ¬ (jj : Int) < (rs.length : Int) := by omega
            obtain rfl : jj = rs.length := by omega
            have hN := HN.out; rw [zn1] at hN; have HV : Hid (T = (0, ⟨#[]⟩)) := by
             show _ = _
             rw [HT4.out]; unfold zc1; rw [zfc _ _ hN]; rfl
            clear hN; go_wp2_with fail; go_ret2
            exact ⟨by rw [HV.out]; rfl, HWw.out⟩

end Go.Proofs.YtdpgdnpddndeoaaGreatDoor.X
