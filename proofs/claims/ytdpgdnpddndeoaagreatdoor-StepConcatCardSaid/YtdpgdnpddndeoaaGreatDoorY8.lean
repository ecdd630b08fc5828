/-
  What the cards lean on (part Y8): contracts of functions, by hand, and plain laws; what is printed by the kit's print for this seat is among them. What is not reached is left out.
-/
import Derived.Maps.OwnSet
import Derived.Maps.RangeWalk
import Derived.Maps.StringElems
import Derived.WalkSpells
import Derived.Test.YtdpgdnpddndeoaaGreatDoorY7
import Derived.Test.YtdpgdnpddndeoaaGreatDoorY0
set_option maxHeartbeats 8000000
set_option maxRecDepth 100000
set_option linter.unusedSimpArgs false
set_option linter.unusedVariables false
open Go.RowKit.Below renaming refl -> zno
open Nat renaming le_refl -> znp, le_trans -> znv, mul_le_mul_right -> znH, mul_one -> zoB, zero_le -> zn8
open List renaming map_map -> znZ, eq_nil_of_length_eq_zero -> znr, getElem?_eq_getElem -> zns, getD_eq_getElem?_getD -> znt, length_map -> zn0, length_take -> znA, length_append -> znC, take_length -> zn1, take_succ_eq_append_getElem -> znO, drop_eq_nil_of_le -> zn7, mem_cons -> zow, take_of_length_le -> zox, length_replicate -> zoD, map_append -> zoc, getElem_mem -> zoy, mem_map -> zoE
open Option.some renaming inj -> znU
open Int renaming toNat_natCast -> zoC

namespace Go.Proofs.YtdpgdnpddndeoaaGreatDoor.X
open Go.RowKit Go.Maps Go.Proofs.YtdpgdnpddndeoaaGreatDoorW.PrintWords Go.Proofs.YtdpgdnpddndeoaaGreatDoorW.PrintMore Go.Proofs.YtdpgdnpddndeoaaGreatDoorW.PrintLast
abbrev SVal := S34
def valO (v : SVal) : VB := if v.f0 then some v.f1.data.toList else none
def valS (o : VB) : SVal := match o with
 | some b => ⟨true, mk b⟩
 | none => ⟨false, ⟨#[]⟩⟩
def aggV (v : SVal) : Value := .agg #[.bool v.f0, .string v.f1]
def zdY (v : SVal) (w : World) (e : Ending) (w' : World) : Prop := e = .returned (aggV v) /\ Below w.heap.size w w'
theorem zi5 (l : List SVal) (i : Nat) (h : i < l.length) : za4 l (i : Int) = l[i] := by
 unfold za4; rw [zoC, znt, zns h]; rfl
theorem zem {w : World} {ad : Addr} {v : Value} {n : Nat} (h : w.cell? (ad.add ((0 : Int).toNat * n)) = some v) : ∃ b o, ad = ⟨b, o, none⟩ := by
 rw [show (0 : Int).toNat * n = 0 by simp] at h
 obtain ⟨b, o, sp⟩ := ad; cases sp with
 | none => exact ⟨b, o, rfl⟩
 | some s =>
  exfalso
  unfold Addr.add at h; simp [World.cell?] at h
  split at h <;> simp at h
theorem zdd {w : World} {A : Option Addr} {l : List SVal} (h : Kd.C k34 w A l.length l) (i : Nat) (hi : i < l.length) :
 ∃ b o, A = some ⟨b, o, none⟩ /\ w.cell? ⟨b, o + i * 2, none⟩ = some (.bool l[i].f0) /\ w.cell? ⟨b, o + i * 2 + 1, none⟩ = some (.string l[i].f1) := by
 obtain ⟨ad, rfl, p0, p1⟩ := zex h (i : Int) (by omega) (by omega)
 rw [zi5 l i hi, zoC] at p0 p1; obtain ⟨ad0, had0, z0, _⟩ := zex h 0 (by omega) (by omega)
 cases had0
 obtain ⟨b, o, rfl⟩ := zem z0; have e : ((⟨b, o, none⟩ : Addr).add (i * 2)) = ⟨b, o + i * 2, none⟩ := by
  unfold Addr.add; split
  . rename_i h0; simp [h0]
  . rfl
 rw [e] at p0 p1; exact ⟨b, o, rfl, p0, p1⟩
theorem zm6 (x : zay) (B2 : Option Addr) (c2 : Nat) (B3 : Option Addr) (c3 : Nat) (A : Option Addr) (c : Nat) (bs : List ByteArray) (w : World) (hG : GOK w) (h3 : Kd.C Kd.string w B3 x.f3.length x.f3) (hr : Kd.C Kd.string w A bs.length bs) (hc : bs.length <= c)
 (hm : mayC (zal x) = true) (hn : bs.length = x.f2.length) (hsz : ∀ b ∈ bs, b.size <= 4194304) :
 Calls Tryz.prog 59 #[.agg #[.string x.f0, .int .i64 x.f1, .slice B2 x.f2.length c2, .slice B3 x.f3.length c3, .int .i64 x.f4], .slice A bs.length c] w (IsOf (zaP (zal x) (zac bs)) w) := by
 have h := (zb8 hm).1; have hop : x.f1 = 1 \/ x.f1 = 2 \/ x.f1 = 3 \/ x.f1 = 4 \/ x.f1 = 5 \/ x.f1 = 6 \/ x.f1 = 7 \/ x.f1 = 8 \/ x.f1 = 9 := by
  have e : (zal x).op = x.f1 := rfl; rw [e] at h; omega
 rcases hop with h1 | h1 | h1 | h1 | h1 | h1 | h1 | h1 | h1
 . exact zjE x B2 c2 B3 c3 A c bs w hG h3 hr hc hm hn hsz h1
 . exact zij x B2 c2 B3 c3 A c bs w hG h3 hr hc hm hn hsz h1
 . exact zlb x B2 c2 B3 c3 A c bs w hG h3 hr hc hm hn hsz h1
 . exact zj0 x B2 c2 B3 c3 A c bs w hG h3 hr hc hm hn hsz h1
 . exact ziL x B2 c2 B3 c3 A c bs w hG h3 hr hc hm hn hsz h1
 . exact zlz x B2 c2 B3 c3 A c bs w hG h3 hr hc hm hn hsz h1
 . exact zmq x B2 c2 B3 c3 A c bs w hG h3 hr hc hm hn hsz h1
 . exact zmk x B2 c2 B3 c3 A c bs w hG h3 hr hc hm hn hsz h1
 . exact zma x B2 c2 B3 c3 A c bs w hG h3 hr hc hm hn hsz h1
theorem zgZ : ∀ vs : List SVal, (vs.any fun v => !v.f0) = false -> ((vs.map valO).map fun o => o.getD []) = zac (vs.map (·.f1)) /\ ((vs.map valO).any fun o => o.isNone) = false
 | [], _ => ⟨rfl, rfl⟩
 | v :: r, h => by
  rw [List.any_cons, Bool.or_eq_false_iff] at h; obtain ⟨h1, h2⟩ := zgZ r h.2; have hv : valO v = some v.f1.data.toList := by unfold valO; rw [if_pos (by simpa using h.1)]
  unfold zac at *; simp only [List.map_cons, List.any_cons, hv, h1, h2]; exact ⟨rfl, rfl⟩
theorem zjM (x : zay) (B2 : Option Addr) (c2 : Nat) (B3 : Option Addr) (c3 : Nat) (A : Option Addr) (c : Nat) (vs : List SVal) (w : World) (hG : GOK w) (h2 : Kd.C Kd.string w B2 x.f2.length x.f2) (h3 : Kd.C Kd.string w B3 x.f3.length x.f3)
 (hr : Kd.C k34 w A vs.length vs) (hsz : (vs.any fun v => !v.f0) = false -> ∀ v ∈ vs, v.f1.size <= 4194304) :
 Calls Tryz.prog 25 #[.agg #[.string x.f0, .int .i64 x.f1, .slice B2 x.f2.length c2, .slice B3 x.f3.length c3, .int .i64 x.f4], .slice A vs.length c] w (zdY (valS (doP (zal x) (vs.map valO))) w) := by
 have hlen : vs.length <= 9223372036854775807 := hr.2.1; have hl2 : x.f2.length <= 9223372036854775807 := h2.2.1; obtain ⟨T, hT⟩ : ∃ T, T = doP (zal x) (vs.map valO) := ⟨_, rfl⟩; rw [<- hT]; unfold doP zes at hT; rw [zn0] at hT; have HT := znl hT; have hW : Below w.heap.size w ((w.alloc (.cells #[.string x.f0, .int .i64 x.f1, .slice B2 x.f2.length c2, .slice B3 x.f3.length c3, .int .i64 x.f4] 24)).alloc (.cells #[.bool false, .string ⟨#[]⟩] 34)) :=
  ((zno w.heap.size w).alloc (znp _) _).alloc (by simp) _
 have HK := znl (zah (zao w (.cells #[.string x.f0, .int .i64 x.f1, .slice B2 x.f2.length c2, .slice B3 x.f3.length c3, .int .i64 x.f4] 24)) ((zno _ _).alloc (znp _) (.cells #[.bool false, .string ⟨#[]⟩] 34))); have HZ := znl (zao (w.alloc (.cells #[.string x.f0, .int .i64 x.f1, .slice B2 x.f2.length c2, .slice B3 x.f3.length c3, .int .i64 x.f4] 24)) (.cells #[.bool false, .string ⟨#[]⟩] 34)); have hn1 : (w.alloc (.cells #[.string x.f0, .int .i64 x.f1, .slice B2 x.f2.length c2, .slice B3 x.f3.length c3, .int .i64 x.f4] 24)).heap.size = w.heap.size + 1 := by simp
 rw [hn1] at HZ; have HB := znl hW; have H2 := znl (Kd.C_below h2 hW); have H3 := znl (Kd.C_below h3 hW); have HR := znl (Kd.C_below hr hW); have HG := znl (hG.below hW); have HS := znl hsz; have HLs := znl hlen; clear hT hW h2 h3 hr hG hsz hn1; go_enter Tryz.func25, Tryz.ntmps25
 go_upto_if 20 with fail; generalize (w.alloc (.cells #[.string x.f0, .int .i64 x.f1, .slice B2 x.f2.length c2, .slice B3 x.f3.length c3, .int .i64 x.f4] 24)).alloc (.cells #[.bool false, .string ⟨#[]⟩] 34) = w1 at HB HK HZ H2 H3 HR HG |-; have hM := zfK x B2 c2 B3 c3 w1 H2.out H3.out; have j0 : w1.cell? ⟨w.heap.size, 0, none⟩ = some (.string x.f0) := (zaa HK.out 0).trans rfl; have j1 : w1.cell? ⟨w.heap.size, 1, none⟩ = some (.int .i64 x.f1) := (zaa HK.out 1).trans rfl; have j2 : w1.cell? ⟨w.heap.size, 2, none⟩ = some (.slice B2 x.f2.length c2) := (zaa HK.out 2).trans rfl; have j3 : w1.cell? ⟨w.heap.size, 3, none⟩ = some (.slice B3 x.f3.length c3) := (zaa HK.out 3).trans rfl; have j4 : w1.cell? ⟨w.heap.size, 4, none⟩ = some (.int .i64 x.f4) := (zaa HK.out 4).trans rfl; have hT := HT.out; cases hm : mayC (zal x) with
 | false =>
  rw [if_pos (.inl hm)] at hT; rw [hm] at hM; have HV : Hid (valS T = ⟨false, ⟨#[]⟩⟩) := by show _ = _; rw [hT]; rfl
  have HM := znl hM; clear hT HT hM hm; go_wp2_with (first | (go_at_call 20; refine HM.out.mono ?_; rintro e w2 ⟨rfl, hb2⟩; have HB2 := znl (zad HB.out HB.out.size hb2); have HZ2 := znl (zah HZ.out hb2); have z0 : w2.cell? ⟨w.heap.size + 1, 0, none⟩ = some (.bool false) := (zaa HZ2.out 0).trans rfl; have z1 : w2.cell? ⟨w.heap.size + 1, 1, none⟩ = some (.string ⟨#[]⟩) := (zaa HZ2.out 1).trans rfl; have y0 := zag HZ2.out 0; have y1 := zag HZ2.out 1; clear hb2))
  have hs := zcl (.bool false) (.string ⟨#[]⟩) HZ2.out; have hB := (HB2.out.setCell (p := ⟨w.heap.size + 1, 0, none⟩) (by show w.heap.size <= w.heap.size + 1; omega) (.bool false)).setCell (p := ⟨w.heap.size + 1, 1, none⟩) (by show w.heap.size <= w.heap.size + 1; omega) (.string ⟨#[]⟩)
  generalize (w2.setCell ⟨w.heap.size + 1, 0, none⟩ (.bool false)).setCell ⟨w.heap.size + 1, 1, none⟩ (.string ⟨#[]⟩) = w5 at hs hB |-; have g0 := (zaa hs 0).trans rfl; have g1 := (zaa hs 1).trans rfl; exact bodyPost_ret (v := .agg #[.bool false, .string ⟨#[]⟩]) (by simp [results, Tryz.results25, go_sem, g0, g1]) rfl ⟨by rw [HV.out]; rfl, hB⟩
 | true =>
  rw [hm] at hM; have HM := znl hM; have HMy := znl hm; clear hT hM hm; by_cases hn : vs.length = x.f2.length
  . have d0 : ((vs.length : Int) != (x.f2.length : Int)) = false := by simp [hn]
    have HN := znl hn; have HAL : Hid (vs.length <= 6) := by
     show _ <= _
     obtain ⟨g1, g2, g3, _⟩ := zb8 HMy.out; have ha : (zal x).args = vs.length := hn.symm; rw [ha] at g2 g3; by_cases h5 : (zal x).op = 5
     . exact g3 h5
     . by_cases h6 : (zal x).op = 6
       . obtain ⟨_, _, _, g4, _⟩ := zb8 HMy.out
         have := (g4 h6).1; rw [ha] at this; omega
       . have := g2 h5 h6
         omega
    clear hn; go_wp2_with (first | (go_at_call 20; refine HM.out.mono ?_; rintro e w2 ⟨rfl, hb2⟩; have HB2 := znl (zad HB.out HB.out.size hb2); have HK2 := znl (zah HK.out hb2); have HZ2 := znl (zah HZ.out hb2); have i2 : w2.cell? ⟨w.heap.size, 2, none⟩ = some (.slice B2 x.f2.length c2) := (zaa HK2.out 2).trans rfl; have HR2 := znl (Kd.C_below HR.out hb2); have H22 := znl (Kd.C_below H2.out hb2); have H32 := znl (Kd.C_below H3.out hb2); have HG2 := znl (HG.out.below hb2); clear hb2))
    go_loopg [5, 7, 24] vs.length (fun gg s5 _ s24 wr => ∃ kk : Nat, kk <= vs.length /\ vs.length - kk <= gg /\ s24 = .int .i64 kk /\ Aside0 (RS wr w2.heap.size s5 ((vs.take kk).map (·.f1))) /\ Aside0 (((vs.take kk).any fun v => !v.f0) = false) /\ Aside0 (Below w2.heap.size w2 wr))
    case atStart => exact ⟨0, zn8 _, by omega, rfl, ⟨Kd.R_nil _ _ _ _ _⟩, ⟨rfl⟩, ⟨zno _ _⟩⟩
    case round =>
     obtain ⟨kk, hkk, hgk, rfl, HO, HA, HW⟩ := hrel; by_cases hlt : kk < vs.length
     . have hltz : (kk : Int) < (vs.length : Int) := by omega
       obtain ⟨b, o, rfl, p0, p1⟩ := zdd (Kd.C_below HR2.out HW.out) kk hlt; have hal : vs.length <= 6 := HAL.out; have hml : ((vs.take kk).map (·.f1)).length = kk := by rw [zn0, znA]; omega
       have HML := znl hml; have HSucc : Hid ((vs.take (kk + 1)).map (·.f1) = (vs.take kk).map (·.f1) ++ [vs[kk].f1]) := by show _ = _; rw [znO hlt, zoc]; rfl
       have HAny : Hid (((vs.take (kk + 1)).any fun v => !v.f0) = (((vs.take kk).any fun v => !v.f0) || !vs[kk].f0)) := by show _ = _; rw [znO hlt, List.any_append]; simp
       have HMem : Hid (vs[kk] ∈ vs) := zoy hlt; generalize vs[kk] = y at p0 p1 HSucc HAny HMem; clear hml; have hwn : Below w2.heap.size w2 (wr.alloc (.cells #[.bool y.f0, .string y.f1] 34)) := HW.out.alloc HW.out.size _; have HWn := znl hwn; have HOn := znl (Kd.R_below HO.out ((zno _ wr).alloc (znp _) (.cells #[.bool y.f0, .string y.f1] 34))); have HYn := znl (zao wr (.cells #[.bool y.f0, .string y.f1] 34)); clear hwn; go_upto_region 7 with fail; generalize hgn : wr.alloc (.cells #[.bool y.f0, .string y.f1] 34) = w3 at HWn HOn HYn |-; have q0 : w3.cell? ⟨wr.heap.size, 0, none⟩ = some (.bool y.f0) := (zaa HYn.out 0).trans rfl; have q1 : w3.cell? ⟨wr.heap.size, 1, none⟩ = some (.string y.f1) := (zaa HYn.out 1).trans rfl; clear hgn; cases hok : y.f0 with
       | false =>
        rw [hok] at q0; have HV : Hid (valS T = ⟨false, ⟨#[]⟩⟩) := by
         have hany : ((vs.map valO).any fun x => x.isNone) = true := by
          rw [List.any_map]; refine List.any_eq_true.2 ⟨y, HMem.out, ?_⟩; show (valO y).isNone = true
          unfold valO; rw [hok]; rfl
         show _ = _
         rw [HT.out, if_pos (.inr (.inr hany))]; rfl
        have HZ3 := znl (zah HZ2.out HWn.out); have z0 : w3.cell? ⟨w.heap.size + 1, 0, none⟩ = some (.bool false) := (zaa HZ3.out 0).trans rfl; have z1 : w3.cell? ⟨w.heap.size + 1, 1, none⟩ = some (.string ⟨#[]⟩) := (zaa HZ3.out 1).trans rfl; have y0 := zag HZ3.out 0; have y1 := zag HZ3.out 1; have HB3 := znl (zad HB2.out HB2.out.size HWn.out); clear hok; go_wp2_with fail; have hs := zcl (.bool false) (.string ⟨#[]⟩) HZ3.out; have hB := (HB3.out.setCell (p := ⟨w.heap.size + 1, 0, none⟩) (by show w.heap.size <= w.heap.size + 1; omega) (.bool false)).setCell (p := ⟨w.heap.size + 1, 1, none⟩) (by show w.heap.size <= w.heap.size + 1; omega) (.string ⟨#[]⟩)
        generalize (w3.setCell ⟨w.heap.size + 1, 0, none⟩ (.bool false)).setCell ⟨w.heap.size + 1, 1, none⟩ (.string ⟨#[]⟩) = w5 at hs hB |-; have g0 := (zaa hs 0).trans rfl; have g1 := (zaa hs 1).trans rfl; exact bodyPost_ret (v := .agg #[.bool false, .string ⟨#[]⟩]) (by simp [results, Tryz.results25, go_sem, g0, g1]) rfl ⟨by rw [HV.out]; rfl, hB⟩
       | true =>
        rw [hok] at q0; have HA2 : Hid (((vs.take (kk + 1)).any fun v => !v.f0) = false) := by show _ = _; rw [HAny.out, HA.out, hok]; rfl
        clear hok; go_wp2_with (first | ((with_reducible refine zaM (b := .append) (xs := #[.tmp 32, .tmp 35]) rfl ?_); at_builtin; refine Kd.R_append Kd.string (w0 := w2) w2.heap.size rfl (.tmp 32) (.tmp 35) 22 9 (.string ⟨#[]⟩) 16 rfl Tryz.underlying22 zcg rfl (by decide) (by decide) u5 ((vs.take kk).map (·.f1)) y.f1 [.string y.f1] (fun _ => True) (fun k_ => True /\ some k_ ≠ u5.ownBlock) rfl rfl rfl (fun _ hk => hk) (fun _ _ => trivial) HOn.out HWn.out HWn.out.size ?aL ?_; (case aL => (have h1 := HML.out; omega)); intro v1 w4 ho hb hg hat; have HO4 : Hid (RS w4 w2.heap.size v1 ((vs.take (kk + 1)).map (·.f1))) := (by show RS _ _ _ _; rw [HSucc.out]; exact ho); have HB4 := znl hb; clear ho hb hg hat))
        go_roundg (vs.length - (kk + 1))
        case measure => omega
        case rel => exact ⟨kk + 1, by omega, by omega, by first | rfl | go_num, ⟨HO4.out⟩, ⟨HA2.out⟩, ⟨HB4.out⟩⟩
     . have hltz : ¬ (kk : Int) < (vs.length : Int) := by omega
       obtain rfl : kk = vs.length := by omega
       have hO := HO.out; have hA := HA.out; rw [zn1] at hO hA; obtain ⟨A5, n5, rfl, hc5, hC5⟩ := Kd.R_reads hO; have hlm : (vs.map (·.f1)).length = vs.length := zn0 ..; rw [hlm] at hc5; obtain ⟨hvn, hva⟩ := zgZ vs hA; have hOf := zm6 x B2 c2 B3 c3 A5 n5 (vs.map (·.f1)) wr (HG2.out.below HW.out) (Kd.C_below H32.out HW.out) hC5 (by rw [hlm]; exact hc5) HMy.out (by rw [hlm]; exact HN.out) (fun b hb => by
        obtain ⟨v, hv, rfl⟩ := zoE.1 hb; exact HS.out hA v hv)
       have hT := HT.out; rw [if_neg (by
        rintro (h | h | h)
        . rw [HMy.out] at h; cases h
        . exact h HN.out
        . rw [hva] at h; cases h)] at hT
       have hvn2 : (vs.map valO).map (·.getD []) = zac (vs.map (·.f1)) := hvn; rw [hvn2] at hT; rw [hlm] at hOf; generalize zaP (zal x) (zac (vs.map (·.f1))) = m at hOf hT; obtain ⟨t, ok⟩ := m; unfold IsOf at hOf; dsimp only at hT hOf; have ht : (mk t).size = t.length := za6 t; have HOf := znl hOf; have HTt := znl hT; have HKr := znl (zah HK2.out HW.out); have HZr := znl (zah HZ2.out HW.out); have HBr := znl (zad HB2.out HB2.out.size HW.out); have r0 : wr.cell? ⟨w.heap.size, 0, none⟩ = some (.string x.f0) := (zaa HKr.out 0).trans rfl; have r1 : wr.cell? ⟨w.heap.size, 1, none⟩ = some (.int .i64 x.f1) := (zaa HKr.out 1).trans rfl; have r2 : wr.cell? ⟨w.heap.size, 2, none⟩ = some (.slice B2 x.f2.length c2) := (zaa HKr.out 2).trans rfl; have r3 : wr.cell? ⟨w.heap.size, 3, none⟩ = some (.slice B3 x.f3.length c3) := (zaa HKr.out 3).trans rfl; have r4 : wr.cell? ⟨w.heap.size, 4, none⟩ = some (.int .i64 x.f4) := (zaa HKr.out 4).trans rfl; clear hO hA hC5 hvn hva hvn2 hOf hT hlm hc5; cases ok with
       | false =>
        have HV : Hid (valS T = ⟨false, ⟨#[]⟩⟩) := by show _ = _; rw [HTt.out, if_pos (.inl rfl)]; rfl
        clear ht; go_wp2_with (first | (go_at_call 59; refine HOf.out.mono ?_; rintro e w7 ⟨rfl, hb7⟩; have HB7 := znl (zad HBr.out HBr.out.size hb7); have HZ7 := znl (zah HZr.out hb7); have z0 : w7.cell? ⟨w.heap.size + 1, 0, none⟩ = some (.bool false) := (zaa HZ7.out 0).trans rfl; have z1 : w7.cell? ⟨w.heap.size + 1, 1, none⟩ = some (.string ⟨#[]⟩) := (zaa HZ7.out 1).trans rfl; have y0 := zag HZ7.out 0; have y1 := zag HZ7.out 1; clear hb7))
        have hs := zcl (.bool false) (.string ⟨#[]⟩) HZ7.out; have hB := (HB7.out.setCell (p := ⟨w.heap.size + 1, 0, none⟩) (by show w.heap.size <= w.heap.size + 1; omega) (.bool false)).setCell (p := ⟨w.heap.size + 1, 1, none⟩) (by show w.heap.size <= w.heap.size + 1; omega) (.string ⟨#[]⟩)
        generalize (w7.setCell ⟨w.heap.size + 1, 0, none⟩ (.bool false)).setCell ⟨w.heap.size + 1, 1, none⟩ (.string ⟨#[]⟩) = w5 at hs hB |-; have g0 := (zaa hs 0).trans rfl; have g1 := (zaa hs 1).trans rfl; exact bodyPost_ret (v := .agg #[.bool false, .string ⟨#[]⟩]) (by simp [results, Tryz.results25, go_sem, g0, g1]) rfl ⟨by rw [HV.out]; rfl, hB⟩
       | true =>
        by_cases hlong : 2000 < t.length
        . have HV : Hid (valS T = ⟨false, ⟨#[]⟩⟩) := by show _ = _; rw [HTt.out, if_pos (.inr hlong)]; rfl
          have hd : decide ((2000 : Int) < ((mk t).size : Int)) = true := by rw [ht]; simp; omega
          have hd2 : (2000 : Int) < ((mk t).size : Int) := by rw [ht]; omega
          clear ht hlong; go_wp2_with (first | (go_at_call 59; refine HOf.out.mono ?_; rintro e w7 ⟨rfl, hb7⟩; have HB7 := znl (zad HBr.out HBr.out.size hb7); have HZ7 := znl (zah HZr.out hb7); have z0 : w7.cell? ⟨w.heap.size + 1, 0, none⟩ = some (.bool false) := (zaa HZ7.out 0).trans rfl; have z1 : w7.cell? ⟨w.heap.size + 1, 1, none⟩ = some (.string ⟨#[]⟩) := (zaa HZ7.out 1).trans rfl; have y0 := zag HZ7.out 0; have y1 := zag HZ7.out 1; clear hb7))
          have hs := zcl (.bool false) (.string ⟨#[]⟩) HZ7.out; have hB := (HB7.out.setCell (p := ⟨w.heap.size + 1, 0, none⟩) (by show w.heap.size <= w.heap.size + 1; omega) (.bool false)).setCell (p := ⟨w.heap.size + 1, 1, none⟩) (by show w.heap.size <= w.heap.size + 1; omega) (.string ⟨#[]⟩)
          generalize (w7.setCell ⟨w.heap.size + 1, 0, none⟩ (.bool false)).setCell ⟨w.heap.size + 1, 1, none⟩ (.string ⟨#[]⟩) = w5 at hs hB |-; have g0 := (zaa hs 0).trans rfl; have g1 := (zaa hs 1).trans rfl; exact bodyPost_ret (v := .agg #[.bool false, .string ⟨#[]⟩]) (by simp [results, Tryz.results25, go_sem, g0, g1]) rfl ⟨by rw [HV.out]; rfl, hB⟩
        . have HV : Hid (valS T = ⟨true, mk t⟩) := by
           show _ = _
           rw [HTt.out, if_neg (by rintro (h | h); cases h; exact hlong h)]
           rfl
          have hd : decide ((2000 : Int) < ((mk t).size : Int)) = false := by rw [ht]; simp; omega
          have hd2 : ¬ (2000 : Int) < ((mk t).size : Int) := by rw [ht]; omega
          have hd3 : ¬ 2000 < (mk t).size := by rw [ht]; exact hlong
          have hd4 : decide (2000 < (mk t).size) = false := by simp [hd3]
          clear ht hlong; generalize mk t = tt at HOf HV hd hd2 hd3 hd4; go_wp2_with (first | (go_at_call 59; refine HOf.out.mono ?_; rintro e w7 ⟨rfl, hb7⟩; have HB7 := znl (zad HBr.out HBr.out.size hb7); have HZ7 := znl (zah HZr.out hb7); have z0 : w7.cell? ⟨w.heap.size + 1, 0, none⟩ = some (.bool false) := (zaa HZ7.out 0).trans rfl; have z1 : w7.cell? ⟨w.heap.size + 1, 1, none⟩ = some (.string ⟨#[]⟩) := (zaa HZ7.out 1).trans rfl; have y0 := zag HZ7.out 0; have y1 := zag HZ7.out 1; clear hb7))
          have hs := zcl (.bool true) (.string tt) HZ7.out; have hB := (HB7.out.setCell (p := ⟨w.heap.size + 1, 0, none⟩) (by show w.heap.size <= w.heap.size + 1; omega) (.bool true)).setCell (p := ⟨w.heap.size + 1, 1, none⟩) (by show w.heap.size <= w.heap.size + 1; omega) (.string tt)
          generalize (w7.setCell ⟨w.heap.size + 1, 0, none⟩ (.bool true)).setCell ⟨w.heap.size + 1, 1, none⟩ (.string tt) = w5 at hs hB |-; have g0 := (zaa hs 0).trans rfl; have g1 := (zaa hs 1).trans rfl; exact bodyPost_ret (v := .agg #[.bool true, .string tt]) (by simp [results, Tryz.results25, go_sem, g0, g1]) rfl ⟨by rw [HV.out]; rfl, hB⟩
  . have d0 : ((vs.length : Int) != (x.f2.length : Int)) = true := by simp; omega
    have HV : Hid (valS T = ⟨false, ⟨#[]⟩⟩) := by show _ = _; rw [HT.out, if_pos (.inr (.inl hn))]; rfl
    clear hn; go_wp2_with (first | (go_at_call 20; refine HM.out.mono ?_; rintro e w2 ⟨rfl, hb2⟩; have HB2 := znl (zad HB.out HB.out.size hb2); have HK2 := znl (zah HK.out hb2); have i2 : w2.cell? ⟨w.heap.size, 2, none⟩ = some (.slice B2 x.f2.length c2) := (zaa HK2.out 2).trans rfl; have HZ2 := znl (zah HZ.out hb2); have z0 : w2.cell? ⟨w.heap.size + 1, 0, none⟩ = some (.bool false) := (zaa HZ2.out 0).trans rfl; have z1 : w2.cell? ⟨w.heap.size + 1, 1, none⟩ = some (.string ⟨#[]⟩) := (zaa HZ2.out 1).trans rfl; have y0 := zag HZ2.out 0; have y1 := zag HZ2.out 1; clear hb2))
    have hs := zcl (.bool false) (.string ⟨#[]⟩) HZ2.out; have hB := (HB2.out.setCell (p := ⟨w.heap.size + 1, 0, none⟩) (by show w.heap.size <= w.heap.size + 1; omega) (.bool false)).setCell (p := ⟨w.heap.size + 1, 1, none⟩) (by show w.heap.size <= w.heap.size + 1; omega) (.string ⟨#[]⟩)
    generalize (w2.setCell ⟨w.heap.size + 1, 0, none⟩ (.bool false)).setCell ⟨w.heap.size + 1, 1, none⟩ (.string ⟨#[]⟩) = w5 at hs hB |-; have g0 := (zaa hs 0).trans rfl; have g1 := (zaa hs 1).trans rfl; exact bodyPost_ret (v := .agg #[.bool false, .string ⟨#[]⟩]) (by simp [results, Tryz.results25, go_sem, g0, g1]) rfl ⟨by rw [HV.out]; rfl, hB⟩
theorem zeM (x : zay) (B2 : Option Addr) (c2 : Nat) (B3 : Option Addr) (c3 : Nat) (A : Option Addr) (c : Nat) (vs : List SVal) (w : World) (hG : GOK w) (h2 : Kd.C Kd.string w B2 x.f2.length x.f2) (h3 : Kd.C Kd.string w B3 x.f3.length x.f3)
 (hr : Kd.C k34 w A vs.length vs) (hsz : ∀ v ∈ vs, v.f1.size <= 4194304) :
 Calls Tryz.prog 25 #[.agg #[.string x.f0, .int .i64 x.f1, .slice B2 x.f2.length c2, .slice B3 x.f3.length c3, .int .i64 x.f4], .slice A vs.length c] w (zdY (valS (doP (zal x) (vs.map valO))) w) :=
 zjM x B2 c2 B3 c3 A c vs w hG h2 h3 hr (fun _ => hsz)

end Go.Proofs.YtdpgdnpddndeoaaGreatDoor.X

namespace Go.Proofs.YtdpgdnpddndeoaaGreatDoor.X
open Go.RowKit Go.Maps
def valM (v : Value) : Option (DataW Value × List MemPlace) := some (.held v, [])
def zec (D : DataW Value) (f : zab -> Option Value) : Prop := (∀ k, Maps.has D (.string k) = (f k).isSome) /\ ∀ k z, D.atKey (.string k) z = match f k with | some v => .held v | none => z
def MapIs (P : Program) (kt : TypeId) (w : World) (b n : Nat) (f : zab -> Option Value) : Prop := ∃ D, w.ownsMap P kt valM b n D /\ zec D f
def setF (f : zab -> Option Value) (k : zab) (v : Value) : zab -> Option Value := fun x => if x = k then some v else f x

section
variable {P : Program} {kt et t : TypeId} {w : World} {b n : Nat} {f : zab -> Option Value}
theorem MapIs.lt (h : MapIs P kt w b n f) : b < w.heap.size := by obtain ⟨D, ho, _⟩ := h; exact ho.lt
theorem MapIs.made (w : World) : MapIs P kt (w.alloc (.map #[] 0)) w.heap.size 0 (fun _ => none) := ⟨.map [], World.ownsMap_made w P kt valM, fun _ => rfl, fun _ _ => rfl⟩
theorem MapIs.mono (h : MapIs P kt w b n f) {n' : Nat} (hn : n <= n') : MapIs P kt w b n' f := by obtain ⟨D, ho, hf⟩ := h; exact ⟨D, ho.mono hn, hf⟩
theorem MapIs.kept {w' : World} (h : MapIs P kt w b n f) (hb : w'.heap[b]? = w.heap[b]?) : MapIs P kt w' b n f := by
 obtain ⟨D, ⟨es, clock, h1, r⟩, hf⟩ := h; exact ⟨D, ⟨es, clock, hb.trans h1, r⟩, hf⟩
theorem MapIs.below {w' : World} (h : MapIs P kt w b n f) (hb : Below w.heap.size w w') : MapIs P kt w' b n f := h.kept (hb.block b h.lt)
theorem MapIs.grown {w' : World} {row : Option Nat} (h : MapIs P kt w b n f) (hg : w.grownBy w' row) (hne : some b ≠ row) : MapIs P kt w' b n f := h.kept (hg.block b h.lt hne)
theorem MapIs.look2 (h : MapIs P kt w b n f) (hk : P.underlying kt = some .string) (ht : P.underlying t = some (.map kt et)) {z : Value} (hz : (zeroValue et).run P w = .ok z w) (k : ByteArray) (hs : k.size <= maxLen) :
 (Instr.lookup t (.map (some b)) (.string k) true).run P w = .ok (.tuple #[(f k.data.toList).getD z, .bool (f k.data.toList).isSome]) w := by
 obtain ⟨D, ho, h1, h2⟩ := h; obtain ⟨v, ps, hrun, hv⟩ := ho.look_ok (string_keyed hk) ht hz (R := valM) (zd := .held z) rfl (Go.WideMaps.keyOf_string_mk hk hs); rw [h1] at hrun; rw [h2] at hv; have : v = (f k.data.toList).getD z := by
  unfold valM at hv; have h0 := (Prod.mk.inj (znU hv)).1; cases hf : f k.data.toList with
  | none => rw [hf] at h0; simp only [DataW.held.injEq] at h0; exact h0
  | some u => rw [hf] at h0; simp only [DataW.held.injEq] at h0; exact h0
 rw [hrun, this]
theorem MapIs.look (h : MapIs P kt w b n f) (hk : P.underlying kt = some .string) (ht : P.underlying t = some (.map kt et)) {z : Value} (hz : (zeroValue et).run P w = .ok z w) (k : ByteArray) (hs : k.size <= maxLen) :
 (Instr.lookup t (.map (some b)) (.string k) false).run P w = .ok ((f k.data.toList).getD z) w := by
 obtain ⟨D, ho, h1, h2⟩ := h; obtain ⟨v, ps, hrun, hv⟩ := ho.lookup (string_keyed hk) ht hz (R := valM) (zd := .held z) rfl (Go.WideMaps.keyOf_string_mk hk hs); rw [h2] at hv; have : v = (f k.data.toList).getD z := by
  unfold valM at hv; have h0 := (Prod.mk.inj (znU hv)).1; cases hf : f k.data.toList with
  | none => rw [hf] at h0; simp only [DataW.held.injEq] at h0; exact h0
  | some u => rw [hf] at h0; simp only [DataW.held.injEq] at h0; exact h0
 rw [hrun, this]
theorem zlc {D : DataW Value} (hD : IsMap D) (h : zec D f) (k : zab) (v : Value) : zec (D.put (.string k) (.held v)) (setF f k v) := by
 obtain ⟨h1, h2⟩ := h; have hkl : WideAt.IsKeyLit (.string k) := by constructor
 refine ⟨fun x => ?_, fun x z => ?_⟩
 . unfold setF
   by_cases e : x = k
   . subst e
     rw [if_pos rfl, has_put_same hD hkl]; rfl
   . rw [if_neg e, has_put_other (by intro h; exact e (by injection h)), h1]
 . unfold setF
   by_cases e : x = k
   . subst e
     rw [if_pos rfl, atKey_put_same hD hkl]
   . rw [if_neg e, atKey_put_other (by intro h; exact e (by injection h)), h2]
theorem MapIs.store (h : MapIs P kt w b n f) (hk : P.underlying kt = some .string) (ht : P.underlying t = some (.map kt et)) (hn : n < maxLen) (k : ByteArray) (hs : k.size <= maxLen) (v : Value) :
 ∃ w', (Instr.mapUpdate t (.map (some b)) (.string k) v).run P w = .ok () w' /\ MapIs P kt w' b (n + 1) (setF f k.data.toList v) /\ w.grownBy w' (some b) := by
 obtain ⟨D, ho, hf⟩ := h; obtain ⟨w', hrun, ho', ht'⟩ := ho.store (string_keyed hk) ht hn (Go.WideMaps.keyOf_string_mk hk hs) (R := valM) (val := v) rfl; exact ⟨w', hrun, ⟨_, ho', zlc ho.isMap hf _ _⟩, ht'.grown⟩
def RangesIs (P : Program) (kt : TypeId) (w : World) (b r n : Nat) (f : zab -> Option Value) (left : zab -> Bool) (cnt : Nat) : Prop :=
 ∃ D lf, w.ranges P kt valM b r n D lf cnt /\ zec D f /\ ∀ k, lf (.string k) = left k
theorem RangesIs.map {r cnt : Nat} {left : zab -> Bool} (h : RangesIs P kt w b r n f left cnt) : MapIs P kt w b n f := by
 obtain ⟨D, lf, h1, h2, _⟩ := h; exact ⟨D, h1.owns, h2⟩
theorem RangesIs.kept {w' : World} {row : Option Nat} {r cnt : Nat} {left : zab -> Bool} (h : RangesIs P kt w b r n f left cnt) (hg : w.grownBy w' row) (hb' : some b ≠ row) (hr' : some r ≠ row) : RangesIs P kt w' b r n f left cnt := by
 obtain ⟨D, lf, h1, h2, h3⟩ := h; exact ⟨D, lf, h1.kept hg hb' hr', h2, h3⟩
theorem RangesIs.lt {r cnt : Nat} {left : zab -> Bool} (h : RangesIs P kt w b r n f left cnt) : r < w.heap.size /\ r ≠ b := by
 obtain ⟨D, lf, h1, h2, h3⟩ := h; exact ⟨h1.lt, h1.ne⟩
theorem MapIs.range (h : MapIs P kt w b n f) (hk : P.underlying kt = some .string) (ht : P.underlying t = some (.map kt et)) :
 ∃ w' cnt, (Instr.range t (.map (some b))).run P w = .ok (.pointer (some ⟨w.heap.size, 0, none⟩)) w' /\ RangesIs P kt w' b w.heap.size n f (fun k => (f k).isSome) cnt /\ cnt <= n /\ w.grownBy w' none /\ w'.heap.size = w.heap.size + 1 := by
 obtain ⟨D, ho, hf⟩ := h; obtain ⟨w', hrun, hr, hg, hsz⟩ := ho.range (string_keyed hk) ht; exact ⟨w', _, hrun, ⟨D, _, hr, hf, hf.1⟩, ho.size_le, hg, hsz⟩
theorem RangesIs.next {r cnt : Nat} {left : zab -> Bool} (h : RangesIs P kt w b r n f left cnt) (hk : P.underlying kt = some .string) (ty : TypeId) :
 (cnt = 0 /\ (∀ k, left k = false) /\ (Instr.next (.pointer (some ⟨r, 0, none⟩)) false ty).run P w = .ok (.tuple #[.bool false]) w) \/
 ∃ (k : ByteArray) (v : Value) (w' : World) (cnt' : Nat), k.size <= maxLen /\ left k.data.toList = true /\ f k.data.toList = some v /\ (Instr.next (.pointer (some ⟨r, 0, none⟩)) false ty).run P w = .ok (.tuple #[.bool true, .string k, v]) w' /\
  RangesIs P kt w' b r n f (fun x => left x && !(x == k.data.toList)) cnt' /\ cnt' < cnt /\ w.grownBy w' (some r) /\ w'.heap.size = w.heap.size /\ (Instr.entry (.pointer (some ⟨r, 0, none⟩))).run P w' = .ok (.tuple #[.string k, v]) w' := by
 obtain ⟨D, lf, h1, h2, h3⟩ := h; rcases h1.next (string_keyed hk) ty with ⟨h0, hl, hrun⟩ | ⟨key, v, kl, y, w', cnt', hkey, hlk, hv, hat, hrun, hrg, hlt, hgr, hsz, hen⟩
 . exact .inl ⟨h0, fun k => by rw [<- h3]; exact hl _, hrun⟩
 . have hinv : ∃ s : ByteArray, key = .string s /\ kl = .string s.data.toList /\ s.size <= maxLen := by
    cases key <;> simp [keyOf, hk, mapKey] at hkey
    obtain ⟨hs, rfl⟩ := hkey; exact ⟨_, rfl, rfl, hs⟩
   obtain ⟨s, rfl, rfl, hs⟩ := hinv; obtain rfl : y = (.held v, []) := (znU hv).symm; refine .inr ⟨s, v, w', cnt', hs, by rw [<- h3]; exact hlk, ?_, hrun, ⟨D, _, hrg, h2, fun k => ?_⟩, hlt, hgr, hsz, hen⟩
   . have := hat (.lit (.bool true))
     rw [h2.2] at this; cases hf : f s.data.toList with
     | none => rw [hf] at this; cases this
     | some u => rw [hf] at this; simp only [DataW.held.injEq] at this; rw [this]
   . show (lf (.string k) && !Lit.sameKey (.string k) (.string s.data.toList)) = _
     rw [h3]; rfl
end
end Go.Proofs.YtdpgdnpddndeoaaGreatDoor.X

namespace Go.Proofs.YtdpgdnpddndeoaaGreatDoor.X
open Go.RowKit Go.Maps Go.Proofs.YtdpgdnpddndeoaaGreatDoorW.PrintWords Go.Proofs.YtdpgdnpddndeoaaGreatDoorW.PrintMore Go.Proofs.YtdpgdnpddndeoaaGreatDoorW.PrintLast
def zV : SVal := ⟨false, ⟨#[]⟩⟩
def updS (e : zab -> SVal) (k : zab) (v : SVal) : zab -> SVal := fun x => if x = k then v else e x
def EnvIs (w : World) (b n : Nat) (e : zab -> SVal) : Prop := ∃ f, MapIs Tryz.prog 9 w b n f /\ ∀ k, (f k).getD (aggV zV) = aggV (e k)
theorem EnvIs.made (w : World) : EnvIs (w.alloc (.map #[] 0)) w.heap.size 0 (fun _ => zV) := ⟨_, MapIs.made w, fun _ => rfl⟩
theorem EnvIs.lt {w : World} {b n : Nat} {e : zab -> SVal} (h : EnvIs w b n e) : b < w.heap.size := by obtain ⟨f, h, _⟩ := h; exact h.lt
theorem EnvIs.below {w w' : World} {b n : Nat} {e : zab -> SVal} (h : EnvIs w b n e) (hb : Below w.heap.size w w') : EnvIs w' b n e := by obtain ⟨f, h, h2⟩ := h; exact ⟨f, h.below hb, h2⟩
theorem EnvIs.grown {w w' : World} {b n : Nat} {e : zab -> SVal} {row : Option Nat} (h : EnvIs w b n e) (hg : w.grownBy w' row) (hne : some b ≠ row) : EnvIs w' b n e := by obtain ⟨f, h, h2⟩ := h; exact ⟨f, h.grown hg hne, h2⟩
theorem EnvIs.look {w : World} {b n : Nat} {e : zab -> SVal} (h : EnvIs w b n e) (k : ByteArray) (hs : k.size <= maxLen) :
 (Instr.lookup 91 (.map (some b)) (.string k) false).run Tryz.prog w = .ok (aggV (e k.data.toList)) w := by
 obtain ⟨f, h, h2⟩ := h; have := h.look Tryz.underlying9 Tryz.underlying91 (Tryz.zeroValue34 w) k hs; rw [this]; exact congrArg (fun v => Result.ok v w) (h2 k.data.toList)
theorem EnvIs.store {w : World} {b n : Nat} {e : zab -> SVal} (h : EnvIs w b n e) (hn : n < maxLen) (k : ByteArray) (hs : k.size <= maxLen) (v : SVal) :
 ∃ w', (Instr.mapUpdate 91 (.map (some b)) (.string k) (aggV v)).run Tryz.prog w = .ok () w' /\ EnvIs w' b (n + 1) (updS e k.data.toList v) /\ w.grownBy w' (some b) := by
 obtain ⟨f, h, h2⟩ := h; obtain ⟨w', hrun, h', hg⟩ := h.store Tryz.underlying9 Tryz.underlying91 hn k hs (aggV v); refine ⟨w', hrun, ⟨_, h', fun x => ?_⟩, hg⟩
 unfold setF updS; split
 . rfl
 . exact h2 x

def envK (ins : List zab) (vs : List SVal) (k : Nat) : zab -> SVal := ((ins.zip vs).take k).foldl (fun e p => updS e p.1 p.2) (fun _ => zV)
def zcK (e : zab -> SVal) (s : zca) : zab -> SVal := updS e s.out (valS (doP s.cmd (s.args.map fun a => valO (e a))))
def runK (r : zcQ) (vs : List SVal) (k : Nat) : zab -> SVal := (r.steps.take k).foldl zcK (envK r.ins vs r.ins.length)
def runS (r : zcQ) (vs : List SVal) : List SVal := if vs.length ≠ r.ins.length then [] else r.outs.map (runK r vs r.steps.length)
theorem zkG (ins : List zab) (vs : List SVal) (k : Nat) (h1 : k < ins.length) (h2 : k < vs.length) : envK ins vs (k + 1) = updS (envK ins vs k) ins[k] vs[k] := by
 unfold envK; have hz : k < (ins.zip vs).length := by rw [List.length_zip]; omega
 rw [znO hz, List.foldl_append]; simp [List.getElem_zip]
theorem zlC (r : zcQ) (vs : List SVal) (k : Nat) (h : k < r.steps.length) : runK r vs (k + 1) = zcK (runK r vs k) r.steps[k] := by
 unfold runK; rw [znO h, List.foldl_append]; rfl
theorem zlp {s : Cmd} {vs : List VB} {b : zab} (h : doP s vs = some b) : b.length <= 2000 := by
 unfold doP zes at h; split at h
 . cases h
 . split at h
   . cases h
   . rename_i hn
     cases h
     omega
theorem ziO (s : Cmd) (vs : List VB) : (valS (doP s vs)).f1.size <= 4194304 := by
 cases h : doP s vs with
 | none => exact zn8 _
 | some b =>
  have := zlp h; show (mk b).size <= _
  rw [za6]; omega
def SmallE (e : zab -> SVal) : Prop := ∀ k, (e k).f1.size <= 4194304
theorem SmallE.upd {e : zab -> SVal} (h : SmallE e) (k : zab) {v : SVal} (hv : v.f1.size <= 4194304) : SmallE (updS e k v) := by
 intro x; unfold updS; split
 . exact hv
 . exact h x
theorem zmW (ins : List zab) (vs : List SVal) (hv : ∀ v ∈ vs, v.f1.size <= 4194304) (k : Nat) : SmallE (envK ins vs k) := by
 unfold envK; have key : ∀ (l : List (zab × SVal)) (e : zab -> SVal), SmallE e -> (∀ p ∈ l, p.2.f1.size <= 4194304) -> SmallE (l.foldl (fun e p => updS e p.1 p.2) e) := by
  intro l; induction l with
  | nil => exact fun e h _ => h
  | cons p l ih => exact fun e h hp => ih _ (h.upd _ (hp p List.mem_cons_self)) (fun q hq => hp q (List.mem_cons_of_mem _ hq))
 refine key _ _ (fun _ => zn8 _) (fun p hp => hv p.2 ?_)
 exact (List.of_mem_zip (List.mem_of_mem_take hp)).2
theorem zhF (r : zcQ) (vs : List SVal) (hv : ∀ v ∈ vs, v.f1.size <= 4194304) (k : Nat) : SmallE (runK r vs k) := by
 unfold runK; have key : ∀ (l : List zca) (e : zab -> SVal), SmallE e -> SmallE (l.foldl zcK e) := by
  intro l; induction l with
  | nil => exact fun e h => h
  | cons s l ih => exact fun e h => ih _ (h.upd _ (ziO _ _))
 exact key _ _ (zmW _ _ hv _)
abbrev RVal (w : World) (base : Nat) (v : Value) (l : List SVal) : Prop := Kd.R k34 34 w base (fun _ => True) v l
structure FitR (r : zai) : Prop where
 ins : r.f1.length <= 1000
 outs : r.f2.length <= 1000
 steps : r.f4.length <= 1000
 insN : ∀ x ∈ r.f1, x.size <= maxLen
 outsN : ∀ x ∈ r.f2, x.size <= maxLen
 stepN : ∀ s ∈ r.f4, s.f0.size <= maxLen /\ s.f2.length <= 1000 /\ ∀ x ∈ s.f2, x.size <= maxLen
def zeE (l : List SVal) (w : World) (e : Ending) (w' : World) : Prop := ∃ v, e = .returned v /\ RVal w' w.heap.size v l /\ Below w.heap.size w w'
theorem zbc {w : World} {A : Option Addr} {l : List ByteArray} (h : Kd.C Kd.string w A l.length l) (k : Nat) (hk : k < l.length) : ∃ b o, A = some ⟨b, o, none⟩ /\ w.cell? ⟨b, o + k, none⟩ = some (.string l[k]) := by
 rcases za5 h with h0 | ⟨b, o, rfl, _, hcell⟩
 . exfalso; rw [h0] at hk; simp at hk
 . refine ⟨b, o, rfl, ?_⟩
   have := hcell k hk; rwa [show l.getD k ByteArray.empty = l[k] by simp [znt, zns hk]] at this
def zaq (r : zai) (B1 : Option Addr) (c1 : Nat) (B2 : Option Addr) (c2 : Nat) (B3 : Option Addr) (c3 : Nat) (B4 : Option Addr) (c4 : Nat) : Array Value :=
 #[.string r.f0, .slice B1 r.f1.length c1, .slice B2 r.f2.length c2, .slice B3 r.f3.length c3, .slice B4 r.f4.length c4]
theorem zc7 {w : World} {A : Option Addr} {l : List zay} (h : Kd.C k24 w A l.length l) (i : Nat) (hi : i < l.length) :
 ∃ b o B2 c2 B3 c3, A = some ⟨b, o, none⟩ /\ w.cell? ⟨b, o + i * 5, none⟩ = some (.string l[i].f0) /\ w.cell? ⟨b, o + i * 5 + 1, none⟩ = some (.int .i64 l[i].f1) /\ w.cell? ⟨b, o + i * 5 + 2, none⟩ = some (.slice B2 l[i].f2.length c2) /\
  w.cell? ⟨b, o + i * 5 + 3, none⟩ = some (.slice B3 l[i].f3.length c3) /\ w.cell? ⟨b, o + i * 5 + 4, none⟩ = some (.int .i64 l[i].f4) /\ Kd.C Kd.string w B2 l[i].f2.length l[i].f2 /\ Kd.C Kd.string w B3 l[i].f3.length l[i].f3 := by
 obtain ⟨ad, B2, c2, B3, c3, rfl, p0, p1, p2, p3, p4, q2, g2, q3, g3⟩ := zgi h (i : Int) (by omega) (by omega)
 have hx : zbZ l (i : Int) = l[i] := by
  unfold zbZ; rw [zoC, znt, zns hi]; rfl
 rw [hx, zoC] at p0 p1 p2 p3 p4; rw [hx] at q2 g2 q3 g3; obtain ⟨ad0, _, _, _, _, had0, z0, _⟩ := zgi h 0 (by omega) (by omega)
 cases had0
 obtain ⟨b, o, rfl⟩ := zem z0; have e : ((⟨b, o, none⟩ : Addr).add (i * 5)) = ⟨b, o + i * 5, none⟩ := by
  unfold Addr.add; split
  . rename_i h0; simp [h0]
  . rfl
 rw [e] at p0 p1 p2 p3 p4; exact ⟨b, o, B2, c2, B3, c3, rfl, p0, p1, p2, p3, p4, g2, g3⟩
theorem ze5 (r : zai) (B1 : Option Addr) (c1 : Nat) (B2 : Option Addr) (c2 : Nat) (B3 : Option Addr) (c3 : Nat) (B4 : Option Addr) (c4 : Nat) (A : Option Addr) (c : Nat) (vs : List SVal) (w : World) (hG : GOK w)
 (h1 : Kd.C Kd.string w B1 r.f1.length r.f1) (h2 : Kd.C Kd.string w B2 r.f2.length r.f2) (h4 : Kd.C k24 w B4 r.f4.length r.f4) (hr : Kd.C k34 w A vs.length vs) (hF : FitR r) (hsz : ∀ v ∈ vs, v.f1.size <= 4194304) :
 Calls Tryz.prog 34 #[.agg (zaq r B1 c1 B2 c2 B3 c3 B4 c4), .slice A vs.length c] w (zeE (runS (zax r) vs) w) := by
 have hlen : vs.length <= 9223372036854775807 := hr.2.1; have hn1 := hF.ins; have hn2 := hF.outs; have hn4 := hF.steps; have hW := (zno w.heap.size w).alloc (znp _) (.cells (zaq r B1 c1 B2 c2 B3 c3 B4 c4) 45); have HK := znl (zao w (.cells (zaq r B1 c1 B2 c2 B3 c3 B4 c4) 45)); have HB := znl hW; have H1 := znl (Kd.C_below h1 hW); have H2 := znl (Kd.C_below h2 hW); have H4 := znl (Kd.C_below h4 hW); have HR := znl (Kd.C_below hr hW); have HG := znl (hG.below hW); have HS := znl hsz; have HF := znl hF; obtain ⟨T, hT⟩ : ∃ T, T = runS (zax r) vs := ⟨_, rfl⟩; rw [<- hT]; unfold runS at hT; have hni : (zax r).ins.length = r.f1.length := zaZ _; rw [hni] at hT; have HT := znl hT; clear hT hni hW h1 h2 h4 hr hG hsz hF; unfold zaq at *; have hmm := @run_makeMap Tryz.prog; by_cases hne : vs.length = r.f1.length
 . have d0 : ((vs.length : Int) != (r.f1.length : Int)) = false := by simp [hne]
   have HN := znl hne; have hT := HT.out; rw [if_neg (by omega)] at hT
   clear HT; have HT := znl hT; clear hT hne; go_enter Tryz.func34, Tryz.ntmps34
   go_upto_region 3 with fail; generalize w.alloc (.cells #[.string r.f0, .slice B1 r.f1.length c1, .slice B2 r.f2.length c2, .slice B3 r.f3.length c3, .slice B4 r.f4.length c4] 45) = w1 at HB HK H1 H2 H4 HR HG |-; have k1 : w1.cell? ⟨w.heap.size, 1, none⟩ = some (.slice B1 r.f1.length c1) := (zaa HK.out 1).trans rfl; have hE0 := EnvIs.made w1; have hB0 := (zno w1.heap.size w1).alloc (znp _) (.map #[] 0); have HE0 := znl hE0; have HB0 := znl hB0; have HM0 : Hid (w1.heap.size < (w1.alloc (.map #[] 0)).heap.size) := znl hE0.lt; have HK2 := znl (zah HK.out hB0); have k1' : (w1.alloc (.map #[] 0)).cell? ⟨w.heap.size, 1, none⟩ = some (.slice B1 r.f1.length c1) := (zaa HK2.out 1).trans rfl; clear hE0 hB0; go_upto_region 4 with fail; generalize w1.alloc (.map #[] 0) = w2 at HE0 HB0 HM0 HK2 k1' |-; go_wp2_with fail; go_loopg [6, 7, 26] r.f1.length (fun gg _ _ s26 wr => ∃ kk : Nat, kk <= r.f1.length /\ r.f1.length - kk <= gg /\ s26 = .int .i64 kk /\ Aside0 (EnvIs wr w1.heap.size kk (envK (zac r.f1) vs kk)) /\ Aside0 (Below w1.heap.size w1 wr))
   case atStart => exact ⟨0, zn8 _, by omega, rfl, ⟨HE0.out⟩, ⟨HB0.out⟩⟩
   case round =>
    obtain ⟨kk, hkk, hgk, rfl, HE, HW⟩ := hrel; by_cases hlt : kk < r.f1.length
    . have hltz : (kk : Int) < (r.f1.length : Int) := by omega
      have hlv : kk < vs.length := by have := HN.out; omega
      have hlvz : (kk : Int) < (vs.length : Int) := by omega
      obtain ⟨b, o, rfl, p0⟩ := zbc (Kd.C_below H1.out HW.out) kk hlt; obtain ⟨b2, o2, rfl, v0, v1⟩ := zdd (Kd.C_below HR.out HW.out) kk hlv; have hst := zkG (zac r.f1) vs kk (by rw [zaZ]; exact hlt) hlv
      rw [zcD r.f1 kk hlt] at hst; have hsz := HF.out.insN _ (zoy hlt); obtain ⟨w3, hrun, hE3, hg3⟩ := HE.out.store (by unfold maxLen; omega) r.f1[kk] hsz vs[kk]
      rw [<- hst] at hE3; unfold aggV at hrun; have HE3 := znl hE3; have HW3 : Hid (Below w1.heap.size w1 w3) := znl (HW.out.grown hg3 HW.out.size (fun k hk => by cases hk; exact znp _))
      generalize r.f1[kk] = n at p0 hrun; generalize vs[kk] = v at v0 v1 hrun; clear hst hsz hE3 hg3; go_wp2_with fail; go_roundg (r.f1.length - (kk + 1))
      case measure => omega
      case rel => exact ⟨kk + 1, by omega, by omega, by go_num, ⟨HE3.out⟩, ⟨HW3.out⟩⟩
    . have hltz : ¬ (kk : Int) < (r.f1.length : Int) := by omega
      obtain rfl : kk = r.f1.length := by omega
      have HE1 : Hid (EnvIs wr w1.heap.size (r.f1.length + 0) (runK (zax r) vs 0)) := by
       have h := HE.out; have e : runK (zax r) vs 0 = envK (zac r.f1) vs r.f1.length := by
        show envK (zac r.f1) vs (zac r.f1).length = _
        rw [zaZ]
       show EnvIs _ _ _ _
       rw [e]; exact h
      have HK3 := znl (zah HK.out HW.out); have k4 : wr.cell? ⟨w.heap.size, 4, none⟩ = some (.slice B4 r.f4.length c4) := (zaa HK3.out 4).trans rfl; go_upto_region 9 with fail; clear HE HE0 HB0 HM0 HK2 k1'; go_wp2_with fail; go_loopg [9, 10, 12, 41] r.f4.length (fun gg _ _ _ s41 wq => ∃ jj : Nat, jj <= r.f4.length /\ r.f4.length - jj <= gg /\ s41 = .int .i64 jj /\ Aside0 (EnvIs wq w1.heap.size (r.f1.length + jj) (runK (zax r) vs jj)) /\ Aside0 (Below w1.heap.size w1 wq))
      case atStart => exact ⟨0, zn8 _, by omega, rfl, ⟨HE1.out⟩, ⟨HW.out⟩⟩
      case round =>
       obtain ⟨jj, hjj, hgj, rfl, HEq, HWq⟩ := hrel; obtain ⟨wq, rfl⟩ : ∃ wq, wq = wr := ⟨wr, rfl⟩; by_cases hlj : jj < r.f4.length
       . have hljz : (jj : Int) < (r.f4.length : Int) := by omega
         obtain ⟨b, o, C2, d2, C3, d3, rfl, p0, p1, p2, p3, p4, g2, g3⟩ := zc7 (Kd.C_below H4.out HWq.out) jj hlj; have hst := zlC (zax r) vs jj (by show jj < (r.f4.map zaJ).length; rw [zn0]; exact hlj)
         have hsx : (zax r).steps[jj]'(by show jj < (r.f4.map zaJ).length; rw [zn0]; exact hlj) = zaJ r.f4[jj] := List.getElem_map ..
         rw [hsx] at hst; have hsm := zhF (zax r) vs HS.out jj; obtain ⟨hxo, hxl, hxn⟩ := HF.out.stepN _ (zoy hlj); have HEr : Hid (EnvIs (wq) w1.heap.size (r.f1.length + jj) (runK (zax r) vs jj)) := znl HEq.out; have HSt : Hid (runK (zax r) vs (jj + 1) = zcK (runK (zax r) vs jj) (zaJ r.f4[jj])) := znl hst; have HXo := znl hxo; have HXn := znl hxn; have HSm := znl hsm; generalize hx : r.f4[jj] = x at p0 p1 p2 p3 p4 g2 g3 HSt HXo HXn hxl; clear hx hst hsx hxo hxn hsm; generalize runK (zax r) vs jj = e at HEr HSt HSm; have hb3 := (zno wq.heap.size wq).alloc (znp _) (.cells #[.string x.f0, .int .i64 x.f1, .slice C2 x.f2.length d2, .slice C3 x.f3.length d3, .int .i64 x.f4] 24); have HX3 := znl (zao wq (.cells #[.string x.f0, .int .i64 x.f1, .slice C2 x.f2.length d2, .slice C3 x.f3.length d3, .int .i64 x.f4] 24)); have HB3 := znl hb3; have HG2 := znl (Kd.C_below g2 hb3); have HG3 := znl (Kd.C_below g3 hb3); have HE3 := znl (HEr.out.below hb3); have HWz := znl HWq.out.size; clear g2 g3 hb3; go_upto_region 12 with fail; generalize wq.alloc (.cells #[.string x.f0, .int .i64 x.f1, .slice C2 x.f2.length d2, .slice C3 x.f3.length d3, .int .i64 x.f4] 24) = w3 at HX3 HB3 HG2 HG3 HE3 |-; have x2 : w3.cell? ⟨wq.heap.size, 2, none⟩ = some (.slice C2 x.f2.length d2) := (zaa HX3.out 2).trans rfl; go_wp2_with fail; go_loopg [10, 12, 48] x.f2.length (fun gg s10 _ s48 wi => ∃ j : Nat, j <= x.f2.length /\ x.f2.length - j <= gg /\ s48 = .int .i64 j /\ Aside0 (RVal wi w3.heap.size s10 ((x.f2.take j).map fun a => e a.data.toList)) /\ Aside0 (Below w3.heap.size w3 wi))
         case atStart => exact ⟨0, zn8 _, by omega, rfl, ⟨Kd.R_nil _ _ _ _ _⟩, ⟨zno _ _⟩⟩
         case round =>
          obtain ⟨j, hj, hgj2, rfl, HO, HWi⟩ := hrel; by_cases hl2 : j < x.f2.length
          . have hl2z : (j : Int) < (x.f2.length : Int) := by omega
            obtain ⟨b5, o5, rfl, q0⟩ := zbc (Kd.C_below HG2.out HWi.out) j hl2; have hlk := (HE3.out.below HWi.out).look x.f2[j] (HXn.out _ (zoy hl2)); have HSucc : Hid ((x.f2.take (j + 1)).map (fun a => e a.data.toList) = (x.f2.take j).map (fun a => e a.data.toList) ++ [e x.f2[j].data.toList]) := by show _ = _; rw [znO hl2, zoc]; rfl
            have hml : ((x.f2.take j).map (fun a => e a.data.toList)).length = j := by rw [zn0, znA]; omega
            have HML := znl hml; have HWs := znl HWi.out.size; generalize e x.f2[j].data.toList = v at hlk HSucc; generalize x.f2[j] = n at q0 hlk; unfold aggV at hlk; clear hml; go_wp2_with (first | ((with_reducible refine zaM (b := .append) (xs := #[.tmp 52, .tmp 56]) rfl ?_); at_builtin; refine Kd.R_append k34 (w0 := w3) w3.heap.size rfl (.tmp 52) (.tmp 56) 25 34 (.agg #[.bool false, .string ⟨#[]⟩]) 24 rfl Tryz.underlying25 zcP rfl (by decide) (by decide) u10 ((x.f2.take j).map (fun a => e a.data.toList)) v [.bool v.f0, .string v.f1] (fun _ => True) (fun k_ => True /\ some k_ ≠ u10.ownBlock) rfl rfl (zcC _ _ _ v) (fun _ hk => hk) (fun _ _ => trivial) HO.out HWi.out HWs.out ?aL ?_; (case aL => (have h1 := HML.out; omega)); intro v1 w4 ho hb hg hat; have HO4 : Hid (RVal w4 w3.heap.size v1 ((x.f2.take (j + 1)).map (fun a => e a.data.toList))) := (by show RVal _ _ _ _; rw [HSucc.out]; exact ho); have HB4 := znl hb; clear ho hb hg hat))
            go_roundg (x.f2.length - (j + 1))
            case measure => omega
            case rel => exact ⟨j + 1, by omega, by omega, by first | rfl | go_num, ⟨HO4.out⟩, ⟨HB4.out⟩⟩
          . have hl2z : ¬ (j : Int) < (x.f2.length : Int) := by omega
            obtain rfl : j = x.f2.length := by omega
            have hO := HO.out; rw [zn1] at hO; obtain ⟨A5, n5, rfl, hc5, hC5⟩ := Kd.R_reads hO; have hlm : (x.f2.map fun a => e a.data.toList).length = x.f2.length := zn0 ..
            have HC5 : Hid (Kd.C k34 wr A5 (x.f2.map fun a => e a.data.toList).length (x.f2.map fun a => e a.data.toList)) := znl hC5
            have HWi2 : Hid (Below w1.heap.size w1 wr) := znl ((HWq.out.trans (HB3.out.mono HWz.out)).trans (HWi.out.mono (znv HWz.out HB3.out.size))); have hDo := fun (W : World) (hW : Below wr.heap.size wr W) => zeM x C2 d2 C3 d3 A5 n5 (x.f2.map fun a => e a.data.toList) W (HG.out.below (HWi2.out.trans (hW.mono HWi2.out.size))) (Kd.C_below HG2.out (HWi.out.trans (hW.mono HWi.out.size))) (Kd.C_below HG3.out (HWi.out.trans (hW.mono HWi.out.size))) (Kd.C_below HC5.out hW) (fun v hv => by
             obtain ⟨a, _, rfl⟩ := zoE.1 hv; exact HSm.out _)
            rw [hlm] at hDo |-; have hse : zcK e (zaJ x) = updS e x.f0.data.toList (valS (doP (zal x) ((x.f2.map fun a => e a.data.toList).map valO))) := by
             unfold zcK zaJ zac; dsimp only; rw [znZ, znZ]; rfl
            have HSt2 : Hid (runK (zax r) vs (jj + 1) = updS e x.f0.data.toList (valS (doP (zal x) ((x.f2.map fun a => e a.data.toList).map valO)))) := HSt.out.trans hse
            generalize valS (doP (zal x) ((x.f2.map fun a => e a.data.toList).map valO)) = vx at hDo HSt2
            have HDo := znl hDo; have HX5 := znl (zah HX3.out HWi.out); have Sof : ∀ W : World, W.heap[wq.heap.size]? = some (.cells #[.string x.f0, .int .i64 x.f1, .slice C2 x.f2.length d2, .slice C3 x.f3.length d3, .int .i64 x.f4] 24 (0, 0)) -> W.cell? ⟨wq.heap.size, 0, none⟩ = some (.string x.f0) /\ W.cell? ⟨wq.heap.size, 1, none⟩ = some (.int .i64 x.f1) /\ W.cell? ⟨wq.heap.size, 2, none⟩ = some (.slice C2 x.f2.length d2) /\ W.cell? ⟨wq.heap.size, 3, none⟩ = some (.slice C3 x.f3.length d3) /\ W.cell? ⟨wq.heap.size, 4, none⟩ = some (.int .i64 x.f4) := fun W hW =>
             ⟨(zaa hW 0).trans rfl, (zaa hW 1).trans rfl, (zaa hW 2).trans rfl, (zaa hW 3).trans rfl, (zaa hW 4).trans rfl⟩
            have HNe : Hid (w1.heap.size < wq.heap.size) := HEr.out.lt; have HSo := znl Sof; have HBx : Hid (Below wr.heap.size wr wr.drew) := znl (zbh (zno _ _)); have HEs : Hid (∀ W, Below wr.heap.size wr W -> ∃ w6, (Instr.mapUpdate 91 (.map (some w1.heap.size)) (.string x.f0) (aggV vx)).run Tryz.prog W = .ok () w6 /\ EnvIs w6 w1.heap.size (r.f1.length + jj + 1) (updS e x.f0.data.toList vx) /\ W.grownBy w6 (some w1.heap.size)) :=
             znl (fun W hW => ((HE3.out.below HWi.out).below hW).store (by unfold maxLen; omega) x.f0 HXo.out vx)
            clear hDo hse hC5 hO Sof hc5 hlm x2; go_wp2_with fail; go_region_held3 (fun W => W.cell? ⟨wq.heap.size, 0, none⟩ = some (.string x.f0) /\ W.cell? ⟨wq.heap.size, 1, none⟩ = some (.int .i64 x.f1) /\ W.cell? ⟨wq.heap.size, 2, none⟩ = some (.slice C2 x.f2.length d2) /\ W.cell? ⟨wq.heap.size, 3, none⟩ = some (.slice C3 x.f3.length d3) /\ W.cell? ⟨wq.heap.size, 4, none⟩ = some (.int .i64 x.f4))
             (first | exact HSo.out _ (zah HX5.out HBx.out) | exact HSo.out _ HX6.out)
             (first | (go_at_call 25; refine (HDo.out _ HBx.out).mono ?_; rintro e5 w5 ⟨rfl, hb5⟩; have HBx := znl (zad HBx.out HBx.out.size hb5); obtain ⟨w6, hrun, hE6, hg6⟩ := HEs.out _ HBx.out; have HE6 := znl hE6; have HG6 := znl hg6; have HX6 := znl ((hg6.block wq.heap.size (za1 (zah HX5.out HBx.out)) (by have h := HNe.out; intro he; injection he; omega)).trans (zah HX5.out HBx.out)); clear hb5 hE6 hg6))
            all_goals
             have hW6 : Below w1.heap.size w1 w6 := (HWi2.out.trans (HBx.out.mono HWi2.out.size)).grown HG6.out (znv HWi2.out.size HBx.out.size) (fun k hk => by cases hk; exact znp _)
             have HW6 := znl hW6; have HE7 : Hid (EnvIs w6 w1.heap.size (r.f1.length + (jj + 1)) (runK (zax r) vs (jj + 1))) := by
              show EnvIs _ _ _ _
              rw [HSt2.out]; exact HE6.out
             clear hW6; go_wp2_with fail; go_roundg (r.f4.length - (jj + 1))
             case measure => omega
             case rel => exact ⟨jj + 1, by omega, by omega, by first | rfl | go_num, ⟨HE7.out⟩, ⟨HW6.out⟩⟩
       . have hljz : ¬ (jj : Int) < (r.f4.length : Int) := by omega
         obtain rfl : jj = r.f4.length := by omega
         have HK4 := znl (zah HK.out HWq.out); have k2 : wq.cell? ⟨w.heap.size, 2, none⟩ = some (.slice B2 r.f2.length c2) := (zaa HK4.out 2).trans rfl; have hkl : (zax r).steps.length = r.f4.length := zn0 ..; have hT2 := HT.out; rw [hkl] at hT2; have HT2 : Hid (T = (zac r.f2).map (runK (zax r) vs r.f4.length)) := znl hT2; have HEf : Hid (EnvIs wq w1.heap.size (r.f1.length + r.f4.length) (runK (zax r) vs r.f4.length)) := znl HEq.out; clear hkl hT2; generalize runK (zax r) vs r.f4.length = e at HEf HT2; go_upto_region 21 with fail; go_wp2_with fail; go_loopg [13, 15, 69] r.f2.length (fun gg s13 _ s69 wi => ∃ j : Nat, j <= r.f2.length /\ r.f2.length - j <= gg /\ s69 = .int .i64 j /\ Aside0 (RVal wi wq.heap.size s13 ((r.f2.take j).map fun a => e a.data.toList)) /\ Aside0 (Below wq.heap.size wq wi))
         case atStart => exact ⟨0, zn8 _, by omega, rfl, ⟨Kd.R_nil _ _ _ _ _⟩, ⟨zno _ _⟩⟩
         case round =>
          obtain ⟨j, hj, hgj2, rfl, HO, HWi⟩ := hrel; by_cases hl2 : j < r.f2.length
          . have hl2z : (j : Int) < (r.f2.length : Int) := by omega
            obtain ⟨b5, o5, rfl, q0⟩ := zbc (Kd.C_below H2.out (HWq.out.trans (HWi.out.mono HWq.out.size))) j hl2; have hlk := (HEf.out.below HWi.out).look r.f2[j] (HF.out.outsN _ (zoy hl2)); have HSucc : Hid ((r.f2.take (j + 1)).map (fun a => e a.data.toList) = (r.f2.take j).map (fun a => e a.data.toList) ++ [e r.f2[j].data.toList]) := by show _ = _; rw [znO hl2, zoc]; rfl
            have hml : ((r.f2.take j).map (fun a => e a.data.toList)).length = j := by rw [zn0, znA]; omega
            have HML := znl hml; have HWs := znl HWi.out.size; generalize e r.f2[j].data.toList = v at hlk HSucc; generalize r.f2[j] = n at q0 hlk; unfold aggV at hlk; clear hml; go_wp2_with (first | ((with_reducible refine zaM (b := .append) (xs := #[.tmp 73, .tmp 77]) rfl ?_); at_builtin; refine Kd.R_append k34 (w0 := wq) wq.heap.size rfl (.tmp 73) (.tmp 77) 25 34 (.agg #[.bool false, .string ⟨#[]⟩]) 24 rfl Tryz.underlying25 zcP rfl (by decide) (by decide) u13 ((r.f2.take j).map (fun a => e a.data.toList)) v [.bool v.f0, .string v.f1] (fun _ => True) (fun k_ => True /\ some k_ ≠ u13.ownBlock) rfl rfl (zcC _ _ _ v) (fun _ hk => hk) (fun _ _ => trivial) HO.out HWi.out HWs.out ?aL ?_; (case aL => (have h1 := HML.out; omega)); intro v1 w4 ho hb hg hat; have HO4 : Hid (RVal w4 wq.heap.size v1 ((r.f2.take (j + 1)).map (fun a => e a.data.toList))) := (by show RVal _ _ _ _; rw [HSucc.out]; exact ho); have HB4 := znl hb; clear ho hb hg hat))
            go_roundg (r.f2.length - (j + 1))
            case measure => omega
            case rel => exact ⟨j + 1, by omega, by omega, by first | rfl | go_num, ⟨HO4.out⟩, ⟨HB4.out⟩⟩
          . have hl2z : ¬ (j : Int) < (r.f2.length : Int) := by omega
            obtain rfl : j = r.f2.length := by omega
            have hO := HO.out; rw [zn1] at hO; have hte : T = r.f2.map fun a => e a.data.toList := by rw [HT2.out]; unfold zac; rw [znZ]; rfl
            have HTe := znl hte; have HOf := znl hO; clear hte hO; go_wp2_with fail; go_ret
            exact ⟨_, rfl, by rw [HTe.out]; exact Kd.R_lower HOf.out (znv HB.out.size HWq.out.size), (HB.out.trans (HWq.out.mono HB.out.size)).trans (HWi.out.mono (znv HB.out.size HWq.out.size))⟩
 . have d0 : ((vs.length : Int) != (r.f1.length : Int)) = true := by simp; omega
   have hT := HT.out; rw [if_pos (by omega)] at hT
   clear HT; have HT := znl hT; clear hT hne; go_enter Tryz.func34, Tryz.ntmps34
   go_upto_if 21 with fail; generalize w.alloc (.cells #[.string r.f0, .slice B1 r.f1.length c1, .slice B2 r.f2.length c2, .slice B3 r.f3.length c3, .slice B4 r.f4.length c4] 45) = w1 at HB HK H1 H2 H4 HR HG |-; have k1 : w1.cell? ⟨w.heap.size, 1, none⟩ = some (.slice B1 r.f1.length c1) := (zaa HK.out 1).trans rfl; go_wp2_with fail; go_ret
   exact ⟨_, rfl, by rw [HT.out]; exact Kd.R_nil _ _ _ _ _, HB.out⟩

theorem zln (A : Option Addr) (c : Nat) (l : List ByteArray) (t : ByteArray) (w : World) (hr : Kd.C Kd.string w A l.length l) :
 Calls Tryz.prog 64 #[.slice A l.length c, .string t] w fun e w' => e = .returned (.int .i64 (idxF l t)) /\ w = w' := by
 cases l with
 | cons a r => exact zf3 A c (a :: r) t w hr (Nat.succ_pos _)
 | nil =>
  have he : idxF [] t = -1 := by unfold idxF; simp
  rw [he]; clear hr he; show Calls Tryz.prog _ #[.slice A 0 c, .string t] w _
  go_enter Tryz.func64, Tryz.ntmps64
  go_wp2_with fail; go_loopg [5, 8] 0 (fun gg _ s8 wr => s8 = .int .i64 0 /\ wr = w)
  case atStart => exact ⟨rfl, rfl⟩
  case round =>
   obtain ⟨rfl, rfl⟩ := hrel; go_wp2_with fail; go_ret
   exact ⟨rfl, rfl⟩

def zbn (ins : List ByteArray) (vs : List SVal) (n : ByteArray) : SVal := if 0 <= idxF ins n /\ idxF ins n < vs.length then vs.getD (idxF ins n).toNat zV else zV
theorem zjy (r : zai) (B1 : Option Addr) (c1 : Nat) (B2 : Option Addr) (c2 : Nat) (B3 : Option Addr) (c3 : Nat) (B4 : Option Addr) (c4 : Nat) (Ai : Option Addr) (ci : Nat) (ins : List ByteArray) (A : Option Addr) (c : Nat) (vs : List SVal) (w : World) (hG : GOK w)
 (h1 : Kd.C Kd.string w B1 r.f1.length r.f1) (h2 : Kd.C Kd.string w B2 r.f2.length r.f2) (h4 : Kd.C k24 w B4 r.f4.length r.f4) (hi : Kd.C Kd.string w Ai ins.length ins) (hr : Kd.C k34 w A vs.length vs) (hF : FitR r) (hsz : ∀ v ∈ vs, v.f1.size <= 4194304) :
 Calls Tryz.prog 36 #[.agg (zaq r B1 c1 B2 c2 B3 c3 B4 c4), .slice Ai ins.length ci, .slice A vs.length c] w (zeE (runS (zax r) (r.f1.map (zbn ins vs))) w) := by
 have hlen : vs.length <= 9223372036854775807 := hr.2.1; have hn1 := hF.ins; have hW := (zno w.heap.size w).alloc (znp _) (.cells (zaq r B1 c1 B2 c2 B3 c3 B4 c4) 45); have HK := znl (zao w (.cells (zaq r B1 c1 B2 c2 B3 c3 B4 c4) 45)); have HB := znl hW; have H1 := znl (Kd.C_below h1 hW); have H2 := znl (Kd.C_below h2 hW); have H4 := znl (Kd.C_below h4 hW); have HI := znl (Kd.C_below hi hW); have HR := znl (Kd.C_below hr hW); have HG := znl (hG.below hW); have HS := znl hsz; have HF := znl hF; have hOf := fun (W : World) (hW : Below w.heap.size w W) (A5 : Option Addr) (n5 : Nat) (hr5 : Kd.C k34 W A5 (r.f1.map (zbn ins vs)).length (r.f1.map (zbn ins vs))) => ze5 r B1 c1 B2 c2 B3 c3 B4 c4 A5 n5 (r.f1.map (zbn ins vs)) W (hG.below hW) (Kd.C_below h1 hW) (Kd.C_below h2 hW) (Kd.C_below h4 hW) hr5 hF (fun v hv => by
  obtain ⟨n, _, rfl⟩ := zoE.1 hv; unfold zbn; split
  . rename_i hc
    rw [znt, zns (show (idxF ins n).toNat < vs.length by omega)]
    exact hsz _ (zoy _)
  . exact zn8 _)
 rw [zn0] at hOf; have HOf := znl hOf; obtain ⟨T, hT⟩ : ∃ T, T = runS (zax r) (r.f1.map (zbn ins vs)) := ⟨_, rfl⟩; rw [<- hT] at HOf |-; clear hT hW h1 h2 h4 hi hr hG hsz hF hOf; unfold zaq at *; go_enter Tryz.func36, Tryz.ntmps36
 go_upto_region 2 with fail; generalize w.alloc (.cells #[.string r.f0, .slice B1 r.f1.length c1, .slice B2 r.f2.length c2, .slice B3 r.f3.length c3, .slice B4 r.f4.length c4] 45) = w1 at HB HK H1 H2 H4 HI HR HG |-; have k1 : w1.cell? ⟨w.heap.size, 1, none⟩ = some (.slice B1 r.f1.length c1) := (zaa HK.out 1).trans rfl; go_wp2_with fail; go_loopg [7, 9, 10, 11, 15] r.f1.length (fun gg s7 _ _ _ s15 wr => ∃ kk : Nat, kk <= r.f1.length /\ r.f1.length - kk <= gg /\ s15 = .int .i64 kk /\ Aside0 (RVal wr w1.heap.size s7 ((r.f1.take kk).map (zbn ins vs))) /\ Aside0 (Below w1.heap.size w1 wr))
 case atStart => exact ⟨0, zn8 _, by omega, rfl, ⟨Kd.R_nil _ _ _ _ _⟩, ⟨zno _ _⟩⟩
 case round =>
  obtain ⟨kk, hkk, hgk, rfl, HO, HW⟩ := hrel; obtain ⟨wq, rfl⟩ : ∃ wq, wq = wr := ⟨wr, rfl⟩; by_cases hlt : kk < r.f1.length
  . have hltz : (kk : Int) < (r.f1.length : Int) := by omega
    obtain ⟨b, o, rfl, p0⟩ := zbc (Kd.C_below H1.out HW.out) kk hlt; have hb3 := (zno wq.heap.size wq).alloc (znp _) (.cells #[.bool false, .string ⟨#[]⟩] 34); have HX3 := znl (zao wq (.cells #[.bool false, .string ⟨#[]⟩] 34)); have HB3 := znl hb3; have hix := zln Ai ci ins r.f1[kk] (wq.alloc (.cells #[.bool false, .string ⟨#[]⟩] 34)) (Kd.C_below HI.out (HW.out.alloc HW.out.size _)); have hsu : (r.f1.take (kk + 1)).map (zbn ins vs) = (r.f1.take kk).map (zbn ins vs) ++ [zbn ins vs r.f1[kk]] := by rw [znO hlt, zoc]; rfl
    have hml : ((r.f1.take kk).map (zbn ins vs)).length = kk := by rw [zn0, znA]; omega
    have HML := znl hml; have hpv : zbn ins vs r.f1[kk] = if 0 <= idxF ins r.f1[kk] /\ idxF ins r.f1[kk] < vs.length then vs.getD (idxF ins r.f1[kk]).toNat zV else zV := rfl
    have HSu := znl hsu; have HPv := znl hpv; generalize zbn ins vs r.f1[kk] = v at HSu HPv; generalize idxF ins r.f1[kk] = i at hix HPv; generalize r.f1[kk] = n at p0 hix; clear hb3 hsu hml hpv; go_upto_region 6 with fail; generalize wq.alloc (.cells #[.bool false, .string ⟨#[]⟩] 34) = w3 at HX3 HB3 hix |-; have HBl := znl (zad HW.out HW.out.size HB3.out); by_cases hi : 0 <= i /\ i < vs.length
    . have hP := HPv.out
      rw [if_pos hi] at hP; obtain ⟨hi1, hi2⟩ := hi; obtain ⟨m, rfl⟩ := Int.eq_ofNat_of_zero_le hi1; have hm : m < vs.length := by omega
      obtain ⟨bv, ov, rfl, v0, v1⟩ := zdd (Kd.C_below HR.out HBl.out) m hm; have hP2 : v = vs[m] := by rw [hP, zoC, znt, zns hm]; rfl
      rw [<- hP2] at v0 v1; have HPv2 : Hid (v = ⟨v.f0, v.f1⟩) := znl rfl; have y0 : w3.cell? ⟨wq.heap.size, 0, none⟩ = some (.bool false) := (zaa HX3.out 0).trans rfl; have y1 : w3.cell? ⟨wq.heap.size, 1, none⟩ = some (.string ⟨#[]⟩) := (zaa HX3.out 1).trans rfl; have hfr0 := zag HX3.out 0; have hfr1 := zag HX3.out 1; clear hP hP2 HPv; go_upto_region 9 with (first | (go_at_call 64; refine hix.mono ?_; rintro e w4 ⟨rfl, rfl⟩))
      have HX5 : Hid (((w3.setCell ⟨wq.heap.size, 0, none⟩ (.bool v.f0)).setCell ⟨wq.heap.size, 1, none⟩ (.string v.f1)).heap[wq.heap.size]? = some (.cells #[.bool v.f0, .string v.f1] 34 (0, 0))) := znl (zar (zar HX3.out 0 _ rfl) 1 _ rfl); have HBx := znl ((HB3.out.setCell (p := ⟨wq.heap.size, 0, none⟩) (znp _) (.bool v.f0)).setCell (p := ⟨wq.heap.size, 1, none⟩) (znp _) (.string v.f1)); generalize (w3.setCell ⟨wq.heap.size, 0, none⟩ (.bool v.f0)).setCell ⟨wq.heap.size, 1, none⟩ (.string v.f1) = w5 at HX5 HBx |-; clear y0 y1 hfr0 hfr1 v0 v1; have z0 : w5.cell? ⟨wq.heap.size, 0, none⟩ = some (.bool v.f0) := (zaa HX5.out 0).trans rfl; have z1 : w5.cell? ⟨wq.heap.size, 1, none⟩ = some (.string v.f1) := (zaa HX5.out 1).trans rfl; have HO5 := znl (Kd.R_below HO.out HBx.out); have HB5 := znl (zad HW.out HW.out.size HBx.out); have HWs := znl HB5.out.size; go_wp2_with (first | ((with_reducible refine zaM (b := .append) (xs := #[.tmp 35, .tmp 37]) rfl ?_); at_builtin; refine Kd.R_append k34 (w0 := w1) w1.heap.size rfl (.tmp 35) (.tmp 37) 25 34 (.agg #[.bool false, .string ⟨#[]⟩]) 24 rfl Tryz.underlying25 zcP rfl (by decide) (by decide) u7 ((r.f1.take kk).map (zbn ins vs)) ⟨v.f0, v.f1⟩ [.bool v.f0, .string v.f1] (fun _ => True) (fun k_ => True /\ some k_ ≠ u7.ownBlock) rfl rfl (zcC _ _ _ ⟨v.f0, v.f1⟩) (fun _ hk => hk) (fun _ _ => trivial) HO5.out HB5.out HWs.out ?aL ?_; (case aL => (have h1 := HML.out; omega)); intro v1 w6 ho hb hg hat; have HO6 : Hid (RVal w6 w1.heap.size v1 ((r.f1.take (kk + 1)).map (zbn ins vs))) := (by show RVal _ _ _ _; rw [HSu.out]; exact ho); have HB6 := znl hb; clear ho hb hg hat))
      go_roundg (r.f1.length - (kk + 1))
      case measure => omega
      case rel => exact ⟨kk + 1, by omega, by omega, by first | rfl | go_num, ⟨HO6.out⟩, ⟨HB6.out⟩⟩
    . have hP := HPv.out
      rw [if_neg hi] at hP; have HPv2 : Hid (v = ⟨false, ⟨#[]⟩⟩) := znl hP; clear hP HPv; by_cases hi1 : 0 <= i
      . have hi2 : ¬ i < (vs.length : Int) := fun h => hi ⟨hi1, h⟩
        clear hi; go_upto_region 9 with (first | (go_at_call 64; refine hix.mono ?_; rintro e w4 ⟨rfl, rfl⟩))
        have z0 : w3.cell? ⟨wq.heap.size, 0, none⟩ = some (.bool false) := (zaa HX3.out 0).trans rfl; have z1 : w3.cell? ⟨wq.heap.size, 1, none⟩ = some (.string ⟨#[]⟩) := (zaa HX3.out 1).trans rfl; have HO5 := znl (Kd.R_below HO.out HB3.out); have HB5 := znl (zad HW.out HW.out.size HB3.out); have HWs := znl HB5.out.size; go_wp2_with (first | ((with_reducible refine zaM (b := .append) (xs := #[.tmp 35, .tmp 37]) rfl ?_); at_builtin; refine Kd.R_append k34 (w0 := w1) w1.heap.size rfl (.tmp 35) (.tmp 37) 25 34 (.agg #[.bool false, .string ⟨#[]⟩]) 24 rfl Tryz.underlying25 zcP rfl (by decide) (by decide) u7 ((r.f1.take kk).map (zbn ins vs)) ⟨false, ⟨#[]⟩⟩ [.bool false, .string ⟨#[]⟩] (fun _ => True) (fun k_ => True /\ some k_ ≠ u7.ownBlock) rfl rfl (zcC _ _ _ ⟨false, ⟨#[]⟩⟩) (fun _ hk => hk) (fun _ _ => trivial) HO5.out HB5.out HWs.out ?aL ?_; (case aL => (have h1 := HML.out; omega)); intro v1 w6 ho hb hg hat; have HO6 : Hid (RVal w6 w1.heap.size v1 ((r.f1.take (kk + 1)).map (zbn ins vs))) := (by show RVal _ _ _ _; rw [HSu.out, HPv2.out]; exact ho); have HB6 := znl hb; clear ho hb hg hat))
        go_roundg (r.f1.length - (kk + 1))
        case measure => omega
        case rel => exact ⟨kk + 1, by omega, by omega, by first | rfl | go_num, ⟨HO6.out⟩, ⟨HB6.out⟩⟩
      . clear hi
        go_upto_region 9 with (first | (go_at_call 64; refine hix.mono ?_; rintro e w4 ⟨rfl, rfl⟩))
        have z0 : w3.cell? ⟨wq.heap.size, 0, none⟩ = some (.bool false) := (zaa HX3.out 0).trans rfl; have z1 : w3.cell? ⟨wq.heap.size, 1, none⟩ = some (.string ⟨#[]⟩) := (zaa HX3.out 1).trans rfl; have HO5 := znl (Kd.R_below HO.out HB3.out); have HB5 := znl (zad HW.out HW.out.size HB3.out); have HWs := znl HB5.out.size; go_wp2_with (first | ((with_reducible refine zaM (b := .append) (xs := #[.tmp 35, .tmp 37]) rfl ?_); at_builtin; refine Kd.R_append k34 (w0 := w1) w1.heap.size rfl (.tmp 35) (.tmp 37) 25 34 (.agg #[.bool false, .string ⟨#[]⟩]) 24 rfl Tryz.underlying25 zcP rfl (by decide) (by decide) u7 ((r.f1.take kk).map (zbn ins vs)) ⟨false, ⟨#[]⟩⟩ [.bool false, .string ⟨#[]⟩] (fun _ => True) (fun k_ => True /\ some k_ ≠ u7.ownBlock) rfl rfl (zcC _ _ _ ⟨false, ⟨#[]⟩⟩) (fun _ hk => hk) (fun _ _ => trivial) HO5.out HB5.out HWs.out ?aL ?_; (case aL => (have h1 := HML.out; omega)); intro v1 w6 ho hb hg hat; have HO6 : Hid (RVal w6 w1.heap.size v1 ((r.f1.take (kk + 1)).map (zbn ins vs))) := (by show RVal _ _ _ _; rw [HSu.out, HPv2.out]; exact ho); have HB6 := znl hb; clear ho hb hg hat))
        go_roundg (r.f1.length - (kk + 1))
        case measure => omega
        case rel => exact ⟨kk + 1, by omega, by omega, by first | rfl | go_num, ⟨HO6.out⟩, ⟨HB6.out⟩⟩
  . have hltz : ¬ (kk : Int) < (r.f1.length : Int) := by omega
    obtain rfl : kk = r.f1.length := by omega
    have hO := HO.out; rw [zn1] at hO; obtain ⟨A5, n5, rfl, _, hC5⟩ := Kd.R_reads hO; rw [zn0] at hC5 |-; have hB := HB.out.trans (HW.out.mono HB.out.size); have hX := zah HK.out HW.out; have hcall := HOf.out wq hB A5 n5 hC5; have HBa := znl hB; have x0 : wq.cell? ⟨w.heap.size, 0, none⟩ = some (.string r.f0) := (zaa hX 0).trans rfl; have x1 : wq.cell? ⟨w.heap.size, 1, none⟩ = some (.slice B1 r.f1.length c1) := (zaa hX 1).trans rfl; have x2 : wq.cell? ⟨w.heap.size, 2, none⟩ = some (.slice B2 r.f2.length c2) := (zaa hX 2).trans rfl; have x3 : wq.cell? ⟨w.heap.size, 3, none⟩ = some (.slice B3 r.f3.length c3) := (zaa hX 3).trans rfl; have x4 : wq.cell? ⟨w.heap.size, 4, none⟩ = some (.slice B4 r.f4.length c4) := (zaa hX 4).trans rfl; clear hO hC5 hB hX; go_wp2_with (first | (go_at_call 34; refine hcall.mono ?_; rintro e w7 ⟨v7, rfl, hR7, hb7⟩; have HR7 := znl (Kd.R_lower hR7 HBa.out.size); have HB7 := znl (zad HBa.out HBa.out.size hb7); clear hR7 hb7))
    go_ret
    exact ⟨_, rfl, HR7.out, HB7.out⟩

def SetIs (w : World) (b n : Nat) (s : zab -> Bool) : Prop := ∃ f, MapIs Tryz.prog 9 w b n f /\ ∀ k, (f k).getD (.bool false) = .bool (s k)
theorem SetIs.made (w : World) : SetIs (w.alloc (.map #[] 0)) w.heap.size 0 (fun _ => false) := ⟨_, MapIs.made w, fun _ => rfl⟩
theorem SetIs.lt {w : World} {b n : Nat} {s : zab -> Bool} (h : SetIs w b n s) : b < w.heap.size := by obtain ⟨f, h, _⟩ := h; exact h.lt
theorem SetIs.mono {w : World} {b n n' : Nat} {s : zab -> Bool} (h : SetIs w b n s) (hn : n <= n') : SetIs w b n' s := by obtain ⟨f, h, h2⟩ := h; exact ⟨f, h.mono hn, h2⟩
theorem SetIs.below {w w' : World} {b n : Nat} {s : zab -> Bool} (h : SetIs w b n s) (hb : Below w.heap.size w w') : SetIs w' b n s := by obtain ⟨f, h, h2⟩ := h; exact ⟨f, h.below hb, h2⟩
theorem SetIs.grown {w w' : World} {b n : Nat} {s : zab -> Bool} {row : Option Nat} (h : SetIs w b n s) (hg : w.grownBy w' row) (hne : some b ≠ row) : SetIs w' b n s := by obtain ⟨f, h, h2⟩ := h; exact ⟨f, h.grown hg hne, h2⟩
theorem MapIs.ne_cells {w : World} {kt b n : Nat} {f : zab -> Option Value} (h : MapIs Tryz.prog kt w b n f) {g t : Nat} {cs : Array Value} {fr : Nat × Nat} (hg : w.heap[g]? = some (.cells cs t fr)) : b ≠ g := by
 rintro rfl; obtain ⟨D, ⟨es, clock, hb, _⟩, _⟩ := h; rw [hb] at hg; cases hg
theorem SetIs.ne_cells {w : World} {b n : Nat} {s : zab -> Bool} (h : SetIs w b n s) {g t : Nat} {cs : Array Value} {fr : Nat × Nat} (hg : w.heap[g]? = some (.cells cs t fr)) : b ≠ g := by obtain ⟨f, h, _⟩ := h; exact h.ne_cells hg
theorem SetIs.look {w : World} {b n : Nat} {s : zab -> Bool} (h : SetIs w b n s) (k : ByteArray) (hs : k.size <= maxLen) :
 (Instr.lookup 119 (.map (some b)) (.string k) false).run Tryz.prog w = .ok (.bool (s k.data.toList)) w := by
 obtain ⟨f, h, h2⟩ := h; rw [h.look Tryz.underlying9 Tryz.underlying119 (Tryz.zeroValue4 w) k hs]; exact congrArg (fun v => Result.ok v w) (h2 k.data.toList)
def addS (s : zab -> Bool) (k : zab) : zab -> Bool := fun x => s x || x == k
theorem SetIs.put {w : World} {b n : Nat} {s : zab -> Bool} (h : SetIs w b n s) (hn : n < maxLen) (k : ByteArray) (hs : k.size <= maxLen) :
 ∃ w', (Instr.mapUpdate 119 (.map (some b)) (.string k) (.bool true)).run Tryz.prog w = .ok () w' /\ SetIs w' b (n + 1) (addS s k.data.toList) /\ w.grownBy w' (some b) := by
 obtain ⟨f, h, h2⟩ := h; obtain ⟨w', hrun, h', hg⟩ := h.store Tryz.underlying9 Tryz.underlying119 hn k hs (.bool true); refine ⟨w', hrun, ⟨_, h', fun x => ?_⟩, hg⟩
 unfold setF addS; by_cases e : x = k.data.toList
 . rw [if_pos e]
   simp [e]
 . rw [if_neg e, h2 x]
   simp [e]
def addL (s : zab -> Bool) (l : List zab) : zab -> Bool := fun x => s x || l.contains x
theorem zfm (s : zab -> Bool) : addL s [] = s := by funext x; simp [addL]
theorem zei (s : zab -> Bool) (l : List zab) (k : zab) : addL s (l ++ [k]) = addS (addL s l) k := by
 funext x
 unfold addL addS; rw [Bool.or_assoc]; congr 1
 rw [Bool.eq_iff_iff]; simp

end Go.Proofs.YtdpgdnpddndeoaaGreatDoor.X

namespace Go.Proofs.YtdpgdnpddndeoaaGreatDoor.X
def zaA (w : zab -> Bool) : List zca -> List Bool × (zab -> Bool)
 | [] => ([], w)
 | s :: r => ((zaA w r).2 s.out :: (zaA w r).1, fun x => (zaA w r).2 x || ((zaA w r).2 s.out && s.args.contains x))
def zco (outs : List zab) : List zca -> List Bool
 | [] => []
 | s :: r => (outs.contains s.out || (r.zip (zco outs r)).any fun p => p.2 && p.1.args.contains s.out) :: zco outs r
theorem zj6 (outs : List zab) : ∀ L : List zca, (zaA (fun x => outs.contains x) L).1 = zco outs L /\ ∀ x, (zaA (fun x => outs.contains x) L).2 x = (outs.contains x || (L.zip (zco outs L)).any fun p => p.2 && p.1.args.contains x)
 | [] => ⟨rfl, fun x => by simp [zaA, zco]⟩
 | s :: r => by
  obtain ⟨h1, h2⟩ := zj6 outs r; have hd : (zaA (fun x => outs.contains x) r).2 s.out = (outs.contains s.out || (r.zip (zco outs r)).any fun p => p.2 && p.1.args.contains s.out) := h2 s.out
  refine ⟨?_, fun x => ?_⟩
  . show (zaA (fun x => outs.contains x) r).2 s.out :: (zaA (fun x => outs.contains x) r).1 = _
    rw [h1, hd]; rfl
  . show ((zaA (fun x => outs.contains x) r).2 x || ((zaA (fun x => outs.contains x) r).2 s.out && s.args.contains x)) = _
    rw [h2 x, hd]; show _ = (outs.contains x || ((((outs.contains s.out || (r.zip (zco outs r)).any fun p => p.2 && p.1.args.contains s.out)) && s.args.contains x) || (r.zip (zco outs r)).any fun p => p.2 && p.1.args.contains x))
    generalize (r.zip (zco outs r)).any (fun p => p.2 && p.1.args.contains x) = u
    generalize ((outs.contains s.out || (r.zip (zco outs r)).any fun p => p.2 && p.1.args.contains s.out) && s.args.contains x) = v
    cases outs.contains x <;> cases u <;> cases v <;> rfl
theorem ze2 (w : zab -> Bool) : ∀ L : List zca, (zaA w L).1.length = L.length
 | [] => rfl
 | s :: r => by show (zaA w r).1.length + 1 = _; rw [ze2 w r]; rfl
def zaT : List zab -> List zab
 | [] => []
 | [x] => [x]
 | x :: y :: r => if x = y then zaT (y :: r) else x :: zaT (y :: r)
theorem zfn : ∀ (l : List zab) (x : zab), x ∈ zaT l ↔ x ∈ l
 | [], x => Iff.rfl
 | [y], x => Iff.rfl
 | y :: z :: r, x => by
  unfold zaT; split
  . rename_i h
    rw [zfn (z :: r) x, h]; simp
  . rw [zow, zfn (z :: r) x, zow, zow]
    simp only [zow]
def zcj (r : zcQ) (m : List Bool) : List zab := zaT (((r.steps.zip m).flatMap fun p => p.1.args.filter fun a => p.2 && r.ins.contains a).mergeSort fun x y => decide (x <= y))
end Go.Proofs.YtdpgdnpddndeoaaGreatDoor.X

namespace Go.Proofs.YtdpgdnpddndeoaaGreatDoor.X
open Go.RowKit Go.Maps Go.Proofs.YtdpgdnpddndeoaaGreatDoorW.PrintWords Go.Proofs.YtdpgdnpddndeoaaGreatDoorW.PrintMore Go.Proofs.YtdpgdnpddndeoaaGreatDoorW.PrintLast
abbrev zch (w : World) (base : Nat) (v : Value) (l : List Bool) : Prop := Kd.R Kd.bool 4 w base (fun _ => True) v l
def zjk (l : List Bool) (w : World) (e : Ending) (w' : World) : Prop := ∃ v, e = .returned v /\ zch w' w.heap.size v l /\ Below w.heap.size w w'
theorem ziW (w : zab -> Bool) (L : List zca) (j : Nat) (h : j < L.length) : zaA w (L.drop j) = ((zaA w (L.drop (j + 1))).2 L[j].out :: (zaA w (L.drop (j + 1))).1, fun x => (zaA w (L.drop (j + 1))).2 x || ((zaA w (L.drop (j + 1))).2 L[j].out && L[j].args.contains x)) := by
 rw [List.drop_eq_getElem_cons h]; rfl
theorem zi8 (j : Nat) (b : Bool) (M : List Bool) : (List.replicate (j + 1) false ++ M).set j b = List.replicate j false ++ b :: M := by
 rw [List.set_append_left _ _ (by simp), List.replicate_succ', List.set_append_right _ _ (by simp)]
 simp
theorem zd4 (r : zai) (B1 : Option Addr) (c1 : Nat) (B2 : Option Addr) (c2 : Nat) (B3 : Option Addr) (c3 : Nat) (B4 : Option Addr) (c4 : Nat) (A : Option Addr) (c : Nat) (fs : List ByteArray) (w : World)
 (h4 : Kd.C k24 w B4 r.f4.length r.f4) (hr : Kd.C Kd.string w A fs.length fs) (hF : FitR r) (hl : fs.length <= 1000) (hsz : ∀ x ∈ fs, x.size <= maxLen) :
 Calls Tryz.prog 66 #[.agg (zaq r B1 c1 B2 c2 B3 c3 B4 c4), .slice A fs.length c] w (zjk (zaA (fun x => (zac fs).contains x) (zax r).steps).1 w) := by
 have hn4 := hF.steps; have hW := (zno w.heap.size w).alloc (znp _) (.cells (zaq r B1 c1 B2 c2 B3 c3 B4 c4) 45); have HK := znl (zao w (.cells (zaq r B1 c1 B2 c2 B3 c3 B4 c4) 45)); have HB := znl hW; have H4 := znl (Kd.C_below h4 hW); have HR := znl (Kd.C_below hr hW); have HF := znl hF; have HS := znl hsz; obtain ⟨st, hst⟩ : ∃ st, st = (zax r).steps := ⟨_, rfl⟩; have hsl : st.length = r.f4.length := by rw [hst]; exact zn0 ..
 have HSl := znl hsl; have HSt := znl hst; rw [<- hst]; obtain ⟨w0, hw0⟩ : ∃ w0 : zab -> Bool, w0 = fun x => (zac fs).contains x := ⟨_, rfl⟩
 rw [<- hw0]; have HW0 := znl hw0; clear hw0; clear hW h4 hr hF hsz hst hsl; unfold zaq at *; have hmm := @run_makeMap Tryz.prog; go_enter Tryz.func66, Tryz.ntmps66
 go_upto_region 1 with fail; generalize w.alloc (.cells #[.string r.f0, .slice B1 r.f1.length c1, .slice B2 r.f2.length c2, .slice B3 r.f3.length c3, .slice B4 r.f4.length c4] 45) = w1 at HB HK H4 HR |-; have k4 : w1.cell? ⟨w.heap.size, 4, none⟩ = some (.slice B4 r.f4.length c4) := (zaa HK.out 4).trans rfl; have hz0 : (0 : Int) <= (r.f4.length : Int) := by omega
 go_upto_region 2 with (first | (at_make; refine Kd.R_make Kd.bool (w0 := w1) w1.heap.size 4 rfl rfl 55 (.tmp 15) (.tmp 15) rfl (r.f4.length : Int) rfl rfl Tryz.underlying55 (.bool false) 1 info4 rfl (by decide) (by decide) false (okp := fun _ => True) (ok := fun _ => True) rfl (fun _ h => h) trivial hz0 (by omega) (zno _ _) (znp _) ?_; intro v1 w2 ho hb hg hv; have HO2 := znl ho; have HB2 := znl hb; clear ho hb hg hv))
 rw [zoC] at HO2; have HO3 := znl (Kd.R_below HO2.out ((zno w2.heap.size w2).alloc (znp _) (.map #[] 0))); have HB3 : Hid (Below w1.heap.size w1 (w2.alloc (.map #[] 0))) := znl (HB2.out.alloc HB2.out.size _); have HE3 := znl (SetIs.made w2); have HZ2 := znl HB2.out.size; have HRt := znl (Kd.R_lt HO2.out); clear HO2 HB2; go_upto_region 3 with fail; generalize w2.heap.size = m at HE3 HZ2 HRt |-; generalize w2.alloc (.map #[] 0) = w3 at HO3 HB3 HE3 |-; go_wp2_with fail; go_loopg [8, 20] fs.length (fun gg _ s20 wr => ∃ kk : Nat, kk <= fs.length /\ fs.length - kk <= gg /\ s20 = .int .i64 kk /\ Aside0 (SetIs wr m kk (addL (fun _ => false) ((zac fs).take kk))) /\ Aside0 (zch wr w1.heap.size v1 (List.replicate r.f4.length false)) /\ Aside0 (Below w1.heap.size w1 wr))
 case atStart => exact ⟨0, zn8 _, by omega, rfl, ⟨by rw [List.take_zero, zfm]; exact HE3.out⟩, ⟨HO3.out⟩, ⟨HB3.out⟩⟩
 case round =>
  obtain ⟨kk, hkk, hgk, rfl, HE, HO, HW⟩ := hrel; by_cases hlt : kk < fs.length
  . have hltz : (kk : Int) < (fs.length : Int) := by omega
    obtain ⟨b, o, rfl, p0⟩ := zbc (Kd.C_below HR.out HW.out) kk hlt; obtain ⟨w4, hrun, hE4, hg4⟩ := HE.out.put (by unfold maxLen; omega) fs[kk] (HS.out _ (zoy hlt))
    have hst : (zac fs).take (kk + 1) = (zac fs).take kk ++ [fs[kk].data.toList] := by rw [znO (by rw [zaZ]; exact hlt), zcD fs kk hlt]
    rw [<- zei, <- hst] at hE4; have HE4 := znl hE4; have HW4 : Hid (Below w1.heap.size w1 w4) := znl (HW.out.grown hg4 HW.out.size (fun k hk => by cases hk; exact HZ2.out))
    have HO4 : Hid (zch w4 w1.heap.size v1 (List.replicate r.f4.length false)) := znl (Kd.R_mono (Kd.R_step (Kd.R_mono (Kd.R_bound HO.out) (fun k hk => hk)) (fun k hk hlt => hg4.block k hlt (fun e => by
     cases e
     obtain ⟨_, _, _, q, _, cells, hc⟩ := hk; exact HE.out.ne_cells hc rfl))) (fun _ _ => trivial))
    generalize fs[kk] = n at p0 hrun; clear hst hE4 hg4; go_wp2_with fail; go_roundg (fs.length - (kk + 1))
    case measure => omega
    case rel => exact ⟨kk + 1, by omega, by omega, by go_num, ⟨HE4.out⟩, ⟨HO4.out⟩, ⟨HW4.out⟩⟩
  . have hltz : ¬ (kk : Int) < (fs.length : Int) := by omega
    obtain rfl : kk = fs.length := by omega
    have HE1 : Hid (SetIs wr m (fs.length + 0) (zaA w0 (st.drop r.f4.length)).2) := by
     have h := HE.out; have e : (zaA w0 (st.drop r.f4.length)).2 = addL (fun _ => false) ((zac fs).take fs.length) := by
      rw [zn7 (by rw [HSl.out]; exact znp _), zox (by rw [zaZ]; exact znp _), HW0.out]
      funext x
      simp [zaA, addL]
     show SetIs _ _ _ _
     rw [e]; exact h
    have HO1 : Hid (zch wr w1.heap.size v1 (List.replicate r.f4.length false ++ (zaA w0 (st.drop r.f4.length)).1)) := by
     have e : (zaA w0 (st.drop r.f4.length)).1 = [] := by rw [zn7 (by rw [HSl.out]; exact znp _)]; rfl
     show zch _ _ _ _
     rw [e, List.append_nil]; exact HO.out
    have k4' := zaf HW.out k4; go_upto_region 8 with fail; clear HE HO HE3 HO3 HB3; go_wp2_with fail; go_loopg [9, 10, 12] r.f4.length (fun gg s9 _ _ wr => ∃ jj : Nat, jj <= r.f4.length /\ jj <= gg /\ s9 = .int .i64 ((jj : Int) - 1) /\ Aside0 (SetIs wr m (fs.length + (r.f4.length - jj) * 1000) (zaA w0 (st.drop jj)).2) /\ Aside0 (zch wr w1.heap.size v1 (List.replicate jj false ++ (zaA w0 (st.drop jj)).1)) /\ Aside0 (Below w1.heap.size w1 wr))
    case atStart => exact ⟨r.f4.length, znp _, znp _, rfl, ⟨by rw [Nat.sub_self, Nat.zero_mul]; exact HE1.out⟩, ⟨HO1.out⟩, ⟨HW.out⟩⟩
    case round =>
     obtain ⟨jj, hjj, hgj, rfl, HE, HO, HW5⟩ := hrel; obtain ⟨wq, rfl⟩ : ∃ wq, wq = wr := ⟨wr, rfl⟩; cases jj with
     | zero =>
      have hO := HO.out; rw [List.drop_zero, List.replicate_zero, List.nil_append] at hO; have HOf := znl hO; clear hO; go_wp2_with fail; go_ret
      exact ⟨_, rfl, Kd.R_lower HOf.out HB.out.size, HB.out.trans (HW5.out.mono HB.out.size)⟩
     | succ j =>
      have ej : (((j + 1 : Nat) : Int) - 1) = (j : Int) := by omega
      rw [ej]; have hlj : j < r.f4.length := by omega
      have hljz : (j : Int) < (r.f4.length : Int) := by omega
      have hj0 : (0 : Int) <= (j : Int) := by omega
      clear ej; have k4q := zaf HW5.out k4; obtain ⟨b, o, C2, d2, C3, d3, rfl, p0, p1, p2, p3, p4, g2, g3⟩ := zc7 H4.out j hlj; replace p0 := zaf HW5.out p0
      replace p1 := zaf HW5.out p1
      replace p2 := zaf HW5.out p2
      replace p3 := zaf HW5.out p3
      replace p4 := zaf HW5.out p4
      have hdr := ziW w0 st j (by rw [HSl.out]; exact hlj)
      have hsx : st[j]'(by rw [HSl.out]; exact hlj) = zaJ r.f4[j] := by
       have h := HSt.out; subst h; exact List.getElem_map ..
      rw [hsx] at hdr; obtain ⟨hxo, hxl, hxn⟩ := HF.out.stepN _ (zoy hlj); have hml : (List.replicate (j + 1) false ++ (zaA w0 (st.drop (j + 1))).1).length = r.f4.length := by
       rw [znC, zoD, ze2, List.length_drop, HSl.out]; omega
      have HDr := znl hdr; have HXo := znl hxo; have HXn := znl hxn; have HSm := znl (zi8 j ((zaA w0 (st.drop (j + 1))).2 (zaJ r.f4[j]).out) (zaA w0 (st.drop (j + 1))).1); have HEq : Hid (SetIs wq m (fs.length + (r.f4.length - (j + 1)) * 1000) (zaA w0 (st.drop (j + 1))).2) := znl HE.out; have HOq : Hid (zch wq w1.heap.size v1 (List.replicate (j + 1) false ++ (zaA w0 (st.drop (j + 1))).1)) := znl HO.out; generalize hx : r.f4[j] = x at p0 p1 p2 p3 p4 g2 g3 HDr HXo HXn hxl HSm; generalize (zaA w0 (st.drop (j + 1))).1 = M at hml HDr HSm HOq; generalize (zaA w0 (st.drop (j + 1))).2 = s at HDr HSm HEq; clear hx hdr hsx hxo hxn HE HO; obtain ⟨g, cap, hv1, hbg, hgl, _⟩ := Kd.R_form HOq.out (by rw [hml]; omega)
      rw [hml] at hv1; subst hv1; have hgz : (g : Nat) < wq.heap.size := hgl; have HGb : Hid (w1.heap.size <= g) := znl hbg; have HGz := znl hgz; have hb3 := (zno wq.heap.size wq).alloc (znp _) (.cells #[.string x.f0, .int .i64 x.f1, .slice C2 x.f2.length d2, .slice C3 x.f3.length d3, .int .i64 x.f4] 24); have HX3 := znl (zao wq (.cells #[.string x.f0, .int .i64 x.f1, .slice C2 x.f2.length d2, .slice C3 x.f3.length d3, .int .i64 x.f4] 24)); have HB3 : Hid (Below w1.heap.size w1 (wq.alloc (.cells #[.string x.f0, .int .i64 x.f1, .slice C2 x.f2.length d2, .slice C3 x.f3.length d3, .int .i64 x.f4] 24))) := znl (HW5.out.alloc HW5.out.size _); have HG2 := znl g2; have HE3 := znl (HEq.out.below hb3); have HO3 := znl (Kd.R_below HOq.out hb3); clear g2 g3 hb3 hbg hgl hgz hml; go_upto_region 12 with fail; generalize wq.alloc (.cells #[.string x.f0, .int .i64 x.f1, .slice C2 x.f2.length d2, .slice C3 x.f3.length d3, .int .i64 x.f4] 24) = w3 at HX3 HB3 HE3 HO3 |-; have x0 : w3.cell? ⟨wq.heap.size, 0, none⟩ = some (.string x.f0) := (zaa HX3.out 0).trans rfl; have hlk := HE3.out.look x.f0 HXo.out; obtain ⟨hc0, hf0⟩ := Kd.R_celln false HO3.out (j : Int) hj0 (by omega)
      have hP := Kd.R_putn HO3.out (j : Int) (s x.f0.data.toList); rw [zoC] at hc0 hf0 hP; have hrep : rdOf false (List.replicate (j + 1) false ++ M) (j : Int) = false := by
       unfold rdOf; rw [zoC, znt, List.getElem?_append_left (by simp), List.getElem?_replicate]
       simp
      rw [hrep] at hc0; have hSm2 := HSm.out; have hso : (zaJ x).out = x.f0.data.toList := rfl; rw [hso] at hSm2; rw [hSm2] at hP; have HDr2 : Hid (zaA w0 (st.drop j) = (s x.f0.data.toList :: M, fun y => s y || (s x.f0.data.toList && (zac x.f2).contains y))) := znl HDr.out
      have HX4 : Hid ((w3.setCell ⟨g, j, none⟩ (.bool (s x.f0.data.toList))).heap[wq.heap.size]? = some (.cells #[.string x.f0, .int .i64 x.f1, .slice C2 x.f2.length d2, .slice C3 x.f3.length d3, .int .i64 x.f4] 24 (0, 0))) :=
       znl ((Below.heap_setCell w3 ⟨g, j, none⟩ (.bool (s x.f0.data.toList)) wq.heap.size (by have := HGz.out; show wq.heap.size ≠ g; omega)).trans HX3.out)
      have HP4 := znl hP; have HB4 : Hid (Below w1.heap.size w1 (w3.setCell ⟨g, j, none⟩ (.bool (s x.f0.data.toList)))) := znl (HB3.out.setCell (p := ⟨g, j, none⟩) HGb.out _); have hng : m ≠ g := by
       obtain ⟨cells, hcc⟩ := Kd.R_typed HO3.out g (by simp [Value.ownBlock])
       exact HE3.out.ne_cells hcc
      have HE4 : Hid (SetIs (w3.setCell ⟨g, j, none⟩ (.bool (s x.f0.data.toList))) m (fs.length + (r.f4.length - (j + 1)) * 1000) s) := znl (HE3.out.grown (zev w3 g j _) (by intro e; injection e; omega))
      have HNg := znl hng; generalize s x.f0.data.toList = b0 at hlk HP4 HDr2 HX4 HB4 HE4; clear hP hSm2 hso HSm HDr hrep hng; go_upto_region 13 with fail; generalize w3.setCell ⟨g, j, none⟩ (.bool b0) = w4 at HP4 HX4 HB4 HE4 |-; obtain ⟨hc1, _⟩ := Kd.R_celln false HP4.out (j : Int) hj0 (by omega)
      rw [zoC] at hc1; have hrd : rdOf false (List.replicate j false ++ b0 :: M) (j : Int) = b0 := by unfold rdOf; simp [znt]
      rw [hrd] at hc1; have HOj : Hid (zch w4 w1.heap.size (.slice (some ⟨g, 0, none⟩) r.f4.length cap) (List.replicate j false ++ (zaA w0 (st.drop j)).1)) := by
       show zch _ _ _ _
       rw [HDr2.out]; exact HP4.out
      have x2 : w4.cell? ⟨wq.heap.size, 2, none⟩ = some (.slice C2 x.f2.length d2) := (zaa HX4.out 2).trans rfl; clear hrd hc0 hf0 hlk x0; cases b0 with
      | false =>
       have HEj : Hid (SetIs w4 m (fs.length + (r.f4.length - j) * 1000) (zaA w0 (st.drop j)).2) := by
        show SetIs _ _ _ _
        rw [HDr2.out]; have e : (fun y => s y || (false && (zac x.f2).contains y)) = s := by funext y; simp
        dsimp only; rw [e]; exact HE4.out.mono (Nat.add_le_add_left (znH _ (by omega)) _)
       go_wp2_with fail; go_roundg j
       case measure => omega
       case rel => exact ⟨j, by omega, znp _, by first | rfl | go_num, ⟨HEj.out⟩, ⟨HOj.out⟩, ⟨HB4.out⟩⟩
      | true =>
       go_wp2_with fail; go_loopg [12, 54] x.f2.length (fun gg _ s54 wi => ∃ k : Nat, k <= x.f2.length /\ x.f2.length - k <= gg /\ s54 = .int .i64 k /\ Aside0 (SetIs wi m (fs.length + (r.f4.length - (j + 1)) * 1000 + k) (addL s ((zac x.f2).take k))) /\ Aside0 (zch wi w1.heap.size (.slice (some ⟨g, 0, none⟩) r.f4.length cap) (List.replicate j false ++ (zaA w0 (st.drop j)).1)) /\ Aside0 (Below w1.heap.size w1 wi))
       case atStart => exact ⟨0, zn8 _, by omega, rfl, ⟨by rw [List.take_zero, zfm]; exact HE4.out⟩, ⟨HOj.out⟩, ⟨HB4.out⟩⟩
       case round =>
        obtain ⟨k, hk, hgk2, rfl, HEk, HOk, HBk⟩ := hrel; by_cases hlk2 : k < x.f2.length
        . have hlkz : (k : Int) < (x.f2.length : Int) := by omega
          obtain ⟨b5, o5, rfl, q0⟩ := zbc (Kd.C_below HG2.out HBk.out) k hlk2; have hbound : fs.length + (r.f4.length - (j + 1)) * 1000 + k < maxLen := by
           have : (r.f4.length - (j + 1)) * 1000 <= 1000 * 1000 := znH _ (by omega)
           unfold maxLen; omega
          obtain ⟨w6, hrun, hE6, hg6⟩ := HEk.out.put hbound x.f2[k] (HXn.out _ (zoy hlk2)); have hst2 : (zac x.f2).take (k + 1) = (zac x.f2).take k ++ [x.f2[k].data.toList] := by rw [znO (by rw [zaZ]; exact hlk2), zcD x.f2 k hlk2]
          rw [<- zei, <- hst2] at hE6; have HE6 := znl hE6; have HW6 : Hid (Below w1.heap.size w1 w6) := znl (HBk.out.grown hg6 HBk.out.size (fun k hk => by cases hk; exact HZ2.out))
          have HO6 : Hid (zch w6 w1.heap.size (.slice (some ⟨g, 0, none⟩) r.f4.length cap) (List.replicate j false ++ (zaA w0 (st.drop j)).1)) := znl (Kd.R_mono (Kd.R_step (Kd.R_bound HOk.out) (fun k hk hlt => hg6.block k hlt (fun e => by
           cases e
           obtain ⟨_, _, _, q, _, cells, hc⟩ := hk; exact HEk.out.ne_cells hc rfl))) (fun _ _ => trivial))
          generalize x.f2[k] = n at q0 hrun; clear hst2 hE6 hg6 hbound; go_wp2_with fail; go_roundg (x.f2.length - (k + 1))
          case measure => omega
          case rel => exact ⟨k + 1, by omega, by omega, by first | rfl | go_num, ⟨HE6.out⟩, ⟨HO6.out⟩, ⟨HW6.out⟩⟩
        . have hlkz : ¬ (k : Int) < (x.f2.length : Int) := by omega
          obtain rfl : k = x.f2.length := by omega
          have HEj : Hid (SetIs wr m (fs.length + (r.f4.length - j) * 1000) (zaA w0 (st.drop j)).2) := by
           have h := HEk.out; rw [zox (by rw [zaZ]; exact znp _)] at h
           show SetIs _ _ _ _
           rw [HDr2.out]; have e : (fun y => s y || (true && (zac x.f2).contains y)) = addL s (zac x.f2) := by funext y; simp [addL]
           dsimp only; rw [e]; refine h.mono ?_; have : (r.f4.length - j) * 1000 = (r.f4.length - (j + 1)) * 1000 + 1000 := by
            have e2 : r.f4.length - j = (r.f4.length - (j + 1)) + 1 := by omega
            rw [e2, Nat.add_mul]
           omega
          go_wp2_with fail; go_roundg j
          case measure => omega
          case rel => exact ⟨j, by omega, znp _, by first | rfl | go_num, ⟨HEj.out⟩, ⟨HOk.out⟩, ⟨HBk.out⟩⟩

end Go.Proofs.YtdpgdnpddndeoaaGreatDoor.X

namespace Go.Proofs.YtdpgdnpddndeoaaGreatDoor.X
open Go.RowKit Go.Maps Go.Sort Go.Proofs.YtdpgdnpddndeoaaGreatDoorW.PrintWords Go.Proofs.YtdpgdnpddndeoaaGreatDoorW.PrintMore Go.Proofs.YtdpgdnpddndeoaaGreatDoorW.PrintLast
theorem zeF : ∀ l : List zab, (zaT l).length <= l.length
 | [] => znp _
 | [_] => znp _
 | y :: z :: r => by
  have := zeF (z :: r); unfold zaT; split
  . simp only [List.length_cons] at this |-; omega
  . simp only [List.length_cons] at this |-; omega
theorem zgt : ∀ (l : List zab) (x : zab), zaT (l ++ [x]) = zaT l ++ if l.getLast? = some x then [] else [x]
 | [], x => rfl
 | [y], x => by
  show zaT [y, x] = _
  unfold zaT; by_cases h : y = x
  . rw [if_pos h, if_pos (by rw [h]; rfl), h]
    rfl
  . rw [if_neg h, if_neg (by simpa using h)]
    rfl
 | y :: z :: r, x => by
  have ih := zgt (z :: r) x; have hl : (y :: z :: r).getLast? = (z :: r).getLast? := List.getLast?_cons_cons ..; rw [hl]; show zaT (y :: z :: (r ++ [x])) = _
  unfold zaT; split
  . exact ih
  . rw [show z :: (r ++ [x]) = (z :: r) ++ [x] from rfl, ih]
    rfl
theorem zfh (l : List zab) (j : Nat) (h : j < l.length) : l.toArray[j]! = l[j] := by
 rw [getElem!_pos l.toArray j (by simpa using h)]
 simp
theorem zh7 (l : List zab) (x : zab) : ∀ m, m <= l.length -> Lib.compactUpTo (l ++ [x]).toArray m = Lib.compactUpTo l.toArray m
 | 0, _ => rfl
 | m + 1, h => by
  have e : ∀ j, j < l.length -> (l ++ [x]).toArray[j]! = l.toArray[j]! := by
   intro j hj; rw [zfh _ _ (by simp; omega), zfh _ _ hj, List.getElem_append_left hj]
  rw [Lib.compactUpTo_succ, Lib.compactUpTo_succ, zh7 l x m (by omega), e m (by omega)]
  have hk : Lib.keeps (l ++ [x]).toArray m = Lib.keeps l.toArray m := by
   unfold Lib.keeps; rw [e m (by omega), e (m - 1) (by omega)]
  rw [hk]
theorem ziA (l : List zab) : Lib.compact l = zaT l := by
 have key : ∀ (n : Nat) (l : List zab), l.length = n -> Lib.compact l = zaT l := by
  intro n; induction n with
  | zero =>
   intro l h; have := znr h; subst this; rfl
  | succ n ih =>
   intro l h; rcases List.eq_nil_or_concat l with h0 | ⟨k, x, hk⟩
   . rw [h0] at h; simp at h
   . rw [List.concat_eq_append] at hk
     subst hk; have hkl : k.length = n := by simpa using h
     rw [zgt, <- ih k hkl]; unfold Lib.compact; rw [znC, List.length_singleton, Lib.compactUpTo_succ, zh7 k x k.length (znp _)]; congr 1
     have hx : (k ++ [x]).toArray[k.length]! = x := by simp
     rw [hx]; cases hkn : k.length with
     | zero =>
      have := znr hkn; subst this; rfl
     | succ m =>
      have hlast : (k ++ [x]).toArray[m + 1 - 1]! = k[m] := by
       rw [Nat.add_sub_cancel, zfh _ m (by simp; omega), List.getElem_append_left (by omega)]
      have hgl : k.getLast? = some k[m] := by
       have e : k.length - 1 = m := by omega
       rw [List.getLast?_eq_getElem?, e, zns (by omega)]
      have hx2 : (k ++ [x]).toArray[m + 1]! = x := by rw [<- hkn]; exact hx
      unfold Lib.keeps; rw [hlast, hx2, hgl]; by_cases he : x = k[m]
      . rw [if_neg (by simp [<- he]), if_pos (by rw [<- he])]
      . rw [if_pos (by simp [he]), if_neg (by simpa using Ne.symm he)]
 exact key l.length l rfl
def zbJ (l : List ByteArray) : List ByteArray := (zaT (zac l)).map mk
theorem zfp (l : List ByteArray) : (zae l).length = l.length := by unfold zae; rw [zn0, List.length_mergeSort, zn0]
theorem zfF (base : Nat) (v : Value) (l : List ByteArray) (w : World) (hO : RS w base v l) (hbytes : l.length * 16 <= 140737488355328) :
 Calls Tryz.prog 93 #[v] w fun e w' => e = .returned (.tuple #[]) /\ RS w' base v (zae l) /\ w.grownBy w' v.ownBlock := by
 have hown := Kd.own_of_R hO; rcases hown.2 with ⟨rfl, hz⟩ | ⟨gb, cap, cur, rfl, hbase, hgb, r1, r2, r3, r4⟩
 . have hss : l = [] := znr hz
   subst hss; have cS := Go.Proofs.AnyM.slices_Sort_string_none Go.Proofs.Tryz.laysSort none 0 w; change Calls Tryz.prog 93 _ _ _ at cS
   refine cS.mono fun e w' ⟨he, hw⟩ => ⟨he, ?_, ?_⟩
   . rw [hw, show zae [] = [] by simp [zae]]
     exact Kd.R_nil _ _ _ _ _
   . rw [hw]; exact World.grownBy.refl _ _
 . have r4' : cur.toList.take l.length = (l.map fun x => x.data.toList).map encStr := by
    rw [<- zfE]; have h := r4; rw [zoB] at h; exact h
   have hH : Holds encStr w gb 0 (l.map fun x => x.data.toList).toArray := Go.holds_of_block hgb (by simpa using r4')
   have hgl : gb < w.heap.size := (Array.getElem?_eq_some_iff.1 hgb).1; have hsz : (l.map fun x => x.data.toList).length < 4611686018427387904 := by rw [zn0]; omega
   have cS := Go.Proofs.AnyM.slices_Sort_string Go.Proofs.Tryz.laysSort gb 0 cap (l.map fun x => x.data.toList) w hH hgl hsz
   change Calls Tryz.prog 93 _ _ _ at cS
   rw [zn0] at cS; refine cS.mono fun e w' ⟨he, nn, os, hw⟩ => ⟨he, ?_, ?_⟩
   . rw [hw]
     refine Kd.R_of_own (h1 := fun _ => rfl) ?_ (fun _ _ => trivial)
     have hos := ownsRow_sorted (n := nn) (os := os) (ss := l.map fun x => x.data.toList) (ts := (l.map fun x => x.data.toList).mergeSort fun x y => decide (x <= y)) (by simp) hbase hgb (by rw [zn0]; exact r1) r2 r3
     rw [zn0] at hos; rw [zfp]; have hrs : encs Value.string (zae l) = ((l.map fun x => x.data.toList).mergeSort fun x y => decide (x <= y)).map encStr := by
      unfold zae encs; rw [znZ]; rfl
     rw [hrs]; exact hos
   . rw [hw]; exact grownBy_sorted _
theorem zhm (base : Nat) (v : Value) (l : List ByteArray) (w : World) (hO : RS w base v l) :
 Calls Tryz.prog 94 #[v] w fun e w' => ∃ v', e = .returned v' /\ RS w' base v' (zbJ l) /\ w.grownBy w' v.ownBlock := by
 have hown := Kd.own_of_R hO; rcases hown.2 with ⟨rfl, hz⟩ | ⟨gb, cap, cur, rfl, hbase, hgb, r1, r2, r3, r4⟩
 . have hss : l = [] := znr hz
   subst hss; have cS := Go.Proofs.Any.slices_Compact_string_empty Go.Proofs.Tryz.lays194 none 0 w; change Calls Tryz.prog 94 _ _ _ at cS
   refine cS.mono fun e w' ⟨he, hw⟩ => ⟨_, he, ?_, ?_⟩
   . exact Kd.R_nil _ _ _ _ _
   . rw [hw]; exact World.grownBy.refl _ _
 . have r4' : cur.toList.take l.length = (l.map fun x => x.data.toList).map encStr := by
    rw [<- zfE]; have h := r4; rw [zoB] at h; exact h
   have hH : Holds encStr w gb 0 (l.map fun x => x.data.toList).toArray := Go.holds_of_block hgb (by simpa using r4')
   have cS := Go.Proofs.Any.slices_Compact_string Go.Proofs.Tryz.lays194 gb 0 cap (l.map fun x => x.data.toList) w hH (by rw [zn0]; simp only [maxLen] at r2; omega) (by rw [zn0]; exact r1)
   change Calls Tryz.prog 94 _ _ _ at cS
   rw [ziA, zn0] at cS; have hle : (zaT (zac l)).length <= l.length := by
    have := zeF (zac l); rw [zaZ] at this; exact this
   change Calls Tryz.prog 94 _ _ (fun e w' => e = .returned (.slice (some ⟨gb, 0, none⟩) (zaT (zac l)).length cap) /\ ∃ q, w' = putRow encStr (Sort.ahead w q) gb 0 (zaT (zac l) ++ List.replicate (l.length - (zaT (zac l)).length) []).toArray) at cS
   refine cS.mono fun e w' ⟨he, q, hw⟩ => ⟨_, he, ?_, ?_⟩
   . have hg0 : w' = grow (putRow encStr (Sort.ahead w q) gb 0 (zaT (zac l) ++ List.replicate (l.length - (zaT (zac l)).length) []).toArray) #[] := by rw [hw]; simp
     rw [hg0]; have hcl : (zbJ l).length = (zaT (zac l)).length := by unfold zbJ; rw [zn0]
     have hen : encs Value.string (zbJ l) = (zaT (zac l)).map encStr := by
      unfold zbJ encs; rw [znZ]; rfl
     rw [<- hcl]; refine Kd.R_of_own (h1 := fun _ => rfl) ?_ (fun _ _ => trivial)
     rw [hen]; have hos := ownsRow_sorted (n := q) (os := #[]) (ss := zac l) (ts := zaT (zac l) ++ List.replicate (l.length - (zaT (zac l)).length) []) (by rw [znC, zoD, zaZ]; omega) hbase hgb (by rw [zaZ]; exact r1) r2 r3
     rw [hcl]; have h2 := hos.2; refine ⟨by rw [zn0]; omega, ?_⟩
     rcases h2 with ⟨h3, _⟩ | ⟨g2, cap2, cur2, he2, hb2, hh2, s1, s2, s3, s4⟩
     . cases h3
     . injection he2 with e1 e2 e3
       injection e1 with e1; injection e1 with e1; subst e1; subst e3; refine .inr ⟨gb, cap, cur2, rfl, hb2, hh2, by omega, s2, s3, ?_⟩
       rw [zoB] at s4 |-; have h5 := congrArg (List.take (zaT (zac l)).length) s4; rw [List.take_take, zaZ, Nat.min_eq_left hle, zoc, List.take_append_of_le_length (by rw [zn0]; exact znp _)] at h5
       exact h5.trans (zox (by rw [zn0]; exact znp _))
   . rw [hw]
     have hg0 : putRow encStr (Sort.ahead w q) gb 0 (zaT (zac l) ++ List.replicate (l.length - (zaT (zac l)).length) []).toArray = grow (putRow encStr (Sort.ahead w q) gb 0 (zaT (zac l) ++ List.replicate (l.length - (zaT (zac l)).length) []).toArray) #[] := by simp
     rw [hg0]; exact grownBy_sorted _

end Go.Proofs.YtdpgdnpddndeoaaGreatDoor.X

namespace Go.Proofs.YtdpgdnpddndeoaaGreatDoor.X
open Go.RowKit Go.Maps Go.Proofs.YtdpgdnpddndeoaaGreatDoorW.PrintWords Go.Proofs.YtdpgdnpddndeoaaGreatDoorW.PrintMore Go.Proofs.YtdpgdnpddndeoaaGreatDoorW.PrintLast
theorem zeN (s : ByteArray) (w : World) (hG : GOK w) :
 Calls Tryz.prog 95 #[.string s] w fun e w' => e = .returned (.bool (!may s.data.toList)) /\ Below w.heap.size w w' := by
 have hM := path_May.calls s (may s.data.toList) w hG rfl; generalize may s.data.toList = q at hM |-; have HM := znl hM; clear hM hG; go_enter Tryz.func95, Tryz.ntmps95
 go_wp2_with (first | (go_at_call 102; refine HM.out.mono ?_; rintro e w2 ⟨rfl, hb2⟩))
 go_ret
 exact ⟨rfl, hb2⟩
theorem zm7 : ∀ args w, (callFunc 95 args).run Tryz.prog w = .ok (.enter 95 args) w := Go.Proofs.enters_of Tryz.func95 (by kernel_rfl) rfl
theorem zmw (w : World) (hG : GOK w) : zdK 95 #[] (fun x => !may x.data.toList) w := fun W x hb => zeN x W (hG.below hb)
theorem zd3 (A : Option Addr) (c : Nat) (l : List ByteArray) (w : World) (hG : GOK w) (hr : Kd.C Kd.string w A l.length l) :
 Calls Tryz.prog 56 #[.slice A l.length c, .func (.func 95) #[] #[]] w fun e w' => e = .returned (.bool (!(zac l).all may)) /\ Below w.heap.size w w' := by
 have h := zdu 95 #[] zm7 (fun x => !may x.data.toList) A c l w hr (zmw w hG)
 have e : l.any (fun x => !may x.data.toList) = !(zac l).all may := by
  unfold zac; rw [List.all_map, List.not_all_eq_any_not]; rfl
 rw [e] at h; exact h
theorem zc2 (A : Option Addr) (c : Nat) (l : List ByteArray) (s : ByteArray) (w : World) (hr : Kd.C Kd.string w A l.length l) :
 Calls Tryz.prog 92 #[.slice A l.length c, .string s] w fun e w' => e = .returned (.bool ((zac l).contains s.data.toList)) /\ w = w' := by
 have hlen : l.length <= 9223372036854775807 := hr.2.1; have hc : Lib.containsS l s = (zac l).contains s.data.toList := by
  rw [Bool.eq_iff_iff, Lib.containsS_iff]; unfold zac; rw [List.contains_iff_mem, zoE]; constructor
  . intro h; exact ⟨s, h, rfl⟩
  . rintro ⟨x, hx, he⟩; rw [<- zbO he]; exact hx
 rcases za5 hr with h0 | ⟨b, o, rfl, hb, hcell⟩
 . subst h0
   have hcall := Go.Proofs.Any.slices_Contains_string_empty Go.Proofs.Tryz.lays110 A c s w; change Calls Tryz.prog 92 _ _ _ at hcall
   exact hcall.mono fun e w' ⟨he, hw⟩ => ⟨he, hw.symm⟩
 . have hcall := Go.Proofs.Any.slices_Contains_string Go.Proofs.Tryz.lays110 b o l.length c l s w (znp _) hlen hcell
   change Calls Tryz.prog 92 _ _ _ at hcall
   rw [zn1, hc] at hcall; exact hcall.mono fun e w' ⟨he, hw⟩ => ⟨he, hw.symm⟩

def zeJ (x : zay) (B2 : Option Addr) (c2 : Nat) (B3 : Option Addr) (c3 : Nat) : Value := .agg #[.string x.f0, .int .i64 x.f1, .slice B2 x.f2.length c2, .slice B3 x.f3.length c3, .int .i64 x.f4]
def zbB (s : zca) : Bool := !(may s.out && s.args.all may && mayC s.cmd)
theorem zlo (x : zay) (B2 : Option Addr) (c2 : Nat) (B3 : Option Addr) (c3 : Nat) (w : World) (hG : GOK w) (h2 : Kd.C Kd.string w B2 x.f2.length x.f2) (h3 : Kd.C Kd.string w B3 x.f3.length x.f3) :
 Calls Tryz.prog 97 #[zeJ x B2 c2 B3 c3] w fun e w' => e = .returned (.bool (zbB (zaJ x))) /\ Below w.heap.size w w' := by
 have hab := (zno w.heap.size w).alloc (znp _) (.cells #[.string x.f0, .int .i64 x.f1, .slice B2 x.f2.length c2, .slice B3 x.f3.length c3, .int .i64 x.f4] 24); have HK := znl (zao w (.cells #[.string x.f0, .int .i64 x.f1, .slice B2 x.f2.length c2, .slice B3 x.f3.length c3, .int .i64 x.f4] 24)); have HB1 := znl hab; have H2 := znl (Kd.C_below h2 hab); have H3 := znl (Kd.C_below h3 hab); have HG := znl (hG.below hab); have hT : zbB (zaJ x) = !(may x.f0.data.toList && (zac x.f2).all may && mayC (zal x)) := rfl; rw [hT]; have HM := znl (fun W (h2 : Kd.C Kd.string W B2 x.f2.length x.f2) (h3 : Kd.C Kd.string W B3 x.f3.length x.f3) => zfK x B2 c2 B3 c3 W h2 h3)
 have HN := znl (fun W (hG : GOK W) => zeN x.f0 W hG)
 have HA := znl (fun W (hG : GOK W) (h : Kd.C Kd.string W B2 x.f2.length x.f2) => zd3 B2 c2 x.f2 W hG h)
 generalize may x.f0.data.toList = q1 at HN |-; generalize (zac x.f2).all may = q2 at HA |-; generalize mayC (zal x) = q3 at HM |-; clear hab h2 h3 hG hT; unfold zeJ; go_enter Tryz.func97, Tryz.ntmps97
 go_upto_region 1 with fail; generalize w.alloc (.cells #[.string x.f0, .int .i64 x.f1, .slice B2 x.f2.length c2, .slice B3 x.f3.length c3, .int .i64 x.f4] 24) = w1 at HB1 HK H2 H3 HG |-; have k0 : w1.cell? ⟨w.heap.size, 0, none⟩ = some (.string x.f0) := (zaa HK.out 0).trans rfl; cases q1
 . go_wp2_with (first | (go_at_call 95; refine (HN.out _ HG.out).mono ?_; rintro e w2 ⟨rfl, hb2⟩))
   go_ret
   exact ⟨rfl, zad HB1.out HB1.out.size hb2⟩
 . cases q2
   . go_wp2_with (first
      | (go_at_call 95; refine (HN.out _ HG.out).mono ?_; rintro e w2 ⟨rfl, hb2⟩; have HB2 := znl (zad HB1.out HB1.out.size hb2); have HK2 := znl (zah HK.out hb2); have k2 : w2.cell? ⟨w.heap.size, 2, none⟩ = some (.slice B2 x.f2.length c2) := (zaa HK2.out 2).trans rfl; have H2' := znl (Kd.C_below H2.out hb2); have HG2 := znl (HG.out.below hb2); clear hb2)
      | (go_at_call 56; refine (HA.out _ HG2.out H2'.out).mono ?_; rintro e w3 ⟨rfl, hb3⟩; have HB3 := znl (zad HB2.out HB2.out.size hb3); clear hb3))
     go_ret
     exact ⟨rfl, HB3.out⟩
   . go_wp2_with (first
      | (go_at_call 95; refine (HN.out _ HG.out).mono ?_; rintro e w2 ⟨rfl, hb2⟩; have HB2 := znl (zad HB1.out HB1.out.size hb2); have HK2 := znl (zah HK.out hb2); have k2 : w2.cell? ⟨w.heap.size, 2, none⟩ = some (.slice B2 x.f2.length c2) := (zaa HK2.out 2).trans rfl; have H2' := znl (Kd.C_below H2.out hb2); have H3' := znl (Kd.C_below H3.out hb2); have HG2 := znl (HG.out.below hb2); clear hb2)
      | (go_at_call 56; refine (HA.out _ HG2.out H2'.out).mono ?_; rintro e w3 ⟨rfl, hb3⟩; have HB3 := znl (zad HB2.out HB2.out.size hb3); have HK3 := znl (zah HK2.out hb3); have j0 : w3.cell? ⟨w.heap.size, 0, none⟩ = some (.string x.f0) := (zaa HK3.out 0).trans rfl; have j1 : w3.cell? ⟨w.heap.size, 1, none⟩ = some (.int .i64 x.f1) := (zaa HK3.out 1).trans rfl; have j2 : w3.cell? ⟨w.heap.size, 2, none⟩ = some (.slice B2 x.f2.length c2) := (zaa HK3.out 2).trans rfl; have j3 : w3.cell? ⟨w.heap.size, 3, none⟩ = some (.slice B3 x.f3.length c3) := (zaa HK3.out 3).trans rfl; have j4 : w3.cell? ⟨w.heap.size, 4, none⟩ = some (.int .i64 x.f4) := (zaa HK3.out 4).trans rfl; have H2'' := znl (Kd.C_below H2'.out hb3); have H3'' := znl (Kd.C_below H3'.out hb3); clear hb3)
      | (go_at_call 20; refine (HM.out _ H2''.out H3''.out).mono ?_; rintro e w4 ⟨rfl, hb4⟩; have HB4 := znl (zad HB3.out HB3.out.size hb4); clear hb4))
     go_ret
     exact ⟨by cases q3 <;> rfl, HB4.out⟩
theorem zj8 : ∀ args w, (callFunc 97 args).run Tryz.prog w = .ok (.enter 97 args) w := Go.Proofs.enters_of Tryz.func97 (by kernel_rfl) rfl

end Go.Proofs.YtdpgdnpddndeoaaGreatDoor.X
