/-
  law7's many, walked by hand: so many bytes.
  Commands, plainly: StepReplace, StepConcat, StepFail.
  Commands, plainly: texts of one byte alone near two thousand bytes (StepLong).
  StepLong, walked by hand: texts near two thousand bytes.
-/
import Derived.Test.YtdpgdnpddndeoaaGreatDoorZ13
namespace Go.Proofs.YtdpgdnpddndeoaaGreatDoor.X
open Go.RowKit Go.Maps Go.Proofs.YtdpgdnpddndeoaaGreatDoorW.PrintWords Go.Proofs.YtdpgdnpddndeoaaGreatDoorW.PrintMore Go.Proofs.YtdpgdnpddndeoaaGreatDoorW.PrintLast
set_option linter.unusedSimpArgs false
abbrev RByte (w : World) (base : Nat) (v : Value) (l : List Int) : Prop := Kd.R (Kd.int .u8) 5 w base (fun _ => True) v l
set_option maxHeartbeats 2000000 in
set_option maxRecDepth 100000 in
theorem zlC (n : Nat) (cb : Int) (w : World) (hn : n <= 5000) :
 Calls Tryz.prog 27 #[.int .i64 n, .int .u8 cb] w fun e w' => e = .returned (.string (strOfNums (List.replicate n cb))) /\ Below w.heap.size w w' := by
 have hz0 : (0 : Int) <= (n : Int) := by omega
 go_enter Tryz.func27, Tryz.ntmps27
 go_upto_region 2 with (first | (at_make; refine Kd.R_make (Kd.int .u8) (w0 := w) w.heap.size 5 rfl rfl 90 (.tmp 7) (.tmp 7) rfl (n : Int) rfl rfl Tryz.underlying90 (.int .u8 0) 1 (by kernel_rfl) rfl (by decide) (by decide) (0 : Int) (okp := fun _ => True) (ok := fun _ => True) rfl (fun _ h => h) trivial hz0 (by omega) (Below.refl _ _) (Nat.le_refl _) ?_; intro v1 w2 ho hb hg hv; have HO2 := znM ho; have HB2 := znM hb; clear ho hb hg hv))
 rw [Int.toNat_natCast] at HO2
 obtain ⟨A1, cap, he1, _, _⟩ := Kd.R_reads HO2.out
 rw [List.length_replicate] at he1
 subst he1
 go_wp2_with fail
 go_loopg [6, 11] n (fun gg _ s11 wi => ∃ j : Nat, j <= n /\ n - j <= gg /\ s11 = .int .i64 j /\ Aside0 (RByte wi w.heap.size (.slice A1 n cap) (List.replicate j cb ++ List.replicate (n - j) 0)) /\ Aside0 (Below w.heap.size w wi))
 case atStart => exact ⟨0, Nat.zero_le _, by omega, rfl, ⟨by simpa using HO2.out⟩, ⟨HB2.out⟩⟩
 case round =>
  obtain ⟨j, hj, hgj, rfl, HO, HW⟩ := hrel
  have hlen : (List.replicate j cb ++ List.replicate (n - j) (0 : Int)).length = n := by rw [List.length_append, List.length_replicate, List.length_replicate]; omega
  by_cases hlj : j < n
  . have hljz : (j : Int) < (n : Int) := by omega
    obtain ⟨g, cp, hv1, hbg, hgl, cur, hcur⟩ := Kd.R_form HO.out (by rw [hlen]; omega)
    injection hv1 with hA1 hA2 hA3
    subst hA1
    clear hA2 hA3
    have hP := Kd.R_putg HO.out (j : Int) cb
    have hst : (List.replicate j cb ++ List.replicate (n - j) (0 : Int)).set j cb = List.replicate (j + 1) cb ++ List.replicate (n - (j + 1)) 0 := by
     rw [show n - j = (n - (j + 1)) + 1 by omega, List.replicate_succ, List.set_append_right _ _ (by rw [List.length_replicate]; exact Nat.le_refl _), List.length_replicate, Nat.sub_self, List.replicate_succ' (n := j), List.append_assoc]
     rfl
    rw [Int.toNat_natCast, hst] at hP
    have HP := znM hP.1
    have HW2 := znM (HW.out.grown hP.2 HW.out.size (fun k hk => by cases hk; exact hbg))
    have hf := zag hcur j
    obtain ⟨cc, hc1, _, hc3, _⟩ := Kd.R_elem HO.out (0 : Int) (j : Int) (by omega) hljz
    have hcell : ∃ u, wr.cell? ⟨g, j, none⟩ = some u := by
     cases cc with
     | nil => cases hc1
     | cons u r => exact ⟨u, by have h : wr.cell? ⟨g, (j : Int).toNat * 1 + 0, none⟩ = some u := hc3 0 u rfl; simpa using h⟩
    obtain ⟨u, hu⟩ := hcell
    clear hP hst hc1 hc3 hcur hlen
    go_wp2_with fail
    generalize wr.setCell ⟨g, j, none⟩ (.int .u8 cb) = w6 at HP HW2 |-
    go_roundg (n - (j + 1))
    case measure => omega
    case rel => exact ⟨j + 1, by omega, by omega, by first | rfl | go_num, ⟨HP.out⟩, ⟨HW2.out⟩⟩
  . have hljz : ¬ (j : Int) < (n : Int) := by omega
    obtain rfl : j = n := by omega
    have hO := HO.out
    rw [Nat.sub_self, List.replicate_zero, List.append_nil] at hO
    obtain ⟨A', c', he, _, hC⟩ := Kd.R_reads hO
    injection he with e1 e2 e3
    subst e1; subst e3
    clear e2
    rw [List.length_replicate] at hC
    have hcv := Kd.C_string (P := Tryz.prog) (src := 90) (dst := 9) (c := cap) Tryz.underlying90 Tryz.underlying5 Tryz.underlying9 hC
    obtain ⟨sv, hsv⟩ : ∃ sv, sv = strOfNums (List.replicate j cb) := ⟨_, rfl⟩
    rw [<- hsv] at hcv
    have HSv := znM hsv
    clear hO hC hlen hsv
    go_wp2_with fail
    go_ret
    exact ⟨by rw [<- HSv.out]; rfl, HW.out⟩

end Go.Proofs.YtdpgdnpddndeoaaGreatDoor.X

namespace Go.Proofs.YtdpgdnpddndeoaaGreatDoor.X
theorem zjN (s t : zaa) (hs : s.length <= 100) (ht : t.length <= 100) : mayC (cmd1 8 0 [s, t]) = !(s == []) := by
 unfold mayC zbe cmd1
 have h1 : ¬ 100 < s.length := by omega
 have h2 : ¬ 100 < t.length := by omega
 simp [h1, h2]
theorem zjC (l : List zaa) (k : Nat) (hk : l.length = k) (h6 : k <= 6) (hl : l.flatten.length <= 2000) : doP ⟨5, 0, k, []⟩ (l.map some) = some l.flatten := by
 have hm : mayC ⟨5, 0, k, []⟩ = true := by
  unfold mayC zbe
  simp [h6]
 have hmap : (l.map some).map (·.getD []) = l := by rw [List.map_map]; exact List.map_id l
 unfold doP zcY
 rw [hmap, if_neg (by
  rintro (e | e | e)
  . rw [hm] at e; cases e
  . rw [List.length_map] at e; exact e hk
  . simp at e)]
 show (if (l.flatten, true).2 = false \/ 2000 < (l.flatten, true).1.length then none else some (l.flatten, true).1) = _
 rw [if_neg (by rintro (e | e); (cases e); (exact absurd hl (Nat.not_le.2 e)))]
theorem zlu (l : List zaa) (k : Nat) (hk : l.length = k) (h6 : k <= 6) : doP ⟨5, 0, k, []⟩ (l.map some) = if l.flatten.length <= 2000 then some l.flatten else none := by
 by_cases h : l.flatten.length <= 2000
 . rw [if_pos h]; exact zjC l k hk h6 h
 . rw [if_neg h]
   have hmap : (l.map some).map (·.getD []) = l := by rw [List.map_map]; exact List.map_id l
   unfold doP zcY
   rw [hmap]
   split
   . rfl
   . rw [if_pos (.inr (by show 2000 < l.flatten.length; omega))]
theorem zhf (d : UInt8) : ∀ (k n : Nat), n <= k -> zbP [d] [d, d] k (List.replicate n d) = List.replicate (n + n) d
 | 0, n, h => by
  obtain rfl : n = 0 := by omega
  rfl
 | k + 1, 0, _ => rfl
 | k + 1, n + 1, h => by
  rw [List.replicate_succ, zc2, if_pos ⟨by simp, by simp⟩]
  have e : (d :: List.replicate n d).drop [d].length = List.replicate n d := rfl
  rw [e, zhf d k n (by omega), show n + 1 + (n + 1) = n + n + 1 + 1 by omega, List.replicate_succ, List.replicate_succ]
  rfl
theorem zl4 (d : UInt8) (n : Nat) : do1 8 (some (List.replicate n d)) 0 [[d], [d, d]] = if n + n <= 2000 then some (List.replicate (n + n) d) else none := by
 have hm : mayC (cmd1 8 0 [[d], [d, d]]) = true := by
  rw [zjN _ _ (by simp) (by simp)]; rfl
 have ht : zaG (cmd1 8 0 [[d], [d, d]]) [List.replicate n d] = (List.replicate (n + n) d, true) := by
  show (Lib.replaceAll (List.replicate n d) [d] [d, d], true) = _
  rw [znF _ _ _ (by simp), zhf d _ n (by simp)]
 by_cases h : n + n <= 2000
 . rw [if_pos h]
   exact zm2 8 0 _ _ _ hm ht (by rw [List.length_replicate]; exact h)
 . rw [if_neg h]
   unfold do1 doP zcY
   split
   . rfl
   . rw [if_pos]
     right
     show 2000 < (zaG (cmd1 8 0 [[d], [d, d]]) [List.replicate n d]).1.length
     rw [ht, List.length_replicate]
     omega
end Go.Proofs.YtdpgdnpddndeoaaGreatDoor.X

namespace Go.Proofs.YtdpgdnpddndeoaaGreatDoor.X
open Go.RowKit Go.Maps Go.Proofs.YtdpgdnpddndeoaaGreatDoorW.PrintWords Go.Proofs.YtdpgdnpddndeoaaGreatDoorW.PrintMore Go.Proofs.YtdpgdnpddndeoaaGreatDoorW.PrintLast
set_option linter.unusedSimpArgs false
theorem zhC (n K : Int) (h : 0 < K) (hK : K <= 100000) : ∃ k : Nat, (wrap64 (n.tmod K + K)).tmod K = (k : Int) /\ (k : Int) < K := by
 have h1 := Int.lt_tmod_of_pos n h
 have h2 := Int.tmod_lt_of_pos n h
 have hw : wrap64 (n.tmod K + K) = n.tmod K + K := by
  generalize n.tmod K = z at h1 h2
  unfold wrap64
  omega
 rw [hw]
 have h3 := Int.tmod_nonneg K (show 0 <= n.tmod K + K by omega)
 have h4 := Int.tmod_lt_of_pos (n.tmod K + K) h
 exact ⟨((n.tmod K + K).tmod K).toNat, by omega, by omega⟩
def repS (n : Nat) (c : Int) : ByteArray := strOfNums (List.replicate n c)
theorem zcy (n : Nat) (c : Int) : (repS n c).data.toList = List.replicate n (UInt8.ofNat c.toNat) := by
 unfold repS strOfNums
 simp
theorem zgW (n : Nat) (c : Int) : (repS n c).size = n := by rw [Lib.size_eq, zcy, List.length_replicate]
theorem zgk (n m : Nat) (c : Int) : repS n c ++ repS m c = repS (n + m) c := by
 apply zbU
 rw [data_append, zcy, zcy, zcy, List.replicate_append_replicate]
theorem zel (n : Nat) (c : Int) (w : World) (hn : n <= 5000) :
 Calls Tryz.prog 27 #[.int .i64 n, .int .u8 c] w fun e w' => e = .returned (.string (repS n c)) /\ Below w.heap.size w w' := zlC n c w hn
theorem zff (w3 W : World) (hG : GOK w3) (x : zaA) (b2 : Nat) (c2 : Nat) (B3 : Option Addr) (c3 : Nat) (vs : List SVal) (hb : Below w3.heap.size w3 W) (h2 : Kd.C Kd.string W (some ⟨b2, 0, none⟩) x.f2.length x.f2) (h3 : Kd.C Kd.string W B3 x.f3.length x.f3)
 (hl : vs.length <= 1000) (hsz : ∀ v ∈ vs, v.f1.size <= 4194304) :
 Calls Tryz.prog 25 #[.agg #[.string x.f0, .int .i64 x.f1, .slice (some ⟨b2, 0, none⟩) x.f2.length c2, .slice B3 x.f3.length c3, .int .i64 x.f4], .slice (some ⟨W.heap.size, 0, none⟩) vs.length vs.length] (W.alloc (.cells (vs.flatMap fun v => [Value.bool v.f0, .string v.f1]).toArray 34)) (zdu (valS (doP (zal x) (vs.map valO))) (W.alloc (.cells (vs.flatMap fun v => [Value.bool v.f0, .string v.f1]).toArray 34))) :=
 zgj x (some ⟨b2, 0, none⟩) c2 B3 c3 (some ⟨W.heap.size, 0, none⟩) vs.length vs _ (hG.below (hb.alloc hb.size _)) (Kd.C_below h2 (zaI W _)) (Kd.C_below h3 (zaI W _)) (zfd W vs hl) hsz

set_option maxHeartbeats 8000000 in
set_option maxRecDepth 100000 in
theorem znd (n m c : Int) (w : World) (hG : GOK w) :
 Calls Tryz.prog 4 #[.int .i64 n, .int .i64 m, .int .u8 c] w (zcd w) := by
 have HG := znM hG
 clear hG
 obtain ⟨N0, hN, hN2⟩ := zhC n 20 (by decide) (by decide)
 obtain ⟨M, hM, hM2⟩ := zhC m 30 (by decide) (by decide)
 have hN3 : wrap64 (1990 + (N0 : Int)) = ((1990 + N0 : Nat) : Int) := by unfold wrap64; omega
 obtain ⟨N, hN4⟩ : ∃ N, N = 1990 + N0 := ⟨_, rfl⟩
 rw [<- hN4] at hN3
 have hn1 : N <= 2009 := by omega
 have hn0 : 1990 <= N := by omega
 have hm1 : M <= 29 := by omega
 clear hN4 hN2 hM2
 go_enter Tryz.func4, Tryz.ntmps4
 go_wp2_with fail
 refine (ziu _ HG.out).mono ?_
 rintro e w1 ⟨rfl, hb1⟩
 have HB1 := znM hb1
 clear hb1
 go_wp2_with fail
 rw [hN3]
 clear hN hN3 hM
 refine (zel N c w1 (by omega)).mono ?_
 rintro e w2 ⟨rfl, hb2⟩
 have HB2 := znM (zad HB1.out HB1.out.size hb2)
 clear hb2 HB1
 go_wp2_with fail
 refine (zel M c w2 (by omega)).mono ?_
 rintro e w3 ⟨rfl, hb3⟩
 have HB3 := znM (zad HB2.out HB2.out.size hb3)
 clear hb3 HB2
 have hza := zgW N c
 have hzb := zgW M c
 have HDA := znM (zcy N c)
 have HDB := znM (zcy M c)
 have HAB := znM (zgk N M c)
 have HBB := znM (zgk M M c)
 generalize repS N c = a at hza HDA HAB |-
 generalize repS M c = b at hzb HDB HAB HBB |-
 go_wp2_with fail
 obtain ⟨W, hW⟩ : ∃ W, W = (w3.alloc (.cells #[.string ⟨#[97]⟩, .string ⟨#[98]⟩] 9)).alloc (.cells #[.string ⟨#[120]⟩, .int .i64 5, .slice (some ⟨w3.heap.size, 0, none⟩) 2 2, .slice none 0 0, .int .i64 0] 24) := ⟨_, rfl⟩
 have hWs : W.heap.size = w3.heap.size + 1 + 1 := by rw [hW, zbj, zbj]
 have hWb : Below w3.heap.size w3 W := by rw [hW]; exact zad (zaI _ _) (by rw [zbj]; omega) (zaI _ _)
 have hWc : Kd.C Kd.string W (some ⟨w3.heap.size, 0, none⟩) 2 [⟨#[97]⟩, ⟨#[98]⟩] := by rw [hW]; exact Kd.C_below (zbW w3 [⟨#[97]⟩, ⟨#[98]⟩] (by decide)) (zaI _ _)
 have h1 := zff w3 W (HG.out.below HB3.out) ⟨⟨#[120]⟩, 5, [⟨#[97]⟩, ⟨#[98]⟩], [], 0⟩ w3.heap.size 2 none 0 [⟨true, a⟩, ⟨true, b⟩] hWb hWc (zeb _ _) (by simp) (by intro v hv; rcases List.mem_cons.1 hv with rfl | hv; (show a.size <= _; omega); rw [List.mem_singleton.1 hv]; show b.size <= _; omega)
 have hd1 : doP (zal (⟨⟨#[120]⟩, 5, [⟨#[97]⟩, ⟨#[98]⟩], [], 0⟩ : zaA)) (([⟨true, a⟩, ⟨true, b⟩] : List SVal).map valO) = if N + M <= 2000 then some (a.data.toList ++ b.data.toList) else none := by
  have := zlu [a.data.toList, b.data.toList] 2 rfl (by decide)
  have e : [a.data.toList, b.data.toList].flatten = a.data.toList ++ b.data.toList := by simp
  rw [e, List.length_append, <- Lib.size_eq, <- Lib.size_eq, hza, hzb] at this
  exact this
 rw [hd1, hWs] at h1
 have hv1 : ∃ v1, valS (if N + M <= 2000 then some (a.data.toList ++ b.data.toList) else none) = ⟨decide (N + M <= 2000), v1⟩ /\ (N + M <= 2000 -> v1 = a ++ b) := by
  by_cases h : N + M <= 2000
  . rw [if_pos h]
    refine ⟨a ++ b, ?_, fun _ => rfl⟩
    show (⟨true, mk (a.data.toList ++ b.data.toList)⟩ : SVal) = _
    rw [<- zdw, zbi, zbi]
    simp [h]
  . rw [if_neg h]
    refine ⟨⟨#[]⟩, ?_, fun e => absurd e h⟩
    show (⟨false, ⟨#[]⟩⟩ : SVal) = _
    simp [h]
 obtain ⟨v1, hv, hv2⟩ := hv1
 rw [hv] at h1
 rw [<- hW]
 have HBW := znM (zad HB3.out HB3.out.size hWb)
 have HV2 := znM hv2
 clear hW hWb hWc hd1 hv hv2
 have hvl : ([⟨true, a⟩, ⟨true, b⟩] : List SVal).flatMap (fun v => [Value.bool v.f0, .string v.f1]) = [.bool true, .string a, .bool true, .string b] := rfl
 rw [hvl] at h1
 clear hvl
 obtain ⟨v0, hv0⟩ : ∃ v0, v0 = decide (N + M <= 2000) := ⟨_, rfl⟩
 rw [<- hv0] at h1
 have HV0 := znM hv0
 clear hv0
 refine h1.mono ?_
 rintro e w4 ⟨rfl, hb4⟩
 have HB4 := znM (zad HBW.out HBW.out.size (zad (zaI W (.cells #[.bool true, .string a, .bool true, .string b] 34)) (zaI W _).size hb4))
 clear h1 hb4 hWs
 unfold aggV
 dsimp only
 go_wp2_with fail
 have hv5 := zah (zan w4 (.cells #[.bool v0, .string v1] 34)) (zaI (w4.alloc (.cells #[.bool v0, .string v1] 34)) (.cells #[.string ⟨#[97]⟩] 9))
 have ha5 : Kd.C Kd.string ((w4.alloc (.cells #[.bool v0, .string v1] 34)).alloc (.cells #[.string ⟨#[97]⟩] 9)) (some ⟨w4.heap.size + 1, 0, none⟩) 1 [⟨#[97]⟩] := by rw [<- zbj w4 (.cells #[.bool v0, .string v1] 34)]; exact zbW _ [⟨#[97]⟩] (by decide)
 have hb5 := zad HB4.out HB4.out.size (zad (zaI w4 (.cells #[.bool v0, .string v1] 34)) (zaI w4 _).size (zaI _ (.cells #[.string ⟨#[97]⟩] 9)))
 have HV5 := znM hv5
 have HA5 := znM ha5
 have HB5 := znM hb5
 clear hv5 ha5 hb5 HB4
 generalize (w4.alloc (.cells #[.bool v0, .string v1] 34)).alloc (.cells #[.string ⟨#[97]⟩] 9) = w5 at HV5 HA5 HB5 |-
 generalize w4.heap.size = V at HV5 HA5 |-
 refine (zel 1 c w5 (by decide)).mono ?_
 rintro e w6 ⟨rfl, hb6⟩
 have HV6 := znM (zah HV5.out hb6)
 have HA6 := znM (Kd.C_below HA5.out hb6)
 have HB6 := znM (zad HB5.out HB5.out.size hb6)
 clear HV5 HA5 HB5 hb6
 go_wp2_with fail
 refine (zel 2 c w6 (by decide)).mono ?_
 rintro e w7 ⟨rfl, hb7⟩
 have HV7 := znM (zah HV6.out hb7)
 have HA7 := znM (Kd.C_below HA6.out hb7)
 have HB7 := znM (zad HB6.out HB6.out.size hb7)
 clear HV6 HA6 HB6 hb7
 have HD1 := znM (zcy 1 c)
 have HD2 := znM (zcy 2 c)
 generalize repS 1 c = d1 at HD1 |-
 generalize repS 2 c = d2 at HD2 |-
 go_wp2_with fail
 have hd2 : ∀ k y : Nat, ∀ yb : ByteArray, yb.data.toList = List.replicate k (UInt8.ofNat c.toNat) -> y = k + k -> doP (zal (⟨⟨#[120]⟩, 8, [⟨#[97]⟩], [d1, d2], 0⟩ : zaA)) (([⟨true, yb⟩] : List SVal).map valO) = if y <= 2000 then some (List.replicate y (UInt8.ofNat c.toNat)) else none := by
  intro k y yb hyb hy
  have := zl4 (UInt8.ofNat c.toNat) k
  rw [<- hy] at this
  rw [<- this, <- hyb]
  show doP (zal (⟨⟨#[120]⟩, 8, [⟨#[97]⟩], [d1, d2], 0⟩ : zaA)) [some yb.data.toList] = doP (cmd1 8 0 [[UInt8.ofNat c.toNat], [UInt8.ofNat c.toNat, UInt8.ofNat c.toNat]]) [some yb.data.toList]
  congr 1
  show (⟨8, 0, 1, [d1.data.toList, d2.data.toList]⟩ : Cmd) = _
  rw [HD1.out, HD2.out]
  rfl
 have hdb := hd2 M (M + M) b HDB.out rfl
 have hda := hd2 N (N + N) a HDA.out rfl
 rw [if_pos (by omega)] at hdb
 rw [if_neg (by omega)] at hda
 obtain ⟨U, hU⟩ : ∃ U, U = (w7.alloc (.cells #[.string d1, .string d2] 9)).alloc (.cells #[.string ⟨#[120]⟩, .int .i64 8, .slice (some ⟨V + 1, 0, none⟩) 1 1, .slice (some ⟨w7.heap.size, 0, none⟩) 2 2, .int .i64 0] 24) := ⟨_, rfl⟩
 have hUs : U.heap.size = w7.heap.size + 1 + 1 := by rw [hU, zbj, zbj]
 have hUb : Below w7.heap.size w7 U := by rw [hU]; exact zad (zaI _ _) (by rw [zbj]; omega) (zaI _ _)
 have hUl : Kd.C Kd.string U (some ⟨w7.heap.size, 0, none⟩) 2 [d1, d2] := by rw [hU]; exact Kd.C_below (zbW w7 [d1, d2] (by simp)) (zaI _ _)
 have hUk : U.heap[w7.heap.size + 1]? = some (.cells #[.string ⟨#[120]⟩, .int .i64 8, .slice (some ⟨V + 1, 0, none⟩) 1 1, .slice (some ⟨w7.heap.size, 0, none⟩) 2 2, .int .i64 0] 24 (0, 0)) := by rw [hU, <- zbj w7 (.cells #[.string d1, .string d2] 9)]; exact zan _ _
 have h2 := zff w7 U (HG.out.below HB7.out) (⟨⟨#[120]⟩, 8, [⟨#[97]⟩], [d1, d2], 0⟩ : zaA) (V + 1) 1 (some ⟨w7.heap.size, 0, none⟩) 2 [⟨true, b⟩] hUb (Kd.C_below HA7.out hUb) hUl (by simp) (by intro v hv; rw [List.mem_singleton.1 hv]; show b.size <= _; omega)
 rw [hdb, hUs] at h2
 rw [<- hU]
 have hg := zaI U (.cells #[.bool true, .string b] 34)
 have h2b : Calls Tryz.prog 25 #[.agg #[.string ⟨#[120]⟩, .int .i64 8, .slice (some ⟨V + 1, 0, none⟩) 1 1, .slice (some ⟨w7.heap.size, 0, none⟩) 2 2, .int .i64 0], .slice (some ⟨w7.heap.size + 1 + 1, 0, none⟩) 1 1] (U.alloc (.cells #[.bool true, .string b] 34)) (zdu ⟨true, b ++ b⟩ (U.alloc (.cells #[.bool true, .string b] 34))) := by
  have e : (⟨true, b ++ b⟩ : SVal) = valS (some (List.replicate (M + M) (UInt8.ofNat c.toNat))) := by
   rw [HBB.out]
   show _ = (⟨true, mk _⟩ : SVal)
   rw [<- zcy, zbi]
  rw [e]
  exact h2
 refine h2b.mono ?_
 rintro e w8 ⟨rfl, hb8⟩
 have hb9 := zad hg hg.size hb8
 have hb10 := zad hUb hUb.size hb9
 have HV8 := znM (zah HV7.out hb10)
 have HA8 := znM (Kd.C_below HA7.out hb10)
 have HL8 := znM (Kd.C_below hUl hb9)
 have HK8 := znM (zah hUk hb9)
 have HB8 := znM (zad HB7.out HB7.out.size hb10)
 have HDa := znM hda
 clear hd2 hdb hda hU hUs hUb hUl hUk h2 h2b hg hb8 hb9 hb10
 unfold aggV
 dsimp only
 go_upto_region 10 with fail
 have hg9 := zaI w8 (.cells #[.bool true, .string (b ++ b)] 34)
 have HV9 := znM (zah HV8.out hg9)
 have HA9 := znM (Kd.C_below HA8.out hg9)
 have HL9 := znM (Kd.C_below HL8.out hg9)
 have HK9 := znM (zah HK8.out hg9)
 have HZ9 := znM (zan w8 (.cells #[.bool true, .string (b ++ b)] 34))
 have HB9 := znM (zad HB8.out HB8.out.size hg9)
 clear hg9 HV8 HA8 HL8 HK8 HB8
 generalize w8.alloc (.cells #[.bool true, .string (b ++ b)] 34) = w9 at HV9 HA9 HL9 HK9 HZ9 HB9 |-
 generalize w8.heap.size = Z at HZ9 |-
 have s0 : w9.cell? ⟨w7.heap.size + 1, 0, none⟩ = some (.string ⟨#[120]⟩) := (zab HK9.out 0).trans rfl
 have s1 : w9.cell? ⟨w7.heap.size + 1, 1, none⟩ = some (.int .i64 8) := (zab HK9.out 1).trans rfl
 have s2 : w9.cell? ⟨w7.heap.size + 1, 2, none⟩ = some (.slice (some ⟨V + 1, 0, none⟩) 1 1) := (zab HK9.out 2).trans rfl
 have s3 : w9.cell? ⟨w7.heap.size + 1, 3, none⟩ = some (.slice (some ⟨w7.heap.size, 0, none⟩) 2 2) := (zab HK9.out 3).trans rfl
 have s4 : w9.cell? ⟨w7.heap.size + 1, 4, none⟩ = some (.int .i64 0) := (zab HK9.out 4).trans rfl
 go_wp2_with fail
 have h3 := zff w9 w9 (HG.out.below HB9.out) (⟨⟨#[120]⟩, 8, [⟨#[97]⟩], [d1, d2], 0⟩ : zaA) (V + 1) 1 (some ⟨w7.heap.size, 0, none⟩) 2 [⟨true, a⟩] (Below.refl _ _) HA9.out HL9.out (by simp) (by intro v hv; rw [List.mem_singleton.1 hv]; show a.size <= _; omega)
 rw [HDa.out] at h3
 have h3b : Calls Tryz.prog 25 #[.agg #[.string ⟨#[120]⟩, .int .i64 8, .slice (some ⟨V + 1, 0, none⟩) 1 1, .slice (some ⟨w7.heap.size, 0, none⟩) 2 2, .int .i64 0], .slice (some ⟨w9.heap.size, 0, none⟩) 1 1] (w9.alloc (.cells #[.bool true, .string a] 34)) (zdu ⟨false, ⟨#[]⟩⟩ (w9.alloc (.cells #[.bool true, .string a] 34))) := h3
 refine h3b.mono ?_
 rintro e w10 ⟨rfl, hb10⟩
 have hg := zaI w9 (.cells #[.bool true, .string a] 34)
 have hb11 := zad hg hg.size hb10
 have HV10 := znM (zah HV9.out hb11)
 have HZ10 := znM (zah HZ9.out hb11)
 have HB10 := znM (zad HB9.out HB9.out.size hb11)
 clear h3 h3b hb10 hg hb11 s0 s1 s2 s3 s4
 unfold aggV
 dsimp only
 go_upto_region 11 with fail
 have hg9 := zaI w10 (.cells #[.bool false, .string ⟨#[]⟩] 34)
 have HV11 := znM (zah HV10.out hg9)
 have HZ11 := znM (zah HZ10.out hg9)
 have HU11 := znM (zan w10 (.cells #[.bool false, .string ⟨#[]⟩] 34))
 have HB11 := znM (zad HB10.out HB10.out.size hg9)
 clear hg9 HV10 HZ10 HB10
 generalize w10.alloc (.cells #[.bool false, .string ⟨#[]⟩] 34) = w11 at HV11 HZ11 HU11 HB11 |-
 generalize w10.heap.size = Y at HU11 |-
 have t0 : w11.cell? ⟨V, 0, none⟩ = some (.bool v0) := (zab HV11.out 0).trans rfl
 have t1 : w11.cell? ⟨V, 1, none⟩ = some (.string v1) := (zab HV11.out 1).trans rfl
 have t2 : w11.cell? ⟨Z, 0, none⟩ = some (.bool true) := (zab HZ11.out 0).trans rfl
 have t3 : w11.cell? ⟨Z, 1, none⟩ = some (.string (b ++ b)) := (zab HZ11.out 1).trans rfl
 have t4 : w11.cell? ⟨Y, 0, none⟩ = some (.bool false) := (zab HU11.out 0).trans rfl
 have t5 : w11.cell? ⟨Y, 1, none⟩ = some (.string ⟨#[]⟩) := (zab HU11.out 1).trans rfl
 have o1 : ¬ 9223372036854775807 < a.size + b.size := by omega
 have o2 : ¬ 9223372036854775807 < b.size + b.size := by omega
 by_cases hNM : N + M <= 2000
 . obtain rfl := HV2.out hNM
   obtain rfl : v0 = true := by rw [HV0.out]; simp [hNM]
   have q1 : (N : Int) + (M : Int) <= 2000 := by omega
   have q2 : decide ((N : Int) + (M : Int) <= 2000) = true := by simp [q1]
   clear hNM
   go_wp2_with fail
   go_ret
   exact ⟨rfl, HB11.out⟩
 . obtain rfl : v0 = false := by rw [HV0.out]; simp [hNM]
   have q1 : ¬ (N : Int) + (M : Int) <= 2000 := by omega
   have q2 : decide ((N : Int) + (M : Int) <= 2000) = false := by simp [q1]
   clear hNM
   go_wp2_with fail
   go_ret
   exact ⟨rfl, HB11.out⟩

def shipwrightlaw7_StepLong.f (_ _ _ : Int) : Option Bool := some true
theorem shipwrightlaw7_StepLong.calls (n m c : Int) (r : Bool) (w : World) (hG : GOK w) (h : shipwrightlaw7_StepLong.f n m c = some r) :
 Calls Tryz.prog 4 #[.int .i64 n, .int .i64 m, .int .u8 c] w fun e w' => e = .returned (.bool r) /\ Below w.heap.size w w' := by
 obtain rfl := Option.some.inj h
 exact znd n m c w hG
theorem pure_StepLong (n m c : Int) {p q r : Prop} (_ : p) (_ : q) (_ : r) : shipwrightlaw7_StepLong.f n m c = some true := rfl

end Go.Proofs.YtdpgdnpddndeoaaGreatDoor.X
