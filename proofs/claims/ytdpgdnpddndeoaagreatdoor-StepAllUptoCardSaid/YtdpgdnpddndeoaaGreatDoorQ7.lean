/-
  What the cards lean on (part Q7): contracts of functions, by hand, and plain laws; what is printed by the kit's print for this seat is among them. What is not reached is left out.
-/
import Derived.BigQuiet
import Derived.BigRegion
import Derived.Deep.DeepCutAuto
import Derived.Deep.CutBlock
import Derived.Deep.RegionHeld3
import Derived.Maps.OwnSet
import Derived.Maps.RangeWalk
import Derived.Maps.StringElems
import Derived.WalkSpells
import Derived.Test.YtdpgdnpddndeoaaGreatDoorQ5
import Derived.Test.YtdpgdnpddndeoaaGreatDoorQ6
import Derived.Test.YtdpgdnpddndeoaaGreatDoorQ0
set_option maxHeartbeats 16000000
set_option maxRecDepth 100000
set_option linter.unusedSimpArgs false
set_option linter.unusedVariables false
open Go.RowKit.Below renaming refl -> zpr
open Nat renaming le_refl -> zps, le_trans -> zpy, add_zero -> zqR, zero_le -> zqf
open Go.Lib renaming size_eq -> zp7
open List renaming getElem?_eq_getElem -> zpv, getD_eq_getElem?_getD -> zpw, length_map -> zp9, length_append -> zpF, length_singleton -> zpG, map_cons -> zpS, take_succ_eq_append_getElem -> zpU, mem_cons_self -> zqP, mem_cons_of_mem -> zqQ, take_of_length_le -> zqS, getElem?_take_of_lt -> zqg, length_filter_le -> zqi, map_append -> zqj, getElem_mem -> zqJ, mem_map -> zqT
open Array renaming getElem?_modify -> zqb, getElem?_toList -> zqd
open Option.some renaming inj -> zp2
open Int renaming toNat_natCast -> zqF
open Go.Proofs.Tryz renaming prog -> zp0
open ByteArray renaming empty -> zp1
open Go.Proofs.YtdpgdnpddndeoaaGreatDoorW.PrintWords.Kd renaming C_below -> zqO, string -> zp6, R_reads -> zql
namespace Go.Proofs.YtdpgdnpddndeoaaGreatDoor
open Go.RowKit Go.Maps
namespace X
open YtdpgdnpddndeoaaGreatDoorW.PrintWords YtdpgdnpddndeoaaGreatDoorW.PrintMore YtdpgdnpddndeoaaGreatDoorW.PrintLast
theorem zkT (s : ByteArray) (w : World) (hs : s.size <= 9223372036854775807) :
 Calls zp0 58 #[.string s, .string ⟨#[10]⟩] w fun e w' => e = .returned (.string (mk (zby s.data.toList))) /\ w = w' := by
 have hcall := Go.Proofs.Any.strings_TrimSuffix Go.Proofs.Tryz.lays102 s (mk [10]) w hs; change Calls zp0 58 _ _ _ at hcall
 rw [za9, zlr] at hcall; exact hcall.mono fun e w' ⟨he, hw⟩ => ⟨he, hw.symm⟩
def zax (s : ByteArray) : List ByteArray := (zbs s.data.toList).map mk
theorem zoR (b : zaa) : (zby b).length <= b.length := by
 unfold zby; split
 . rw [List.length_dropLast]; omega
 . exact zps _
theorem zea (s : ByteArray) (w : World) (hG : GOK w) (hs : s.size < 4294967281) :
 Calls zp0 23 #[.string s] w fun e w' => ∃ v, e = .returned v /\ RS w' w.heap.size v (zax s) /\ Below w.heap.size w w' := by
 by_cases h : s.toList = []
 . have hl : zax s = [] := by unfold zax zbs; rw [<- za2, if_pos h]; rfl
   rw [hl]; clear hl hs hG; go_enter Tryz.func23, Tryz.ntmps23
   go_wp2_with fail; go_ret
   exact ⟨.slice none 0 0, rfl, Kd.R_nil _ _ _ _ _, zpr _ _⟩
 . have d1 : (s.toList == []) = false := by simp [h]
   have hl : zax s = (za0 10 (zby s.data.toList)).map mk := by unfold zax zbs; rw [<- za2, if_neg h]
   have hz : (mk (zby s.data.toList)).size < 4294967281 := by rw [zaX]; have := zoR s.data.toList; rw [<- zp7] at this; omega
   have hT := zkT s w (by omega)
   have hS := strings_Split.calls (mk (zby s.data.toList)) ⟨#[10]⟩ (zax s) w hG (by rw [strings_Split.one _ 10 hz, za9, hl])
   have HT := zpo hT; have HS := zpo hS; clear hl hz hs hG hT hS; generalize mk (zby s.data.toList) = t at HT HS; go_enter Tryz.func23, Tryz.ntmps23
   go_wp2_with (first | (go_at_call 58; refine HT.out.mono ?_; rintro e w' ⟨rfl, rfl⟩) | (go_at_call 57; refine HS.out.mono ?_; rintro e w2 ⟨v, rfl, hR, hb⟩; have HR := zpo hR; have HB := zpo hb; clear hR hb))
   go_ret
   exact ⟨v, rfl, HR.out, HB.out⟩
theorem zhF (l : List zaa) (k : Nat) (h : k < l.length) : zaC (l.take (k + 1)) = zaC (l.take k) ++ (l[k] ++ [10]) := by
 unfold zaC; rw [zpU h, zqj, List.flatten_append]; simp
theorem zhp (l : List zaa) (k : Nat) : (zaC (l.take k)).length <= (zaC l).length := by
 have : zaC l = zaC (l.take k) ++ zaC (l.drop k) := by
  unfold zaC; rw [<- List.flatten_append, <- zqj, List.take_append_drop]
 rw [this, zpF]; omega
theorem ziR (A0 : Option Addr) (c0 : Nat) (l0 : List ByteArray) (w : World) (hr0 : Kd.C zp6 w A0 l0.length l0) (hs : (zaC (zab l0)).length <= 140737488355328) :
 Calls zp0 79 #[.slice A0 l0.length c0] w fun e w' => e = .returned (.string (mk (zaC (zab l0)))) /\ Below w.heap.size w w' := by
 have hlen : l0.length <= 9223372036854775807 := hr0.2.1; obtain ⟨r, hr⟩ : ∃ r, r = mk (zaC (zab l0)) := ⟨_, rfl⟩; rw [<- hr]; have HR := zpo hr; have HS : Hid ((zaC (zab l0)).length <= 140737488355328) := hs; have HC : Hid (l0 = [] \/ ∃ b o, A0 = some ⟨b, o, none⟩ /\ b < w.heap.size /\ ∀ j, j < l0.length -> w.cell? ⟨b, o + j, none⟩ = some (.string (l0.getD j zp1))) := zaJ hr0; clear hs hr hr0; go_enter Tryz.func79, Tryz.ntmps79
 go_wp2_with fail; go_loopg [5, 8] l0.length (fun gg _ s8 wr => ∃ kk : Nat, kk <= l0.length /\ l0.length - kk <= gg /\ s8 = .int .i64 kk /\ Aside0 (Lib.IsBuilder 150 5 w.heap.size w.heap.size (Lib.byteCells (zaC ((zab l0).take kk))) wr) /\ Aside0 (Below w.heap.size w wr))
 case atStart =>
  refine ⟨0, zqf _, by omega, rfl, ⟨.inl ⟨zps _, .slice none 0 0, heap_alloc_new w _, zcX _ _ _ _, by simp [Value.ownBlock]⟩⟩, ⟨(zpr _ _).alloc (zps _) _⟩⟩
 case round =>
  obtain ⟨kk, hkk, hgk, rfl, HB, HW⟩ := hrel; by_cases hlt : kk < l0.length
  . have hltz : (kk : Int) < (l0.length : Int) := by omega
    obtain ⟨y, hy⟩ : ∃ y, y = l0.getD kk zp1 := ⟨_, rfl⟩; rcases HC.out with h0 | ⟨b, o, rfl, hb, hcell⟩
    . exfalso; rw [h0] at hlt; simp at hlt
    have hx : wr.cell? ⟨b, o + kk, none⟩ = some (.string y) := by rw [hy]; exact zad HW.out (hcell kk hlt)
    have hk : kk < (zab l0).length := by rw [zaL]; exact hlt
    have hyk : (zab l0)[kk] = y.data.toList := by rw [zce l0 kk hlt, hy]; simp [zpw, zpv hlt]
    have hput : zaC ((zab l0).take (kk + 1)) = zaC ((zab l0).take kk) ++ (y.data.toList ++ [10]) := by rw [zhF _ kk hk, hyk]
    have hle : (zaC ((zab l0).take kk)).length + (y.data.toList ++ [10]).length <= 140737488355328 := by
     have := zhp (zab l0) (kk + 1); rw [hput, zpF] at this; exact zpy this HS.out
    have hsz : y.size <= 140737488355328 := by
     have e := zp7 y; simp only [zpF] at hle; omega
    clear hcell hb; have HP := zpo hput; have HL : Hid ((zaC ((zab l0).take kk)).length + (y.data.toList ++ [10]).length <= 140737488355328) := hle; clear hy hput hle hyk hk; go_wp2_with fail; refine (zh0 w.heap.size w.heap.size _ _ _ HB.out ?_ HW.out.size).mono ?_
    . have h1 := HL.out
      have e4 := zp7 y; simp only [zpF, zpG] at h1; simp only [ByteArray.size_append]; show _ + (y.size + 1) <= _
      omega
    rintro e w2 ⟨rfl, hB2, hb2⟩; go_wp2; go_roundg (l0.length - (kk + 1))
    case measure => omega
    case rel =>
     refine ⟨kk + 1, by omega, by omega, by go_num, ⟨?_⟩, ⟨HW.out.trans hb2⟩⟩
     rw [HP.out]; have e5 : (y ++ (⟨#[10]⟩ : ByteArray)).data.toList = y.data.toList ++ [10] := by rw [data_append]
     rw [<- e5]; exact hB2
  . have hltz : ¬ (kk : Int) < (l0.length : Int) := by omega
    obtain rfl : kk = l0.length := by omega
    have hB := HB.out; rw [zqS (by rw [zaL]; exact zps _)] at hB
    clear HB; go_wp2_with (go_at_call 125; refine (zi6 w.heap.size w.heap.size _ _ hB HW.out.size).mono ?_; rintro e w2 ⟨rfl, hb2⟩)
    go_ret
    exact ⟨by rw [HR.out]; rfl, HW.out.trans hb2⟩
theorem zlA (n : Int) (w : World) :
 Calls zp0 54 #[.int .i64 n] w fun e w' => e = .returned (.tuple #[.int .i64 ((zbq n).1 : Nat), .int .i64 ((zbq n).2.1 : Nat), .int .i64 ((zbq n).2.2 : Nat)]) /\ w = w' := by
 have hc : zbq n = if n = 5 then (0, 6, 0) else if n = 6 then (0, 0, 1) else if n = 7 then (1, 1, 1) else if n = 8 then (1, 1, 2) else (1, 1, 0) := rfl
 generalize zbq n = c at hc |-; by_cases h5 : n = 5
 . rw [if_pos h5] at hc
   subst hc; have d5 : (n == 5) = true := by simp [h5]
   clear h5; go_enter Tryz.func54, Tryz.ntmps54
   go_wp2_with fail; go_ret3
   exact ⟨rfl, rfl⟩
 have d5 : (n == 5) = false := by simp [h5]
 rw [if_neg h5] at hc; by_cases h6 : n = 6
 . rw [if_pos h6] at hc
   subst hc; have d6 : (n == 6) = true := by simp [h6]
   clear h5 h6; go_enter Tryz.func54, Tryz.ntmps54
   go_wp2_with fail; go_ret3
   exact ⟨rfl, rfl⟩
 have d6 : (n == 6) = false := by simp [h6]
 rw [if_neg h6] at hc; by_cases h7 : n = 7
 . rw [if_pos h7] at hc
   subst hc; have d7 : (n == 7) = true := by simp [h7]
   clear h5 h6 h7; go_enter Tryz.func54, Tryz.ntmps54
   go_wp2_with fail; go_ret3
   exact ⟨rfl, rfl⟩
 have d7 : (n == 7) = false := by simp [h7]
 rw [if_neg h7] at hc; by_cases h8 : n = 8
 . rw [if_pos h8] at hc
   subst hc; have d8 : (n == 8) = true := by simp [h8]
   clear h5 h6 h7 h8; go_enter Tryz.func54, Tryz.ntmps54
   go_wp2_with fail; go_ret3
   exact ⟨rfl, rfl⟩
 have d8 : (n == 8) = false := by simp [h8]
 rw [if_neg h8] at hc; subst hc; clear h5 h6 h7 h8; go_enter Tryz.func54, Tryz.ntmps54
 go_wp2_with fail; go_ret3
 exact ⟨rfl, rfl⟩
theorem zmv : ∀ args w, (callFunc 55 args).run zp0 w = .ok (.enter 55 args) w := Go.Proofs.enters_of Tryz.func55 (by kernel_rfl) rfl
theorem zo1 (w : World) : zdM 55 #[] (fun b => decide (100 < b.size)) w := by
 intro W x _; show Calls zp0 55 #[.string x] W fun e w2 => e = .returned (.bool (decide (100 < x.size))) /\ Below W.heap.size W w2
 by_cases hx : 100 < x.size
 . have hd : decide ((100 : Int) < (x.size : Int)) = true := by simp; omega
   have hF : decide (100 < x.size) = true := by simp [hx]
   rw [hF]; have hz : (100 : Int) < (x.size : Int) := by omega
   clear hF hx; go_enter Tryz.func55, Tryz.ntmps55
   go_wp2_with fail; go_ret
   exact ⟨rfl, zpr _ _⟩
 . have hd : decide ((100 : Int) < (x.size : Int)) = false := by simp; omega
   have hF : decide (100 < x.size) = false := by simp [hx]
   rw [hF]; have hz : ¬ (100 : Int) < (x.size : Int) := by omega
   clear hF hx; go_enter Tryz.func55, Tryz.ntmps55
   go_wp2_with fail; go_ret
   exact ⟨rfl, zpr _ _⟩
theorem zmJ (l : List ByteArray) : ((l.map (·.data.toList)).any fun b => decide (100 < b.length)) = l.any fun b => decide (100 < b.size) := by
 rw [List.any_map]; congr 1
--MAY
theorem zeO (x : zar) (B2 : Option Addr) (c2 : Nat) (B3 : Option Addr) (c3 : Nat) (w : World) (h2 : Kd.C zp6 w B2 x.f2.length x.f2) (h3 : Kd.C zp6 w B3 x.f3.length x.f3) :
 Calls zp0 20 #[.agg #[.string x.f0, .int .i64 x.f1, .slice B2 x.f2.length c2, .slice B3 x.f3.length c3, .int .i64 x.f4]] w fun e w' => e = .returned (.bool (mayC (zag x))) /\ Below w.heap.size w w' := by
 have hl2 : x.f2.length <= 9223372036854775807 := h2.2.1; have hl3 : x.f3.length <= 9223372036854775807 := h3.2.1; have hab := (zpr w.heap.size w).alloc (zps _) (.cells #[.string x.f0, .int .i64 x.f1, .slice B2 x.f2.length c2, .slice B3 x.f3.length c3, .int .i64 x.f4] 24); have HK := zpo (zak w (.cells #[.string x.f0, .int .i64 x.f1, .slice B2 x.f2.length c2, .slice B3 x.f3.length c3, .int .i64 x.f4] 24)); have H3 := zpo (zqO h3 hab); have HB1 := zpo hab; obtain ⟨T, hT⟩ : ∃ T, T = mayC (zag x) := ⟨_, rfl⟩; rw [<- hT]; have hT2 : T = (!(decide (x.f1 < 1) || decide (9 < x.f1) || decide (x.f2.length < (zbq x.f1).1) || decide ((zbq x.f1).2.1 < x.f2.length) || decide (x.f3.length ≠ (zbq x.f1).2.2) || x.f3.any (fun b => decide (100 < b.size))) &&
  !((x.f1 == 8 && (x.f3.map (·.data.toList)).getD 0 [] == []) || decide (x.f4 < 0) || decide (2000 < x.f4) || (x.f1 != 9 && x.f4 != 0))) := by
  rw [hT, <- zmJ]; unfold mayC zag; dsimp only; rw [zp9]
 have h8 : x.f1 = 8 -> (zbq x.f1).2.2 = 2 := by intro h; rw [h]; rfl
 have hC : ∀ W, Calls zp0 54 #[.int .i64 x.f1] W fun e w' => e = .returned (.tuple #[.int .i64 ((zbq x.f1).1 : Nat), .int .i64 ((zbq x.f1).2.1 : Nat), .int .i64 ((zbq x.f1).2.2 : Nat)]) /\ W = w' := fun W => zlA x.f1 W
 obtain ⟨f0, f1, f2, f3, f4⟩ := x; dsimp only at *; generalize (zbq f1).1 = a at hC hT2; generalize (zbq f1).2.1 = m at hC hT2; generalize (zbq f1).2.2 = k at hC hT2 h8; have HC := zpo hC; have HT := zpo hT2; have H8 := zpo h8; clear h2 h3 hab hT hT2 h8 hC; go_enter Tryz.func20, Tryz.ntmps20
 go_upto_block 0 with (first | (go_at_call 54; refine (HC.out _).mono ?_; rintro e w' ⟨rfl, rfl⟩))
 generalize w.alloc (.cells #[.string f0, .int .i64 f1, .slice B2 f2.length c2, .slice B3 f3.length c3, .int .i64 f4] 24) = w1 at H3 HB1 HK |-; have k1 := bc1 HK.out; have k2 := bc2 HK.out; have k3 := bc3 HK.out; have k4 := bc4 HK.out; have hL := zdX 55 #[] zmv (fun b => decide (100 < b.size)) B3 c3 f3 w1 H3.out (zo1 w1)
 obtain ⟨lg, hlg⟩ : ∃ lg, lg = f3.any (fun b => decide (100 < b.size)) := ⟨_, rfl⟩
 have hT3 := HT.out; rw [<- hlg] at hL hT3; have HL := zpo hL; have HU := zpo hT3; clear hlg hL hT3 HT HC; by_cases q1 : f1 < (1 : Int)
 . have d1 : decide (f1 < 1) = true := by simp [q1]
   have HF : Hid (T = false) := by show _ = _; first | (exfalso; omega) | (rw [HU.out]; simp [q1])
   clear HU H8; go_wp2_with (first | (go_at_call 56; refine HL.out.mono ?_; rintro e w2 ⟨rfl, hb2⟩; have k1' := zad hb2 k1; have k3' := zad hb2 k3; have k4' := zad hb2 k4))
   go_ret
   exact ⟨by rw [HF.out]; rfl, by first | exact HB1.out | exact zac HB1.out HB1.out.size hb2⟩
 . have d1 : decide (f1 < 1) = false := by simp [q1]
   by_cases q2 : (9 : Int) < f1
   . have d2 : decide (9 < f1) = true := by simp [q2]
     have HF : Hid (T = false) := by show _ = _; first | (exfalso; omega) | (rw [HU.out]; simp [q1, q2])
     clear HU H8; go_wp2_with (first | (go_at_call 56; refine HL.out.mono ?_; rintro e w2 ⟨rfl, hb2⟩; have k1' := zad hb2 k1; have k3' := zad hb2 k3; have k4' := zad hb2 k4))
     go_ret
     exact ⟨by rw [HF.out]; rfl, by first | exact HB1.out | exact zac HB1.out HB1.out.size hb2⟩
   . have d2 : decide (9 < f1) = false := by simp [q2]
     by_cases q3 : f2.length < a
     . have d3 : decide (f2.length < a) = true := by simp [q3]
       have HF : Hid (T = false) := by show _ = _; first | (exfalso; omega) | (rw [HU.out]; simp [q1, q2, q3])
       clear HU H8; go_wp2_with (first | (go_at_call 56; refine HL.out.mono ?_; rintro e w2 ⟨rfl, hb2⟩; have k1' := zad hb2 k1; have k3' := zad hb2 k3; have k4' := zad hb2 k4))
       go_ret
       exact ⟨by rw [HF.out]; rfl, by first | exact HB1.out | exact zac HB1.out HB1.out.size hb2⟩
     . have d3 : decide (f2.length < a) = false := by simp [q3]
       by_cases q4 : m < f2.length
       . have d4 : decide (m < f2.length) = true := by simp [q4]
         have HF : Hid (T = false) := by show _ = _; first | (exfalso; omega) | (rw [HU.out]; simp [q1, q2, q3, q4])
         clear HU H8; go_wp2_with (first | (go_at_call 56; refine HL.out.mono ?_; rintro e w2 ⟨rfl, hb2⟩; have k1' := zad hb2 k1; have k3' := zad hb2 k3; have k4' := zad hb2 k4))
         go_ret
         exact ⟨by rw [HF.out]; rfl, by first | exact HB1.out | exact zac HB1.out HB1.out.size hb2⟩
       . have d4 : decide (m < f2.length) = false := by simp [q4]
         by_cases q5 : f3.length = k
         . have d5 : ((f3.length : Int) != (k : Int)) = false := by simp [q5]
           have d5' : ((f3.length : Int) == (k : Int)) = true := by simp [q5]
           by_cases q6 : lg = true
           . subst q6
             have HF : Hid (T = false) := by show _ = _; first | (exfalso; omega) | (rw [HU.out]; simp [q1, q2, q3, q4, q5])
             clear HU H8 q5; go_wp2_with (first | (go_at_call 56; refine HL.out.mono ?_; rintro e w2 ⟨rfl, hb2⟩; have k1' := zad hb2 k1; have k3' := zad hb2 k3; have k4' := zad hb2 k4))
             go_ret
             exact ⟨by rw [HF.out]; rfl, by first | exact HB1.out | exact zac HB1.out HB1.out.size hb2⟩
           . have q6 : lg = false := by simpa using q6
             subst q6; by_cases q7 : f1 = 8
             . have d8 : (f1 == 8) = true := by simp [q7]
               have hk2 := H8.out q7; have hlen0 : (0 : Int) < (f3.length : Int) := by omega
               rcases zaJ H3.out with h0 | ⟨b, o, rfl, _, hcell⟩
               . exfalso; rw [h0] at hlen0; simp at hlen0
               have p0 := hcell 0 (by omega)
               rw [zqR] at p0; have hsp : (f3.map (·.data.toList)).getD 0 [] = (f3.getD 0 zp1).data.toList := by cases f3 <;> rfl
               have hU := HU.out; rw [hsp] at hU; generalize f3.getD 0 zp1 = y at p0 hU; clear HU; have HU := zpo hU; clear hcell hsp hU hk2; by_cases q8 : y.data.toList = []
               . have dy : y.toList = [] := by rw [za2]; exact q8
                 have dz : (y.toList == []) = true := by simp [dy]
                 have hz : (y.data.toList == []) = true := by simp [q8]
                 have hU := HU.out; rw [hz] at hU; clear HU; have HU := zpo hU; clear hU hz; have HF : Hid (T = false) := by show _ = _; first | (exfalso; omega) | (rw [HU.out]; simp [q1, q2, q3, q4, q5, q7])
                 clear HU H8 q5 q7 q8; go_wp2_with (first | (go_at_call 56; refine HL.out.mono ?_; rintro e w2 ⟨rfl, hb2⟩; have k1' := zad hb2 k1; have k3' := zad hb2 k3; have k4' := zad hb2 k4; have p0' := zad hb2 p0))
                 go_ret
                 exact ⟨by rw [HF.out]; rfl, by first | exact HB1.out | exact zac HB1.out HB1.out.size hb2⟩
               . have dy : ¬ y.toList = [] := by rw [za2]; exact q8
                 have dz : (y.toList == []) = false := by simp [dy]
                 have hz : (y.data.toList == []) = false := by rw [<- za2]; exact dz
                 have hU := HU.out; rw [hz] at hU; clear HU; have HU := zpo hU; clear hU hz; by_cases q9 : f4 < (0 : Int)
                 . have d90 : decide (f4 < 0) = true := by simp [q9]
                   have HF : Hid (T = false) := by show _ = _; first | (exfalso; omega) | (rw [HU.out]; simp [q1, q2, q3, q4, q5, q7, q9])
                   clear HU H8 q5 q7 q8; go_wp2_with (first | (go_at_call 56; refine HL.out.mono ?_; rintro e w2 ⟨rfl, hb2⟩; have k1' := zad hb2 k1; have k3' := zad hb2 k3; have k4' := zad hb2 k4; have p0' := zad hb2 p0))
                   go_ret
                   exact ⟨by rw [HF.out]; rfl, by first | exact HB1.out | exact zac HB1.out HB1.out.size hb2⟩
                 . have d90 : decide (f4 < 0) = false := by simp [q9]
                   by_cases qa : (2000 : Int) < f4
                   . have d20 : decide (2000 < f4) = true := by simp [qa]
                     have HF : Hid (T = false) := by show _ = _; first | (exfalso; omega) | (rw [HU.out]; simp [q1, q2, q3, q4, q5, q7, q9, qa])
                     clear HU H8 q5 q7 q8; go_wp2_with (first | (go_at_call 56; refine HL.out.mono ?_; rintro e w2 ⟨rfl, hb2⟩; have k1' := zad hb2 k1; have k3' := zad hb2 k3; have k4' := zad hb2 k4; have p0' := zad hb2 p0))
                     go_ret
                     exact ⟨by rw [HF.out]; rfl, by first | exact HB1.out | exact zac HB1.out HB1.out.size hb2⟩
                   . have d20 : decide (2000 < f4) = false := by simp [qa]
                     by_cases qb : f1 = 9
                     . have d9 : (f1 == 9) = true := by simp [qb]
                       have e9 : (f1 != 9) = false := by simp [qb]
                       have HF : Hid (T = true) := by show _ = _; first | (exfalso; omega) | (rw [HU.out]; simp [q1, q2, q3, q4, q5, q7, q9, qa, qb])
                       clear HU H8 q5 q7 q8 qb; go_wp2_with (first | (go_at_call 56; refine HL.out.mono ?_; rintro e w2 ⟨rfl, hb2⟩; have k1' := zad hb2 k1; have k3' := zad hb2 k3; have k4' := zad hb2 k4; have p0' := zad hb2 p0))
                       go_ret
                       exact ⟨by rw [HF.out]; rfl, by first | exact HB1.out | exact zac HB1.out HB1.out.size hb2⟩
                     . have d9 : (f1 == 9) = false := by simp [qb]
                       have e9 : (f1 != 9) = true := by simp [qb]
                       by_cases qc : f4 = 0
                       . have d0 : (f4 == 0) = true := by simp [qc]
                         have e0 : (f4 != 0) = false := by simp [qc]
                         have HF : Hid (T = true) := by show _ = _; first | (exfalso; omega) | (rw [HU.out]; simp [q1, q2, q3, q4, q5, q7, q9, qa, qb, qc])
                         clear HU H8 q5 q7 q8 qb qc; go_wp2_with (first | (go_at_call 56; refine HL.out.mono ?_; rintro e w2 ⟨rfl, hb2⟩; have k1' := zad hb2 k1; have k3' := zad hb2 k3; have k4' := zad hb2 k4; have p0' := zad hb2 p0))
                         go_ret
                         exact ⟨by rw [HF.out]; rfl, by first | exact HB1.out | exact zac HB1.out HB1.out.size hb2⟩
                       . have d0 : (f4 == 0) = false := by simp [qc]
                         have e0 : (f4 != 0) = true := by simp [qc]
                         have HF : Hid (T = false) := by show _ = _; first | (exfalso; omega) | (rw [HU.out]; simp [q1, q2, q3, q4, q5, q7, q9, qa, qb, qc])
                         clear HU H8 q5 q7 q8 qb qc; go_wp2_with (first | (go_at_call 56; refine HL.out.mono ?_; rintro e w2 ⟨rfl, hb2⟩; have k1' := zad hb2 k1; have k3' := zad hb2 k3; have k4' := zad hb2 k4; have p0' := zad hb2 p0))
                         go_ret
                         exact ⟨by rw [HF.out]; rfl, by first | exact HB1.out | exact zac HB1.out HB1.out.size hb2⟩
             . have d8 : (f1 == 8) = false := by simp [q7]
               by_cases q9 : f4 < (0 : Int)
               . have d90 : decide (f4 < 0) = true := by simp [q9]
                 have HF : Hid (T = false) := by show _ = _; first | (exfalso; omega) | (rw [HU.out]; simp [q1, q2, q3, q4, q5, q7, q9])
                 clear HU H8 q5 q7; go_wp2_with (first | (go_at_call 56; refine HL.out.mono ?_; rintro e w2 ⟨rfl, hb2⟩; have k1' := zad hb2 k1; have k3' := zad hb2 k3; have k4' := zad hb2 k4))
                 go_ret
                 exact ⟨by rw [HF.out]; rfl, by first | exact HB1.out | exact zac HB1.out HB1.out.size hb2⟩
               . have d90 : decide (f4 < 0) = false := by simp [q9]
                 by_cases qa : (2000 : Int) < f4
                 . have d20 : decide (2000 < f4) = true := by simp [qa]
                   have HF : Hid (T = false) := by show _ = _; first | (exfalso; omega) | (rw [HU.out]; simp [q1, q2, q3, q4, q5, q7, q9, qa])
                   clear HU H8 q5 q7; go_wp2_with (first | (go_at_call 56; refine HL.out.mono ?_; rintro e w2 ⟨rfl, hb2⟩; have k1' := zad hb2 k1; have k3' := zad hb2 k3; have k4' := zad hb2 k4))
                   go_ret
                   exact ⟨by rw [HF.out]; rfl, by first | exact HB1.out | exact zac HB1.out HB1.out.size hb2⟩
                 . have d20 : decide (2000 < f4) = false := by simp [qa]
                   by_cases qb : f1 = 9
                   . have d9 : (f1 == 9) = true := by simp [qb]
                     have e9 : (f1 != 9) = false := by simp [qb]
                     have HF : Hid (T = true) := by show _ = _; first | (exfalso; omega) | (rw [HU.out]; simp [q1, q2, q3, q4, q5, q7, q9, qa, qb])
                     clear HU H8 q5 q7 qb; go_wp2_with (first | (go_at_call 56; refine HL.out.mono ?_; rintro e w2 ⟨rfl, hb2⟩; have k1' := zad hb2 k1; have k3' := zad hb2 k3; have k4' := zad hb2 k4))
                     go_ret
                     exact ⟨by rw [HF.out]; rfl, by first | exact HB1.out | exact zac HB1.out HB1.out.size hb2⟩
                   . have d9 : (f1 == 9) = false := by simp [qb]
                     have e9 : (f1 != 9) = true := by simp [qb]
                     by_cases qc : f4 = 0
                     . have d0 : (f4 == 0) = true := by simp [qc]
                       have e0 : (f4 != 0) = false := by simp [qc]
                       have HF : Hid (T = true) := by show _ = _; first | (exfalso; omega) | (rw [HU.out]; simp [q1, q2, q3, q4, q5, q7, q9, qa, qb, qc])
                       clear HU H8 q5 q7 qb qc; go_wp2_with (first | (go_at_call 56; refine HL.out.mono ?_; rintro e w2 ⟨rfl, hb2⟩; have k1' := zad hb2 k1; have k3' := zad hb2 k3; have k4' := zad hb2 k4))
                       go_ret
                       exact ⟨by rw [HF.out]; rfl, by first | exact HB1.out | exact zac HB1.out HB1.out.size hb2⟩
                     . have d0 : (f4 == 0) = false := by simp [qc]
                       have e0 : (f4 != 0) = true := by simp [qc]
                       have HF : Hid (T = false) := by show _ = _; first | (exfalso; omega) | (rw [HU.out]; simp [q1, q2, q3, q4, q5, q7, q9, qa, qb, qc])
                       clear HU H8 q5 q7 qb qc; go_wp2_with (first | (go_at_call 56; refine HL.out.mono ?_; rintro e w2 ⟨rfl, hb2⟩; have k1' := zad hb2 k1; have k3' := zad hb2 k3; have k4' := zad hb2 k4))
                       go_ret
                       exact ⟨by rw [HF.out]; rfl, by first | exact HB1.out | exact zac HB1.out HB1.out.size hb2⟩
         . have d5 : ((f3.length : Int) != (k : Int)) = true := by simp; omega
           have d5' : ((f3.length : Int) == (k : Int)) = false := by simp; omega
           have HF : Hid (T = false) := by show _ = _; first | (exfalso; omega) | (rw [HU.out]; simp [q1, q2, q3, q4, q5])
           clear HU H8 q5; go_wp2_with (first | (go_at_call 56; refine HL.out.mono ?_; rintro e w2 ⟨rfl, hb2⟩; have k1' := zad hb2 k1; have k3' := zad hb2 k3; have k4' := zad hb2 k4))
           go_ret
           exact ⟨by rw [HF.out]; rfl, by first | exact HB1.out | exact zac HB1.out HB1.out.size hb2⟩
end X
namespace X
open Go.Sort YtdpgdnpddndeoaaGreatDoorW.PrintWords YtdpgdnpddndeoaaGreatDoorW.PrintMore YtdpgdnpddndeoaaGreatDoorW.PrintLast
theorem zoC (A : Option Addr) (n c : Nat) (W : World) :
 Calls zp0 81 #[.slice A n c] W fun e W' => e = .returned (.func (.func 127) #[] #[.pointer (some ⟨W.heap.size, 0, none⟩)]) /\ W' = W.alloc (.cells #[.slice A n c] 22) := by
 go_enter Tryz.func81, Tryz.ntmps81
 go_wp2; go_ret
 exact ⟨rfl, rfl⟩
theorem zpa (A : Option Addr) (c : Nat) (l : List ByteArray) (w : World) (hr : Kd.C zp6 w A l.length l) (hbytes : l.length * 16 <= 140737488355328) :
 Calls zp0 80 #[.func (.func 127) #[] #[.pointer (some ⟨w.heap.size, 0, none⟩)]] (w.alloc (.cells #[.slice A l.length c] 22)) fun e W' => ∃ v, e = .returned v /\ RS W' w.heap.size v (zae l) /\ Below w.heap.size w W' := by
 have hS0 : StrsAt w.heap.size w (.slice A l.length c) l := by
  rcases zaJ hr with h0 | ⟨b, o, rfl, hb, hcell⟩
  . subst h0
    exact .inl ⟨⟨A, c, rfl⟩, rfl⟩
  . refine .inr ⟨b, o, c, rfl, hb, fun j hj => ?_⟩
    have := hcell j hj; rwa [zpw] at this
 have hS := hS0.below ((zpr w.heap.size w).alloc (zps _) (.cells #[.slice A l.length c] 22)); have hS1 : StrsAt (w.alloc (.cells #[.slice A l.length c] 22)).heap.size (w.alloc (.cells #[.slice A l.length c] 22)) (.slice A l.length c) l := by
  rcases hS with h | ⟨b, o, cc, h1, hb, h2⟩
  . exact .inl h
  . exact .inr ⟨b, o, cc, h1, by simp; omega, h2⟩
 have h := zim w.heap.size _ l hbytes (w.alloc (.cells #[.slice A l.length c] 22)) (by simp) ((zaf (zak w _) 0).trans rfl) hS1
 exact h.mono fun e W' ⟨v, he, ho, hb⟩ => ⟨v, he, Kd.R_lower ho (by simp), zac ((zpr w.heap.size w).alloc (zps _) _) (by simp) hb⟩
theorem zep (l : List ByteArray) : zab (zae l) = (zab l).mergeSort fun x y => decide (x <= y) := zcH _
theorem zmQ (s t : ByteArray) (w : World) (hG : GOK w) (hs : s.size < 4294967281) :
 Calls zp0 85 #[.string s, .string t] w fun e w' => e = .returned (.bool (Lib.contains s.data.toList t.data.toList)) /\ w = w' := by
 obtain ⟨m, hm⟩ := hG.maxLen; have hcall := Go.Proofs.Any.strings_Contains Go.Proofs.Tryz.lays144 s t m w hs hm; change Calls zp0 85 _ _ _ at hcall
 exact hcall.mono fun e w' ⟨he, hw⟩ => ⟨he, hw.symm⟩
theorem znR (s old : ByteArray) (h1 : 1 <= old.size) : Lib.countB s old <= s.size := by
 have h := Lib.countB_mul_le old h1 s.size s (zps _); have h2 : Lib.countB s old <= Lib.countB s old * old.size := Nat.le_mul_of_pos_right _ h1; omega
theorem zjE : Go.Proofs.Builder.Extra zp0 Go.Proofs.Tryz.lays154_ren := {
 sizeBuilder := by kernel_rfl
 liesBuilder := by kernel_rfl
 t5 := Tryz.underlying5
 a5 := Tryz.isAgg5
 z5 := Tryz.sizeOf5
 v5 := Tryz.zeroValue5
 infoByte := by kernel_rfl
 cellsByte := by kernel_rfl
 sizeByte := by kernel_rfl
 neB5 := by decide }
theorem zlx (s old new : ByteArray) (w : World) (hG : GOK w) (h1 : 1 <= old.size) (hs : s.size <= 16777216) (hn : new.size <= 100) :
 Calls zp0 130 #[.string s, .string old, .string new, .int .i64 (-1)] w fun e w' => e = .returned (.string (mk (Lib.replaceAll s.data.toList old.data.toList new.data.toList))) /\ Below w.heap.size w w' := by
 obtain ⟨m, hm⟩ := hG.maxLen; by_cases he : old = new
 . have hcall := Go.Proofs.Any.strings_Replace_none Go.Proofs.Tryz.lays154 s old new (-1) w (.inl he)
   change Calls zp0 130 _ _ _ at hcall
   refine hcall.mono fun e w' ⟨he1, hw⟩ => ⟨?_, by rw [hw]; exact zpr _ _⟩
   have : Lib.replaceAll s.data.toList old.data.toList new.data.toList = s.data.toList := by
    unfold Lib.replaceAll Lib.replace; rw [if_pos (by simp [he])]
   rw [this, zbh]; exact he1
 . have hne2 : ¬ (old.data.toList == new.data.toList) = true := by
    intro h; exact he (zbR (by simpa using h))
   have hnum : Lib.replaceNum s.data.toList old.data.toList (-1) = Lib.count s.data.toList old.data.toList := by unfold Lib.replaceNum; rw [if_pos (by omega)]
   by_cases hc : Lib.countB s old = 0
   . have hcall := Go.Proofs.Any.strings_Replace_absent Go.Proofs.Tryz.lays154 s old new (-1) m w (by omega) hm h1 he (by decide) hc
     change Calls zp0 130 _ _ _ at hcall
     refine hcall.mono fun e w' ⟨he1, hw⟩ => ⟨?_, by rw [hw]; exact zpr _ _⟩
     have : Lib.replaceAll s.data.toList old.data.toList new.data.toList = s.data.toList := by
      unfold Lib.replaceAll Lib.replace; rw [if_neg (by simpa using hne2), hnum]
      have : Lib.count s.data.toList old.data.toList = 0 := hc; rw [this]; rfl
     rw [this, zbh]; exact he1
   . have hle := znR s old h1
     have hmul : Lib.countB s old * new.size <= 16777216 * 100 := Nat.mul_le_mul (by omega) hn
     have hcall := Go.Proofs.Any.strings_Replace_some Go.Proofs.Tryz.lays154 zjE s old new (-1) m w (by omega) hm h1 he (by decide) hc (by omega)
     change Calls zp0 130 _ _ _ at hcall
     refine hcall.mono fun e w' ⟨he1, hw⟩ => ⟨?_, hw⟩
     have : Lib.replaceAll s.data.toList old.data.toList new.data.toList = Lib.replaceK old.data.toList new.data.toList (Lib.replaceNum s.data.toList old.data.toList (-1)) s.data.toList := by
      unfold Lib.replaceAll Lib.replace; rw [if_neg (by simpa using hne2)]
     rw [this]; exact he1
theorem znv (s old new : ByteArray) (w : World) (hG : GOK w) (h1 : 1 <= old.size) (hs : s.size <= 16777216) (hn : new.size <= 100) :
 Calls zp0 87 #[.string s, .string old, .string new] w fun e w' => e = .returned (.string (mk (Lib.replaceAll s.data.toList old.data.toList new.data.toList))) /\ Below w.heap.size w w' := by
 have hR := zlx s old new w hG h1 hs hn; generalize mk (Lib.replaceAll s.data.toList old.data.toList new.data.toList) = z at hR |-; have HR := zpo hR; clear hR hG h1 hs hn; go_enter Tryz.func87, Tryz.ntmps87
 go_wp2_with (first | (go_at_call 130; refine HR.out.mono ?_; rintro e w2 ⟨rfl, hb2⟩))
 go_ret
 exact ⟨rfl, hb2⟩
theorem zbc {s : Cmd} (h : mayC s = true) : (1 <= s.op /\ s.op <= 9) /\ (s.op ≠ 5 -> s.op ≠ 6 -> s.args = 1) /\ (s.op = 5 -> s.args <= 6) /\ (s.op = 6 -> s.args = 0 /\ s.lits.length = 1) /\ (s.op = 7 -> s.lits.length = 1) /\ (s.op = 8 -> s.lits.length = 2 /\ s.lits.getD 0 [] ≠ []) /\ (0 <= s.n /\ s.n <= 2000) /\ (∀ l ∈ s.lits, l.length <= 100) := by
 obtain ⟨h1, h2, h3⟩ := zkh h; unfold mayC at h; rw [Bool.and_eq_true] at h; obtain ⟨g1, g2⟩ := h; simp only [Bool.not_eq_true', Bool.or_eq_false_iff, decide_eq_false_iff_not] at g1 g2; obtain ⟨⟨⟨⟨⟨_, _⟩, g3⟩, g4⟩, g5⟩, g6⟩ := g1; obtain ⟨⟨⟨_, g7⟩, g8⟩, _⟩ := g2; have hc : zbq s.op = if s.op = 5 then (0, 6, 0) else if s.op = 6 then (0, 0, 1) else if s.op = 7 then (1, 1, 1) else if s.op = 8 then (1, 1, 2) else (1, 1, 0) := rfl
 rw [hc] at g3 g4 g5; refine ⟨⟨h1, h2⟩, fun a b => ?_, fun a => ?_, fun a => ?_, fun a => ?_, fun a => ?_, ⟨by omega, by omega⟩, fun l hl => ?_⟩
 . rw [if_neg a, if_neg b] at g3 g4
   split at g3
   . rename_i e; rw [if_pos e] at g4; simp only at g3 g4; omega
   . rename_i e
     rw [if_neg e] at g4; split at g3 <;> rename_i e2
     . rw [if_pos e2] at g4; simp only at g3 g4; omega
     . rw [if_neg e2] at g4; simp only at g3 g4; omega
 . rw [if_pos a] at g4; simp only at g4; omega
 . rw [if_neg (by omega), if_pos a] at g4 g5; simp only at g4 g5; omega
 . rw [if_neg (by omega), if_neg (by omega), if_pos a] at g5; simp only at g5; omega
 . rw [if_neg (by omega), if_neg (by omega), if_neg (by omega), if_pos a] at g5; simp only at g5; exact ⟨by omega, h3 a⟩
 . have := List.any_eq_false.1 g6 l hl
   simpa using this
theorem zdU (b : zaa) : (zbs b).length <= b.length := (zez b).1
theorem zhC : ∀ l : List zaa, (zaC l).length = (l.map fun x => x.length + 1).sum
 | [] => rfl
 | x :: l => by
  show ((x ++ [10]) ++ zaC l).length = _
  rw [zpF, zhC l, zpS, List.sum_cons, zpF]; rfl
theorem zh4 : ∀ (l : List zaa) (k : Nat), (∀ x ∈ l, x.length <= k) -> (l.map fun x => x.length + 1).sum <= l.length * (k + 1)
 | [], _, _ => by simp
 | x :: l, k, h => by
  have := zh4 l k (fun y hy => h y (zqQ _ hy))
  have hx := h x zqP; rw [zpS, List.sum_cons, List.length_cons, Nat.add_mul, Nat.one_mul]; omega
theorem zeS (b : zaa) (l : List zaa) (hl : l.length <= (zbs b).length) (hs : ∀ x ∈ l, x ∈ zbs b) (hb : b.length <= 4194304) : (zaC l).length <= 140737488355328 := by
 obtain ⟨h1, h2⟩ := zez b; rw [zhC]; have := zh4 l b.length (fun x hx => h2 x (hs x hx))
 have h3 : l.length * (b.length + 1) <= 4194304 * 4194305 := Nat.mul_le_mul (by omega) (by omega)
 omega
theorem zge : ∀ (l : List zaa) (k : Nat), (∀ x ∈ l, x.length <= k) -> l.flatten.length <= l.length * k
 | [], _, _ => by simp
 | x :: l, k, h => by
  have := zge l k (fun y hy => h y (zqQ _ hy))
  have hx := h x zqP; rw [List.flatten_cons, zpF, List.length_cons, Nat.add_mul, Nat.one_mul]; omega
theorem zgO : ∀ l : List zaa, Lib.join l [] = l.flatten
 | [] => rfl
 | [x] => by simp [Lib.join]
 | x :: y :: l => by
  have := zgO (y :: l); simp [Lib.join] at this |-
  exact this
theorem zgl (n : Int) : (zaH n).length <= n.toNat + 1 := by
 unfold zaH; generalize n.toNat = u; induction u using Nat.strongRecOn with
 | ind u ih =>
  rw [Lib.decDigits]; split
  . simp
  . rename_i h
    have := ih (u / 10) (by omega)
    rw [zpF]; simp only [zpG]; omega
theorem zju (y : ByteArray) (h : y.size < 4294967281) : ∀ x ∈ zax y, x.size < 4294967281 := by
 intro x hx; unfold zax at hx; obtain ⟨z, hz, rfl⟩ := zqT.1 hx; have := (zez y.data.toList).2 z hz; rw [<- zp7] at this; rw [zaX]; omega
theorem zeL (q : zaa -> Bool) (l : List ByteArray) : zab (l.filter fun x => q x.data.toList) = (zab l).filter q := by
 unfold zab; rw [List.filter_map]; rfl
theorem zme {B : Nat} {w w1 : World} {row : Option Nat} (hg : w.grownBy w1 row) (hB : B <= w.heap.size) (hb : ∀ k, row = some k -> B <= k) : Below B w w1 := (zpr B w).grown hg hB hb
abbrev Sm := { x : ByteArray // x.size < 4294967281 }
instance : Inhabited Sm := ⟨⟨zp1, by decide⟩⟩
def zcb (x : Sm) : Value := .string x.1
theorem zn7 (l : List ByteArray) (h : ∀ x ∈ l, x.size < 4294967281) : ∃ k : List Sm, k.map (·.1) = l := by
 induction l with
 | nil => exact ⟨[], rfl⟩
 | cons x r ih =>
  obtain ⟨k, hk⟩ := ih (fun y hy => h y (zqQ _ hy))
  exact ⟨⟨x, h x zqP⟩ :: k, by rw [zpS, hk]⟩
theorem zm6 {w : World} {g n : Nat} {os : Array Obj} {cur : Array Value} {e : TypeId} {fr : Nat × Nat} (d : Array Sm) (hb : w.heap[g]? = some (.cells cur e fr)) :
 (Sort.grow (putRow zcb (Sort.ahead w n) g 0 d) os).heap[g]? = some (.cells (putCells zcb 0 d cur) e fr) := by
 have hg : g < w.heap.size := (Array.getElem?_eq_some_iff.1 hb).1; rw [heap_grow_old _ _ (by simpa using hg)]
 simp [putRow, mapBlock, Sort.ahead, zqb, hb, onCells]
theorem zie {w : World} {g n : Nat} {os : Array Obj} (d : Array Sm) : w.grownBy (Sort.grow (putRow zcb (Sort.ahead w n) g 0 d) os) (some g) := by
 refine ⟨rfl, rfl, rfl, by simp, fun k hk hne => ?_⟩
 rw [heap_grow_old _ _ (by simpa using hk)]
 have : g ≠ k := fun e => hne (by rw [e])
 simp [putRow, mapBlock, Sort.ahead, zqb, this]
theorem zkD (cur : Array Value) (ts rest : List Sm) (h : ts.length + rest.length <= cur.size) : (putCells zcb 0 (ts ++ rest).toArray cur).toList.take ts.length = ts.map zcb := by
 apply List.ext_getElem?
 intro j; by_cases hj : j < ts.length
 . rw [zqg hj, zqd]
   simp [putCells, hj, show j < cur.size by omega, show j < ts.length + rest.length by omega, List.getElem_append_left]
 . rw [List.getElem?_take_eq_none (by omega), List.getElem?_eq_none (by simp; omega)]
theorem zmE {w : World} {g : Nat} {cur : Array Value} {e : TypeId} {ss : List Sm} (hb : w.heap[g]? = some (.cells cur e (0, 0))) (ht : cur.toList.take ss.length = ss.map zcb) : Holds zcb w g 0 ss.toArray := by
 intro j hj; have hj' : j < ss.length := by simpa using hj
 refine ⟨?_, by simp [World.frozen?, hb]⟩
 have h1 : (cur.toList.take ss.length)[j]? = (ss.map zcb)[j]? := by rw [ht]
 rw [zqg hj'] at h1; simp only [World.cell?, hb, Nat.zero_add]; simp only [Option.isSome_none, Bool.false_eq_true, if_false]; rw [<- zqd, h1]; simp [hj']
theorem zmL (g : Nat) (lb : Array Value) (A : Option Addr) (c : Nat) (w : World) :
 Calls zp0 76 #[.slice A 0 c, .func (.func g) #[] lb] w fun e w' => e = .returned (.int .i64 (-1)) /\ w = w' := by
 go_enter Tryz.func76, Tryz.ntmps76
 go_wp2; go_loopg [5, 8] 0 (fun _ _ s8 wr => s8 = .int .i64 0 /\ wr = w)
 case atStart => exact ⟨rfl, rfl⟩
 case round =>
  obtain ⟨rfl, rfl⟩ := hrel; go_wp2; go_ret
  exact ⟨rfl, rfl⟩
theorem zoZ (B base g : Nat) (lb : Array Value) (eg : ∀ args w, (callFunc g args).run zp0 w = .ok (.enter g args) w) (q : ByteArray -> Bool) (v : Value) (l : List ByteArray) (w : World)
 (hown : w.ownsRow base 9 1 v l.length (encs Value.string l)) (hB : B <= base) (hBw : B <= w.heap.size) (hp : ∀ (W : World) (x : ByteArray), Below B w W -> x.size < 4294967281 -> Go.Proofs.FnGives zp0 g lb #[.string x] (.bool (!q x)) W) (hs : ∀ x ∈ l, x.size < 4294967281) :
 Calls zp0 86 #[v, .func (.func g) #[] lb] w fun e w' => ∃ v', e = .returned v' /\ w'.ownsRow base 9 1 v' (l.filter q).length (encs Value.string (l.filter q)) /\ v'.ownBlock = v.ownBlock /\ w.grownBy w' v.ownBlock := by
 obtain ⟨k, rfl⟩ := zn7 l hs; have hfm : (k.map (·.1)).filter q = (k.filter fun x : Sm => q x.1).map (·.1) := by rw [List.filter_map]; rfl
 have hem : ∀ j : List Sm, encs Value.string (j.map (·.1)) = j.map zcb := fun j => by unfold encs; rw [List.map_map]; rfl
 rw [hfm]; rw [hem] at hown |-; rw [zp9] at hown |-; have hlen : k.length <= 9223372036854775807 := by
  rcases hown.2 with ⟨_, h0⟩ | ⟨_, cap, cur, _, _, _, h1, h2, _⟩
  . omega
  . simp only [maxLen] at h2; omega
 rcases hown.2 with ⟨rfl, h0⟩ | ⟨gb, cap, cur, rfl, hbase, hb, h1, h2, h3, h4⟩
 . obtain rfl : k = [] := List.eq_nil_of_length_eq_zero h0
   have hI := zmL g lb none 0 w; clear hp hown h0 hs hfm; go_enter Tryz.func86, Tryz.ntmps86
   go_wp2_with fail; refine hI.mono ?_; rintro e w2 ⟨rfl, rfl⟩; clear hI; go_wp2; go_ret
   exact ⟨.slice none 0 0, rfl, zcX _ _ _ _, rfl, World.grownBy.refl _ _⟩
 . have hH : Holds zcb w gb 0 k.toArray := zmE hb (by simpa using h4)
   have hcall := Go.Proofs.AnyE.slices_DeleteFunc Go.Proofs.Tryz.laysDel zcb (fun _ => rfl) (fun x => !q x.1) g lb eg ⟨zp1, by decide⟩ Tryz.zeroValue9 gb 0 cap k.toArray w
    (fun W x hb => hp W x.1 (hb.mono hBw) x.2)
    (fun n os dk x _ => hp _ x.1 (zhj (zie dk) hBw (by omega)) x.2) hH (by simpa using hlen) (by simpa using h1)
   change Calls zp0 86 _ _ _ at hcall
   refine hcall.mono fun e w' ⟨he, n, hw⟩ => ?_
   have hff : (k.filter fun x : Sm => !(!q x.1)) = k.filter fun x : Sm => q x.1 := by congr 1; funext x; rw [Bool.not_not]
   have hf : (k.filter fun x : Sm => q x.1).length <= k.length := zqi _ _
   have hg0 : w' = Sort.grow (putRow zcb (Sort.ahead w n) gb 0 ((k.filter fun x : Sm => q x.1) ++ List.replicate (k.length - (k.filter fun x : Sm => q x.1).length) (⟨zp1, by decide⟩ : Sm)).toArray) #[] := by
    rw [hw]; simp [hff]
   refine ⟨.slice (some ⟨gb, 0, none⟩) (k.filter fun x : Sm => q x.1).length cap, by rw [he]; simp [hff], ?_, rfl, ?_⟩
   . refine ⟨by simp, .inr ⟨gb, cap, _, rfl, hbase, by rw [hg0]; exact zm6 _ hb, by simpa using zpy hf h1, h2, by simp [putCells, h3], ?_⟩⟩
     simp only [Nat.mul_one]; exact zkD cur _ _ (by rw [List.length_replicate]; omega)
   . rw [hg0]; exact zie _
theorem zpb : ∀ args w, (callFunc 84 args).run zp0 w = .ok (.enter 84 args) w := Go.Proofs.enters_of Tryz.func84 (by kernel_rfl) rfl
theorem zoM (g : Nat) (c3 n : Nat) (b o : Nat) (t : ByteArray) (W : World) (hG : GOK W) (hk : W.cell? ⟨g, 3, none⟩ = some (.slice (some ⟨b, o, none⟩) n c3)) (hn : (0 : Int) < (n : Int)) (hx : W.cell? ⟨b, o, none⟩ = some (.string t)) (x : ByteArray) (hs : x.size < 4294967281) :
 Calls zp0 84 #[.string x, .pointer (some ⟨g, 0, none⟩)] W fun e w' => e = .returned (.bool (!Lib.contains x.data.toList t.data.toList)) /\ W = w' := by
 have hC := zmQ x t W hG hs; generalize Lib.contains x.data.toList t.data.toList = q at hC |-; have HC := zpo hC; clear hC hG hs; go_enter Tryz.func84, Tryz.ntmps84
 go_wp2_with (first | (go_at_call 85; refine HC.out.mono ?_; rintro e w2 ⟨rfl, rfl⟩))
 go_ret
 exact ⟨rfl, rfl⟩
def IsOf (r : zaa × Bool) (w : World) (e : Ending) (w' : World) : Prop := e = .returned (.tuple #[.string (mk r.1), .bool r.2]) /\ Below w.heap.size w w'
--OF
theorem zkW (x : zar) (B2 : Option Addr) (c2 : Nat) (B3 : Option Addr) (c3 : Nat) (A : Option Addr) (c : Nat) (bs : List ByteArray) (w : World) (hG : GOK w) (h3 : Kd.C zp6 w B3 x.f3.length x.f3) (hr : Kd.C zp6 w A bs.length bs) (hc : bs.length <= c)
 (hm : mayC (zag x) = true) (hn : bs.length = x.f2.length) (hsz : ∀ b ∈ bs, b.size <= 4194304) (hop : x.f1 = 1) :
 Calls zp0 59 #[.agg #[.string x.f0, .int .i64 x.f1, .slice B2 x.f2.length c2, .slice B3 x.f3.length c3, .int .i64 x.f4], .slice A bs.length c] w (IsOf (zau (zag x) (zab bs)) w) := by
 obtain ⟨fop, f1, f5, f6, f7, f8, fn, fl⟩ := zbc hm; have e1 : (zag x).op = 1 := hop; have e2 : (zag x).args = bs.length := hn.symm; rw [e1] at f1 f5 f6 f7 f8; rw [e2] at f1 f5 f6; have h1 : bs.length = 1 := f1 (by omega) (by omega)
 obtain ⟨y, rfl⟩ : ∃ y, bs = [y] := by
  cases bs with
  | nil => simp at h1
  | cons y r => cases r with
   | nil => exact ⟨y, rfl⟩
   | cons z s => simp at h1
 have hy := hsz y (by simp)
 rcases zaJ hr with h0 | ⟨b, o, rfl, hb, hcell⟩
 . cases h0
 have p0 := hcell 0 (by simp)
 rw [zqR] at p0; have p0 : w.cell? ⟨b, o, none⟩ = some (.string y) := p0; have HP := zpo p0; clear hcell p0 h1; have hM : zau (zag x) (zab [y]) = (y.data.toList, true) := by unfold zau; rw [e1]; rfl
 rw [hM]; clear hM; obtain ⟨f0, op, l2, l3, f4⟩ := x; dsimp only at *; subst hop; have hab := (zpr w.heap.size w).alloc (zps _) (.cells #[.string f0, .int .i64 1, .slice B2 l2.length c2, .slice B3 l3.length c3, .int .i64 f4] 24); have HK := zpo (zak w (.cells #[.string f0, .int .i64 1, .slice B2 l2.length c2, .slice B3 l3.length c3, .int .i64 f4] 24)); have HB1 := zpo hab; have HR := zpo (zqO hr hab); have H3 := zpo (zqO h3 hab); have HG := zpo (hG.below hab); clear hab; clear hG h3 hr hm hn hsz fop f1 f5 f6 f7 f8 fn fl e1 e2; go_enter Tryz.func59, Tryz.ntmps59
 go_upto_block 0 with fail; generalize w.alloc (.cells #[.string f0, .int .i64 1, .slice B2 l2.length c2, .slice B3 l3.length c3, .int .i64 f4] 24) = w1 at HB1 HK HR H3 HG |-; have k1 := bc1 HK.out; have k3 := bc3 HK.out; have k4 := bc4 HK.out; have d1 : ((1 : Int) == 1) = true := by decide
 have p1 := zad HB1.out HP.out; have hl : (0 : Int) < (([y] : List ByteArray).length : Int) := by simp
 go_wp2_with fail; go_ret2
 exact ⟨by rw [zbh]; rfl, HB1.out⟩
theorem zot (x : zar) (B2 : Option Addr) (c2 : Nat) (B3 : Option Addr) (c3 : Nat) (A : Option Addr) (c : Nat) (bs : List ByteArray) (w : World) (hG : GOK w) (h3 : Kd.C zp6 w B3 x.f3.length x.f3) (hr : Kd.C zp6 w A bs.length bs) (hc : bs.length <= c)
 (hm : mayC (zag x) = true) (hn : bs.length = x.f2.length) (hsz : ∀ b ∈ bs, b.size <= 4194304) (hop : x.f1 = 2) :
 Calls zp0 59 #[.agg #[.string x.f0, .int .i64 x.f1, .slice B2 x.f2.length c2, .slice B3 x.f3.length c3, .int .i64 x.f4], .slice A bs.length c] w (IsOf (zau (zag x) (zab bs)) w) := by
 obtain ⟨fop, f1, f5, f6, f7, f8, fn, fl⟩ := zbc hm; have e1 : (zag x).op = 2 := hop; have e2 : (zag x).args = bs.length := hn.symm; rw [e1] at f1 f5 f6 f7 f8; rw [e2] at f1 f5 f6; have h1 : bs.length = 1 := f1 (by omega) (by omega)
 obtain ⟨y, rfl⟩ : ∃ y, bs = [y] := by
  cases bs with
  | nil => simp at h1
  | cons y r => cases r with
   | nil => exact ⟨y, rfl⟩
   | cons z s => simp at h1
 have hy := hsz y (by simp)
 rcases zaJ hr with h0 | ⟨b, o, rfl, hb, hcell⟩
 . cases h0
 have p0 := hcell 0 (by simp)
 rw [zqR] at p0; have p0 : w.cell? ⟨b, o, none⟩ = some (.string y) := p0; have HP := zpo p0; clear hcell p0 h1; have hM : zau (zag x) (zab [y]) = (y.data.toList, !(y.data.toList == [])) := by unfold zau; rw [e1]; rfl
 rw [hM]; clear hM; obtain ⟨f0, op, l2, l3, f4⟩ := x; dsimp only at *; subst hop; have hab := (zpr w.heap.size w).alloc (zps _) (.cells #[.string f0, .int .i64 2, .slice B2 l2.length c2, .slice B3 l3.length c3, .int .i64 f4] 24); have HK := zpo (zak w (.cells #[.string f0, .int .i64 2, .slice B2 l2.length c2, .slice B3 l3.length c3, .int .i64 f4] 24)); have HB1 := zpo hab; have HR := zpo (zqO hr hab); have H3 := zpo (zqO h3 hab); have HG := zpo (hG.below hab); clear hab; clear hG h3 hr hm hn hsz fop f1 f5 f6 f7 f8 fn fl e1 e2; go_enter Tryz.func59, Tryz.ntmps59
 go_upto_block 0 with fail; generalize w.alloc (.cells #[.string f0, .int .i64 2, .slice B2 l2.length c2, .slice B3 l3.length c3, .int .i64 f4] 24) = w1 at HB1 HK HR H3 HG |-; have k1 := bc1 HK.out; have k3 := bc3 HK.out; have k4 := bc4 HK.out; have d1 : ((2 : Int) == 1) = false := by decide
 have d2 : ((2 : Int) == 2) = true := by decide
 have p1 := zad HB1.out HP.out; have hl : (0 : Int) < (([y] : List ByteArray).length : Int) := by simp
 have hq : (y.toList != []) = !(y.data.toList == []) := by rw [za2]; rfl
 by_cases hy0 : y.toList = []
 . have dy : (y.toList == []) = true := by simp [hy0]
   have dz : (y.toList != []) = false := by simp [hy0]
   have hv : (y.data.toList == []) = true := by rw [<- za2]; exact dy
   have HV := zpo hv; clear hq hv; go_wp2_with fail; go_quiet (fail)
   go_wp2_with fail; go_ret2
   exact ⟨by rw [zbh, HV.out]; rfl, by first | exact HB1.out | exact zal HB1.out _⟩
 . have dy : (y.toList == []) = false := by simp [hy0]
   have dz : (y.toList != []) = true := by simp [hy0]
   have hv : (y.data.toList == []) = false := by rw [<- za2]; exact dy
   have HV := zpo hv; clear hq hv; go_wp2_with fail; go_quiet (fail)
   go_wp2_with fail; go_ret2
   exact ⟨by rw [zbh, HV.out]; rfl, by first | exact HB1.out | exact zal HB1.out _⟩
theorem znn (x : zar) (B2 : Option Addr) (c2 : Nat) (B3 : Option Addr) (c3 : Nat) (A : Option Addr) (c : Nat) (bs : List ByteArray) (w : World) (hG : GOK w) (h3 : Kd.C zp6 w B3 x.f3.length x.f3) (hr : Kd.C zp6 w A bs.length bs) (hc : bs.length <= c)
 (hm : mayC (zag x) = true) (hn : bs.length = x.f2.length) (hsz : ∀ b ∈ bs, b.size <= 4194304) (hop : x.f1 = 3) :
 Calls zp0 59 #[.agg #[.string x.f0, .int .i64 x.f1, .slice B2 x.f2.length c2, .slice B3 x.f3.length c3, .int .i64 x.f4], .slice A bs.length c] w (IsOf (zau (zag x) (zab bs)) w) := by
 obtain ⟨fop, f1, f5, f6, f7, f8, fn, fl⟩ := zbc hm; have e1 : (zag x).op = 3 := hop; have e2 : (zag x).args = bs.length := hn.symm; rw [e1] at f1 f5 f6 f7 f8; rw [e2] at f1 f5 f6; have h1 : bs.length = 1 := f1 (by omega) (by omega)
 obtain ⟨y, rfl⟩ : ∃ y, bs = [y] := by
  cases bs with
  | nil => simp at h1
  | cons y r => cases r with
   | nil => exact ⟨y, rfl⟩
   | cons z s => simp at h1
 have hy := hsz y (by simp)
 rcases zaJ hr with h0 | ⟨b, o, rfl, hb, hcell⟩
 . cases h0
 have p0 := hcell 0 (by simp)
 rw [zqR] at p0; have p0 : w.cell? ⟨b, o, none⟩ = some (.string y) := p0; have HP := zpo p0; clear hcell p0 h1; have hM : zau (zag x) (zab [y]) = (zaC ((zbs y.data.toList).mergeSort fun x y => decide (x <= y)), true) := by unfold zau; rw [e1]; rfl
 rw [hM]; clear hM; obtain ⟨f0, op, l2, l3, f4⟩ := x; dsimp only at *; subst hop; have hab := (zpr w.heap.size w).alloc (zps _) (.cells #[.string f0, .int .i64 3, .slice B2 l2.length c2, .slice B3 l3.length c3, .int .i64 f4] 24); have HK := zpo (zak w (.cells #[.string f0, .int .i64 3, .slice B2 l2.length c2, .slice B3 l3.length c3, .int .i64 f4] 24)); have HB1 := zpo hab; have HR := zpo (zqO hr hab); have H3 := zpo (zqO h3 hab); have HG := zpo (hG.below hab); clear hab; clear hG h3 hr hm hn hsz fop f1 f5 f6 f7 f8 fn fl e1 e2; go_enter Tryz.func59, Tryz.ntmps59
 go_upto_block 0 with fail; generalize w.alloc (.cells #[.string f0, .int .i64 3, .slice B2 l2.length c2, .slice B3 l3.length c3, .int .i64 f4] 24) = w1 at HB1 HK HR H3 HG |-; have k1 := bc1 HK.out; have k3 := bc3 HK.out; have k4 := bc4 HK.out; have d1 : ((3 : Int) == 1) = false := by decide
 have d2 : ((3 : Int) == 2) = false := by decide
 have d3 : ((3 : Int) == 3) = true := by decide
 have p1 := zad HB1.out HP.out; have hl : (0 : Int) < (([y] : List ByteArray).length : Int) := by simp
 have hLi := zea y w1 HG.out (by omega)
 have HY := zpo hy; have HLi := zpo hLi; clear hLi hy; go_wp2_with (first
  | (go_at_call 23; refine HLi.out.mono ?_; rintro e w2 ⟨v, rfl, hR, hb2⟩; obtain ⟨A2, n2, rfl, hcap, hC2⟩ := zql hR; have HC2 := zpo hC2; have HB2 := zpo hb2; clear hcap hR hC2 hb2)
  | (go_at_call 81; refine (zoC _ _ _ _).mono ?_; rintro e w3 ⟨rfl, rfl⟩)
  | (go_at_call 80; refine (zpa A2 n2 (zax y) w2 HC2.out (by have := zdU y.data.toList; rw [<- zp7] at this; have h2 := HY.out; unfold zax; rw [zp9]; omega)).mono ?_; rintro e w4 ⟨v4, rfl, hR4, hb4⟩; obtain ⟨A4, n4, rfl, hcap4, hC4⟩ := zql hR4; have HC4 := zpo hC4; have HB4 := zpo hb4; clear hcap4 hR4 hC4 hb4)
  | (go_at_call 79; refine (ziR A4 n4 (zae (zax y)) w4 HC4.out (by rw [zep]; unfold zax; rw [zcH]; exact zeS y.data.toList _ (by rw [List.length_mergeSort]; exact zps _) (fun x hx => List.mem_mergeSort.1 hx) (by have h2 := HY.out; rw [zp7] at h2; exact h2))).mono ?_; rintro e w5 ⟨rfl, hb5⟩; have HB5 := zpo hb5; clear hb5))
 go_ret2
 refine ⟨by rw [zep]; unfold zax; rw [zcH]; rfl, ?_⟩
 exact zac (zac (zac HB1.out HB1.out.size HB2.out) (zpy HB1.out.size HB2.out.size) HB4.out) (zpy (zpy HB1.out.size HB2.out.size) HB4.out.size) HB5.out
theorem zlv (x : zar) (B2 : Option Addr) (c2 : Nat) (B3 : Option Addr) (c3 : Nat) (A : Option Addr) (c : Nat) (bs : List ByteArray) (w : World) (hG : GOK w) (h3 : Kd.C zp6 w B3 x.f3.length x.f3) (hr : Kd.C zp6 w A bs.length bs) (hc : bs.length <= c)
 (hm : mayC (zag x) = true) (hn : bs.length = x.f2.length) (hsz : ∀ b ∈ bs, b.size <= 4194304) (hop : x.f1 = 4) :
 Calls zp0 59 #[.agg #[.string x.f0, .int .i64 x.f1, .slice B2 x.f2.length c2, .slice B3 x.f3.length c3, .int .i64 x.f4], .slice A bs.length c] w (IsOf (zau (zag x) (zab bs)) w) := by
 obtain ⟨fop, f1, f5, f6, f7, f8, fn, fl⟩ := zbc hm; have e1 : (zag x).op = 4 := hop; have e2 : (zag x).args = bs.length := hn.symm; rw [e1] at f1 f5 f6 f7 f8; rw [e2] at f1 f5 f6; have h1 : bs.length = 1 := f1 (by omega) (by omega)
 obtain ⟨y, rfl⟩ : ∃ y, bs = [y] := by
  cases bs with
  | nil => simp at h1
  | cons y r => cases r with
   | nil => exact ⟨y, rfl⟩
   | cons z s => simp at h1
 have hy := hsz y (by simp)
 rcases zaJ hr with h0 | ⟨b, o, rfl, hb, hcell⟩
 . cases h0
 have p0 := hcell 0 (by simp)
 rw [zqR] at p0; have p0 : w.cell? ⟨b, o, none⟩ = some (.string y) := p0; have HP := zpo p0; clear hcell p0 h1; have hM : zau (zag x) (zab [y]) = (zaH ((zbs y.data.toList).length : Int) ++ [10], true) := by unfold zau; rw [e1]; rfl
 rw [hM]; clear hM; obtain ⟨f0, op, l2, l3, f4⟩ := x; dsimp only at *; subst hop; have hab := (zpr w.heap.size w).alloc (zps _) (.cells #[.string f0, .int .i64 4, .slice B2 l2.length c2, .slice B3 l3.length c3, .int .i64 f4] 24); have HK := zpo (zak w (.cells #[.string f0, .int .i64 4, .slice B2 l2.length c2, .slice B3 l3.length c3, .int .i64 f4] 24)); have HB1 := zpo hab; have HR := zpo (zqO hr hab); have H3 := zpo (zqO h3 hab); have HG := zpo (hG.below hab); clear hab; clear hG h3 hr hm hn hsz fop f1 f5 f6 f7 f8 fn fl e1 e2; go_enter Tryz.func59, Tryz.ntmps59
 go_upto_block 0 with fail; generalize w.alloc (.cells #[.string f0, .int .i64 4, .slice B2 l2.length c2, .slice B3 l3.length c3, .int .i64 f4] 24) = w1 at HB1 HK HR H3 HG |-; have k1 := bc1 HK.out; have k3 := bc3 HK.out; have k4 := bc4 HK.out; have d1 : ((4 : Int) == 1) = false := by decide
 have d2 : ((4 : Int) == 2) = false := by decide
 have d3 : ((4 : Int) == 3) = false := by decide
 have d4 : ((4 : Int) == 4) = true := by decide
 have p1 := zad HB1.out HP.out; have hl : (0 : Int) < (([y] : List ByteArray).length : Int) := by simp
 have hLi := zea y w1 HG.out (by omega)
 have hll : (zax y).length = (zbs y.data.toList).length := by unfold zax; rw [zp9]
 have hle : (zax y).length <= 4194304 := by rw [hll]; have := zdU y.data.toList; rw [<- zp7] at this; omega
 rw [<- hll]; generalize zax y = ly at hLi hle |-; have hN : ∀ W, GOK W -> Calls zp0 82 #[.int .i64 (ly.length : Int)] W fun e w' => e = .returned (.string (mk (zaH (ly.length : Int)))) /\ Below W.heap.size W w' := fun W h => zfi (ly.length : Int) (by omega) (by omega) W h
 have hap : mk (zaH (ly.length : Int) ++ [10]) = mk (zaH (ly.length : Int)) ++ ⟨#[10]⟩ := (zdq _ [10]).symm; have HLi := zpo hLi; have HN := zpo hN; have HA := zpo hap; have hnz : (mk (zaH (ly.length : Int))).size <= 100000000 := by
  rw [zaX]; have := zgl (ly.length : Int); omega
 generalize mk (zaH (ly.length : Int)) = nv at HN HA hnz; clear hLi hN hap hll hy; go_wp2_with (first
  | (go_at_call 23; refine HLi.out.mono ?_; rintro e w2 ⟨v, rfl, hR, hb2⟩; obtain ⟨A2, n2, rfl, hcap, hC2⟩ := zql hR; have HB2 := zpo hb2; clear hcap hR hC2 hb2)
  | (go_at_call 82; refine (HN.out _ (HG.out.below HB2.out)).mono ?_; rintro e w4 ⟨rfl, hb4⟩; have HB4 := zpo hb4; clear hb4))
 go_ret2
 exact ⟨by show _ = Ending.returned (.tuple #[.string (mk (zaH (ly.length : Int) ++ [10])), .bool true]); rw [HA.out]; rfl, zac (zac HB1.out HB1.out.size HB2.out) (zpy HB1.out.size HB2.out.size) HB4.out⟩
theorem zjn (x : zar) (B2 : Option Addr) (c2 : Nat) (B3 : Option Addr) (c3 : Nat) (A : Option Addr) (c : Nat) (bs : List ByteArray) (w : World) (hG : GOK w) (h3 : Kd.C zp6 w B3 x.f3.length x.f3) (hr : Kd.C zp6 w A bs.length bs) (hc : bs.length <= c)
 (hm : mayC (zag x) = true) (hn : bs.length = x.f2.length) (hsz : ∀ b ∈ bs, b.size <= 4194304) (hop : x.f1 = 5) :
 Calls zp0 59 #[.agg #[.string x.f0, .int .i64 x.f1, .slice B2 x.f2.length c2, .slice B3 x.f3.length c3, .int .i64 x.f4], .slice A bs.length c] w (IsOf (zau (zag x) (zab bs)) w) := by
 obtain ⟨fop, f1, f5, f6, f7, f8, fn, fl⟩ := zbc hm; have e1 : (zag x).op = 5 := hop; have e2 : (zag x).args = bs.length := hn.symm; rw [e1] at f1 f5 f6 f7 f8; rw [e2] at f1 f5 f6; have hM : zau (zag x) (zab bs) = ((zab bs).flatten, true) := by unfold zau; rw [e1]; rfl
 rw [hM]; clear hM; have hfl : (zab bs).flatten.length <= 140737488355328 := by
  have := zge (zab bs) 4194304 (fun b hb => by
   obtain ⟨z, hz, rfl⟩ := zqT.1 hb; rw [<- zp7]; exact hsz z hz)
  rw [zaL] at this; have h6 := f5 rfl; have : bs.length * 4194304 <= 6 * 4194304 := Nat.mul_le_mul h6 (zps _); omega
 have hJf : strings_Join.f bs ⟨#[]⟩ = some (mk (zab bs).flatten) := by
  unfold strings_Join.f; have e : Lib.join (bs.map (·.data.toList)) (⟨#[]⟩ : ByteArray).data.toList = (zab bs).flatten := zgO _; rw [e, if_pos ⟨by have := f5 rfl; omega, hfl⟩]
 obtain ⟨f0, op, l2, l3, f4⟩ := x; dsimp only at *; subst hop; have hab := (zpr w.heap.size w).alloc (zps _) (.cells #[.string f0, .int .i64 5, .slice B2 l2.length c2, .slice B3 l3.length c3, .int .i64 f4] 24); have HK := zpo (zak w (.cells #[.string f0, .int .i64 5, .slice B2 l2.length c2, .slice B3 l3.length c3, .int .i64 f4] 24)); have HB1 := zpo hab; have HR := zpo (zqO hr hab); have H3 := zpo (zqO h3 hab); have HG := zpo (hG.below hab); clear hab; have hJ := strings_Join.calls A c bs ⟨#[]⟩ _ _ HG.out HR.out hc hJf; generalize (zab bs).flatten = fl0 at hJ |-; have HJ := zpo hJ; clear hJ hfl hJf; clear hG h3 hr hm hn hsz fop f1 f5 f6 f7 f8 fn fl e1 e2; go_enter Tryz.func59, Tryz.ntmps59
 go_upto_block 0 with fail; generalize w.alloc (.cells #[.string f0, .int .i64 5, .slice B2 l2.length c2, .slice B3 l3.length c3, .int .i64 f4] 24) = w1 at HB1 HK HR H3 HG HJ |-; have k1 := bc1 HK.out; have k3 := bc3 HK.out; have k4 := bc4 HK.out; have d1 : ((5 : Int) == 1) = false := by decide
 have d2 : ((5 : Int) == 2) = false := by decide
 have d3 : ((5 : Int) == 3) = false := by decide
 have d4 : ((5 : Int) == 4) = false := by decide
 have d5 : ((5 : Int) == 5) = true := by decide
 go_wp2_with (first | (go_at_call 83; refine HJ.out.mono ?_; rintro e w2 ⟨rfl, hb2⟩; have HB2 := zpo hb2; clear hb2))
 go_ret2
 exact ⟨rfl, zac HB1.out HB1.out.size HB2.out⟩
theorem zoH (x : zar) (B2 : Option Addr) (c2 : Nat) (B3 : Option Addr) (c3 : Nat) (A : Option Addr) (c : Nat) (bs : List ByteArray) (w : World) (hG : GOK w) (h3 : Kd.C zp6 w B3 x.f3.length x.f3) (hr : Kd.C zp6 w A bs.length bs) (hc : bs.length <= c)
 (hm : mayC (zag x) = true) (hn : bs.length = x.f2.length) (hsz : ∀ b ∈ bs, b.size <= 4194304) (hop : x.f1 = 6) :
 Calls zp0 59 #[.agg #[.string x.f0, .int .i64 x.f1, .slice B2 x.f2.length c2, .slice B3 x.f3.length c3, .int .i64 x.f4], .slice A bs.length c] w (IsOf (zau (zag x) (zab bs)) w) := by
 obtain ⟨fop, f1, f5, f6, f7, f8, fn, fl⟩ := zbc hm; have e1 : (zag x).op = 6 := hop; have e2 : (zag x).args = bs.length := hn.symm; rw [e1] at f1 f5 f6 f7 f8; rw [e2] at f1 f5 f6; have hlen3 : 0 < x.f3.length := by have := (f6 rfl).2; unfold zag at this; dsimp only at this; rw [zp9] at this; omega
 rcases zaJ h3 with h0 | ⟨b3, o3, hB3, hb3, hcell3⟩
 . exfalso; rw [h0] at hlen3; simp at hlen3
 have q0 := hcell3 0 hlen3; rw [zqR] at q0; have hlit : (zag x).lits.getD 0 [] = (x.f3.getD 0 zp1).data.toList := by unfold zag; dsimp only; cases x.f3 <;> rfl
 have hlz : (x.f3.getD 0 zp1).size <= 100 := by
  have := fl ((zag x).lits.getD 0 []) (by
   have h : 0 < (zag x).lits.length := by unfold zag; dsimp only; rw [zp9]; exact hlen3
   rw [zpw, zpv h]; exact zqJ h)
  rw [hlit, <- zp7] at this; exact this
 subst hB3; have hM : zau (zag x) (zab bs) = ((x.f3.getD 0 zp1).data.toList, true) := by unfold zau; rw [e1, hlit]; rfl
 rw [hM]; clear hM hcell3 hlit; obtain ⟨f0, op, l2, l3, f4⟩ := x; dsimp only at *; subst hop; have hab := (zpr w.heap.size w).alloc (zps _) (.cells #[.string f0, .int .i64 6, .slice B2 l2.length c2, .slice (some ⟨b3, o3, none⟩) l3.length c3, .int .i64 f4] 24); have HK := zpo (zak w (.cells #[.string f0, .int .i64 6, .slice B2 l2.length c2, .slice (some ⟨b3, o3, none⟩) l3.length c3, .int .i64 f4] 24)); have HB1 := zpo hab; have HR := zpo (zqO hr hab); have H3 := zpo (zqO h3 hab); have HG := zpo (hG.below hab); clear hab; generalize l3.getD 0 zp1 = t at q0 hlz |-; have HQ := zpo q0; have hl3 : (0 : Int) < (l3.length : Int) := by omega
 clear q0 hlen3; clear hG h3 hr hm hn hsz fop f1 f5 f6 f7 f8 fn fl e1 e2; go_enter Tryz.func59, Tryz.ntmps59
 go_upto_block 0 with fail; generalize w.alloc (.cells #[.string f0, .int .i64 6, .slice B2 l2.length c2, .slice (some ⟨b3, o3, none⟩) l3.length c3, .int .i64 f4] 24) = w1 at HB1 HK HR H3 HG |-; have k1 := bc1 HK.out; have k3 := bc3 HK.out; have k4 := bc4 HK.out; have d1 : ((6 : Int) == 1) = false := by decide
 have d2 : ((6 : Int) == 2) = false := by decide
 have d3 : ((6 : Int) == 3) = false := by decide
 have d4 : ((6 : Int) == 4) = false := by decide
 have d5 : ((6 : Int) == 5) = false := by decide
 have d6 : ((6 : Int) == 6) = true := by decide
 have p1 := zad HB1.out HQ.out; go_wp2_with fail; go_ret2
 exact ⟨by rw [zbh]; rfl, HB1.out⟩
theorem zoB (x : zar) (B2 : Option Addr) (c2 : Nat) (B3 : Option Addr) (c3 : Nat) (A : Option Addr) (c : Nat) (bs : List ByteArray) (w : World) (hG : GOK w) (h3 : Kd.C zp6 w B3 x.f3.length x.f3) (hr : Kd.C zp6 w A bs.length bs) (hc : bs.length <= c)
 (hm : mayC (zag x) = true) (hn : bs.length = x.f2.length) (hsz : ∀ b ∈ bs, b.size <= 4194304) (hop : x.f1 = 7) :
 Calls zp0 59 #[.agg #[.string x.f0, .int .i64 x.f1, .slice B2 x.f2.length c2, .slice B3 x.f3.length c3, .int .i64 x.f4], .slice A bs.length c] w (IsOf (zau (zag x) (zab bs)) w) := by
 obtain ⟨fop, f1, f5, f6, f7, f8, fn, fl⟩ := zbc hm; have e1 : (zag x).op = 7 := hop; have e2 : (zag x).args = bs.length := hn.symm; rw [e1] at f1 f5 f6 f7 f8; rw [e2] at f1 f5 f6; have h1 : bs.length = 1 := f1 (by omega) (by omega)
 obtain ⟨y, rfl⟩ : ∃ y, bs = [y] := by
  cases bs with
  | nil => simp at h1
  | cons y r => cases r with
   | nil => exact ⟨y, rfl⟩
   | cons z s => simp at h1
 have hy := hsz y (by simp)
 rcases zaJ hr with h0 | ⟨b, o, rfl, hb, hcell⟩
 . cases h0
 have p0 := hcell 0 (by simp)
 rw [zqR] at p0; have p0 : w.cell? ⟨b, o, none⟩ = some (.string y) := p0; have HP := zpo p0; clear hcell p0 h1; have hlen3 : 0 < x.f3.length := by have := f7 rfl; unfold zag at this; dsimp only at this; rw [zp9] at this; omega
 rcases zaJ h3 with h0 | ⟨b3, o3, hB3, hb3, hcell3⟩
 . exfalso; rw [h0] at hlen3; simp at hlen3
 have q0 := hcell3 0 hlen3; rw [zqR] at q0; have hlit : (zag x).lits.getD 0 [] = (x.f3.getD 0 zp1).data.toList := by unfold zag; dsimp only; cases x.f3 <;> rfl
 have hlz : (x.f3.getD 0 zp1).size <= 100 := by
  have := fl ((zag x).lits.getD 0 []) (by
   have h : 0 < (zag x).lits.length := by unfold zag; dsimp only; rw [zp9]; exact hlen3
   rw [zpw, zpv h]; exact zqJ h)
  rw [hlit, <- zp7] at this; exact this
 subst hB3; have hM : zau (zag x) (zab [y]) = (zaC ((zbs y.data.toList).filter fun z => Lib.contains z (x.f3.getD 0 zp1).data.toList), true) := by unfold zau; rw [e1, hlit]; rfl
 rw [hM]; clear hM hcell3 hlit; obtain ⟨f0, op, l2, l3, f4⟩ := x; dsimp only at *; subst hop; have hab := (zpr w.heap.size w).alloc (zps _) (.cells #[.string f0, .int .i64 7, .slice B2 l2.length c2, .slice (some ⟨b3, o3, none⟩) l3.length c3, .int .i64 f4] 24); have HK := zpo (zak w (.cells #[.string f0, .int .i64 7, .slice B2 l2.length c2, .slice (some ⟨b3, o3, none⟩) l3.length c3, .int .i64 f4] 24)); have HB1 := zpo hab; have HR := zpo (zqO hr hab); have H3 := zpo (zqO h3 hab); have HG := zpo (hG.below hab); clear hab; generalize l3.getD 0 zp1 = t at q0 hlz |-; have HQ := zpo q0; have hl3 : (0 : Int) < (l3.length : Int) := by omega
 clear q0 hlen3; clear hG h3 hr hm hn hsz fop f1 f5 f6 f7 f8 fn fl e1 e2; go_enter Tryz.func59, Tryz.ntmps59
 go_upto_block 0 with fail; generalize w.alloc (.cells #[.string f0, .int .i64 7, .slice B2 l2.length c2, .slice (some ⟨b3, o3, none⟩) l3.length c3, .int .i64 f4] 24) = w1 at HB1 HK HR H3 HG |-; have k1 := bc1 HK.out; have k3 := bc3 HK.out; have k4 := bc4 HK.out; have d1 : ((7 : Int) == 1) = false := by decide
 have d2 : ((7 : Int) == 2) = false := by decide
 have d3 : ((7 : Int) == 3) = false := by decide
 have d4 : ((7 : Int) == 4) = false := by decide
 have d5 : ((7 : Int) == 5) = false := by decide
 have d6 : ((7 : Int) == 6) = false := by decide
 have d7 : ((7 : Int) == 7) = true := by decide
 have p1 := zad HB1.out HP.out; have hl : (0 : Int) < (([y] : List ByteArray).length : Int) := by simp
 have hLi := zea y w1 HG.out (by omega)
 have HY := zpo hy; have HLi := zpo hLi; have hgw : w.heap.size < w1.heap.size := zaU HK.out; have hP : ∀ (W : World) (x : ByteArray), Below w1.heap.size w1 W -> x.size < 4294967281 -> Go.Proofs.FnGives zp0 84 #[.pointer (some ⟨w.heap.size, 0, none⟩)] #[.string x] (.bool (!Lib.contains x.data.toList t.data.toList)) W := fun W x hW hx =>
  (zoM w.heap.size c3 l3.length b3 o3 t W (HG.out.below hW) ((hW.cell (p := ⟨w.heap.size, 3, none⟩) hgw).trans k3) hl3 ((hW.cell (p := ⟨b3, o3, none⟩) (Nat.lt_of_lt_of_le hb3 HB1.out.size)).trans (zad HB1.out HQ.out)) x hx).mono fun e w' ⟨he, hw⟩ => ⟨he, 0, hw.symm⟩
 have HPr := zpo hP; clear hLi hy hP hgw; go_wp2_with (first
  | (go_at_call 23; refine HLi.out.mono ?_; rintro e w2 ⟨v, rfl, hR, hb2⟩; have HR2 := zpo hR; have HB2 := zpo hb2; clear hR hb2)
  | (go_at_call 86; refine (zoZ w1.heap.size w1.heap.size 84 #[.pointer (some ⟨w.heap.size, 0, none⟩)] zpb (fun x => Lib.contains x.data.toList t.data.toList) v (zax y) w2 (Kd.own_of_R HR2.out) (zps _) HB2.out.size (fun W x hW hx => HPr.out W x (HB2.out.trans hW) hx) (zju y (by have := HY.out; omega))).mono ?_; rintro e w3 ⟨v3, rfl, hown3, hob, hgr⟩; obtain ⟨A3, n3, rfl, hcap3, hC3⟩ := zql (Kd.R_of_own (h1 := fun _ => rfl) (ok := fun _ => True) hown3 (fun _ _ => trivial)); have HC3 := zpo hC3; have HB3 : Hid (Below w1.heap.size w2 w3) := zpo (zme hgr HB2.out.size (Kd.R_base HR2.out)); clear hcap3 hC3 hown3 hob hgr)
  | (go_at_call 79; refine (ziR A3 n3 _ w3 HC3.out (by rw [zeL fun z => Lib.contains z t.data.toList]; unfold zax; rw [zcH]; exact zeS y.data.toList _ (zqi _ _) (fun x hx => (List.mem_filter.1 hx).1) (by have h2 := HY.out; rw [zp7] at h2; exact h2))).mono ?_; rintro e w5 ⟨rfl, hb5⟩; have HB5 := zpo hb5; clear hb5))
 go_ret2
 refine ⟨by rw [zeL fun z => Lib.contains z t.data.toList]; unfold zax; rw [zcH]; rfl, ?_⟩
 exact zac HB1.out HB1.out.size (zac (HB2.out.trans HB3.out) (HB2.out.trans HB3.out).size HB5.out)
theorem zpk (x : zar) (B2 : Option Addr) (c2 : Nat) (B3 : Option Addr) (c3 : Nat) (A : Option Addr) (c : Nat) (bs : List ByteArray) (w : World) (hG : GOK w) (h3 : Kd.C zp6 w B3 x.f3.length x.f3) (hr : Kd.C zp6 w A bs.length bs) (hc : bs.length <= c)
 (hm : mayC (zag x) = true) (hn : bs.length = x.f2.length) (hsz : ∀ b ∈ bs, b.size <= 4194304) (hop : x.f1 = 8) :
 Calls zp0 59 #[.agg #[.string x.f0, .int .i64 x.f1, .slice B2 x.f2.length c2, .slice B3 x.f3.length c3, .int .i64 x.f4], .slice A bs.length c] w (IsOf (zau (zag x) (zab bs)) w) := by
 obtain ⟨fop, f1, f5, f6, f7, f8, fn, fl⟩ := zbc hm; have e1 : (zag x).op = 8 := hop; have e2 : (zag x).args = bs.length := hn.symm; rw [e1] at f1 f5 f6 f7 f8; rw [e2] at f1 f5 f6; have h1 : bs.length = 1 := f1 (by omega) (by omega)
 obtain ⟨y, rfl⟩ : ∃ y, bs = [y] := by
  cases bs with
  | nil => simp at h1
  | cons y r => cases r with
   | nil => exact ⟨y, rfl⟩
   | cons z s => simp at h1
 have hy := hsz y (by simp)
 rcases zaJ hr with h0 | ⟨b, o, rfl, hb, hcell⟩
 . cases h0
 have p0 := hcell 0 (by simp)
 rw [zqR] at p0; have p0 : w.cell? ⟨b, o, none⟩ = some (.string y) := p0; have HP := zpo p0; clear hcell p0 h1; have hlen3 : 0 < x.f3.length := by have := (f8 rfl).1; unfold zag at this; dsimp only at this; rw [zp9] at this; omega
 rcases zaJ h3 with h0 | ⟨b3, o3, hB3, hb3, hcell3⟩
 . exfalso; rw [h0] at hlen3; simp at hlen3
 have q0 := hcell3 0 hlen3; rw [zqR] at q0; have hlit : (zag x).lits.getD 0 [] = (x.f3.getD 0 zp1).data.toList := by unfold zag; dsimp only; cases x.f3 <;> rfl
 have hlz : (x.f3.getD 0 zp1).size <= 100 := by
  have := fl ((zag x).lits.getD 0 []) (by
   have h : 0 < (zag x).lits.length := by unfold zag; dsimp only; rw [zp9]; exact hlen3
   rw [zpw, zpv h]; exact zqJ h)
  rw [hlit, <- zp7] at this; exact this
 subst hB3; have hlen4 : 1 < x.f3.length := by have := (f8 rfl).1; unfold zag at this; dsimp only at this; rw [zp9] at this; omega
 have q1 := hcell3 1 hlen4; have hlit2 : (zag x).lits.getD 1 [] = (x.f3.getD 1 zp1).data.toList := by
  unfold zag; dsimp only; rw [zpw, List.getElem?_map, zpw, zpv hlen4]; rfl
 have hlz2 : (x.f3.getD 1 zp1).size <= 100 := by
  have := fl ((zag x).lits.getD 1 []) (by
   have h : 1 < (zag x).lits.length := by unfold zag; dsimp only; rw [zp9]; exact hlen4
   rw [zpw, zpv h]; exact zqJ h)
  rw [hlit2, <- zp7] at this; exact this
 have hne := (f8 rfl).2; rw [hlit] at hne; have hM : zau (zag x) (zab [y]) = (Lib.replaceAll y.data.toList (x.f3.getD 0 zp1).data.toList (x.f3.getD 1 zp1).data.toList, true) := by unfold zau; rw [e1, hlit, hlit2]; rfl
 rw [hM]; clear hM hcell3 hlit hlit2; obtain ⟨f0, op, l2, l3, f4⟩ := x; dsimp only at *; subst hop; have hab := (zpr w.heap.size w).alloc (zps _) (.cells #[.string f0, .int .i64 8, .slice B2 l2.length c2, .slice (some ⟨b3, o3, none⟩) l3.length c3, .int .i64 f4] 24); have HK := zpo (zak w (.cells #[.string f0, .int .i64 8, .slice B2 l2.length c2, .slice (some ⟨b3, o3, none⟩) l3.length c3, .int .i64 f4] 24)); have HB1 := zpo hab; have HR := zpo (zqO hr hab); have H3 := zpo (zqO h3 hab); have HG := zpo (hG.below hab); clear hab; generalize l3.getD 0 zp1 = t at q0 hlz hne |-; generalize l3.getD 1 zp1 = t2 at q1 hlz2 |-; have ht1 : 1 <= t.size := by rw [zp7]; cases h : t.data.toList with | nil => exact absurd h hne | cons _ _ => simp
 have HQ := zpo q0; have HQ1 := zpo q1; have hl3 : (0 : Int) < (l3.length : Int) := by omega
 have hl4 : (1 : Int) < (l3.length : Int) := by omega
 have HRa := zpo (fun W (hW : GOK W) => znv y t t2 W hW ht1 (by omega) hlz2)
 clear q0 q1 hlen3 hlen4 hne ht1 hlz hlz2; clear hG h3 hr hm hn hsz fop f1 f5 f6 f7 f8 fn fl e1 e2 hy; go_enter Tryz.func59, Tryz.ntmps59
 go_upto_block 0 with fail; generalize w.alloc (.cells #[.string f0, .int .i64 8, .slice B2 l2.length c2, .slice (some ⟨b3, o3, none⟩) l3.length c3, .int .i64 f4] 24) = w1 at HB1 HK HR H3 HG |-; have k1 := bc1 HK.out; have k3 := bc3 HK.out; have k4 := bc4 HK.out; have d1 : ((8 : Int) == 1) = false := by decide
 have d2 : ((8 : Int) == 2) = false := by decide
 have d3 : ((8 : Int) == 3) = false := by decide
 have d4 : ((8 : Int) == 4) = false := by decide
 have d5 : ((8 : Int) == 5) = false := by decide
 have d6 : ((8 : Int) == 6) = false := by decide
 have d7 : ((8 : Int) == 7) = false := by decide
 have d8 : ((8 : Int) == 8) = true := by decide
 generalize Lib.replaceAll y.data.toList t.data.toList t2.data.toList = z at HRa |-; have hl : (0 : Int) < (([y] : List ByteArray).length : Int) := by simp
 have hl3n : 0 < l3.length := by omega
 have hl4n : 1 < l3.length := by omega
 have Sof : ∀ W, Below w1.heap.size w1 W -> W.cell? ⟨b, o, none⟩ = some (.string y) /\ W.cell? ⟨b3, o3, none⟩ = some (.string t) /\ W.cell? ⟨b3, o3 + 1, none⟩ = some (.string t2) /\ W.cell? ⟨w.heap.size, 3, none⟩ = some (.slice (some ⟨b3, o3, none⟩) l3.length c3) := fun W hW =>
  ⟨zad hW (zad HB1.out HP.out), zad hW (zad HB1.out HQ.out), zad hW (zad HB1.out HQ1.out), zad hW k3⟩
 have HSo := zpo Sof; have HBx : Hid (Below w1.heap.size w1 w1.drew) := zpo (zaW (zpr _ _)); have HGx := zpo HG.out.drew; clear Sof; go_wp2_with fail; go_region_held3 (fun W => W.cell? ⟨b, o, none⟩ = some (.string y) /\ W.cell? ⟨b3, o3, none⟩ = some (.string t) /\ W.cell? ⟨b3, o3 + 1, none⟩ = some (.string t2) /\ W.cell? ⟨w.heap.size, 3, none⟩ = some (.slice (some ⟨b3, o3, none⟩) l3.length c3))
  (exact HSo.out _ HBx.out)
  (first | (go_at_call 87; refine (HRa.out _ HGx.out).mono ?_; rintro e w2 ⟨rfl, hb2⟩; have HBx := zpo (zac HBx.out HBx.out.size hb2); clear hb2))
 all_goals
  go_wp2_with fail; go_ret2
  exact ⟨rfl, zac HB1.out HB1.out.size HBx.out⟩
theorem zoh (x : zar) (B2 : Option Addr) (c2 : Nat) (B3 : Option Addr) (c3 : Nat) (A : Option Addr) (c : Nat) (bs : List ByteArray) (w : World) (hG : GOK w) (h3 : Kd.C zp6 w B3 x.f3.length x.f3) (hr : Kd.C zp6 w A bs.length bs) (hc : bs.length <= c)
 (hm : mayC (zag x) = true) (hn : bs.length = x.f2.length) (hsz : ∀ b ∈ bs, b.size <= 4194304) (hop : x.f1 = 9) :
 Calls zp0 59 #[.agg #[.string x.f0, .int .i64 x.f1, .slice B2 x.f2.length c2, .slice B3 x.f3.length c3, .int .i64 x.f4], .slice A bs.length c] w (IsOf (zau (zag x) (zab bs)) w) := by
 obtain ⟨fop, f1, f5, f6, f7, f8, fn, fl⟩ := zbc hm; have e1 : (zag x).op = 9 := hop; have e2 : (zag x).args = bs.length := hn.symm; rw [e1] at f1 f5 f6 f7 f8; rw [e2] at f1 f5 f6; have h1 : bs.length = 1 := f1 (by omega) (by omega)
 obtain ⟨y, rfl⟩ : ∃ y, bs = [y] := by
  cases bs with
  | nil => simp at h1
  | cons y r => cases r with
   | nil => exact ⟨y, rfl⟩
   | cons z s => simp at h1
 have hy := hsz y (by simp)
 rcases zaJ hr with h0 | ⟨b, o, rfl, hb, hcell⟩
 . cases h0
 have p0 := hcell 0 (by simp)
 rw [zqR] at p0; have p0 : w.cell? ⟨b, o, none⟩ = some (.string y) := p0; have HP := zpo p0; clear hcell p0 h1; have hM : zau (zag x) (zab [y]) = (y.data.toList.take x.f4.toNat, true) := by unfold zau; rw [e1]; rfl
 rw [hM]; clear hM; have hf4 : 0 <= x.f4 /\ x.f4 <= 2000 := fn; obtain ⟨f0, op, l2, l3, f4⟩ := x; dsimp only at *; subst hop; have hab := (zpr w.heap.size w).alloc (zps _) (.cells #[.string f0, .int .i64 9, .slice B2 l2.length c2, .slice B3 l3.length c3, .int .i64 f4] 24); have HK := zpo (zak w (.cells #[.string f0, .int .i64 9, .slice B2 l2.length c2, .slice B3 l3.length c3, .int .i64 f4] 24)); have HB1 := zpo hab; have HR := zpo (zqO hr hab); have H3 := zpo (zqO h3 hab); have HG := zpo (hG.below hab); clear hab; clear hG h3 hr hm hn hsz fop f1 f5 f6 f7 f8 fn fl e1 e2; go_enter Tryz.func59, Tryz.ntmps59
 go_upto_block 0 with fail; generalize w.alloc (.cells #[.string f0, .int .i64 9, .slice B2 l2.length c2, .slice B3 l3.length c3, .int .i64 f4] 24) = w1 at HB1 HK HR H3 HG |-; have k1 := bc1 HK.out; have k3 := bc3 HK.out; have k4 := bc4 HK.out; have d1 : ((9 : Int) == 1) = false := by decide
 have d2 : ((9 : Int) == 2) = false := by decide
 have d3 : ((9 : Int) == 3) = false := by decide
 have d4 : ((9 : Int) == 4) = false := by decide
 have d5 : ((9 : Int) == 5) = false := by decide
 have d6 : ((9 : Int) == 6) = false := by decide
 have d7 : ((9 : Int) == 7) = false := by decide
 have d8 : ((9 : Int) == 8) = false := by decide
 have p1 := zad HB1.out HP.out; have hl : (0 : Int) < (([y] : List ByteArray).length : Int) := by simp
 obtain ⟨n, rfl⟩ : ∃ n : Nat, f4 = (n : Int) := ⟨f4.toNat, by omega⟩
 have hn0 : n <= 2000 := by omega
 clear hf4; by_cases hmin : (y.size : Int) <= (n : Int)
 . have hz : min (y.size : Int) (n : Int) = (y.size : Int) := by omega
   have hv : mk (y.data.toList.take ((n : Int)).toNat) = y := by
    apply zbR
    rw [za9, zqF, zqS (by rw [<- zp7]; omega)]
   have HV := zpo hv; have hb0 : (0 : Int) <= (y.size : Int) := by omega
   clear hv; go_wp2_with fail; go_quiet (fail)
   go_wp2_with fail; go_ret2
   exact ⟨by rw [HV.out]; rfl, by first | exact HB1.out | exact zal HB1.out _⟩
 . have hz : min (y.size : Int) (n : Int) = (n : Int) := by omega
   have hv : mk (y.data.toList.take ((n : Int)).toNat) = y.extract 0 n := by
    rw [zd2, zqF, List.drop_zero, Nat.sub_zero]
   have HV := zpo hv; have hb0 : (0 : Int) <= (n : Int) := by omega
   have hb1 : (n : Int) <= (y.size : Int) := by omega
   clear hv; go_wp2_with fail; go_quiet (fail)
   go_wp2_with fail; go_ret2
   exact ⟨by rw [HV.out]; rfl, by first | exact HB1.out | exact zal HB1.out _⟩
end X
namespace X
open YtdpgdnpddndeoaaGreatDoorW.PrintWords YtdpgdnpddndeoaaGreatDoorW.PrintMore YtdpgdnpddndeoaaGreatDoorW.PrintLast
abbrev SVal := S34
def valO (v : SVal) : VB := if v.f0 then some v.f1.data.toList else none
def valS (o : VB) : SVal := match o with
 | some b => ⟨true, mk b⟩
 | none => ⟨false, ⟨#[]⟩⟩
def aggV (v : SVal) : Value := .agg #[.bool v.f0, .string v.f1]
def zdb (v : SVal) (w : World) (e : Ending) (w' : World) : Prop := e = .returned (aggV v) /\ Below w.heap.size w w'
theorem zcc {fn : Func} {R : Ending -> World -> Prop} {a : Act} {W : World} {b k : Nat} {x0 x1 v0 v1 : Value} (hf : fn.results = #[ResultVar.cell k 34]) (ha : a.tmps.getD k undef = .pointer (some ⟨b, 0, none⟩)) (hd : a.defers = [])
 (hz : W.heap[b]? = some (.cells #[x0, x1] 34 (0, 0))) (hR : R (.returned (.agg #[v0, v1])) ((W.setCell ⟨b, 0, none⟩ v0).setCell ⟨b, 1, none⟩ v1)) : bodyPost zp0 fn R .ret a ((W.setCell ⟨b, 0, none⟩ v0).setCell ⟨b, 1, none⟩ v1) := by
 have hs := zdy v0 v1 hz; have g0 := bc0 hs; have g1 := bc1 hs; rw [Array.getD_eq_getD_getElem?] at ha; exact bodyPost_ret (v := .agg #[v0, v1]) (by simp [results, hf, ha, go_sem, g0, g1]) hd hR
theorem zcg {w W : World} (h : Below w.heap.size w W) (v0 v1 : Value) : Below w.heap.size w ((W.setCell ⟨w.heap.size + 1, 0, none⟩ v0).setCell ⟨w.heap.size + 1, 1, none⟩ v1) :=
 (h.setCell (p := ⟨w.heap.size + 1, 0, none⟩) (Nat.le_succ _) v0).setCell (p := ⟨w.heap.size + 1, 1, none⟩) (Nat.le_succ _) v1
theorem zkA (l : List SVal) (i : Nat) (h : i < l.length) : za6 l (i : Int) = l[i] := by
 unfold za6; rw [zqF, zpw, zpv h]; rfl
theorem zdY {w : World} {ad : Addr} {v : Value} {n : Nat} (h : w.cell? (ad.add ((0 : Int).toNat * n)) = some v) : ∃ b o, ad = ⟨b, o, none⟩ := by
 rw [show (0 : Int).toNat * n = 0 by simp] at h
 obtain ⟨b, o, sp⟩ := ad; cases sp with
 | none => exact ⟨b, o, rfl⟩
 | some s =>
  exfalso
  unfold Addr.add at h; simp [World.cell?] at h
  split at h <;> simp at h
theorem zcR {w : World} {A : Option Addr} {l : List SVal} (h : Kd.C k34 w A l.length l) (i : Nat) (hi : i < l.length) :
 ∃ b o, A = some ⟨b, o, none⟩ /\ w.cell? ⟨b, o + i * 2, none⟩ = some (.bool l[i].f0) /\ w.cell? ⟨b, o + i * 2 + 1, none⟩ = some (.string l[i].f1) := by
 obtain ⟨ad, rfl, p0, p1⟩ := zeN h (i : Int) (by omega) (by omega)
 rw [zkA l i hi, zqF] at p0 p1; obtain ⟨ad0, had0, z0, _⟩ := zeN h 0 (by omega) (by omega)
 cases had0
 obtain ⟨b, o, rfl⟩ := zdY z0; have e : ((⟨b, o, none⟩ : Addr).add (i * 2)) = ⟨b, o + i * 2, none⟩ := by
  unfold Addr.add; split
  . rename_i h0; simp [h0]
  . rfl
 rw [e] at p0 p1; exact ⟨b, o, rfl, p0, p1⟩
theorem zjz (x : zar) (B2 : Option Addr) (c2 : Nat) (B3 : Option Addr) (c3 : Nat) (A : Option Addr) (c : Nat) (bs : List ByteArray) (w : World) (hG : GOK w) (h3 : Kd.C zp6 w B3 x.f3.length x.f3) (hr : Kd.C zp6 w A bs.length bs) (hc : bs.length <= c)
 (hm : mayC (zag x) = true) (hn : bs.length = x.f2.length) (hsz : ∀ b ∈ bs, b.size <= 4194304) :
 Calls zp0 59 #[.agg #[.string x.f0, .int .i64 x.f1, .slice B2 x.f2.length c2, .slice B3 x.f3.length c3, .int .i64 x.f4], .slice A bs.length c] w (IsOf (zau (zag x) (zab bs)) w) := by
 have h := (zbc hm).1; have hop : x.f1 = 1 \/ x.f1 = 2 \/ x.f1 = 3 \/ x.f1 = 4 \/ x.f1 = 5 \/ x.f1 = 6 \/ x.f1 = 7 \/ x.f1 = 8 \/ x.f1 = 9 := by
  have e : (zag x).op = x.f1 := rfl; rw [e] at h; omega
 rcases hop with h1 | h1 | h1 | h1 | h1 | h1 | h1 | h1 | h1
 . exact zkW x B2 c2 B3 c3 A c bs w hG h3 hr hc hm hn hsz h1
 . exact zot x B2 c2 B3 c3 A c bs w hG h3 hr hc hm hn hsz h1
 . exact znn x B2 c2 B3 c3 A c bs w hG h3 hr hc hm hn hsz h1
 . exact zlv x B2 c2 B3 c3 A c bs w hG h3 hr hc hm hn hsz h1
 . exact zjn x B2 c2 B3 c3 A c bs w hG h3 hr hc hm hn hsz h1
 . exact zoH x B2 c2 B3 c3 A c bs w hG h3 hr hc hm hn hsz h1
 . exact zoB x B2 c2 B3 c3 A c bs w hG h3 hr hc hm hn hsz h1
 . exact zpk x B2 c2 B3 c3 A c bs w hG h3 hr hc hm hn hsz h1
 . exact zoh x B2 c2 B3 c3 A c bs w hG h3 hr hc hm hn hsz h1
theorem zfC : ∀ vs : List SVal, (vs.any fun v => !v.f0) = false -> ((vs.map valO).map fun o => o.getD []) = zab (vs.map (·.f1)) /\ ((vs.map valO).any fun o => o.isNone) = false
 | [], _ => ⟨rfl, rfl⟩
 | v :: r, h => by
  rw [List.any_cons, Bool.or_eq_false_iff] at h; obtain ⟨h1, h2⟩ := zfC r h.2; have hv : valO v = some v.f1.data.toList := by unfold valO; rw [if_pos (by simpa using h.1)]
  unfold zab at *; simp only [zpS, List.any_cons, hv, h1, h2]; exact ⟨rfl, rfl⟩
theorem zmy (x : zar) (B2 : Option Addr) (c2 : Nat) (B3 : Option Addr) (c3 : Nat) (A : Option Addr) (c : Nat) (vs : List SVal) (w : World) (hG : GOK w) (h2 : Kd.C zp6 w B2 x.f2.length x.f2) (h3 : Kd.C zp6 w B3 x.f3.length x.f3)
 (hr : Kd.C k34 w A vs.length vs) (hsz : (vs.any fun v => !v.f0) = false -> ∀ v ∈ vs, v.f1.size <= 4194304) :
 Calls zp0 25 #[.agg #[.string x.f0, .int .i64 x.f1, .slice B2 x.f2.length c2, .slice B3 x.f3.length c3, .int .i64 x.f4], .slice A vs.length c] w (zdb (valS (doP (zag x) (vs.map valO))) w) := by
 have hlen : vs.length <= 9223372036854775807 := hr.2.1; have hl2 : x.f2.length <= 9223372036854775807 := h2.2.1; obtain ⟨T, hT⟩ : ∃ T, T = doP (zag x) (vs.map valO) := ⟨_, rfl⟩; rw [<- hT]; unfold doP zeB at hT; rw [zp9] at hT; have HT := zpo hT; have hW : Below w.heap.size w ((w.alloc (.cells #[.string x.f0, .int .i64 x.f1, .slice B2 x.f2.length c2, .slice B3 x.f3.length c3, .int .i64 x.f4] 24)).alloc (.cells #[.bool false, .string ⟨#[]⟩] 34)) :=
  ((zpr w.heap.size w).alloc (zps _) _).alloc (by simp) _
 have HK := zpo (zah (zak w (.cells #[.string x.f0, .int .i64 x.f1, .slice B2 x.f2.length c2, .slice B3 x.f3.length c3, .int .i64 x.f4] 24)) ((zpr _ _).alloc (zps _) (.cells #[.bool false, .string ⟨#[]⟩] 34))); have HZ := zpo (zak (w.alloc (.cells #[.string x.f0, .int .i64 x.f1, .slice B2 x.f2.length c2, .slice B3 x.f3.length c3, .int .i64 x.f4] 24)) (.cells #[.bool false, .string ⟨#[]⟩] 34)); have hn1 : (w.alloc (.cells #[.string x.f0, .int .i64 x.f1, .slice B2 x.f2.length c2, .slice B3 x.f3.length c3, .int .i64 x.f4] 24)).heap.size = w.heap.size + 1 := by simp
 rw [hn1] at HZ; have HB := zpo hW; have H2 := zpo (zqO h2 hW); have H3 := zpo (zqO h3 hW); have HR := zpo (zqO hr hW); have HG := zpo (hG.below hW); have HS := zpo hsz; have HLs := zpo hlen; clear hT hW h2 h3 hr hG hsz hn1; go_enter Tryz.func25, Tryz.ntmps25
 go_upto_if 20 with fail; generalize (w.alloc (.cells #[.string x.f0, .int .i64 x.f1, .slice B2 x.f2.length c2, .slice B3 x.f3.length c3, .int .i64 x.f4] 24)).alloc (.cells #[.bool false, .string ⟨#[]⟩] 34) = w1 at HB HK HZ H2 H3 HR HG |-; have hM := zeO x B2 c2 B3 c3 w1 H2.out H3.out; have j0 := bc0 HK.out; have j1 := bc1 HK.out; have j2 := bc2 HK.out; have j3 := bc3 HK.out; have j4 := bc4 HK.out; have hT := HT.out; cases hm : mayC (zag x) with
 | false =>
  rw [if_pos (.inl hm)] at hT; rw [hm] at hM; have HV : Hid (valS T = ⟨false, ⟨#[]⟩⟩) := by show _ = _; rw [hT]; rfl
  have HM := zpo hM; clear hT HT hM hm; go_wp2_with (first | (go_at_call 20; refine HM.out.mono ?_; rintro e w2 ⟨rfl, hb2⟩; have HB2 := zpo (zac HB.out HB.out.size hb2); have HZ2 := zpo (zah HZ.out hb2); have z0 := bc0 HZ2.out; have z1 := bc1 HZ2.out; have y0 := zai HZ2.out 0; have y1 := zai HZ2.out 1; clear hb2))
  exact zcc rfl rfl rfl HZ2.out ⟨by rw [HV.out]; rfl, zcg HB2.out _ _⟩
 | true =>
  rw [hm] at hM; have HM := zpo hM; have HMy := zpo hm; clear hT hM hm; by_cases hn : vs.length = x.f2.length
  . have d0 : ((vs.length : Int) != (x.f2.length : Int)) = false := by simp [hn]
    have HN := zpo hn; have HAL : Hid (vs.length <= 6) := by
     show _ <= _
     obtain ⟨g1, g2, g3, _⟩ := zbc HMy.out; have ha : (zag x).args = vs.length := hn.symm; rw [ha] at g2 g3; by_cases h5 : (zag x).op = 5
     . exact g3 h5
     . by_cases h6 : (zag x).op = 6
       . obtain ⟨_, _, _, g4, _⟩ := zbc HMy.out
         have := (g4 h6).1; rw [ha] at this; omega
       . have := g2 h5 h6
         omega
    clear hn; go_wp2_with (first | (go_at_call 20; refine HM.out.mono ?_; rintro e w2 ⟨rfl, hb2⟩; have HB2 := zpo (zac HB.out HB.out.size hb2); have HK2 := zpo (zah HK.out hb2); have HZ2 := zpo (zah HZ.out hb2); have i2 := bc2 HK2.out; have HR2 := zpo (zqO HR.out hb2); have H22 := zpo (zqO H2.out hb2); have H32 := zpo (zqO H3.out hb2); have HG2 := zpo (HG.out.below hb2); clear hb2))
    go_loopg [5, 7, 24] vs.length (fun gg s5 _ s24 wr => ∃ kk : Nat, kk <= vs.length /\ vs.length - kk <= gg /\ s24 = .int .i64 kk /\ Aside0 (RS wr w2.heap.size s5 ((vs.take kk).map (·.f1))) /\ Aside0 (((vs.take kk).any fun v => !v.f0) = false) /\ Aside0 (Below w2.heap.size w2 wr))
    case atStart => exact ⟨0, zqf _, by omega, rfl, ⟨Kd.R_nil _ _ _ _ _⟩, ⟨rfl⟩, ⟨zpr _ _⟩⟩
    case round =>
     obtain ⟨kk, hkk, hgk, rfl, HO, HA, HW⟩ := hrel; by_cases hlt : kk < vs.length
     . have hltz : (kk : Int) < (vs.length : Int) := by omega
       obtain ⟨b, o, rfl, p0, p1⟩ := zcR (zqO HR2.out HW.out) kk hlt; have hal : vs.length <= 6 := HAL.out; have hml : ((vs.take kk).map (·.f1)).length = kk := by rw [zp9, List.length_take]; omega
       have HML := zpo hml; have HSucc : Hid ((vs.take (kk + 1)).map (·.f1) = (vs.take kk).map (·.f1) ++ [vs[kk].f1]) := by show _ = _; rw [zpU hlt, zqj]; rfl
       have HAny : Hid (((vs.take (kk + 1)).any fun v => !v.f0) = (((vs.take kk).any fun v => !v.f0) || !vs[kk].f0)) := by show _ = _; rw [zpU hlt, List.any_append]; simp
       have HMem : Hid (vs[kk] ∈ vs) := zqJ hlt; generalize vs[kk] = y at p0 p1 HSucc HAny HMem; clear hml; have hwn : Below w2.heap.size w2 (wr.alloc (.cells #[.bool y.f0, .string y.f1] 34)) := HW.out.alloc HW.out.size _; have HWn := zpo hwn; have HOn := zpo (Kd.R_below HO.out ((zpr _ wr).alloc (zps _) (.cells #[.bool y.f0, .string y.f1] 34))); have HYn := zpo (zak wr (.cells #[.bool y.f0, .string y.f1] 34)); clear hwn; go_upto_region 7 with fail; generalize hgn : wr.alloc (.cells #[.bool y.f0, .string y.f1] 34) = w3 at HWn HOn HYn |-; have q0 := bc0 HYn.out; have q1 := bc1 HYn.out; clear hgn; cases hok : y.f0 with
       | false =>
        rw [hok] at q0; have HV : Hid (valS T = ⟨false, ⟨#[]⟩⟩) := by
         have hany : ((vs.map valO).any fun x => x.isNone) = true := by
          rw [List.any_map]; refine List.any_eq_true.2 ⟨y, HMem.out, ?_⟩; show (valO y).isNone = true
          unfold valO; rw [hok]; rfl
         show _ = _
         rw [HT.out, if_pos (.inr (.inr hany))]; rfl
        have HZ3 := zpo (zah HZ2.out HWn.out); have z0 := bc0 HZ3.out; have z1 := bc1 HZ3.out; have y0 := zai HZ3.out 0; have y1 := zai HZ3.out 1; have HB3 := zpo (zac HB2.out HB2.out.size HWn.out); clear hok; go_wp2_with fail; exact zcc rfl rfl rfl HZ3.out ⟨by rw [HV.out]; rfl, zcg HB3.out _ _⟩
       | true =>
        rw [hok] at q0; have HA2 : Hid (((vs.take (kk + 1)).any fun v => !v.f0) = false) := by show _ = _; rw [HAny.out, HA.out, hok]; rfl
        clear hok; go_wp2_with (first | ((with_reducible refine zaD (b := .append) (xs := #[.tmp 32, .tmp 35]) rfl ?_); at_builtin; refine Kd.R_append zp6 (w0 := w2) w2.heap.size rfl (.tmp 32) (.tmp 35) 22 9 (.string ⟨#[]⟩) 16 rfl Tryz.underlying22 zbf rfl (by decide) (by decide) u5 ((vs.take kk).map (·.f1)) y.f1 [.string y.f1] (fun _ => True) (fun k_ => True /\ some k_ ≠ u5.ownBlock) rfl rfl rfl (fun _ hk => hk) (fun _ _ => trivial) HOn.out HWn.out HWn.out.size ?aL ?_; (case aL => (have h1 := HML.out; omega)); intro v1 w4 ho hb hg hat; have HO4 : Hid (RS w4 w2.heap.size v1 ((vs.take (kk + 1)).map (·.f1))) := (by show RS _ _ _ _; rw [HSucc.out]; exact ho); have HB4 := zpo hb; clear ho hb hg hat))
        go_roundg (vs.length - (kk + 1))
        case measure => omega
        case rel => exact ⟨kk + 1, by omega, by omega, by first | rfl | go_num, ⟨HO4.out⟩, ⟨HA2.out⟩, ⟨HB4.out⟩⟩
     . have hltz : ¬ (kk : Int) < (vs.length : Int) := by omega
       obtain rfl : kk = vs.length := by omega
       have hO := HO.out; have hA := HA.out; rw [List.take_length] at hO hA; obtain ⟨A5, n5, rfl, hc5, hC5⟩ := zql hO; have hlm : (vs.map (·.f1)).length = vs.length := zp9 ..; rw [hlm] at hc5; obtain ⟨hvn, hva⟩ := zfC vs hA; have hOf := zjz x B2 c2 B3 c3 A5 n5 (vs.map (·.f1)) wr (HG2.out.below HW.out) (zqO H32.out HW.out) hC5 (by rw [hlm]; exact hc5) HMy.out (by rw [hlm]; exact HN.out) (fun b hb => by
        obtain ⟨v, hv, rfl⟩ := zqT.1 hb; exact HS.out hA v hv)
       have hT := HT.out; rw [if_neg (by
        rintro (h | h | h)
        . rw [HMy.out] at h; cases h
        . exact h HN.out
        . rw [hva] at h; cases h)] at hT
       have hvn2 : (vs.map valO).map (·.getD []) = zab (vs.map (·.f1)) := hvn; rw [hvn2] at hT; rw [hlm] at hOf; generalize zau (zag x) (zab (vs.map (·.f1))) = m at hOf hT; obtain ⟨t, ok⟩ := m; unfold IsOf at hOf; dsimp only at hT hOf; have ht : (mk t).size = t.length := zaX t; have HOf := zpo hOf; have HTt := zpo hT; have HKr := zpo (zah HK2.out HW.out); have HZr := zpo (zah HZ2.out HW.out); have HBr := zpo (zac HB2.out HB2.out.size HW.out); have r0 := bc0 HKr.out; have r1 := bc1 HKr.out; have r2 := bc2 HKr.out; have r3 := bc3 HKr.out; have r4 := bc4 HKr.out; clear hO hA hC5 hvn hva hvn2 hOf hT hlm hc5; cases ok with
       | false =>
        have HV : Hid (valS T = ⟨false, ⟨#[]⟩⟩) := by show _ = _; rw [HTt.out, if_pos (.inl rfl)]; rfl
        clear ht; go_wp2_with (first | (go_at_call 59; refine HOf.out.mono ?_; rintro e w7 ⟨rfl, hb7⟩; have HB7 := zpo (zac HBr.out HBr.out.size hb7); have HZ7 := zpo (zah HZr.out hb7); have z0 := bc0 HZ7.out; have z1 := bc1 HZ7.out; have y0 := zai HZ7.out 0; have y1 := zai HZ7.out 1; clear hb7))
        exact zcc rfl rfl rfl HZ7.out ⟨by rw [HV.out]; rfl, zcg HB7.out _ _⟩
       | true =>
        by_cases hlong : 2000 < t.length
        . have HV : Hid (valS T = ⟨false, ⟨#[]⟩⟩) := by show _ = _; rw [HTt.out, if_pos (.inr hlong)]; rfl
          have hd : decide ((2000 : Int) < ((mk t).size : Int)) = true := by rw [ht]; simp; omega
          have hd2 : (2000 : Int) < ((mk t).size : Int) := by rw [ht]; omega
          clear ht hlong; go_wp2_with (first | (go_at_call 59; refine HOf.out.mono ?_; rintro e w7 ⟨rfl, hb7⟩; have HB7 := zpo (zac HBr.out HBr.out.size hb7); have HZ7 := zpo (zah HZr.out hb7); have z0 := bc0 HZ7.out; have z1 := bc1 HZ7.out; have y0 := zai HZ7.out 0; have y1 := zai HZ7.out 1; clear hb7))
          exact zcc rfl rfl rfl HZ7.out ⟨by rw [HV.out]; rfl, zcg HB7.out _ _⟩
        . have HV : Hid (valS T = ⟨true, mk t⟩) := by
           show _ = _
           rw [HTt.out, if_neg (by rintro (h | h); cases h; exact hlong h)]
           rfl
          have hd : decide ((2000 : Int) < ((mk t).size : Int)) = false := by rw [ht]; simp; omega
          have hd2 : ¬ (2000 : Int) < ((mk t).size : Int) := by rw [ht]; omega
          have hd3 : ¬ 2000 < (mk t).size := by rw [ht]; exact hlong
          have hd4 : decide (2000 < (mk t).size) = false := by simp [hd3]
          clear ht hlong; generalize mk t = tt at HOf HV hd hd2 hd3 hd4; go_wp2_with (first | (go_at_call 59; refine HOf.out.mono ?_; rintro e w7 ⟨rfl, hb7⟩; have HB7 := zpo (zac HBr.out HBr.out.size hb7); have HZ7 := zpo (zah HZr.out hb7); have z0 := bc0 HZ7.out; have z1 := bc1 HZ7.out; have y0 := zai HZ7.out 0; have y1 := zai HZ7.out 1; clear hb7))
          exact zcc rfl rfl rfl HZ7.out ⟨by rw [HV.out]; rfl, zcg HB7.out _ _⟩
  . have d0 : ((vs.length : Int) != (x.f2.length : Int)) = true := by simp; omega
    have HV : Hid (valS T = ⟨false, ⟨#[]⟩⟩) := by show _ = _; rw [HT.out, if_pos (.inr (.inl hn))]; rfl
    clear hn; go_wp2_with (first | (go_at_call 20; refine HM.out.mono ?_; rintro e w2 ⟨rfl, hb2⟩; have HB2 := zpo (zac HB.out HB.out.size hb2); have HK2 := zpo (zah HK.out hb2); have i2 := bc2 HK2.out; have HZ2 := zpo (zah HZ.out hb2); have z0 := bc0 HZ2.out; have z1 := bc1 HZ2.out; have y0 := zai HZ2.out 0; have y1 := zai HZ2.out 1; clear hb2))
    exact zcc rfl rfl rfl HZ2.out ⟨by rw [HV.out]; rfl, zcg HB2.out _ _⟩
theorem zig (x : zar) (B2 : Option Addr) (c2 : Nat) (B3 : Option Addr) (c3 : Nat) (A : Option Addr) (c : Nat) (vs : List SVal) (w : World) (hG : GOK w) (h2 : Kd.C zp6 w B2 x.f2.length x.f2) (h3 : Kd.C zp6 w B3 x.f3.length x.f3)
 (hr : Kd.C k34 w A vs.length vs) (hsz : ∀ v ∈ vs, v.f1.size <= 4194304) :
 Calls zp0 25 #[.agg #[.string x.f0, .int .i64 x.f1, .slice B2 x.f2.length c2, .slice B3 x.f3.length c3, .int .i64 x.f4], .slice A vs.length c] w (zdb (valS (doP (zag x) (vs.map valO))) w) :=
 zmy x B2 c2 B3 c3 A c vs w hG h2 h3 hr (fun _ => hsz)
end X
namespace X
def valM (v : Value) : Option (DataW Value × List MemPlace) := some (.held v, [])
def zeD (D : DataW Value) (f : zaa -> Option Value) : Prop := (∀ k, Maps.has D (.string k) = (f k).isSome) /\ ∀ k z, D.atKey (.string k) z = match f k with | some v => .held v | none => z
def MapIs (P : Program) (kt : TypeId) (w : World) (b n : Nat) (f : zaa -> Option Value) : Prop := ∃ D, w.ownsMap P kt valM b n D /\ zeD D f
def setF (f : zaa -> Option Value) (k : zaa) (v : Value) : zaa -> Option Value := fun x => if x = k then some v else f x
section
variable {P : Program} {kt et t : TypeId} {w : World} {b n : Nat} {f : zaa -> Option Value}
theorem MapIs.lt (h : MapIs P kt w b n f) : b < w.heap.size := by obtain ⟨D, ho, _⟩ := h; exact ho.lt
theorem MapIs.made (w : World) : MapIs P kt (w.alloc (.map #[] 0)) w.heap.size 0 (fun _ => none) := ⟨.map [], World.ownsMap_made w P kt valM, fun _ => rfl, fun _ _ => rfl⟩
theorem MapIs.mono (h : MapIs P kt w b n f) {n' : Nat} (hn : n <= n') : MapIs P kt w b n' f := by obtain ⟨D, ho, hf⟩ := h; exact ⟨D, ho.mono hn, hf⟩
theorem MapIs.kept {w' : World} (h : MapIs P kt w b n f) (hb : w'.heap[b]? = w.heap[b]?) : MapIs P kt w' b n f := by
 obtain ⟨D, ⟨es, clock, h1, r⟩, hf⟩ := h; exact ⟨D, ⟨es, clock, hb.trans h1, r⟩, hf⟩
theorem MapIs.below {w' : World} (h : MapIs P kt w b n f) (hb : Below w.heap.size w w') : MapIs P kt w' b n f := h.kept (hb.block b h.lt)
theorem MapIs.grown {w' : World} {row : Option Nat} (h : MapIs P kt w b n f) (hg : w.grownBy w' row) (hne : some b ≠ row) : MapIs P kt w' b n f := h.kept (hg.block b h.lt hne)
theorem MapIs.look2 (h : MapIs P kt w b n f) (hk : P.underlying kt = some .string) (ht : P.underlying t = some (.map kt et)) {z : Value} (hz : (zeroValue et).run P w = .ok z w) (k : ByteArray) (hs : k.size <= maxLen) :
 (Instr.lookup t (.map (some b)) (.string k) true).run P w = .ok (.tuple #[(f k.data.toList).getD z, .bool (f k.data.toList).isSome]) w := by
 obtain ⟨D, ho, h1, h2⟩ := h; obtain ⟨v, ps, hrun, hv⟩ := ho.look_ok (string_keyed hk) ht hz (R := valM) (zd := .held z) rfl (Go.WideMaps.keyOf_string_mk hk hs); rw [h1] at hrun; rw [h2] at hv; have : v = (f k.data.toList).getD z := by
  unfold valM at hv; have h0 := (Prod.mk.inj (zp2 hv)).1; cases hf : f k.data.toList with
  | none => rw [hf] at h0; simp only [DataW.held.injEq] at h0; exact h0
  | some u => rw [hf] at h0; simp only [DataW.held.injEq] at h0; exact h0
 rw [hrun, this]
theorem MapIs.look (h : MapIs P kt w b n f) (hk : P.underlying kt = some .string) (ht : P.underlying t = some (.map kt et)) {z : Value} (hz : (zeroValue et).run P w = .ok z w) (k : ByteArray) (hs : k.size <= maxLen) :
 (Instr.lookup t (.map (some b)) (.string k) false).run P w = .ok ((f k.data.toList).getD z) w := by
 obtain ⟨D, ho, h1, h2⟩ := h; obtain ⟨v, ps, hrun, hv⟩ := ho.lookup (string_keyed hk) ht hz (R := valM) (zd := .held z) rfl (Go.WideMaps.keyOf_string_mk hk hs); rw [h2] at hv; have : v = (f k.data.toList).getD z := by
  unfold valM at hv; have h0 := (Prod.mk.inj (zp2 hv)).1; cases hf : f k.data.toList with
  | none => rw [hf] at h0; simp only [DataW.held.injEq] at h0; exact h0
  | some u => rw [hf] at h0; simp only [DataW.held.injEq] at h0; exact h0
 rw [hrun, this]
theorem zo4 {D : DataW Value} (hD : IsMap D) (h : zeD D f) (k : zaa) (v : Value) : zeD (D.put (.string k) (.held v)) (setF f k v) := by
 obtain ⟨h1, h2⟩ := h; have hkl : WideAt.IsKeyLit (.string k) := by constructor
 refine ⟨fun x => ?_, fun x z => ?_⟩
 . unfold setF
   by_cases e : x = k
   . subst e
     rw [if_pos rfl, has_put_same hD hkl]; rfl
   . rw [if_neg e, has_put_other (by intro h; exact e (by injection h)), h1]
 . unfold setF
   by_cases e : x = k
   . subst e
     rw [if_pos rfl, atKey_put_same hD hkl]
   . rw [if_neg e, atKey_put_other (by intro h; exact e (by injection h)), h2]
theorem MapIs.store (h : MapIs P kt w b n f) (hk : P.underlying kt = some .string) (ht : P.underlying t = some (.map kt et)) (hn : n < maxLen) (k : ByteArray) (hs : k.size <= maxLen) (v : Value) :
 ∃ w', (Instr.mapUpdate t (.map (some b)) (.string k) v).run P w = .ok () w' /\ MapIs P kt w' b (n + 1) (setF f k.data.toList v) /\ w.grownBy w' (some b) := by
 obtain ⟨D, ho, hf⟩ := h; obtain ⟨w', hrun, ho', ht'⟩ := ho.store (string_keyed hk) ht hn (Go.WideMaps.keyOf_string_mk hk hs) (R := valM) (val := v) rfl; exact ⟨w', hrun, ⟨_, ho', zo4 ho.isMap hf _ _⟩, ht'.grown⟩
def RangesIs (P : Program) (kt : TypeId) (w : World) (b r n : Nat) (f : zaa -> Option Value) (left : zaa -> Bool) (cnt : Nat) : Prop :=
 ∃ D lf, w.ranges P kt valM b r n D lf cnt /\ zeD D f /\ ∀ k, lf (.string k) = left k
theorem RangesIs.map {r cnt : Nat} {left : zaa -> Bool} (h : RangesIs P kt w b r n f left cnt) : MapIs P kt w b n f := by
 obtain ⟨D, lf, h1, h2, _⟩ := h; exact ⟨D, h1.owns, h2⟩
theorem RangesIs.kept {w' : World} {row : Option Nat} {r cnt : Nat} {left : zaa -> Bool} (h : RangesIs P kt w b r n f left cnt) (hg : w.grownBy w' row) (hb' : some b ≠ row) (hr' : some r ≠ row) : RangesIs P kt w' b r n f left cnt := by
 obtain ⟨D, lf, h1, h2, h3⟩ := h; exact ⟨D, lf, h1.kept hg hb' hr', h2, h3⟩
theorem RangesIs.lt {r cnt : Nat} {left : zaa -> Bool} (h : RangesIs P kt w b r n f left cnt) : r < w.heap.size /\ r ≠ b := by
 obtain ⟨D, lf, h1, h2, h3⟩ := h; exact ⟨h1.lt, h1.ne⟩
theorem MapIs.range (h : MapIs P kt w b n f) (hk : P.underlying kt = some .string) (ht : P.underlying t = some (.map kt et)) :
 ∃ w' cnt, (Instr.range t (.map (some b))).run P w = .ok (.pointer (some ⟨w.heap.size, 0, none⟩)) w' /\ RangesIs P kt w' b w.heap.size n f (fun k => (f k).isSome) cnt /\ cnt <= n /\ w.grownBy w' none /\ w'.heap.size = w.heap.size + 1 := by
 obtain ⟨D, ho, hf⟩ := h; obtain ⟨w', hrun, hr, hg, hsz⟩ := ho.range (string_keyed hk) ht; exact ⟨w', _, hrun, ⟨D, _, hr, hf, hf.1⟩, ho.size_le, hg, hsz⟩
theorem RangesIs.next {r cnt : Nat} {left : zaa -> Bool} (h : RangesIs P kt w b r n f left cnt) (hk : P.underlying kt = some .string) (ty : TypeId) :
 (cnt = 0 /\ (∀ k, left k = false) /\ (Instr.next (.pointer (some ⟨r, 0, none⟩)) false ty).run P w = .ok (.tuple #[.bool false]) w) \/
 ∃ (k : ByteArray) (v : Value) (w' : World) (cnt' : Nat), k.size <= maxLen /\ left k.data.toList = true /\ f k.data.toList = some v /\ (Instr.next (.pointer (some ⟨r, 0, none⟩)) false ty).run P w = .ok (.tuple #[.bool true, .string k, v]) w' /\
  RangesIs P kt w' b r n f (fun x => left x && !(x == k.data.toList)) cnt' /\ cnt' < cnt /\ w.grownBy w' (some r) /\ w'.heap.size = w.heap.size /\ (Instr.entry (.pointer (some ⟨r, 0, none⟩))).run P w' = .ok (.tuple #[.string k, v]) w' := by
 obtain ⟨D, lf, h1, h2, h3⟩ := h; rcases h1.next (string_keyed hk) ty with ⟨h0, hl, hrun⟩ | ⟨key, v, kl, y, w', cnt', hkey, hlk, hv, hat, hrun, hrg, hlt, hgr, hsz, hen⟩
 . exact .inl ⟨h0, fun k => by rw [<- h3]; exact hl _, hrun⟩
 . have hinv : ∃ s : ByteArray, key = .string s /\ kl = .string s.data.toList /\ s.size <= maxLen := by
    cases key <;> simp [keyOf, hk, mapKey] at hkey
    obtain ⟨hs, rfl⟩ := hkey; exact ⟨_, rfl, rfl, hs⟩
   obtain ⟨s, rfl, rfl, hs⟩ := hinv; obtain rfl : y = (.held v, []) := (zp2 hv).symm; refine .inr ⟨s, v, w', cnt', hs, by rw [<- h3]; exact hlk, ?_, hrun, ⟨D, _, hrg, h2, fun k => ?_⟩, hlt, hgr, hsz, hen⟩
   . have := hat (.lit (.bool true))
     rw [h2.2] at this; cases hf : f s.data.toList with
     | none => rw [hf] at this; cases this
     | some u => rw [hf] at this; simp only [DataW.held.injEq] at this; rw [this]
   . show (lf (.string k) && !Lit.sameKey (.string k) (.string s.data.toList)) = _
     rw [h3]; rfl
end
end X
namespace X
open YtdpgdnpddndeoaaGreatDoorW.PrintWords YtdpgdnpddndeoaaGreatDoorW.PrintMore YtdpgdnpddndeoaaGreatDoorW.PrintLast
def zV : SVal := ⟨false, ⟨#[]⟩⟩
def updS (e : zaa -> SVal) (k : zaa) (v : SVal) : zaa -> SVal := fun x => if x = k then v else e x
def EnvIs (w : World) (b n : Nat) (e : zaa -> SVal) : Prop := ∃ f, MapIs zp0 9 w b n f /\ ∀ k, (f k).getD (aggV zV) = aggV (e k)
theorem EnvIs.made (w : World) : EnvIs (w.alloc (.map #[] 0)) w.heap.size 0 (fun _ => zV) := ⟨_, MapIs.made w, fun _ => rfl⟩
theorem EnvIs.lt {w : World} {b n : Nat} {e : zaa -> SVal} (h : EnvIs w b n e) : b < w.heap.size := by obtain ⟨f, h, _⟩ := h; exact h.lt
theorem EnvIs.below {w w' : World} {b n : Nat} {e : zaa -> SVal} (h : EnvIs w b n e) (hb : Below w.heap.size w w') : EnvIs w' b n e := by obtain ⟨f, h, h2⟩ := h; exact ⟨f, h.below hb, h2⟩
theorem EnvIs.grown {w w' : World} {b n : Nat} {e : zaa -> SVal} {row : Option Nat} (h : EnvIs w b n e) (hg : w.grownBy w' row) (hne : some b ≠ row) : EnvIs w' b n e := by obtain ⟨f, h, h2⟩ := h; exact ⟨f, h.grown hg hne, h2⟩
theorem EnvIs.look {w : World} {b n : Nat} {e : zaa -> SVal} (h : EnvIs w b n e) (k : ByteArray) (hs : k.size <= maxLen) :
 (Instr.lookup 91 (.map (some b)) (.string k) false).run zp0 w = .ok (aggV (e k.data.toList)) w := by
 obtain ⟨f, h, h2⟩ := h; have := h.look Tryz.underlying9 Tryz.underlying91 (Tryz.zeroValue34 w) k hs; rw [this]; exact congrArg (fun v => Result.ok v w) (h2 k.data.toList)
theorem EnvIs.store {w : World} {b n : Nat} {e : zaa -> SVal} (h : EnvIs w b n e) (hn : n < maxLen) (k : ByteArray) (hs : k.size <= maxLen) (v : SVal) :
 ∃ w', (Instr.mapUpdate 91 (.map (some b)) (.string k) (aggV v)).run zp0 w = .ok () w' /\ EnvIs w' b (n + 1) (updS e k.data.toList v) /\ w.grownBy w' (some b) := by
 obtain ⟨f, h, h2⟩ := h; obtain ⟨w', hrun, h', hg⟩ := h.store Tryz.underlying9 Tryz.underlying91 hn k hs (aggV v); refine ⟨w', hrun, ⟨_, h', fun x => ?_⟩, hg⟩
 unfold setF updS; split
 . rfl
 . exact h2 x
def envK (ins : List zaa) (vs : List SVal) (k : Nat) : zaa -> SVal := ((ins.zip vs).take k).foldl (fun e p => updS e p.1 p.2) (fun _ => zV)
def zcM (e : zaa -> SVal) (s : zb7) : zaa -> SVal := updS e s.out (valS (doP s.cmd (s.args.map fun a => valO (e a))))
def runK (r : zc7) (vs : List SVal) (k : Nat) : zaa -> SVal := (r.steps.take k).foldl zcM (envK r.ins vs r.ins.length)
def runS (r : zc7) (vs : List SVal) : List SVal := if vs.length ≠ r.ins.length then [] else r.outs.map (runK r vs r.steps.length)
theorem zjS (ins : List zaa) (vs : List SVal) (k : Nat) (h1 : k < ins.length) (h2 : k < vs.length) : envK ins vs (k + 1) = updS (envK ins vs k) ins[k] vs[k] := by
 unfold envK; have hz : k < (ins.zip vs).length := by rw [List.length_zip]; omega
 rw [zpU hz, List.foldl_append]; simp [List.getElem_zip]
theorem zkl (r : zc7) (vs : List SVal) (k : Nat) (h : k < r.steps.length) : runK r vs (k + 1) = zcM (runK r vs k) r.steps[k] := by
 unfold runK; rw [zpU h, List.foldl_append]; rfl
theorem zmo {s : Cmd} {vs : List VB} {b : zaa} (h : doP s vs = some b) : b.length <= 2000 := by
 unfold doP zeB at h; split at h
 . cases h
 . split at h
   . cases h
   . rename_i hn
     cases h
     omega
theorem zjV (s : Cmd) (vs : List VB) : (valS (doP s vs)).f1.size <= 4194304 := by
 cases h : doP s vs with
 | none => exact zqf _
 | some b =>
  have := zmo h; show (mk b).size <= _
  rw [zaX]; omega
def SmallE (e : zaa -> SVal) : Prop := ∀ k, (e k).f1.size <= 4194304
theorem SmallE.upd {e : zaa -> SVal} (h : SmallE e) (k : zaa) {v : SVal} (hv : v.f1.size <= 4194304) : SmallE (updS e k v) := by
 intro x; unfold updS; split
 . exact hv
 . exact h x
theorem zkm (ins : List zaa) (vs : List SVal) (hv : ∀ v ∈ vs, v.f1.size <= 4194304) (k : Nat) : SmallE (envK ins vs k) := by
 unfold envK; have key : ∀ (l : List (zaa × SVal)) (e : zaa -> SVal), SmallE e -> (∀ p ∈ l, p.2.f1.size <= 4194304) -> SmallE (l.foldl (fun e p => updS e p.1 p.2) e) := by
  intro l; induction l with
  | nil => exact fun e h _ => h
  | cons p l ih => exact fun e h hp => ih _ (h.upd _ (hp p zqP)) (fun q hq => hp q (zqQ _ hq))
 refine key _ _ (fun _ => zqf _) (fun p hp => hv p.2 ?_)
 exact (List.of_mem_zip (List.mem_of_mem_take hp)).2
theorem zis (r : zc7) (vs : List SVal) (hv : ∀ v ∈ vs, v.f1.size <= 4194304) (k : Nat) : SmallE (runK r vs k) := by
 unfold runK; have key : ∀ (l : List zb7) (e : zaa -> SVal), SmallE e -> SmallE (l.foldl zcM e) := by
  intro l; induction l with
  | nil => exact fun e h => h
  | cons s l ih => exact fun e h => ih _ (h.upd _ (zjV _ _))
 exact key _ _ (zkm _ _ hv _)
end X
end Go.Proofs.YtdpgdnpddndeoaaGreatDoor
