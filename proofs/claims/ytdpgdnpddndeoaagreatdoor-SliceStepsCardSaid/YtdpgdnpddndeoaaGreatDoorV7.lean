/-
  What the cards lean on (part V7): contracts of functions, by hand, and plain laws; what is printed by the kit's print for this seat is among them. What is not reached is left out.
-/
import Derived.Deep.RegionLaw
import Derived.Deep.RegionHeld3
import Derived.BigQuiet
import Derived.BigRegion
import Derived.Deep.DeepCutAuto
import Derived.Deep.CutBlock
import Derived.Maps.OwnSet
import Derived.Maps.RangeWalk
import Derived.Maps.StringElems
import Derived.WalkSpells
import Derived.Test.YtdpgdnpddndeoaaGreatDoorV5
import Derived.Test.YtdpgdnpddndeoaaGreatDoorV6
import Derived.Test.YtdpgdnpddndeoaaGreatDoorV4
import Derived.Test.YtdpgdnpddndeoaaGreatDoorV0
set_option maxHeartbeats 8000000
set_option maxRecDepth 100000
set_option linter.unusedSimpArgs false
set_option linter.unusedVariables false
open Go.RowKit.Below renaming refl -> zpw
open Nat renaming le_refl -> zpx, zero_le -> zqk
open Go.Lib renaming size_eq -> zqc
open List renaming getElem?_eq_getElem -> zpA, getD_eq_getElem?_getD -> zpB, length_map -> zqe, length_take -> zpI, length_append -> zpK, getElem?_eq_some_iff -> zpS, take_length -> zqf, take_succ_eq_append_getElem -> zpZ, mem_cons_of_mem -> zqM, drop_eq_getElem_cons -> zp1, length_cons -> zqh, take_of_length_le -> zqP, drop_of_length_le -> zqw, any_eq_true -> zqU, getElem_mem -> zqQ, length_nil -> zqF
open Option.some renaming inj -> zp6
open Bool renaming false_or -> zqT
open Go.Proofs.Tryz renaming prog -> zp5
open ByteArray renaming empty -> zqa
open Go.Proofs.YtdpgdnpddndeoaaGreatDoorW.PrintWords.Kd renaming C_below -> zqS, string -> zqb, R_reads -> zqq, R_below -> zqu, R_lower -> zqJ, R_set -> zqK
namespace Go.Proofs.YtdpgdnpddndeoaaGreatDoor
open Go.RowKit Go.Maps
namespace X
open YtdpgdnpddndeoaaGreatDoorW.PrintWords YtdpgdnpddndeoaaGreatDoorW.PrintMore YtdpgdnpddndeoaaGreatDoorW.PrintLast
theorem zgK (a b : zaa) : zaE (a ++ b) = zaE a ++ zaE b := by simp [zaE]
theorem zlO (W : World) (l : zaa) (h : l.length <= 100) : Kd.C (Kd.int .u8) (W.alloc (.cells (nums .u8 (zaE l)).toArray 5)) (some ⟨W.heap.size, 0, none⟩) (zaE l).length (zaE l) :=
 zbO (Kd.int .u8) W 5 (zaE l) (nums .u8 (zaE l)) (Kd.reps_scalar _) (by simp [zaE]; omega)
abbrev RB (w : World) (base : Nat) (v : Value) (l : zaa) : Prop := Kd.R (Kd.int .u8) 5 w base (fun _ => True) v (zaE l)
theorem RB.str {w : World} {base : Nat} {v : Value} {l : zaa} (h : RB w base v l) :
 (convert 90 9 v).run zp5 w = .ok (.string (mk l)) w := by
 have := zhz (dst := 9) Tryz.underlying90 Tryz.underlying5 Tryz.underlying9 (Kd.own_of_R h); rw [ziQ] at this; exact this
section
variable {P : Program} {ops : Array Oper} {rest : List Oper} {o : Oper} {a : Act} {Q : Exit -> Act -> World -> Prop}
theorem RB.app {w0 W : World} (base : Nat) (hgd : o.guard = none) (s x : Operand)
 (ho : o.op = .call { callee := .builtin .append, args := #[s, x], argTypes := #[90, 90] })
 (ht : P.underlying 90 = some (.slice 5)) (hinfo : (P.info? 5).map (fun i => (i.zero, i.size, i.bytes)) = some (some (.int .u8 0), 1, 1))
 (v : Value) (acc l : zaa) (cs : Array Value) (hcs : cs = (nums .u8 (zaE l)).toArray) (hl : l.length <= 100) (n : Nat) (hn : n = l.length) (hs : a.eval s = v) (hx : a.eval x = .slice (some ⟨W.heap.size, 0, none⟩) n n)
 (HO : RB W base v acc) (HB : Below base w0 W) (hbase : base <= W.heap.size) (hal : acc.length <= 5000000000000)
 (h : ∀ v1 w1, RB w1 base v1 (acc ++ l) -> Below base w0 w1 -> wpList P ops Q rest (a.put o.dst v1) w1) :
 wpList P ops Q (o :: rest) a (W.alloc (.cells cs 5)) := by
 subst hcs; subst hn; have hC := zlO W l hl; rw [show (zaE l).length = l.length by simp [zaE]] at hC
 refine Kd.R_append_rows (Kd.int .u8) (Rr := (Kd.int .u8).K (W.alloc (.cells (nums .u8 (zaE l)).toArray 5))) (w0 := w0) base hgd s x 90 5 (.int .u8 0) 1 ho ht hinfo rfl (by decide) (by decide) v (zaE acc) (zaE l) (some ⟨W.heap.size, 0, none⟩) l.length l.length (fun _ => True) (fun k_ => True /\ some k_ ≠ v.ownBlock) hs hx (Kd.R_alloc HO _) hC (fun _ _ h => h) (fun _ hk => hk) (fun _ _ => trivial) (HB.alloc hbase _) (by rw [World.size_alloc]; omega) (by simp only [zaE, zqe]; omega) ?_
 intro v1 w1 ho1 hb1 _ _; rw [<- zgK] at ho1; exact h v1 w1 ho1 hb1
theorem RB.str_app {w0 W : World} (base : Nat) (hgd : o.guard = none) (s x : Operand)
 (ho : o.op = .call { callee := .builtin .append, args := #[s, x], argTypes := #[90, 9] })
 (ht : P.underlying 90 = some (.slice 5)) (hu : P.underlying 9 = some .string) (hinfo : (P.info? 5).map (fun i => (i.zero, i.size, i.bytes)) = some (some (.int .u8 0), 1, 1))
 (v : Value) (acc l : zaa) (hs : a.eval s = v) (hx : a.eval x = .string (mk l)) (hl : l.length <= 100)
 (HO : RB W base v acc) (HB : Below base w0 W) (hbase : base <= W.heap.size) (hal : acc.length <= 5000000000000)
 (h : ∀ v1 w1, RB w1 base v1 (acc ++ l) -> Below base w0 w1 -> wpList P ops Q rest (a.put o.dst v1) w1) :
 wpList P ops Q (o :: rest) a W := by
 refine zj4 base hgd s x 90 9 5 ho ht hu hinfo v (zaE acc) (mk l) hs hx (Kd.own_of_R HO) HB hbase (by rw [zqc, zbd]; simp only [zaE, zqe]; omega) ?_
 intro v1 w1 ho1 hb1 _; have hbl : bytesOf (mk l) = zaE l := by unfold bytesOf; rw [zbd]; rfl
 rw [hbl, <- zgK] at ho1; exact h v1 w1 (Kd.R_of_own (h1 := fun _ => rfl) ho1 (fun _ _ => trivial)) hb1
end
theorem ziA (s : ByteArray) (hs : s.size <= 1099511627776) (hpr : ∀ c ∈ s.data.toList, c = 10 \/ c = 9 \/ ¬ (c.toNat < 32 \/ 126 < c.toNat)) (w : World) :
 Calls zp5 113 #[.string s] w fun e w' => e = .returned (.string (mk (zea s.data.toList))) /\ Below w.heap.size w w' := by
 have HPr := zpt hpr; clear hpr; generalize hT : zea s.data.toList = T; have HT := zpt hT; clear hT; have hR0 : RB (w.alloc (.cells #[.int .u8 34] 5)) w.heap.size (.slice (some ⟨w.heap.size, 0, none⟩) 1 1) [34] := by
  refine Kd.R_of_own (h1 := fun _ => rfl) ?_ (fun _ _ => trivial)
  exact zlX w w.heap.size 5 .u8 [34] (zpx _) (by simp)
 have HR0 := zpt hR0; clear hR0; go_enter Tryz.func113, Tryz.ntmps113
 go_wp2_with fail; go_loopg [3, 4, 5, 9] s.size (fun gg s3 _ _ s9 wr => ∃ (kk : Nat) (acc : zaa), kk <= s.size /\ s.size - kk <= gg /\ s9 = .int .i64 kk /\ acc.length <= 1 + 4 * kk /\ Aside0 (acc ++ (zdT (s.data.toList.drop kk) ++ [34]) = T) /\
  Aside0 (RB wr w.heap.size s3 acc) /\ Aside0 (Below w.heap.size w wr))
 case atStart => exact ⟨0, [34], zqk _, by omega, rfl, by simp, ⟨by rw [<- HT.out]; rfl⟩, ⟨HR0.out⟩, ⟨(zpw _ _).alloc (zpx _) _⟩⟩
 case round =>
  obtain ⟨kk, acc, hkk, hgk, rfl, hacc, HK, HO, HB⟩ := hrel; by_cases hlt : kk < s.size
  . have hltz : (kk : Int) < (s.size : Int) := by omega
    have hdr : s.data.toList.drop kk = s[kk] :: s.data.toList.drop (kk + 1) := by
     rw [zp1 (by rw [<- zqc]; exact hlt)]
     rfl
    have hK := HK.out; rw [hdr, zdT] at hK; have HK2 := zpt hK; clear hK hdr; have n8 : ∀ (m : Nat) (k : UInt8), k.toNat = m -> (s[kk] = k ↔ s[kk].toNat = m) := fun m k hk => by rw [<- UInt8.toNat_inj, hk]
    have H34 := zpt (n8 34 34 rfl); have H92 := zpt (n8 92 92 rfl); have H10 := zpt (n8 10 10 rfl); have H9 := zpt (n8 9 9 rfl); clear n8; have HWB := zpt HB.out.size; have hal2 : acc.length <= 5000000000000 := by omega
    have next : ∀ l : zaa, zdh s[kk] = l -> acc ++ l ++ (zdT (s.data.toList.drop (kk + 1)) ++ [34]) = T := fun l hl => by
     rw [<- HK2.out, hl]; simp
    have HN := zpt next; clear next; obtain ⟨L1, hL1⟩ : ∃ l : zaa, l = [s[kk]] := ⟨_, rfl⟩; obtain ⟨L2, hL2⟩ : ∃ l : zaa, l = [92, s[kk]] := ⟨_, rfl⟩; have HC1 : Hid (#[Value.int .u8 s[kk].toNat] = (nums .u8 (zaE L1)).toArray) := by show _ = _; rw [hL1]; rfl
    have HC2 : Hid (#[Value.int .u8 92, .int .u8 s[kk].toNat] = (nums .u8 (zaE L2)).toArray) := by show _ = _; rw [hL2]; rfl
    have HL1 := zpt hL1; have HL2 := zpt hL2; have hl1 : L1.length = 1 := by rw [hL1]; rfl
    have hl2 : L2.length = 2 := by rw [hL2]; rfl
    have HM1 : Hid (1 = L1.length) := hl1.symm; have HM2 : Hid (2 = L2.length) := hl2.symm; have HX1 : Hid (L1.length <= 100) := by show _ <= _; omega
    have HX2 : Hid (L2.length <= 100) := by show _ <= _; omega
    clear hL1 hL2; by_cases c1 : s[kk].toNat = 34
    . have e1 : ((s[kk].toNat : Int) == 34) = true := by simp; omega
      have HV := zpt (HN.out L2 (by unfold zdh; rw [if_pos (.inl (H34.out.2 c1)), HL2.out]))
      clear c1; go_wp2_with (first | ((with_reducible refine zaG (b := .append) (xs := #[.tmp 26, .tmp 28]) rfl ?_); at_builtin; refine RB.app (w0 := w) w.heap.size rfl (.tmp 26) (.tmp 28) rfl Tryz.underlying90 zc1 u3 acc L2 _ HC2.out HX2.out 2 HM2.out rfl rfl HO.out HB.out HWB.out hal2 ?_; intro v1 w4 ho hb; have HO4 := zpt ho; have HB4 := zpt hb; clear ho hb))
      go_roundg (s.size - (kk + 1))
      case measure => omega
      case rel => exact ⟨kk + 1, acc ++ L2, by omega, by omega, by first | rfl | go_num, by simp only [zpK]; omega, ⟨HV.out⟩, ⟨HO4.out⟩, ⟨HB4.out⟩⟩
    have e1 : ((s[kk].toNat : Int) == 34) = false := by simp; omega
    by_cases c2 : s[kk].toNat = 92
    . have e2 : ((s[kk].toNat : Int) == 92) = true := by simp; omega
      have HV := zpt (HN.out L2 (by unfold zdh; rw [if_pos (.inr (H92.out.2 c2)), HL2.out]))
      clear c1 c2; go_wp2_with (first | ((with_reducible refine zaG (b := .append) (xs := #[.tmp 26, .tmp 28]) rfl ?_); at_builtin; refine RB.app (w0 := w) w.heap.size rfl (.tmp 26) (.tmp 28) rfl Tryz.underlying90 zc1 u3 acc L2 _ HC2.out HX2.out 2 HM2.out rfl rfl HO.out HB.out HWB.out hal2 ?_; intro v1 w4 ho hb; have HO4 := zpt ho; have HB4 := zpt hb; clear ho hb))
      go_roundg (s.size - (kk + 1))
      case measure => omega
      case rel => exact ⟨kk + 1, acc ++ L2, by omega, by omega, by first | rfl | go_num, by simp only [zpK]; omega, ⟨HV.out⟩, ⟨HO4.out⟩, ⟨HB4.out⟩⟩
    have e2 : ((s[kk].toNat : Int) == 92) = false := by simp; omega
    have HQ1 : Hid (¬ (s[kk] = 34 \/ s[kk] = 92)) := fun h => h.elim (fun h => c1 (H34.out.1 h)) (fun h => c2 (H92.out.1 h))
    clear c1 c2; by_cases c3 : s[kk].toNat = 10
    . have e3 : ((s[kk].toNat : Int) == 10) = true := by simp; omega
      have HV := zpt (HN.out [92, 110] (by unfold zdh; rw [if_neg HQ1.out, if_pos (H10.out.2 c3)]))
      clear c3; go_wp2_with (first | ((with_reducible refine zaG (b := .append) (xs := #[.tmp 33, .const (.string ⟨#[92, 110]⟩)]) rfl ?_); at_builtin; refine RB.str_app (w0 := w) w.heap.size rfl (.tmp 33) (.const (.string ⟨#[92, 110]⟩)) rfl Tryz.underlying90 Tryz.underlying9 zc1 u3 acc [92, 110] rfl rfl (by decide) HO.out HB.out HWB.out hal2 ?_; intro v1 w4 ho hb; have HO4 := zpt ho; have HB4 := zpt hb; clear ho hb))
      go_roundg (s.size - (kk + 1))
      case measure => omega
      case rel => exact ⟨kk + 1, acc ++ [92, 110], by omega, by omega, by first | rfl | go_num, by simp; omega, ⟨HV.out⟩, ⟨HO4.out⟩, ⟨HB4.out⟩⟩
    have e3 : ((s[kk].toNat : Int) == 10) = false := by simp; omega
    by_cases c4 : s[kk].toNat = 9
    . have e4 : ((s[kk].toNat : Int) == 9) = true := by simp; omega
      have HV := zpt (HN.out [92, 116] (by unfold zdh; rw [if_neg HQ1.out, if_neg (fun h => c3 (H10.out.1 h)), if_pos (H9.out.2 c4)]))
      clear c3 c4; go_wp2_with (first | ((with_reducible refine zaG (b := .append) (xs := #[.tmp 38, .const (.string ⟨#[92, 116]⟩)]) rfl ?_); at_builtin; refine RB.str_app (w0 := w) w.heap.size rfl (.tmp 38) (.const (.string ⟨#[92, 116]⟩)) rfl Tryz.underlying90 Tryz.underlying9 zc1 u3 acc [92, 116] rfl rfl (by decide) HO.out HB.out HWB.out hal2 ?_; intro v1 w4 ho hb; have HO4 := zpt ho; have HB4 := zpt hb; clear ho hb))
      go_roundg (s.size - (kk + 1))
      case measure => omega
      case rel => exact ⟨kk + 1, acc ++ [92, 116], by omega, by omega, by first | rfl | go_num, by simp; omega, ⟨HV.out⟩, ⟨HO4.out⟩, ⟨HB4.out⟩⟩
    have e4 : ((s[kk].toNat : Int) == 9) = false := by simp; omega
    have HQ2 : Hid (¬ s[kk] = 10) := fun h => c3 (H10.out.1 h)
    have HQ3 : Hid (¬ s[kk] = 9) := fun h => c4 (H9.out.1 h)
    clear c3 c4; by_cases c5 : s[kk].toNat < 32 \/ 126 < s[kk].toNat
    . exfalso
      rcases HPr.out s[kk] (zqQ (h := by rw [<- zqc]; exact hlt)) with h | h | h
      . exact HQ2.out h
      . exact HQ3.out h
      . exact h c5
    . have HV := zpt (HN.out L1 (by unfold zdh; rw [if_neg HQ1.out, if_neg HQ2.out, if_neg HQ3.out, if_neg c5, HL1.out]))
      have e5 : decide ((s[kk].toNat : Int) < 32) = false := by simp; omega
      have e6 : decide ((126 : Int) < (s[kk].toNat : Int)) = false := by simp; omega
      clear c5; go_wp2_with (first | ((with_reducible refine zaG (b := .append) (xs := #[.tmp 15, .tmp 17]) rfl ?_); at_builtin; refine RB.app (w0 := w) w.heap.size rfl (.tmp 15) (.tmp 17) rfl Tryz.underlying90 zc1 u3 acc L1 _ HC1.out HX1.out 1 HM1.out rfl rfl HO.out HB.out HWB.out hal2 ?_; intro v1 w4 ho hb; have HO4 := zpt ho; have HB4 := zpt hb; clear ho hb))
      go_roundg (s.size - (kk + 1))
      case measure => omega
      case rel => exact ⟨kk + 1, acc ++ L1, by omega, by omega, by first | rfl | go_num, by simp only [zpK]; omega, ⟨HV.out⟩, ⟨HO4.out⟩, ⟨HB4.out⟩⟩
  . have hltz : ¬ (kk : Int) < (s.size : Int) := by omega
    have HWB := zpt HB.out.size; have hal : acc.length <= 4398046511105 := by omega
    have HV : Hid (T = acc ++ [34]) := by
     show T = _
     rw [<- HK.out, zqw (by rw [<- zqc]; omega)]
     rfl
    have hal2 : acc.length <= 5000000000000 := by omega
    go_wp2_with (first | ((with_reducible refine zaG (b := .append) (xs := #[.tmp 57, .tmp 58]) rfl ?_); at_builtin; refine RB.app (w0 := w) w.heap.size rfl (.tmp 57) (.tmp 58) rfl Tryz.underlying90 zc1 u3 acc [34] #[.int .u8 34] rfl (by decide) 1 rfl rfl rfl HO.out HB.out HWB.out hal2 ?_; intro v1 w4 ho hb; have hcv := RB.str ho; have HB4 := zpt hb; clear ho hb))
    go_ret
    rw [HV.out]; exact ⟨rfl, HB4.out⟩
theorem zbQ (a b : zaa) : mk a ++ mk b = mk (a ++ b) := by
 apply zcn
 rw [zbd, ByteArray.data_append, Array.toList_append, zbd, zbd]
abbrev zbH (l : List ByteArray) : List zaa := l.map fun x => x.data.toList
theorem zgH {l : List ByteArray} {sep : zaa} (hl : l.length * 16 <= 140737488355328) (hsum : (Lib.join (zbH l) sep).length <= 70368744177664) : strings_Join.f l (mk sep) = some (mk (Lib.join (zbH l) sep)) := by
 unfold strings_Join.f; rw [zbd, if_pos ⟨by omega, Nat.le_trans hsum (by omega)⟩]
def zb8 (word : zaa) (l : List ByteArray) : zaa := if l = [] then [] else [32, 32] ++ word ++ [32] ++ Lib.join (zbH l) [44, 32] ++ [59, 10]
theorem zfK (word : zaa) (A : Option Addr) (c : Nat) (l : List ByteArray) (w : World) (hG : GOK w) (hr : Kd.C zqb w A l.length l) (hc : l.length <= c) (hw : word.length <= 100) (hl : l.length * 16 <= 140737488355328) (hsum : (Lib.join (zbH l) [44, 32]).length <= 70368744177664) :
 Calls zp5 194 #[.string (mk word), .slice A l.length c] w fun e w' => e = .returned (.string (mk (zb8 word l))) /\ Below w.heap.size w w' := by
 by_cases h0 : l = []
 . have hd : ((l.length : Int) == 0) = true := by rw [h0]; rfl
   have HE : Hid (zb8 word l = []) := by show _ = _; unfold zb8; rw [if_pos h0]
   clear h0 hr; go_enter Tryz.func194, Tryz.ntmps194
   go_wp2; go_ret
   exact ⟨by rw [HE.out]; rfl, zpw _ _⟩
 . have hpos : 0 < l.length := List.length_pos_iff.2 h0
   have hd : ((l.length : Int) == 0) = false := by simp; exact h0
   have HE : Hid (zb8 word l = [32, 32] ++ word ++ [32] ++ Lib.join (zbH l) [44, 32] ++ [59, 10]) := by show _ = _; unfold zb8; rw [if_neg h0]
   have hJ := strings_Join.calls A c l (mk [44, 32]) (mk (Lib.join (zbH l) [44, 32])) w hG hr hc (zgH hl hsum); generalize Lib.join (zbH l) [44, 32] = J at HE hJ hsum; have n1 : ¬ 9223372036854775807 < 2 + (mk word).size := by rw [zbb]; omega
   have n2 : ¬ 9223372036854775807 < 2 + (mk word).size + 1 := by rw [zbb]; omega
   have n3 : ¬ 9223372036854775807 < 2 + (mk word).size + 1 + (mk J).size := by rw [zbb, zbb]; omega
   have n4 : ¬ 9223372036854775807 < 2 + (mk word).size + 1 + (mk J).size + 2 := by rw [zbb, zbb]; omega
   clear h0 hr; go_enter Tryz.func194, Tryz.ntmps194
   go_wp2_with (go_at_call 83; refine hJ.mono ?_; rintro e w2 ⟨rfl, hb2⟩)
   go_ret
   refine ⟨?_, hb2⟩; rw [HE.out, <- zbQ, <- zbQ, <- zbQ, <- zbQ]; rfl
def zbW (x : ByteArray) : ByteArray := mk (zea x.data.toList)
def zi0 (x : ByteArray) : Prop := x.size <= 1099511627776 /\ ∀ c ∈ x.data.toList, c = 10 \/ c = 9 \/ ¬ (c.toNat < 32 \/ 126 < c.toNat)
def zcK (s : zaw) : List ByteArray := [s.f0, ⟨#[61]⟩, zbk s.f1] ++ s.f3.map zbW ++ s.f2
def zcR (s : zaw) : zaa := Lib.join (zbH (zcK s)) [32] ++ [59]
theorem zjj (s : zaw) (A2 : Option Addr) (c2 : Nat) (A3 : Option Addr) (c3 : Nat) (w : World) (hG : GOK w) (h2 : Kd.C zqb w A2 s.f2.length s.f2) (h3 : Kd.C zqb w A3 s.f3.length s.f3)
 (h9 : s.f1 ≠ 9) (hpr : ∀ x ∈ s.f3, zi0 x) (hl2 : s.f2.length <= 1000) (hl3 : s.f3.length <= 1000) (hsum : (Lib.join (zbH (zcK s)) [32]).length <= 70368744177664) :
 Calls zp5 119 #[.agg #[.string s.f0, .int .i64 s.f1, .slice A2 s.f2.length c2, .slice A3 s.f3.length c3, .int .i64 s.f4]] w fun e w' => e = .returned (.string (mk (zcR s))) /\ Below w.heap.size w w' := by
 have hB0 := (zpw w.heap.size w).alloc (zpx _) (.cells #[.string s.f0, .int .i64 s.f1, .slice A2 s.f2.length c2, .slice A3 s.f3.length c3, .int .i64 s.f4] 24); have hb0 := zap w (.cells #[.string s.f0, .int .i64 s.f1, .slice A2 s.f2.length c2, .slice A3 s.f3.length c3, .int .i64 s.f4] 24); have HB0 := zpt hB0; have HBlk := zpt hb0; have HG := zpt hG; have HPr := zpt hpr; have HSum := zpt hsum; have H2 := zpt h2; have H3 := zpt h3; have e9 : (s.f1 == 9) = false := by simpa using h9
 clear hB0 hb0 hG hpr hsum h9; go_enter Tryz.func119, Tryz.ntmps119
 go_wp2; generalize w.alloc (.cells #[.string s.f0, .int .i64 s.f1, .slice A2 s.f2.length c2, .slice A3 s.f3.length c3, .int .i64 s.f4] 24) = w1 at HB0 HBlk |-; have k0 := bc0 HBlk.out; have k1 := bc1 HBlk.out; have hOp := zhY s.f1 w1.drew; have HB0d := zpt (zaM HB0.out); have HBd := zpt (zaH HBlk.out); go_region_law (first | (go_simp; go_at_call 116; refine hOp.mono ?_; rintro e w2 ⟨rfl, hb2⟩; have HB2 := zpt (zac HB0d.out HB0d.out.size hb2); have HBlk2 := zpt (zai HBd.out hb2); have k02 := bc0 HBlk2.out; clear hb2))
 all_goals
  have k13 : ∀ ob : Obj, (w2.alloc ob).cell? ⟨w.heap.size, 1, none⟩ = some (.int .i64 s.f1) := fun ob => (zah (zaQ HBlk2.out ob) 1).trans rfl
  have k33 : ∀ ob : Obj, (w2.alloc ob).cell? ⟨w.heap.size, 3, none⟩ = some (.slice A3 s.f3.length c3) := fun ob => (zah (zaQ HBlk2.out ob) 3).trans rfl
  have HB3 := zpt (HB2.out.alloc HB2.out.size (.cells #[.string s.f0, .string ⟨#[61]⟩, .string (zbk s.f1)] 9)); have HBlk3 := zpt (zaQ HBlk2.out (.cells #[.string s.f0, .string ⟨#[61]⟩, .string (zbk s.f1)] 9)); have HL3 : Hid (RS (w2.alloc (.cells #[.string s.f0, .string ⟨#[61]⟩, .string (zbk s.f1)] 9)) w.heap.size (.slice (some ⟨w2.heap.size, 0, none⟩) 3 3) [s.f0, ⟨#[61]⟩, zbk s.f1]) := zel w2 w.heap.size [s.f0, ⟨#[61]⟩, zbk s.f1] HB2.out.size (by simp)
  go_wp2_with fail; generalize w2.alloc (.cells #[.string s.f0, .string ⟨#[61]⟩, .string (zbk s.f1)] 9) = w3 at HB3 HBlk3 HL3 |-; generalize (some (⟨w2.heap.size, 0, none⟩ : Addr)) = AL at HL3 |-; clear k02 HBlk2 HB2 k13 k33; go_loopg [3, 5, 24] s.f3.length (fun gg s3 _ s24 wr => ∃ (kk : Nat) (A : Option Addr) (c : Nat), kk <= s.f3.length /\ s.f3.length - kk <= gg /\ s24 = .int .i64 kk /\ s3 = .slice A (3 + kk) c /\ 3 + kk <= c /\
   Aside0 (RS wr w.heap.size (.slice A (3 + kk) c) ([s.f0, ⟨#[61]⟩, zbk s.f1] ++ (s.f3.take kk).map zbW)) /\ Aside0 (Below w.heap.size w wr) /\
   Aside0 (wr.heap[w.heap.size]? = some (.cells #[.string s.f0, .int .i64 s.f1, .slice A2 s.f2.length c2, .slice A3 s.f3.length c3, .int .i64 s.f4] 24 (0, 0))))
  case atStart => exact ⟨0, AL, 3, zqk _, by omega, rfl, rfl, by omega, ⟨by simpa using HL3.out⟩, ⟨HB3.out⟩, ⟨HBlk3.out⟩⟩
  case round =>
   obtain ⟨kk, A, c, hkk, hgk, rfl, rfl, hcc, HO, HB, HBk⟩ := hrel; by_cases hlt : kk < s.f3.length
   . have hltz : (kk : Int) < (s.f3.length : Int) := by omega
     rcases zaX (zqS H3.out HB.out) with h0 | ⟨b, o, rfl, _, hcell⟩
     . rw [h0] at hlt; simp at hlt
     . have hx : wr.cell? ⟨b, o + kk, none⟩ = some (.string (s.f3.getD kk zqa)) := hcell kk hlt
       obtain ⟨y, hy⟩ : ∃ y, y = s.f3.getD kk zqa := ⟨_, rfl⟩; rw [<- hy] at hx; have hym : y = s.f3[kk] := by rw [hy]; simp [zpB, zpA hlt]
       have hyP := HPr.out y (by rw [hym]; exact zqQ _)
       have hq := fun W => ziA y hyP.1 hyP.2 W
       have HN : Hid ((s.f3.take kk).map zbW ++ [zbW y] = (s.f3.take (kk + 1)).map zbW) := by
        show _ = _
        rw [zpZ hlt, List.map_append, hym]; rfl
       have HNl : Hid (([s.f0, (⟨#[61]⟩ : ByteArray), zbk s.f1] ++ (s.f3.take kk).map zbW).length = 3 + kk) := by
        show _ = _
        simp only [zpK, zqe, zpI, zqh, zqF]; omega
       clear hcell hy hym hyP; go_wp2_with (first | (go_at_call 113; refine (hq _).mono ?_; rintro e w4 ⟨rfl, hb4⟩; have HB4 := zpt (zac HB.out HB.out.size hb4); have HO4 := zpt (zqu HO.out hb4); have HBk4 := zpt (zai HBk.out hb4); have HS4 : Hid (w.heap.size <= w4.heap.size) := HB4.out.size; clear hb4) | ((with_reducible refine zaG (b := .append) (xs := #[.tmp 28, .tmp 31]) rfl ?_); at_builtin; refine Kd.R_append zqb (w0 := w) w.heap.size rfl (.tmp 28) (.tmp 31) 22 9 (.string ⟨#[]⟩) 16 rfl Tryz.underlying22 zbi rfl (by decide) (by decide) (.slice A (3 + kk) c) ([s.f0, ⟨#[61]⟩, zbk s.f1] ++ (s.f3.take kk).map zbW) (zbW y) [.string (zbW y)] (fun _ => True) (fun k_ => True /\ some k_ ≠ (Value.slice A (3 + kk) c).ownBlock) rfl rfl rfl (fun _ hk => hk) (fun _ _ => trivial) HO4.out HB4.out HS4.out ?aL ?_; (case aL => rw [HNl.out]; omega); intro v1 w5 ho hb hg hat; obtain ⟨AN, cN, rfl, hcN, _⟩ := zqq ho; have HO5 := zpt ho; have HB5 := zpt hb; have HBk5 := zpt (zaY HBk4.out hg (Kd.R_ne HO4.out HBk4.out (by decide))); have HcN := zpt hcN; clear ho hb hg hat hcN))
       have hLn : ([s.f0, (⟨#[61]⟩ : ByteArray), zbk s.f1] ++ (s.f3.take kk).map zbW ++ [zbW y]).length = 3 + (kk + 1) := by rw [zpK, HNl.out]; rfl
       have hO5 := HO5.out; have hcN := HcN.out; rw [hLn] at hO5 hcN; rw [List.append_assoc, HN.out] at hO5; go_roundg (s.f3.length - (kk + 1))
       case measure => omega
       case rel =>
        exact ⟨kk + 1, AN, cN, by omega, by omega, by go_num, by first | rfl | (congr 1; omega) | (simp; omega), hcN, ⟨hO5⟩, ⟨HB5.out⟩, ⟨HBk5.out⟩⟩
   . have hltz : ¬ (kk : Int) < (s.f3.length : Int) := by omega
     obtain rfl : kk = s.f3.length := by omega
     have hLL : [s.f0, (⟨#[61]⟩ : ByteArray), zbk s.f1] ++ (s.f3.take s.f3.length).map zbW ++ s.f2 = zcK s := by rw [zqf]; rfl
     have hLn : ([s.f0, (⟨#[61]⟩ : ByteArray), zbk s.f1] ++ (s.f3.take s.f3.length).map zbW).length = 3 + s.f3.length := by
      simp only [zpK, zqe, zpI, zqh, zqF, Nat.min_self]
     have HLL := zpt hLL; have HLn := zpt hLn; have HWB := zpt HB.out.size; have H2r := zpt (zqS H2.out HB.out); have k2 := bc2 HBk.out; have hlS : (zcK s).length = 3 + s.f3.length + s.f2.length := by rw [<- hLL, zpK, hLn]
     have HlS : Hid ((zcK s).length * 16 <= 140737488355328) := by show _ <= _; rw [hlS]; omega
     clear hLL hLn hlS; go_wp2_with (first | ((with_reducible refine zaG (b := .append) (xs := #[.tmp 34, .tmp 36]) rfl ?_); at_builtin; refine Kd.R_append_rows zqb (Rr := Kd.string.K wr) (w0 := w) w.heap.size rfl (.tmp 34) (.tmp 36) 22 9 (.string ⟨#[]⟩) 16 rfl Tryz.underlying22 zbi rfl (by decide) (by decide) (.slice A (3 + s.f3.length) c) ([s.f0, ⟨#[61]⟩, zbk s.f1] ++ (s.f3.take s.f3.length).map zbW) s.f2 A2 s.f2.length c2 (fun _ => True) (fun k_ => True /\ some k_ ≠ (Value.slice A (3 + s.f3.length) c).ownBlock) rfl rfl HO.out H2r.out (fun _ _ h => h) (fun _ hk => hk) (fun _ _ => trivial) HB.out HWB.out ?aL ?_; (case aL => rw [HLn.out]; omega); intro v1 w5 ho hb hg hat; rw [HLL.out] at ho; obtain ⟨AN, cN, rfl, hcN, hrN⟩ := zqq ho; have HB5 := zpt hb; have HcN := zpt hcN; have HrN := zpt hrN; have hJ := strings_Join.calls AN cN (zcK s) (mk [32]) (mk (Lib.join (zbH (zcK s)) [32])) w5 (HG.out.below hb) hrN hcN (zgH HlS.out HSum.out); have hn1 : ¬ 9223372036854775807 < (mk (Lib.join (zbH (zcK s)) [32])).size + 1 := (by rw [zbb]; have := HSum.out; omega); clear ho hb hg hat hcN hrN) | (go_at_call 83; refine hJ.mono ?_; rintro e w6 ⟨rfl, hb6⟩; have HB6 := zpt (zac HB5.out HB5.out.size hb6); clear hb6))
     go_ret
     refine ⟨?_, HB6.out⟩; unfold zcR; rw [<- zbQ]; rfl
structure Sl where
 a : Option Addr
 n : Nat
 c : Nat
def Sl.v (s : Sl) : Value := .slice s.a s.n s.c
def kSl : Kd Sl := Kd.scalar Sl.v (fun _ => rfl)
abbrev Sh := ByteArray × Int × Sl × Sl × Int
def kSh : Kd Sh := Kd.pair zqb (Kd.pair (Kd.int .i64) (Kd.pair kSl (Kd.pair kSl (Kd.int .i64))))
theorem sh_K {w : World} (x : Sh) {cs : List Value} : kSh.K w x cs ↔ cs = [.string x.1, .int .i64 x.2.1, x.2.2.1.v, x.2.2.2.1.v, .int .i64 x.2.2.2.2] := by
 constructor
 . rintro ⟨_, _, rfl, rfl, _, _, rfl, rfl, _, _, rfl, rfl, _, _, rfl, rfl, rfl⟩
   rfl
 . rintro rfl
   exact ⟨[_], [_, _, _, _], rfl, rfl, [_], [_, _, _], rfl, rfl, [_], [_, _], rfl, rfl, [_], [_], rfl, rfl, rfl⟩
theorem sh_M {w : World} {base : Nat} {ok : Nat -> Prop} (x : Sh) {cs : List Value} : kSh.M w base ok x cs ↔ cs = [.string x.1, .int .i64 x.2.1, x.2.2.1.v, x.2.2.2.1.v, .int .i64 x.2.2.2.2] := by
 constructor
 . rintro ⟨_, _, rfl, rfl, _, _, rfl, rfl, _, _, rfl, rfl, _, _, rfl, rfl, rfl⟩
   rfl
 . rintro rfl
   exact ⟨[_], [_, _, _, _], rfl, rfl, [_], [_, _, _], rfl, rfl, [_], [_, _], rfl, rfl, [_], [_], rfl, rfl, rfl⟩
theorem zo3 (ad : Addr) (c : Nat) (l : List Sh) (w : World) (hr : Kd.C kSh w (some ad) l.length l) (hl : l.length <= 1000) :
 Calls zp5 199 #[.slice (some ad) l.length c] w fun e w' => ∃ v, e = .returned v /\ Kd.R kSh 24 w' w.heap.size (fun _ => True) v l /\ Below w.heap.size w w' := by
 have HO : Hid (Kd.R kSh 24 (w.alloc (.cells #[] 24)) w.heap.size (fun _ => True) (.slice (some ⟨w.heap.size, 0, none⟩) 0 0) []) :=
  ⟨fun _ _ => trivial, OwnRow.lit (ps := []) (inner := []) w w.heap.size (Reps.none _ _) (zpx _) (by simp)⟩
 have HC := zpt (zqS hr ((zpw w.heap.size w).alloc (zpx _) (.cells #[] 24))); have HB := zpt ((zpw w.heap.size w).alloc (zpx _) (.cells #[] 24)); have hnil : ∀ W, (binOp .eql 43 (.slice (some ad) l.length c) (.slice none 0 0)).run zp5 W = .ok (.bool false) W := fun _ => rfl
 clear hr; go_enter Tryz.func199, Tryz.ntmps199
 go_wp2_with (first | ((with_reducible refine zaG (b := .append) (xs := #[.tmp 5, .tmp 6]) rfl ?_); at_builtin; refine Kd.R_append_rows kSh (Rr := kSh.K (w.alloc (.cells #[] 24))) (w0 := w) w.heap.size rfl (.tmp 5) (.tmp 6) 43 24 (.agg #[.string ⟨#[]⟩, .int .i64 0, .slice none 0 0, .slice none 0 0, .int .i64 0]) 80 rfl Tryz.underlying43 zgm rfl (by decide) (by decide) (.slice (some ⟨w.heap.size, 0, none⟩) 0 0) [] l (some ad) l.length c (fun _ => True) (fun k_ => True /\ some k_ ≠ (Value.slice (some (⟨w.heap.size, 0, none⟩ : Addr)) 0 0).ownBlock) rfl rfl HO.out HC.out (fun x cs h => (sh_M x).2 ((sh_K x).1 h)) (fun _ hk => hk) (fun _ _ => trivial) HB.out HB.out.size ?aL ?_; (case aL => simp; omega); intro v1 w4 ho hb hg hat; have HO4 := zpt ho; have HB4 := zpt hb; clear ho hb hg hat))
 go_ret
 exact ⟨v1, rfl, HO4.out, HB4.out⟩
theorem zmZ {α1 α2 α3 α4 α5 α6 α7 α8 : Type} {F G : α1 -> α2 -> α3 -> α4 -> α5 -> α6 -> α7 -> α8 -> Prop} {R : Prop}
 (main : (∀ a b c d e f g h, F a b c d e f g h -> G a b c d e f g h) -> R) (tail : ∀ a b c d e f g h, F a b c d e f g h -> G a b c d e f g h) : R := main tail
theorem zmz {α1 α2 α3 α4 α5 : Type} {F G : α1 -> α2 -> α3 -> α4 -> α5 -> Prop} {R : Prop}
 (main : (∀ a b c d e, F a b c d e -> G a b c d e) -> R) (tail : ∀ a b c d e, F a b c d e -> G a b c d e) : R := main tail
theorem zce {w2 wc W : World} (hb : Below w2.heap.size w2 wc) (h : W = wc \/ ∃ ob, W = wc.alloc ob) : Below w2.heap.size w2 W := by
 rcases h with rfl | ⟨ob, rfl⟩
 . exact hb
 . exact hb.alloc hb.size _
theorem nxt {wc W w4 : World} (hb : Below W.heap.size W w4) (h : W = wc \/ ∃ ob, W = wc.alloc ob) : Below wc.heap.size wc w4 :=
 zac (zce (zpw _ _) h) (zce (zpw _ _) h).size hb
section
variable {P : Program} {ops : Array Oper} {o : Oper} {a : Act} {Kc : Act -> World -> Prop} {Q : Exit -> Act -> World -> Prop} {W : World}
theorem zd1 (hw : Region.wanted o (yielded ops a.tmps) = true) (x : Operand)
 (ho : o.op = .call { callee := .builtin .append, args := #[.const (.slice none 0 0), x], argTypes := #[22, 22] })
 (ht : P.underlying 22 = some (.slice 9)) (hinfo : (P.info? 9).map (fun i => (i.zero, i.size, i.bytes)) = some (some (.string ⟨#[]⟩), 1, 16))
 (l : List ByteArray) (A : Option Addr) (c : Nat) (hx : a.eval x = .slice A l.length c) (HR : Kd.C zqb W A l.length l) (hl : l.length * 16 <= 140737488355328)
 (h : ∀ X d w1, RS w1 W.heap.size (.slice X l.length d) l -> Below W.heap.size W w1 -> Kc (a.put o.dst (.slice X l.length d)) w1) :
 if Region.wanted o (yielded ops a.tmps) = true then Oper.wp P o a W Kc Q else Kc (a.put o.dst undef) W := by
 refine Kd.R_append_rows_step zqb (w0 := W) W.heap.size hw (.const (.slice none 0 0)) x 22 9 (.string ⟨#[]⟩) 16 ho ht hinfo rfl (by decide) (by decide) (.slice none 0 0) [] l A l.length c (fun _ => True) (fun k_ => True /\ some k_ ≠ (Value.slice none 0 0).ownBlock) rfl hx (Kd.R_nil _ _ _ _ _) HR (fun _ _ h => h) (fun _ hk => hk) (fun _ _ => trivial) (zpw _ _) (zpx _) (by simpa using hl) ?_
 intro v1 w1 ho1 hb1 _ _; obtain ⟨X, d, rfl, _, _⟩ := zqq ho1; exact h X d w1 ho1 hb1
end
def zih (w2 : World) (f0 : ByteArray) (l1 l2 l3 : List ByteArray) (X1 : Option Addr) (d1 : Nat) (X2 : Option Addr) (d2 : Nat) (X3 : Option Addr) (d3 : Nat) (G : Nat) (W : World) : Prop :=
 Below w2.heap.size w2 W /\ W.heap[G]? = some (.cells #[.string f0, .slice X1 l1.length d1, .slice X2 l2.length d2, .slice X3 l3.length d3, .slice none 0 0] 45 (0, 0)) /\ w2.heap.size <= G /\ RS W w2.heap.size (.slice X1 l1.length d1) l1 /\ RS W w2.heap.size (.slice X2 l2.length d2) l2 /\ RS W w2.heap.size (.slice X3 l3.length d3) l3
def zjD (r : zaj) (w : World) (e : Ending) (w' : World) : Prop :=
 ∃ X1 d1 X2 d2 X3 d3 X4 d4, e = .returned (.agg #[.string r.f0, .slice X1 r.f1.length d1, .slice X2 r.f2.length d2, .slice X3 r.f3.length d3, .slice X4 r.f4.length d4]) /\
  RS w' w.heap.size (.slice X1 r.f1.length d1) r.f1 /\ RS w' w.heap.size (.slice X2 r.f2.length d2) r.f2 /\ RS w' w.heap.size (.slice X3 r.f3.length d3) r.f3 /\ Kd.R k24 24 w' w.heap.size (fun _ => True) (.slice X4 r.f4.length d4) r.f4 /\ Below w.heap.size w w'
theorem zlK (r : zaj) (A1 : Option Addr) (c1 : Nat) (A2 : Option Addr) (c2 : Nat) (A3 : Option Addr) (c3 : Nat) (A4 : Option Addr) (c4 : Nat) (w : World)
 (h1 : Kd.C zqb w A1 r.f1.length r.f1) (h2 : Kd.C zqb w A2 r.f2.length r.f2) (h3 : Kd.C zqb w A3 r.f3.length r.f3) (h4 : Kd.C k24 w A4 r.f4.length r.f4)
 (hls : ∀ x ∈ r.f4, x.f2.length * 16 <= 140737488355328 /\ x.f3.length * 16 <= 140737488355328)
 (hl1 : r.f1.length * 16 <= 140737488355328) (hl2 : r.f2.length * 16 <= 140737488355328) (hl3 : r.f3.length * 16 <= 140737488355328) (hl4 : r.f4.length * 80 <= 140737488355328) :
 Calls zp5 45 #[.agg #[.string r.f0, .slice A1 r.f1.length c1, .slice A2 r.f2.length c2, .slice A3 r.f3.length c3, .slice A4 r.f4.length c4]] w (zjD r w) := by
 obtain ⟨f0, l1, l2, l3, l4⟩ := r; dsimp only at *; have hb1 := (zpw w.heap.size w).alloc (zpx _) (.cells #[.string f0, .slice A1 l1.length c1, .slice A2 l2.length c2, .slice A3 l3.length c3, .slice A4 l4.length c4] 45); have hb2 := hb1.alloc hb1.size (.cells RUz 45); have hk := zaQ (zap w (.cells #[.string f0, .slice A1 l1.length c1, .slice A2 l2.length c2, .slice A3 l3.length c3, .slice A4 l4.length c4] 45)) (.cells RUz 45); have hz := zap (w.alloc (.cells #[.string f0, .slice A1 l1.length c1, .slice A2 l2.length c2, .slice A3 l3.length c3, .slice A4 l4.length c4] 45)) (.cells RUz 45); rw [World.size_alloc] at hz; have HB2 := zpt hb2; have HK2 := zpt hk; have HZ2 := zpt hz; have H1 := zpt (zqS h1 hb2); have H2 := zpt (zqS h2 hb2); have H3 := zpt (zqS h3 hb2); have H4 := zpt (zqS h4 hb2); have HL1 := zpt hl1; have HL2 := zpt hl2; have HL3 := zpt hl3; have HL4 := zpt hl4; have HLS := zpt hls; clear hb1 hb2 hk hz h1 h2 h3 h4 hl1 hl2 hl3 hl4 hls; go_enter Tryz.func45, Tryz.ntmps45
 go_wp2_with fail; generalize (w.alloc (.cells #[.string f0, .slice A1 l1.length c1, .slice A2 l2.length c2, .slice A3 l3.length c3, .slice A4 l4.length c4] 45)).alloc (.cells RUz 45) = w2 at HB2 HK2 HZ2 H1 H2 H3 H4 |-; have HBc : Hid (Below w2.heap.size w2 w2.drew) := zpt (zaM (zpw _ _)); have Sof : ∀ W, Below w2.heap.size w2 W -> W.cell? ⟨w.heap.size, 0, none⟩ = some (.string f0) /\ W.cell? ⟨w.heap.size, 1, none⟩ = some (.slice A1 l1.length c1) /\ W.cell? ⟨w.heap.size, 2, none⟩ = some (.slice A2 l2.length c2) /\ W.cell? ⟨w.heap.size, 3, none⟩ = some (.slice A3 l3.length c3) := fun W hW =>
  ⟨(zah (zai HK2.out hW) 0).trans rfl, (zah (zai HK2.out hW) 1).trans rfl, (zah (zai HK2.out hW) 2).trans rfl, (zah (zai HK2.out hW) 3).trans rfl⟩
 have HS := zpt Sof; clear Sof; apply zmZ (F := zih w2 f0 l1 l2 l3)
 . intro tail
   go_region_held3 (fun W => W.cell? ⟨w.heap.size, 0, none⟩ = some (.string f0) /\ W.cell? ⟨w.heap.size, 1, none⟩ = some (.slice A1 l1.length c1) /\ W.cell? ⟨w.heap.size, 2, none⟩ = some (.slice A2 l2.length c2) /\ W.cell? ⟨w.heap.size, 3, none⟩ = some (.slice A3 l3.length c3))
    (exact HS.out _ (by first | exact HBc.out | exact zce HBc.out (.inr ⟨_, rfl⟩) | exact ((((HBc.out.setCell HXG.out _).setCell HXG.out _).setCell HXG.out _).setCell HXG.out _).setCell HXG.out _))
    (first
     | (refine zd1 (by rfl) (.tmp 9) rfl Tryz.underlying22 zbi l1 A1 c1 (by rfl) (zqS H1.out (zce HBc.out (by first | exact .inl rfl | exact .inr ⟨_, rfl⟩))) HL1.out ?_; intro X1 d1 w4 ho hb; replace ho := zqJ ho (zce HBc.out (by first | exact .inl rfl | exact .inr ⟨_, rfl⟩)).size; (try first | (replace HX := zpt (zai HX.out (nxt hb (by first | exact .inl rfl | exact .inr ⟨_, rfl⟩)))) | (have HX := zpt (zai (zap _ _) hb); have HXG := zpt HBc.out.size) | (have HX := zpt (zai (zaH (zap w2 _)) hb); have HXG := zpt (zpx w2.heap.size))); have HBc := zpt (zac HBc.out HBc.out.size (nxt hb (by first | exact .inl rfl | exact .inr ⟨_, rfl⟩))); have HO1 := zpt ho; (try (have z0 := (zah HX.out 0).trans rfl; have z1 := (zah HX.out 1).trans rfl; have z2 := (zah HX.out 2).trans rfl; have z3 := (zah HX.out 3).trans rfl; have z4 := (zah HX.out 4).trans rfl; have y0 := zak HX.out 0; have y1 := zak HX.out 1; have y2 := zak HX.out 2; have y3 := zak HX.out 3; have y4 := zak HX.out 4)); clear ho hb)
     | (refine zd1 (by rfl) (.tmp 12) rfl Tryz.underlying22 zbi l2 A2 c2 (by rfl) (zqS H2.out (zce HBc.out (by first | exact .inl rfl | exact .inr ⟨_, rfl⟩))) HL2.out ?_; intro X2 d2 w4 ho hb; replace ho := zqJ ho (zce HBc.out (by first | exact .inl rfl | exact .inr ⟨_, rfl⟩)).size; (try first | (replace HX := zpt (zai HX.out (nxt hb (by first | exact .inl rfl | exact .inr ⟨_, rfl⟩)))) | (have HX := zpt (zai (zap _ _) hb); have HXG := zpt HBc.out.size)); have HBc := zpt (zac HBc.out HBc.out.size (nxt hb (by first | exact .inl rfl | exact .inr ⟨_, rfl⟩))); have HO1 := zpt (zqu HO1.out (nxt hb (by first | exact .inl rfl | exact .inr ⟨_, rfl⟩))); have HO2 := zpt ho; (try (have z0 := (zah HX.out 0).trans rfl; have z1 := (zah HX.out 1).trans rfl; have z2 := (zah HX.out 2).trans rfl; have z3 := (zah HX.out 3).trans rfl; have z4 := (zah HX.out 4).trans rfl; have y0 := zak HX.out 0; have y1 := zak HX.out 1; have y2 := zak HX.out 2; have y3 := zak HX.out 3; have y4 := zak HX.out 4)); clear ho hb)
     | (refine zd1 (by rfl) (.tmp 15) rfl Tryz.underlying22 zbi l3 A3 c3 (by rfl) (zqS H3.out (zce HBc.out (by first | exact .inl rfl | exact .inr ⟨_, rfl⟩))) HL3.out ?_; intro X3 d3 w4 ho hb; replace ho := zqJ ho (zce HBc.out (by first | exact .inl rfl | exact .inr ⟨_, rfl⟩)).size; (try first | (replace HX := zpt (zai HX.out (nxt hb (by first | exact .inl rfl | exact .inr ⟨_, rfl⟩)))) | (have HX := zpt (zai (zap _ _) hb); have HXG := zpt HBc.out.size)); have HBc := zpt (zac HBc.out HBc.out.size (nxt hb (by first | exact .inl rfl | exact .inr ⟨_, rfl⟩))); have HO1 := zpt (zqu HO1.out (nxt hb (by first | exact .inl rfl | exact .inr ⟨_, rfl⟩))); have HO2 := zpt (zqu HO2.out (nxt hb (by first | exact .inl rfl | exact .inr ⟨_, rfl⟩))); have HO3 := zpt ho; (try (have z0 := (zah HX.out 0).trans rfl; have z1 := (zah HX.out 1).trans rfl; have z2 := (zah HX.out 2).trans rfl; have z3 := (zah HX.out 3).trans rfl; have z4 := (zah HX.out 4).trans rfl; have y0 := zak HX.out 0; have y1 := zak HX.out 1; have y2 := zak HX.out 2; have y3 := zak HX.out 3; have y4 := zak HX.out 4)); clear ho hb))
   . have ha := (zpw w4.heap.size w4).alloc (zpx _) (.cells #[.string f0, .slice X1 l1.length d1, .slice X2 l2.length d2, .slice X3 l3.length d3, .slice none 0 0] 45)
     have hF : zih w2 f0 l1 l2 l3 X1 d1 X2 d2 X3 d3 w4.heap.size (w4.alloc (.cells #[.string f0, .slice X1 l1.length d1, .slice X2 l2.length d2, .slice X3 l3.length d3, .slice none 0 0] 45)) := ⟨zce HBc.out (.inr ⟨_, rfl⟩), zap _ _, HBc.out.size, zqu HO1.out ha, zqu HO2.out ha, zqu HO3.out ha⟩; generalize w4.alloc (.cells #[.string f0, .slice X1 l1.length d1, .slice X2 l2.length d2, .slice X3 l3.length d3, .slice none 0 0] 45) = W at hF |-; generalize w4.heap.size = G at hF |-; exact tail X1 d1 X2 d2 X3 d3 G W hF
   all_goals
    exact tail X1 d1 X2 d2 X3 d3 _ _ ⟨((((HBc.out.setCell HXG.out _).setCell HXG.out _).setCell HXG.out _).setCell HXG.out _).setCell HXG.out _, zcl (.string f0) (.slice X1 l1.length d1) (.slice X2 l2.length d2) (.slice X3 l3.length d3) (.slice none 0 0) HX.out, HXG.out, RS.set5 HO1.out _ _ _ _ _ HX.out (by decide), RS.set5 HO2.out _ _ _ _ _ HX.out (by decide), RS.set5 HO3.out _ _ _ _ _ HX.out (by decide)⟩
 intro X1 d1 X2 d2 X3 d3 G W ⟨hb, hx, hg, ho1, ho2, ho3⟩; have HBW := zpt hb; have HXW := zpt hx; have HGW := zpt hg; have HO1 := zpt ho1; have HO2 := zpt ho2; have HO3 := zpt ho3; clear hb hx hg ho1 ho2 ho3 HBc HS; go_wp2_with fail; have hl4b : l4.length <= 1759218604441 := by have := HL4.out; omega
 go_loopg [4, 5] l4.length (fun gg s4 _ wr => ∃ (kk : Nat) (A : Option Addr) (c : Nat), kk <= l4.length /\ l4.length - kk <= gg /\ s4 = .int .i64 kk /\ Aside0 (Below w2.heap.size w2 wr) /\ Aside0 (wr.heap[G]? = some (.cells #[.string f0, .slice X1 l1.length d1, .slice X2 l2.length d2, .slice X3 l3.length d3, .slice A kk c] 45 (0, 0))) /\
  Aside0 (Kd.R k24 24 wr w2.heap.size (fun _ => True) (.slice A kk c) (l4.take kk)) /\ Aside0 (RS wr w2.heap.size (.slice X1 l1.length d1) l1) /\ Aside0 (RS wr w2.heap.size (.slice X2 l2.length d2) l2) /\ Aside0 (RS wr w2.heap.size (.slice X3 l3.length d3) l3))
 case atStart => exact ⟨0, none, 0, zqk _, by omega, rfl, ⟨HBW.out⟩, ⟨HXW.out⟩, ⟨Kd.R_nil _ _ _ _ _⟩, ⟨HO1.out⟩, ⟨HO2.out⟩, ⟨HO3.out⟩⟩
 case round =>
  obtain ⟨kk, A, c, hkk, hgk, rfl, HB, HX, HR, HP1, HP2, HP3⟩ := hrel; have k4 := bc4 (zai HK2.out HB.out); by_cases hlt : kk < l4.length
  . have hltz : (kk : Int) < (l4.length : Int) := by omega
    have hk0 : (0 : Int) <= (kk : Int) := by omega
    obtain ⟨ad, B2, e2, B3, e3, rfl, p0, p1, p2, p3, p4, q2, g2, q3, g3⟩ := zfo (zqS H4.out HB.out) (kk : Int) (by omega) (by omega)
    have hxi : zbP l4 (kk : Int) = l4[kk] := by unfold zbP; simp [zpB, zpA hlt]
    rw [hxi] at p0 p1 p2 p3 p4 g2 g3; rw [Int.toNat_natCast] at p0 p1 p2 p3 p4; have htk : l4.take (kk + 1) = l4.take kk ++ [l4[kk]] := by rw [List.take_add_one, zpA hlt]; rfl
    have HTK := zpt htk; have HM2 := zpt (HLS.out l4[kk] (zqQ hlt)).1; have HM3 := zpt (HLS.out l4[kk] (zqQ hlt)).2; generalize l4[kk] = x at p0 p1 p2 p3 p4 g2 g3 HTK HM2 HM3; clear htk hxi; have HG2 := zpt (zqS g2 ((zpw wr.heap.size wr).alloc (zpx _) (.cells #[.string x.f0, .int .i64 x.f1, .slice B2 x.f2.length e2, .slice B3 x.f3.length e3, .int .i64 x.f4] 24))); have HG3 := zpt (zqS g3 ((zpw wr.heap.size wr).alloc (zpx _) (.cells #[.string x.f0, .int .i64 x.f1, .slice B2 x.f2.length e2, .slice B3 x.f3.length e3, .int .i64 x.f4] 24))); have HSb := zpt (zap wr (.cells #[.string x.f0, .int .i64 x.f1, .slice B2 x.f2.length e2, .slice B3 x.f3.length e3, .int .i64 x.f4] 24)); have HBs := zpt ((zpw wr.heap.size wr).alloc (zpx _) (.cells #[.string x.f0, .int .i64 x.f1, .slice B2 x.f2.length e2, .slice B3 x.f3.length e3, .int .i64 x.f4] 24)); clear g2 g3; go_wp2_with fail; generalize wr.alloc (.cells #[.string x.f0, .int .i64 x.f1, .slice B2 x.f2.length e2, .slice B3 x.f3.length e3, .int .i64 x.f4] 24) = w5 at HG2 HG3 HSb HBs |-; generalize hS : wr.heap.size = S at HSb |-; have HSe := zpt hS; clear hS p0 p1 p2 p3 p4 k4; have HBc := zpt (zaM (zpw w5.heap.size w5)); have k2 := bc2 HSb.out; have k3 := bc3 HSb.out; apply zmz (F := fun (Y2 : Option Addr) (m2 : Nat) (Y3 : Option Addr) (m3 : Nat) (W : World) => Below w5.heap.size w5 W /\ RS W w5.heap.size (.slice Y2 x.f2.length m2) x.f2 /\ RS W w5.heap.size (.slice Y3 x.f3.length m3) x.f3 /\ W.heap[S]? = some (.cells #[.string x.f0, .int .i64 x.f1, .slice B2 x.f2.length e2, .slice B3 x.f3.length e3, .int .i64 x.f4] 24 (0, 0)))
    . intro tail
      go_region_law (first
      | (refine zd1 (by rfl) (.tmp 31) rfl Tryz.underlying22 zbi x.f2 B2 e2 (by rfl) (zqS HG2.out HBc.out) HM2.out ?_; intro Y2 m2 w7 ho hb; have HBc := zpt (zac HBc.out HBc.out.size hb); have HBk := zpt hb.size; have HY2 := zpt ho; have HSb := zpt (zai (zaH HSb.out) hb); have k2 := bc2 HSb.out; have k3 := bc3 HSb.out; clear ho hb)
      | (refine zd1 (by rfl) (.tmp 34) rfl Tryz.underlying22 zbi x.f3 B3 e3 (by rfl) (zqS HG3.out HBc.out) HM3.out ?_; intro Y3 m3 w7 ho hb; have HBc := zpt (zac HBc.out HBc.out.size hb); have HY3 := zpt ho; have HY2 := zpt (zqu HY2.out hb); have HSb := zpt (zai HSb.out hb); have k2 := bc2 HSb.out; have k3 := bc3 HSb.out; have y2 := zak HSb.out 2; have y3 := zak HSb.out 3; clear ho hb))
      all_goals exact tail _ _ _ _ w7 ⟨HBc.out, HY2.out, zqJ HY3.out HBk.out, HSb.out⟩
    intro Y2 m2 Y3 m3 w7 ⟨hb7, hy2, hy3, hs7⟩; have hSe := HSe.out; have hb6 := zac HBs.out HBs.out.size hb7; have hb8 := (hb6.setCell (p := ⟨S, 2, none⟩) (Nat.le_of_eq hSe) (.slice Y2 x.f2.length m2)).setCell (p := ⟨S, 3, none⟩) (Nat.le_of_eq hSe) (.slice Y3 x.f3.length m3); have hs8 := zbT (zbT hs7 2 (.slice Y2 x.f2.length m2)) 3 (.slice Y3 x.f3.length m3); have hy28 := zqJ (zqK (zqK hy2 hs7 (by decide) 2 (.slice Y2 x.f2.length m2)) (zbT hs7 2 (.slice Y2 x.f2.length m2)) (by decide) 3 (.slice Y3 x.f3.length m3)) HBs.out.size
    have hy38 := zqJ (zqK (zqK hy3 hs7 (by decide) 2 (.slice Y2 x.f2.length m2)) (zbT hs7 2 (.slice Y2 x.f2.length m2)) (by decide) 3 (.slice Y3 x.f3.length m3)) HBs.out.size
    generalize (w7.setCell ⟨S, 2, none⟩ (.slice Y2 x.f2.length m2)).setCell ⟨S, 3, none⟩ (.slice Y3 x.f3.length m3) = w8 at hb8 hs8 hy28 hy38 |-; have hs8' : w8.heap[S]? = some (.cells #[.string x.f0, .int .i64 x.f1, .slice Y2 x.f2.length m2, .slice Y3 x.f3.length m3, .int .i64 x.f4] 24 (0, 0)) := hs8; have hx8 := zai HX.out hb8; have HR8 := zpt (zqu HR.out hb8); have HP18 := zpt (zqu HP1.out hb8); have HP28 := zpt (zqu HP2.out hb8); have HP38 := zpt (zqu HP3.out hb8); have HM8 := zpt (zfz w8 w2.heap.size _ x (zqJ (Kd.R_new hy28 (Kd.R_own HR.out).choose_spec) HB.out.size) (zqJ (Kd.R_new hy38 (Kd.R_own HR.out).choose_spec) HB.out.size)); have HB8 := zpt (zac HB.out HB.out.size hb8); have HX8 := zpt hx8; have k4 := bc4 hx8; have s0 : w8.cell? ⟨S, 0, none⟩ = some (.string x.f0) := (zah hs8' 0).trans rfl; have s1 : w8.cell? ⟨S, 1, none⟩ = some (.int .i64 x.f1) := (zah hs8' 1).trans rfl; have s2 : w8.cell? ⟨S, 2, none⟩ = some (.slice Y2 x.f2.length m2) := (zah hs8' 2).trans rfl; have s3 : w8.cell? ⟨S, 3, none⟩ = some (.slice Y3 x.f3.length m3) := (zah hs8' 3).trans rfl; have s4 : w8.cell? ⟨S, 4, none⟩ = some (.int .i64 x.f4) := (zah hs8' 4).trans rfl; have HLT : Hid ((l4.take kk).length = kk) := by show _ = _; rw [zpI]; omega
    clear hSe hb6 hb7 hs7 hy2 hy3 hb8 hs8 hs8' hx8 hy28 hy38 HBc HSb HBs HG2 HG3; go_wp2_with (first | ((with_reducible refine zaG (b := .append) (xs := #[.tmp 39, .tmp 41]) rfl ?_); at_builtin; refine Kd.R_append k24 (w0 := w8) w2.heap.size rfl (.tmp 39) (.tmp 41) 43 24 (.agg #[.string ⟨#[]⟩, .int .i64 0, .slice none 0 0, .slice none 0 0, .int .i64 0]) 80 rfl Tryz.underlying43 zgm rfl (by decide) (by decide) (.slice A kk c) (l4.take kk) x [.string x.f0, .int .i64 x.f1, .slice Y2 x.f2.length m2, .slice Y3 x.f3.length m3, .int .i64 x.f4] (fun _ => True) (fun k_ => True /\ some k_ ≠ (Value.slice A kk c).ownBlock) (by rfl) (by rfl) HM8.out (fun _ hk => hk) (fun _ _ => trivial) HR8.out (zpw _ _) HB8.out.size ?aL ?_; (case aL => (have h1 := HL4.out; have h2 := HLT.out; omega)); intro v1 w9 ho hb hg hat; obtain ⟨A9, c9, rfl, _, _⟩ := zqq ho; rw [zpK, HLT.out, List.length_singleton] at ho |-; have HR9 := zpt ho; have HX9 := zpt (zaY HX8.out hg (Kd.R_ne HR8.out HX8.out (by decide))); have HP19 := zpt (zdB HP18.out HR8.out (by decide) hg); have HP29 := zpt (zdB HP28.out HR8.out (by decide) hg); have HP39 := zpt (zdB HP38.out HR8.out (by decide) hg); have HB9 := zpt (HB8.out.trans hb); have y4 := zak HX9.out 4; have k9 := bc4 HX9.out; clear ho hb hg hat))
    go_roundg (l4.length - (kk + 1))
    case measure => omega
    case rel =>
     exact ⟨kk + 1, A9, c9, by omega, by omega, by first | rfl | go_num, ⟨HB9.out.setCell HGW.out _⟩, ⟨zav HX9.out 4 _ rfl⟩, ⟨by rw [HTK.out]; exact zqK HR9.out HX9.out (by decide) 4 _⟩, ⟨zqK HP19.out HX9.out (by decide) 4 _⟩, ⟨zqK HP29.out HX9.out (by decide) 4 _⟩, ⟨zqK HP39.out HX9.out (by decide) 4 _⟩⟩
  . have hltz : ¬ (kk : Int) < (l4.length : Int) := by omega
    have k40 : wr.cell? ⟨w.heap.size, 4, none⟩ = some (.slice A4 l4.length c4) := k4; obtain rfl : kk = l4.length := by omega
    have hR := HR.out; rw [zqf] at hR; have HR2 := zpt hR; have hZ := zai HZ2.out HB.out; have HZ := zpt hZ; have g0 := bc0 HX.out; have g1 := bc1 HX.out; have g2 := bc2 HX.out; have g3 := bc3 HX.out; have g4 := bc4 HX.out; have r0 := bc0 hZ; have r1 := bc1 hZ; have r2 := bc2 hZ; have r3 := bc3 hZ; have r4 := bc4 hZ; have z0 := zak hZ 0; have z1 := zak hZ 1; have z2 := zak hZ 2; have z3 := zak hZ 3; have z4 := zak hZ 4; clear hR hZ k4; go_wp2_with fail; have hs := zcl (.string f0) (.slice X1 l1.length d1) (.slice X2 l2.length d2) (.slice X3 l3.length d3) (.slice A l4.length c) HZ.out; have hA := zqJ (RS.set5 HP1.out (.string f0) (.slice X1 l1.length d1) (.slice X2 l2.length d2) (.slice X3 l3.length d3) (.slice A l4.length c) HZ.out (by decide)) HB2.out.size
    have hB := zqJ (RS.set5 HP2.out (.string f0) (.slice X1 l1.length d1) (.slice X2 l2.length d2) (.slice X3 l3.length d3) (.slice A l4.length c) HZ.out (by decide)) HB2.out.size
    have hC := zqJ (RS.set5 HP3.out (.string f0) (.slice X1 l1.length d1) (.slice X2 l2.length d2) (.slice X3 l3.length d3) (.slice A l4.length c) HZ.out (by decide)) HB2.out.size
    have hE := zqJ (zdz HR2.out (.string f0) (.slice X1 l1.length d1) (.slice X2 l2.length d2) (.slice X3 l3.length d3) (.slice A l4.length c) HZ.out (by decide)) HB2.out.size
    have hle : w.heap.size <= w.heap.size + 1 := Nat.le_succ _; have hD := (((((zac HB2.out HB2.out.size HB.out).setCell (p := ⟨w.heap.size + 1, 0, none⟩) hle (.string f0)).setCell (p := ⟨w.heap.size + 1, 1, none⟩) hle (.slice X1 l1.length d1)).setCell (p := ⟨w.heap.size + 1, 2, none⟩) hle (.slice X2 l2.length d2)).setCell (p := ⟨w.heap.size + 1, 3, none⟩) hle (.slice X3 l3.length d3)).setCell (p := ⟨w.heap.size + 1, 4, none⟩) hle (.slice A l4.length c); clear g0 g1 g2 g3 g4 r0 r1 r2 r3 r4 z0 z1 z2 z3 z4; unfold set5 at hs hA hB hC hE; generalize ((((wr.setCell ⟨w.heap.size + 1, 0, none⟩ (.string f0)).setCell ⟨w.heap.size + 1, 1, none⟩ (.slice X1 l1.length d1)).setCell ⟨w.heap.size + 1, 2, none⟩ (.slice X2 l2.length d2)).setCell ⟨w.heap.size + 1, 3, none⟩ (.slice X3 l3.length d3)).setCell ⟨w.heap.size + 1, 4, none⟩ (.slice A l4.length c) = wE at hs hA hB hC hD hE |-; have g0 := (zah hs 0).trans rfl; have g1 := (zah hs 1).trans rfl; have g2 := (zah hs 2).trans rfl; have g3 := (zah hs 3).trans rfl; have g4 := (zah hs 4).trans rfl; exact bodyPost_ret (v := .agg #[.string f0, .slice X1 l1.length d1, .slice X2 l2.length d2, .slice X3 l3.length d3, .slice A l4.length c]) (by simp [results, Tryz.results45, go_sem, g0, g1, g2, g3, g4]) rfl ⟨_, _, _, _, _, _, _, _, rfl, hA, hB, hC, hE, hD⟩
theorem zo6 {W : World} {g : Nat} {x : ByteArray} (h : W.heap[g]? = some (.cells #[.string x] 9 (0, 0))) : Kd.C zqb W (some ⟨g, 0, none⟩) 1 [x] := by
 refine ⟨rfl, by decide, fun _ => ⟨_, rfl, fun j p hj => ⟨[.string p], rfl, rfl, fun i u hu => ?_⟩⟩⟩
 obtain rfl : j = 0 := by have := (zpS.1 hj).1; simpa using this
 obtain rfl : i = 0 := by have := (zpS.1 hu).1; simpa using this
 simp only [List.getElem?_cons_zero, Option.some.injEq] at hj hu; rw [<- hu, <- hj]; exact (zah h 0).trans rfl
section
variable {P : Program} {ops : Array Oper} {o : Oper} {a : Act} {Kc : Act -> World -> Prop} {Q : Exit -> Act -> World -> Prop} {W : World}
theorem zk0 (hw : Region.wanted o (yielded ops a.tmps) = true) (s x : Operand)
 (ho : o.op = .call { callee := .builtin .append, args := #[s, x], argTypes := #[22, 22] })
 (ht : P.underlying 22 = some (.slice 9)) (hinfo : (P.info? 9).map (fun i => (i.zero, i.size, i.bytes)) = some (some (.string ⟨#[]⟩), 1, 16))
 {base : Nat} {v : Value} {xs : List ByteArray} (hs : a.eval s = v) (HO : RS W base v xs) (hbase : base <= W.heap.size)
 (l : List ByteArray) (A : Option Addr) (c : Nat) (hx : a.eval x = .slice A l.length c) (HR : Kd.C zqb W A l.length l) (hl : (xs.length + l.length) * 16 <= 140737488355328)
 (h : ∀ X d w1, RS w1 base (.slice X (xs ++ l).length d) (xs ++ l) -> Below base W w1 -> Kc (a.put o.dst (.slice X (xs ++ l).length d)) w1) :
 if Region.wanted o (yielded ops a.tmps) = true then Oper.wp P o a W Kc Q else Kc (a.put o.dst undef) W := by
 refine Kd.R_append_rows_step zqb (w0 := W) base hw s x 22 9 (.string ⟨#[]⟩) 16 ho ht hinfo rfl (by decide) (by decide) v xs l A l.length c (fun _ => True) (fun k_ => True /\ some k_ ≠ v.ownBlock) hs hx HO HR (fun _ _ h => h) (fun _ hk => hk) (fun _ _ => trivial) (zpw _ _) hbase hl ?_
 intro v1 w1 ho1 hb1 _ _; obtain ⟨X, d, rfl, _, _⟩ := zqq ho1; exact h X d w1 ho1 hb1
end
def zcx (l : List ByteArray) (s : ByteArray) : Nat := (l.takeWhile fun x => !(x.toList == s.toList)).length
def zaN (l : List ByteArray) (s : ByteArray) : Int := if zcx l s < l.length then zcx l s else -1
theorem zjv (l : List ByteArray) (s : ByteArray) : zcx l s <= l.length := by
 unfold zcx; have := congrArg List.length (List.takeWhile_append_dropWhile (p := fun x : ByteArray => !(x.toList == s.toList)) (l := l))
 rw [zpK] at this; omega
theorem zpk (l : List ByteArray) (s : ByteArray) : ∀ kk, kk <= zcx l s -> ∀ h : kk < l.length, (l[kk].toList == s.toList) = decide (kk = zcx l s) := by
 unfold zcx; induction l with
 | nil => intro kk _ h; simp at h
 | cons y r ih =>
  intro kk hk h; cases hy : (y.toList == s.toList) with
  | false =>
   rw [List.takeWhile_cons_of_pos (by simp [hy])] at hk |-
   cases kk with
   | zero => simp [hy]
   | succ kk =>
    simp only [zqh, List.getElem_cons_succ, Nat.add_lt_add_iff_right] at hk h |-; rw [ih kk (by omega) h]
    simp
  | true =>
   rw [List.takeWhile_cons_of_neg (by simp [hy])] at hk |-
   simp only [zqF, Nat.le_zero] at hk; subst hk; simp [hy]
theorem zcp (A : Option Addr) (c : Nat) (l : List ByteArray) (s : ByteArray) (w : World) (hr : Kd.C zqb w A l.length l) :
 Calls zp5 32 #[.slice A l.length c, .string s] w fun e w' => e = .returned (.int .i64 (zaN l s)) /\ w' = w := by
 have hlen : l.length <= 9223372036854775807 := hr.2.1; have HR := zpt hr; have hpl := zjv l s; obtain ⟨T, hT⟩ : ∃ T, T = zaN l s := ⟨_, rfl⟩; rw [<- hT]; have HT := zpt hT; clear hr hT; go_enter Tryz.func32, Tryz.ntmps32
 go_wp2_with fail; go_loopg [5] l.length (fun gg s5 wr => ∃ kk : Nat, kk <= zcx l s /\ l.length - kk <= gg /\ s5 = .int .i64 kk /\ wr = w)
 case atStart => exact ⟨0, zqk _, by omega, rfl, rfl⟩
 case round =>
  obtain ⟨kk, hkk, hgk, rfl, rfl⟩ := hrel; by_cases hlt : kk < l.length
  . have hltz : (kk : Int) < (l.length : Int) := by omega
    rcases zaX HR.out with h0 | ⟨b, o, rfl, _, hcell⟩
    . exfalso; rw [h0] at hlt; simp at hlt
    have p0 := hcell kk hlt; have hpi : l.getD kk zqa = l[kk] := by rw [zpB, zpA hlt]; rfl
    rw [hpi] at p0; have hst := zpk l s kk hkk hlt; generalize l[kk] = y at p0 hst; clear hpi hcell; by_cases hk2 : kk = zcx l s
    . have hd : (y.toList == s.toList) = true := by rw [hst]; simp [hk2]
      have hF : T = (kk : Int) := by rw [HT.out]; unfold zaN; rw [<- hk2, if_pos hlt]
      have HF := zpt hF; clear hst hk2 hF hpl hkk; go_wp2_with fail; go_ret
      exact ⟨by rw [HF.out]; rfl, rfl⟩
    . have hd : (y.toList == s.toList) = false := by rw [hst]; simp [hk2]
      clear hst; go_wp2_with fail; go_roundg (l.length - (kk + 1))
      case measure => omega
      case rel => exact ⟨kk + 1, by omega, by omega, by go_num, rfl⟩
  . have hltz : ¬ (kk : Int) < (l.length : Int) := by omega
    have hF : T = -1 := by rw [HT.out]; unfold zaN; rw [if_neg (by omega)]
    have HF := zpt hF; clear hF hpl; go_wp2_with fail; go_ret
    exact ⟨by rw [HF.out]; rfl, rfl⟩
def zdv (l : List ByteArray) : Bool := (List.range l.length).any fun i => decide (0 <= zaN (l.take i) (l.getD i zqa))
theorem ziG (l : List ByteArray) (k : Nat) (h : k < l.length) : ((List.range (k + 1)).any fun i => decide (0 <= zaN (l.take i) (l.getD i zqa))) = (((List.range k).any fun i => decide (0 <= zaN (l.take i) (l.getD i zqa))) || decide (0 <= zaN (l.take k) l[k])) := by
 rw [List.range_succ, List.any_append]; simp [zpB, zpA h]
theorem zfJ (A : Option Addr) (c : Nat) (l : List ByteArray) (w : World) (hr : Kd.C zqb w A l.length l) (hc : l.length <= c) :
 Calls zp5 91 #[.slice A l.length c] w fun e w' => e = .returned (.bool (zdv l)) /\ Below w.heap.size w w' := by
 have hlen : l.length <= 9223372036854775807 := hr.2.1; have HR := zpt hr; obtain ⟨T, hT⟩ : ∃ T, T = zdv l := ⟨_, rfl⟩; rw [<- hT]; have HT := zpt hT; clear hr hT; go_enter Tryz.func91, Tryz.ntmps91
 go_wp2_with fail; go_loopg [3] l.length (fun gg s3 wr => ∃ kk : Nat, kk <= l.length /\ l.length - kk <= gg /\ s3 = .int .i64 kk /\ Aside0 (((List.range kk).any fun i => decide (0 <= zaN (l.take i) (l.getD i zqa))) = false) /\ Aside0 (Below w.heap.size w wr))
 case atStart => exact ⟨0, zqk _, by omega, rfl, ⟨rfl⟩, ⟨zpw _ _⟩⟩
 case round =>
  obtain ⟨kk, hkk, hgk, rfl, HN, HB⟩ := hrel; by_cases hlt : kk < l.length
  . have hltz : (kk : Int) < (l.length : Int) := by omega
    rcases zaX HR.out with h0 | ⟨b, o, rfl, _, hcell⟩
    . exfalso; rw [h0] at hlt; simp at hlt
    have p0 := hcell kk hlt; have hpi : l.getD kk zqa = l[kk] := by rw [zpB, zpA hlt]; rfl
    rw [hpi] at p0; have hst := ziG l kk hlt; rw [HN.out, zqT] at hst; have HP0 := zpt p0; have htl : (l.take kk).length = kk := by rw [zpI]; omega
    have hF := fun W (hW : Below w.heap.size w W) => zcp (some ⟨b, o, none⟩) c (l.take kk) l[kk] W (zqS (Kd.C_take HR.out (show kk <= l.length by omega)) hW)
    rw [htl] at hF; generalize l[kk] = y at HP0 hst hF; have HF := zpt hF; have HSt := zpt hst; have hb1 : (kk : Int) <= (l.length : Int) := by omega
    have hb2 : (l.length : Int) <= (c : Int) := by omega
    have hb3 : (kk : Int) <= (c : Int) := by omega
    have hb0 : (0 : Int) <= (kk : Int) := by omega
    have HBk : Hid (Below w.heap.size w wr.drew) := zpt (zaM HB.out); have HAny : Hid (zdv l = true \/ decide (0 <= zaN (l.take kk) y) = false) := by
     show _ \/ _
     by_cases h0 : 0 <= zaN (l.take kk) y
     . left
       unfold zdv; rw [zqU]; have h1 : ((List.range (kk + 1)).any fun i => decide (0 <= zaN (l.take i) (l.getD i zqa))) = true := by rw [HSt.out]; simpa using h0
       obtain ⟨i, hi, hd⟩ := zqU.1 h1; exact ⟨i, List.mem_range.2 (by have := List.mem_range.1 hi; omega), hd⟩
     . right; simpa using h0
    clear hpi hcell p0 hst hF htl; obtain ⟨z, hz⟩ : ∃ z, z = zaN (l.take kk) y := ⟨_, rfl⟩; rw [<- hz] at HF HSt HAny; clear hz; by_cases hz0 : 0 <= z
    . have hT1 : T = true := by
       rcases HAny.out with h | h
       . exact HT.out.trans h
       . simp at h; omega
      have HT1 := zpt hT1; clear hT1; go_wp2_with fail; go_region_held3 (fun W => W.cell? ⟨b, o + kk, none⟩ = some (.string y)) (exact zad HBk.out HP0.out) (first | (go_at_call 32; refine (HF.out _ HBk.out).mono ?_; rintro e w5 ⟨rfl, rfl⟩))
      all_goals
       go_wp2_with fail; go_ret
       exact ⟨by rw [HT1.out]; rfl, HBk.out⟩
    . have hd0 : decide (0 <= z) = false := by simpa using hz0
      have HN2 : Hid (((List.range (kk + 1)).any fun i => decide (0 <= zaN (l.take i) (l.getD i zqa))) = false) := by show _ = _; rw [HSt.out]; exact hd0
      clear hd0; go_wp2_with fail; go_region_held3 (fun W => W.cell? ⟨b, o + kk, none⟩ = some (.string y)) (exact zad HBk.out HP0.out) (first | (go_at_call 32; refine (HF.out _ HBk.out).mono ?_; rintro e w5 ⟨rfl, rfl⟩))
      all_goals
       go_wp2_with fail; go_roundg (l.length - (kk + 1))
       case measure => omega
       case rel => exact ⟨kk + 1, by omega, by omega, by first | rfl | go_num, ⟨HN2.out⟩, ⟨HBk.out⟩⟩
  . have hltz : ¬ (kk : Int) < (l.length : Int) := by omega
    obtain rfl : kk = l.length := by omega
    have HF : Hid (T = false) := HT.out.trans HN.out; go_wp2_with fail; go_ret
    exact ⟨by rw [HF.out]; rfl, HB.out⟩
theorem zjQ (l : List ByteArray) (k : Nat) (h : k < l.length) : ((l.take (k + 1)).any fun b => decide (100 < b.size)) = (((l.take k).any fun b => decide (100 < b.size)) || decide (100 < l[k].size)) := by
 rw [zpZ h, List.any_append]; simp
theorem ziy (l : List ByteArray) : ((l.map (·.data.toList)).any fun b => decide (100 < b.length)) = l.any fun b => decide (100 < b.size) := by
 rw [List.any_map]; congr 1
theorem zn7 {x : zaw} (h : (x.f3.any fun b => decide (100 < b.size)) = true) : zbj (zam x) = false := by
 unfold zbj; cases zde (zam x) with
 | none => rfl
 | some p =>
  show (!((x.f3.map (·.data.toList)).any fun b => decide (100 < b.length)) && _) = false
  rw [ziy, h]; rfl
theorem zjT {x : zaw} {a k : Nat} (hw : zde (zam x) = some (a, k)) (h : (x.f3.any fun b => decide (100 < b.size)) = false) : zbj (zam x) = (x.f2.length == a && x.f3.length == k && (x.f1 != 8 || (x.f3.map (·.data.toList)).getD 0 [] != []) && decide (0 <= x.f4) && decide (x.f4 <= 2000) && (x.f1 == 9 || x.f4 == 0)) := by
 unfold zbj; rw [hw]; show (!((x.f3.map (·.data.toList)).any fun b => decide (100 < b.length)) && _) = _
 rw [ziy, h]; show (true && (_ && (x.f3.map (·.data.toList)).length == k && _ && _ && _ && _)) = _
 rw [zqe, Bool.true_and]; rfl
theorem zkb (x : zaw) (B2 : Option Addr) (c2 : Nat) (B3 : Option Addr) (c3 : Nat) (w : World) (h2 : Kd.C zqb w B2 x.f2.length x.f2) (h3 : Kd.C zqb w B3 x.f3.length x.f3) :
 Calls zp5 21 #[.agg #[.string x.f0, .int .i64 x.f1, .slice B2 x.f2.length c2, .slice B3 x.f3.length c3, .int .i64 x.f4]] w fun e w' => e = .returned (.bool (zbj (zam x))) /\ Below w.heap.size w w' := by
 have hl2 : x.f2.length <= 9223372036854775807 := h2.2.1; have hl3 : x.f3.length <= 9223372036854775807 := h3.2.1; have HLong := zpt (zn7 (x := x)); have HShort := zpt (fun a k => zjT (x := x) (a := a) (k := k))
 have HWant : Hid (zde (zam x) = if x.f1 = 1 \/ x.f1 = 2 \/ x.f1 = 3 \/ x.f1 = 4 \/ x.f1 = 9 then some (1, 0) else if x.f1 = 5 then some (min x.f2.length 6, 0) else if x.f1 = 6 then some (0, 1) else if x.f1 = 7 then some (1, 1) else if x.f1 = 8 then some (1, 2) else none) := zpt rfl
 have HNone : Hid (zde (zam x) = none -> zbj (zam x) = false) := zpt (fun h => by unfold zbj; rw [h])
 obtain ⟨T, hT⟩ : ∃ T, T = zbj (zam x) := ⟨_, rfl⟩; rw [<- hT] at HLong HShort HNone |-; generalize zde (zam x) = wr0 at HShort HWant HNone; clear hT; obtain ⟨f0, f1, f2, f3, f4⟩ := x; dsimp only at *; have hab := (zpw w.heap.size w).alloc (zpx _) (.cells #[.string f0, .int .i64 f1, .slice B2 f2.length c2, .slice B3 f3.length c3, .int .i64 f4] 24); have HK := zpt (zap w (.cells #[.string f0, .int .i64 f1, .slice B2 f2.length c2, .slice B3 f3.length c3, .int .i64 f4] 24)); have H3 := zpt (zqS h3 hab); have HB1 := zpt hab; clear h2 h3 hab; go_enter Tryz.func21, Tryz.ntmps21
 go_upto_block 0 with fail; generalize w.alloc (.cells #[.string f0, .int .i64 f1, .slice B2 f2.length c2, .slice B3 f3.length c3, .int .i64 f4] 24) = w1 at H3 HB1 HK |-; have k1 := bc1 HK.out; have k2 := bc2 HK.out; have k3 := bc3 HK.out; have k4 := bc4 HK.out; go_cut [3, 4] (fun s3 s4 wx => ∃ a k : Nat, s3 = .int .i64 a /\ s4 = .int .i64 k /\ Aside0 (wr0 = some (a, k)) /\ a <= 6 /\ k <= 2 /\ (f1 = 8 -> k = 2) /\ wx = w1)
 case first =>
  by_cases e1 : f1 = 1
  . have hW := HWant.out
    rw [if_pos (.inl e1)] at hW; have HW := zpt hW; clear hW; have d1 : (f1 == 1) = true := by simp [e1]
    have HE := zpt e1; clear e1; go_wp2_with fail; go_meet
    exact ⟨1, 0, rfl, rfl, ⟨HW.out⟩, by omega, by omega, by have := HE.out; omega, rfl⟩
  by_cases e2 : f1 = 2
  . have hW := HWant.out
    rw [if_pos (.inr (.inl e2))] at hW; have HW := zpt hW; clear hW; have d1 : (f1 == 1) = false := by simp [e1]
    have d2 : (f1 == 2) = true := by simp [e2]
    have HE := zpt e2; clear e1 e2; go_wp2_with fail; go_meet
    exact ⟨1, 0, rfl, rfl, ⟨HW.out⟩, by omega, by omega, by have := HE.out; omega, rfl⟩
  by_cases e3 : f1 = 3
  . have hW := HWant.out
    rw [if_pos (.inr (.inr (.inl e3)))] at hW; have HW := zpt hW; clear hW; have d1 : (f1 == 1) = false := by simp [e1]
    have d2 : (f1 == 2) = false := by simp [e2]
    have d3 : (f1 == 3) = true := by simp [e3]
    have HE := zpt e3; clear e1 e2 e3; go_wp2_with fail; go_meet
    exact ⟨1, 0, rfl, rfl, ⟨HW.out⟩, by omega, by omega, by have := HE.out; omega, rfl⟩
  by_cases e4 : f1 = 4
  . have hW := HWant.out
    rw [if_pos (.inr (.inr (.inr (.inl e4))))] at hW; have HW := zpt hW; clear hW; have d1 : (f1 == 1) = false := by simp [e1]
    have d2 : (f1 == 2) = false := by simp [e2]
    have d3 : (f1 == 3) = false := by simp [e3]
    have d4 : (f1 == 4) = true := by simp [e4]
    have HE := zpt e4; clear e1 e2 e3 e4; go_wp2_with fail; go_meet
    exact ⟨1, 0, rfl, rfl, ⟨HW.out⟩, by omega, by omega, by have := HE.out; omega, rfl⟩
  by_cases e9 : f1 = 9
  . have hW := HWant.out
    rw [if_pos (.inr (.inr (.inr (.inr e9))))] at hW; have HW := zpt hW; clear hW; have d1 : (f1 == 1) = false := by simp [e1]
    have d2 : (f1 == 2) = false := by simp [e2]
    have d3 : (f1 == 3) = false := by simp [e3]
    have d4 : (f1 == 4) = false := by simp [e4]
    have d9 : (f1 == 9) = true := by simp [e9]
    have HE := zpt e9; clear e1 e2 e3 e4 e9; go_wp2_with fail; go_meet
    exact ⟨1, 0, rfl, rfl, ⟨HW.out⟩, by omega, by omega, by have := HE.out; omega, rfl⟩
  by_cases e5 : f1 = 5
  . have hW := HWant.out
    rw [if_neg (by omega), if_pos e5] at hW
    have HW := zpt hW; clear hW; have d1 : (f1 == 1) = false := by simp [e1]
    have d2 : (f1 == 2) = false := by simp [e2]
    have d3 : (f1 == 3) = false := by simp [e3]
    have d4 : (f1 == 4) = false := by simp [e4]
    have d9 : (f1 == 9) = false := by simp [e9]
    have d5 : (f1 == 5) = true := by simp [e5]
    have HE := zpt e5; clear e1 e2 e3 e4 e9 e5; go_wp2_with fail; go_meet
    exact ⟨min f2.length 6, 0, by congr 1; omega, rfl, ⟨HW.out⟩, by omega, by omega, by have := HE.out; omega, rfl⟩
  by_cases e6 : f1 = 6
  . have hW := HWant.out
    rw [if_neg (by omega), if_neg e5, if_pos e6] at hW
    have HW := zpt hW; clear hW; have d1 : (f1 == 1) = false := by simp [e1]
    have d2 : (f1 == 2) = false := by simp [e2]
    have d3 : (f1 == 3) = false := by simp [e3]
    have d4 : (f1 == 4) = false := by simp [e4]
    have d9 : (f1 == 9) = false := by simp [e9]
    have d5 : (f1 == 5) = false := by simp [e5]
    have d6 : (f1 == 6) = true := by simp [e6]
    have HE := zpt e6; clear e1 e2 e3 e4 e9 e5 e6; go_wp2_with fail; go_meet
    exact ⟨0, 1, rfl, rfl, ⟨HW.out⟩, by omega, by omega, by have := HE.out; omega, rfl⟩
  by_cases e7 : f1 = 7
  . have hW := HWant.out
    rw [if_neg (by omega), if_neg e5, if_neg e6, if_pos e7] at hW
    have HW := zpt hW; clear hW; have d1 : (f1 == 1) = false := by simp [e1]
    have d2 : (f1 == 2) = false := by simp [e2]
    have d3 : (f1 == 3) = false := by simp [e3]
    have d4 : (f1 == 4) = false := by simp [e4]
    have d9 : (f1 == 9) = false := by simp [e9]
    have d5 : (f1 == 5) = false := by simp [e5]
    have d6 : (f1 == 6) = false := by simp [e6]
    have d7 : (f1 == 7) = true := by simp [e7]
    have HE := zpt e7; clear e1 e2 e3 e4 e9 e5 e6 e7; go_wp2_with fail; go_meet
    exact ⟨1, 1, rfl, rfl, ⟨HW.out⟩, by omega, by omega, by have := HE.out; omega, rfl⟩
  by_cases e8 : f1 = 8
  . have hW := HWant.out
    rw [if_neg (by omega), if_neg e5, if_neg e6, if_neg e7, if_pos e8] at hW
    have HW := zpt hW; clear hW; have d1 : (f1 == 1) = false := by simp [e1]
    have d2 : (f1 == 2) = false := by simp [e2]
    have d3 : (f1 == 3) = false := by simp [e3]
    have d4 : (f1 == 4) = false := by simp [e4]
    have d9 : (f1 == 9) = false := by simp [e9]
    have d5 : (f1 == 5) = false := by simp [e5]
    have d6 : (f1 == 6) = false := by simp [e6]
    have d7 : (f1 == 7) = false := by simp [e7]
    have d8 : (f1 == 8) = true := by simp [e8]
    have HE := zpt e8; clear e1 e2 e3 e4 e9 e5 e6 e7 e8; go_wp2_with fail; go_meet
    exact ⟨1, 2, rfl, rfl, ⟨HW.out⟩, by omega, by omega, by have := HE.out; omega, rfl⟩
  have hW := HWant.out; rw [if_neg (by omega), if_neg e5, if_neg e6, if_neg e7, if_neg e8] at hW
  have HF := zpt (HNone.out hW); clear hW; have d1 : (f1 == 1) = false := by simp [e1]
  have d2 : (f1 == 2) = false := by simp [e2]
  have d3 : (f1 == 3) = false := by simp [e3]
  have d4 : (f1 == 4) = false := by simp [e4]
  have d9 : (f1 == 9) = false := by simp [e9]
  have d5 : (f1 == 5) = false := by simp [e5]
  have d6 : (f1 == 6) = false := by simp [e6]
  have d7 : (f1 == 7) = false := by simp [e7]
  have d8 : (f1 == 8) = false := by simp [e8]
  clear e1 e2 e3 e4 e9 e5 e6 e7 e8; go_wp2_with fail; go_ret
  exact ⟨by rw [HF.out]; rfl, HB1.out⟩
 case rest =>
  obtain ⟨a, k, rfl, rfl, HW, ha6, hk2, h8, rfl⟩ := hcut; go_wp2_with fail; go_loopg [5] f3.length (fun gg s5 wr => ∃ kk : Nat, kk <= f3.length /\ f3.length - kk <= gg /\ s5 = .int .i64 kk /\ Aside0 (((f3.take kk).any fun b => decide (100 < b.size)) = false) /\ wr = wc)
  case atStart => exact ⟨0, zqk _, by omega, rfl, ⟨rfl⟩, rfl⟩
  case round =>
   obtain ⟨kk, hkk, hgk, rfl, HN, rfl⟩ := hrel; by_cases hlt : kk < f3.length
   . have hltz : (kk : Int) < (f3.length : Int) := by omega
     rcases zaX H3.out with h0 | ⟨b, o, rfl, _, hcell⟩
     . exfalso; rw [h0] at hlt; simp at hlt
     have p0 := hcell kk hlt; have hpi : f3.getD kk zqa = f3[kk] := by rw [zpB, zpA hlt]; rfl
     rw [hpi] at p0; have hst := zjQ f3 kk hlt; rw [HN.out, zqT] at hst; have hmem := zqQ hlt; have hlg : decide (100 < f3[kk].size) = true -> T = false := fun h => HLong.out (zqU.2 ⟨f3[kk], hmem, h⟩)
     generalize f3[kk] = y at p0 hst hlg; clear hpi hcell hmem; by_cases hy : 100 < y.size
     . have hyz : (100 : Int) < (y.size : Int) := by omega
       have HF := zpt (hlg (by simpa using hy))
       clear hst hlg; go_wp2_with fail; go_ret
       exact ⟨by rw [HF.out]; rfl, HB1.out⟩
     . have hyz : ¬ (100 : Int) < (y.size : Int) := by omega
       have HST := zpt hst; clear hst hlg; go_wp2_with fail; go_roundg (f3.length - (kk + 1))
       case measure => omega
       case rel => exact ⟨kk + 1, by omega, by omega, by go_num, ⟨by rw [HST.out]; simpa using hy⟩, rfl⟩
   . have hltz : ¬ (kk : Int) < (f3.length : Int) := by omega
     obtain rfl : kk = f3.length := by omega
     have hN := HN.out; rw [zqf] at hN; have hsh := HShort.out a k HW.out hN; have HSh := zpt hsh; clear hN hsh; by_cases q1 : f2.length = a
     . have d1 : ((f2.length : Int) == (a : Int)) = true := by simp [q1]
       by_cases q2 : f3.length = k
       . have d2 : ((f3.length : Int) == (k : Int)) = true := by simp [q2]
         by_cases q3 : f1 = 8
         . have d8 : (f1 == 8) = true := by simp [q3]
           have e8 : (f1 != 8) = false := by simp [q3]
           have hk2 := h8 q3; have hlen0 : (0 : Int) < (f3.length : Int) := by omega
           rcases zaX H3.out with h0 | ⟨b, o, rfl, _, hcell⟩
           . exfalso; rw [h0] at hlen0; simp at hlen0
           have p0 := hcell 0 (by omega)
           rw [Nat.add_zero] at p0; have hsp : (f3.map (·.data.toList)).getD 0 [] = (f3.getD 0 zqa).data.toList := by cases f3 <;> rfl
           rw [hsp] at HSh; generalize f3.getD 0 zqa = y at p0 HSh; clear hcell hsp; by_cases q6 : y.data.toList = []
           . have dy : y.toList = [] := by rw [zbh]; exact q6
             have HF : Hid (T = false) := by show _ = _; first | (exfalso; omega) | (rw [HSh.out]; simp [q1, q2, q3, q6])
             clear HSh HShort HLong HNone HWant HW h8 q1 q2 q3 q6 hk2; go_wp2_with fail; repeat (go_quiet (fail); try go_wp2)
             go_ret
             exact ⟨by rw [HF.out]; rfl, by first | exact HB1.out | exact zaq HB1.out _⟩
           . have dy : ¬ y.toList = [] := by rw [zbh]; exact q6
             have dz : (y.toList == []) = false := by simp [dy]
             have dw : (y.toList != []) = true := by simp [dy]
             by_cases q4 : (0 : Int) <= f4
             . skip
               by_cases q5 : f4 <= (2000 : Int)
               . skip
                 by_cases q9 : f1 = 9
                 . have d9 : (f1 == 9) = true := by simp [q9]
                   have HF : Hid (T = true) := by show _ = _; first | (exfalso; omega) | (rw [HSh.out]; simp [q1, q2, q3, q6, q4, q5, q9])
                   clear HSh HShort HLong HNone HWant HW h8 q1 q2 q3 q6 q9 hk2; go_wp2_with fail; repeat (go_quiet (fail); try go_wp2)
                   go_ret
                   exact ⟨by rw [HF.out]; rfl, by first | exact HB1.out | exact zaq HB1.out _⟩
                 . have d9 : (f1 == 9) = false := by simp [q9]
                   by_cases q0 : f4 = 0
                   . have d0 : (f4 == 0) = true := by simp [q0]
                     have HF : Hid (T = true) := by show _ = _; first | (exfalso; omega) | (rw [HSh.out]; simp [q1, q2, q3, q6, q4, q5, q9, q0])
                     clear HSh HShort HLong HNone HWant HW h8 q1 q2 q3 q6 q9 q0 hk2; go_wp2_with fail; repeat (go_quiet (fail); try go_wp2)
                     go_ret
                     exact ⟨by rw [HF.out]; rfl, by first | exact HB1.out | exact zaq HB1.out _⟩
                   . have d0 : (f4 == 0) = false := by simp [q0]
                     have HF : Hid (T = false) := by show _ = _; first | (exfalso; omega) | (rw [HSh.out]; simp [q1, q2, q3, q6, q4, q5, q9, q0])
                     clear HSh HShort HLong HNone HWant HW h8 q1 q2 q3 q6 q9 q0 hk2; go_wp2_with fail; repeat (go_quiet (fail); try go_wp2)
                     go_ret
                     exact ⟨by rw [HF.out]; rfl, by first | exact HB1.out | exact zaq HB1.out _⟩
               . skip
                 have HF : Hid (T = false) := by show _ = _; first | (exfalso; omega) | (rw [HSh.out]; simp [q1, q2, q3, q6, q4, q5])
                 clear HSh HShort HLong HNone HWant HW h8 q1 q2 q3 q6 hk2; go_wp2_with fail; repeat (go_quiet (fail); try go_wp2)
                 go_ret
                 exact ⟨by rw [HF.out]; rfl, by first | exact HB1.out | exact zaq HB1.out _⟩
             . skip
               have HF : Hid (T = false) := by show _ = _; first | (exfalso; omega) | (rw [HSh.out]; simp [q1, q2, q3, q6, q4])
               clear HSh HShort HLong HNone HWant HW h8 q1 q2 q3 q6 hk2; go_wp2_with fail; repeat (go_quiet (fail); try go_wp2)
               go_ret
               exact ⟨by rw [HF.out]; rfl, by first | exact HB1.out | exact zaq HB1.out _⟩
         . have d8 : (f1 == 8) = false := by simp [q3]
           have e8 : (f1 != 8) = true := by simp [q3]
           by_cases q4 : (0 : Int) <= f4
           . skip
             by_cases q5 : f4 <= (2000 : Int)
             . skip
               by_cases q9 : f1 = 9
               . have d9 : (f1 == 9) = true := by simp [q9]
                 have HF : Hid (T = true) := by show _ = _; first | (exfalso; omega) | (rw [HSh.out]; simp [q1, q2, q3, q4, q5, q9])
                 clear HSh HShort HLong HNone HWant HW h8 q1 q2 q3 q9; go_wp2_with fail; repeat (go_quiet (fail); try go_wp2)
                 go_ret
                 exact ⟨by rw [HF.out]; rfl, by first | exact HB1.out | exact zaq HB1.out _⟩
               . have d9 : (f1 == 9) = false := by simp [q9]
                 by_cases q0 : f4 = 0
                 . have d0 : (f4 == 0) = true := by simp [q0]
                   have HF : Hid (T = true) := by show _ = _; first | (exfalso; omega) | (rw [HSh.out]; simp [q1, q2, q3, q4, q5, q9, q0])
                   clear HSh HShort HLong HNone HWant HW h8 q1 q2 q3 q9 q0; go_wp2_with fail; repeat (go_quiet (fail); try go_wp2)
                   go_ret
                   exact ⟨by rw [HF.out]; rfl, by first | exact HB1.out | exact zaq HB1.out _⟩
                 . have d0 : (f4 == 0) = false := by simp [q0]
                   have HF : Hid (T = false) := by show _ = _; first | (exfalso; omega) | (rw [HSh.out]; simp [q1, q2, q3, q4, q5, q9, q0])
                   clear HSh HShort HLong HNone HWant HW h8 q1 q2 q3 q9 q0; go_wp2_with fail; repeat (go_quiet (fail); try go_wp2)
                   go_ret
                   exact ⟨by rw [HF.out]; rfl, by first | exact HB1.out | exact zaq HB1.out _⟩
             . skip
               have HF : Hid (T = false) := by show _ = _; first | (exfalso; omega) | (rw [HSh.out]; simp [q1, q2, q3, q4, q5])
               clear HSh HShort HLong HNone HWant HW h8 q1 q2 q3; go_wp2_with fail; repeat (go_quiet (fail); try go_wp2)
               go_ret
               exact ⟨by rw [HF.out]; rfl, by first | exact HB1.out | exact zaq HB1.out _⟩
           . skip
             have HF : Hid (T = false) := by show _ = _; first | (exfalso; omega) | (rw [HSh.out]; simp [q1, q2, q3, q4])
             clear HSh HShort HLong HNone HWant HW h8 q1 q2 q3; go_wp2_with fail; repeat (go_quiet (fail); try go_wp2)
             go_ret
             exact ⟨by rw [HF.out]; rfl, by first | exact HB1.out | exact zaq HB1.out _⟩
       . have d2 : ((f3.length : Int) == (k : Int)) = false := by simp; omega
         have HF : Hid (T = false) := by show _ = _; first | (exfalso; omega) | (rw [HSh.out]; simp [q1, q2])
         clear HSh HShort HLong HNone HWant HW h8 q1 q2; go_wp2_with fail; repeat (go_quiet (fail); try go_wp2)
         go_ret
         exact ⟨by rw [HF.out]; rfl, by first | exact HB1.out | exact zaq HB1.out _⟩
     . have d1 : ((f2.length : Int) == (a : Int)) = false := by simp; omega
       have HF : Hid (T = false) := by show _ = _; first | (exfalso; omega) | (rw [HSh.out]; simp [q1])
       clear HSh HShort HLong HNone HWant HW h8 q1; go_wp2_with fail; repeat (go_quiet (fail); try go_wp2)
       go_ret
       exact ⟨by rw [HF.out]; rfl, by first | exact HB1.out | exact zaq HB1.out _⟩
def sigB (c : Int) : Bool := (97 <= c && c <= 122) || (65 <= c && c <= 90) || (48 <= c && c <= 57) || c == 46 || c == 95 || c == 45
theorem zlv (c : Int) (w : World) :
 Calls zp5 160 #[.int .u8 c] w fun e w' => e = .returned (.bool (sigB c)) /\ w = w' := by
 go_enter Tryz.func160, Tryz.ntmps160
 go_wp2; all_goals
  go_ret
  exact ⟨zi3 (by unfold sigB; rw [Bool.eq_iff_iff]; simp <;> omega), rfl⟩
theorem zha (s : ByteArray) (k : Nat) (h : k < s.size) : s.data.toList.drop k = s[k] :: s.data.toList.drop (k + 1) := by
 rw [zp1 (by rw [<- zqc]; exact h)]
 rfl
theorem zhV (c : UInt8) (m : Nat) (k : UInt8) (hk : k.toNat = m) : c = k ↔ c.toNat = m := by rw [<- UInt8.toNat_inj, hk]
end X
namespace X
open Go.Shelf YtdpgdnpddndeoaaGreatDoorW.PrintWords YtdpgdnpddndeoaaGreatDoorW.PrintMore YtdpgdnpddndeoaaGreatDoorW.PrintLast
def gluH (cur : zaa) : List zaa -> List zaa
 | [] => [cur]
 | p :: q => (cur ++ p) :: q
theorem zib (l : List zaa) (h : l ≠ []) : gluH [] l = l := by
 cases l with
 | nil => exact absurd rfl h
 | cons p q => rfl
theorem zhg (r : zaa) : zaz 47 (47 :: r) = [] :: zaz 47 r := by simp [zaz]
theorem zh7 {c : UInt8} (h : c ≠ 47) (r : zaa) : zaz 47 (c :: r) = gluH [c] (zaz 47 r) := by
 conv => lhs; rw [zaz, if_neg h]
 cases hc : zaz 47 r with
 | nil => rfl
 | cons p q => rfl
theorem zn9 (a b : zaa) (l : List zaa) : gluH a (gluH b l) = gluH (a ++ b) l := by
 cases l with
 | nil => rfl
 | cons p q => simp [gluH]
theorem zmU (s : zaa) : (zaz 47 s).length <= s.length + 1 /\ ∀ p ∈ zaz 47 s, p.length <= s.length := by
 induction s with
 | nil => simp [zaz]
 | cons c r ih =>
  obtain ⟨i1, i2⟩ := ih; by_cases h : c = 47
  . subst h
    rw [zhg]; refine ⟨by simp at i1 |-; omega, fun p hp => ?_⟩
    rcases List.mem_cons.1 hp with rfl | hp
    . simp
    . have := i2 p hp
      simp
      omega
  . rw [zh7 h]
    cases hc : zaz 47 r with
    | nil => exact absurd hc (zd3 _ _)
    | cons q t =>
     rw [hc] at i1 i2; refine ⟨by simp [gluH] at i1 |-; omega, fun p hp => ?_⟩
     unfold gluH at hp; rcases List.mem_cons.1 hp with rfl | hp
     . have := i2 q List.mem_cons_self
       simp
       omega
     . have := i2 p (zqM _ hp)
       simp
       omega
theorem zkf (s : ByteArray) (hs : s.size <= 100000) (w : World) :
 Calls zp5 159 #[.string s] w fun e w' => ∃ v, e = .returned v /\ RS w' w.heap.size v ((zaz 47 s.data.toList).map mk) /\ Below w.heap.size w w' := by
 generalize hT : zaz 47 s.data.toList = T; have HT := zpt hT; clear hT; have HR0 : Hid (RS (w.alloc (.cells #[.string ⟨#[]⟩] 9)) w.heap.size (.slice (some ⟨w.heap.size, 0, none⟩) 1 1) (([[]] : List zaa).map mk)) := zeN w w.heap.size ⟨#[]⟩ (zpx _); go_enter Tryz.func159, Tryz.ntmps159
 go_wp2_with fail; go_loopg [3, 4] s.size (fun gg s3 s4 wr => ∃ (kk : Nat) (done : List zaa) (cur : zaa), kk <= s.size /\ s.size - kk <= gg /\ s4 = .int .i64 kk /\ done.length <= kk /\ cur.length <= kk /\ Aside0 (done ++ gluH cur (zaz 47 (s.data.toList.drop kk)) = T) /\
  Aside0 (RS wr w.heap.size s3 ((done ++ [cur]).map mk)) /\ Aside0 (Below w.heap.size w wr))
 case atStart => exact ⟨0, [], [], zqk _, by omega, rfl, by simp, by simp, ⟨by rw [List.drop_zero, zib _ (zd3 _ _)]; exact HT.out⟩, ⟨HR0.out⟩, ⟨(zpw _ _).alloc (zpx _) _⟩⟩
 case round =>
  obtain ⟨kk, done, cur, hkk, hgk, rfl, hdl, hcl, HK, HO, HB⟩ := hrel; by_cases hlt : kk < s.size
  . have hltz : (kk : Int) < (s.size : Int) := by omega
    have HD : Hid (s.data.toList.drop kk = s[kk] :: s.data.toList.drop (kk + 1)) := zha s kk hlt; have hx : s.extract kk (kk + 1) = mk [s[kk]] := by rw [zeg, show kk + 1 - kk = 1 by omega, zha s kk hlt]; rfl
    have HX := zpt hx; clear hx; by_cases c47 : s[kk].toNat = 47
    . have e47 : ((s[kk].toNat : Int) == 47) = true := by simp; omega
      have HN : Hid ((done ++ [cur]) ++ gluH [] (zaz 47 (s.data.toList.drop (kk + 1))) = T) := by
       show _ = _
       rw [<- HK.out, HD.out, show s[kk] = 47 from (zhV s[kk] 47 47 rfl).2 c47, zhg, zib _ (zd3 _ _)]
       simp [gluH]
      have hal : ((done ++ [cur]).map mk).length <= 200000 := by simp; omega
      have HWB := zpt HB.out.size; have HM : Hid ((done ++ [cur]).map mk ++ [⟨#[]⟩] = (done ++ [cur] ++ [[]]).map mk) := by show _ = _; rw [List.map_append (l₁ := done ++ [cur])]; rfl
      clear c47; go_wp2_with (first | ((with_reducible refine zaG (b := .append) (xs := #[.tmp 16, .tmp 17]) rfl ?_); at_builtin; refine Kd.R_append zqb (w0 := w) w.heap.size rfl (.tmp 16) (.tmp 17) 22 9 (.string ⟨#[]⟩) 16 rfl Tryz.underlying22 zbi rfl (by decide) (by decide) u3 ((done ++ [cur]).map mk) ⟨#[]⟩ [.string ⟨#[]⟩] (fun _ => True) (fun k_ => True /\ some k_ ≠ u3.ownBlock) rfl rfl rfl (fun _ hk => hk) (fun _ _ => trivial) HO.out HB.out HWB.out ?aL ?_; (case aL => omega); intro v1 w4 ho hb hg hat; have HO4 : Hid (RS w4 w.heap.size v1 ((done ++ [cur] ++ [[]]).map mk)) := (by rw [<- HM.out]; exact ho); have HB4 := zpt hb; clear ho hb hg hat))
      go_roundg (s.size - (kk + 1))
      case measure => omega
      case rel => exact ⟨kk + 1, done ++ [cur], [], by omega, by omega, by first | rfl | go_num, by simp; omega, by simp, ⟨HN.out⟩, ⟨HO4.out⟩, ⟨HB4.out⟩⟩
    . have e47 : ((s[kk].toNat : Int) == 47) = false := by simp; omega
      have HN : Hid (done ++ gluH (cur ++ [s[kk]]) (zaz 47 (s.data.toList.drop (kk + 1))) = T) := by
       show _ = _
       rw [<- HK.out, HD.out, zh7 (fun h => c47 ((zhV s[kk] 47 47 rfl).1 h)), zn9]
      have hlen : ((done ++ [cur]).map mk).length = done.length + 1 := by simp
      obtain ⟨g, cp, hv, hbg, _, _⟩ := Kd.R_form HO.out (by rw [hlen]; omega)
      rw [hlen] at hv; subst hv; obtain ⟨hc0, hf0⟩ := Kd.R_celln (⟨#[]⟩ : ByteArray) HO.out (done.length : Int) (by omega) (by omega)
      have hP := Kd.R_putn HO.out (done.length : Int) (mk (cur ++ [s[kk]])); rw [Int.toNat_natCast] at hc0 hf0 hP; rw [show rdOf (⟨#[]⟩ : ByteArray) ((done ++ [cur]).map mk) (done.length : Int) = mk cur by unfold rdOf; simp [zpB]] at hc0
      rw [show ((done ++ [cur]).map mk).set done.length (mk (cur ++ [s[kk]])) = (done ++ [cur ++ [s[kk]]]).map mk by simp] at hP
      have hms : (mk cur).size = cur.length := zbb cur; have HMS := zpt hms; have hov : ¬ 9223372036854775807 < (mk cur).size + (min (kk + 1) s.size - kk) := by rw [hms]; omega
      have hov2 : ¬ 9223372036854775807 < (mk cur).size + (s.extract kk (kk + 1)).size := by rw [HX.out, hms, zbb]; simp; omega
      have w1 : IntKind.i64.wrap ((kk : Int) + 1) = (kk : Int) + 1 := IntWalk.i64_in _ (by omega)
      have w2 : IntKind.i64.wrap (((done.length : Int) + 1) - 1) = (done.length : Int) := by rw [IntWalk.i64_in _ (by omega)]; omega
      have HP := zpt hP; have HBG : Hid (w.heap.size <= g) := hbg; clear c47 hP hlen hms hbg; go_wp2_with fail; go_region
      have HP2 : Hid (RS (wr.setCell ⟨g, done.length, none⟩ (.string (mk cur ++ s.extract kk (kk + 1)))).drew w.heap.size (.slice (some ⟨g, 0, none⟩) (done.length + 1) cp) ((done ++ [cur ++ [s[kk]]]).map mk)) := by
       have h := HP.out; rw [<- zgG, <- HX.out] at h; exact Kd.R_drew h
      have HB2 : Hid (Below w.heap.size w (wr.setCell ⟨g, done.length, none⟩ (.string (mk cur ++ s.extract kk (kk + 1)))).drew) := (HB.out.setCell (p := ⟨g, done.length, none⟩) HBG.out _).drew; clear w1 w2 hc0 hf0 HP; go_wp2; go_roundg (s.size - (kk + 1))
      case measure => omega
      case rel => exact ⟨kk + 1, done, cur ++ [s[kk]], by omega, by omega, by first | rfl | go_num, by omega, by simp; omega, ⟨HN.out⟩, ⟨HP2.out⟩, ⟨HB2.out⟩⟩
  . have hltz : ¬ (kk : Int) < (s.size : Int) := by omega
    have HV : Hid (done ++ [cur] = T) := by
     show _ = _
     rw [<- HK.out, zqw (by rw [<- zqc]; omega)]
     simp [zaz, gluH]
    go_wp2; go_ret
    exact ⟨_, rfl, by rw [<- HV.out]; exact HO.out, HB.out⟩
theorem zl1 (c : UInt8) : sigB (c.toNat : Int) = sign c := by
 have key : ∀ n : Nat, n < 256 -> sigB (n : Int) = sign (UInt8.ofNat n) := by decide +kernel
 have := key c.toNat (UInt8.toNat_lt c); rwa [show UInt8.ofNat c.toNat = c by simp] at this
theorem zdk (s : ByteArray) (l : zaa) : (s.toList == l) = (s.data.toList == l) := by rw [zbh]
theorem znD (s : ByteArray) (w : World) :
 Calls zp5 131 #[.string s] w fun e w' => e = .returned (.bool (may s.data.toList)) /\ Below w.heap.size w w' := by
 have hM : may s.data.toList = (!(s.data.toList == [114, 117, 108, 101] || s.data.toList == [105, 110] || s.data.toList == [111, 117, 116] || s.data.toList == [97, 102, 116, 101, 114]) && decide (s.data.toList.length <= 40) && !(zaz 47 s.data.toList).any bad) := rfl
 have f1 := zdk s [114, 117, 108, 101]; have f2 := zdk s [105, 110]; have f3 := zdk s [111, 117, 116]; have f4 := zdk s [97, 102, 116, 101, 114]; by_cases h1 : s.size < 1
 . have d1 : decide ((s.size : Int) < 1) = true := by simp; omega
   have hV : may s.data.toList = false := by
    have : s.data.toList = [] := List.eq_nil_of_length_eq_zero (by rw [<- zqc]; omega)
    rw [this]; decide
   rw [hV]; clear h1 hM hV f1 f2 f3 f4; go_enter Tryz.func131, Tryz.ntmps131
   go_wp2_with fail; go_ret
   exact ⟨rfl, zpw _ _⟩
 have d1 : decide ((s.size : Int) < 1) = false := by simp; omega
 by_cases h2 : 40 < s.size
 . have d2 : decide ((40 : Int) < (s.size : Int)) = true := by simp; omega
   have hV : may s.data.toList = false := by rw [hM, show decide (s.data.toList.length <= 40) = false by rw [<- zqc]; simp; omega]; simp
   rw [hV]; clear h1 h2 hM hV f1 f2 f3 f4; go_enter Tryz.func131, Tryz.ntmps131
   go_wp2_with fail; go_ret
   exact ⟨rfl, zpw _ _⟩
 have d2 : decide ((40 : Int) < (s.size : Int)) = false := by simp; omega
 by_cases hw : (s.data.toList == [114, 117, 108, 101] || s.data.toList == [105, 110] || s.data.toList == [111, 117, 116] || s.data.toList == [97, 102, 116, 101, 114]) = true
 . have hV : may s.data.toList = false := by rw [hM, hw]; simp
   rw [hV]; clear hM hV; cases g1 : (s.data.toList == [114, 117, 108, 101]) with
   | true =>
    rw [g1] at f1; clear hw g1 f2 f3 f4 h1 h2; go_enter Tryz.func131, Tryz.ntmps131
    go_wp2_with fail; go_ret
    exact ⟨rfl, zpw _ _⟩
   | false =>
   rw [g1] at f1 hw; cases g2 : (s.data.toList == [105, 110]) with
   | true =>
    rw [g2] at f2; clear hw g1 g2 f3 f4 h1 h2; go_enter Tryz.func131, Tryz.ntmps131
    go_wp2_with fail; go_ret
    exact ⟨rfl, zpw _ _⟩
   | false =>
   rw [g2] at f2 hw; cases g3 : (s.data.toList == [111, 117, 116]) with
   | true =>
    rw [g3] at f3; clear hw g1 g2 g3 f4 h1 h2; go_enter Tryz.func131, Tryz.ntmps131
    go_wp2_with fail; go_ret
    exact ⟨rfl, zpw _ _⟩
   | false =>
   rw [g3] at f3 hw; have g4 : (s.data.toList == [97, 102, 116, 101, 114]) = true := by simpa using hw
   rw [g4] at f4; clear hw g1 g2 g3 g4 h1 h2; go_enter Tryz.func131, Tryz.ntmps131
   go_wp2_with fail; go_ret
   exact ⟨rfl, zpw _ _⟩
 have hw' : (s.data.toList == [114, 117, 108, 101] || s.data.toList == [105, 110] || s.data.toList == [111, 117, 116] || s.data.toList == [97, 102, 116, 101, 114]) = false := by simpa using hw
 have HV : Hid (may s.data.toList = !(zaz 47 s.data.toList).any bad) := by show _ = _; rw [hM, hw', show decide (s.data.toList.length <= 40) = true by rw [<- zqc]; simp; omega]; simp
 simp only [Bool.or_eq_false_iff] at hw'; rw [hw'.1.1.1] at f1; rw [hw'.1.1.2] at f2; rw [hw'.1.2] at f3; rw [hw'.2] at f4; have hP := zkf s (by omega) w
 have hcs := zmU s.data.toList; rw [<- zqc] at hcs; generalize zaz 47 s.data.toList = L at HV hP hcs; have HSz : Hid (∀ p ∈ L, p.length <= s.size) := hcs.2; have hLl : L.length <= 41 := by have := hcs.1; omega
 clear hM hw hw' hcs h1; go_enter Tryz.func131, Tryz.ntmps131
 go_wp2_with fail; refine hP.mono ?_; rintro e w1 ⟨v, rfl, hR, hb1⟩; obtain ⟨A, c, rfl, _, hC⟩ := zqq hR; rw [zqe] at hC; have HC := zpt hC; have HB1 := zpt hb1; have hmm : (L.map mk).length = L.length := zqe mk; rw [hmm]; clear hP hR hC hb1 f1 f2 f3 f4 d1 d2 hmm; go_wp2_with fail; go_loopg [4, 5] L.length (fun gg s4 _ wr => ∃ ii : Nat, ii <= L.length /\ L.length - ii <= gg /\ s4 = .int .i64 ii /\ wr = w1 /\ Aside0 ((L.take ii).any bad = false))
 case atStart => exact ⟨0, zqk _, by omega, rfl, rfl, ⟨rfl⟩⟩
 case round =>
  obtain ⟨ii, hii, hgi, rfl, hwr, HA⟩ := hrel; obtain ⟨wo, hwo⟩ : ∃ v, v = wr := ⟨_, rfl⟩; subst hwo; subst hwr; by_cases hlt : ii < L.length
  . have hltz : (ii : Int) < (L.length : Int) := by omega
    rcases zaX (show Kd.C zqb wo A (L.map mk).length (L.map mk) by rw [zqe]; exact HC.out) with h0 | ⟨b, o, rfl, _, hcell⟩
    . rw [List.map_eq_nil_iff] at h0; rw [h0] at hlt; simp at hlt
    have hx := hcell ii (by simpa using hlt)
    rw [show (L.map mk).getD ii zqa = mk L[ii] by simp [zpB, zpA hlt]] at hx
    have HPl : Hid (L[ii].length <= s.size) := HSz.out _ (zqQ hlt); have HT : Hid (L.take (ii + 1) = L.take ii ++ [L[ii]]) := by show _ = _; rw [zpZ hlt]
    obtain ⟨y, hy⟩ : ∃ y, y = mk L[ii] := ⟨_, rfl⟩; rw [<- hy] at hx; have hyd : y.data.toList = L[ii] := by rw [hy, zbd]
    have e1 := zdk y []; have e2 := zdk y [46]; have e3 := zdk y [46, 46]; rw [hyd] at e1 e2 e3; have HYd := zpt hyd; have hys : y.size <= 100000 := by rw [zqc, hyd]; have := HPl.out; omega
    clear hcell hy hyd; have hbd : bad L[ii] = (L[ii] == [] || L[ii] == [46] || L[ii] == [46, 46] || L[ii].any (fun c => !sign c)) := rfl
    have HBd := zpt hbd; clear hbd; cases q1 : (L[ii] == []) with
    | true =>
     have HF : Hid (may s.data.toList = false) := by show _ = _; rw [HV.out, zqU.2 ⟨L[ii], zqQ hlt, by rw [HBd.out, q1]; rfl⟩]; rfl
     rw [q1] at e1; clear q1 e2 e3 hys; go_wp2_with fail; go_ret
     rw [HF.out]; exact ⟨rfl, HB1.out⟩
    | false =>
    rw [q1] at e1; cases q2 : (L[ii] == [46]) with
    | true =>
     have HF : Hid (may s.data.toList = false) := by show _ = _; rw [HV.out, zqU.2 ⟨L[ii], zqQ hlt, by rw [HBd.out, q2]; simp⟩]; rfl
     rw [q2] at e2; clear q1 q2 e3 hys; go_wp2_with fail; go_ret
     rw [HF.out]; exact ⟨rfl, HB1.out⟩
    | false =>
    rw [q2] at e2; cases q3 : (L[ii] == [46, 46]) with
    | true =>
     have HF : Hid (may s.data.toList = false) := by show _ = _; rw [HV.out, zqU.2 ⟨L[ii], zqQ hlt, by rw [HBd.out, q3]; simp⟩]; rfl
     rw [q3] at e3; clear q1 q2 q3 hys; go_wp2_with fail; go_ret
     rw [HF.out]; exact ⟨rfl, HB1.out⟩
    | false =>
    rw [q3] at e3; have HBe : Hid (bad L[ii] = y.data.toList.any (fun c => !sign c)) := by show _ = _; rw [HBd.out, q1, q2, q3, HYd.out]; rfl
    clear q1 q2 q3 HBd; go_wp2_with fail; clear e1 e2 e3; go_loopg [5] y.size (fun gj s5 wr => ∃ jj : Nat, jj <= y.size /\ y.size - jj <= gj /\ s5 = .int .i64 jj /\ wr = wo /\ Aside0 ((y.data.toList.take jj).any (fun c => !sign c) = false))
    case atStart => exact ⟨0, zqk _, by omega, rfl, rfl, ⟨rfl⟩⟩
    case round =>
     obtain ⟨jj, hjj, hgj, rfl, hwr, HJ⟩ := hrel; subst hwr; by_cases hlj : jj < y.size
     . have hljz : (jj : Int) < (y.size : Int) := by omega
       have hsd := fun W => zlv (y[jj].toNat : Int) W
       rw [zl1] at hsd; have hjl : jj < y.data.toList.length := by rw [<- zqc]; exact hlj
       have HJt : Hid (y.data.toList.take (jj + 1) = y.data.toList.take jj ++ [y[jj]]) := by show _ = _; rw [zpZ hjl]; rfl
       cases hsg : sign y[jj] with
       | false =>
        rw [hsg] at hsd; have HF : Hid (may s.data.toList = false) := by show _ = _; rw [HV.out, zqU.2 ⟨L[ii], zqQ hlt, by rw [HBe.out]; exact zqU.2 ⟨y[jj], zqQ (h := hjl), by rw [hsg]; rfl⟩⟩]; rfl
        clear hsg; go_wp2_with (go_at_call 160; refine (hsd _).mono ?_; rintro e w' ⟨rfl, rfl⟩)
        go_ret
        rw [HF.out]; exact ⟨rfl, HB1.out⟩
       | true =>
        rw [hsg] at hsd; have HN : Hid ((y.data.toList.take (jj + 1)).any (fun c => !sign c) = false) := by show _ = _; rw [HJt.out, List.any_append, HJ.out]; simp [hsg]
        clear hsg; go_wp2_with (go_at_call 160; refine (hsd _).mono ?_; rintro e w' ⟨rfl, rfl⟩)
        go_roundg (y.size - (jj + 1))
        case measure => omega
        case rel => exact ⟨jj + 1, by omega, by omega, by first | rfl | go_num, rfl, ⟨HN.out⟩⟩
     . have hljz : ¬ (jj : Int) < (y.size : Int) := by omega
       have HN : Hid ((L.take (ii + 1)).any bad = false) := by
        show _ = _
        have := HJ.out; rw [zqP (by rw [<- zqc]; omega)] at this
        rw [HT.out, List.any_append, HA.out, zqT]; simp only [List.any_cons, List.any_nil, Bool.or_false]; rw [HBe.out, this]
       go_wp2; go_roundg (L.length - (ii + 1))
       case measure => omega
       case rel => exact ⟨ii + 1, by omega, by omega, by first | rfl | go_num, rfl, ⟨HN.out⟩⟩
  . have hltz : ¬ (ii : Int) < (L.length : Int) := by omega
    have HF : Hid (may s.data.toList = true) := by show _ = _; have := HA.out; rw [zqP (by omega)] at this; rw [HV.out, this]; rfl
    go_wp2; go_ret
    rw [HF.out]; exact ⟨rfl, HB1.out⟩
end X
namespace X
def valM (v : Value) : Option (DataW Value × List MemPlace) := some (.held v, [])
def zep (D : DataW Value) (f : zaa -> Option Value) : Prop := (∀ k, Maps.has D (.string k) = (f k).isSome) /\ ∀ k z, D.atKey (.string k) z = match f k with | some v => .held v | none => z
def MapIs (P : Program) (kt : TypeId) (w : World) (b n : Nat) (f : zaa -> Option Value) : Prop := ∃ D, w.ownsMap P kt valM b n D /\ zep D f
def setF (f : zaa -> Option Value) (k : zaa) (v : Value) : zaa -> Option Value := fun x => if x = k then some v else f x
section
variable {P : Program} {kt et t : TypeId} {w : World} {b n : Nat} {f : zaa -> Option Value}
theorem MapIs.lt (h : MapIs P kt w b n f) : b < w.heap.size := by obtain ⟨D, ho, _⟩ := h; exact ho.lt
theorem MapIs.made (w : World) : MapIs P kt (w.alloc (.map #[] 0)) w.heap.size 0 (fun _ => none) := ⟨.map [], World.ownsMap_made w P kt valM, fun _ => rfl, fun _ _ => rfl⟩
theorem MapIs.mono (h : MapIs P kt w b n f) {n' : Nat} (hn : n <= n') : MapIs P kt w b n' f := by obtain ⟨D, ho, hf⟩ := h; exact ⟨D, ho.mono hn, hf⟩
theorem MapIs.kept {w' : World} (h : MapIs P kt w b n f) (hb : w'.heap[b]? = w.heap[b]?) : MapIs P kt w' b n f := by
 obtain ⟨D, ⟨es, clock, h1, r⟩, hf⟩ := h; exact ⟨D, ⟨es, clock, hb.trans h1, r⟩, hf⟩
theorem MapIs.below {w' : World} (h : MapIs P kt w b n f) (hb : Below w.heap.size w w') : MapIs P kt w' b n f := h.kept (hb.block b h.lt)
theorem MapIs.grown {w' : World} {row : Option Nat} (h : MapIs P kt w b n f) (hg : w.grownBy w' row) (hne : some b ≠ row) : MapIs P kt w' b n f := h.kept (hg.block b h.lt hne)
theorem MapIs.look2 (h : MapIs P kt w b n f) (hk : P.underlying kt = some .string) (ht : P.underlying t = some (.map kt et)) {z : Value} (hz : (zeroValue et).run P w = .ok z w) (k : ByteArray) (hs : k.size <= maxLen) :
 (Instr.lookup t (.map (some b)) (.string k) true).run P w = .ok (.tuple #[(f k.data.toList).getD z, .bool (f k.data.toList).isSome]) w := by
 obtain ⟨D, ho, h1, h2⟩ := h; obtain ⟨v, ps, hrun, hv⟩ := ho.look_ok (string_keyed hk) ht hz (R := valM) (zd := .held z) rfl (Go.WideMaps.keyOf_string_mk hk hs); rw [h1] at hrun; rw [h2] at hv; have : v = (f k.data.toList).getD z := by
  unfold valM at hv; have h0 := (Prod.mk.inj (zp6 hv)).1; cases hf : f k.data.toList with
  | none => rw [hf] at h0; simp only [DataW.held.injEq] at h0; exact h0
  | some u => rw [hf] at h0; simp only [DataW.held.injEq] at h0; exact h0
 rw [hrun, this]
theorem MapIs.look (h : MapIs P kt w b n f) (hk : P.underlying kt = some .string) (ht : P.underlying t = some (.map kt et)) {z : Value} (hz : (zeroValue et).run P w = .ok z w) (k : ByteArray) (hs : k.size <= maxLen) :
 (Instr.lookup t (.map (some b)) (.string k) false).run P w = .ok ((f k.data.toList).getD z) w := by
 obtain ⟨D, ho, h1, h2⟩ := h; obtain ⟨v, ps, hrun, hv⟩ := ho.lookup (string_keyed hk) ht hz (R := valM) (zd := .held z) rfl (Go.WideMaps.keyOf_string_mk hk hs); rw [h2] at hv; have : v = (f k.data.toList).getD z := by
  unfold valM at hv; have h0 := (Prod.mk.inj (zp6 hv)).1; cases hf : f k.data.toList with
  | none => rw [hf] at h0; simp only [DataW.held.injEq] at h0; exact h0
  | some u => rw [hf] at h0; simp only [DataW.held.injEq] at h0; exact h0
 rw [hrun, this]
theorem zoB {D : DataW Value} (hD : IsMap D) (h : zep D f) (k : zaa) (v : Value) : zep (D.put (.string k) (.held v)) (setF f k v) := by
 obtain ⟨h1, h2⟩ := h; have hkl : WideAt.IsKeyLit (.string k) := by constructor
 refine ⟨fun x => ?_, fun x z => ?_⟩
 . unfold setF
   by_cases e : x = k
   . subst e
     rw [if_pos rfl, has_put_same hD hkl]; rfl
   . rw [if_neg e, has_put_other (by intro h; exact e (by injection h)), h1]
 . unfold setF
   by_cases e : x = k
   . subst e
     rw [if_pos rfl, atKey_put_same hD hkl]
   . rw [if_neg e, atKey_put_other (by intro h; exact e (by injection h)), h2]
theorem MapIs.store (h : MapIs P kt w b n f) (hk : P.underlying kt = some .string) (ht : P.underlying t = some (.map kt et)) (hn : n < maxLen) (k : ByteArray) (hs : k.size <= maxLen) (v : Value) :
 ∃ w', (Instr.mapUpdate t (.map (some b)) (.string k) v).run P w = .ok () w' /\ MapIs P kt w' b (n + 1) (setF f k.data.toList v) /\ w.grownBy w' (some b) := by
 obtain ⟨D, ho, hf⟩ := h; obtain ⟨w', hrun, ho', ht'⟩ := ho.store (string_keyed hk) ht hn (Go.WideMaps.keyOf_string_mk hk hs) (R := valM) (val := v) rfl; exact ⟨w', hrun, ⟨_, ho', zoB ho.isMap hf _ _⟩, ht'.grown⟩
def RangesIs (P : Program) (kt : TypeId) (w : World) (b r n : Nat) (f : zaa -> Option Value) (left : zaa -> Bool) (cnt : Nat) : Prop :=
 ∃ D lf, w.ranges P kt valM b r n D lf cnt /\ zep D f /\ ∀ k, lf (.string k) = left k
theorem RangesIs.map {r cnt : Nat} {left : zaa -> Bool} (h : RangesIs P kt w b r n f left cnt) : MapIs P kt w b n f := by
 obtain ⟨D, lf, h1, h2, _⟩ := h; exact ⟨D, h1.owns, h2⟩
theorem RangesIs.kept {w' : World} {row : Option Nat} {r cnt : Nat} {left : zaa -> Bool} (h : RangesIs P kt w b r n f left cnt) (hg : w.grownBy w' row) (hb' : some b ≠ row) (hr' : some r ≠ row) : RangesIs P kt w' b r n f left cnt := by
 obtain ⟨D, lf, h1, h2, h3⟩ := h; exact ⟨D, lf, h1.kept hg hb' hr', h2, h3⟩
theorem RangesIs.lt {r cnt : Nat} {left : zaa -> Bool} (h : RangesIs P kt w b r n f left cnt) : r < w.heap.size /\ r ≠ b := by
 obtain ⟨D, lf, h1, h2, h3⟩ := h; exact ⟨h1.lt, h1.ne⟩
theorem MapIs.range (h : MapIs P kt w b n f) (hk : P.underlying kt = some .string) (ht : P.underlying t = some (.map kt et)) :
 ∃ w' cnt, (Instr.range t (.map (some b))).run P w = .ok (.pointer (some ⟨w.heap.size, 0, none⟩)) w' /\ RangesIs P kt w' b w.heap.size n f (fun k => (f k).isSome) cnt /\ cnt <= n /\ w.grownBy w' none /\ w'.heap.size = w.heap.size + 1 := by
 obtain ⟨D, ho, hf⟩ := h; obtain ⟨w', hrun, hr, hg, hsz⟩ := ho.range (string_keyed hk) ht; exact ⟨w', _, hrun, ⟨D, _, hr, hf, hf.1⟩, ho.size_le, hg, hsz⟩
theorem RangesIs.next {r cnt : Nat} {left : zaa -> Bool} (h : RangesIs P kt w b r n f left cnt) (hk : P.underlying kt = some .string) (ty : TypeId) :
 (cnt = 0 /\ (∀ k, left k = false) /\ (Instr.next (.pointer (some ⟨r, 0, none⟩)) false ty).run P w = .ok (.tuple #[.bool false]) w) \/
 ∃ (k : ByteArray) (v : Value) (w' : World) (cnt' : Nat), k.size <= maxLen /\ left k.data.toList = true /\ f k.data.toList = some v /\ (Instr.next (.pointer (some ⟨r, 0, none⟩)) false ty).run P w = .ok (.tuple #[.bool true, .string k, v]) w' /\
  RangesIs P kt w' b r n f (fun x => left x && !(x == k.data.toList)) cnt' /\ cnt' < cnt /\ w.grownBy w' (some r) /\ w'.heap.size = w.heap.size /\ (Instr.entry (.pointer (some ⟨r, 0, none⟩))).run P w' = .ok (.tuple #[.string k, v]) w' := by
 obtain ⟨D, lf, h1, h2, h3⟩ := h; rcases h1.next (string_keyed hk) ty with ⟨h0, hl, hrun⟩ | ⟨key, v, kl, y, w', cnt', hkey, hlk, hv, hat, hrun, hrg, hlt, hgr, hsz, hen⟩
 . exact .inl ⟨h0, fun k => by rw [<- h3]; exact hl _, hrun⟩
 . have hinv : ∃ s : ByteArray, key = .string s /\ kl = .string s.data.toList /\ s.size <= maxLen := by
    cases key <;> simp [keyOf, hk, mapKey] at hkey
    obtain ⟨hs, rfl⟩ := hkey; exact ⟨_, rfl, rfl, hs⟩
   obtain ⟨s, rfl, rfl, hs⟩ := hinv; obtain rfl : y = (.held v, []) := (zp6 hv).symm; refine .inr ⟨s, v, w', cnt', hs, by rw [<- h3]; exact hlk, ?_, hrun, ⟨D, _, hrg, h2, fun k => ?_⟩, hlt, hgr, hsz, hen⟩
   . have := hat (.lit (.bool true))
     rw [h2.2] at this; cases hf : f s.data.toList with
     | none => rw [hf] at this; cases this
     | some u => rw [hf] at this; simp only [DataW.held.injEq] at this; rw [this]
   . show (lf (.string k) && !Lit.sameKey (.string k) (.string s.data.toList)) = _
     rw [h3]; rfl
end
end X
namespace X
open YtdpgdnpddndeoaaGreatDoorW.PrintWords YtdpgdnpddndeoaaGreatDoorW.PrintMore YtdpgdnpddndeoaaGreatDoorW.PrintLast
def zV : SVal := ⟨false, ⟨#[]⟩⟩
def updS (e : zaa -> SVal) (k : zaa) (v : SVal) : zaa -> SVal := fun x => if x = k then v else e x
def EnvIs (w : World) (b n : Nat) (e : zaa -> SVal) : Prop := ∃ f, MapIs zp5 9 w b n f /\ ∀ k, (f k).getD (aggV zV) = aggV (e k)
theorem EnvIs.made (w : World) : EnvIs (w.alloc (.map #[] 0)) w.heap.size 0 (fun _ => zV) := ⟨_, MapIs.made w, fun _ => rfl⟩
theorem EnvIs.lt {w : World} {b n : Nat} {e : zaa -> SVal} (h : EnvIs w b n e) : b < w.heap.size := by obtain ⟨f, h, _⟩ := h; exact h.lt
theorem EnvIs.below {w w' : World} {b n : Nat} {e : zaa -> SVal} (h : EnvIs w b n e) (hb : Below w.heap.size w w') : EnvIs w' b n e := by obtain ⟨f, h, h2⟩ := h; exact ⟨f, h.below hb, h2⟩
theorem EnvIs.grown {w w' : World} {b n : Nat} {e : zaa -> SVal} {row : Option Nat} (h : EnvIs w b n e) (hg : w.grownBy w' row) (hne : some b ≠ row) : EnvIs w' b n e := by obtain ⟨f, h, h2⟩ := h; exact ⟨f, h.grown hg hne, h2⟩
theorem EnvIs.look {w : World} {b n : Nat} {e : zaa -> SVal} (h : EnvIs w b n e) (k : ByteArray) (hs : k.size <= maxLen) :
 (Instr.lookup 91 (.map (some b)) (.string k) false).run zp5 w = .ok (aggV (e k.data.toList)) w := by
 obtain ⟨f, h, h2⟩ := h; have := h.look Tryz.underlying9 Tryz.underlying91 (Tryz.zeroValue34 w) k hs; rw [this]; exact congrArg (fun v => Result.ok v w) (h2 k.data.toList)
theorem EnvIs.store {w : World} {b n : Nat} {e : zaa -> SVal} (h : EnvIs w b n e) (hn : n < maxLen) (k : ByteArray) (hs : k.size <= maxLen) (v : SVal) :
 ∃ w', (Instr.mapUpdate 91 (.map (some b)) (.string k) (aggV v)).run zp5 w = .ok () w' /\ EnvIs w' b (n + 1) (updS e k.data.toList v) /\ w.grownBy w' (some b) := by
 obtain ⟨f, h, h2⟩ := h; obtain ⟨w', hrun, h', hg⟩ := h.store Tryz.underlying9 Tryz.underlying91 hn k hs (aggV v); refine ⟨w', hrun, ⟨_, h', fun x => ?_⟩, hg⟩
 unfold setF updS; split
 . rfl
 . exact h2 x
def envK (ins : List zaa) (vs : List SVal) (k : Nat) : zaa -> SVal := ((ins.zip vs).take k).foldl (fun e p => updS e p.1 p.2) (fun _ => zV)
def zcZ (e : zaa -> SVal) (s : zbg) : zaa -> SVal := updS e s.out (valS (doP s.cmd (s.args.map fun a => valO (e a))))
def runK (r : zb5) (vs : List SVal) (k : Nat) : zaa -> SVal := (r.steps.take k).foldl zcZ (envK r.ins vs r.ins.length)
def runS (r : zb5) (vs : List SVal) : List SVal := if vs.length ≠ r.ins.length then [] else r.outs.map (runK r vs r.steps.length)
theorem zme (ins : List zaa) (vs : List SVal) (k : Nat) (h1 : k < ins.length) (h2 : k < vs.length) : envK ins vs (k + 1) = updS (envK ins vs k) ins[k] vs[k] := by
 unfold envK; have hz : k < (ins.zip vs).length := by rw [List.length_zip]; omega
 rw [zpZ hz, List.foldl_append]; simp [List.getElem_zip]
theorem zkU (r : zb5) (vs : List SVal) (k : Nat) (h : k < r.steps.length) : runK r vs (k + 1) = zcZ (runK r vs k) r.steps[k] := by
 unfold runK; rw [zpZ h, List.foldl_append]; rfl
theorem znk {s : Cmd} {vs : List VB} {b : zaa} (h : doP s vs = some b) : b.length <= 2000 := by
 unfold doP zfq at h; split at h
 . cases h
 . split at h
   . cases h
   . rename_i hn
     cases h
     omega
theorem zkp (s : Cmd) (vs : List VB) : (valS (doP s vs)).f1.size <= 4194304 := by
 cases h : doP s vs with
 | none => exact zqk _
 | some b =>
  have := znk h; show (mk b).size <= _
  rw [zbb]; omega
def SmallE (e : zaa -> SVal) : Prop := ∀ k, (e k).f1.size <= 4194304
theorem SmallE.upd {e : zaa -> SVal} (h : SmallE e) (k : zaa) {v : SVal} (hv : v.f1.size <= 4194304) : SmallE (updS e k v) := by
 intro x; unfold updS; split
 . exact hv
 . exact h x
theorem zlh (ins : List zaa) (vs : List SVal) (hv : ∀ v ∈ vs, v.f1.size <= 4194304) (k : Nat) : SmallE (envK ins vs k) := by
 unfold envK; have key : ∀ (l : List (zaa × SVal)) (e : zaa -> SVal), SmallE e -> (∀ p ∈ l, p.2.f1.size <= 4194304) -> SmallE (l.foldl (fun e p => updS e p.1 p.2) e) := by
  intro l; induction l with
  | nil => exact fun e h _ => h
  | cons p l ih => exact fun e h hp => ih _ (h.upd _ (hp p List.mem_cons_self)) (fun q hq => hp q (zqM _ hq))
 refine key _ _ (fun _ => zqk _) (fun p hp => hv p.2 ?_)
 exact (List.of_mem_zip (List.mem_of_mem_take hp)).2
theorem zjm (r : zb5) (vs : List SVal) (hv : ∀ v ∈ vs, v.f1.size <= 4194304) (k : Nat) : SmallE (runK r vs k) := by
 unfold runK; have key : ∀ (l : List zbg) (e : zaa -> SVal), SmallE e -> SmallE (l.foldl zcZ e) := by
  intro l; induction l with
  | nil => exact fun e h => h
  | cons s l ih => exact fun e h => ih _ (h.upd _ (zkp _ _))
 exact key _ _ (zlh _ _ hv _)
end X
end Go.Proofs.YtdpgdnpddndeoaaGreatDoor
