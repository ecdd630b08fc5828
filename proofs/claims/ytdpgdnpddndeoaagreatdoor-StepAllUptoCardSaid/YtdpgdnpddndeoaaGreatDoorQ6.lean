/-
  What the cards lean on (part Q6): contracts of functions, by hand, and plain laws; what is printed by the kit's print for this seat is among them. What is not reached is left out.
-/
import Derived.Deep.RegionLaw
import Derived.Deep.RegionHeld3
import Derived.Lib.Replace
import Derived.Shelf.Strings.Prefix
import Derived.Shelf.Strings.Search3
import Derived.Shelf.Strings.Replace
import Derived.Shelf.Slices.Turned
import Derived.Shelf.Slices.CompactS
import Derived.Ground.NamesProg
import Derived.Test.YtdpgdnpddndeoaaGreatDoorProg
import Derived.Test.YtdpgdnpddndeoaaGreatDoorQ5
import Derived.Test.YtdpgdnpddndeoaaGreatDoorQ0
import Derived.Test.YtdpgdnpddndeoaaGreatDoorQ4
set_option maxHeartbeats 8000000
set_option maxRecDepth 100000
set_option linter.unusedSimpArgs false
set_option linter.unusedVariables false
open Go.RowKit.Below renaming refl -> zpr
open Nat renaming le_refl -> zps, zero_le -> zqf, ne_of_lt -> zqA
open List renaming getElem?_eq_getElem -> zpv, getD_eq_getElem?_getD -> zpw, length_map -> zp9, length_take -> zpD, length_append -> zpF, take_length -> zqa, length_cons -> zqc, append_assoc -> zqG, mem_cons -> zqH, getElem_mem -> zqJ, drop_succ_cons -> zqC, setIfInBounds_toArray -> zqL, set_cons_zero -> zqM, set_cons_succ -> zqN
open Int renaming toNat_natCast -> zqF
open Bool renaming eq_iff_iff -> zqI
open Or renaming inl -> zqK
open Go.Proofs.Tryz renaming prog -> zp0
open Go.Proofs.YtdpgdnpddndeoaaGreatDoorW.PrintWords.Kd renaming C_below -> zqO, string -> zp6, R_reads -> zql, R_below -> zqp, R_lower -> zqD, R_set -> zqE
namespace Go.Proofs
namespace YtdpgdnpddndeoaaGreatDoor.X
open Go.RowKit Go.Maps YtdpgdnpddndeoaaGreatDoorW.PrintWords YtdpgdnpddndeoaaGreatDoorW.PrintMore YtdpgdnpddndeoaaGreatDoorW.PrintLast
theorem zbP (a b : zaa) : mk a ++ mk b = mk (a ++ b) := by
 apply zbR
 rw [za9, ByteArray.data_append, Array.toList_append, za9, za9]
abbrev zbE (l : List ByteArray) : List zaa := l.map fun x => x.data.toList
theorem zgq {l : List ByteArray} {sep : zaa} (hl : l.length * 16 <= 140737488355328) (hsum : (Lib.join (zbE l) sep).length <= 70368744177664) : strings_Join.f l (mk sep) = some (mk (Lib.join (zbE l) sep)) := by
 unfold strings_Join.f; rw [za9, if_pos ⟨by omega, Nat.le_trans hsum (by omega)⟩]
def zbV (word : zaa) (l : List ByteArray) : zaa := if l = [] then [] else [32, 32] ++ word ++ [32] ++ Lib.join (zbE l) [44, 32] ++ [59, 10]
theorem zfP (word : zaa) (A : Option Addr) (c : Nat) (l : List ByteArray) (w : World) (hG : GOK w) (hr : Kd.C zp6 w A l.length l) (hc : l.length <= c) (hw : word.length <= 100) (hl : l.length * 16 <= 140737488355328) (hsum : (Lib.join (zbE l) [44, 32]).length <= 70368744177664) :
 Calls zp0 194 #[.string (mk word), .slice A l.length c] w fun e w' => e = .returned (.string (mk (zbV word l))) /\ Below w.heap.size w w' := by
 by_cases h0 : l = []
 . have hd : ((l.length : Int) == 0) = true := by rw [h0]; rfl
   have HE : Hid (zbV word l = []) := by show _ = _; unfold zbV; rw [if_pos h0]
   clear h0 hr; go_enter Tryz.func194, Tryz.ntmps194
   go_wp2; go_ret
   exact ⟨by rw [HE.out]; rfl, zpr _ _⟩
 . have hpos : 0 < l.length := List.length_pos_iff.2 h0
   have hd : ((l.length : Int) == 0) = false := by simp; exact h0
   have HE : Hid (zbV word l = [32, 32] ++ word ++ [32] ++ Lib.join (zbE l) [44, 32] ++ [59, 10]) := by show _ = _; unfold zbV; rw [if_neg h0]
   have hJ := strings_Join.calls A c l (mk [44, 32]) (mk (Lib.join (zbE l) [44, 32])) w hG hr hc (zgq hl hsum); generalize Lib.join (zbE l) [44, 32] = J at HE hJ hsum; have n1 : ¬ 9223372036854775807 < 2 + (mk word).size := by rw [zaX]; omega
   have n2 : ¬ 9223372036854775807 < 2 + (mk word).size + 1 := by rw [zaX]; omega
   have n3 : ¬ 9223372036854775807 < 2 + (mk word).size + 1 + (mk J).size := by rw [zaX, zaX]; omega
   have n4 : ¬ 9223372036854775807 < 2 + (mk word).size + 1 + (mk J).size + 2 := by rw [zaX, zaX]; omega
   clear h0 hr; go_enter Tryz.func194, Tryz.ntmps194
   go_wp2_with (go_at_call 83; refine hJ.mono ?_; rintro e w2 ⟨rfl, hb2⟩)
   go_ret
   refine ⟨?_, hb2⟩; rw [HE.out, <- zbP, <- zbP, <- zbP, <- zbP]; rfl
def zbS (x : ByteArray) : ByteArray := mk (zdZ x.data.toList)
def zhr (x : ByteArray) : Prop := x.size <= 1099511627776 /\ ∀ c ∈ x.data.toList, c = 10 \/ c = 9 \/ ¬ (c.toNat < 32 \/ 126 < c.toNat)
def zcI (s : zar) : List ByteArray := [s.f0, ⟨#[61]⟩, zbi s.f1] ++ s.f3.map zbS ++ s.f2
def zcT (s : zar) : zaa := Lib.join (zbE (zcI s)) [32] ++ [59]
theorem zgI (s : zar) (A2 : Option Addr) (c2 : Nat) (A3 : Option Addr) (c3 : Nat) (w : World) (hG : GOK w) (h2 : Kd.C zp6 w A2 s.f2.length s.f2) (h3 : Kd.C zp6 w A3 s.f3.length s.f3)
 (h9 : s.f1 ≠ 9) (hpr : ∀ x ∈ s.f3, zhr x) (hl2 : s.f2.length <= 1000) (hl3 : s.f3.length <= 1000) (hsum : (Lib.join (zbE (zcI s)) [32]).length <= 70368744177664) :
 Calls zp0 119 #[.agg #[.string s.f0, .int .i64 s.f1, .slice A2 s.f2.length c2, .slice A3 s.f3.length c3, .int .i64 s.f4]] w fun e w' => e = .returned (.string (mk (zcT s))) /\ Below w.heap.size w w' := by
 have hB0 := (zpr w.heap.size w).alloc (zps _) (.cells #[.string s.f0, .int .i64 s.f1, .slice A2 s.f2.length c2, .slice A3 s.f3.length c3, .int .i64 s.f4] 24); have hb0 := zak w (.cells #[.string s.f0, .int .i64 s.f1, .slice A2 s.f2.length c2, .slice A3 s.f3.length c3, .int .i64 s.f4] 24); have HB0 := zpo hB0; have HBlk := zpo hb0; have HG := zpo hG; have HPr := zpo hpr; have HSum := zpo hsum; have H2 := zpo h2; have H3 := zpo h3; have e9 : (s.f1 == 9) = false := by simpa using h9
 clear hB0 hb0 hG hpr hsum h9; go_enter Tryz.func119, Tryz.ntmps119
 go_wp2; generalize w.alloc (.cells #[.string s.f0, .int .i64 s.f1, .slice A2 s.f2.length c2, .slice A3 s.f3.length c3, .int .i64 s.f4] 24) = w1 at HB0 HBlk |-; have k0 := bc0 HBlk.out; have k1 := bc1 HBlk.out; have hOp := zhv s.f1 w1.drew; have HB0d := zpo (zaW HB0.out); have HBd := zpo (zaI HBlk.out); go_region_law (first | (go_simp; go_at_call 116; refine hOp.mono ?_; rintro e w2 ⟨rfl, hb2⟩; have HB2 := zpo (zac HB0d.out HB0d.out.size hb2); have HBlk2 := zpo (zah HBd.out hb2); have k02 := bc0 HBlk2.out; clear hb2))
 all_goals
  have k13 : ∀ ob : Obj, (w2.alloc ob).cell? ⟨w.heap.size, 1, none⟩ = some (.int .i64 s.f1) := fun ob => (zaf (zaQ HBlk2.out ob) 1).trans rfl
  have k33 : ∀ ob : Obj, (w2.alloc ob).cell? ⟨w.heap.size, 3, none⟩ = some (.slice A3 s.f3.length c3) := fun ob => (zaf (zaQ HBlk2.out ob) 3).trans rfl
  have HB3 := zpo (HB2.out.alloc HB2.out.size (.cells #[.string s.f0, .string ⟨#[61]⟩, .string (zbi s.f1)] 9)); have HBlk3 := zpo (zaQ HBlk2.out (.cells #[.string s.f0, .string ⟨#[61]⟩, .string (zbi s.f1)] 9)); have HL3 : Hid (RS (w2.alloc (.cells #[.string s.f0, .string ⟨#[61]⟩, .string (zbi s.f1)] 9)) w.heap.size (.slice (some ⟨w2.heap.size, 0, none⟩) 3 3) [s.f0, ⟨#[61]⟩, zbi s.f1]) := zdR w2 w.heap.size [s.f0, ⟨#[61]⟩, zbi s.f1] HB2.out.size (by simp)
  go_wp2_with fail; generalize w2.alloc (.cells #[.string s.f0, .string ⟨#[61]⟩, .string (zbi s.f1)] 9) = w3 at HB3 HBlk3 HL3 |-; generalize (some (⟨w2.heap.size, 0, none⟩ : Addr)) = AL at HL3 |-; clear k02 HBlk2 HB2 k13 k33; go_loopg [3, 5, 24] s.f3.length (fun gg s3 _ s24 wr => ∃ (kk : Nat) (A : Option Addr) (c : Nat), kk <= s.f3.length /\ s.f3.length - kk <= gg /\ s24 = .int .i64 kk /\ s3 = .slice A (3 + kk) c /\ 3 + kk <= c /\
   Aside0 (RS wr w.heap.size (.slice A (3 + kk) c) ([s.f0, ⟨#[61]⟩, zbi s.f1] ++ (s.f3.take kk).map zbS)) /\ Aside0 (Below w.heap.size w wr) /\
   Aside0 (wr.heap[w.heap.size]? = some (.cells #[.string s.f0, .int .i64 s.f1, .slice A2 s.f2.length c2, .slice A3 s.f3.length c3, .int .i64 s.f4] 24 (0, 0))))
  case atStart => exact ⟨0, AL, 3, zqf _, by omega, rfl, rfl, by omega, ⟨by simpa using HL3.out⟩, ⟨HB3.out⟩, ⟨HBlk3.out⟩⟩
  case round =>
   obtain ⟨kk, A, c, hkk, hgk, rfl, rfl, hcc, HO, HB, HBk⟩ := hrel; by_cases hlt : kk < s.f3.length
   . have hltz : (kk : Int) < (s.f3.length : Int) := by omega
     rcases zaJ (zqO H3.out HB.out) with h0 | ⟨b, o, rfl, _, hcell⟩
     . rw [h0] at hlt; simp at hlt
     . have hx : wr.cell? ⟨b, o + kk, none⟩ = some (.string (s.f3.getD kk ByteArray.empty)) := hcell kk hlt
       obtain ⟨y, hy⟩ : ∃ y, y = s.f3.getD kk ByteArray.empty := ⟨_, rfl⟩; rw [<- hy] at hx; have hym : y = s.f3[kk] := by rw [hy]; simp [zpw, zpv hlt]
       have hyP := HPr.out y (by rw [hym]; exact zqJ _)
       have hq := fun W => zi9 y hyP.1 hyP.2 W
       have HN : Hid ((s.f3.take kk).map zbS ++ [zbS y] = (s.f3.take (kk + 1)).map zbS) := by
        show _ = _
        rw [List.take_succ_eq_append_getElem hlt, List.map_append, hym]; rfl
       have HNl : Hid (([s.f0, (⟨#[61]⟩ : ByteArray), zbi s.f1] ++ (s.f3.take kk).map zbS).length = 3 + kk) := by
        show _ = _
        simp only [zpF, zp9, zpD, zqc, List.length_nil]; omega
       clear hcell hy hym hyP; go_wp2_with (first | (go_at_call 113; refine (hq _).mono ?_; rintro e w4 ⟨rfl, hb4⟩; have HB4 := zpo (zac HB.out HB.out.size hb4); have HO4 := zpo (zqp HO.out hb4); have HBk4 := zpo (zah HBk.out hb4); have HS4 : Hid (w.heap.size <= w4.heap.size) := HB4.out.size; clear hb4) | ((with_reducible refine zaD (b := .append) (xs := #[.tmp 28, .tmp 31]) rfl ?_); at_builtin; refine Kd.R_append zp6 (w0 := w) w.heap.size rfl (.tmp 28) (.tmp 31) 22 9 (.string ⟨#[]⟩) 16 rfl Tryz.underlying22 zbf rfl (by decide) (by decide) (.slice A (3 + kk) c) ([s.f0, ⟨#[61]⟩, zbi s.f1] ++ (s.f3.take kk).map zbS) (zbS y) [.string (zbS y)] (fun _ => True) (fun k_ => True /\ some k_ ≠ (Value.slice A (3 + kk) c).ownBlock) rfl rfl rfl (fun _ hk => hk) (fun _ _ => trivial) HO4.out HB4.out HS4.out ?aL ?_; (case aL => rw [HNl.out]; omega); intro v1 w5 ho hb hg hat; obtain ⟨AN, cN, rfl, hcN, _⟩ := zql ho; have HO5 := zpo ho; have HB5 := zpo hb; have HBk5 := zpo (zaY HBk4.out hg (Kd.R_ne HO4.out HBk4.out (by decide))); have HcN := zpo hcN; clear ho hb hg hat hcN))
       have hLn : ([s.f0, (⟨#[61]⟩ : ByteArray), zbi s.f1] ++ (s.f3.take kk).map zbS ++ [zbS y]).length = 3 + (kk + 1) := by rw [zpF, HNl.out]; rfl
       have hO5 := HO5.out; have hcN := HcN.out; rw [hLn] at hO5 hcN; rw [zqG, HN.out] at hO5; go_roundg (s.f3.length - (kk + 1))
       case measure => omega
       case rel =>
        exact ⟨kk + 1, AN, cN, by omega, by omega, by go_num, by first | rfl | (congr 1; omega) | (simp; omega), hcN, ⟨hO5⟩, ⟨HB5.out⟩, ⟨HBk5.out⟩⟩
   . have hltz : ¬ (kk : Int) < (s.f3.length : Int) := by omega
     obtain rfl : kk = s.f3.length := by omega
     have hLL : [s.f0, (⟨#[61]⟩ : ByteArray), zbi s.f1] ++ (s.f3.take s.f3.length).map zbS ++ s.f2 = zcI s := by rw [zqa]; rfl
     have hLn : ([s.f0, (⟨#[61]⟩ : ByteArray), zbi s.f1] ++ (s.f3.take s.f3.length).map zbS).length = 3 + s.f3.length := by
      simp only [zpF, zp9, zpD, zqc, List.length_nil, Nat.min_self]
     have HLL := zpo hLL; have HLn := zpo hLn; have HWB := zpo HB.out.size; have H2r := zpo (zqO H2.out HB.out); have k2 := bc2 HBk.out; have hlS : (zcI s).length = 3 + s.f3.length + s.f2.length := by rw [<- hLL, zpF, hLn]
     have HlS : Hid ((zcI s).length * 16 <= 140737488355328) := by show _ <= _; rw [hlS]; omega
     clear hLL hLn hlS; go_wp2_with (first | ((with_reducible refine zaD (b := .append) (xs := #[.tmp 34, .tmp 36]) rfl ?_); at_builtin; refine Kd.R_append_rows zp6 (Rr := Kd.string.K wr) (w0 := w) w.heap.size rfl (.tmp 34) (.tmp 36) 22 9 (.string ⟨#[]⟩) 16 rfl Tryz.underlying22 zbf rfl (by decide) (by decide) (.slice A (3 + s.f3.length) c) ([s.f0, ⟨#[61]⟩, zbi s.f1] ++ (s.f3.take s.f3.length).map zbS) s.f2 A2 s.f2.length c2 (fun _ => True) (fun k_ => True /\ some k_ ≠ (Value.slice A (3 + s.f3.length) c).ownBlock) rfl rfl HO.out H2r.out (fun _ _ h => h) (fun _ hk => hk) (fun _ _ => trivial) HB.out HWB.out ?aL ?_; (case aL => rw [HLn.out]; omega); intro v1 w5 ho hb hg hat; rw [HLL.out] at ho; obtain ⟨AN, cN, rfl, hcN, hrN⟩ := zql ho; have HB5 := zpo hb; have HcN := zpo hcN; have HrN := zpo hrN; have hJ := strings_Join.calls AN cN (zcI s) (mk [32]) (mk (Lib.join (zbE (zcI s)) [32])) w5 (HG.out.below hb) hrN hcN (zgq HlS.out HSum.out); have hn1 : ¬ 9223372036854775807 < (mk (Lib.join (zbE (zcI s)) [32])).size + 1 := (by rw [zaX]; have := HSum.out; omega); clear ho hb hg hat hcN hrN) | (go_at_call 83; refine hJ.mono ?_; rintro e w6 ⟨rfl, hb6⟩; have HB6 := zpo (zac HB5.out HB5.out.size hb6); clear hb6))
     go_ret
     refine ⟨?_, HB6.out⟩; unfold zcT; rw [<- zbP]; rfl
structure Sl where
 a : Option Addr
 n : Nat
 c : Nat
def Sl.v (s : Sl) : Value := .slice s.a s.n s.c
def kSl : Kd Sl := Kd.scalar Sl.v (fun _ => rfl)
abbrev Sh := ByteArray × Int × Sl × Sl × Int
def kSh : Kd Sh := Kd.pair zp6 (Kd.pair (Kd.int .i64) (Kd.pair kSl (Kd.pair kSl (Kd.int .i64))))
theorem sh_K {w : World} (x : Sh) {cs : List Value} : kSh.K w x cs ↔ cs = [.string x.1, .int .i64 x.2.1, x.2.2.1.v, x.2.2.2.1.v, .int .i64 x.2.2.2.2] := by
 constructor
 . rintro ⟨_, _, rfl, rfl, _, _, rfl, rfl, _, _, rfl, rfl, _, _, rfl, rfl, rfl⟩
   rfl
 . rintro rfl
   exact ⟨[_], [_, _, _, _], rfl, rfl, [_], [_, _, _], rfl, rfl, [_], [_, _], rfl, rfl, [_], [_], rfl, rfl, rfl⟩
theorem sh_M {w : World} {base : Nat} {ok : Nat -> Prop} (x : Sh) {cs : List Value} : kSh.M w base ok x cs ↔ cs = [.string x.1, .int .i64 x.2.1, x.2.2.1.v, x.2.2.2.1.v, .int .i64 x.2.2.2.2] := by
 constructor
 . rintro ⟨_, _, rfl, rfl, _, _, rfl, rfl, _, _, rfl, rfl, _, _, rfl, rfl, rfl⟩
   rfl
 . rintro rfl
   exact ⟨[_], [_, _, _, _], rfl, rfl, [_], [_, _, _], rfl, rfl, [_], [_, _], rfl, rfl, [_], [_], rfl, rfl, rfl⟩
theorem zjG (ad : Addr) (c : Nat) (l : List Sh) (w : World) (hr : Kd.C kSh w (some ad) l.length l) (hl : l.length <= 1000) :
 Calls zp0 199 #[.slice (some ad) l.length c] w fun e w' => ∃ v, e = .returned v /\ Kd.R kSh 24 w' w.heap.size (fun _ => True) v l /\ Below w.heap.size w w' := by
 have HO : Hid (Kd.R kSh 24 (w.alloc (.cells #[] 24)) w.heap.size (fun _ => True) (.slice (some ⟨w.heap.size, 0, none⟩) 0 0) []) :=
  ⟨fun _ _ => trivial, OwnRow.lit (ps := []) (inner := []) w w.heap.size (Reps.none _ _) (zps _) (by simp)⟩
 have HC := zpo (zqO hr ((zpr w.heap.size w).alloc (zps _) (.cells #[] 24))); have HB := zpo ((zpr w.heap.size w).alloc (zps _) (.cells #[] 24)); have hnil : ∀ W, (binOp .eql 43 (.slice (some ad) l.length c) (.slice none 0 0)).run zp0 W = .ok (.bool false) W := fun _ => rfl
 clear hr; go_enter Tryz.func199, Tryz.ntmps199
 go_wp2_with (first | ((with_reducible refine zaD (b := .append) (xs := #[.tmp 5, .tmp 6]) rfl ?_); at_builtin; refine Kd.R_append_rows kSh (Rr := kSh.K (w.alloc (.cells #[] 24))) (w0 := w) w.heap.size rfl (.tmp 5) (.tmp 6) 43 24 (.agg #[.string ⟨#[]⟩, .int .i64 0, .slice none 0 0, .slice none 0 0, .int .i64 0]) 80 rfl Tryz.underlying43 zfS rfl (by decide) (by decide) (.slice (some ⟨w.heap.size, 0, none⟩) 0 0) [] l (some ad) l.length c (fun _ => True) (fun k_ => True /\ some k_ ≠ (Value.slice (some (⟨w.heap.size, 0, none⟩ : Addr)) 0 0).ownBlock) rfl rfl HO.out HC.out (fun x cs h => (sh_M x).2 ((sh_K x).1 h)) (fun _ hk => hk) (fun _ _ => trivial) HB.out HB.out.size ?aL ?_; (case aL => simp; omega); intro v1 w4 ho hb hg hat; have HO4 := zpo ho; have HB4 := zpo hb; clear ho hb hg hat))
 go_ret
 exact ⟨v1, rfl, HO4.out, HB4.out⟩
theorem zpl {α1 α2 α3 α4 α5 α6 α7 α8 : Type} {F G : α1 -> α2 -> α3 -> α4 -> α5 -> α6 -> α7 -> α8 -> Prop} {R : Prop}
 (main : (∀ a b c d e f g h, F a b c d e f g h -> G a b c d e f g h) -> R) (tail : ∀ a b c d e f g h, F a b c d e f g h -> G a b c d e f g h) : R := main tail
theorem zmR {α1 α2 α3 α4 α5 : Type} {F G : α1 -> α2 -> α3 -> α4 -> α5 -> Prop} {R : Prop}
 (main : (∀ a b c d e, F a b c d e -> G a b c d e) -> R) (tail : ∀ a b c d e, F a b c d e -> G a b c d e) : R := main tail
theorem zb9 {w2 wc W : World} (hb : Below w2.heap.size w2 wc) (h : W = wc \/ ∃ ob, W = wc.alloc ob) : Below w2.heap.size w2 W := by
 rcases h with rfl | ⟨ob, rfl⟩
 . exact hb
 . exact hb.alloc hb.size _
theorem nxt {wc W w4 : World} (hb : Below W.heap.size W w4) (h : W = wc \/ ∃ ob, W = wc.alloc ob) : Below wc.heap.size wc w4 :=
 zac (zb9 (zpr _ _) h) (zb9 (zpr _ _) h).size hb
section
variable {P : Program} {ops : Array Oper} {o : Oper} {a : Act} {Kc : Act -> World -> Prop} {Q : Exit -> Act -> World -> Prop} {W : World}
theorem zdt (hw : Region.wanted o (yielded ops a.tmps) = true) (x : Operand)
 (ho : o.op = .call { callee := .builtin .append, args := #[.const (.slice none 0 0), x], argTypes := #[22, 22] })
 (ht : P.underlying 22 = some (.slice 9)) (hinfo : (P.info? 9).map (fun i => (i.zero, i.size, i.bytes)) = some (some (.string ⟨#[]⟩), 1, 16))
 (l : List ByteArray) (A : Option Addr) (c : Nat) (hx : a.eval x = .slice A l.length c) (HR : Kd.C zp6 W A l.length l) (hl : l.length * 16 <= 140737488355328)
 (h : ∀ X d w1, RS w1 W.heap.size (.slice X l.length d) l -> Below W.heap.size W w1 -> Kc (a.put o.dst (.slice X l.length d)) w1) :
 if Region.wanted o (yielded ops a.tmps) = true then Oper.wp P o a W Kc Q else Kc (a.put o.dst undef) W := by
 refine Kd.R_append_rows_step zp6 (w0 := W) W.heap.size hw (.const (.slice none 0 0)) x 22 9 (.string ⟨#[]⟩) 16 ho ht hinfo rfl (by decide) (by decide) (.slice none 0 0) [] l A l.length c (fun _ => True) (fun k_ => True /\ some k_ ≠ (Value.slice none 0 0).ownBlock) rfl hx (Kd.R_nil _ _ _ _ _) HR (fun _ _ h => h) (fun _ hk => hk) (fun _ _ => trivial) (zpr _ _) (zps _) (by simpa using hl) ?_
 intro v1 w1 ho1 hb1 _ _; obtain ⟨X, d, rfl, _, _⟩ := zql ho1; exact h X d w1 ho1 hb1
end
def zhd (w2 : World) (f0 : ByteArray) (l1 l2 l3 : List ByteArray) (X1 : Option Addr) (d1 : Nat) (X2 : Option Addr) (d2 : Nat) (X3 : Option Addr) (d3 : Nat) (G : Nat) (W : World) : Prop :=
 Below w2.heap.size w2 W /\ W.heap[G]? = some (.cells #[.string f0, .slice X1 l1.length d1, .slice X2 l2.length d2, .slice X3 l3.length d3, .slice none 0 0] 45 (0, 0)) /\ w2.heap.size <= G /\ RS W w2.heap.size (.slice X1 l1.length d1) l1 /\ RS W w2.heap.size (.slice X2 l2.length d2) l2 /\ RS W w2.heap.size (.slice X3 l3.length d3) l3
def zon (r : zaj) (w : World) (e : Ending) (w' : World) : Prop :=
 ∃ X1 d1 X2 d2 X3 d3 X4 d4, e = .returned (.agg #[.string r.f0, .slice X1 r.f1.length d1, .slice X2 r.f2.length d2, .slice X3 r.f3.length d3, .slice X4 r.f4.length d4]) /\
  RS w' w.heap.size (.slice X1 r.f1.length d1) r.f1 /\ RS w' w.heap.size (.slice X2 r.f2.length d2) r.f2 /\ RS w' w.heap.size (.slice X3 r.f3.length d3) r.f3 /\ Kd.R k24 24 w' w.heap.size (fun _ => True) (.slice X4 r.f4.length d4) r.f4 /\ Below w.heap.size w w'
theorem zku (r : zaj) (A1 : Option Addr) (c1 : Nat) (A2 : Option Addr) (c2 : Nat) (A3 : Option Addr) (c3 : Nat) (A4 : Option Addr) (c4 : Nat) (w : World)
 (h1 : Kd.C zp6 w A1 r.f1.length r.f1) (h2 : Kd.C zp6 w A2 r.f2.length r.f2) (h3 : Kd.C zp6 w A3 r.f3.length r.f3) (h4 : Kd.C k24 w A4 r.f4.length r.f4)
 (hls : ∀ x ∈ r.f4, x.f2.length * 16 <= 140737488355328 /\ x.f3.length * 16 <= 140737488355328)
 (hl1 : r.f1.length * 16 <= 140737488355328) (hl2 : r.f2.length * 16 <= 140737488355328) (hl3 : r.f3.length * 16 <= 140737488355328) (hl4 : r.f4.length * 80 <= 140737488355328) :
 Calls zp0 45 #[.agg #[.string r.f0, .slice A1 r.f1.length c1, .slice A2 r.f2.length c2, .slice A3 r.f3.length c3, .slice A4 r.f4.length c4]] w (zon r w) := by
 obtain ⟨f0, l1, l2, l3, l4⟩ := r; dsimp only at *; have hb1 := (zpr w.heap.size w).alloc (zps _) (.cells #[.string f0, .slice A1 l1.length c1, .slice A2 l2.length c2, .slice A3 l3.length c3, .slice A4 l4.length c4] 45); have hb2 := hb1.alloc hb1.size (.cells RUz 45); have hk := zaQ (zak w (.cells #[.string f0, .slice A1 l1.length c1, .slice A2 l2.length c2, .slice A3 l3.length c3, .slice A4 l4.length c4] 45)) (.cells RUz 45); have hz := zak (w.alloc (.cells #[.string f0, .slice A1 l1.length c1, .slice A2 l2.length c2, .slice A3 l3.length c3, .slice A4 l4.length c4] 45)) (.cells RUz 45); rw [World.size_alloc] at hz; have HB2 := zpo hb2; have HK2 := zpo hk; have HZ2 := zpo hz; have H1 := zpo (zqO h1 hb2); have H2 := zpo (zqO h2 hb2); have H3 := zpo (zqO h3 hb2); have H4 := zpo (zqO h4 hb2); have HL1 := zpo hl1; have HL2 := zpo hl2; have HL3 := zpo hl3; have HL4 := zpo hl4; have HLS := zpo hls; clear hb1 hb2 hk hz h1 h2 h3 h4 hl1 hl2 hl3 hl4 hls; go_enter Tryz.func45, Tryz.ntmps45
 go_wp2_with fail; generalize (w.alloc (.cells #[.string f0, .slice A1 l1.length c1, .slice A2 l2.length c2, .slice A3 l3.length c3, .slice A4 l4.length c4] 45)).alloc (.cells RUz 45) = w2 at HB2 HK2 HZ2 H1 H2 H3 H4 |-; have HBc : Hid (Below w2.heap.size w2 w2.drew) := zpo (zaW (zpr _ _)); have Sof : ∀ W, Below w2.heap.size w2 W -> W.cell? ⟨w.heap.size, 0, none⟩ = some (.string f0) /\ W.cell? ⟨w.heap.size, 1, none⟩ = some (.slice A1 l1.length c1) /\ W.cell? ⟨w.heap.size, 2, none⟩ = some (.slice A2 l2.length c2) /\ W.cell? ⟨w.heap.size, 3, none⟩ = some (.slice A3 l3.length c3) := fun W hW =>
  ⟨(zaf (zah HK2.out hW) 0).trans rfl, (zaf (zah HK2.out hW) 1).trans rfl, (zaf (zah HK2.out hW) 2).trans rfl, (zaf (zah HK2.out hW) 3).trans rfl⟩
 have HS := zpo Sof; clear Sof; apply zpl (F := zhd w2 f0 l1 l2 l3)
 . intro tail
   go_region_held3 (fun W => W.cell? ⟨w.heap.size, 0, none⟩ = some (.string f0) /\ W.cell? ⟨w.heap.size, 1, none⟩ = some (.slice A1 l1.length c1) /\ W.cell? ⟨w.heap.size, 2, none⟩ = some (.slice A2 l2.length c2) /\ W.cell? ⟨w.heap.size, 3, none⟩ = some (.slice A3 l3.length c3))
    (exact HS.out _ (by first | exact HBc.out | exact zb9 HBc.out (.inr ⟨_, rfl⟩) | exact ((((HBc.out.setCell HXG.out _).setCell HXG.out _).setCell HXG.out _).setCell HXG.out _).setCell HXG.out _))
    (first
     | (refine zdt (by rfl) (.tmp 9) rfl Tryz.underlying22 zbf l1 A1 c1 (by rfl) (zqO H1.out (zb9 HBc.out (by first | exact .inl rfl | exact .inr ⟨_, rfl⟩))) HL1.out ?_; intro X1 d1 w4 ho hb; replace ho := zqD ho (zb9 HBc.out (by first | exact .inl rfl | exact .inr ⟨_, rfl⟩)).size; (try first | (replace HX := zpo (zah HX.out (nxt hb (by first | exact .inl rfl | exact .inr ⟨_, rfl⟩)))) | (have HX := zpo (zah (zak _ _) hb); have HXG := zpo HBc.out.size) | (have HX := zpo (zah (zaI (zak w2 _)) hb); have HXG := zpo (zps w2.heap.size))); have HBc := zpo (zac HBc.out HBc.out.size (nxt hb (by first | exact .inl rfl | exact .inr ⟨_, rfl⟩))); have HO1 := zpo ho; (try (have z0 := (zaf HX.out 0).trans rfl; have z1 := (zaf HX.out 1).trans rfl; have z2 := (zaf HX.out 2).trans rfl; have z3 := (zaf HX.out 3).trans rfl; have z4 := (zaf HX.out 4).trans rfl; have y0 := zai HX.out 0; have y1 := zai HX.out 1; have y2 := zai HX.out 2; have y3 := zai HX.out 3; have y4 := zai HX.out 4)); clear ho hb)
     | (refine zdt (by rfl) (.tmp 12) rfl Tryz.underlying22 zbf l2 A2 c2 (by rfl) (zqO H2.out (zb9 HBc.out (by first | exact .inl rfl | exact .inr ⟨_, rfl⟩))) HL2.out ?_; intro X2 d2 w4 ho hb; replace ho := zqD ho (zb9 HBc.out (by first | exact .inl rfl | exact .inr ⟨_, rfl⟩)).size; (try first | (replace HX := zpo (zah HX.out (nxt hb (by first | exact .inl rfl | exact .inr ⟨_, rfl⟩)))) | (have HX := zpo (zah (zak _ _) hb); have HXG := zpo HBc.out.size)); have HBc := zpo (zac HBc.out HBc.out.size (nxt hb (by first | exact .inl rfl | exact .inr ⟨_, rfl⟩))); have HO1 := zpo (zqp HO1.out (nxt hb (by first | exact .inl rfl | exact .inr ⟨_, rfl⟩))); have HO2 := zpo ho; (try (have z0 := (zaf HX.out 0).trans rfl; have z1 := (zaf HX.out 1).trans rfl; have z2 := (zaf HX.out 2).trans rfl; have z3 := (zaf HX.out 3).trans rfl; have z4 := (zaf HX.out 4).trans rfl; have y0 := zai HX.out 0; have y1 := zai HX.out 1; have y2 := zai HX.out 2; have y3 := zai HX.out 3; have y4 := zai HX.out 4)); clear ho hb)
     | (refine zdt (by rfl) (.tmp 15) rfl Tryz.underlying22 zbf l3 A3 c3 (by rfl) (zqO H3.out (zb9 HBc.out (by first | exact .inl rfl | exact .inr ⟨_, rfl⟩))) HL3.out ?_; intro X3 d3 w4 ho hb; replace ho := zqD ho (zb9 HBc.out (by first | exact .inl rfl | exact .inr ⟨_, rfl⟩)).size; (try first | (replace HX := zpo (zah HX.out (nxt hb (by first | exact .inl rfl | exact .inr ⟨_, rfl⟩)))) | (have HX := zpo (zah (zak _ _) hb); have HXG := zpo HBc.out.size)); have HBc := zpo (zac HBc.out HBc.out.size (nxt hb (by first | exact .inl rfl | exact .inr ⟨_, rfl⟩))); have HO1 := zpo (zqp HO1.out (nxt hb (by first | exact .inl rfl | exact .inr ⟨_, rfl⟩))); have HO2 := zpo (zqp HO2.out (nxt hb (by first | exact .inl rfl | exact .inr ⟨_, rfl⟩))); have HO3 := zpo ho; (try (have z0 := (zaf HX.out 0).trans rfl; have z1 := (zaf HX.out 1).trans rfl; have z2 := (zaf HX.out 2).trans rfl; have z3 := (zaf HX.out 3).trans rfl; have z4 := (zaf HX.out 4).trans rfl; have y0 := zai HX.out 0; have y1 := zai HX.out 1; have y2 := zai HX.out 2; have y3 := zai HX.out 3; have y4 := zai HX.out 4)); clear ho hb))
   . have ha := (zpr w4.heap.size w4).alloc (zps _) (.cells #[.string f0, .slice X1 l1.length d1, .slice X2 l2.length d2, .slice X3 l3.length d3, .slice none 0 0] 45)
     have hF : zhd w2 f0 l1 l2 l3 X1 d1 X2 d2 X3 d3 w4.heap.size (w4.alloc (.cells #[.string f0, .slice X1 l1.length d1, .slice X2 l2.length d2, .slice X3 l3.length d3, .slice none 0 0] 45)) := ⟨zb9 HBc.out (.inr ⟨_, rfl⟩), zak _ _, HBc.out.size, zqp HO1.out ha, zqp HO2.out ha, zqp HO3.out ha⟩; generalize w4.alloc (.cells #[.string f0, .slice X1 l1.length d1, .slice X2 l2.length d2, .slice X3 l3.length d3, .slice none 0 0] 45) = W at hF |-; generalize w4.heap.size = G at hF |-; exact tail X1 d1 X2 d2 X3 d3 G W hF
   all_goals
    exact tail X1 d1 X2 d2 X3 d3 _ _ ⟨((((HBc.out.setCell HXG.out _).setCell HXG.out _).setCell HXG.out _).setCell HXG.out _).setCell HXG.out _, zcm (.string f0) (.slice X1 l1.length d1) (.slice X2 l2.length d2) (.slice X3 l3.length d3) (.slice none 0 0) HX.out, HXG.out, RS.set5 HO1.out _ _ _ _ _ HX.out (by decide), RS.set5 HO2.out _ _ _ _ _ HX.out (by decide), RS.set5 HO3.out _ _ _ _ _ HX.out (by decide)⟩
 intro X1 d1 X2 d2 X3 d3 G W ⟨hb, hx, hg, ho1, ho2, ho3⟩; have HBW := zpo hb; have HXW := zpo hx; have HGW := zpo hg; have HO1 := zpo ho1; have HO2 := zpo ho2; have HO3 := zpo ho3; clear hb hx hg ho1 ho2 ho3 HBc HS; go_wp2_with fail; have hl4b : l4.length <= 1759218604441 := by have := HL4.out; omega
 go_loopg [4, 5] l4.length (fun gg s4 _ wr => ∃ (kk : Nat) (A : Option Addr) (c : Nat), kk <= l4.length /\ l4.length - kk <= gg /\ s4 = .int .i64 kk /\ Aside0 (Below w2.heap.size w2 wr) /\ Aside0 (wr.heap[G]? = some (.cells #[.string f0, .slice X1 l1.length d1, .slice X2 l2.length d2, .slice X3 l3.length d3, .slice A kk c] 45 (0, 0))) /\
  Aside0 (Kd.R k24 24 wr w2.heap.size (fun _ => True) (.slice A kk c) (l4.take kk)) /\ Aside0 (RS wr w2.heap.size (.slice X1 l1.length d1) l1) /\ Aside0 (RS wr w2.heap.size (.slice X2 l2.length d2) l2) /\ Aside0 (RS wr w2.heap.size (.slice X3 l3.length d3) l3))
 case atStart => exact ⟨0, none, 0, zqf _, by omega, rfl, ⟨HBW.out⟩, ⟨HXW.out⟩, ⟨Kd.R_nil _ _ _ _ _⟩, ⟨HO1.out⟩, ⟨HO2.out⟩, ⟨HO3.out⟩⟩
 case round =>
  obtain ⟨kk, A, c, hkk, hgk, rfl, HB, HX, HR, HP1, HP2, HP3⟩ := hrel; have k4 := bc4 (zah HK2.out HB.out); by_cases hlt : kk < l4.length
  . have hltz : (kk : Int) < (l4.length : Int) := by omega
    have hk0 : (0 : Int) <= (kk : Int) := by omega
    obtain ⟨ad, B2, e2, B3, e3, rfl, p0, p1, p2, p3, p4, q2, g2, q3, g3⟩ := zfY (zqO H4.out HB.out) (kk : Int) (by omega) (by omega)
    have hxi : zbK l4 (kk : Int) = l4[kk] := by unfold zbK; simp [zpw, zpv hlt]
    rw [hxi] at p0 p1 p2 p3 p4 g2 g3; rw [zqF] at p0 p1 p2 p3 p4; have htk : l4.take (kk + 1) = l4.take kk ++ [l4[kk]] := by rw [List.take_add_one, zpv hlt]; rfl
    have HTK := zpo htk; have HM2 := zpo (HLS.out l4[kk] (zqJ hlt)).1; have HM3 := zpo (HLS.out l4[kk] (zqJ hlt)).2; generalize l4[kk] = x at p0 p1 p2 p3 p4 g2 g3 HTK HM2 HM3; clear htk hxi; have HG2 := zpo (zqO g2 ((zpr wr.heap.size wr).alloc (zps _) (.cells #[.string x.f0, .int .i64 x.f1, .slice B2 x.f2.length e2, .slice B3 x.f3.length e3, .int .i64 x.f4] 24))); have HG3 := zpo (zqO g3 ((zpr wr.heap.size wr).alloc (zps _) (.cells #[.string x.f0, .int .i64 x.f1, .slice B2 x.f2.length e2, .slice B3 x.f3.length e3, .int .i64 x.f4] 24))); have HSb := zpo (zak wr (.cells #[.string x.f0, .int .i64 x.f1, .slice B2 x.f2.length e2, .slice B3 x.f3.length e3, .int .i64 x.f4] 24)); have HBs := zpo ((zpr wr.heap.size wr).alloc (zps _) (.cells #[.string x.f0, .int .i64 x.f1, .slice B2 x.f2.length e2, .slice B3 x.f3.length e3, .int .i64 x.f4] 24)); clear g2 g3; go_wp2_with fail; generalize wr.alloc (.cells #[.string x.f0, .int .i64 x.f1, .slice B2 x.f2.length e2, .slice B3 x.f3.length e3, .int .i64 x.f4] 24) = w5 at HG2 HG3 HSb HBs |-; generalize hS : wr.heap.size = S at HSb |-; have HSe := zpo hS; clear hS p0 p1 p2 p3 p4 k4; have HBc := zpo (zaW (zpr w5.heap.size w5)); have k2 := bc2 HSb.out; have k3 := bc3 HSb.out; apply zmR (F := fun (Y2 : Option Addr) (m2 : Nat) (Y3 : Option Addr) (m3 : Nat) (W : World) => Below w5.heap.size w5 W /\ RS W w5.heap.size (.slice Y2 x.f2.length m2) x.f2 /\ RS W w5.heap.size (.slice Y3 x.f3.length m3) x.f3 /\ W.heap[S]? = some (.cells #[.string x.f0, .int .i64 x.f1, .slice B2 x.f2.length e2, .slice B3 x.f3.length e3, .int .i64 x.f4] 24 (0, 0)))
    . intro tail
      go_region_law (first
      | (refine zdt (by rfl) (.tmp 31) rfl Tryz.underlying22 zbf x.f2 B2 e2 (by rfl) (zqO HG2.out HBc.out) HM2.out ?_; intro Y2 m2 w7 ho hb; have HBc := zpo (zac HBc.out HBc.out.size hb); have HBk := zpo hb.size; have HY2 := zpo ho; have HSb := zpo (zah (zaI HSb.out) hb); have k2 := bc2 HSb.out; have k3 := bc3 HSb.out; clear ho hb)
      | (refine zdt (by rfl) (.tmp 34) rfl Tryz.underlying22 zbf x.f3 B3 e3 (by rfl) (zqO HG3.out HBc.out) HM3.out ?_; intro Y3 m3 w7 ho hb; have HBc := zpo (zac HBc.out HBc.out.size hb); have HY3 := zpo ho; have HY2 := zpo (zqp HY2.out hb); have HSb := zpo (zah HSb.out hb); have k2 := bc2 HSb.out; have k3 := bc3 HSb.out; have y2 := zai HSb.out 2; have y3 := zai HSb.out 3; clear ho hb))
      all_goals exact tail _ _ _ _ w7 ⟨HBc.out, HY2.out, zqD HY3.out HBk.out, HSb.out⟩
    intro Y2 m2 Y3 m3 w7 ⟨hb7, hy2, hy3, hs7⟩; have hSe := HSe.out; have hb6 := zac HBs.out HBs.out.size hb7; have hb8 := (hb6.setCell (p := ⟨S, 2, none⟩) (Nat.le_of_eq hSe) (.slice Y2 x.f2.length m2)).setCell (p := ⟨S, 3, none⟩) (Nat.le_of_eq hSe) (.slice Y3 x.f3.length m3); have hs8 := zbM (zbM hs7 2 (.slice Y2 x.f2.length m2)) 3 (.slice Y3 x.f3.length m3); have hy28 := zqD (zqE (zqE hy2 hs7 (by decide) 2 (.slice Y2 x.f2.length m2)) (zbM hs7 2 (.slice Y2 x.f2.length m2)) (by decide) 3 (.slice Y3 x.f3.length m3)) HBs.out.size
    have hy38 := zqD (zqE (zqE hy3 hs7 (by decide) 2 (.slice Y2 x.f2.length m2)) (zbM hs7 2 (.slice Y2 x.f2.length m2)) (by decide) 3 (.slice Y3 x.f3.length m3)) HBs.out.size
    generalize (w7.setCell ⟨S, 2, none⟩ (.slice Y2 x.f2.length m2)).setCell ⟨S, 3, none⟩ (.slice Y3 x.f3.length m3) = w8 at hb8 hs8 hy28 hy38 |-; have hs8' : w8.heap[S]? = some (.cells #[.string x.f0, .int .i64 x.f1, .slice Y2 x.f2.length m2, .slice Y3 x.f3.length m3, .int .i64 x.f4] 24 (0, 0)) := hs8; have hx8 := zah HX.out hb8; have HR8 := zpo (zqp HR.out hb8); have HP18 := zpo (zqp HP1.out hb8); have HP28 := zpo (zqp HP2.out hb8); have HP38 := zpo (zqp HP3.out hb8); have HM8 := zpo (zfB w8 w2.heap.size _ x (zqD (Kd.R_new hy28 (Kd.R_own HR.out).choose_spec) HB.out.size) (zqD (Kd.R_new hy38 (Kd.R_own HR.out).choose_spec) HB.out.size)); have HB8 := zpo (zac HB.out HB.out.size hb8); have HX8 := zpo hx8; have k4 := bc4 hx8; have s0 : w8.cell? ⟨S, 0, none⟩ = some (.string x.f0) := (zaf hs8' 0).trans rfl; have s1 : w8.cell? ⟨S, 1, none⟩ = some (.int .i64 x.f1) := (zaf hs8' 1).trans rfl; have s2 : w8.cell? ⟨S, 2, none⟩ = some (.slice Y2 x.f2.length m2) := (zaf hs8' 2).trans rfl; have s3 : w8.cell? ⟨S, 3, none⟩ = some (.slice Y3 x.f3.length m3) := (zaf hs8' 3).trans rfl; have s4 : w8.cell? ⟨S, 4, none⟩ = some (.int .i64 x.f4) := (zaf hs8' 4).trans rfl; have HLT : Hid ((l4.take kk).length = kk) := by show _ = _; rw [zpD]; omega
    clear hSe hb6 hb7 hs7 hy2 hy3 hb8 hs8 hs8' hx8 hy28 hy38 HBc HSb HBs HG2 HG3; go_wp2_with (first | ((with_reducible refine zaD (b := .append) (xs := #[.tmp 39, .tmp 41]) rfl ?_); at_builtin; refine Kd.R_append k24 (w0 := w8) w2.heap.size rfl (.tmp 39) (.tmp 41) 43 24 (.agg #[.string ⟨#[]⟩, .int .i64 0, .slice none 0 0, .slice none 0 0, .int .i64 0]) 80 rfl Tryz.underlying43 zfS rfl (by decide) (by decide) (.slice A kk c) (l4.take kk) x [.string x.f0, .int .i64 x.f1, .slice Y2 x.f2.length m2, .slice Y3 x.f3.length m3, .int .i64 x.f4] (fun _ => True) (fun k_ => True /\ some k_ ≠ (Value.slice A kk c).ownBlock) (by rfl) (by rfl) HM8.out (fun _ hk => hk) (fun _ _ => trivial) HR8.out (zpr _ _) HB8.out.size ?aL ?_; (case aL => (have h1 := HL4.out; have h2 := HLT.out; omega)); intro v1 w9 ho hb hg hat; obtain ⟨A9, c9, rfl, _, _⟩ := zql ho; rw [zpF, HLT.out, List.length_singleton] at ho |-; have HR9 := zpo ho; have HX9 := zpo (zaY HX8.out hg (Kd.R_ne HR8.out HX8.out (by decide))); have HP19 := zpo (zdG HP18.out HR8.out (by decide) hg); have HP29 := zpo (zdG HP28.out HR8.out (by decide) hg); have HP39 := zpo (zdG HP38.out HR8.out (by decide) hg); have HB9 := zpo (HB8.out.trans hb); have y4 := zai HX9.out 4; have k9 := bc4 HX9.out; clear ho hb hg hat))
    go_roundg (l4.length - (kk + 1))
    case measure => omega
    case rel =>
     exact ⟨kk + 1, A9, c9, by omega, by omega, by first | rfl | go_num, ⟨HB9.out.setCell HGW.out _⟩, ⟨zat HX9.out 4 _ rfl⟩, ⟨by rw [HTK.out]; exact zqE HR9.out HX9.out (by decide) 4 _⟩, ⟨zqE HP19.out HX9.out (by decide) 4 _⟩, ⟨zqE HP29.out HX9.out (by decide) 4 _⟩, ⟨zqE HP39.out HX9.out (by decide) 4 _⟩⟩
  . have hltz : ¬ (kk : Int) < (l4.length : Int) := by omega
    have k40 : wr.cell? ⟨w.heap.size, 4, none⟩ = some (.slice A4 l4.length c4) := k4; obtain rfl : kk = l4.length := by omega
    have hR := HR.out; rw [zqa] at hR; have HR2 := zpo hR; have hZ := zah HZ2.out HB.out; have HZ := zpo hZ; have g0 := bc0 HX.out; have g1 := bc1 HX.out; have g2 := bc2 HX.out; have g3 := bc3 HX.out; have g4 := bc4 HX.out; have r0 := bc0 hZ; have r1 := bc1 hZ; have r2 := bc2 hZ; have r3 := bc3 hZ; have r4 := bc4 hZ; have z0 := zai hZ 0; have z1 := zai hZ 1; have z2 := zai hZ 2; have z3 := zai hZ 3; have z4 := zai hZ 4; clear hR hZ k4; go_wp2_with fail; have hs := zcm (.string f0) (.slice X1 l1.length d1) (.slice X2 l2.length d2) (.slice X3 l3.length d3) (.slice A l4.length c) HZ.out; have hA := zqD (RS.set5 HP1.out (.string f0) (.slice X1 l1.length d1) (.slice X2 l2.length d2) (.slice X3 l3.length d3) (.slice A l4.length c) HZ.out (by decide)) HB2.out.size
    have hB := zqD (RS.set5 HP2.out (.string f0) (.slice X1 l1.length d1) (.slice X2 l2.length d2) (.slice X3 l3.length d3) (.slice A l4.length c) HZ.out (by decide)) HB2.out.size
    have hC := zqD (RS.set5 HP3.out (.string f0) (.slice X1 l1.length d1) (.slice X2 l2.length d2) (.slice X3 l3.length d3) (.slice A l4.length c) HZ.out (by decide)) HB2.out.size
    have hE := zqD (zdd HR2.out (.string f0) (.slice X1 l1.length d1) (.slice X2 l2.length d2) (.slice X3 l3.length d3) (.slice A l4.length c) HZ.out (by decide)) HB2.out.size
    have hle : w.heap.size <= w.heap.size + 1 := Nat.le_succ _; have hD := (((((zac HB2.out HB2.out.size HB.out).setCell (p := ⟨w.heap.size + 1, 0, none⟩) hle (.string f0)).setCell (p := ⟨w.heap.size + 1, 1, none⟩) hle (.slice X1 l1.length d1)).setCell (p := ⟨w.heap.size + 1, 2, none⟩) hle (.slice X2 l2.length d2)).setCell (p := ⟨w.heap.size + 1, 3, none⟩) hle (.slice X3 l3.length d3)).setCell (p := ⟨w.heap.size + 1, 4, none⟩) hle (.slice A l4.length c); clear g0 g1 g2 g3 g4 r0 r1 r2 r3 r4 z0 z1 z2 z3 z4; unfold set5 at hs hA hB hC hE; generalize ((((wr.setCell ⟨w.heap.size + 1, 0, none⟩ (.string f0)).setCell ⟨w.heap.size + 1, 1, none⟩ (.slice X1 l1.length d1)).setCell ⟨w.heap.size + 1, 2, none⟩ (.slice X2 l2.length d2)).setCell ⟨w.heap.size + 1, 3, none⟩ (.slice X3 l3.length d3)).setCell ⟨w.heap.size + 1, 4, none⟩ (.slice A l4.length c) = wE at hs hA hB hC hD hE |-; have g0 := (zaf hs 0).trans rfl; have g1 := (zaf hs 1).trans rfl; have g2 := (zaf hs 2).trans rfl; have g3 := (zaf hs 3).trans rfl; have g4 := (zaf hs 4).trans rfl; exact bodyPost_ret (v := .agg #[.string f0, .slice X1 l1.length d1, .slice X2 l2.length d2, .slice X3 l3.length d3, .slice A l4.length c]) (by simp [results, Tryz.results45, go_sem, g0, g1, g2, g3, g4]) rfl ⟨_, _, _, _, _, _, _, _, rfl, hA, hB, hC, hE, hD⟩
def upTo (n k : Nat) : Array Bool := (Array.range n).map fun i => decide (i < k)
section
variable {P : Program} {ops : Array Oper} {Q : Exit -> Act -> World -> Prop} {S : World -> Prop} {md : Region.Mode} {ds : List Nat}
theorem zoY {id n : Nat} {a : Act} {w : World} (hm : P.follows .mixedOrders = true) (hn : ops.size = n) (hl : Array.replicate n false = upTo n 0) (hS : S w.drew)
 (h : zaB P .any ops Q S ds n (upTo n 0) a w.drew) : (Code.region id ops true).wp P Q a w := zdK (upTo n 0) hm hn hl hS (fun _ => h)
theorem nextT {n k : Nat} {oi : Oper} {v : Value} {fuel : Nat} {a : Act} {w : World} (hi : ops[k]? = some oi) (hc : zeU md ops ds (upTo n k) (upTo n (k + 1)) k = true)
 (hQ : ∀ c a w, Q (.panic c) (a.put oi.dst v) w -> Q (.panic c) a w) (hy : YieldsIf P ops S oi v a) (hS : S w) {a' : Act} (ha : a.put oi.dst v = a')
 (h : zaB P md ops Q S ds fuel (upTo n (k + 1)) a' w) : zaB P md ops Q S ds (fuel + 1) (upTo n k) a w := take_ _ hi rfl hc hQ hy hS ha h
end
def upX (n k : Nat) (s : List Nat) : Array Bool := (Array.range n).map fun i => decide (i < k) && !s.contains i
section
variable {P : Program} {ops : Array Oper} {Q : Exit -> Act -> World -> Prop} {S : World -> Prop} {md : Region.Mode} {ds : List Nat} {s : List Nat}
theorem zfn {n k : Nat} {oi : Oper} {v : Value} {fuel : Nat} {a : Act} {w : World} (hi : ops[k]? = some oi) (hc : zeU md ops ds (upX n k s) (upX n (k + 1) s) k = true)
 (hQ : ∀ c a w, Q (.panic c) (a.put oi.dst v) w -> Q (.panic c) a w) (hy : YieldsIf P ops S oi v a) (hS : S w) {a' : Act} (ha : a.put oi.dst v = a')
 (h : zaB P md ops Q S ds fuel (upX n (k + 1) s) a' w) : zaB P md ops Q S ds (fuel + 1) (upX n k s) a w := take_ _ hi rfl hc hQ hy hS ha h
theorem zgy {n k : Nat} {oi : Oper} {v : Value} {fuel : Nat} {a : Act} {w : World} (hi : ops[k]? = some oi) (hc : anyB md ops (upX n k s) (upX n (k + 1) s) k = true)
 (hQ : ∀ c a w, Q (.panic c) (a.put oi.dst v) w -> Q (.panic c) a w) (hy : Yields P ops oi v a) {a' : Act} (ha : a.put oi.dst v = a')
 (h : zaB P md ops Q S ds fuel (upX n (k + 1) s) a' w) : zaB P md ops Q S ds (fuel + 1) (upX n k s) a w := zaE _ hi rfl hc hQ hy ha h
theorem zjm {G R : Prop} (main : G -> R) (tail : G) : R := main tail
theorem zgz {n k fuel : Nat} {a : Act} {w : World} (hc : (upX n k s == upX n (k + 1) s) = true) (h : zaB P md ops Q S ds fuel (upX n (k + 1) s) a w) : zaB P md ops Q S ds fuel (upX n k s) a w := by
 rw [beq_iff_eq] at hc; rw [hc]; exact h
end
def zaR (x : zar) : zar := ⟨x.f0, x.f1, x.f2.take 8, x.f3.take 3, x.f4⟩
def zdr (r : zaj) : zaj := ⟨r.f0, r.f1.take 10, r.f2.take 6, r.f3.take 10, (r.f4.take 14).map zaR⟩
def zfq (r : zaj) (w : World) (e : Ending) (w' : World) : Prop :=
 ∃ X1 d1 X2 d2 X3 d3 X4 d4, e = .returned (.agg #[.string r.f0, .slice X1 r.f1.length d1, .slice X2 r.f2.length d2, .slice X3 r.f3.length d3, .slice X4 r.f4.length d4]) /\
  Kd.FK k45 w' (fun k => w.heap.size <= k) r [.string r.f0, .slice X1 r.f1.length d1, .slice X2 r.f2.length d2, .slice X3 r.f3.length d3, .slice X4 r.f4.length d4] /\ Below w.heap.size w w'
theorem zdW {α : Type} {d : Kd α} {W : World} {A : Option Addr} {l : List α} (h : d.C W A l.length l) (k : Nat) : d.C W A (l.take k).length (l.take k) := by
 rcases Nat.lt_or_ge l.length k with hk | hk
 . rw [List.take_of_length_le (Nat.le_of_lt hk)]; exact h
 . exact Kd.C_take h hk
theorem ziW {α : Type} {d : Kd α} {W : World} {ok : Nat -> Prop} {A : Option Addr} {l : List α} (h : Kd.F d W ok A l.length l) (k : Nat) : Kd.F d W ok A (l.take k).length (l.take k) := Kd.F_imp h (fun _ hC => zdW hC k)
theorem znh (l : List zar) (k : Nat) (h : k < l.length) : ((l.take k).map zaR ++ l.drop k).getD k z24 = l[k] := by
 have hl : ((l.take k).map zaR).length = k := by simp; omega
 rw [zpw, List.getElem?_append_right (by omega), hl, Nat.sub_self, List.getElem?_drop, Nat.add_zero, zpv h]
 rfl
theorem zos (l : List zar) (k : Nat) (h : k < l.length) : ((l.take k).map zaR ++ l.drop k).set k (zaR l[k]) = (l.take (k + 1)).map zaR ++ l.drop (k + 1) := by
 have hl : ((l.take k).map zaR).length = k := by simp; omega
 rw [List.set_append_right _ _ (by omega), hl, Nat.sub_self, List.drop_eq_getElem_cons h, zqM, List.take_add_one, zpv h, List.map_append, zqG]
 rfl
theorem zol {f0 : ByteArray} {l1 l2 l3 n1 n2 n3 : List ByteArray} {l4 n4 : List zar} {X1 X2 X3 X4 : Option Addr} {d1 d2 d3 d4 : Nat} {w w' : World} (h : n1 = l1.take 10 /\ n2 = l2.take 6 /\ n3 = l3.take 10 /\ n4 = l4.take 14)
 (hF : Kd.FK k45 w' (fun k => w.heap.size <= k) (zdr ⟨f0, l1, l2, l3, l4⟩) [.string f0, .slice X1 n1.length d1, .slice X2 n2.length d2, .slice X3 n3.length d3, .slice X4 n4.length d4]) (hB : Below w.heap.size w w') :
 zfq (zdr ⟨f0, l1, l2, l3, l4⟩) w (.returned (.agg #[.string f0, .slice X1 n1.length d1, .slice X2 n2.length d2, .slice X3 n3.length d3, .slice X4 n4.length d4])) w' := by
 obtain ⟨rfl, rfl, rfl, rfl⟩ := h; have e : (zdr ⟨f0, l1, l2, l3, l4⟩).f4.length = (l4.take 14).length := zp9 _; refine ⟨X1, d1, X2, d2, X3, d3, X4, d4, ?_, ?_, hB⟩
 . rw [e]; rfl
 . rw [e]; exact hF
theorem znf (r : zaj) (A1 : Option Addr) (c1 : Nat) (A2 : Option Addr) (c2 : Nat) (A3 : Option Addr) (c3 : Nat) (A4 : Option Addr) (c4 : Nat) (w : World)
 (h1 : Kd.C zp6 w A1 r.f1.length r.f1) (h2 : Kd.C zp6 w A2 r.f2.length r.f2) (h3 : Kd.C zp6 w A3 r.f3.length r.f3) (h4 : Kd.C k24 w A4 r.f4.length r.f4)
 (hls : ∀ x ∈ r.f4, x.f2.length * 16 <= 140737488355328 /\ x.f3.length * 16 <= 140737488355328)
 (hc1 : r.f1.length <= c1) (hc2 : r.f2.length <= c2) (hc3 : r.f3.length <= c3) (hc4 : r.f4.length <= c4) :
 Calls zp0 53 #[.agg #[.string r.f0, .slice A1 r.f1.length c1, .slice A2 r.f2.length c2, .slice A3 r.f3.length c3, .slice A4 r.f4.length c4]] w (zfq (zdr r) w) := by
 obtain ⟨f0, l1, l2, l3, l4⟩ := r; dsimp only at *; have hb1 := (zpr w.heap.size w).alloc (zps _) (.cells #[.string f0, .slice A1 l1.length c1, .slice A2 l2.length c2, .slice A3 l3.length c3, .slice A4 l4.length c4] 45); have hb2 := hb1.alloc hb1.size (.cells RUz 45); have hk := zaQ (zak w (.cells #[.string f0, .slice A1 l1.length c1, .slice A2 l2.length c2, .slice A3 l3.length c3, .slice A4 l4.length c4] 45)) (.cells RUz 45); have hz := zak (w.alloc (.cells #[.string f0, .slice A1 l1.length c1, .slice A2 l2.length c2, .slice A3 l3.length c3, .slice A4 l4.length c4] 45)) (.cells RUz 45); rw [World.size_alloc] at hz; have HB2 := zpo hb2; have HK2 := zpo hk; have HZ2 := zpo hz; have H1 := zpo (zqO h1 hb2); have H2 := zpo (zqO h2 hb2); have H3 := zpo (zqO h3 hb2); have H4 := zpo (zqO h4 hb2); have HLS := zpo hls; clear hb1 hb2 hk hz h1 h2 h3 h4 hls; go_enter Tryz.func53, Tryz.ntmps53
 go_wp2_with fail; generalize (w.alloc (.cells #[.string f0, .slice A1 l1.length c1, .slice A2 l2.length c2, .slice A3 l3.length c3, .slice A4 l4.length c4] 45)).alloc (.cells RUz 45) = w2 at HB2 HK2 HZ2 H1 H2 H3 H4 |-; obtain ⟨n1, hn1⟩ : ∃ n, n = l1.take 10 := ⟨_, rfl⟩; have e1 : min (l1.length : Int) 10 = (n1.length : Int) := by rw [hn1, zpD]; omega
 have b1 : (n1.length : Int) <= (c1 : Int) := by rw [hn1, zpD]; omega
 have HN1 := zpo (show Kd.C _ w2 A1 n1.length n1 by rw [hn1]; exact zdW H1.out 10)
 obtain ⟨n2, hn2⟩ : ∃ n, n = l2.take 6 := ⟨_, rfl⟩; have e2 : min (l2.length : Int) 6 = (n2.length : Int) := by rw [hn2, zpD]; omega
 have b2 : (n2.length : Int) <= (c2 : Int) := by rw [hn2, zpD]; omega
 have HN2 := zpo (show Kd.C _ w2 A2 n2.length n2 by rw [hn2]; exact zdW H2.out 6)
 obtain ⟨n3, hn3⟩ : ∃ n, n = l3.take 10 := ⟨_, rfl⟩; have e3 : min (l3.length : Int) 10 = (n3.length : Int) := by rw [hn3, zpD]; omega
 have b3 : (n3.length : Int) <= (c3 : Int) := by rw [hn3, zpD]; omega
 have HN3 := zpo (show Kd.C _ w2 A3 n3.length n3 by rw [hn3]; exact zdW H3.out 10)
 obtain ⟨n4, hn4⟩ : ∃ n, n = l4.take 14 := ⟨_, rfl⟩; have e4 : min (l4.length : Int) 14 = (n4.length : Int) := by rw [hn4, zpD]; omega
 have b4 : (n4.length : Int) <= (c4 : Int) := by rw [hn4, zpD]; omega
 have HN4 := zpo (show Kd.C _ w2 A4 n4.length n4 by rw [hn4]; exact zdW H4.out 14)
 have HW1 := zpo (show n1.length * 16 <= 140737488355328 by rw [hn1, zpD]; omega)
 have HW2 := zpo (show n2.length * 16 <= 140737488355328 by rw [hn2, zpD]; omega)
 have HW3 := zpo (show n3.length * 16 <= 140737488355328 by rw [hn3, zpD]; omega)
 have HW4 := zpo (show n4.length <= 14 by rw [hn4, zpD]; omega)
 have HNS := zpo (show ∀ x ∈ n4, x.f2.length * 16 <= 140737488355328 /\ x.f3.length * 16 <= 140737488355328 from fun x hx => HLS.out x (by rw [hn4] at hx; exact List.mem_of_mem_take hx))
 have HNQ := zpo (And.intro hn1 (And.intro hn2 (And.intro hn3 hn4))); clear hn1 hn2 hn3 hn4 hc1 hc2 hc3 hc4 H1 H2 H3 H4 HLS; have hS1 : ∀ W : World, W.heap[w.heap.size]? = some (.cells #[.string f0, .slice A1 l1.length c1, .slice A2 l2.length c2, .slice A3 l3.length c3, .slice A4 l4.length c4] 45 (0, 0)) -> W.cell? ⟨w.heap.size, 0, none⟩ = some (.string f0) /\ W.cell? ⟨w.heap.size, 1, none⟩ = some (.slice A1 l1.length c1) /\ W.cell? ⟨w.heap.size, 2, none⟩ = some (.slice A2 l2.length c2) /\ W.cell? ⟨w.heap.size, 3, none⟩ = some (.slice A3 l3.length c3) /\ W.cell? ⟨w.heap.size, 4, none⟩ = some (.slice A4 l4.length c4) := fun W h => ⟨(zaf h 0).trans rfl, (zaf h 1).trans rfl, (zaf h 2).trans rfl, (zaf h 3).trans rfl, (zaf h 4).trans rfl⟩
 have HS1 := zpo hS1; clear hS1; refine zoY (n := 33) (S := fun W => W.cell? ⟨w.heap.size, 0, none⟩ = some (.string f0) /\ W.cell? ⟨w.heap.size, 1, none⟩ = some (.slice A1 l1.length c1) /\ W.cell? ⟨w.heap.size, 2, none⟩ = some (.slice A2 l2.length c2) /\ W.cell? ⟨w.heap.size, 3, none⟩ = some (.slice A3 l3.length c3) /\ W.cell? ⟨w.heap.size, 4, none⟩ = some (.slice A4 l4.length c4)) (ds := [32]) (by kernel_rfl) rfl (by kernel_rfl) ⟨(zaf HK2.out 0).trans rfl, (zaf HK2.out 1).trans rfl, (zaf HK2.out 2).trans rfl, (zaf HK2.out 3).trans rfl, (zaf HK2.out 4).trans rfl⟩ ?_
 have hHeld : w2.drew.cell? ⟨w.heap.size, 0, none⟩ = some (.string f0) /\ w2.drew.cell? ⟨w.heap.size, 1, none⟩ = some (.slice A1 l1.length c1) /\ w2.drew.cell? ⟨w.heap.size, 2, none⟩ = some (.slice A2 l2.length c2) /\ w2.drew.cell? ⟨w.heap.size, 3, none⟩ = some (.slice A3 l3.length c3) /\ w2.drew.cell? ⟨w.heap.size, 4, none⟩ = some (.slice A4 l4.length c4) := ⟨(zaf HK2.out 0).trans rfl, (zaf HK2.out 1).trans rfl, (zaf HK2.out 2).trans rfl, (zaf HK2.out 3).trans rfl, (zaf HK2.out 4).trans rfl⟩; iterate 31
  refine nextT (v := ?_) (a' := ?_) rfl (by kernel_rfl) (fun _ _ _ h => h) (zqK ⟨by rfl, ?_⟩) hHeld ?_ ?_
  rotate_left
  . rintro w' ⟨s0, s1, s2, s3, s4⟩
    go_simp
    with_reducible rfl
  rotate_left
  . simp only [Act.put, List.getElem_toArray, List.getElem_cons_zero, List.getElem_cons_succ, zqL, zqM, zqN, zam, zan]
    rfl
 refine one_ (i := 31) (N := some 3) (upTo 33 32) rfl rfl (by kernel_rfl) (by decide) (fun K hK => ?_)
 refine zcw (w1 := ?_) (v := ?_) (by rfl) rfl ?_ ?_
 rotate_left 2
 . go_simp
   constructor
   . rfl
   . rfl
 refine hK.out _ _ (HS1.out _ (zaQ (zaI HK2.out) _)) (fun hHeld => ?_)
 clear hK K; refine zbb (a' := ?_) ?_ ?_; rotate_left
 . show Act.put _ (some 3) _ = _
   simp only [Act.put, zqL, zqM, zqN, zam, zan]; rfl
 refine zd1 (i := 32) (N := none) (upTo 33 33) rfl rfl (by kernel_rfl) (by decide) (fun K hK => ?_)
 refine zcQ (w1 := ?_) (by rfl) rfl ?_ ?_
 rotate_left
 . go_simp
   rfl
 refine hK.out _ _ ?_; clear hK K; refine zd5 (by kernel_rfl) ?_
 have hb3 : Below w2.heap.size w2 ((w2.alloc (.cells #[.string f0, .slice A1 n1.length c1, .slice A2 n2.length c2, .slice A3 n3.length c3, .slice A4 n4.length c4] 45)).drew) := zaW ((zpr w2.heap.size w2).alloc (zps _) _); have hx3 : ((w2.alloc (.cells #[.string f0, .slice A1 n1.length c1, .slice A2 n2.length c2, .slice A3 n3.length c3, .slice A4 n4.length c4] 45)).drew).heap[w2.heap.size]? = some (.cells #[.string f0, .slice A1 n1.length c1, .slice A2 n2.length c2, .slice A3 n3.length c3, .slice A4 n4.length c4] 45 (0, 0)) := zaI (zak w2 _); have HB3 := zpo (zac HB2.out HB2.out.size hb3); have HZ3 := zpo (zah HZ2.out hb3); have HC1 := zpo (zqO HN1.out hb3); have HC2 := zpo (zqO HN2.out hb3); have HC3 := zpo (zqO HN3.out hb3); have HC4 := zpo (zqO HN4.out hb3); have HX3 := zpo hx3; generalize (w2.alloc (.cells #[.string f0, .slice A1 n1.length c1, .slice A2 n2.length c2, .slice A3 n3.length c3, .slice A4 n4.length c4] 45)).drew = w3 at HB3 HZ3 HC1 HC2 HC3 HC4 HX3 |-; generalize hG2 : w2.heap.size = G at HX3 |-; have hgw : w.heap.size + 1 < G := by rw [<- hG2]; exact zaU HZ2.out
 have HGW := zpo hgw; have HB3s := zpo HB3.out.size; clear hb3 hx3 hG2 hgw hHeld HS1 HK2 HZ2 HB2 HN1 HN2 HN3 HN4; have g0 := bc0 HX3.out; have g1 := bc1 HX3.out; have g2 := bc2 HX3.out; have g3 := bc3 HX3.out; have g4 := bc4 HX3.out; have hCp := zku ⟨f0, n1, n2, n3, n4⟩ A1 c1 A2 c2 A3 c3 A4 c4 w3 HC1.out HC2.out HC3.out HC4.out HNS.out HW1.out HW2.out HW3.out (by have := HW4.out; show n4.length * 80 <= _; omega)
 go_wp2_with (go_at_call 45; refine hCp.mono ?_; rintro e w5 ⟨X1, d1, X2, d2, X3, d3, X4, d4, rfl, ho1, ho2, ho3, ho4, hb5⟩; have HX5 := zpo (zah HX3.out hb5); have HZ5 := zpo (zah HZ3.out hb5); have HB5 := zpo (zac HB3.out HB3.out.size hb5); have HO1 := zpo ho1; have HO2 := zpo ho2; have HO3 := zpo ho3; have HO4 := zpo ho4; have HGL := zpo (zaU HX3.out); have z0 := (zaf HX5.out 0).trans rfl; have z1 := (zaf HX5.out 1).trans rfl; have z2 := (zaf HX5.out 2).trans rfl; have z3 := (zaf HX5.out 3).trans rfl; have z4 := (zaf HX5.out 4).trans rfl; have y0 := zai HX5.out 0; have y1 := zai HX5.out 1; have y2 := zai HX5.out 2; have y3 := zai HX5.out 3; have y4 := zai HX5.out 4; clear ho1 ho2 ho3 ho4 hb5)
 have hx6 := zcm (.string f0) (.slice X1 n1.length d1) (.slice X2 n2.length d2) (.slice X3 n3.length d3) (.slice X4 n4.length d4) HX5.out; have hz6 := zaP (zaP (zaP (zaP (zaP HZ5.out (p := ⟨G, 0, none⟩) (zqA HGW.out) (.string f0)) (p := ⟨G, 1, none⟩) (zqA HGW.out) (.slice X1 n1.length d1)) (p := ⟨G, 2, none⟩) (zqA HGW.out) (.slice X2 n2.length d2)) (p := ⟨G, 3, none⟩) (zqA HGW.out) (.slice X3 n3.length d3)) (p := ⟨G, 4, none⟩) (zqA HGW.out) (.slice X4 n4.length d4); have hr1 := RS.set5 HO1.out (.string f0) (.slice X1 n1.length d1) (.slice X2 n2.length d2) (.slice X3 n3.length d3) (.slice X4 n4.length d4) HX5.out (by decide)
 have hr2 := RS.set5 HO2.out (.string f0) (.slice X1 n1.length d1) (.slice X2 n2.length d2) (.slice X3 n3.length d3) (.slice X4 n4.length d4) HX5.out (by decide)
 have hr3 := RS.set5 HO3.out (.string f0) (.slice X1 n1.length d1) (.slice X2 n2.length d2) (.slice X3 n3.length d3) (.slice X4 n4.length d4) HX5.out (by decide)
 have hr4 := zdd HO4.out (.string f0) (.slice X1 n1.length d1) (.slice X2 n2.length d2) (.slice X3 n3.length d3) (.slice X4 n4.length d4) HX5.out (by decide)
 have hgl : w.heap.size <= G := by have := HGW.out; omega
 have hb6 := ((((HB5.out.setCell (p := ⟨G, 0, none⟩) hgl (.string f0)).setCell (p := ⟨G, 1, none⟩) hgl (.slice X1 n1.length d1)).setCell (p := ⟨G, 2, none⟩) hgl (.slice X2 n2.length d2)).setCell (p := ⟨G, 3, none⟩) hgl (.slice X3 n3.length d3)).setCell (p := ⟨G, 4, none⟩) hgl (.slice X4 n4.length d4); unfold set5 at hx6 hr1 hr2 hr3 hr4; generalize ((((w5.setCell ⟨G, 0, none⟩ (.string f0)).setCell ⟨G, 1, none⟩ (.slice X1 n1.length d1)).setCell ⟨G, 2, none⟩ (.slice X2 n2.length d2)).setCell ⟨G, 3, none⟩ (.slice X3 n3.length d3)).setCell ⟨G, 4, none⟩ (.slice X4 n4.length d4) = w6 at hx6 hz6 hr1 hr2 hr3 hr4 hb6 |-; have HX6 := zpo hx6; have HZ6 := zpo hz6; have HR1 := zpo hr1; have HR2 := zpo hr2; have HR3 := zpo hr3; have HR4 := zpo (Kd.R_N (Kd.R_mono (Kd.R_bound hr4) (fun _ h => h.2.1)))
 have HB6 := zpo hb6; clear hx6 hz6 hr1 hr2 hr3 hr4 hb6 hgl g0 g1 g2 g3 g4 z0 z1 z2 z3 z4 y0 y1 y2 y3 y4 hCp HO1 HO2 HO3 HO4 HX5 HZ5 HB5; have hl4b : n4.length <= 14 := HW4.out; go_loopg [4, 41] n4.length (fun gg _ s41 wr => ∃ kk : Nat, kk <= n4.length /\ n4.length - kk <= gg /\ s41 = .int .i64 kk /\ Aside0 (Below w.heap.size w wr) /\ Aside0 (wr.heap[G]? = some (.cells #[.string f0, .slice X1 n1.length d1, .slice X2 n2.length d2, .slice X3 n3.length d3, .slice X4 n4.length d4] 45 (0, 0))) /\ Aside0 (wr.heap[w.heap.size + 1]? = some (.cells RUz 45 (0, 0))) /\
  Aside0 (RS wr w3.heap.size (.slice X1 n1.length d1) n1) /\ Aside0 (RS wr w3.heap.size (.slice X2 n2.length d2) n2) /\ Aside0 (RS wr w3.heap.size (.slice X3 n3.length d3) n3) /\ Aside0 (Kd.N k24 24 wr w3.heap.size (fun k => w3.heap.size <= k) (.slice X4 n4.length d4) ((n4.take kk).map zaR ++ n4.drop kk)))
 case atStart => exact ⟨0, zqf _, by omega, rfl, ⟨HB6.out⟩, ⟨HX6.out⟩, ⟨HZ6.out⟩, ⟨HR1.out⟩, ⟨HR2.out⟩, ⟨HR3.out⟩, ⟨HR4.out⟩⟩
 case round =>
  obtain ⟨kk, hkk, hgk, rfl, HB, HX, HZ, HP1, HP2, HP3, HN⟩ := hrel; by_cases hlt : kk < n4.length
  . have hltz : (kk : Int) < (n4.length : Int) := by omega
    have hk0 : (0 : Int) <= (kk : Int) := by omega
    have hll : ((n4.take kk).map zaR ++ n4.drop kk).length = n4.length := by simp; omega
    obtain ⟨g, cap, ev, hgb, hgl, cur, hcur⟩ := Kd.N_form HN.out (by omega)
    injection ev with ev1 ev2 ev3; subst ev1 ev3; clear ev2; obtain ⟨c, hcl, hFK, hcc, hfr⟩ := Kd.N_elem HN.out z24 (kk : Int) hk0 hltz; rw [zqF, znh n4 kk hlt] at hFK; rw [zqF] at hcc hfr; have HSET := zpo (zos n4 kk hlt); generalize n4[kk] = x at hFK HSET; obtain ⟨B2, e2, B3, e3, rfl, hc2, hF2, hc3, hF3⟩ := zhM hFK; have p2 : wr.drew.cell? ⟨g, kk * 5 + 2, none⟩ = some (.slice B2 x.f2.length e2) := hcc 2 _ rfl; have p3 : wr.drew.cell? ⟨g, kk * 5 + 3, none⟩ = some (.slice B3 x.f3.length e3) := hcc 3 _ rfl; have f2 : wr.drew.frozen? ⟨g, kk * 5 + 2, none⟩ = false := hfr 2; have f3 : wr.drew.frozen? ⟨g, kk * 5 + 3, none⟩ = false := hfr 3; have k4 := bc4 (zaI HX.out); obtain ⟨y2, hy2⟩ : ∃ y, y = x.f2.take 8 := ⟨_, rfl⟩; obtain ⟨y3, hy3⟩ : ∃ y, y = x.f3.take 3 := ⟨_, rfl⟩; have e8 : min (x.f2.length : Int) 8 = (y2.length : Int) := by rw [hy2, zpD]; omega
    have e9 : min (x.f3.length : Int) 3 = (y3.length : Int) := by rw [hy3, zpD]; omega
    have b8 : (y2.length : Int) <= (e2 : Int) := by rw [hy2, zpD]; omega
    have b9 : (y3.length : Int) <= (e3 : Int) := by rw [hy3, zpD]; omega
    have HY := zpo (And.intro hy2 hy3); have HFS := zpo (And.intro hcc (And.intro hF2 hF3)); have HCU := zpo (And.intro hcur (And.intro hgb hgl)); clear hy2 hy3 hcc hfr hF2 hF3 hFK hcl hcur hgb hgl hll hc2 hc3; go_wp2_with fail; refine zdK (n := 42) (S := fun W => W.cell? ⟨G, 4, none⟩ = some (.slice (some ⟨g, 0, none⟩) n4.length d4) /\ W.cell? ⟨g, kk * 5 + 3, none⟩ = some (.slice B3 x.f3.length e3)) (ds := [41]) (upX 42 0 [11, 17, 18, 19, 20, 38, 41]) (by kernel_rfl) rfl (by kernel_rfl) ⟨k4, p3⟩ (fun hHeld => ?_)
    iterate 11
     refine zfn (v := ?_) (a' := ?_) rfl (by decide +kernel) (fun _ _ _ h => h) (zqK ⟨by rfl, ?_⟩) hHeld ?_ ?_
     rotate_left
     . rintro w' ⟨s0, s2⟩
       go_simp
       with_reducible rfl
     rotate_left
     . simp only [Act.put, List.getElem_toArray, List.getElem_cons_zero, List.getElem_cons_succ, zqL, zqM, zqN, zam, zan]
       rfl
    iterate 1 (refine zgz (by decide +kernel) ?_)
    iterate 5
     refine zfn (v := ?_) (a' := ?_) rfl (by decide +kernel) (fun _ _ _ h => h) (zqK ⟨by rfl, ?_⟩) hHeld ?_ ?_
     rotate_left
     . rintro w' ⟨s0, s2⟩
       go_simp
       with_reducible rfl
     rotate_left
     . simp only [Act.put, List.getElem_toArray, List.getElem_cons_zero, List.getElem_cons_succ, zqL, zqM, zqN, zam, zan]
       rfl
    iterate 4 (refine zgz (by decide +kernel) ?_)
    iterate 15
     refine zfn (v := ?_) (a' := ?_) rfl (by decide +kernel) (fun _ _ _ h => h) (zqK ⟨by rfl, ?_⟩) hHeld ?_ ?_
     rotate_left
     . rintro w' ⟨s0, s2⟩
       go_simp
       with_reducible rfl
     rotate_left
     . simp only [Act.put, List.getElem_toArray, List.getElem_cons_zero, List.getElem_cons_succ, zqL, zqM, zqN, zam, zan]
       rfl
    apply zjm
    . intro tail
      refine two_ (i := 11) (j := 17) (Ni := some 55) (Nj := some 61) (upX 42 36 [17, 18, 19, 20, 38, 41]) (upX 42 36 [11, 18, 19, 20, 38, 41]) rfl rfl rfl rfl (by decide +kernel) (by decide) (by decide) (fun K hK => ?_) (fun K hK => ?_)
      . skip
        refine zcw (w1 := ?_) (v := ?_) (by rfl) rfl ?_ ?_
        rotate_left 2
        . go_simp
          constructor
          . rfl
          . rfl
        refine hK.out _ _ hHeld (fun hHeld => ?_)
        clear hK K; refine zbb (a' := ?_) ?_ ?_; rotate_left
        . show Act.put _ (some 55) _ = _
          simp only [Act.put, List.getElem_toArray, List.getElem_cons_zero, List.getElem_cons_succ, zqL, zqM, zqN, zam, zan]; rfl
        refine one_ (i := 17) (N := some 61) (upX 42 36 [18, 19, 20, 38, 41]) rfl rfl (by decide +kernel) (by decide) (fun K hK => ?_)
        refine zcw (w1 := ?_) (v := ?_) (by rfl) rfl ?_ ?_
        rotate_left 2
        . go_simp
          constructor
          . rfl
          . rfl
        refine hK.out _ _ hHeld (fun hHeld => ?_)
        clear hK K; refine zbb (a' := ?_) ?_ ?_; rotate_left
        . show Act.put _ (some 61) _ = _
          simp only [Act.put, List.getElem_toArray, List.getElem_cons_zero, List.getElem_cons_succ, zqL, zqM, zqN, zam, zan]; rfl
        refine zaE (i := 18) (N := some 62) (v := ?_) (a' := ?_) (upX 42 36 [19, 20, 38, 41]) rfl rfl (by decide +kernel) (fun _ _ _ h => h) (zqK ⟨by rfl, ?_⟩) ?_ ?_
        rotate_left
        . intro w'
          go_simp
          with_reducible rfl
        rotate_left
        . show Act.put _ (some 62) _ = _
          simp only [Act.put, List.getElem_toArray, List.getElem_cons_zero, List.getElem_cons_succ, zqL, zqM, zqN, zam, zan]; rfl
        refine zaE (i := 19) (N := some 63) (v := ?_) (a' := ?_) (upX 42 36 [20, 38, 41]) rfl rfl (by decide +kernel) (fun _ _ _ h => h) (zqK ⟨by rfl, ?_⟩) ?_ ?_
        rotate_left
        . intro w'
          go_simp
          with_reducible rfl
        rotate_left
        . show Act.put _ (some 63) _ = _
          simp only [Act.put, List.getElem_toArray, List.getElem_cons_zero, List.getElem_cons_succ, zqL, zqM, zqN, zam, zan]; rfl
        exact tail
      . skip
        refine zcw (w1 := ?_) (v := ?_) (by rfl) rfl ?_ ?_
        rotate_left 2
        . go_simp
          constructor
          . rfl
          . rfl
        refine hK.out _ _ hHeld (fun hHeld => ?_)
        clear hK K; refine zbb (a' := ?_) ?_ ?_; rotate_left
        . show Act.put _ (some 61) _ = _
          simp only [Act.put, List.getElem_toArray, List.getElem_cons_zero, List.getElem_cons_succ, zqL, zqM, zqN, zam, zan]; rfl
        refine zaE (i := 18) (N := some 62) (v := ?_) (a' := ?_) (upX 42 36 [11, 19, 20, 38, 41]) rfl rfl (by decide +kernel) (fun _ _ _ h => h) (zqK ⟨by rfl, ?_⟩) ?_ ?_
        rotate_left
        . intro w'
          go_simp
          with_reducible rfl
        rotate_left
        . show Act.put _ (some 62) _ = _
          simp only [Act.put, List.getElem_toArray, List.getElem_cons_zero, List.getElem_cons_succ, zqL, zqM, zqN, zam, zan]; rfl
        refine zaE (i := 19) (N := some 63) (v := ?_) (a' := ?_) (upX 42 36 [11, 20, 38, 41]) rfl rfl (by decide +kernel) (fun _ _ _ h => h) (zqK ⟨by rfl, ?_⟩) ?_ ?_
        rotate_left
        . intro w'
          go_simp
          with_reducible rfl
        rotate_left
        . show Act.put _ (some 63) _ = _
          simp only [Act.put, List.getElem_toArray, List.getElem_cons_zero, List.getElem_cons_succ, zqL, zqM, zqN, zam, zan]; rfl
        refine one_ (i := 11) (N := some 55) (upX 42 36 [20, 38, 41]) rfl rfl (by decide +kernel) (by decide) (fun K hK => ?_)
        refine zcw (w1 := ?_) (v := ?_) (by rfl) rfl ?_ ?_
        rotate_left 2
        . go_simp
          constructor
          . rfl
          . rfl
        refine hK.out _ _ hHeld (fun hHeld => ?_)
        clear hK K; refine zbb (a' := ?_) ?_ ?_; rotate_left
        . show Act.put _ (some 55) _ = _
          simp only [Act.put, List.getElem_toArray, List.getElem_cons_zero, List.getElem_cons_succ, zqL, zqM, zqN, zam, zan]; rfl
        exact tail
    refine zaE (i := 20) (N := some 64) (v := ?_) (a' := ?_) (upX 42 36 [38, 41]) rfl rfl (by decide +kernel) (fun _ _ _ h => h) (zqK ⟨by rfl, ?_⟩) ?_ ?_
    rotate_left
    . intro w'
      go_simp
      with_reducible rfl
    rotate_left
    . show Act.put _ (some 64) _ = _
      simp only [Act.put, List.getElem_toArray, List.getElem_cons_zero, List.getElem_cons_succ, zqL, zqM, zqN, zam, zan]; rfl
    iterate 2
     refine zgy (v := ?_) (a' := ?_) rfl (by decide +kernel) (fun _ _ _ h => h) (zqK ⟨by rfl, ?_⟩) ?_ ?_
     rotate_left
     . intro w'
       go_simp
       with_reducible rfl
     rotate_left
     . simp only [Act.put, List.getElem_toArray, List.getElem_cons_zero, List.getElem_cons_succ, zqL, zqM, zqN, zam, zan]
       rfl
    refine one_ (i := 38) (N := none) (upX 42 39 [41]) rfl rfl (by decide +kernel) (by decide) (fun K hK => ?_)
    refine zcQ (w1 := ?_) (by rfl) rfl ?_ ?_
    rotate_left
    . go_simp
      rfl
    have hne : G ≠ g := by have q1 := HGL.out; have q2 := HCU.out.2.1; omega
    have hnz : w.heap.size + 1 ≠ g := by have q1 := HGL.out; have q2 := HCU.out.2.1; have q3 := HGW.out; omega
    have HNE := zpo hne; have HNZ := zpo hnz; have k4b := bc4 (zaP (zaI HX.out) (p := ⟨g, kk * 5 + 2, none⟩) hne (.slice B2 y2.length e2)); have p3b : (wr.drew.setCell ⟨g, kk * 5 + 2, none⟩ (.slice B2 y2.length e2)).cell? ⟨g, kk * 5 + 3, none⟩ = some (.slice B3 x.f3.length e3) := (World.cell?_setCell_other _ _ _ _ (by intro e; injection e with e1 e2; omega)).trans p3
    have f3b : (wr.drew.setCell ⟨g, kk * 5 + 2, none⟩ (.slice B2 y2.length e2)).frozen? ⟨g, kk * 5 + 3, none⟩ = false := zai (zbM (zaI HCU.out.1) (kk * 5 + 2) (.slice B2 y2.length e2)) _; clear hne hnz; refine hK.out _ _ ⟨k4b, p3b⟩ (fun hHeld => ?_)
    clear hK K; iterate 2
     refine zgy (v := ?_) (a' := ?_) rfl (by decide +kernel) (fun _ _ _ h => h) (zqK ⟨by rfl, ?_⟩) ?_ ?_
     rotate_left
     . intro w'
       go_simp
       with_reducible rfl
     rotate_left
     . simp only [Act.put, List.getElem_toArray, List.getElem_cons_zero, List.getElem_cons_succ, zqL, zqM, zqN, zam, zan]
       rfl
    have f3w : wr.frozen? ⟨g, kk * 5 + 3, none⟩ = false := f3; refine zd1 (i := 41) (N := none) (upX 42 42 []) rfl rfl (by decide +kernel) (by decide) (fun K hK => ?_)
    refine zcQ (w1 := ?_) (by rfl) rfl ?_ ?_
    rotate_left
    . go_simp
      rfl
    refine hK.out _ _ ?_; clear hK K; refine zd5 (by decide +kernel) ?_
    have hcd := zaI HCU.out.1; have hcd2 := zbM hcd (kk * 5 + 2) (.slice B2 y2.length e2); have hgW : w.heap.size <= g := by have q1 := HNZ.out; have q2 := HCU.out.2.1; have q3 := HB3s.out; omega
    have hb8 := ((zaW HB.out).setCell (p := ⟨g, kk * 5 + 2, none⟩) hgW (.slice B2 y2.length e2)).setCell (p := ⟨g, kk * 5 + 3, none⟩) hgW (.slice B3 y3.length e3); have hx8 := zaP (zaP (zaI HX.out) (p := ⟨g, kk * 5 + 2, none⟩) HNE.out (.slice B2 y2.length e2)) (p := ⟨g, kk * 5 + 3, none⟩) HNE.out (.slice B3 y3.length e3); have hz8 := zaP (zaP (zaI HZ.out) (p := ⟨g, kk * 5 + 2, none⟩) HNZ.out (.slice B2 y2.length e2)) (p := ⟨g, kk * 5 + 3, none⟩) HNZ.out (.slice B3 y3.length e3); have hq1 := zqE (zqE (Kd.R_drew HP1.out) hcd (by decide) (kk * 5 + 2) (.slice B2 y2.length e2)) hcd2 (by decide) (kk * 5 + 3) (.slice B3 y3.length e3)
    have hq2 := zqE (zqE (Kd.R_drew HP2.out) hcd (by decide) (kk * 5 + 2) (.slice B2 y2.length e2)) hcd2 (by decide) (kk * 5 + 3) (.slice B3 y3.length e3)
    have hq3 := zqE (zqE (Kd.R_drew HP3.out) hcd (by decide) (kk * 5 + 2) (.slice B2 y2.length e2)) hcd2 (by decide) (kk * 5 + 3) (.slice B3 y3.length e3)
    have hM : Kd.FK k24 wr.drew (fun k => w3.heap.size <= k /\ k ≠ g) (zaR x) [.string x.f0, .int .i64 x.f1, .slice B2 y2.length e2, .slice B3 y3.length e3, .int .i64 x.f4] := by
     have z2 := ziW HFS.out.2.1 8; have z3 := ziW HFS.out.2.2 3; rw [<- HY.out.1] at z2; rw [<- HY.out.2] at z3; have z4 : zaR x = ⟨x.f0, x.f1, y2, y3, x.f4⟩ := by rw [HY.out.1, HY.out.2]; rfl
     rw [z4]; exact zjy wr.drew _ ⟨x.f0, x.f1, y2, y3, x.f4⟩ (by show y2.length <= e2; omega) (Kd.F_drew z2) (by show y3.length <= e3; omega) (Kd.F_drew z3)
    have hn8 := (Kd.N_seg (Kd.N_drew HN.out) (kk : Int) (Int.natCast_nonneg _) (by omega) (c := [.string x.f0, .int .i64 x.f1, .slice B2 x.f2.length e2, .slice B3 x.f3.length e3, .int .i64 x.f4]) (seg := [.slice B2 y2.length e2, .slice B3 y3.length e3]) (j := 2) rfl (fun j u hu => HFS.out.1 j u hu) (show 2 + 2 <= 5 by decide) hM (fun _ hk => hk)).1
    rw [zqF, HSET.out] at hn8; have hn9 : Kd.N k24 24 ((wr.drew.setCell ⟨g, kk * 5 + 2, none⟩ (.slice B2 y2.length e2)).setCell ⟨g, kk * 5 + 3, none⟩ (.slice B3 y3.length e3)) w3.heap.size (fun k => w3.heap.size <= k) (.slice (some ⟨g, 0, none⟩) n4.length d4) ((n4.take (kk + 1)).map zaR ++ n4.drop (kk + 1)) := hn8
    have e8 : (wr.drew.setCell ⟨g, kk * 5 + 2, none⟩ (.slice B2 y2.length e2)).setCell ⟨g, kk * 5 + 3, none⟩ (.slice B3 y3.length e3) = ((wr.setCell ⟨g, kk * 5 + 2, none⟩ (.slice B2 y2.length e2)).setCell ⟨g, kk * 5 + 3, none⟩ (.slice B3 y3.length e3)).drew := rfl; rw [e8] at hb8 hx8 hz8 hq1 hq2 hq3 hn9; go_wp2_with fail; generalize ((wr.setCell ⟨g, kk * 5 + 2, none⟩ (.slice B2 y2.length e2)).setCell ⟨g, kk * 5 + 3, none⟩ (.slice B3 y3.length e3)).drew = w8 at hb8 hx8 hz8 hq1 hq2 hq3 hn9 |-; have HB8 := zpo hb8; have HX8 := zpo hx8; have HZ8 := zpo hz8; have HQ1 := zpo hq1; have HQ2 := zpo hq2; have HQ3 := zpo hq3; have HN9 := zpo hn9; clear e8 f3w hcd hcd2 hb8 hx8 hz8 hq1 hq2 hq3 hn8 hn9 hM k4b p3b f3b p2 p3 f2 f3 k4 hHeld hgW; go_roundg (n4.length - (kk + 1))
    case measure => omega
    case rel => exact ⟨kk + 1, by omega, by omega, by first | rfl | go_num, ⟨HB8.out⟩, ⟨HX8.out⟩, ⟨HZ8.out⟩, ⟨HQ1.out⟩, ⟨HQ2.out⟩, ⟨HQ3.out⟩, ⟨HN9.out⟩⟩
  . have hltz : ¬ (kk : Int) < (n4.length : Int) := by omega
    obtain rfl : kk = n4.length := by omega
    have hR := HN.out; rw [zqa, List.drop_length, List.append_nil] at hR; have HN2 := zpo hR; have hZ := HZ.out; have g0 := bc0 HX.out; have g1 := bc1 HX.out; have g2 := bc2 HX.out; have g3 := bc3 HX.out; have g4 := bc4 HX.out; have r0 := bc0 hZ; have r1 := bc1 hZ; have r2 := bc2 hZ; have r3 := bc3 hZ; have r4 := bc4 hZ; have z0 := zai hZ 0; have z1 := zai hZ 1; have z2 := zai hZ 2; have z3 := zai hZ 3; have z4 := zai hZ 4; clear hR hZ; go_wp2_with fail; have hZok : ∀ k, w3.heap.size <= k -> k ≠ w.heap.size + 1 := by intro k hk e; have q1 := HGW.out; have q2 := HGL.out; omega
    have hs := zcm (.string f0) (.slice X1 n1.length d1) (.slice X2 n2.length d2) (.slice X3 n3.length d3) (.slice X4 n4.length d4) HZ.out; have hA := RS.set5 HP1.out (.string f0) (.slice X1 n1.length d1) (.slice X2 n2.length d2) (.slice X3 n3.length d3) (.slice X4 n4.length d4) HZ.out (by decide)
    have hB := RS.set5 HP2.out (.string f0) (.slice X1 n1.length d1) (.slice X2 n2.length d2) (.slice X3 n3.length d3) (.slice X4 n4.length d4) HZ.out (by decide)
    have hC := RS.set5 HP3.out (.string f0) (.slice X1 n1.length d1) (.slice X2 n2.length d2) (.slice X3 n3.length d3) (.slice X4 n4.length d4) HZ.out (by decide)
    have hE := (Kd.N_far (Kd.N_far (Kd.N_far (Kd.N_far (Kd.N_far HN2.out (p := ⟨w.heap.size + 1, 0, none⟩) hZok (.string f0)) (p := ⟨w.heap.size + 1, 1, none⟩) hZok (.slice X1 n1.length d1)) (p := ⟨w.heap.size + 1, 2, none⟩) hZok (.slice X2 n2.length d2)) (p := ⟨w.heap.size + 1, 3, none⟩) hZok (.slice X3 n3.length d3)) (p := ⟨w.heap.size + 1, 4, none⟩) hZok (.slice X4 n4.length d4)); have hle : w.heap.size <= w.heap.size + 1 := Nat.le_succ _; have hD := ((((HB.out.setCell (p := ⟨w.heap.size + 1, 0, none⟩) hle (.string f0)).setCell (p := ⟨w.heap.size + 1, 1, none⟩) hle (.slice X1 n1.length d1)).setCell (p := ⟨w.heap.size + 1, 2, none⟩) hle (.slice X2 n2.length d2)).setCell (p := ⟨w.heap.size + 1, 3, none⟩) hle (.slice X3 n3.length d3)).setCell (p := ⟨w.heap.size + 1, 4, none⟩) hle (.slice X4 n4.length d4); clear g0 g1 g2 g3 g4 r0 r1 r2 r3 r4 z0 z1 z2 z3 z4 hZok; unfold set5 at hs hA hB hC; generalize ((((wr.setCell ⟨w.heap.size + 1, 0, none⟩ (.string f0)).setCell ⟨w.heap.size + 1, 1, none⟩ (.slice X1 n1.length d1)).setCell ⟨w.heap.size + 1, 2, none⟩ (.slice X2 n2.length d2)).setCell ⟨w.heap.size + 1, 3, none⟩ (.slice X3 n3.length d3)).setCell ⟨w.heap.size + 1, 4, none⟩ (.slice X4 n4.length d4) = wE at hs hA hB hC hD hE |-; have g0 := (zaf hs 0).trans rfl; have g1 := (zaf hs 1).trans rfl; have g2 := (zaf hs 2).trans rfl; have g3 := (zaf hs 3).trans rfl; have g4 := (zaf hs 4).trans rfl; have hup : ∀ k, w3.heap.size <= k -> w.heap.size <= k := fun k hk => Nat.le_trans HB3s.out hk
    have hF : Kd.FK k45 wE (fun k => w.heap.size <= k) (zdr ⟨f0, l1, l2, l3, l4⟩) [.string f0, .slice X1 n1.length d1, .slice X2 n2.length d2, .slice X3 n3.length d3, .slice X4 n4.length d4] := by
     have q4 := Kd.F_mono (Kd.N_F hE) hup; have q5 := (Kd.N_reads' hE).2.1; have e1 : zdr ⟨f0, l1, l2, l3, l4⟩ = ⟨f0, n1, n2, n3, n4.map zaR⟩ := by rw [HNQ.out.1, HNQ.out.2.1, HNQ.out.2.2.1, HNQ.out.2.2.2]; rfl
     have e2 : (n4.map zaR).length = n4.length := zp9 _; rw [e1]; have q := znX wE (fun k => w.heap.size <= k) ⟨f0, n1, n2, n3, n4.map zaR⟩ (Kd.R_reads' hA).2.1 (Kd.R_F (Kd.R_mono (Kd.R_bound hA) (fun k h => hup k h.2.1))) (Kd.R_reads' hB).2.1 (Kd.R_F (Kd.R_mono (Kd.R_bound hB) (fun k h => hup k h.2.1))) (Kd.R_reads' hC).2.1 (Kd.R_F (Kd.R_mono (Kd.R_bound hC) (fun k h => hup k h.2.1))) (A4 := X4) (c4 := d4) (by rw [e2]; exact q5) (by rw [e2]; exact q4)
     rw [e2] at q; exact q
    exact bodyPost_ret (v := .agg #[.string f0, .slice X1 n1.length d1, .slice X2 n2.length d2, .slice X3 n3.length d3, .slice X4 n4.length d4]) (by simp [results, Tryz.results53, go_sem, g0, g1, g2, g3, g4]) rfl (zol HNQ.out hF hD)
end YtdpgdnpddndeoaaGreatDoor.X
namespace YtdpgdnpddndeoaaGreatDoor.X
def glu (cur : zaa) : List zaa -> List zaa
 | [] => [cur]
 | p :: q => (cur ++ p) :: q
theorem zgA (l : List zaa) (h : l ≠ []) : glu [] l = l := by
 cases l with
 | nil => exact absurd rfl h
 | cons p q => rfl
theorem zh2 (a b : zaa) (l : List zaa) : glu a (glu b l) = glu (a ++ b) l := by
 cases l with
 | nil => rfl
 | cons p q => simp [glu]
theorem zj5 (c : UInt8) (r : zaa) : za0 c (c :: r) = [] :: za0 c r := by simp [za0]
theorem zgJ {x c : UInt8} (h : x ≠ c) (r : zaa) : za0 c (x :: r) = glu [x] (za0 c r) := by
 conv => lhs; unfold za0
 rw [if_neg h]; cases za0 c r with
 | nil => rfl
 | cons p q => rfl
def zby (b : zaa) : zaa := if b.getLast? = some 10 then b.dropLast else b
def zbs (b : zaa) : List zaa := if b = [] then [] else za0 10 (zby b)
def zbk : zaa -> zaa -> Bool -> List zaa
 | [], t, i => if i then [t] else []
 | c :: r, t, _ => if c = 10 then t :: zbk r [] false else zbk r (t ++ [c]) true
theorem zhG : zby [] = [] := rfl
theorem ziu (c : UInt8) (r : zaa) (h : r ≠ []) : zby (c :: r) = c :: zby r := by
 unfold zby; cases r with
 | nil => exact absurd rfl h
 | cons d r =>
  rw [List.getLast?_cons_cons]; split
  . rw [List.dropLast_cons_cons]
  . rfl
theorem zfO : ∀ (b t : zaa) (i : Bool), (i = true ↔ t ≠ []) -> b ≠ [] \/ t ≠ [] -> zbk b t i = glu t (za0 10 (zby b))
 | [], t, i, hi, h => by
  have ht : t ≠ [] := h.resolve_left (fun e => e rfl)
  unfold zbk; rw [if_pos (hi.2 ht)]; simp [zhG, za0, glu]
 | c :: r, t, i, hi, _ => by
  unfold zbk; by_cases hc : c = 10
  . subst hc
    rw [if_pos rfl]; by_cases hr : r = []
    . subst hr
      simp [zbk, zby, za0, glu]
    . rw [ziu 10 r hr, zj5, zfO r [] false (by simp) (.inl hr), zgA _ (zgs _ _)]
      simp [glu]
  . rw [if_neg hc, zfO r (t ++ [c]) true (by simp) (.inr (by simp))]
    by_cases hr : r = []
    . subst hr
      have : zby [c] = [c] := by
       unfold zby; rw [if_neg (by simpa using hc)]
      rw [this, zhG, zgJ hc, zh2]
    . rw [ziu c r hr, zgJ hc, zh2]
theorem zhJ (b : zaa) : zbk b [] false = zbs b := by
 unfold zbs; by_cases h : b = []
 . subst h; rfl
 . rw [if_neg h, zfO b [] false (by simp) (.inl h), zgA _ (zgs _ _)]
theorem zez (b : zaa) : (zbs b).length <= b.length /\ ∀ x ∈ zbs b, x.length <= b.length := by
 rw [<- zhJ]; have key : ∀ (b t : zaa) (i : Bool), (i = true -> t ≠ []) -> (zbk b t i).length <= b.length + (if i then 1 else 0) /\ ∀ x ∈ zbk b t i, x.length <= t.length + b.length := by
  intro b; induction b with
  | nil =>
   intro t i _; unfold zbk; cases i <;> simp
  | cons c r ih =>
   intro t i _; unfold zbk; split
   . have := ih [] false (by simp)
     refine ⟨by simp at this |-; have := this.1; split <;> omega, fun x hx => ?_⟩
     rcases zqH.1 hx with rfl | hx
     . omega
     . have := this.2 x hx
       simp at this |-
       omega
   . have := ih (t ++ [c]) true (by simp)
     refine ⟨by have := this.1; simp at this |-; omega, fun x hx => ?_⟩
     have := this.2 x hx; simp at this |-
     omega
 have := key b [] false (by simp)
 exact ⟨by simpa using this.1, fun x hx => by have := this.2 x hx; simpa using this⟩
def zaC (l : List zaa) : zaa := (l.map (· ++ [10])).flatten
def zch (l : List zaa) (x : zaa) : Nat := (l.takeWhile fun y => decide (y <= x)).length
def putS (l : List zaa) (x : zaa) : List zaa := l.take (zch l x) ++ [x] ++ l.drop (zch l x)
theorem zfb {α : Type} (p : α -> Bool) : ∀ l : List α, l.take (l.takeWhile p).length = l.takeWhile p /\ l.drop (l.takeWhile p).length = l.dropWhile p
 | [] => ⟨rfl, rfl⟩
 | y :: r => by
  rw [List.takeWhile_cons, List.dropWhile_cons]; by_cases h : p y = true
  . have := zfb p r
    rw [if_pos h, if_pos h]; exact ⟨by rw [zqc, List.take_succ_cons, this.1], by rw [zqc, zqC, this.2]⟩
  . rw [if_neg h, if_neg h]
    exact ⟨rfl, rfl⟩
theorem zhK (l : List zaa) (x : zaa) : putS l x = l.takeWhile (fun y => decide (y <= x)) ++ [x] ++ l.dropWhile (fun y => decide (y <= x)) := by
 unfold putS zch; rw [(zfb _ l).1, (zfb _ l).2]
theorem zm8 (l : List zaa) (x : zaa) : (putS l x).Perm (x :: l) := by
 rw [zhK]; have h : l.takeWhile (fun y => decide (y <= x)) ++ l.dropWhile (fun y => decide (y <= x)) = l := List.takeWhile_append_dropWhile
 have := List.perm_middle (a := x) (l₁ := l.takeWhile (fun y => decide (y <= x))) (l₂ := l.dropWhile (fun y => decide (y <= x)))
 rw [h] at this; simpa using this
theorem ziY {α : Type} {f : α -> Bool} {p : α} : ∀ l : List α, p ∈ l.takeWhile f -> f p = true
 | [], h => by cases h
 | y :: r, h => by
  rw [List.takeWhile_cons] at h; split at h
  . rename_i hy
    rcases zqH.1 h with rfl | h
    . exact hy
    . exact ziY r h
  . cases h
theorem zm9 (l : List zaa) (x : zaa) (h : l.Pairwise (· <= ·)) : (putS l x).Pairwise (· <= ·) := by
 rw [zhK]; have hs : l.takeWhile (fun y => decide (y <= x)) ++ l.dropWhile (fun y => decide (y <= x)) = l := List.takeWhile_append_dropWhile
 have hp := h; rw [<- hs] at hp; obtain ⟨h1, h2, h3⟩ := List.pairwise_append.1 hp; have hd : ∀ y ∈ l.dropWhile (fun y => decide (y <= x)), x <= y := by
  have hh := List.head?_dropWhile_not (p := fun y : zaa => decide (y <= x)) l
  generalize l.dropWhile (fun y => decide (y <= x)) = b at h2 hh
  cases b with
  | nil => intro y hy; cases hy
  | cons z r =>
   have hz : ¬ z <= x := by simpa using hh
   have hz2 : x <= z := List.le_of_lt (List.not_le.1 hz); intro y hy; rcases zqH.1 hy with rfl | hy
   . exact hz2
   . exact List.le_trans hz2 ((List.pairwise_cons.1 h2).1 y hy)
 rw [zqG]; refine List.pairwise_append.2 ⟨h1, List.pairwise_cons.2 ⟨hd, h2⟩, fun a ha b hb => ?_⟩
 have hax : a <= x := by simpa using ziY _ ha
 rcases zqH.1 hb with rfl | hb
 . exact hax
 . exact h3 a ha b hb
theorem zdg (l : List zaa) : l.foldl putS [] = l.mergeSort fun x y => decide (x <= y) := by
 have key : ∀ (l a : List zaa), a.Pairwise (· <= ·) -> (l.foldl putS a).Pairwise (· <= ·) /\ (l.foldl putS a).Perm (a ++ l) := by
  intro l; induction l with
  | nil => exact fun a h => ⟨h, by simp⟩
  | cons x r ih =>
   intro a h; have := ih (putS a x) (zm9 a x h); refine ⟨this.1, this.2.trans ?_⟩; have hp := (zm8 a x).append_right r; refine hp.trans ?_; simpa using (List.perm_middle (a := x) (l₁ := a) (l₂ := r)).symm
 have hk := key l [] List.Pairwise.nil; have hm := List.pairwise_mergeSort (le := fun x y : zaa => decide (x <= y)) (fun a b c hab hbc => by simp only [decide_eq_true_eq] at *; exact List.le_trans hab hbc)
  (fun a b => by simp only [Bool.or_eq_true, decide_eq_true_eq]; exact List.le_total a b) l
 refine List.Perm.eq_of_pairwise (le := fun x y : zaa => x <= y) (fun a b _ _ h1 h2 => List.le_antisymm h1 h2) hk.1 (hm.imp (fun h => by simpa using h)) (hk.2.trans ?_)
 simpa using (List.mergeSort_perm l fun x y => decide (x <= y)).symm
theorem zlr (b : zaa) : Lib.trimSuffix b [10] = zby b := by
 unfold Lib.trimSuffix zby Lib.hasSuffix; have h : ([10] : zaa).isSuffixOf b = decide (b.getLast? = some 10) := by
  rw [zqI, List.isSuffixOf_iff_suffix, decide_eq_true_eq]; constructor
  . rintro ⟨t, rfl⟩
    simp
  . intro h
    obtain ⟨ys, rfl⟩ := List.getLast?_eq_some_iff.1 h; exact ⟨ys, rfl⟩
 rw [h]; by_cases hb : b.getLast? = some 10
 . rw [if_pos (by simpa using hb), if_pos hb, List.dropLast_eq_take]
   rfl
 . rw [if_neg (by simpa using hb), if_neg hb]
def hasR (s t : zaa) : Bool := (List.range (s.length + 1 - t.length)).any fun i => (s.drop i).take t.length == t
theorem zk7 (s t : zaa) : hasR s t = Lib.contains s t := by
 rw [zqI]; unfold hasR Lib.contains; rw [List.any_eq_true, decide_eq_true_eq]; constructor
 . rintro ⟨i, hi, he⟩
   have hi2 := List.mem_range.1 hi; rcases Lib.index_spec s t with ⟨h1, h2⟩ | ⟨j, h1, _⟩
   . have := h2 i (by omega)
     rw [Lib.occAt_iff_take s t i (by omega), he] at this
     cases this
   . omega
 . intro h
   rcases Lib.index_spec s t with ⟨h1, _⟩ | ⟨i, h1, h2, h3, _⟩
   . omega
   . have hr := Lib.index_room s t h
     refine ⟨i, List.mem_range.2 (by omega), ?_⟩
     rw [<- Lib.occAt_iff_take s t i (by omega)]
     exact h3
def zbr (old new : zaa) : Nat -> zaa -> zaa
 | 0, s => s
 | _ + 1, [] => []
 | n + 1, c :: r => if old.length <= (c :: r).length /\ (c :: r).take old.length = old then new ++ zbr old new n ((c :: r).drop old.length) else c :: zbr old new n r
theorem zdc (old new : zaa) (n : Nat) (c : UInt8) (r : zaa) : zbr old new (n + 1) (c :: r) = if old.length <= (c :: r).length /\ (c :: r).take old.length = old then new ++ zbr old new n ((c :: r).drop old.length) else c :: zbr old new n r := rfl
theorem zfA (s t : zaa) : Lib.occAt s t 0 = true ↔ t.length <= s.length /\ s.take t.length = t := by
 constructor
 . intro h
   rcases Lib.occAt_room h with h1 | rfl
   . refine ⟨by omega, ?_⟩
     rw [Lib.occAt_iff_take s t 0 (by omega)] at h
     simpa using h
   . simp
 . rintro ⟨h1, h2⟩
   rw [Lib.occAt_iff_take s t 0 (by omega)]
   simpa using h2
theorem zgk (c : UInt8) (r t : zaa) (i : Nat) : Lib.occAt (c :: r) t (i + 1) = Lib.occAt r t i := by
 unfold Lib.occAt; rw [zqC]
theorem zhz (old new : zaa) : ∀ (n : Nat) (s : zaa), (∀ j, j <= s.length -> Lib.occAt s old j = false) -> zbr old new n s = s
 | 0, _, _ => rfl
 | _ + 1, [], _ => rfl
 | n + 1, c :: r, h => by
  rw [zdc]; rw [if_neg (fun e => by have := (zfA (c :: r) old).2 e; rw [h 0 (by omega)] at this; cases this)]
  rw [zhz old new n r (fun j hj => by rw [<- zgk c r old j]; exact h (j + 1) (by simp; omega))]
theorem ziC (old new : zaa) (ho : old ≠ []) : ∀ (i n : Nat) (s : zaa), i + old.length <= s.length -> Lib.occAt s old i = true -> (∀ j, j < i -> Lib.occAt s old j = false) -> zbr old new (n + i + 1) s = s.take i ++ new ++ zbr old new n (s.drop (i + old.length))
 | 0, n, s, hl, h, _ => by
  cases s with
  | nil => simp at hl; exact absurd hl ho
  | cons c r =>
   rw [zdc]; rw [if_pos ((zfA _ _).1 h)]; simp
 | i + 1, n, s, hl, h, hn => by
  cases s with
  | nil => simp at hl
  | cons c r =>
   rw [zdc]; rw [if_neg (fun e => by have := (zfA (c :: r) old).2 e; rw [hn 0 (by omega)] at this; cases this)]
   have := ziC old new ho i n r (by simp at hl; omega) (by rw [<- zgk c]; exact h) (fun j hj => by rw [<- zgk c]; exact hn (j + 1) (by omega))
   rw [show n + (i + 1) = n + i + 1 from rfl, this]
   rw [List.take_succ_cons, show i + 1 + old.length = (i + old.length) + 1 by omega, zqC]
   rfl
theorem zeH (old new : zaa) (ho : old ≠ []) : ∀ (m n : Nat) (s : zaa), s.length <= m -> s.length <= n -> zbr old new m s = zbr old new n s
 | 0, n, s, h, _ => by
  obtain rfl : s = [] := by cases s with | nil => rfl | cons _ _ => simp at h
  cases n <;> rfl
 | m + 1, 0, s, _, h => by
  obtain rfl : s = [] := by cases s with | nil => rfl | cons _ _ => simp at h
  rfl
 | m + 1, n + 1, [], _, _ => rfl
 | m + 1, n + 1, c :: r, h1, h2 => by
  simp only [zqc] at h1 h2; have hol : 1 <= old.length := by cases old with | nil => exact absurd rfl ho | cons _ _ => simp
  rw [zdc, zdc]; split
  . rw [zeH old new ho m n _ (by rw [List.length_drop, zqc]; omega) (by rw [List.length_drop, zqc]; omega)]
  . rw [zeH old new ho m n r (by omega) (by omega)]
theorem zhi (old new : zaa) (ho : old ≠ []) : ∀ (k : Nat) (s : zaa), Lib.count s old = k -> Lib.replaceK old new k s = zbr old new s.length s
 | 0, s, hk => by
  have hm : Lib.index s old = -1 := by
   rcases Lib.index_spec s old with ⟨h1, _⟩ | ⟨i, h1, _⟩
   . exact h1
   . rw [Lib.count_hit ho h1] at hk; omega
  rcases Lib.index_spec s old with ⟨_, h2⟩ | ⟨i, h1, _⟩
  . rw [zhz old new _ s h2]; rfl
  . omega
 | k + 1, s, hk => by
  obtain ⟨i, hi⟩ := Lib.index_of_count (s := s) (old := old) (by omega)
  have hc := Lib.count_hit ho hi; have ih := zhi old new ho k (s.drop (i + old.length)) (by omega)
  rcases Lib.index_spec s old with ⟨h1, _⟩ | ⟨j, h1, h2, h3, h4⟩
  . omega
  . obtain rfl : i = j := by omega
    have hr := Lib.index_room s old (by omega)
    rw [Lib.replaceK_hit old new k s i hi, ih, zeH old new ho s.length ((s.drop (i + old.length)).length + i + 1 + s.length) s (by omega) (by omega)]
    rw [show (s.drop (i + old.length)).length + i + 1 + s.length = ((s.drop (i + old.length)).length + s.length) + i + 1 by omega]
    rw [ziC old new ho i _ s (by omega) h3 h4]
    rw [zeH old new ho ((s.drop (i + old.length)).length + s.length) (s.drop (i + old.length)).length _ (by omega) (by omega)]
theorem zfK (old : zaa) (ho : old ≠ []) : ∀ (n : Nat) (s : zaa), zbr old old n s = s
 | 0, _ => rfl
 | _ + 1, [] => rfl
 | n + 1, c :: r => by
  rw [zdc]; split
  . rename_i h
    rw [zfK old ho n]; conv => rhs; rw [<- List.take_append_drop old.length (c :: r)]
    rw [h.2]
  . rw [zfK old ho n r]
theorem zlc (s old new : zaa) (ho : old ≠ []) : Lib.replaceAll s old new = zbr old new s.length s := by
 unfold Lib.replaceAll Lib.replace; by_cases h : old = new
 . subst h
   rw [if_pos (by simp), zfK old ho]
 . rw [if_neg (by simpa using h)]
   have : Lib.replaceNum s old (-1) = Lib.count s old := by unfold Lib.replaceNum; rw [if_pos (by omega)]
   rw [this]; exact zhi old new ho _ s rfl
structure Cmd where
 op : Int
 n : Int
 args : Nat
 lits : List zaa
def zbq (op : Int) : Nat × Nat × Nat := if op = 5 then (0, 6, 0) else if op = 6 then (0, 0, 1) else if op = 7 then (1, 1, 1) else if op = 8 then (1, 1, 2) else (1, 1, 0)
def mayC (s : Cmd) : Bool :=
 !(decide (s.op < 1) || decide (9 < s.op) || decide (s.args < (zbq s.op).1) || decide ((zbq s.op).2.1 < s.args) || decide (s.lits.length ≠ (zbq s.op).2.2) || s.lits.any (fun l => decide (100 < l.length))) &&
 !((s.op == 8 && s.lits.getD 0 [] == []) || decide (s.n < 0) || decide (2000 < s.n) || (s.op != 9 && s.n != 0))
def zc6 (s : Cmd) : Option (Nat × Nat) :=
 if s.op = 1 \/ s.op = 2 \/ s.op = 3 \/ s.op = 4 \/ s.op = 9 then some (1, 0) else if s.op = 5 then some (min s.args 6, 0) else if s.op = 6 then some (0, 1) else if s.op = 7 then some (1, 1) else if s.op = 8 then some (1, 2) else none
def zcp (s : Cmd) : Bool := match zc6 s with
 | none => false
 | some (a, k) => !s.lits.any (fun l => decide (100 < l.length)) && (s.args == a && s.lits.length == k && (s.op != 8 || s.lits.getD 0 [] != []) && decide (0 <= s.n) && decide (s.n <= 2000) && (s.op == 9 || s.n == 0))
theorem zh1 (s : Cmd) : mayC s = zcp s := by
 obtain ⟨op, n, args, lits⟩ := s; unfold mayC zcp zc6 zbq; simp only [bne]; generalize lits.any (fun l => decide (100 < l.length)) = long
 generalize (lits.getD 0 [] == []) = nul; generalize lits.length = k; by_cases hlo : op < 1
 . have e1 : op ≠ 1 := by omega
   have e2 : op ≠ 2 := by omega
   have e3 : op ≠ 3 := by omega
   have e4 : op ≠ 4 := by omega
   have e5 : op ≠ 5 := by omega
   have e6 : op ≠ 6 := by omega
   have e7 : op ≠ 7 := by omega
   have e8 : op ≠ 8 := by omega
   have e9 : op ≠ 9 := by omega
   simp [hlo, e1, e2, e3, e4, e5, e6, e7, e8, e9]
 by_cases hhi : 9 < op
 . have e1 : op ≠ 1 := by omega
   have e2 : op ≠ 2 := by omega
   have e3 : op ≠ 3 := by omega
   have e4 : op ≠ 4 := by omega
   have e5 : op ≠ 5 := by omega
   have e6 : op ≠ 6 := by omega
   have e7 : op ≠ 7 := by omega
   have e8 : op ≠ 8 := by omega
   have e9 : op ≠ 9 := by omega
   simp [hhi, e1, e2, e3, e4, e5, e6, e7, e8, e9]
 have hop : op = 1 \/ op = 2 \/ op = 3 \/ op = 4 \/ op = 5 \/ op = 6 \/ op = 7 \/ op = 8 \/ op = 9 := by omega
 rcases hop with rfl | rfl | rfl | rfl | rfl | rfl | rfl | rfl | rfl <;> (rw [zqI]; cases long <;> cases nul <;> simp <;> omega)
def zau (s : Cmd) (bs : List zaa) : zaa × Bool :=
 if s.op = 1 then (bs.getD 0 [], true)
 else if s.op = 2 then (bs.getD 0 [], !(bs.getD 0 [] == []))
 else if s.op = 3 then (zaC ((zbs (bs.getD 0 [])).mergeSort fun x y => decide (x <= y)), true)
 else if s.op = 4 then (zaH ((zbs (bs.getD 0 [])).length : Int) ++ [10], true)
 else if s.op = 5 then (bs.flatten, true)
 else if s.op = 6 then (s.lits.getD 0 [], true)
 else if s.op = 7 then (zaC ((zbs (bs.getD 0 [])).filter fun x => Lib.contains x (s.lits.getD 0 [])), true)
 else if s.op = 8 then (Lib.replaceAll (bs.getD 0 []) (s.lits.getD 0 []) (s.lits.getD 1 []), true)
 else ((bs.getD 0 []).take s.n.toNat, true)
theorem zkh {s : Cmd} (h : mayC s = true) : 1 <= s.op /\ s.op <= 9 /\ (s.op = 8 -> s.lits.getD 0 [] ≠ []) := by
 unfold mayC at h; rw [Bool.and_eq_true] at h; obtain ⟨h1, h2⟩ := h; simp only [Bool.not_eq_true', Bool.or_eq_false_iff, decide_eq_false_iff_not] at h1 h2; refine ⟨by omega, by omega, fun e hn => ?_⟩
 have := h2.1.1.1; rw [e, hn] at this; exact absurd this (by decide)
def zeB (text : Cmd -> List zaa -> zaa × Bool) (may : Cmd -> Bool) (s : Cmd) (vs : List (Option zaa)) : Option zaa :=
 if may s = false \/ vs.length ≠ s.args \/ vs.any (·.isNone) then none
 else if (text s (vs.map (·.getD []))).2 = false \/ 2000 < (text s (vs.map (·.getD []))).1.length then none else some (text s (vs.map (·.getD []))).1
def doP := zeB zau mayC
structure zb7 where
 out : zaa
 cmd : Cmd
 args : List zaa
structure zc7 where
 ins : List zaa
 outs : List zaa
 steps : List zb7
abbrev VB := Option zaa
structure zd4 where
 name : zaa
 after : List zaa
 body : zc7
def zb0 (l : List zaa) : Bool := !decide l.Nodup
def zdx (r : zd4) : Bool :=
 may r.name && !r.body.outs.isEmpty && (r.body.ins.all may && r.body.outs.all may && r.after.all may) && r.body.steps.all fun s => may s.out && s.args.all may && mayC s.cmd
def zcB : List zb7 -> List zaa -> Option (List zaa)
 | [], known => some known
 | s :: r, known => if known.contains s.out || s.args.any (fun a => !known.contains a) then none else zcB r (known ++ [s.out])
def zdk (r : zd4) : Bool :=
 !(zb0 r.body.ins || zb0 r.body.outs || zb0 r.after || r.after.contains r.name) && !(r.body.outs.any fun o => r.body.ins.contains o) && match zcB r.body.steps r.body.ins with
  | none => false
  | some known => !(r.body.outs.any fun o => !known.contains o)
def ziS (form names : zd4 -> Bool) (r : zd4) : Int :=
 if form r = false then 1 else if 8 < r.body.ins.length \/ 4 < r.body.outs.length \/ 8 < r.after.length \/ 12 < r.body.steps.length then 4 else if names r = false then 2 else 0
def zag (x : zar) : Cmd := ⟨x.f1, x.f4, x.f2.length, x.f3.map (·.data.toList)⟩
def zab (l : List ByteArray) : List zaa := l.map (·.data.toList)
def zaN (x : zar) : zb7 := ⟨x.f0.data.toList, zag x, zab x.f2⟩
def zav (r : zaj) : zc7 := ⟨zab r.f1, zab r.f2, r.f4.map zaN⟩
def zcd (r : zaj) : zd4 := ⟨r.f0.data.toList, zab r.f3, zav r⟩
theorem zaL (l : List ByteArray) : (zab l).length = l.length := by unfold zab; rw [zp9]
theorem zce (l : List ByteArray) (k : Nat) (h : k < l.length) : (zab l)[k]'(by rw [zaL]; exact h) = l[k].data.toList := by unfold zab; rw [List.getElem_map]
theorem zcH (l : List zaa) : zab (l.map mk) = l := by
 unfold zab; rw [List.map_map]; conv => rhs; rw [<- List.map_id l]
 exact List.map_congr_left fun x _ => za9 x
end YtdpgdnpddndeoaaGreatDoor.X
section
open Go.Shelf
def Tryz.lays102_ren : Go.Shelf.Ren := ⟨fun | 102 => 58 | 209 => 78 | 207 => 123 | n => n, fun | 9 => 9 | 4 => 4 | 3 => 3 | n => n, fun | n => n⟩
theorem Tryz.lays102 : Go.Proofs.Lays.n102 zp0 Tryz.lays102_ren := {
 mixed := by kernel_rfl
 f102 := Tryz.func58.trans (congrArg some (by kernel_rfl))
 f207 := Tryz.func123.trans (congrArg some (by kernel_rfl))
 f209 := Tryz.func78.trans (congrArg some (by kernel_rfl))
 t3 := Tryz.underlying3
 a3 := Tryz.isAgg3
 z3 := Tryz.sizeOf3
 v3 := Tryz.zeroValue3
 t4 := Tryz.underlying4
 a4 := Tryz.isAgg4
 z4 := Tryz.sizeOf4
 v4 := Tryz.zeroValue4
 t9 := Tryz.underlying9
 a9 := Tryz.isAgg9
 z9 := Tryz.sizeOf9
 v9 := Tryz.zeroValue9 }
def Tryz.lays144_ren : Go.Shelf.Ren := ⟨fun | 144 => 85 | 143 => 122 | 219 => 154 | 217 => 203 | 225 => 204 | 224 => 205 | 267 => 206 | 266 => 228 | 314 => 229 | n => n, fun | 9 => 9 | 4 => 4 | 3 => 3 | 5 => 5 | 46 => 160 | 146 => 237 | 51 => 191 | n => n, fun | 1 => 0 | n => n⟩
theorem Tryz.lays144 : Go.Proofs.Lays.n144 zp0 Tryz.lays144_ren := {
 mixed := by kernel_rfl
 f143 := Tryz.func122.trans (congrArg some (by kernel_rfl))
 f144 := Tryz.func85.trans (congrArg some (by kernel_rfl))
 f217 := Tryz.func203.trans (congrArg some (by kernel_rfl))
 f219 := Tryz.func154.trans (congrArg some (by kernel_rfl))
 f224 := Tryz.func205.trans (congrArg some (by kernel_rfl))
 f225 := Tryz.func204.trans (congrArg some (by kernel_rfl))
 f266 := Tryz.func228.trans (congrArg some (by kernel_rfl))
 f267 := Tryz.func206.trans (congrArg some (by kernel_rfl))
 f314 := Tryz.func229.trans (congrArg some (by kernel_rfl))
 t3 := Tryz.underlying3
 a3 := Tryz.isAgg3
 z3 := Tryz.sizeOf3
 v3 := Tryz.zeroValue3
 t4 := Tryz.underlying4
 a4 := Tryz.isAgg4
 z4 := Tryz.sizeOf4
 v4 := Tryz.zeroValue4
 t5 := Tryz.underlying5
 a5 := Tryz.isAgg5
 z5 := Tryz.sizeOf5
 v5 := Tryz.zeroValue5
 t9 := Tryz.underlying9
 a9 := Tryz.isAgg9
 z9 := Tryz.sizeOf9
 v9 := Tryz.zeroValue9
 t46 := Tryz.underlying160
 a46 := Tryz.isAgg160
 z46 := Tryz.sizeOf160
 v46 := Tryz.zeroValue160
 t51 := Tryz.underlying191
 a51 := Tryz.isAgg191
 z51 := Tryz.sizeOf191
 v51 := Tryz.zeroValue191
 t146 := Tryz.underlying237
 a146 := Tryz.isAgg237
 z146 := Tryz.sizeOf237
 v146 := Tryz.zeroValue237
 g1 := by kernel_rfl }
def Tryz.lays154_ren : Go.Shelf.Ren := ⟨fun | 154 => 130 | 138 => 121 | 165 => 129 | 143 => 122 | 166 => 124 | 197 => 152 | 169 => 125 | 195 => 151 | 218 => 153 | 240 => 155 | 241 => 158 | 219 => 154 | 260 => 202 | 276 => 207 | 277 => 209 | 217 => 203 | 225 => 204 | 224 => 205 | 267 => 206 | 266 => 228 | 314 => 229 | n => n, fun | 9 => 9 | 3 => 3 | 4 => 4 | 72 => 150 | 0 => 0 | 76 => 153 | 105 => 177 | 21 => 21 | 5 => 5 | 70 => 148 | 20 => 20 | 37 => 90 | 75 => 152 | 127 => 180 | 164 => 214 | 46 => 160 | 119 => 233 | 139 => 236 | 138 => 235 | 146 => 237 | 51 => 191 | 80 => 155 | n => n, fun | 1 => 0 | 3 => 1 | 4 => 2 | n => n⟩
theorem Tryz.lays154 : Go.Proofs.Lays.n154 zp0 Tryz.lays154_ren := {
 mixed := by kernel_rfl
 f138 := Tryz.func121.trans (congrArg some (by kernel_rfl))
 f143 := Tryz.func122.trans (congrArg some (by kernel_rfl))
 f154 := Tryz.func130.trans (congrArg some (by kernel_rfl))
 f165 := Tryz.func129.trans (congrArg some (by kernel_rfl))
 f166 := Tryz.func124.trans (congrArg some (by kernel_rfl))
 f169 := Tryz.func125.trans (congrArg some (by kernel_rfl))
 f195 := Tryz.func151.trans (congrArg some (by kernel_rfl))
 f197 := Tryz.func152.trans (congrArg some (by kernel_rfl))
 f217 := Tryz.func203.trans (congrArg some (by kernel_rfl))
 f218 := Tryz.func153.trans (congrArg some (by kernel_rfl))
 f219 := Tryz.func154.trans (congrArg some (by kernel_rfl))
 f224 := Tryz.func205.trans (congrArg some (by kernel_rfl))
 f225 := Tryz.func204.trans (congrArg some (by kernel_rfl))
 f240 := Tryz.func155.trans (congrArg some (by kernel_rfl))
 f241 := Tryz.func158.trans (congrArg some (by kernel_rfl))
 f260 := Tryz.func202.trans (congrArg some (by kernel_rfl))
 f266 := Tryz.func228.trans (congrArg some (by kernel_rfl))
 f267 := Tryz.func206.trans (congrArg some (by kernel_rfl))
 f276 := Tryz.func207.trans (congrArg some (by kernel_rfl))
 f277 := Tryz.func209.trans (congrArg some (by kernel_rfl))
 f314 := Tryz.func229.trans (congrArg some (by kernel_rfl))
 t0 := Tryz.underlying0
 a0 := Tryz.isAgg0
 z0 := Tryz.sizeOf0
 v0 := Tryz.zeroValue0
 t3 := Tryz.underlying3
 a3 := Tryz.isAgg3
 z3 := Tryz.sizeOf3
 v3 := Tryz.zeroValue3
 t4 := Tryz.underlying4
 a4 := Tryz.isAgg4
 z4 := Tryz.sizeOf4
 v4 := Tryz.zeroValue4
 t5 := Tryz.underlying5
 a5 := Tryz.isAgg5
 z5 := Tryz.sizeOf5
 v5 := Tryz.zeroValue5
 t9 := Tryz.underlying9
 a9 := Tryz.isAgg9
 z9 := Tryz.sizeOf9
 v9 := Tryz.zeroValue9
 t20 := Tryz.underlying20
 a20 := Tryz.isAgg20
 z20 := Tryz.sizeOf20
 v20 := Tryz.zeroValue20
 t21 := Tryz.underlying21
 a21 := Tryz.isAgg21
 z21 := Tryz.sizeOf21
 v21 := Tryz.zeroValue21
 t37 := Tryz.underlying90
 a37 := Tryz.isAgg90
 z37 := Tryz.sizeOf90
 v37 := Tryz.zeroValue90
 t46 := Tryz.underlying160
 a46 := Tryz.isAgg160
 z46 := Tryz.sizeOf160
 v46 := Tryz.zeroValue160
 t51 := Tryz.underlying191
 a51 := Tryz.isAgg191
 z51 := Tryz.sizeOf191
 v51 := Tryz.zeroValue191
 t70 := Tryz.underlying148
 a70 := Tryz.isAgg148
 z70 := Tryz.sizeOf148
 v70 := Tryz.zeroValue148
 t72 := Tryz.underlying150
 a72 := Tryz.isAgg150
 z72 := Tryz.sizeOf150
 v72 := Tryz.zeroValue150
 t75 := Tryz.underlying152
 a75 := Tryz.isAgg152
 z75 := Tryz.sizeOf152
 v75 := Tryz.zeroValue152
 t76 := Tryz.underlying153
 a76 := Tryz.isAgg153
 z76 := Tryz.sizeOf153
 v76 := Tryz.zeroValue153
 t105 := Tryz.underlying177
 a105 := Tryz.isAgg177
 z105 := Tryz.sizeOf177
 v105 := Tryz.zeroValue177
 t119 := Tryz.underlying233
 a119 := Tryz.isAgg233
 z119 := Tryz.sizeOf233
 t127 := Tryz.underlying180
 a127 := Tryz.isAgg180
 z127 := Tryz.sizeOf180
 v127 := Tryz.zeroValue180
 t138 := Tryz.underlying235
 a138 := Tryz.isAgg235
 z138 := Tryz.sizeOf235
 v138 := Tryz.zeroValue235
 t139 := Tryz.underlying236
 a139 := Tryz.isAgg236
 z139 := Tryz.sizeOf236
 v139 := Tryz.zeroValue236
 t146 := Tryz.underlying237
 a146 := Tryz.isAgg237
 z146 := Tryz.sizeOf237
 v146 := Tryz.zeroValue237
 t164 := Tryz.underlying214
 a164 := Tryz.isAgg214
 z164 := Tryz.sizeOf214
 v164 := Tryz.zeroValue214
 g1 := by kernel_rfl
 g3 := by kernel_rfl
 g4 := by kernel_rfl }
def Tryz.lays110_ren : Go.Shelf.Ren := ⟨fun | 110 => 92 | 109 => 64 | n => n, fun | 31 => 22 | 9 => 9 | 4 => 4 | 3 => 3 | 0 => 0 | n => n, fun | n => n⟩
theorem Tryz.lays110 : Go.Proofs.Lays.n110 zp0 Tryz.lays110_ren := {
 mixed := by kernel_rfl
 f109 := Tryz.func64.trans (congrArg some (by kernel_rfl))
 f110 := Tryz.func92.trans (congrArg some (by kernel_rfl))
 t0 := Tryz.underlying0
 a0 := Tryz.isAgg0
 z0 := Tryz.sizeOf0
 v0 := Tryz.zeroValue0
 t3 := Tryz.underlying3
 a3 := Tryz.isAgg3
 z3 := Tryz.sizeOf3
 v3 := Tryz.zeroValue3
 t4 := Tryz.underlying4
 a4 := Tryz.isAgg4
 z4 := Tryz.sizeOf4
 v4 := Tryz.zeroValue4
 t9 := Tryz.underlying9
 a9 := Tryz.isAgg9
 z9 := Tryz.sizeOf9
 v9 := Tryz.zeroValue9
 t31 := Tryz.underlying22
 a31 := Tryz.isAgg22
 z31 := Tryz.sizeOf22
 v31 := Tryz.zeroValue22 }
def Tryz.lays194_ren : Go.Shelf.Ren := ⟨fun | 194 => 94 | n => n, fun | 31 => 22 | 9 => 9 | 3 => 3 | 4 => 4 | 0 => 0 | n => n, fun | n => n⟩
theorem Tryz.lays194 : Go.Proofs.Lays.n194 zp0 Tryz.lays194_ren := {
 mixed := by kernel_rfl
 f194 := Tryz.func94.trans (congrArg some (by kernel_rfl))
 t0 := Tryz.underlying0
 a0 := Tryz.isAgg0
 z0 := Tryz.sizeOf0
 v0 := Tryz.zeroValue0
 t3 := Tryz.underlying3
 a3 := Tryz.isAgg3
 z3 := Tryz.sizeOf3
 v3 := Tryz.zeroValue3
 t4 := Tryz.underlying4
 a4 := Tryz.isAgg4
 z4 := Tryz.sizeOf4
 v4 := Tryz.zeroValue4
 t9 := Tryz.underlying9
 a9 := Tryz.isAgg9
 z9 := Tryz.sizeOf9
 v9 := Tryz.zeroValue9
 t31 := Tryz.underlying22
 a31 := Tryz.isAgg22
 z31 := Tryz.sizeOf22
 v31 := Tryz.zeroValue22 }
end
end Go.Proofs
