/-
  What the cards lean on (part V4): contracts of functions, by hand, and plain laws; what is printed by the kit's print for this seat is among them. What is not reached is left out.
-/
import Derived.BigQuiet
import Derived.Deep.QuietTactic
import Derived.Test.YtdpgdnpddndeoaaGreatDoorV3
set_option maxHeartbeats 4000000
set_option maxRecDepth 100000
set_option linter.unusedSimpArgs false
set_option linter.unusedVariables false
open Go.RowKit.Below renaming refl -> zpw
open Nat renaming le_refl -> zpx, le_trans -> zpD, not_lt_zero -> zqx
open Go.Lib renaming size_eq -> zqc
open List renaming eq_nil_of_length_eq_zero -> zpz, getElem?_eq_getElem -> zpA, getD_eq_getElem?_getD -> zpB, length_drop -> zpR, drop_eq_getElem_cons -> zp1, length_cons -> zqh, drop_of_length_le -> zqw, length_pos_iff -> zqz
open Option renaming map_eq_some_iff -> zpC
open UInt8 renaming toNat_inj -> zqy
open Go.Proofs.Tryz renaming prog -> zp5
open ByteArray renaming empty -> zqa
open Go.Proofs.YtdpgdnpddndeoaaGreatDoorW.PrintWords.Kd renaming string -> zqb
namespace Go.Proofs.YtdpgdnpddndeoaaGreatDoor
open Go.RowKit Go.Maps YtdpgdnpddndeoaaGreatDoorW.PrintWords
namespace X
theorem zbO {α : Type} (d : Kd α) (W : World) (e : Nat) (xs : List α) (inner : List Value) (hrep : Reps (d.K W) d.sz xs inner) (hm : xs.length <= 9223372036854775807) :
 d.C (W.alloc (.cells inner.toArray e)) (some ⟨W.heap.size, 0, none⟩) xs.length xs := by
 have h2 := World.ownsRow_lit (base := W.heap.size) (e := e) (size := d.sz) W inner.toArray xs.length (zpx _) (by simpa [maxLen] using hm) (by simpa using hrep.1)
 refine ⟨rfl, hm, fun _ => ⟨_, rfl, fun j p hj => ⟨(inner.drop (j * d.sz)).take d.sz, ?_, d.K_below ((zpw _ _).alloc (zpx _) _) (hrep.2 j p hj), fun i u hu => ?_⟩⟩⟩
 . exact d.K_len (hrep.2 j p hj)
 . have hi : i < d.sz := by
    obtain ⟨hl, _⟩ := List.getElem?_eq_some_iff.1 hu; rw [List.length_take] at hl; omega
   rw [List.getElem?_take_of_lt hi, List.getElem?_drop] at hu; have := h2.cells (g := W.heap.size) rfl (j * d.sz + i) u (by simpa using hu)
   simpa [Addr.add] using this
def shipwrightlaw1_begun.f : Option Bool := some true
theorem shipwrightlaw1_begun.calls (r : Bool) (w : World) (hG : GOK w) (h : shipwrightlaw1_begun.f = some r) :
 Calls zp5 142 #[] w fun e w' => e = .returned (.bool r) /\ Below w.heap.size w w' := by
 obtain rfl := Option.some.inj h; clear h; have HG := zpt hG; clear hG; go_enter Tryz.func142, Tryz.ntmps142
 go_wp2_with fail; refine (Pc.path_Norm.calls 40 ⟨#[97, 47, 47, 46, 47, 98, 47, 46, 46, 47, 99]⟩ ⟨#[97, 47, 99]⟩ true w HG.out (by kernel_rfl)).mono ?_
 rintro e w1 ⟨rfl, hb1⟩; go_wp2_with fail; refine (Pc.path_Norm.calls 40 ⟨#[46, 46]⟩ ⟨#[]⟩ false w1 (HG.out.below hb1) (by kernel_rfl)).mono ?_
 rintro e w2 ⟨rfl, hb2⟩; replace hb2 := zac hb1 hb1.size hb2
 clear hb1; go_wp2_with fail; refine (Pc.mint_Get.calls 40 ⟨#[49, 58, 97, 48, 58]⟩ [⟨#[97]⟩, ⟨#[]⟩] true w2 (HG.out.below hb2) (by kernel_rfl)).mono ?_
 rintro e w3 ⟨v3, rfl, hr3, hb3⟩; replace hb3 := zac hb2 hb2.size hb3
 obtain ⟨A3, c3, rfl, _, _⟩ := Kd.R_reads hr3; clear hb2 hr3; go_wp2_with fail; refine (mint_GetNumber.calls ⟨#[49, 50]⟩ 20 12 true w3 (HG.out.below hb3) (by kernel_rfl)).mono ?_
 rintro e w4 ⟨rfl, hb4⟩; replace hb4 := zac hb3 hb3.size hb4
 clear hb3; go_wp2_with fail; have hr4 := zbO k77 w4 77 [⟨⟨#[98]⟩, ⟨#[120]⟩⟩, ⟨⟨#[97]⟩, ⟨#[]⟩⟩, ⟨⟨#[105, 110]⟩, ⟨#[]⟩⟩] [.string ⟨#[98]⟩, .string ⟨#[120]⟩, .string ⟨#[97]⟩, .string ⟨#[]⟩, .string ⟨#[105, 110]⟩, .string ⟨#[]⟩]
  (Reps.c2 (zeX w4 ⟨⟨#[98]⟩, ⟨#[120]⟩⟩) (Reps.c2 (zeX w4 ⟨⟨#[97]⟩, ⟨#[]⟩⟩) (Reps.c2 (zeX w4 ⟨⟨#[105, 110]⟩, ⟨#[]⟩⟩) (Reps.none _ _)))) (by simp)
 have hb4' := zac hb4 hb4.size ((zpw w4.heap.size w4).alloc (zpx _) (.cells #[Value.string ⟨#[98]⟩, .string ⟨#[120]⟩, .string ⟨#[97]⟩, .string ⟨#[]⟩, .string ⟨#[105, 110]⟩, .string ⟨#[]⟩] 77)); refine (tree_New.calls _ 3 [⟨⟨#[98]⟩, ⟨#[120]⟩⟩, ⟨⟨#[97]⟩, ⟨#[]⟩⟩, ⟨⟨#[105, 110]⟩, ⟨#[]⟩⟩] _ (HG.out.below hb4') hr4 (by decide)).mono ?_
 rintro e w5 ⟨g, b, rfl, hT5, _, hBb, hb5⟩; replace hBb : w.heap.size <= b := zpD hb4'.size hBb
 replace hb5 := zac hb4' hb4'.size hb5
 replace hT5 : IsTree w5 g b [([97], []), ([98], [120])] := hT5
 clear hr4 hb4 hb4'; have HT5 := zpt hT5; have HB5 := zpt hb5; clear hT5 hb5; go_wp2_with fail; refine (tree_Read.calls w5 g b _ HT5.out ⟨#[98]⟩ (by decide)).mono ?_
 rintro e w6 ⟨rfl, hd6⟩; rw [show mk ((getT [([97], []), ([98], [120])] (⟨#[98]⟩ : ByteArray).data.toList).getD []) = ⟨#[120]⟩ by kernel_rfl, show (getT [([97], []), ([98], [120])] (⟨#[98]⟩ : ByteArray).data.toList).isSome = true by kernel_rfl]
 have hb6 := zac HB5.out HB5.out.size hd6.below; have hT6 := HT5.out.below hd6.below; clear hd6 HT5 HB5; have HT6 := zpt hT6; have HB6 := zpt hb6; clear hT6 hb6; go_wp2_with fail; refine (path_May.calls ⟨#[97, 47, 98, 46, 99]⟩ true w6 (HG.out.below HB6.out) (by kernel_rfl)).mono ?_
 rintro e w7 ⟨rfl, hb7⟩; replace HT6 := zpt (HT6.out.below hb7)
 replace hb7 := zac HB6.out HB6.out.size hb7
 have HB7 := zpt hb7; clear hb7; go_wp2_with fail; refine (path_May.calls ⟨#[97, 47, 47, 98]⟩ false w7 (HG.out.below HB7.out) (by kernel_rfl)).mono ?_
 rintro e w8 ⟨rfl, hb8⟩; replace HT6 := zpt (HT6.out.below hb8)
 replace hb8 := zac HB7.out HB7.out.size hb8
 have HB8 := zpt hb8; clear hb8; go_wp2_with fail; refine (path_May.calls ⟨#[114, 117, 108, 101]⟩ false w8 (HG.out.below HB8.out) (by kernel_rfl)).mono ?_
 rintro e w9 ⟨rfl, hb9⟩; replace HT6 := zpt (HT6.out.below hb9)
 replace hb9 := zac HB8.out HB8.out.size hb9
 have HB9 := zpt hb9; clear hb9 HB8 HB7; go_wp2_with fail; have hr10 := zbO zqb w9 9 [⟨#[97]⟩, ⟨#[]⟩, ⟨#[98]⟩] [.string ⟨#[97]⟩, .string ⟨#[]⟩, .string ⟨#[98]⟩] (Kd.reps_scalar _) (by simp)
 have hb10 := zac HB9.out HB9.out.size ((zpw w9.heap.size w9).alloc (zpx _) (.cells #[Value.string ⟨#[97]⟩, .string ⟨#[]⟩, .string ⟨#[98]⟩] 9)); refine (path_Join.calls _ 3 [⟨#[97]⟩, ⟨#[]⟩, ⟨#[98]⟩] ⟨#[97, 47, 98]⟩ _ (HG.out.below hb10) hr10 (by simp) (by kernel_rfl)).mono ?_
 rintro e w10 ⟨rfl, hb10'⟩; replace HT6 := zpt ((HT6.out.below ((zpw w9.heap.size w9).alloc (zpx _) _)).below hb10')
 replace hb10 := zac hb10 hb10.size hb10'
 have HB10 := zpt hb10; clear hb10 hb10' hr10; go_wp2_with fail; refine (Pb.path_Parts.calls ⟨#[47]⟩ [⟨#[]⟩, ⟨#[]⟩] w10 (HG.out.below HB10.out) (by kernel_rfl)).mono ?_
 rintro e w11 ⟨v11, rfl, hr11, hb11⟩; replace HT6 := zpt (HT6.out.below hb11)
 replace hb11 := zac HB10.out HB10.out.size hb11
 have HB11 := zpt hb11; obtain ⟨A11, c11, rfl, _, _⟩ := Kd.R_reads hr11; clear hb11 hr11; go_wp2_with fail; have hr12 := zbO zqb w11 9 [⟨#[97]⟩, ⟨#[]⟩] [.string ⟨#[97]⟩, .string ⟨#[]⟩] (Kd.reps_scalar _) (by simp)
 have hb12 := zac HB11.out HB11.out.size ((zpw w11.heap.size w11).alloc (zpx _) (.cells #[Value.string ⟨#[97]⟩, .string ⟨#[]⟩] 9)); refine (mint_Put.calls _ 2 [⟨#[97]⟩, ⟨#[]⟩] ⟨#[49, 58, 97, 48, 58]⟩ _ (HG.out.below hb12) hr12 (by simp) (by kernel_rfl)).mono ?_
 rintro e w12 ⟨rfl, hb12'⟩; replace HT6 := zpt ((HT6.out.below ((zpw w11.heap.size w11).alloc (zpx _) _)).below hb12')
 replace hb12 := zac hb12 hb12.size hb12'
 have HB12 := zpt hb12; clear hb12 hb12' hr12; go_wp2_with fail; have hr13 := zbO k34 w12 34 [⟨true, ⟨#[122]⟩⟩, ⟨false, ⟨#[]⟩⟩] [.bool true, .string ⟨#[122]⟩, .bool false, .string ⟨#[]⟩] (Reps.c2 (zfS w12 ⟨true, ⟨#[122]⟩⟩) (Reps.c2 (zfS w12 ⟨false, ⟨#[]⟩⟩) (Reps.none _ _))) (by simp)
 have hb13 := zac HB12.out HB12.out.size ((zpw w12.heap.size w12).alloc (zpx _) (.cells #[.bool true, .string ⟨#[122]⟩, .bool false, .string ⟨#[]⟩] 34)); refine (Pc.mint_Vals.calls 10 _ 2 [⟨true, ⟨#[122]⟩⟩, ⟨false, ⟨#[]⟩⟩] ⟨#[50, 58, 43, 122, 49, 58, 45]⟩ _ (HG.out.below hb13) hr13 (by simp) (by kernel_rfl)).mono ?_
 rintro e w13 ⟨rfl, hb13'⟩; replace HT6 := zpt ((HT6.out.below ((zpw w12.heap.size w12).alloc (zpx _) _)).below hb13')
 replace hb13 := zac hb13 hb13.size hb13'
 have HB13 := zpt hb13; clear hb13 hb13' hr13; go_wp2_with fail; refine (tree_Len.calls w13 g b _ HT6.out).mono ?_; rintro e w14 ⟨rfl, hd14⟩; replace HT6 := zpt (HT6.out.below hd14.below)
 have HB14 := zpt (zac HB13.out HB13.out.size hd14.below); clear hd14; go_wp2_with fail; refine (tree_Names.calls w14 g b _ HT6.out (by show List.Pairwise _ _; decide) (by decide)).mono ?_
 rintro e w15 ⟨v15, rfl, hr15, hb15⟩; replace HT6 := zpt (HT6.out.below hb15)
 have HB15 := zpt (zac HB14.out HB14.out.size hb15); obtain ⟨A15, c15, rfl, hc15, hrd15⟩ := Kd.R_reads (Kd.R_of_own (h1 := fun _ => rfl) (ok := fun _ => True) hr15 (fun _ _ => trivial))
 rcases zaX hrd15 with h0 | ⟨b', o, rfl, _, hcell⟩
 . cases h0
 have hx := hcell 0 (by simp)
 replace hx : w15.cell? ⟨b', o + 0, none⟩ = some (.string ⟨#[97]⟩) := hx
 have hx' : w15.cell? ⟨b', o, none⟩ = some (.string ⟨#[97]⟩) := hx; clear hr15 hrd15 hcell hb15; go_wp2_with fail; refine (tree_Key.calls w15 (HG.out.below HB15.out) g b _ HT6.out (by show List.Pairwise _ _; decide) (by decide) (by decide) (by rw [show (keyT [([97], []), ([98], [120])]).length = 11 by kernel_rfl]; decide)).mono ?_
 rw [show mk (keyT [([97], []), ([98], [120])]) = ⟨#[49, 58, 97, 48, 58, 49, 58, 98, 49, 58, 120]⟩ by kernel_rfl]
 rintro e w16 ⟨rfl, hb16⟩; replace HT6 := zpt (HT6.out.below hb16)
 have HB16 := zpt (zac HB15.out HB15.out.size hb16); clear hx hx' hb16; go_wp2_with fail; refine (tree_Erase.calls w16 g b _ HT6.out ⟨#[99]⟩ (by decide)).mono ?_
 rw [show (zeA [([97], []), ([98], [120])] (⟨#[99]⟩ : ByteArray).data.toList).2 = 6 by kernel_rfl]
 rintro e w17 ⟨rfl, _, hg17⟩; have hb17 := HB16.out.grown hg17 HB16.out.size (fun k hk => by cases hk; exact hBb)
 go_wp2; go_ret
 exact ⟨rfl, hb17⟩
end X
namespace X
open YtdpgdnpddndeoaaGreatDoorW.PrintMore
section
variable {w : World} {g : Nat} {t : TypeId} {a b c d e : Value} {l : List Value}
theorem bc0 (h : w.heap[g]? = some (.cells (List.toArray (a :: l)) t (0, 0))) : w.cell? ⟨g, 0, none⟩ = some a := (zah h 0).trans rfl
theorem bc1 (h : w.heap[g]? = some (.cells (List.toArray (a :: b :: l)) t (0, 0))) : w.cell? ⟨g, 1, none⟩ = some b := (zah h 1).trans rfl
theorem bc2 (h : w.heap[g]? = some (.cells (List.toArray (a :: b :: c :: l)) t (0, 0))) : w.cell? ⟨g, 2, none⟩ = some c := (zah h 2).trans rfl
theorem bc3 (h : w.heap[g]? = some (.cells (List.toArray (a :: b :: c :: d :: l)) t (0, 0))) : w.cell? ⟨g, 3, none⟩ = some d := (zah h 3).trans rfl
theorem bc4 (h : w.heap[g]? = some (.cells (List.toArray (a :: b :: c :: d :: e :: l)) t (0, 0))) : w.cell? ⟨g, 4, none⟩ = some e := (zah h 4).trans rfl
end
theorem zi3 {a b : Bool} (h : a = b) : Ending.returned (.bool a) = .returned (.bool b) := by rw [h]
theorem zjq {a b : Int} (h : a = b) : Ending.returned (.int .i64 a) = .returned (.int .i64 b) := by rw [h]
theorem zgd (s : ByteArray) (c : Int) (w : World) :
 Calls zp5 175 #[.string s, .int .u8 c] w fun e w' => e = .returned (.int .i64 (Lib.indexByte s.data.toList c.toNat.toUInt8)) /\ w = w' := by
 have h := Go.Proofs.Any.strings_IndexByte Go.Proofs.Tryz.lays137 s c w; change Calls zp5 175 _ _ _ at h
 exact h.mono fun e w' ⟨he, hw⟩ => ⟨he, hw.symm⟩
def letB (c : Int) : Bool := (97 <= c && c <= 122) || (65 <= c && c <= 90) || (48 <= c && c <= 57) || c == 46 || c == 95 || c == 45 || c == 47
theorem zn0 (c : Int) (w : World) :
 Calls zp5 176 #[.int .u8 c] w fun e w' => e = .returned (.bool (letB c)) /\ w = w' := by
 go_enter Tryz.func176, Tryz.ntmps176
 go_wp2; all_goals
  go_ret
  exact ⟨zi3 (by unfold letB; rw [Bool.eq_iff_iff]; simp <;> omega), rfl⟩
def zci (c : UInt8) : Bool := c == 32 || c == 10 || c == 9 || c == 13
def zaB : Bool -> zaa -> Nat
 | _, [] => 0
 | true, c :: r => if c = 10 then 1 + zaB false r else 1 + zaB true r
 | false, c :: r => if zci c then 1 + zaB false r else if c = 35 then 1 + zaB true r else 0
theorem zcW : ∀ (b : Bool) (l : zaa), zaB b l <= l.length
 | _, [] => by simp [zaB]
 | true, c :: r => by
  have h1 := zcW false r; have h2 := zcW true r; unfold zaB; split <;> simp <;> omega
 | false, c :: r => by
  have h1 := zcW false r; have h2 := zcW true r; unfold zaB; split
  . simp; omega
  . split <;> simp; omega
theorem zl6 : ∀ c : Nat, c < 256 -> decide (0 <= Lib.indexByte [32, 10, 9, 13] c.toUInt8) = zci (UInt8.ofNat c) := by decide +kernel
theorem zg9 (s : ByteArray) (kk : Nat) (h : kk < s.size) (b : Bool) : zaB b (s.data.toList.drop kk) = zaB b (s[kk] :: s.data.toList.drop (kk + 1)) := by
 rw [zp1 (by rw [<- zqc]; exact h)]
 rfl
theorem zhe (s : ByteArray) (a : Nat) (ha : a <= s.size) (hs : s.size <= 4611686018427387904) (w : World) :
 Calls zp5 138 #[.string s, .int .i64 a] w fun e w' => e = .returned (.int .i64 ((a + zaB false (s.data.toList.drop a) : Nat) : Int)) /\ w = w' := by
 generalize hT : a + zaB false (s.data.toList.drop a) = T; have HT := zpt hT; clear hT; go_enter Tryz.func138, Tryz.ntmps138
 go_wp2_with fail; go_loopg [1] s.size (fun gg s1 wr => ∃ kk : Nat, kk <= s.size /\ s.size - kk <= gg /\ s1 = .int .i64 kk /\ Aside0 (kk + zaB false (s.data.toList.drop kk) = T) /\ wr = w)
 case atStart => exact ⟨a, ha, by omega, rfl, ⟨HT.out⟩, rfl⟩
 case round =>
  obtain ⟨kk, hkk, hgk, rfl, HK, rfl⟩ := hrel; by_cases hlt : kk < s.size
  . have hltz : (kk : Int) < (s.size : Int) := by omega
    have HC := zpt (zg9 s kk hlt); have hI := zgd ⟨#[32, 10, 9, 13]⟩ (s[kk].toNat : Int) wr; have hbi := zl6 s[kk].toNat (UInt8.toNat_lt _); rw [show (UInt8.ofNat s[kk].toNat) = s[kk] by simp] at hbi
    rw [Int.toNat_natCast, show (⟨#[32, 10, 9, 13]⟩ : ByteArray).data.toList = [32, 10, 9, 13] from rfl] at hI
    generalize Lib.indexByte ([32, 10, 9, 13] : List UInt8) s[kk].toNat.toUInt8 = i at hbi hI; have HBI := zpt hbi; clear hbi; by_cases hbl : zci s[kk] = true
    . have hi : decide (0 <= i) = true := by rw [HBI.out, hbl]
      have hi0 : 0 <= i := by simpa using hi
      have HBL := zpt hbl; clear hbl; go_wp2_with (go_at_call 175; refine hI.mono ?_; rintro e w' ⟨rfl, rfl⟩)
      go_roundg (s.size - (kk + 1))
      case measure => omega
      case rel =>
       refine ⟨kk + 1, by omega, by omega, by go_num, ⟨?_⟩, rfl⟩
       have := HK.out; rw [HC.out, zaB, if_pos HBL.out] at this; omega
    . have hi : decide (0 <= i) = false := by rw [HBI.out]; simpa using hbl
      have hi0 : ¬ 0 <= i := by simpa using hi
      have HBL := zpt hbl; clear hbl; by_cases h35 : s[kk].toNat = 35
      . have hq : ((s[kk].toNat : Int) == 35) = true := by simp; omega
        have HS35 : Hid (s[kk] = 35) := by
         show s[kk] = 35
         rw [<- zqy]; exact h35
        clear h35; go_wp2_with (go_at_call 175; refine hI.mono ?_; rintro e w' ⟨rfl, rfl⟩)
        have HK2 : Hid (kk + zaB true (s.data.toList.drop kk) = T) := by
         show kk + zaB true (s.data.toList.drop kk) = T
         have := HK.out; rw [HC.out, zaB, if_neg HBL.out, if_pos HS35.out] at this; rw [HC.out, zaB, if_neg (by rw [HS35.out]; decide)]
         exact this
        go_loopg [1] s.size (fun gg s1 wr2 => ∃ k2 : Nat, kk <= k2 /\ k2 <= s.size /\ s.size - k2 <= gg /\ s1 = .int .i64 k2 /\ Aside0 (k2 + zaB true (s.data.toList.drop k2) = T) /\ wr2 = wr)
        case atStart => exact ⟨kk, by omega, by omega, by omega, rfl, ⟨HK2.out⟩, rfl⟩
        case round =>
         obtain ⟨k2, hk2, hk3, hgk2, rfl, HM, rfl⟩ := hrel; by_cases hlt2 : k2 < s.size
         . have hltz2 : (k2 : Int) < (s.size : Int) := by omega
           have HC2 := zpt (zg9 s k2 hlt2); by_cases h10 : s[k2].toNat = 10
           . have hq2 : ((s[k2].toNat : Int) != 10) = false := by simp; omega
             have HS10 : Hid (s[k2] = 10) := by
              show s[k2] = 10
              rw [<- zqy]; exact h10
             have hlt3 : kk < k2 := by
              rcases Nat.lt_or_eq_of_le hk2 with h | h
              . exact h
              . subst h
                have := HS35.out; rw [HS10.out] at this; cases this
             go_wp2; go_roundg (s.size - k2)
             case measure => omega
             case rel =>
              refine ⟨k2, by omega, by omega, rfl, ⟨?_⟩, rfl⟩
              have := HM.out; rw [HC2.out, zaB, if_pos HS10.out] at this; rw [HC2.out, zaB, if_pos (by rw [HS10.out]; rfl)]
              exact this
           . have hq2 : ((s[k2].toNat : Int) != 10) = true := by simp; omega
             have HS10 : Hid (s[k2] ≠ 10) := by
              intro e; apply h10
              rw [e]; rfl
             go_wp2; go_roundg (s.size - (k2 + 1))
             case measure => omega
             case rel =>
              refine ⟨k2 + 1, by omega, by omega, by omega, by go_num, ⟨?_⟩, rfl⟩
              have := HM.out; rw [HC2.out, zaB, if_neg HS10.out] at this; omega
         . have hltz2 : ¬ (k2 : Int) < (s.size : Int) := by omega
           have hlt3 : kk < k2 := by omega
           go_wp2; go_roundg (s.size - k2)
           case measure => omega
           case rel =>
            refine ⟨k2, by omega, by omega, rfl, ⟨?_⟩, rfl⟩
            have := HM.out; rw [zqw (by rw [<- zqc]; omega)] at this |-
            exact this
      . have hq : ((s[kk].toNat : Int) == 35) = false := by simp; omega
        have HS35 : Hid (s[kk] ≠ 35) := by
         intro e; apply h35
         rw [e]; rfl
        clear h35; go_wp2_with (go_at_call 175; refine hI.mono ?_; rintro e w' ⟨rfl, rfl⟩)
        go_ret
        refine ⟨zjq ?_, rfl⟩; have := HK.out; rw [HC.out, zaB, if_neg HBL.out, if_neg HS35.out] at this; omega
  . have hltz : ¬ (kk : Int) < (s.size : Int) := by omega
    go_wp2; go_ret
    refine ⟨zjq ?_, rfl⟩; have := HK.out; rw [zqw (by rw [<- zqc]; omega), zaB] at this
    omega
def hexV (c : UInt8) : Int := Lib.indexByte [48, 49, 50, 51, 52, 53, 54, 55, 56, 57, 97, 98, 99, 100, 101, 102] c
theorem zfc : ∀ c : Nat, c < 256 -> -1 <= hexV (UInt8.ofNat c) /\ hexV (UInt8.ofNat c) <= 15 := by decide +kernel
def hexF : zaa -> Nat × Nat
 | a :: b :: _ => if 0 <= hexV a /\ 0 <= hexV b then ((16 * hexV a + hexV b).toNat, 3) else (0, 0)
 | _ => (0, 0)
def escF : zaa -> Nat × Nat
 | [] => (0, 0)
 | c :: r => if c = 110 then (10, 1) else if c = 116 then (9, 1) else if c = 92 \/ c = 34 then (c.toNat, 1) else if c = 120 then hexF r else (0, 0)
theorem ziu (c : UInt8) (w : World) :
 Calls zp5 175 #[.string ⟨#[48, 49, 50, 51, 52, 53, 54, 55, 56, 57, 97, 98, 99, 100, 101, 102]⟩, .int .u8 c.toNat] w fun e w' => e = .returned (.int .i64 (hexV c)) /\ w' = w :=
 (zgd _ _ w).mono fun e w' ⟨he, hw⟩ => ⟨by rw [he]; unfold hexV; simp, hw.symm⟩
theorem zpd (s : ByteArray) (w : World) :
 Calls zp5 216 #[.string s] w fun e w' => e = .returned (.tuple #[.int .u8 (escF s.data.toList).1, .int .i64 (escF s.data.toList).2]) /\ Drawn0 w w' := by
 by_cases h0 : s.size = 0
 . have hse : s = ⟨#[]⟩ := by
    apply zcn
    rw [zqc] at h0; exact zpz h0
   subst hse; go_enter Tryz.func216, Tryz.ntmps216
   go_wp2; go_ret2
   exact ⟨rfl, Drawn0.refl _⟩
 . have hpos : 0 < s.size := by omega
   have hne : (s.toList == []) = false := by
    rw [zbh, beq_eq_false_iff_ne]; intro h; rw [zqc, h] at h0; exact h0 rfl
   have hL : s.data.toList = s[0] :: s.data.toList.drop 1 := by
    have := zp1 (l := s.data.toList) (i := 0) (by rw [<- zqc]; exact hpos)
    rw [List.drop_zero] at this; exact this
   have HL := zpt hL; have n8 : ∀ (m : Nat) (k : UInt8), k.toNat = m -> (s[0] = k ↔ s[0].toNat = m) := fun m k hk => by rw [<- zqy, hk]
   have H110 := zpt (n8 110 110 rfl); have H116 := zpt (n8 116 116 rfl); have H92 := zpt (n8 92 92 rfl); have H34 := zpt (n8 34 34 rfl); have H120 := zpt (n8 120 120 rfl); clear hL n8 h0; by_cases c1 : s[0].toNat = 110
   . have e1 : ((s[0].toNat : Int) == 110) = true := by simp; omega
     have HE : Hid (escF s.data.toList = (10, 1)) := by show _ = _; rw [HL.out, escF, if_pos (H110.out.2 c1)]
     clear c1; go_enter Tryz.func216, Tryz.ntmps216
     go_wp2; go_ret2
     exact ⟨by rw [HE.out]; rfl, Drawn0.refl _⟩
   have e1 : ((s[0].toNat : Int) == 110) = false := by simp; omega
   by_cases c2 : s[0].toNat = 116
   . have e2 : ((s[0].toNat : Int) == 116) = true := by simp; omega
     have HE : Hid (escF s.data.toList = (9, 1)) := by show _ = _; rw [HL.out, escF, if_neg (fun h => c1 (H110.out.1 h)), if_pos (H116.out.2 c2)]
     clear c1 c2; go_enter Tryz.func216, Tryz.ntmps216
     go_wp2; go_ret2
     exact ⟨by rw [HE.out]; rfl, Drawn0.refl _⟩
   have e2 : ((s[0].toNat : Int) == 116) = false := by simp; omega
   by_cases c3 : s[0].toNat = 92
   . have e3 : ((s[0].toNat : Int) == 92) = true := by simp; omega
     have HE : Hid (escF s.data.toList = (s[0].toNat, 1)) := by show _ = _; rw [HL.out, escF, if_neg (fun h => c1 (H110.out.1 h)), if_neg (fun h => c2 (H116.out.1 h)), if_pos (.inl (H92.out.2 c3))]
     clear c1 c2 c3; go_enter Tryz.func216, Tryz.ntmps216
     go_wp2; go_ret2
     exact ⟨by rw [HE.out]; simp, Drawn0.refl _⟩
   have e3 : ((s[0].toNat : Int) == 92) = false := by simp; omega
   by_cases c4 : s[0].toNat = 34
   . have e4 : ((s[0].toNat : Int) == 34) = true := by simp; omega
     have HE : Hid (escF s.data.toList = (s[0].toNat, 1)) := by show _ = _; rw [HL.out, escF, if_neg (fun h => c1 (H110.out.1 h)), if_neg (fun h => c2 (H116.out.1 h)), if_pos (.inr (H34.out.2 c4))]
     clear c1 c2 c3 c4; go_enter Tryz.func216, Tryz.ntmps216
     go_wp2; go_ret2
     exact ⟨by rw [HE.out]; simp, Drawn0.refl _⟩
   have e4 : ((s[0].toNat : Int) == 34) = false := by simp; omega
   have HR : Hid (escF s.data.toList = if s[0] = 120 then hexF (s.data.toList.drop 1) else (0, 0)) := by
    show _ = _
    conv => lhs; rw [HL.out, escF]
    rw [if_neg (fun h => c1 (H110.out.1 h)), if_neg (fun h => c2 (H116.out.1 h)), if_neg (fun h => h.elim (fun h => c3 (H92.out.1 h)) (fun h => c4 (H34.out.1 h)))]
   clear c1 c2 c3 c4; by_cases c5 : s[0].toNat = 120
   . have e5 : ((s[0].toNat : Int) == 120) = true := by simp; omega
     have H5 : Hid (s[0] = 120) := H120.out.2 c5; clear c5; by_cases h3 : s.size < 3
     . have d3 : decide ((s.size : Int) < 3) = true := by simp; omega
       have HE : Hid (escF s.data.toList = (0, 0)) := by
        show _ = _
        rw [HR.out, if_pos H5.out]; have hlen : (s.data.toList.drop 1).length < 2 := by rw [zpR, <- zqc]; omega
        match hm : s.data.toList.drop 1 with
        | [] => rfl
        | [_] => rfl
        | _ :: _ :: _ => rw [hm] at hlen; simp at hlen; omega
       clear h3; go_enter Tryz.func216, Tryz.ntmps216
       go_wp2; go_ret2
       exact ⟨by rw [HE.out]; rfl, Drawn0.refl _⟩
     . have d3 : decide ((s.size : Int) < 3) = false := by simp; omega
       have h1 : 1 < s.size := by omega
       have h2 : 2 < s.size := by omega
       have h1z : (1 : Int) < (s.size : Int) := by omega
       have h2z : (2 : Int) < (s.size : Int) := by omega
       have h1d : decide (1 < s.size) = true := by simp; omega
       have h2d : decide (2 < s.size) = true := by simp; omega
       have HE : Hid (escF s.data.toList = if 0 <= hexV s[1] /\ 0 <= hexV s[2] then ((16 * hexV s[1] + hexV s[2]).toNat, 3) else (0, 0)) := by
        show _ = _
        rw [HR.out, if_pos H5.out, zp1 (by rw [<- zqc]; exact h1), zp1 (by rw [<- zqc]; exact h2)]
        rfl
       have r1 := zfc s[1].toNat (UInt8.toNat_lt _); have r2 := zfc s[2].toNat (UInt8.toNat_lt _); rw [show UInt8.ofNat s[1].toNat = s[1] by simp] at r1
       rw [show UInt8.ofNat s[2].toNat = s[2] by simp] at r2
       have hi1 := fun W => ziu s[1] W
       have hi2 := fun W => ziu s[2] W
       generalize hexV s[1] = x1 at *; generalize hexV s[2] = x2 at *; go_enter Tryz.func216, Tryz.ntmps216
       go_wp2_with fail; go_quiet ((go_at_call 175; first | (with_reducible exact Calls.quiet_of_same (hi1 _)) | (with_reducible exact Calls.quiet_of_same (hi2 _))))
       by_cases b1 : 0 <= x1
       . by_cases b2 : 0 <= x2
         . have HV : Hid (escF s.data.toList = ((16 * x1 + x2).toNat, 3)) := by
            show _ = _
            rw [HE.out]; exact if_pos ⟨b1, b2⟩
           go_wp2; go_ret2
           refine ⟨?_, ⟨⟨_, rfl⟩⟩⟩; rw [HV.out]; show Ending.returned (.tuple #[.int .u8 (16 * x1 + x2), .int .i64 3]) = Ending.returned (.tuple #[.int .u8 (((16 * x1 + x2).toNat : Nat) : Int), .int .i64 ((3 : Nat) : Int)])
           rw [Int.toNat_of_nonneg (by omega)]
           rfl
         . have HV : Hid (escF s.data.toList = (0, 0)) := by
            show _ = _
            rw [HE.out]; exact if_neg (fun h => b2 h.2)
           go_wp2; go_ret2
           exact ⟨by rw [HV.out]; rfl, ⟨⟨_, rfl⟩⟩⟩
       . have HV : Hid (escF s.data.toList = (0, 0)) := by
          show _ = _
          rw [HE.out]; exact if_neg (fun h => b1 h.1)
         go_wp2; go_ret2
         exact ⟨by rw [HV.out]; rfl, ⟨⟨_, rfl⟩⟩⟩
   . have e5 : ((s[0].toNat : Int) == 120) = false := by simp; omega
     have HE : Hid (escF s.data.toList = (0, 0)) := by show _ = _; rw [HR.out, if_neg (fun h => c5 (H120.out.1 h))]
     clear c5; go_enter Tryz.func216, Tryz.ntmps216
     go_wp2; go_ret2
     exact ⟨by rw [HE.out]; rfl, Drawn0.refl _⟩
def zbx : Nat -> zaa -> Option (zaa × Nat)
 | 0, _ => none
 | _ + 1, [] => none
 | k + 1, c :: r =>
  if c = 34 then some ([], 1)
  else if c = 92 then (if (escF r).2 = 0 then none else (zbx k (r.drop (escF r).2)).map fun p => (UInt8.ofNat (escF r).1 :: p.1, p.2 + (escF r).2 + 1))
  else if c.toNat < 32 \/ 126 < c.toNat then none
  else (zbx k r).map fun p => (c :: p.1, p.2 + 1)
theorem zc1 : (Tryz.prog.info? 5).map (fun i => (i.zero, i.size, i.bytes)) = some (some (.int .u8 0), 1, 1) := by kernel_rfl
def zaE (l : zaa) : List Int := l.map fun c => (c.toNat : Int)
theorem ziQ (l : zaa) : strOfNums (zaE l) = mk l := by
 unfold strOfNums zaE mk; rw [List.map_map]; congr 2
 conv => rhs; rw [<- List.map_id l]
 congr 1
 funext c
 simp
theorem zjl (l : zaa) (c : UInt8) : zaE l ++ [(c.toNat : Int)] = zaE (l ++ [c]) := by simp [zaE]
def textR : Option (zaa × Nat) -> Value
 | some p => .tuple #[.string (mk p.1), .int .i64 (p.2 : Nat)]
 | none => .tuple #[.string ⟨#[]⟩, .int .i64 (-1)]
theorem zjy : ∀ l : zaa, (escF l).1 < 256 := by
 intro l; have hx : ∀ c : UInt8, -1 <= hexV c /\ hexV c <= 15 := fun c => by
  have := zfc c.toNat (UInt8.toNat_lt _); rwa [show UInt8.ofNat c.toNat = c by simp] at this
 unfold escF; split
 . decide
 . rename_i c r
   split
   . decide
   . split
     . decide
     . split
       . exact UInt8.toNat_lt c
       . split
         . unfold hexF
           split
           . rename_i x y t
             have h1 := hx x; have h2 := hx y; split
             . simp only
               omega
             . decide
           . decide
         . decide
theorem zjs : ∀ l : zaa, (escF l).2 <= l.length /\ (escF l).2 <= 3 := by
 intro l; unfold escF; split
 . simp
 . rename_i c r
   split
   . simp
   . split
     . simp
     . split
       . simp
       . split
         . unfold hexF
           split
           . split <;> simp
           . simp
         . simp
theorem zgk : ∀ (k k' : Nat) (l : zaa), l.length < k -> l.length < k' -> zbx k l = zbx k' l
 | 0, _, l, h, _ => absurd h (zqx _)
 | _, 0, l, _, h => absurd h (zqx _)
 | k + 1, k' + 1, [], _, _ => rfl
 | k + 1, k' + 1, c :: r, h, h' => by
  simp only [zqh] at h h'; unfold zbx; rw [zgk k k' r (by omega) (by omega), zgk k k' (r.drop (escF r).2) (by rw [zpR]; omega) (by rw [zpR]; omega)]
theorem zjK (s : ByteArray) (a : Nat) (ha : a <= s.size) (hs : s.size <= 100000) (w : World) :
 Calls zp5 177 #[.string s, .int .i64 a] w fun e w' => e = .returned (textR ((zbx (s.size - a + 1) (s.data.toList.drop a)).map fun p => (p.1, a + p.2))) /\ Below w.heap.size w w' := by
 generalize hT : ((zbx (s.size - a + 1) (s.data.toList.drop a)).map fun p => (p.1, a + p.2)) = T
 have HT := zpt hT; clear hT; go_enter Tryz.func177, Tryz.ntmps177
 go_wp2_with fail; go_loopg [1, 6, 7, 8, 9] s.size (fun gg s1 s6 _ _ _ wr => ∃ (kk : Nat) (acc : zaa), kk <= s.size /\ s.size - kk <= gg /\ s1 = .int .i64 kk /\ acc.length <= kk /\ Aside0 ((zbx (s.size - kk + 1) (s.data.toList.drop kk)).map (fun p => (acc ++ p.1, kk + p.2)) = T) /\
  Aside0 (wr.ownsRow w.heap.size 5 1 s6 (zaE acc).length (nums .u8 (zaE acc))) /\ Aside0 (Below w.heap.size w wr))
 case atStart => exact ⟨a, [], ha, by omega, rfl, by simp, ⟨by simpa using HT.out⟩, ⟨zcX _ _ _ _⟩, ⟨zpw _ _⟩⟩
 case round =>
  obtain ⟨kk, acc, hkk, hgk, rfl, hacc, HK, HO, HB⟩ := hrel; by_cases hlt : kk < s.size
  . have hltz : (kk : Int) < (s.size : Int) := by omega
    have hdr : s.data.toList.drop kk = s[kk] :: s.data.toList.drop (kk + 1) := by
     rw [zp1 (by rw [<- zqc]; exact hlt)]
     rfl
    have HD := zpt hdr; clear hdr; have hK := HK.out; rw [HD.out, zbx] at hK; have HK2 := zpt hK; clear hK; have n8 : ∀ (m : Nat) (k : UInt8), k.toNat = m -> (s[kk] = k ↔ s[kk].toNat = m) := fun m k hk => by rw [<- zqy, hk]
    have H34 := zpt (n8 34 34 rfl); have H92 := zpt (n8 92 92 rfl); clear n8; have hcv := zhz (dst := 9) Tryz.underlying90 Tryz.underlying5 Tryz.underlying9 HO.out; rw [ziQ] at hcv; have hrest : (s.data.toList.drop (kk + 1)).length = s.size - (kk + 1) := by rw [zpR, <- zqc]
    have HRest := zpt hrest; clear hrest; have hwb := HB.out.size; have HWB := zpt hwb; clear hwb; by_cases c1 : s[kk].toNat = 34
    . have e1 : ((s[kk].toNat : Int) == 34) = true := by simp; omega
      have HV : Hid (T = some (acc, kk + 1)) := by
       show T = _
       rw [<- HK2.out, if_pos (H34.out.2 c1)]; simp
      clear c1; go_wp2; go_ret2
      exact ⟨by rw [HV.out]; rfl, HB.out⟩
    have e1 : ((s[kk].toNat : Int) == 34) = false := by simp; omega
    have HN34 : Hid (s[kk] ≠ 34) := fun h => c1 (H34.out.1 h)
    clear c1; by_cases c2 : s[kk].toNat = 92
    . have e2 : ((s[kk].toNat : Int) == 92) = true := by simp; omega
      have HV : Hid (T = Option.map (fun p => (acc ++ p.1, kk + p.2)) (if (escF (s.data.toList.drop (kk + 1))).2 = 0 then none else (zbx (s.size - kk) ((s.data.toList.drop (kk + 1)).drop (escF (s.data.toList.drop (kk + 1))).2)).map fun p => (UInt8.ofNat (escF (s.data.toList.drop (kk + 1))).1 :: p.1, p.2 + (escF (s.data.toList.drop (kk + 1))).2 + 1))) := by
       show T = _
       rw [<- HK2.out, if_neg HN34.out, if_pos (H92.out.2 c2)]
      clear c2; have hE := fun W => zpd (s.extract (kk + 1) s.size) W
      have hex : (s.extract (kk + 1) s.size).data.toList = s.data.toList.drop (kk + 1) := by
       simp only [ByteArray.data_extract, Array.toList_extract, List.extract_eq_take_drop]; rw [List.take_of_length_le (by rw [HRest.out]; omega)]
      rw [hex] at hE; have HB1 := zpt (zjy (s.data.toList.drop (kk + 1))); have HB2 := zpt (zjs (s.data.toList.drop (kk + 1))); clear hex; obtain ⟨q, hq⟩ : ∃ q, q = s.data.toList.drop (kk + 1) := ⟨_, rfl⟩; have HQ := zpt hq; rw [<- hq] at hE HV HB1 HB2 HRest; clear hq; obtain ⟨x, hx⟩ : ∃ x, x = (escF q).1 := ⟨_, rfl⟩; obtain ⟨n, hn⟩ : ∃ n, n = (escF q).2 := ⟨_, rfl⟩; rw [<- hx, <- hn] at hE; rw [<- hx] at HB1; rw [<- hn] at HB2; rw [<- hx, <- hn] at HV; clear hx hn; have hn3 : n <= 3 := HB2.out.2; have hnl : n <= s.size - (kk + 1) := by have := HB2.out.1; rw [HRest.out] at this; exact this
      by_cases hn0 : n = 0
      . subst hn0
        have HV2 : Hid (T = none) := by show T = none; rw [HV.out, if_pos rfl]; rfl
        go_wp2_with (go_at_call 216; refine (hE _).mono ?_; rintro e w2 ⟨rfl, hd2⟩)
        go_ret2
        exact ⟨by rw [HV2.out]; rfl, zac HB.out HB.out.size hd2.below⟩
      . have hnz : ((n : Int) == 0) = false := by simp; omega
        have HV2 : Hid (Option.map (fun p => (acc ++ [UInt8.ofNat x] ++ p.1, (kk + n + 1) + p.2)) (zbx (s.size - (kk + n + 1) + 1) (s.data.toList.drop (kk + n + 1))) = T) := by
         show _ = T
         rw [HV.out, if_neg hn0, HQ.out, List.drop_drop, zgk (s.size - kk) (s.size - (kk + n + 1) + 1) _ (by rw [zpR, <- zqc]; omega) (by rw [zpR, <- zqc]; omega), show kk + 1 + n = kk + n + 1 by omega, Option.map_map]
         congr 1
         funext p
         simp only [Function.comp, List.append_assoc, List.cons_append, List.nil_append, Prod.mk.injEq, true_and]; omega
        have HX : Hid ((x : Int) = ((UInt8.ofNat x).toNat : Int)) := by
         show (x : Int) = _
         have := HB1.out; rw [UInt8.toNat_ofNat_of_lt' (by simpa using this)]
        clear HV HB1 HB2 HRest; have hal : (zaE acc).length <= 100000 := by unfold zaE; rw [List.length_map]; omega
        go_wp2_with fail; refine (hE _).mono ?_; rintro e w2 ⟨rfl, hd2⟩; have HO2 : Hid (w2.ownsRow w.heap.size 5 1 u6 (zaE acc).length (nums .u8 (zaE acc))) := zgq HO.out hd2.below; have HBB := zpt (zac HB.out HB.out.size hd2.below); have HWB2 : Hid (w.heap.size <= w2.heap.size) := HBB.out.size; clear hd2; go_wp2_with (first | ((with_reducible refine zaG (b := .append) (xs := #[.tmp 43, .tmp 45]) rfl ?_); at_builtin; refine zju (w0 := w) w.heap.size rfl (.tmp 43) (.tmp 45) 90 5 .u8 1 rfl Tryz.underlying90 zc1 (by decide) u6 (zaE acc) (x : Int) rfl rfl HO2.out HBB.out HWB2.out ?aL ?_; (case aL => omega); intro v1 w3 ho hb hg hat))
        rw [HX.out, zjl] at ho; have HO3 := zpt ho; have HB3 := zpt hb; clear ho hb hg hat; go_wp2; go_roundg (s.size - (kk + n + 1))
        case measure => omega
        case rel => exact ⟨kk + n + 1, acc ++ [UInt8.ofNat x], by omega, by omega, by go_num, by simp; omega, ⟨HV2.out⟩, ⟨HO3.out⟩, ⟨HB3.out⟩⟩
    have e2 : ((s[kk].toNat : Int) == 92) = false := by simp; omega
    have HN92 : Hid (s[kk] ≠ 92) := fun h => c2 (H92.out.1 h)
    clear c2; by_cases c3 : s[kk].toNat < 32 \/ 126 < s[kk].toNat
    . have HV : Hid (T = none) := by
       show T = none
       rw [<- HK2.out, if_neg HN34.out, if_neg HN92.out, if_pos c3]; rfl
      by_cases c4 : s[kk].toNat < 32
      . have e4 : decide ((s[kk].toNat : Int) < 32) = true := by simp; omega
        clear c3 c4; go_wp2; go_ret2
        exact ⟨by rw [HV.out]; rfl, HB.out⟩
      . have e4 : decide ((s[kk].toNat : Int) < 32) = false := by simp; omega
        have e5 : decide (126 < (s[kk].toNat : Int)) = true := by simp; omega
        clear c3 c4; go_wp2; go_ret2
        exact ⟨by rw [HV.out]; rfl, HB.out⟩
    . have HV2 : Hid (Option.map (fun p => (acc ++ [s[kk]] ++ p.1, (kk + 1) + p.2)) (zbx (s.size - (kk + 1) + 1) (s.data.toList.drop (kk + 1))) = T) := by
       show _ = T
       rw [<- HK2.out, if_neg HN34.out, if_neg HN92.out, if_neg c3, show s.size - (kk + 1) + 1 = s.size - kk by omega, Option.map_map]
       congr 1
       funext p
       simp only [Function.comp, List.append_assoc, List.cons_append, List.nil_append, Prod.mk.injEq, true_and]; omega
      have e4 : decide ((s[kk].toNat : Int) < 32) = false := by simp; omega
      have e5 : decide (126 < (s[kk].toNat : Int)) = false := by simp; omega
      have hal : (zaE acc).length <= 100000 := by unfold zaE; rw [List.length_map]; omega
      clear c3; go_wp2_with (first | ((with_reducible refine zaG (b := .append) (xs := #[.tmp 17, .tmp 19]) rfl ?_); at_builtin; refine zju (w0 := w) w.heap.size rfl (.tmp 17) (.tmp 19) 90 5 .u8 1 rfl Tryz.underlying90 zc1 (by decide) u6 (zaE acc) (s[kk].toNat : Int) rfl rfl HO.out HB.out HWB.out ?aL ?_; (case aL => omega); intro v1 w3 ho hb hg hat))
      rw [zjl] at ho; have HO3 := zpt ho; have HB3 := zpt hb; clear ho hb hg hat; go_wp2; go_roundg (s.size - (kk + 1))
      case measure => omega
      case rel => exact ⟨kk + 1, acc ++ [s[kk]], by omega, by omega, by go_num, by simp; omega, ⟨HV2.out⟩, ⟨HO3.out⟩, ⟨HB3.out⟩⟩
  . have hltz : ¬ (kk : Int) < (s.size : Int) := by omega
    have HN : Hid (T = none) := by
     show T = none
     rw [<- HK.out, zqw (by rw [<- zqc]; omega)]
     rfl
    go_wp2; go_ret2
    exact ⟨by rw [HN.out]; rfl, HB.out⟩
end X
namespace X
open YtdpgdnpddndeoaaGreatDoorW.PrintMore YtdpgdnpddndeoaaGreatDoorW.PrintLast
theorem ziH {w2 : World} {g t : Nat} {x0 x1 x2 : Value} (y0 y1 y2 : Value) (h : w2.heap[g]? = some (.cells #[x0, x1, x2] t (0, 0))) :
 (((w2.setCell ⟨g, 0, none⟩ y0).setCell ⟨g, 1, none⟩ y1).setCell ⟨g, 2, none⟩ y2).heap[g]? = some (.cells #[y0, y1, y2] t (0, 0)) :=
 zav (zav (zav h 0 y0 rfl) 1 y1 rfl) 2 y2 rfl
def letU (c : UInt8) : Bool := letB (c.toNat : Int)
def runL (l : zaa) : Nat := (l.takeWhile letU).length
def zeD (c : UInt8) : Bool := decide (0 <= Lib.indexByte [123, 125, 44, 59, 61, 40, 41, 43, 94, 58, 36] c)
def zex (c : UInt8) : Int := Lib.indexByte [123, 125, 44, 59, 61, 40, 41, 43, 94, 58, 36] c
theorem zoa (c : UInt8) (w : World) :
 Calls zp5 175 #[.string ⟨#[123, 125, 44, 59, 61, 40, 41, 43, 94, 58, 36]⟩, .int .u8 c.toNat] w fun e w' => e = .returned (.int .i64 (zex c)) /\ w = w' :=
 (zgd _ _ w).mono fun e w' ⟨he, hw⟩ => ⟨by rw [he]; unfold zex; simp, hw⟩
def zaK (l : zaa) : Option (Nat × zaa × Nat) :=
 if 0 < runL l then some (1, l.take (runL l), runL l)
 else match l with
  | [] => none
  | c :: r => if c = 34 then (zbx (r.length + 1) r).map fun p => (2, p.1, p.2 + 1) else if zeD c then some (3, [c], 1) else none
theorem zeg (s : ByteArray) (a b : Nat) : s.extract a b = mk ((s.data.toList.drop a).take (b - a)) := by
 apply zcn
 rw [zbd]; simp only [ByteArray.data_extract, Array.toList_extract, List.extract_eq_take_drop]
theorem zdU (c : UInt8) (r : zaa) : runL (c :: r) = if letU c then 1 + runL r else 0 := by
 unfold runL; rw [List.takeWhile_cons]; split
 . simp; omega
 . rfl
theorem zjS (l : zaa) : runL l <= l.length := by
 induction l with
 | nil => simp [runL]
 | cons c r ih => rw [zdU]; split <;> simp <;> omega
def zli (at_ : Nat) (o : Option (Nat × zaa × Nat)) (w : World) (e : Ending) (w' : World) : Prop :=
 (match o with
  | some p => e = .returned (.tuple #[.agg #[.int .i64 (p.1 : Nat), .int .i64 (at_ : Nat), .string (mk p.2.1)], .int .i64 ((at_ + p.2.2 : Nat) : Int)])
  | none => ∃ (k a : Int) (t : ByteArray), e = .returned (.tuple #[.agg #[.int .i64 k, .int .i64 a, .string t], .int .i64 (-1)])) /\ Below w.heap.size w w'
theorem zkI (s : ByteArray) (a : Nat) (ha : a < s.size) (hs : s.size <= 100000) (w : World) :
 Calls zp5 139 #[.string s, .int .i64 a] w (zli a (zaK (s.data.toList.drop a)) w) := by
 have hL := zn0; go_enter Tryz.func139, Tryz.ntmps139
 go_wp2_with fail; go_loopg [6] s.size (fun gg s6 wr => ∃ kk : Nat, a <= kk /\ kk <= s.size /\ s.size - kk <= gg /\ s6 = .int .i64 kk /\ Aside0 (kk + runL (s.data.toList.drop kk) = a + runL (s.data.toList.drop a)) /\ wr = w.alloc (.cells #[.int .i64 0, .int .i64 0, .string ⟨#[]⟩] 139))
 case atStart => exact ⟨a, by omega, by omega, by omega, rfl, ⟨rfl⟩, rfl⟩
 case round =>
  obtain ⟨kk, hak, hkk, hgk, rfl, HK, rfl⟩ := hrel; by_cases hlt : kk < s.size
  . have hltz : (kk : Int) < (s.size : Int) := by omega
    have hdr : s.data.toList.drop kk = s[kk] :: s.data.toList.drop (kk + 1) := by
     rw [zp1 (by rw [<- zqc]; exact hlt)]
     rfl
    have HD := zpt hdr; clear hdr; have hl := fun W => hL (s[kk].toNat : Int) W
    by_cases c1 : letU s[kk] = true
    . have hc : letB (s[kk].toNat : Int) = true := c1
      rw [hc] at hl; go_wp2_with (go_at_call 176; refine (hl _).mono ?_; rintro e w' ⟨rfl, rfl⟩)
      go_roundg (s.size - (kk + 1))
      case measure => omega
      case rel =>
       refine ⟨kk + 1, by omega, by omega, by omega, by go_num, ⟨?_⟩, rfl⟩
       have := HK.out; rw [HD.out, zdU, if_pos c1] at this; omega
    . have hc : letB (s[kk].toNat : Int) = false := Bool.eq_false_iff.2 c1
      rw [hc] at hl; have HN : Hid (kk = a + runL (s.data.toList.drop a)) := by
       show kk = _
       have := HK.out; rw [HD.out, zdU, if_neg c1] at this; omega
      by_cases hak2 : a < kk
      . have hd : decide (a < kk) = true := by simp [hak2]
        have hdz : (a : Int) < (kk : Int) := by omega
        have HV : Hid (zaK (s.data.toList.drop a) = some (1, (s.data.toList.drop a).take (kk - a), kk - a)) := by
         show _ = _
         have h1 : runL (s.data.toList.drop a) = kk - a := by have := HN.out; omega
         unfold zaK; rw [h1, if_pos (by omega)]
        go_wp2_with (go_at_call 176; refine (hl _).mono ?_; rintro e w' ⟨rfl, rfl⟩)
        exact bodyPost_ret (v := .tuple #[.agg #[.int .i64 1, .int .i64 a, .string (s.extract a kk)], .int .i64 kk]) (by simp [results, Tryz.results139, go_sem]) rfl ⟨by
         rw [HV.out]; show Ending.returned _ = Ending.returned _
         rw [zeg, show a + (kk - a) = kk by omega]
         rfl, (zpw _ _).alloc (zpx _) _⟩
      . obtain rfl : kk = a := by omega
        have hd : decide (kk < kk) = false := by simp
        have h0 : ¬ 0 < runL (s.data.toList.drop kk) := by have := HN.out; omega
        by_cases c2 : s[kk].toNat = 34
        . have e2 : ((s[kk].toNat : Int) == 34) = true := by simp; omega
          have HT := fun W => zjK s (kk + 1) (by omega) hs W
          have hfu : s.size - (kk + 1) + 1 = (s.data.toList.drop (kk + 1)).length + 1 := by rw [zpR, <- zqc]
          have HV : Hid (zaK (s.data.toList.drop kk) = (zbx ((s.data.toList.drop (kk + 1)).length + 1) (s.data.toList.drop (kk + 1))).map fun p => (2, p.1, p.2 + 1)) := by
           show _ = _
           unfold zaK; rw [if_neg h0, HD.out]; simp only; rw [if_pos (by rw [<- zqy]; exact c2)]
          rw [hfu] at HT; clear hfu c2 h0; cases hT : zbx ((s.data.toList.drop (kk + 1)).length + 1) (s.data.toList.drop (kk + 1)) with
          | none =>
           have HV2 : Hid (zaK (s.data.toList.drop kk) = none) := by show _ = none; rw [HV.out, hT]; rfl
           rw [hT] at HT; clear hT; replace HT : ∀ W, Calls zp5 177 #[.string s, .int .i64 ((kk + 1 : Nat) : Int)] W fun e w' => e = .returned (.tuple #[.string ⟨#[]⟩, .int .i64 (-1)]) /\ Below W.heap.size W w' := HT
           rw [show ((kk + 1 : Nat) : Int) = (kk : Int) + 1 by omega] at HT
           go_wp2_with (go_at_call 176; refine (hl _).mono ?_; rintro e w' ⟨rfl, rfl⟩)
           refine (HT _).mono ?_; rintro e w2 ⟨rfl, hb2⟩; have hblk := (hb2.block w.heap.size (by simp)).trans (heap_alloc_new w _)
           have hc0 : w2.cell? ⟨w.heap.size, 0, none⟩ = some (.int .i64 0) := by simp [World.cell?, hblk]
           have hc1 : w2.cell? ⟨w.heap.size, 1, none⟩ = some (.int .i64 0) := by simp [World.cell?, hblk]
           have hc2 : w2.cell? ⟨w.heap.size, 2, none⟩ = some (.string ⟨#[]⟩) := by simp [World.cell?, hblk]
           have hf0 := zak hblk 0; have hf1 := zak hblk 1; have hf2 := zak hblk 2; have HBlk := zpt hblk; have HB2 := zpt hb2; clear hblk hb2; go_wp2; have hs3 := ziH (.int .i64 2) (.int .i64 kk) (.string ⟨#[]⟩) HBlk.out; have HB3 : Hid (Below w.heap.size w (((w2.setCell ⟨w.heap.size, 0, none⟩ (.int .i64 2)).setCell ⟨w.heap.size, 1, none⟩ (.int .i64 kk)).setCell ⟨w.heap.size, 2, none⟩ (.string ⟨#[]⟩))) :=
            ((((zac ((zpw _ _).alloc (zpx _) _) (by simp) HB2.out).setCell (zpx _) _).setCell (zpx _) _).setCell (zpx _) _)
           generalize ((w2.setCell ⟨w.heap.size, 0, none⟩ (.int .i64 2)).setCell ⟨w.heap.size, 1, none⟩ (.int .i64 kk)).setCell ⟨w.heap.size, 2, none⟩ (.string ⟨#[]⟩) = w3 at hs3 HB3 |-; have g0 := (zah hs3 0).trans rfl; have g1 := (zah hs3 1).trans rfl; have g2 := (zah hs3 2).trans rfl; exact bodyPost_ret (v := .tuple #[.agg #[.int .i64 2, .int .i64 kk, .string ⟨#[]⟩], .int .i64 (-1)]) (by simp [results, Tryz.results139, go_sem, g0, g1, g2]) rfl ⟨by
            rw [HV2.out]; exact ⟨_, _, _, rfl⟩, HB3.out⟩
          | some p =>
           have HV2 : Hid (zaK (s.data.toList.drop kk) = some (2, p.1, p.2 + 1)) := by show _ = _; rw [HV.out, hT]; rfl
           rw [hT] at HT; clear hT; replace HT : ∀ W, Calls zp5 177 #[.string s, .int .i64 ((kk + 1 : Nat) : Int)] W fun e w' => e = .returned (.tuple #[.string (mk p.1), .int .i64 ((kk + 1 + p.2 : Nat) : Int)]) /\ Below W.heap.size W w' := HT
           rw [show ((kk + 1 : Nat) : Int) = (kk : Int) + 1 by omega] at HT
           go_wp2_with (go_at_call 176; refine (hl _).mono ?_; rintro e w' ⟨rfl, rfl⟩)
           refine (HT _).mono ?_; rintro e w2 ⟨rfl, hb2⟩; have hblk := (hb2.block w.heap.size (by simp)).trans (heap_alloc_new w _)
           have hc0 : w2.cell? ⟨w.heap.size, 0, none⟩ = some (.int .i64 0) := by simp [World.cell?, hblk]
           have hc1 : w2.cell? ⟨w.heap.size, 1, none⟩ = some (.int .i64 0) := by simp [World.cell?, hblk]
           have hc2 : w2.cell? ⟨w.heap.size, 2, none⟩ = some (.string ⟨#[]⟩) := by simp [World.cell?, hblk]
           have hf0 := zak hblk 0; have hf1 := zak hblk 1; have hf2 := zak hblk 2; have HBlk := zpt hblk; have HB2 := zpt hb2; clear hblk hb2; go_wp2; have hs3 := ziH (.int .i64 2) (.int .i64 kk) (.string (mk p.1)) HBlk.out; have HB3 : Hid (Below w.heap.size w (((w2.setCell ⟨w.heap.size, 0, none⟩ (.int .i64 2)).setCell ⟨w.heap.size, 1, none⟩ (.int .i64 kk)).setCell ⟨w.heap.size, 2, none⟩ (.string (mk p.1)))) :=
            ((((zac ((zpw _ _).alloc (zpx _) _) (by simp) HB2.out).setCell (zpx _) _).setCell (zpx _) _).setCell (zpx _) _)
           generalize ((w2.setCell ⟨w.heap.size, 0, none⟩ (.int .i64 2)).setCell ⟨w.heap.size, 1, none⟩ (.int .i64 kk)).setCell ⟨w.heap.size, 2, none⟩ (.string (mk p.1)) = w3 at hs3 HB3 |-; have g0 := (zah hs3 0).trans rfl; have g1 := (zah hs3 1).trans rfl; have g2 := (zah hs3 2).trans rfl; exact bodyPost_ret (v := .tuple #[.agg #[.int .i64 2, .int .i64 kk, .string (mk p.1)], .int .i64 ((kk + 1 + p.2 : Nat) : Int)]) (by simp [results, Tryz.results139, go_sem, g0, g1, g2]) rfl ⟨by
            rw [HV2.out]; show Ending.returned _ = Ending.returned _
            rw [show kk + (p.2 + 1) = kk + 1 + p.2 by omega]
            rfl, HB3.out⟩
        . have e2 : ((s[kk].toNat : Int) == 34) = false := by simp; omega
          have HW : Hid (zaK (s.data.toList.drop kk) = if zeD s[kk] then some (3, [s[kk]], 1) else none) := by
           show _ = _
           unfold zaK; rw [if_neg h0, HD.out]; simp only; rw [if_neg (fun h => c2 (by rw [h]; rfl))]
          have hP := fun W => zoa s[kk] W
          have HPB : Hid (zeD s[kk] = decide (0 <= zex s[kk])) := rfl; generalize zex s[kk] = i at hP HPB; clear h0 c2; by_cases hi : 0 <= i
          . have hid : decide (0 <= i) = true := by simp [hi]
            have HV : Hid (zaK (s.data.toList.drop kk) = some (3, [s[kk]], 1)) := by show _ = _; rw [HW.out, HPB.out, hid]; rfl
            go_wp2_with (first | (go_at_call 176; refine (hl _).mono ?_; rintro e w' ⟨rfl, rfl⟩) | (go_at_call 175; refine (hP _).mono ?_; rintro e w' ⟨rfl, rfl⟩))
            exact bodyPost_ret (v := .tuple #[.agg #[.int .i64 3, .int .i64 kk, .string (s.extract kk (kk + 1))], .int .i64 ((kk : Int) + 1)]) (by simp [results, Tryz.results139, go_sem]) rfl ⟨by
             rw [HV.out]; show Ending.returned _ = Ending.returned _
             rw [zeg, show kk + 1 - kk = 1 by omega, HD.out]
             rfl, (zpw _ _).alloc (zpx _) _⟩
          . have hid : decide (0 <= i) = false := by simp; omega
            have HV : Hid (zaK (s.data.toList.drop kk) = none) := by show _ = _; rw [HW.out, HPB.out, hid]; rfl
            go_wp2_with (first | (go_at_call 176; refine (hl _).mono ?_; rintro e w' ⟨rfl, rfl⟩) | (go_at_call 175; refine (hP _).mono ?_; rintro e w' ⟨rfl, rfl⟩))
            exact bodyPost_ret (v := .tuple #[.agg #[.int .i64 0, .int .i64 0, .string ⟨#[]⟩], .int .i64 (-1)]) (by simp [results, Tryz.results139, go_sem]) rfl ⟨by
             rw [HV.out]; exact ⟨_, _, _, rfl⟩, (zpw _ _).alloc (zpx _) _⟩
  . have hltz : ¬ (kk : Int) < (s.size : Int) := by omega
    have hak2 : a < kk := by omega
    have hd : decide (a < kk) = true := by simp [hak2]
    have hdz : (a : Int) < (kk : Int) := by omega
    have HV : Hid (zaK (s.data.toList.drop a) = some (1, (s.data.toList.drop a).take (kk - a), kk - a)) := by
     show _ = _
     have h2 := HK.out; rw [zqw (i := kk) (by rw [<- zqc]; omega)] at h2
     have h3 : runL [] = 0 := rfl; have h1 : runL (s.data.toList.drop a) = kk - a := by omega
     unfold zaK; rw [h1, if_pos (by omega)]
    go_wp2; exact bodyPost_ret (v := .tuple #[.agg #[.int .i64 1, .int .i64 a, .string (s.extract a kk)], .int .i64 kk]) (by simp [results, Tryz.results139, go_sem]) rfl ⟨by
     rw [HV.out]; show Ending.returned _ = Ending.returned _
     rw [zeg, show a + (kk - a) = kk by omega]
     rfl, (zpw _ _).alloc (zpx _) _⟩
abbrev zaO := S139
def lexL : Nat -> Nat -> zaa -> Except Nat (List zaO)
 | 0, p, _ => .error p
 | k + 1, p, l => if l = [] then .ok [] else match zaK l with
  | none => .error p
  | some q => (lexL k (p + q.2.2 + zaB false (l.drop q.2.2)) ((l.drop q.2.2).drop (zaB false (l.drop q.2.2)))).map (⟨(q.1 : Nat), (p : Nat), mk q.2.1⟩ :: ·)
def allF (s : zaa) : Except Nat (List zaO) := (lexL (s.length + 1) (zaB false s) (s.drop (zaB false s))).map (· ++ [⟨4, (s.length : Nat), ⟨#[]⟩⟩])
def allR : Except Nat (List zaO) -> List zaO × Int × Int
 | .ok l => (l, 0, 0)
 | .error p => ([], 1, (p : Nat))
theorem ze3 : ∀ (k : Nat) (l : zaa) (p : zaa × Nat), zbx k l = some p -> p.2 <= l.length
 | 0, _, _, h => by cases h
 | k + 1, [], _, h => by cases h
 | k + 1, c :: r, p, h => by
  unfold zbx at h; split at h
  . cases h; simp
  . split at h
    . split at h
      . cases h
      . obtain ⟨q, hq, rfl⟩ := zpC.1 h
        have h1 := ze3 k _ q hq; have h2 := (zjs r).1; rw [zpR] at h1; simp only [zqh]; omega
    . split at h
      . cases h
      . obtain ⟨q, hq, rfl⟩ := zpC.1 h
        have h1 := ze3 k _ q hq; simp only [zqh]; omega
theorem zdi {l : zaa} {q : Nat × zaa × Nat} (h : zaK l = some q) : 0 < q.2.2 /\ q.2.2 <= l.length := by
 unfold zaK at h; split at h
 . cases h
   exact ⟨by assumption, zjS l⟩
 . split at h
   . cases h
   . split at h
     . obtain ⟨p, hp, rfl⟩ := zpC.1 h
       have := ze3 _ _ p hp; simp only [zqh]; omega
     . split at h
       . cases h
         simp
       . cases h
theorem zd7 : ∀ (k k' p : Nat) (l : zaa), l.length < k -> l.length < k' -> lexL k p l = lexL k' p l
 | 0, _, _, l, h, _ => absurd h (zqx _)
 | _, 0, _, l, _, h => absurd h (zqx _)
 | k + 1, k' + 1, p, l, h, h' => by
  unfold lexL; by_cases h0 : l = []
  . rw [if_pos h0, if_pos h0]
  . rw [if_neg h0, if_neg h0]
    cases hw : zaK l with
    | none => rfl
    | some q =>
     have := zdi hw; simp only; rw [zd7 k k' _ _ (by simp only [zpR]; omega) (by simp only [zpR]; omega)]
theorem zfd : (Tryz.prog.info? 139).map (fun i => (i.zero, i.size, i.bytes)) = some (some (.agg #[.int .i64 0, .int .i64 0, .string ⟨#[]⟩]), 3, 32) := by kernel_rfl
theorem zdA {w2 : World} {g t : Nat} {x0 x1 : Value} (y0 y1 : Value) (h : w2.heap[g]? = some (.cells #[x0, x1] t (0, 0))) :
 ((w2.setCell ⟨g, 0, none⟩ y0).setCell ⟨g, 1, none⟩ y1).heap[g]? = some (.cells #[y0, y1] t (0, 0)) :=
 zav (zav h 0 y0 rfl) 1 y1 rfl
theorem zlp {w4 : World} {B g : Nat} {v : Value} {l : List zaO} {x0 x1 : Value} {t : Nat} (y0 y1 : Value) (h : Kd.R k139 139 w4 B (fun _ => True) v l) (hb : w4.heap[g]? = some (.cells #[x0, x1] t (0, 0))) (ht : 139 ≠ t) :
 Kd.R k139 139 ((w4.setCell ⟨g, 0, none⟩ y0).setCell ⟨g, 1, none⟩ y1) B (fun _ => True) v l := by
 have hne : some g ≠ v.ownBlock := by
  obtain ⟨_, inner, hown, _⟩ := h; exact zdG hown hb ht
 have h1 := Kd.R_far (p := ⟨g, 0, none⟩) (Kd.R_tight rfl h) (fun k hk e => hne (by rw [<- hk, e])) y0
 have h2 := Kd.R_far (p := ⟨g, 1, none⟩) h1 (fun k hk e => hne (by rw [<- hk, e])) y1
 exact Kd.R_mono h2 (fun _ _ => trivial)
def zge (r : List zaO × Int × Int) (w : World) (e : Ending) (w' : World) : Prop :=
 ∃ v0_ : Value, e = .returned (.tuple #[v0_, .agg #[.int .i64 r.2.1, .int .i64 r.2.2]]) /\ Kd.R k139 139 w' w.heap.size (fun _ => True) v0_ r.1 /\ Below w.heap.size w w'
theorem ziX (s : ByteArray) (hs : s.size <= 100000) (w : World) :
 Calls zp5 110 #[.string s] w (zge (allR (allF s.data.toList)) w) := by
 have hlen : s.data.toList.length = s.size := (zqc s).symm; generalize hT : allF s.data.toList = T; have HT := zpt hT; have HLen := zpt hlen; have hS0 := fun W => zhe s 0 (by omega) (by omega) W
 have hsl := zcW false s.data.toList; rw [List.drop_zero, Nat.zero_add] at hS0; clear hT; rw [hlen] at hsl; generalize hk0 : zaB false s.data.toList = k0 at hS0 hsl; have HK0 := zpt hk0; clear hk0 hlen; go_enter Tryz.func110, Tryz.ntmps110
 go_wp2_with (go_at_call 138; refine (hS0 _).mono ?_; rintro e w' ⟨rfl, rfl⟩)
 go_loopg [4, 5, 6, 7] s.size (fun gg s4 s5 _ _ wr => ∃ (kk : Nat) (acc : List zaO), kk <= s.size /\ s.size - kk <= gg /\ s5 = .int .i64 kk /\ acc.length <= kk /\ Aside0 (((lexL (s.size - kk + 1) kk (s.data.toList.drop kk)).map (acc ++ ·)).map (· ++ [⟨4, (s.size : Nat), ⟨#[]⟩⟩]) = T) /\
  Aside0 (Kd.R k139 139 wr w.heap.size (fun _ => True) s4 acc) /\ Aside0 (Below w.heap.size w wr) /\ Aside0 (wr.heap[w.heap.size]? = some (.cells #[.int .i64 0, .int .i64 0] 133 (0, 0))))
 case atStart =>
  refine ⟨k0, [], hsl, by omega, rfl, by simp, ⟨?_⟩, ⟨Kd.R_nil _ _ _ _ _⟩, ⟨(zpw _ _).alloc (zpx _) _⟩, ⟨heap_alloc_new w _⟩⟩
  rw [<- HT.out]; unfold allF; rw [HK0.out, HLen.out, zd7 (s.size - k0 + 1) (s.size + 1) _ _ (by rw [zpR, HLen.out]; omega) (by rw [zpR, HLen.out]; omega)]
  cases lexL (s.size + 1) k0 (s.data.toList.drop k0) <;> simp [Except.map]
 case round =>
  obtain ⟨kk, acc, hkk, hgk, rfl, hacc, HK, HO, HB, HC⟩ := hrel; by_cases hlt : kk < s.size
  . have hltz : (kk : Int) < (s.size : Int) := by omega
    have hW := fun W => zkI s kk hlt hs W
    go_wp2_with fail; refine (hW _).mono ?_; rintro e w2 ⟨he, hb2⟩; have hlt2 : w.heap.size < w2.heap.size := Nat.lt_of_lt_of_le (za1 HC.out) hb2.size; have hblk := (hb2.block w.heap.size (za1 HC.out)).trans HC.out; have HB2 := zpt (zac HB.out HB.out.size hb2); have HO2 := zpt (Kd.R_below HO.out hb2); have hc0 := bc0 hblk; have hc1 := bc1 hblk; have hf0 := zak hblk 0; have hf1 := zak hblk 1; have HBlk := zpt hblk; have hK := HK.out; rw [lexL, if_neg (fun h => by have := congrArg List.length h; rw [zpR, HLen.out, List.length_nil] at this; omega)] at hK
    clear hb2 hblk; cases hw : zaK (s.data.toList.drop kk) with
    | none =>
     rw [hw] at he hK; obtain ⟨k9, a9, t9, rfl⟩ := he; have HV : Hid (allR T = ([], 1, ((kk : Nat) : Int))) := by show _ = _; rw [<- hK]; rfl
     clear hK hw; go_wp2; have hs2 := zdA (.int .i64 1) (.int .i64 kk) HBlk.out; have hB5 : Below w.heap.size w ((w2.setCell ⟨w.heap.size, 0, none⟩ (.int .i64 1)).setCell ⟨w.heap.size, 1, none⟩ (.int .i64 kk)) := (HB2.out.setCell (zpx _) _).setCell (zpx _) _; generalize (w2.setCell ⟨w.heap.size, 0, none⟩ (.int .i64 1)).setCell ⟨w.heap.size, 1, none⟩ (.int .i64 kk) = w5 at hs2 hB5 |-; have hB6 := hB5.alloc hB5.size (.cells #[.int .i64 k9, .int .i64 a9, .string t9] 139); have hs3 := (Below.heap_alloc w5 (.cells #[.int .i64 k9, .int .i64 a9, .string t9] 139) w.heap.size (za1 hs2)).trans hs2; generalize w5.alloc (.cells #[.int .i64 k9, .int .i64 a9, .string t9] 139) = w6 at hs3 hB6 |-; have g0 := (zah hs3 0).trans rfl; have g1 := (zah hs3 1).trans rfl; exact bodyPost_ret (v := .tuple #[.slice none 0 0, .agg #[.int .i64 1, .int .i64 kk]]) (by simp [results, Tryz.results110, go_sem, g0, g1]) rfl (by
      rw [HV.out]; exact ⟨_, rfl, Kd.R_nil _ _ _ _ _, hB6⟩)
    | some q =>
     rw [hw] at he hK; obtain rfl := he; have hqp := zdi hw; rw [zpR, HLen.out] at hqp; have hSk := fun W => zhe s (kk + q.2.2) (by omega) (by omega) W
     have hsk := zcW false (s.data.toList.drop (kk + q.2.2)); rw [zpR, HLen.out] at hsk; dsimp only at hK; simp only [List.drop_drop] at hK; generalize hm : zaB false (s.data.toList.drop (kk + q.2.2)) = m at hSk hsk hK; have HM := zpt hm; have hneg : decide ((kk : Int) + (q.2.2 : Int) < 0) = false := by simp; omega
     have hSk2 : ∀ W, Calls zp5 138 #[.string s, .int .i64 ((kk : Int) + (q.2.2 : Int))] W fun e w' => e = .returned (.int .i64 ((kk + q.2.2 + m : Nat) : Int)) /\ W = w' := fun W => by
      have h := hSk W; rwa [Int.natCast_add kk q.2.2] at h
     have HK3 := zpt hK; clear hK hw hm; have HNE : Hid (some w.heap.size ≠ u4.ownBlock) := by
      obtain ⟨_, inner, hown, _⟩ := HO2.out; exact zdG hown HBlk.out (by decide)
     have HB3 := zpt (HB2.out.alloc HB2.out.size (.cells #[.int .i64 (q.1 : Nat), .int .i64 (kk : Nat), .string (mk q.2.1)] 139)); have HO3 := zpt (Kd.R_alloc HO2.out (.cells #[.int .i64 (q.1 : Nat), .int .i64 (kk : Nat), .string (mk q.2.1)] 139)); have HWB : Hid (w.heap.size <= (w2.alloc (.cells #[.int .i64 (q.1 : Nat), .int .i64 (kk : Nat), .string (mk q.2.1)] 139)).heap.size) := HB3.out.size; have hal : acc.length <= 100000 := by omega
     have HBlk3 := zpt ((Below.heap_alloc w2 (.cells #[.int .i64 (q.1 : Nat), .int .i64 (kk : Nat), .string (mk q.2.1)] 139) w.heap.size hlt2).trans HBlk.out); have hkn : kk + q.2.2 + m <= s.size := by omega
     have HKN : Hid (((lexL (s.size - (kk + q.2.2 + m) + 1) (kk + q.2.2 + m) (s.data.toList.drop (kk + q.2.2 + m))).map ((acc ++ [⟨(q.1 : Nat), (kk : Nat), mk q.2.1⟩]) ++ ·)).map (· ++ [⟨4, (s.size : Nat), ⟨#[]⟩⟩]) = T) := by
      show _ = T
      rw [<- HK3.out, zd7 (s.size - (kk + q.2.2 + m) + 1) (s.size - kk) _ _ (by rw [zpR, HLen.out]; omega) (by rw [zpR, HLen.out]; omega)]
      cases lexL (s.size - kk) (kk + q.2.2 + m) (s.data.toList.drop (kk + q.2.2 + m)) <;> simp [Except.map]
     clear hSk hsk; go_wp2_with (first | ((with_reducible refine zaG (b := .append) (xs := #[.tmp 24, .tmp 26]) rfl ?_); at_builtin; refine Kd.R_append k139 (w0 := w) w.heap.size rfl (.tmp 24) (.tmp 26) 131 139 (.agg #[.int .i64 0, .int .i64 0, .string ⟨#[]⟩]) 32 rfl Tryz.underlying131 zfd rfl (by decide) (by decide) u4 acc ⟨(q.1 : Nat), (kk : Nat), mk q.2.1⟩ [.int .i64 (q.1 : Nat), .int .i64 (kk : Nat), .string (mk q.2.1)] (fun _ => True) (fun k_ => True /\ some k_ ≠ u4.ownBlock) rfl (by first | (go_simp; done) | (go_simp; rfl)) (ziB _ _ _ ⟨(q.1 : Nat), (kk : Nat), mk q.2.1⟩) (fun _ hk => hk) (fun _ _ => trivial) HO3.out HB3.out HWB.out ?aL ?_; (case aL => omega); intro v1 w4 ho hb hg hat; have hblk := (hg.block w.heap.size (za1 HBlk3.out) HNE.out).trans HBlk3.out; have HO4 := zpt ho; have HB4 := zpt hb; have HBlk4 := zpt hblk; clear ho hb hg hat hblk) | (go_at_call 138; refine (hSk2 _).mono ?_; rintro e w' ⟨rfl, rfl⟩))
     go_roundg (s.size - (kk + q.2.2 + m))
     case measure => omega
     case rel => exact ⟨kk + q.2.2 + m, acc ++ [⟨(q.1 : Nat), (kk : Nat), mk q.2.1⟩], hkn, by omega, by first | rfl | go_num, by simp; omega, ⟨HKN.out⟩, ⟨HO4.out⟩, ⟨HB4.out⟩, ⟨HBlk4.out⟩⟩
  . have hltz : ¬ (kk : Int) < (s.size : Int) := by omega
    have HWB := zpt HB.out.size; have HNE : Hid (some w.heap.size ≠ u4.ownBlock) := by
     obtain ⟨_, inner, hown, _⟩ := HO.out; exact zdG hown HC.out (by decide)
    have hal : acc.length <= 100000 := by omega
    have HV : Hid (allR T = (acc ++ [⟨4, (s.size : Nat), ⟨#[]⟩⟩], 0, 0)) := by
     show _ = _
     rw [<- HK.out, zqw (by rw [HLen.out]; omega)]
     unfold lexL; simp [Except.map, allR]
    go_wp2_with (first | ((with_reducible refine zaG (b := .append) (xs := #[.tmp 31, .tmp 35]) rfl ?_); at_builtin; refine Kd.R_append k139 (w0 := w) w.heap.size rfl (.tmp 31) (.tmp 35) 131 139 (.agg #[.int .i64 0, .int .i64 0, .string ⟨#[]⟩]) 32 rfl Tryz.underlying131 zfd rfl (by decide) (by decide) u4 acc ⟨4, (s.size : Nat), ⟨#[]⟩⟩ [.int .i64 4, .int .i64 (s.size : Nat), .string ⟨#[]⟩] (fun _ => True) (fun k_ => True /\ some k_ ≠ u4.ownBlock) rfl rfl (ziB _ _ _ ⟨4, (s.size : Nat), ⟨#[]⟩⟩) (fun _ hk => hk) (fun _ _ => trivial) HO.out HB.out HWB.out ?aL ?_; (case aL => omega); intro v1 w4 ho hb hg hat; have hblk := (hg.block w.heap.size (za1 HC.out) HNE.out).trans HC.out; have HO4 := zpt ho; have HB4 := zpt hb; have hc0 := bc0 hblk; have hc1 := bc1 hblk; have hf0 := zak hblk 0; have hf1 := zak hblk 1; have HBlk := zpt hblk; clear ho hb hg hat hblk))
    have hs2 := zdA (.int .i64 0) (.int .i64 0) HBlk.out; have hR5 := zlp (.int .i64 0) (.int .i64 0) HO4.out HBlk.out (by decide)
    have hB5 : Below w.heap.size w ((w4.setCell ⟨w.heap.size, 0, none⟩ (.int .i64 0)).setCell ⟨w.heap.size, 1, none⟩ (.int .i64 0)) := (HB4.out.setCell (zpx _) _).setCell (zpx _) _; generalize (w4.setCell ⟨w.heap.size, 0, none⟩ (.int .i64 0)).setCell ⟨w.heap.size, 1, none⟩ (.int .i64 0) = w5 at hs2 hR5 hB5 |-; have g0 := (zah hs2 0).trans rfl; have g1 := (zah hs2 1).trans rfl; exact bodyPost_ret (v := .tuple #[v1, .agg #[.int .i64 0, .int .i64 0]]) (by simp [results, Tryz.results110, go_sem, g0, g1]) rfl (by
     rw [HV.out]; exact ⟨v1, rfl, hR5, hB5⟩)
abbrev zaw := S24
abbrev zaj := S45
abbrev PS := List zaO × Int
def zay (l : List zaO) : zaO := l.headD ⟨4, 0, ⟨#[]⟩⟩
def zbD (s : PS) : PS := if s.2 < 0 then (s.1, (zay s.1).f1) else s
def atP (k : Int) (t : ByteArray) (s : PS) : Bool := decide ((zay s.1).f0 = k) && decide ((zay s.1).f2 = t)
def isP (k : Int) (t : ByteArray) (s : PS) : Bool := decide (s.2 < 0) && atP k t s
def za5 (k : Int) (t : ByteArray) (s : PS) : Bool × PS := if isP k t s = true then (true, (s.1.tail, s.2)) else (false, s)
def zaA (k : Int) (t : ByteArray) (s : PS) : PS := if isP k t s = true then (s.1.tail, s.2) else zbD s
def mayP (k : Int) (p : ByteArray -> Bool) (s : PS) : Bool := decide (s.2 < 0) && (decide ((zay s.1).f0 = k) && p (zay s.1).f2)
def zaI (k : Int) (p : ByteArray -> Bool) (s : PS) : ByteArray × PS := if mayP k p s = true then ((zay s.1).f2, (s.1.tail, s.2)) else (⟨#[]⟩, zbD s)
def zdL (t : ByteArray) : Bool := may t.data.toList
def zar : PS -> ByteArray × PS := zaI 1 zdL
def zaD : PS -> ByteArray × PS := zaI 2 (fun _ => true)
def zdo : ByteArray := ⟨#[44]⟩
def semi : ByteArray := ⟨#[59]⟩
def zbt : Nat -> PS -> List ByteArray × PS
 | 0, s => ([], s)
 | n + 1, s => if isP 3 zdo s = true then ((zar (s.1.tail, s.2)).1 :: (zbt n (zar (s.1.tail, s.2)).2).1, (zbt n (zar (s.1.tail, s.2)).2).2) else ([], s)
def zgj (s : PS) : List ByteArray × PS := ((zar s).1 :: (zbt (zar s).2.1.length (zar s).2).1, (zbt (zar s).2.1.length (zar s).2).2)
def zbe (s : PS) : List ByteArray × PS := ((zgj s).1, zaA 3 semi (zgj s).2)
def opsL : List ByteArray := [⟨#[]⟩, ⟨#[99, 111, 112, 121]⟩, ⟨#[110, 101, 101, 100]⟩, ⟨#[115, 111, 114, 116]⟩, ⟨#[99, 111, 117, 110, 116]⟩, ⟨#[99, 111, 110, 99, 97, 116]⟩, ⟨#[108, 105, 116, 101, 114, 97, 108]⟩, ⟨#[115, 101, 108, 101, 99, 116]⟩, ⟨#[114, 101, 112, 108, 97, 99, 101]⟩, ⟨#[112, 114, 101, 102, 105, 120]⟩]
def idxF (l : List ByteArray) (t : ByteArray) : Int := match l.findIdx? (fun x => decide (x = t)) with | some i => (i : Nat) | none => -1
def opF (t : ByteArray) : Int := max (idxF opsL t) 0
def opB (t : ByteArray) : Bool := decide (0 < opF t)
def numB (t : ByteArray) : Bool := (zet t.data.toList 2000).2
def numV (t : ByteArray) : Int := (zet t.data.toList 2000).1
def za7 : Nat -> PS -> List ByteArray × PS
 | 0, s => ([], s)
 | n + 1, s => if s.2 < 0 /\ (zay s.1).f0 = 1 then ((zar s).1 :: (za7 n (zar s).2).1, (za7 n (zar s).2).2) else ([], s)
def zcu (op : Int) (s : PS) : (List ByteArray × Int) × PS :=
 if op = 6 \/ op = 7 then (([(zaD s).1], 0), (zaD s).2)
 else if op = 8 then (([(zaD s).1, (zaD (zaD s).2).1], 0), (zaD (zaD s).2).2)
 else if op = 9 then (([], numV (zaI 1 numB s).1), (zaI 1 numB s).2)
 else (([], 0), s)
def argP (op : Int) (s : PS) : List ByteArray × PS :=
 if op = 5 then za7 (s.1.length + 1) s else if op = 6 then ([], s) else ([(zar s).1], (zar s).2)
def zeY (out op : ByteArray) (s : PS) : zaw × PS :=
 (⟨out, opF op, (argP (opF op) (zcu (opF op) s).2).1, (zcu (opF op) s).1.1, (zcu (opF op) s).1.2⟩, zaA 3 semi (argP (opF op) (zcu (opF op) s).2).2)
def zdJ : ByteArray := ⟨#[61]⟩
def za0 (s : PS) : zaw × PS :=
 zeY (zar s).1 (zaI 1 opB (zaA 3 zdJ (zar s).2)).1 (zaI 1 opB (zaA 3 zdJ (zar s).2)).2
def zcE : ByteArray := ⟨#[125]⟩
def za8 : Nat -> PS -> List zaw × PS
 | 0, s => ([], s)
 | n + 1, s => if s.2 < 0 /\ atP 3 zcE s = false then ((za0 s).1 :: (za8 n (za0 s).2).1, (za8 n (za0 s).2).2) else ([], s)
def ifP (word : ByteArray) (s : PS) : List ByteArray × PS := if isP 1 word s = true then zbe (s.1.tail, s.2) else ([], s)
def zbf (s : PS) : zaj × PS :=
 let a := zar (zaA 1 ⟨#[114, 117, 108, 101]⟩ s)
 let i := ifP ⟨#[105, 110]⟩ (zaA 3 ⟨#[123]⟩ a.2)
 let o := zbe (zaA 1 ⟨#[111, 117, 116]⟩ i.2)
 let f := ifP ⟨#[97, 102, 116, 101, 114]⟩ o.2
 let t := za8 (f.2.1.length + 1) f.2
 (⟨a.1, i.1, o.1, f.1, t.1⟩, zaA 3 zcE t.2)
def zaV : Nat -> PS -> List zaj × PS
 | 0, s => ([], s)
 | n + 1, s => if s.2 < 0 /\ (zay s.1).f0 ≠ 4 then ((zbf s).1 :: (zaV n (zbf s).2).1, (zaV n (zbf s).2).2) else ([], s)
def zes (l : List zaO) : List zaj × Int × Int :=
 if (zaV (l.length + 1) (l, -1)).2.2 < 0 then ((zaV (l.length + 1) (l, -1)).1, 0, 0) else ([], 1, (zaV (l.length + 1) (l, -1)).2.2)
def zb7 (s : zaa) : List zaj × Int × Int :=
 if 20000 < s.length then ([], 4, -1) else match allF s with
 | .error p => ([], 1, (p : Nat))
 | .ok l => zes l
def GoodW (l : List zaO) : Prop := (∃ x, l.getLast? = some x /\ x.f0 = 4) /\ ∀ x ∈ l, 0 <= x.f1 /\ x.f1 <= 100000 /\ x.f2.size <= 100000
theorem GoodW.ne {l : List zaO} (h : GoodW l) : l ≠ [] := by
 rintro rfl; obtain ⟨⟨x, hx, _⟩, _⟩ := h; cases hx
theorem GoodW.tail {l : List zaO} (h : GoodW l) (hk : (zay l).f0 ≠ 4) : GoodW l.tail := by
 obtain ⟨⟨x, hx, hx4⟩, hb⟩ := h; match l, hx, hk, hb with
 | [y], hx, hk, _ =>
  simp at hx
  subst hx; exact absurd hx4 hk
 | y :: z :: r, hx, hk, hb =>
  exact ⟨⟨x, by simpa using hx, hx4⟩, fun u hu => hb u (List.mem_cons_of_mem _ hu)⟩
theorem zch {k : Int} {t : ByteArray} {s : PS} (h : isP k t s = true) : s.2 < 0 /\ (zay s.1).f0 = k /\ (zay s.1).f2 = t := by
 unfold isP atP at h; simp at h
 exact h
theorem GoodW.fails {s : PS} (h : GoodW s.1) : GoodW (zbD s).1 := by
 unfold zbD; split <;> exact h
theorem GoodW.must {s : PS} (h : GoodW s.1) {k : Int} (hk : k ≠ 4) (t : ByteArray) : GoodW (zaA k t s).1 := by
 unfold zaA; split
 . next hi => exact h.tail (by rw [(zch hi).2.1]; exact hk)
 . exact h.fails
theorem zeV {k : Int} {p : ByteArray -> Bool} {s : PS} (h : mayP k p s = true) : s.2 < 0 /\ (zay s.1).f0 = k /\ p (zay s.1).f2 = true := by
 unfold mayP at h; simp at h
 exact h
theorem GoodW.next {s : PS} (h : GoodW s.1) {k : Int} (hk : k ≠ 4) (p : ByteArray -> Bool) : GoodW (zaI k p s).2.1 := by
 unfold zaI; split
 . next hi => exact h.tail (by rw [(zeV hi).2.1]; exact hk)
 . exact h.fails
theorem zfy (s : PS) : (zbD s).1 = s.1 := by
 unfold zbD; split <;> rfl
theorem zgu (l : List zaO) : l.tail.length <= l.length := by simp
theorem zfM (k : Int) (p : ByteArray -> Bool) (s : PS) : (zaI k p s).2.1.length <= s.1.length := by
 unfold zaI; split
 . exact zgu _
 . rw [zfy]; exact zpx _
structure InvP (I : PS -> Prop) : Prop where
 fails : ∀ s, I s -> I (zbD s)
 adv : ∀ s : PS, I s -> s.2 < 0 -> (zay s.1).f0 ≠ 4 -> I (s.1.tail, s.2)
namespace InvP
variable {I : PS -> Prop} (h : InvP I)
include h
theorem must {s : PS} (hs : I s) {k : Int} (hk : k ≠ 4) (t : ByteArray) : I (zaA k t s) := by
 unfold zaA; split
 . next hi => exact h.adv s hs (zch hi).1 (by rw [(zch hi).2.1]; exact hk)
 . exact h.fails s hs
theorem next {s : PS} (hs : I s) {k : Int} (hk : k ≠ 4) (p : ByteArray -> Bool) : I (zaI k p s).2 := by
 unfold zaI; split
 . next hi => exact h.adv s hs (zeV hi).1 (by rw [(zeV hi).2.1]; exact hk)
 . exact h.fails s hs
theorem name {s : PS} (hs : I s) : I (zar s).2 := h.next hs (by decide) _
theorem text {s : PS} (hs : I s) : I (zaD s).2 := h.next hs (by decide) _
theorem more : ∀ (n : Nat) {s : PS}, I s -> I (zbt n s).2
 | 0, s, hs => hs
 | n + 1, s, hs => by
  unfold zbt; split
  . next hi => exact more n (h.name (h.adv s hs (zch hi).1 (by rw [(zch hi).2.1]; decide)))
  . exact hs
theorem names {s : PS} (hs : I s) : I (zgj s).2 := h.more _ (h.name hs)
theorem list {s : PS} (hs : I s) : I (zbe s).2 := h.must (h.names hs) (by decide) _
theorem args : ∀ (n : Nat) {s : PS}, I s -> I (za7 n s).2
 | 0, s, hs => hs
 | n + 1, s, hs => by
  unfold za7; split
  . exact args n (h.name hs)
  . exact hs
theorem lits (op : Int) {s : PS} (hs : I s) : I (zcu op s).2 := by
 unfold zcu; split
 . exact h.text hs
 . split
   . exact h.text (h.text hs)
   . split
     . exact h.next hs (by decide) _
     . exact hs
theorem arg (op : Int) {s : PS} (hs : I s) : I (argP op s).2 := by
 unfold argP; split
 . exact h.args _ hs
 . split
   . exact hs
   . exact h.name hs
theorem tail (a b : ByteArray) {s : PS} (hs : I s) : I (zeY a b s).2 := h.must (h.arg _ (h.lits _ hs)) (by decide) _
theorem step {s : PS} (hs : I s) : I (za0 s).2 := h.tail _ _ (h.next (h.must (h.name hs) (by decide) _) (by decide) _)
theorem steps : ∀ (n : Nat) {s : PS}, I s -> I (za8 n s).2
 | 0, s, hs => hs
 | n + 1, s, hs => by
  unfold za8; split
  . exact steps n (h.step hs)
  . exact hs
theorem if_ (t : ByteArray) {s : PS} (hs : I s) : I (ifP t s).2 := by
 unfold ifP; split
 . next hi => exact h.list (h.adv s hs (zch hi).1 (by rw [(zch hi).2.1]; decide))
 . exact hs
theorem rule {s : PS} (hs : I s) : I (zbf s).2 := h.must (h.steps _ (h.if_ _ (h.list (h.must (h.if_ _ (h.must (h.name (h.must hs (by decide) _)) (by decide) _)) (by decide) _)))) (by decide) _
theorem rules : ∀ (n : Nat) {s : PS}, I s -> I (zaV n s).2
 | 0, s, hs => hs
 | n + 1, s, hs => by
  unfold zaV; split
  . exact rules n (h.rule hs)
  . exact hs
end InvP
theorem inv_good : InvP (fun s => GoodW s.1) := ⟨fun _ h => h.fails, fun _ h _ hk => h.tail hk⟩
theorem zmu (n : Nat) : InvP (fun s => s.1.length <= n) := ⟨fun s h => by rw [zfy]; exact h, fun s h _ _ => zpD (zgu _) h⟩
end X
namespace X
open YtdpgdnpddndeoaaGreatDoorW.PrintMore YtdpgdnpddndeoaaGreatDoorW.PrintLast
def WordsAt (cur : Array Value) (o : Nat) (l : List zaO) : Prop := ∀ j x, l[j]? = some x -> cur[o + 3 * j]? = some (.int .i64 x.f0) /\ cur[o + 3 * j + 1]? = some (.int .i64 x.f1) /\ cur[o + 3 * j + 2]? = some (.string x.f2)
theorem WordsAt.tail {cur : Array Value} {o : Nat} {x : zaO} {r : List zaO} (h : WordsAt cur o (x :: r)) : WordsAt cur (o + 3) r := fun j y hy => by
 have := h (j + 1) y (by simpa using hy)
 rw [show o + 3 * (j + 1) = o + 3 + 3 * j by omega] at this
 exact this
theorem WordsAt.drop {cur : Array Value} {o : Nat} {l : List zaO} (h : WordsAt cur o l) (k : Nat) : WordsAt cur (o + 3 * k) (l.drop k) := fun j y hy => by
 have := h (k + j) y (by rw [List.getElem?_drop] at hy; exact hy)
 rw [show o + 3 * (k + j) = o + 3 * k + 3 * j by omega] at this
 exact this
structure IsP (w : World) (g : Nat) (s : PS) (b o c : Nat) (cur : Array Value) : Prop where
 own : w.heap[g]? = some (.cells #[.slice (some ⟨b, o, none⟩) s.1.length c, .int .i64 s.2] 169 (0, 0))
 cap : s.1.length <= c
 row : w.heap[b]? = some (.cells cur 139 (0, 0))
 words : WordsAt cur o s.1
def HasP (w : World) (g : Nat) (s : PS) : Prop := ∃ b o c cur, IsP w g s b o c cur
theorem IsP.grown {w w1 : World} {g : Nat} {s : PS} {b o c : Nat} {cur : Array Value} (h : IsP w g s b o c cur) {row : Option Nat} (hg : w.grownBy w1 row) (h1 : some g ≠ row) (h2 : some b ≠ row) : IsP w1 g s b o c cur :=
 ⟨zaY h.own hg h1, h.cap, zaY h.row hg h2, h.words⟩
theorem HasP.below {w w1 : World} {g : Nat} {s : PS} (h : HasP w g s) (hb : Below w.heap.size w w1) : HasP w1 g s := by
 obtain ⟨b, o, c, cur, h⟩ := h; exact ⟨b, o, c, cur, zai h.own hb, h.cap, zai h.row hb, h.words⟩
theorem HasP.lt {w : World} {g : Nat} {s : PS} (h : HasP w g s) : g < w.heap.size := by
 obtain ⟨b, o, c, cur, h⟩ := h; exact za1 h.own
theorem HasP.step {w w1 : World} {g : Nat} {s : PS} (h : HasP w g s) (hs : ∀ (k t : Nat) (cs : Array Value), (t = 169 \/ t = 139) -> w.heap[k]? = some (.cells cs t (0, 0)) -> w1.heap[k]? = w.heap[k]?) : HasP w1 g s := by
 obtain ⟨b, o, c, cur, h⟩ := h; exact ⟨b, o, c, cur, (hs _ _ _ (.inl rfl) h.own).trans h.own, h.cap, (hs _ _ _ (.inr rfl) h.row).trans h.row, h.words⟩
theorem HasP.set {w : World} {g g' : Nat} {s : PS} (h : HasP w g s) {cs : Array Value} {t : Nat} (hb : w.heap[g']? = some (.cells cs t (0, 0))) (h1 : 169 ≠ t) (h2 : 139 ≠ t) (j : Nat) (u : Value) : HasP (w.setCell ⟨g', j, none⟩ u) g s :=
 h.step fun k t' cs' ht hk => Below.heap_setCell w ⟨g', j, none⟩ u k (zfQ hk hb (by rcases ht with rfl | rfl <;> assumption))
theorem IsP.first {w : World} {g : Nat} {s : PS} {b o c : Nat} {cur : Array Value} (h : IsP w g s b o c cur) (hn : s.1 ≠ []) :
 w.cell? ⟨b, o, none⟩ = some (.int .i64 (zay s.1).f0) /\ w.cell? ⟨b, o + 1, none⟩ = some (.int .i64 (zay s.1).f1) /\ w.cell? ⟨b, o + 2, none⟩ = some (.string (zay s.1).f2) := by
 obtain ⟨l, d⟩ := s; match l, hn with
 | x :: r, _ =>
  have := h.words 0 x rfl; exact ⟨(zah h.row o).trans this.1, (zah h.row (o + 1)).trans this.2.1, (zah h.row (o + 2)).trans this.2.2⟩
theorem IsP.taken {w : World} {g : Nat} {s : PS} {b o c : Nat} {cur : Array Value} (h : IsP w g s b o c cur) {x : zaO} {r : List zaO} (hs : s.1 = x :: r) :
 IsP (w.setCell ⟨g, 0, none⟩ (.slice (some ⟨b, o + 3, none⟩) r.length (c - 1))) g (r, s.2) b (o + 3) (c - 1) cur := by
 have hc := h.cap; have hw := h.words; rw [hs] at hc hw; exact ⟨zav h.own 0 _ rfl, by simp only [zqh] at hc; show r.length <= c - 1; omega, zaP h.row (zfQ h.row h.own (by decide)) _, hw.tail⟩
theorem IsP.marked {w : World} {g : Nat} {s : PS} {b o c : Nat} {cur : Array Value} (h : IsP w g s b o c cur) (u : Int) : IsP (w.setCell ⟨g, 1, none⟩ (.int .i64 u)) g (s.1, u) b o c cur :=
 ⟨zav h.own 1 _ rfl, h.cap, zaP h.row (zfQ h.row h.own (by decide)) _, h.words⟩
theorem zeU (w : World) (g j : Nat) (u : Value) : w.grownBy (w.setCell ⟨g, j, none⟩ u) (some g) :=
 ⟨rfl, rfl, rfl, by simp [World.setCell], fun k _ hk => Below.heap_setCell w ⟨g, j, none⟩ u k (fun e => hk (by rw [e]))⟩
theorem zdW (g : Nat) (s : PS) (w : World) (h : HasP w g s) :
 Calls zp5 140 #[.pointer (some ⟨g, 0, none⟩)] w fun e w' => e = .returned (.bool (decide (s.2 < 0))) /\ w = w' := by
 obtain ⟨b, o, c, cur, hp⟩ := h; have h1 : w.cell? ⟨g, 1, none⟩ = some (.int .i64 s.2) := (zah hp.own 1).trans rfl; clear hp; go_enter Tryz.func140, Tryz.ntmps140
 go_wp2; go_ret
 exact ⟨rfl, rfl⟩
theorem zg0 (g : Nat) (s : PS) (w : World) (h : HasP w g s) (hg : GoodW s.1) :
 Calls zp5 217 #[.pointer (some ⟨g, 0, none⟩)] w fun e w' => e = .returned (.tuple #[]) /\ HasP w' g (zbD s) /\ w.grownBy w' (some g) := by
 obtain ⟨b, o, c, cur, hp⟩ := h; have h0 : w.cell? ⟨g, 0, none⟩ = some (.slice (some ⟨b, o, none⟩) s.1.length c) := (zah hp.own 0).trans rfl; have h1 : w.cell? ⟨g, 1, none⟩ = some (.int .i64 s.2) := (zah hp.own 1).trans rfl; have hf1 := zak hp.own 1; obtain ⟨k0, k1, k2⟩ := hp.first hg.ne
 have hpos : 0 < s.1.length := zqz.2 hg.ne; have HP := zpt hp; by_cases hb : s.2 < 0
 . have hd : decide (s.2 < 0) = true := by simpa using hb
   have HF : Hid (zbD s = (s.1, (zay s.1).f1)) := by show _ = _; unfold zbD; rw [if_pos hb]
   clear hp; go_enter Tryz.func217, Tryz.ntmps217
   go_wp2; go_end0
   rw [HF.out]; exact ⟨rfl, ⟨b, o, c, cur, HP.out.marked _⟩, zeU _ _ _ _⟩
 . have hd : decide (s.2 < 0) = false := by simpa using hb
   have HF : Hid (zbD s = s) := by show _ = _; unfold zbD; rw [if_neg hb]
   clear hp; go_enter Tryz.func217, Tryz.ntmps217
   go_wp2; go_end0
   rw [HF.out]; exact ⟨rfl, ⟨b, o, c, cur, HP.out⟩, World.grownBy.refl _ _⟩
theorem zf8 (x y : ByteArray) : (x.toList == y.toList) = decide (x = y) := by
 rw [zbh, zbh, Bool.eq_iff_iff]; simp only [beq_iff_eq, decide_eq_true_eq]; exact ⟨fun h => zcn h, fun h => by rw [h]⟩
theorem zhk (g : Nat) (k : Int) (t : ByteArray) (s : PS) (w : World) (h : HasP w g s) (hn : s.1 ≠ []) :
 Calls zp5 182 #[.pointer (some ⟨g, 0, none⟩), .int .i64 k, .string t] w fun e w' => e = .returned (.bool (isP k t s)) /\ w = w' := by
 have hO := fun W hW => zdW g s W hW
 obtain ⟨b, o, c, cur, hp⟩ := id h; have h0 : w.cell? ⟨g, 0, none⟩ = some (.slice (some ⟨b, o, none⟩) s.1.length c) := (zah hp.own 0).trans rfl; obtain ⟨k0, k1, k2⟩ := hp.first hn
 have hpos : 0 < s.1.length := zqz.2 hn; have HH := zpt h; clear hp h; by_cases hb : s.2 < 0
 . have hd : decide (s.2 < 0) = true := by simpa using hb
   rw [hd] at hO; by_cases hk : (zay s.1).f0 = k
   . have hkd : ((zay s.1).f0 == k) = true := by simpa using hk
     have HE : Hid (isP k t s = ((zay s.1).f2.toList == t.toList)) := by show _ = _; rw [zf8]; unfold isP atP; rw [hd, decide_eq_true hk]; rfl
     clear hb hk hd; go_enter Tryz.func182, Tryz.ntmps182
     go_wp2_with (go_at_call 140; refine (hO _ HH.out).mono ?_; rintro e w' ⟨rfl, rfl⟩)
     go_ret
     rw [HE.out]; exact ⟨rfl, rfl⟩
   . have hkd : ((zay s.1).f0 == k) = false := by simpa using hk
     have HE : Hid (isP k t s = false) := by show _ = _; unfold isP atP; rw [decide_eq_false hk]; simp
     clear hb hk hd; go_enter Tryz.func182, Tryz.ntmps182
     go_wp2_with (go_at_call 140; refine (hO _ HH.out).mono ?_; rintro e w' ⟨rfl, rfl⟩)
     go_ret
     rw [HE.out]; exact ⟨rfl, rfl⟩
 . have hd : decide (s.2 < 0) = false := by simpa using hb
   rw [hd] at hO; have HE : Hid (isP k t s = false) := by show _ = _; unfold isP; rw [hd]; rfl
   clear hb hd; go_enter Tryz.func182, Tryz.ntmps182
   go_wp2_with (go_at_call 140; refine (hO _ HH.out).mono ?_; rintro e w' ⟨rfl, rfl⟩)
   go_ret
   rw [HE.out]; exact ⟨rfl, rfl⟩
theorem ziR (b o n c : Nat) (W : World) (hn : 0 < n) (_hc : n <= c) (h2 : 2 <= c) : (Instr.slice 131 (.slice (some ⟨b, o, none⟩) n c) (some (.int .i64 1)) none none).run zp5 W = .ok (.slice (some ⟨b, o + 3, none⟩) (n - 1) (c - 1)) W := by
 obtain ⟨i0, hi, hz⟩ := zpC.1 zfd; simp only [Prod.mk.injEq] at hz; have hel : Program.elem zp5 131 = 139 := by simp [Program.elem, Tryz.underlying131]
 have hu : Tryz.prog.underlying 131 = some (.slice (Program.elem zp5 131)) := by rw [hel]; exact Tryz.underlying131
 rw [run_slice_l W 131 (some ⟨b, o, none⟩) n c hu .i64 1 (by omega) (by omega), hel]
 simp [sizeOf, typeInfo, hi, hz.2.1, sliced, Result.andThen, Addr.add]
 omega
theorem zjh {l : List zaO} (hg : GoodW l) (hk : (zay l).f0 ≠ 4) : ∃ x y r, l = x :: y :: r := by
 have h2 := hg.tail hk; match l, hg.ne, h2.ne with
 | x :: y :: r, _, _ => exact ⟨x, y, r, rfl⟩
theorem zil (g : Nat) (k : Int) (hk4 : k ≠ 4) (t : ByteArray) (s : PS) (w : World) (h : HasP w g s) (hg : GoodW s.1) :
 Calls zp5 180 #[.pointer (some ⟨g, 0, none⟩), .int .i64 k, .string t] w fun e w' => e = .returned (.bool (za5 k t s).1) /\ HasP w' g (za5 k t s).2 /\ w.grownBy w' (some g) := by
 have hI := fun W hW => zhk g k t s W hW hg.ne
 have HH := zpt h; by_cases hi : isP k t s = true
 . have HE : Hid (za5 k t s = (true, (s.1.tail, s.2))) := by show _ = _; unfold za5; rw [if_pos hi]
   rw [hi] at hI; obtain ⟨x, y, r, hs⟩ := zjh hg (by rw [(zch hi).2.1]; exact hk4)
   obtain ⟨b, o, c, cur, hp⟩ := id h; have hc2 := hp.cap; have ht := hp.taken hs; have h0 : w.cell? ⟨g, 0, none⟩ = some (.slice (some ⟨b, o, none⟩) s.1.length c) := (zah hp.own 0).trans rfl; have hf0 := zak hp.own 0; have hlen : s.1.length = r.length + 2 := by rw [hs]; rfl
   have hst := fun W => ziR b o s.1.length c W (by omega) hc2 (by omega)
   rw [show s.1.length - 1 = (y :: r).length by rw [hlen]; rfl] at hst
   have HT := zpt ht; have HS := zpt hs; clear hp h hi ht hs hc2 hlen; go_enter Tryz.func180, Tryz.ntmps180
   go_wp2_with (go_at_call 182; refine (hI _ HH.out).mono ?_; rintro e w' ⟨rfl, rfl⟩)
   go_ret
   rw [HE.out]; refine ⟨rfl, ?_, zeU _ _ _ _⟩; have := HT.out; rw [HS.out]; exact ⟨b, o + 3, c - 1, cur, this⟩
 . have hi' : isP k t s = false := by simpa using hi
   have HE : Hid (za5 k t s = (false, s)) := by show _ = _; unfold za5; rw [if_neg hi]
   rw [hi'] at hI; clear h hi hi'; go_enter Tryz.func180, Tryz.ntmps180
   go_wp2_with (go_at_call 182; refine (hI _ HH.out).mono ?_; rintro e w' ⟨rfl, rfl⟩)
   go_ret
   rw [HE.out]; exact ⟨rfl, HH.out, World.grownBy.refl _ _⟩
theorem zcJ {w w1 w2 : World} {row : Option Nat} (h : w.grownBy w1 row) (h2 : w1.grownBy w2 row) : w.grownBy w2 row :=
 ⟨h2.os.trans h.os, h2.tape.trans h.tape, h2.output.trans h.output, zpD h.size h2.size, fun k hk hne => (h2.block k (Nat.lt_of_lt_of_le hk h.size) hne).trans (h.block k hk hne)⟩
theorem znW (g : Nat) (k : Int) (hk4 : k ≠ 4) (t : ByteArray) (s : PS) (w : World) (h : HasP w g s) (hg : GoodW s.1) :
 Calls zp5 178 #[.pointer (some ⟨g, 0, none⟩), .int .i64 k, .string t] w fun e w' => e = .returned (.tuple #[]) /\ HasP w' g (zaA k t s) /\ w.grownBy w' (some g) := by
 have hT := zil g k hk4 t s w h hg; by_cases hi : isP k t s = true
 . have HE : Hid (zaA k t s = (s.1.tail, s.2)) := by show _ = _; unfold zaA; rw [if_pos hi]
   rw [show za5 k t s = (true, (s.1.tail, s.2)) by unfold za5; rw [if_pos hi]] at hT
   clear h hi; go_enter Tryz.func178, Tryz.ntmps178
   go_wp2_with (go_at_call 180; refine hT.mono ?_; rintro e w2 ⟨rfl, h2, hgr2⟩)
   go_end0
   rw [HE.out]; exact ⟨rfl, h2, hgr2⟩
 . have HE : Hid (zaA k t s = zbD s) := by show _ = _; unfold zaA; rw [if_neg hi]
   rw [show za5 k t s = (false, s) by unfold za5; rw [if_neg hi]] at hT
   have hF := fun W hW => zg0 g s W hW hg
   clear h hi; go_enter Tryz.func178, Tryz.ntmps178
   go_wp2_with fail; refine hT.mono ?_; rintro e w2 ⟨rfl, h2, hgr2⟩; have HG2 := zpt hgr2; clear hT hgr2; go_wp2_with fail; refine (hF _ h2).mono ?_; rintro e w3 ⟨rfl, h3, hgr3⟩; have HG3 := zpt (zcJ HG2.out hgr3); clear hgr3 hF; go_wp2; go_end0
   rw [HE.out]; exact ⟨rfl, h3, HG3.out⟩
theorem ze5 (g q : Nat) (eg : ∀ args w, (callFunc q args).run zp5 w = .ok (.enter q args) w) (p : ByteArray -> Bool) (k : Int) (hk4 : k ≠ 4) (s : PS) (w : World) (h : HasP w g s) (hg : GoodW s.1)
 (hp : Calls zp5 q #[.string (zay s.1).f2] w fun e w' => e = .returned (.bool (p (zay s.1).f2)) /\ Below w.heap.size w w') :
 Calls zp5 218 #[.pointer (some ⟨g, 0, none⟩), .int .i64 k, .func (.func q) #[] #[]] w fun e w' => e = .returned (.string (zaI k p s).1) /\ HasP w' g (zaI k p s).2 /\ w.grownBy w' (some g) := by
 have hO := fun W hW => zdW g s W hW
 have hF := fun W hW => zg0 g s W hW hg
 obtain ⟨b, o, c, cur, hq⟩ := id h; have h0 : w.cell? ⟨g, 0, none⟩ = some (.slice (some ⟨b, o, none⟩) s.1.length c) := (zah hq.own 0).trans rfl; obtain ⟨k0, k1, k2⟩ := hq.first hg.ne
 have hpos : 0 < s.1.length := zqz.2 hg.ne; have HH := zpt h; by_cases hm : mayP k p s = true
 . have HE : Hid (zaI k p s = ((zay s.1).f2, (s.1.tail, s.2))) := by show _ = _; unfold zaI; rw [if_pos hm]
   obtain ⟨m1, m2, m3⟩ := zeV hm; have hd : decide (s.2 < 0) = true := by simpa using m1
   rw [hd] at hO; rw [m3] at hp; have hkd : ((zay s.1).f0 != k) = false := by simpa using m2
   obtain ⟨x, y, r, hs⟩ := zjh hg (by rw [m2]; exact hk4)
   have hc2 := hq.cap; have hlen : s.1.length = r.length + 2 := by rw [hs]; rfl
   have hst := fun W => ziR b o s.1.length c W (by omega) hc2 (by omega)
   rw [show s.1.length - 1 = (y :: r).length by rw [hlen]; rfl] at hst
   have HQ := zpt hq; have HS := zpt hs; clear h hm m1 m2 m3 hd hF hq hs hc2 hlen; go_enter Tryz.func218, Tryz.ntmps218
   go_wp2_with (first | (go_at_call 140; refine (hO _ HH.out).mono ?_; rintro e w' ⟨rfl, rfl⟩) | (go_at_fn q; refine hp.mono ?_; rintro e w2 ⟨rfl, hb2⟩; have HP2 := zpt (show IsP w2 g s b o c cur from ⟨zai HQ.out.own hb2, HQ.out.cap, zai HQ.out.row hb2, HQ.out.words⟩); have HB2 := zpt hb2; have h02 : w2.cell? ⟨g, 0, none⟩ = some (.slice (some ⟨b, o, none⟩) s.1.length c) := zc7 hb2 h0; have k02 := zc7 hb2 k0; have k12 := zc7 hb2 k1; have k22 := zc7 hb2 k2; have hf02 := zak HP2.out.own 0; have hA0 : ∀ ob : Obj, (w2.alloc ob).cell? ⟨g, 0, none⟩ = some (.slice (some ⟨b, o, none⟩) s.1.length c) := fun ob => (zah (zaQ HP2.out.own ob) 0).trans rfl; have hA1 : ∀ ob : Obj, (w2.alloc ob).frozen? ⟨g, 0, none⟩ = false := fun ob => zak (zaQ HP2.out.own ob) 0; clear hb2 h0 k0 k1 k2))
   go_ret
   rw [HE.out]; have hq3 := HP2.out.grown (zb0 (zas (zpw _ _) (.cells #[.int .i64 (zay s.1).f0, .int .i64 (zay s.1).f1, .string (zay s.1).f2] 139)) none) (by simp) (by simp)
   have ht := hq3.taken HS.out; have htl : s.1.tail = y :: r := by rw [HS.out]; rfl
   rw [htl]; exact ⟨rfl, ⟨b, o + 3, c - 1, cur, ht⟩, zcJ (zb0 (zas HB2.out _) _) (zeU _ _ _ _)⟩
 . have HE : Hid (zaI k p s = (⟨#[]⟩, zbD s)) := by show _ = _; unfold zaI; rw [if_neg hm]
   by_cases m1 : s.2 < 0
   . have hd : decide (s.2 < 0) = true := by simpa using m1
     rw [hd] at hO; by_cases m2 : (zay s.1).f0 = k
     . have hkd : ((zay s.1).f0 != k) = false := by simpa using m2
       have m3 : p (zay s.1).f2 = false := by
        cases hpp : p (zay s.1).f2 with
        | false => rfl
        | true => exact absurd (by unfold mayP; simp [m1, m2, hpp]) hm
       rw [m3] at hp; clear h hm m1 m2 m3 hd hq; go_enter Tryz.func218, Tryz.ntmps218
       go_wp2_with (first | (go_at_call 140; refine (hO _ HH.out).mono ?_; rintro e w' ⟨rfl, rfl⟩) | (go_at_fn q; refine hp.mono ?_; rintro e w2 ⟨rfl, hb2⟩; have HB2 := zpt hb2) | (go_at_call 217; refine (hF _ (HH.out.below HB2.out)).mono ?_; rintro e w3 ⟨rfl, h3, hg3⟩; have HG3 := zpt hg3; clear hg3))
       go_ret
       rw [HE.out]; exact ⟨rfl, h3, zcJ (zb0 HB2.out _) HG3.out⟩
     . have hkd : ((zay s.1).f0 != k) = true := by simpa using m2
       clear h hm m1 m2 hd hq hp; go_enter Tryz.func218, Tryz.ntmps218
       go_wp2_with (first | (go_at_call 140; refine (hO _ HH.out).mono ?_; rintro e w' ⟨rfl, rfl⟩) | (go_at_call 217; refine (hF _ HH.out).mono ?_; rintro e w3 ⟨rfl, h3, hg3⟩; have HG3 := zpt hg3; clear hg3))
       go_ret
       rw [HE.out]; exact ⟨rfl, h3, HG3.out⟩
   . have hd : decide (s.2 < 0) = false := by simpa using m1
     rw [hd] at hO; clear h hm m1 hd hq hp; go_enter Tryz.func218, Tryz.ntmps218
     go_wp2_with (first | (go_at_call 140; refine (hO _ HH.out).mono ?_; rintro e w' ⟨rfl, rfl⟩) | (go_at_call 217; refine (hF _ HH.out).mono ?_; rintro e w3 ⟨rfl, h3, hg3⟩; have HG3 := zpt hg3; clear hg3))
     go_ret
     rw [HE.out]; exact ⟨rfl, h3, HG3.out⟩
theorem znH {l : List ByteArray} {t : ByteArray} {k : Nat} (hk : k < l.length) (h : l.getD k zqa = t) (h0 : ∀ j, j < k -> l.getD j zqa ≠ t) : idxF l t = k := by
 unfold idxF; have : l.findIdx? (fun x => decide (x = t)) = some k := by
  rw [List.findIdx?_eq_some_iff_getElem]; refine ⟨hk, ?_, fun j hj => ?_⟩
  . simp [zpB, zpA hk] at h
    simpa using h
  . have := h0 j hj
    simp [zpB, zpA (show j < l.length by omega)] at this
    simpa using this
 rw [this]
theorem zkj {l : List ByteArray} {t : ByteArray} (h0 : ∀ j, j < l.length -> l.getD j zqa ≠ t) : idxF l t = -1 := by
 unfold idxF; have : l.findIdx? (fun x => decide (x = t)) = none := by
  rw [List.findIdx?_eq_none_iff]; intro x hx; obtain ⟨j, hj, rfl⟩ := List.getElem_of_mem hx; have := h0 j hj; simp [zpB, zpA hj] at this
  simpa using this
 rw [this]
theorem ziE (A : Option Addr) (c : Nat) (l : List ByteArray) (t : ByteArray) (w : World) (hr : Kd.C zqb w A l.length l) (hn : 0 < l.length) :
 Calls zp5 64 #[.slice A l.length c, .string t] w fun e w' => e = .returned (.int .i64 (idxF l t)) /\ w = w' := by
 have hlen : l.length <= 9223372036854775807 := hr.2.1; rcases zaX hr with rfl | ⟨b, o, rfl, hb, hcell⟩
 . simp at hn
 . clear hr
   have HC := zpt hcell; clear hcell; go_enter Tryz.func64, Tryz.ntmps64
   go_wp2; go_loopg [5, 8] l.length (fun gg _ s8 wr => ∃ kk : Nat, kk <= l.length /\ l.length - kk <= gg /\ s8 = .int .i64 kk /\ wr = w /\ Aside0 (∀ j, j < kk -> l.getD j zqa ≠ t))
   case atStart => exact ⟨0, Nat.zero_le _, by omega, rfl, rfl, ⟨fun j hj => absurd hj (zqx _)⟩⟩
   case round =>
    obtain ⟨kk, hkk, hgk, rfl, rfl, HA⟩ := hrel; by_cases hlt : kk < l.length
    . have hltz : (kk : Int) < (l.length : Int) := by omega
      have hx : wr.cell? ⟨b, o + kk, none⟩ = some (.string (l.getD kk zqa)) := HC.out kk hlt; obtain ⟨y, hy⟩ : ∃ y, y = l.getD kk zqa := ⟨_, rfl⟩; rw [<- hy] at hx; have HY := zpt hy; clear hy; by_cases hyt : t = y
      . have he : (t.toList == y.toList) = true := by rw [zf8]; simpa using hyt
        have HE : Hid (idxF l t = kk) := znH hlt (by rw [<- HY.out, hyt]) HA.out
        clear hyt; go_wp2; go_ret
        exact ⟨by rw [HE.out]; rfl, rfl⟩
      . have he : (t.toList == y.toList) = false := by rw [zf8]; simpa using hyt
        have HE : Hid (∀ j, j < kk + 1 -> l.getD j zqa ≠ t) := by
         intro j hj; by_cases e : j = kk
         . subst e; rw [<- HY.out]; exact fun e => hyt e.symm
         . exact HA.out j (by omega)
        clear hyt; go_wp2; go_roundg (l.length - (kk + 1))
        case measure => omega
        case rel => exact ⟨kk + 1, by omega, by omega, by go_num, rfl, ⟨HE.out⟩⟩
    . have hltz : ¬ (kk : Int) < (l.length : Int) := by omega
      have HE : Hid (idxF l t = -1) := zkj (fun j hj => HA.out j (by omega))
      go_wp2; go_ret
      exact ⟨by rw [HE.out]; rfl, rfl⟩
def opsC : Array Value := #[.string ⟨#[]⟩, .string ⟨#[99, 111, 112, 121]⟩, .string ⟨#[110, 101, 101, 100]⟩, .string ⟨#[115, 111, 114, 116]⟩, .string ⟨#[99, 111, 117, 110, 116]⟩, .string ⟨#[99, 111, 110, 99, 97, 116]⟩, .string ⟨#[108, 105, 116, 101, 114, 97, 108]⟩, .string ⟨#[115, 101, 108, 101, 99, 116]⟩, .string ⟨#[114, 101, 112, 108, 97, 99, 101]⟩, .string ⟨#[112, 114, 101, 102, 105, 120]⟩]
theorem zh0 (w : World) : Calls zp5 144 #[] w fun e w' => e = .returned (.slice (some ⟨w.heap.size, 0, none⟩) 10 10) /\ w' = w.alloc (.cells opsC 9) := by
 go_enter Tryz.func144, Tryz.ntmps144
 go_wp2; go_ret
 exact ⟨rfl, rfl⟩
theorem zln (W : World) : Kd.C zqb (W.alloc (.cells opsC 9)) (some ⟨W.heap.size, 0, none⟩) opsL.length opsL :=
 zbO zqb W 9 opsL (encs Value.string opsL) (Kd.reps_scalar _) (by decide)
theorem zfO (t : ByteArray) (w : World) : Calls zp5 115 #[.string t] w fun e w' => e = .returned (.int .i64 (opF t)) /\ w' = w.alloc (.cells opsC 9) := by
 have hI := ziE _ 10 opsL t _ (zln w) (by decide)
 have HE : Hid (opF t = max (idxF opsL t) 0) := rfl; generalize idxF opsL t = i at hI HE; go_enter Tryz.func115, Tryz.ntmps115
 go_wp2_with (first | (go_at_call 144; refine (zh0 _).mono ?_; rintro e w' ⟨rfl, rfl⟩) | (go_at_call 64; refine hI.mono ?_; rintro e w' ⟨rfl, rfl⟩))
 all_goals
  go_ret
  refine ⟨?_, rfl⟩; rw [HE.out]; first | rfl | (congr 2; omega)
def zbk (op : Int) : ByteArray := if 1 <= op /\ op <= 9 then opsL.getD op.toNat zqa else ⟨#[]⟩
theorem zhY (op : Int) (w : World) : Calls zp5 116 #[.int .i64 op] w fun e w' => e = .returned (.string (zbk op)) /\ Below w.heap.size w w' := by
 by_cases h1 : op < 1
 . have d1 : decide (op < 1) = true := by simpa using h1
   have HE : Hid (zbk op = ⟨#[]⟩) := by show _ = _; unfold zbk; rw [if_neg (by omega)]
   clear h1; go_enter Tryz.func116, Tryz.ntmps116
   go_wp2; go_ret
   exact ⟨by rw [HE.out]; rfl, zpw _ _⟩
 . have d1 : decide (op < 1) = false := by simpa using h1
   by_cases h2 : 9 < op
   . have d2 : decide ((9 : Int) < op) = true := by simpa using h2
     have HE : Hid (zbk op = ⟨#[]⟩) := by show _ = _; unfold zbk; rw [if_neg (by omega)]
     clear h1 h2; go_enter Tryz.func116, Tryz.ntmps116
     go_wp2; go_ret
     exact ⟨by rw [HE.out]; rfl, zpw _ _⟩
   . have d2 : decide ((9 : Int) < op) = false := by simpa using h2
     obtain ⟨n, rfl⟩ := Int.eq_ofNat_of_zero_le (show 0 <= op by omega)
     have hn : n < 10 := by omega
     have hc : (w.alloc (.cells opsC 9)).cell? ⟨w.heap.size, n, none⟩ = some (.string (zbk n)) := by
      rw [zah (zap w _) n]; have : ∀ n : Nat, n < 10 -> 1 <= n -> opsC[n]? = some (.string (zbk n)) := by
       intro n h h1; match n, h, h1 with
       | 1, _, _ => rfl
       | 2, _, _ => rfl
       | 3, _, _ => rfl
       | 4, _, _ => rfl
       | 5, _, _ => rfl
       | 6, _, _ => rfl
       | 7, _, _ => rfl
       | 8, _, _ => rfl
       | 9, _, _ => rfl
      exact this n hn (by omega)
     have hnz : (n : Int) < 10 := by omega
     clear h1 h2; go_enter Tryz.func116, Tryz.ntmps116
     go_wp2_with (go_at_call 144; refine (zh0 _).mono ?_; rintro e w' ⟨rfl, rfl⟩)
     go_ret
     exact ⟨rfl, (zpw _ _).alloc (zpx _) _⟩
def GOKg (w : World) (g : Nat) : Prop := ∃ w0 : World, GOK w0 /\ w0.heap.size <= g /\ Below w0.heap.size w0 w
structure PAR (w : World) (g : Nat) (s : PS) : Prop where
 has : HasP w g s
 gok : GOKg w g
 good : GoodW s.1
 len : s.1.length <= 100000
theorem PAR.gk {w : World} {g : Nat} {s : PS} (h : PAR w g s) : GOK w := by
 obtain ⟨w0, h0, _, hb⟩ := h.gok; exact h0.below hb
theorem GOKg.grown {w w1 : World} {g : Nat} (h : GOKg w g) (hg : w.grownBy w1 (some g)) : GOKg w1 g := by
 obtain ⟨w0, h0, h1, hb⟩ := h; exact ⟨w0, h0, h1, hb.grown hg hb.size (fun k hk => by injection hk with hk; omega)⟩
theorem PAR.to {w w1 : World} {g : Nat} {s s1 : PS} (h : PAR w g s) (hI : ∀ I, InvP I -> I s -> I s1) (hp : HasP w1 g s1) (hg : w.grownBy w1 (some g)) : PAR w1 g s1 :=
 ⟨hp, h.gok.grown hg, hI _ inv_good h.good, hI _ (zmu 100000) h.len⟩
theorem PAR.keep {w w1 : World} {g : Nat} {s : PS} (h : PAR w g s) (hp : HasP w1 g s) (hg : w.grownBy w1 (some g)) : PAR w1 g s := ⟨hp, h.gok.grown hg, h.good, h.len⟩
theorem PAR.below {w w1 : World} {g : Nat} {s : PS} (h : PAR w g s) (hb : Below w.heap.size w w1) : PAR w1 g s := h.keep (h.has.below hb) (zb0 hb _)
theorem zey {w W w1 : World} {g : Nat} (h : w.grownBy W (some g)) (hb : Below w.heap.size W w1) : w.grownBy w1 (some g) :=
 ⟨hb.os.trans h.os, hb.tape.trans h.tape, hb.output.trans h.output, zpD h.size hb.size, fun k hk hne => (hb.block k hk).trans (h.block k hk hne)⟩
theorem zbc {α : Type} {d : Kd α} {e : Nat} {w w1 : World} {base g : Nat} {v : Value} {xs : List α} (h : d.R e w base (fun _ => True) v xs) (hg : w.grownBy w1 (some g)) (hlt : g < base) : d.R e w1 base (fun _ => True) v xs :=
 Kd.R_mono (Kd.R_grown (Kd.R_bound h) hg (fun k hk e => by injection e with e; have := hk.2.1; omega)) (fun _ _ => trivial)
theorem HasP.row {w w1 : World} {g : Nat} {s : PS} (h : HasP w g s) {base e size n : Nat} {v : Value} {xs : List Value} (ho : w.ownsRow base e size v n xs) (h1 : e ≠ 169) (h2 : e ≠ 139) (hg : w.grownBy w1 v.ownBlock) : HasP w1 g s := by
 obtain ⟨b, o, c, cur, h⟩ := h; exact ⟨b, o, c, cur, h.grown hg (zdG ho h.own h1) (zdG ho h.row h2)⟩
theorem zpl : ∀ args w, (callFunc 102 args).run zp5 w = .ok (.enter 102 args) w := Go.Proofs.enters_of Tryz.func102 (by kernel_rfl) rfl
theorem zm0 : ∀ args w, (callFunc 236 args).run zp5 w = .ok (.enter 236 args) w := Go.Proofs.enters_of Tryz.func236 (by kernel_rfl) rfl
theorem eg_op : ∀ args w, (callFunc 219 args).run zp5 w = .ok (.enter 219 args) w := Go.Proofs.enters_of Tryz.func219 (by kernel_rfl) rfl
theorem zl3 : ∀ args w, (callFunc 221 args).run zp5 w = .ok (.enter 221 args) w := Go.Proofs.enters_of Tryz.func221 (by kernel_rfl) rfl
theorem zoY (t : ByteArray) (w : World) : Calls zp5 236 #[.string t] w fun e w' => e = .returned (.bool true) /\ Below w.heap.size w w' := by
 go_enter Tryz.func236, Tryz.ntmps236
 go_wp2; go_ret
 exact ⟨rfl, zpw _ _⟩
theorem zog (t : ByteArray) (w : World) : Calls zp5 219 #[.string t] w fun e w' => e = .returned (.bool (opB t)) /\ Below w.heap.size w w' := by
 go_enter Tryz.func219, Tryz.ntmps219
 go_wp2_with (go_at_call 115; refine (zfO t _).mono ?_; rintro e w' ⟨rfl, rfl⟩)
 go_ret
 exact ⟨rfl, (zpw _ _).alloc (zpx _) _⟩
theorem zlk (t : ByteArray) (ht : t.size <= 100000) (w : World) (hG : GOK w) : Calls zp5 221 #[.string t] w fun e w' => e = .returned (.bool (numB t)) /\ Below w.heap.size w w' := by
 have hN := mint_GetNumber.calls t 2000 (numV t) (numB t) w hG (by unfold mint_GetNumber.f; rw [if_pos (by omega)]; rfl)
 go_enter Tryz.func221, Tryz.ntmps221
 go_wp2_with (go_at_call 186; refine hN.mono ?_; rintro e w' ⟨rfl, hb⟩)
 go_ret
 exact ⟨rfl, hb⟩
theorem zdt (g : Nat) (s : PS) (w : World) (h : PAR w g s) :
 Calls zp5 179 #[.pointer (some ⟨g, 0, none⟩)] w fun e w' => e = .returned (.string (zar s).1) /\ PAR w' g (zar s).2 /\ w.grownBy w' (some g) := by
 have hN := ze5 g 102 zpl zdL 1 (by decide) s w h.has h.good (path_May.calls _ _ w h.gk rfl)
 have HH := zpt h; clear h; go_enter Tryz.func179, Tryz.ntmps179
 go_wp2_with (go_at_call 218; refine hN.mono ?_; rintro e w' ⟨rfl, hp, hg⟩)
 go_ret
 exact ⟨rfl, HH.out.to (fun _ hI hi => hI.name hi) hp hg, hg⟩
theorem zeQ (g : Nat) (s : PS) (w : World) (h : PAR w g s) :
 Calls zp5 220 #[.pointer (some ⟨g, 0, none⟩)] w fun e w' => e = .returned (.string (zaD s).1) /\ PAR w' g (zaD s).2 /\ w.grownBy w' (some g) := by
 have hN := ze5 g 236 zm0 (fun _ => true) 2 (by decide) s w h.has h.good (zoY _ w)
 have HH := zpt h; clear h; go_enter Tryz.func220, Tryz.ntmps220
 go_wp2_with (go_at_call 218; refine hN.mono ?_; rintro e w' ⟨rfl, hp, hg⟩)
 go_ret
 exact ⟨rfl, HH.out.to (fun _ hI hi => hI.text hi) hp hg, hg⟩
theorem zcS (g : Nat) (k : Int) (hk4 : k ≠ 4) (t : ByteArray) (s : PS) (w : World) (h : PAR w g s) :
 Calls zp5 178 #[.pointer (some ⟨g, 0, none⟩), .int .i64 k, .string t] w fun e w' => e = .returned (.tuple #[]) /\ PAR w' g (zaA k t s) /\ w.grownBy w' (some g) :=
 (znW g k hk4 t s w h.has h.good).mono fun _ _ ⟨he, hp, hg⟩ => ⟨he, h.to (fun _ hI hi => hI.must hi hk4 t) hp hg, hg⟩
theorem zf7 (g : Nat) (k : Int) (hk4 : k ≠ 4) (t : ByteArray) (s : PS) (w : World) (h : PAR w g s) :
 Calls zp5 180 #[.pointer (some ⟨g, 0, none⟩), .int .i64 k, .string t] w fun e w' => e = .returned (.bool (isP k t s)) /\ PAR w' g (za5 k t s).2 /\ w.grownBy w' (some g) :=
 (zil g k hk4 t s w h.has h.good).mono fun _ _ ⟨he, hp, hg⟩ => ⟨by
  rw [he]; unfold za5; by_cases hi : isP k t s = true
  . rw [if_pos hi, hi]
  . rw [if_neg hi]
    simp at hi
    rw [hi], h.to (fun _ hI hi => by
  unfold za5; split
  . next hc => exact hI.adv s hi (zch hc).1 (by rw [(zch hc).2.1]; exact hk4)
  . exact hi) hp hg, hg⟩
theorem zgC (g q : Nat) (eg : ∀ args w, (callFunc q args).run zp5 w = .ok (.enter q args) w) (p : ByteArray -> Bool) (k : Int) (hk4 : k ≠ 4) (s : PS) (w : World) (h : PAR w g s)
 (hp : Calls zp5 q #[.string (zay s.1).f2] w fun e w' => e = .returned (.bool (p (zay s.1).f2)) /\ Below w.heap.size w w') :
 Calls zp5 218 #[.pointer (some ⟨g, 0, none⟩), .int .i64 k, .func (.func q) #[] #[]] w fun e w' => e = .returned (.string (zaI k p s).1) /\ PAR w' g (zaI k p s).2 /\ w.grownBy w' (some g) :=
 (ze5 g q eg p k hk4 s w h.has h.good hp).mono fun _ _ ⟨he, hp, hg⟩ => ⟨he, h.to (fun _ hI hi => hI.next hi hk4 p) hp hg, hg⟩
theorem zbi : (Tryz.prog.info? 9).map (fun i => (i.zero, i.size, i.bytes)) = some (some (.string ⟨#[]⟩), 1, 16) := by kernel_rfl
abbrev RS (w : World) (base : Nat) (v : Value) (l : List ByteArray) : Prop := Kd.R zqb 9 w base (fun _ => True) v l
theorem RS.par {w w1 : World} {base g : Nat} {v : Value} {l : List ByteArray} {s : PS} (h : RS w base v l) (hp : PAR w g s) (hb : Below base w w1) (hlt : g < base) (hg : w.grownBy w1 v.ownBlock) : PAR w1 g s := by
 obtain ⟨inner, ho⟩ := Kd.R_own h; refine ⟨hp.has.row ho (by decide) (by decide) hg, ?_, hp.good, hp.len⟩
 obtain ⟨w0, h0, h1, hb0⟩ := hp.gok; exact ⟨w0, h0, h1, hb0.trans (hb.mono (by omega))⟩
theorem zeN (W : World) (base : Nat) (x : ByteArray) (hb : base <= W.heap.size) : RS (W.alloc (.cells #[.string x] 9)) base (.slice (some ⟨W.heap.size, 0, none⟩) 1 1) [x] :=
 Kd.R_of_own (h1 := fun _ => rfl) (zfp (enc := Value.string) W base 9 [x] hb (by simp)) (fun _ _ => trivial)
theorem ze7 (g : Nat) (s : PS) (w : World) (h : PAR w g s) :
 Calls zp5 181 #[.pointer (some ⟨g, 0, none⟩)] w fun e w' => ∃ v, e = .returned v /\ RS w' w.heap.size v (zbe s).1 /\ PAR w' g (zbe s).2 /\ w.grownBy w' (some g) := by
 have hN := zdt g s w h; have hlt := h.has.lt; have HL := zpt hlt; have hT : ∃ T, zbe s = T := ⟨_, rfl⟩; obtain ⟨T, hT⟩ := hT; have HT : Hid ((zar s).1 :: (zbt (zar s).2.1.length (zar s).2).1 = T.1 /\ zaA 3 semi (zbt (zar s).2.1.length (zar s).2).2 = T.2) := ⟨by rw [<- hT]; rfl, by rw [<- hT]; rfl⟩
 rw [hT]; have hln : (zar s).2.1.length <= s.1.length := zfM 1 zdL s; have hle := h.len; clear h hlt hT; go_enter Tryz.func181, Tryz.ntmps181
 go_wp2_with fail; refine hN.mono ?_; rintro e w1 ⟨rfl, hp1, hg1⟩; generalize hx : (zar s).1 = x at HT |-; generalize hs1 : (zar s).2 = s1 at HT hp1 hln; have HP1 := zpt hp1; have HG1 := zpt hg1; clear hN hx hs1 hp1 hg1; go_wp2_with fail; go_loopg [3] s1.1.length (fun gg s3 wr => ∃ (acc : List ByteArray) (s2 : PS), s2.1.length <= gg /\ acc.length + s2.1.length <= s1.1.length + 1 /\ Aside0 (acc ++ (zbt s2.1.length s2).1 = T.1 /\ zaA 3 semi (zbt s2.1.length s2).2 = T.2) /\
  Aside0 (RS wr w.heap.size s3 acc) /\ Aside0 (PAR wr g s2) /\ Aside0 (w.grownBy wr (some g)))
 case atStart =>
  refine ⟨[x], s1, zpx _, by simp; omega, ⟨HT.out⟩, ⟨zeN _ _ _ HG1.out.size⟩, ⟨HP1.out.below ((zpw _ _).alloc (zpx _) _)⟩, ⟨zey HG1.out ((zpw _ _).alloc HG1.out.size _)⟩⟩
 case round =>
  obtain ⟨acc, s2, hgk, hal, HK, HO, HP, HG⟩ := hrel; have hTk := zf7 g 3 (by decide) zdo s2 wr HP.out
  by_cases hi : isP 3 zdo s2 = true
  . have htk : za5 3 zdo s2 = (true, (s2.1.tail, s2.2)) := by unfold za5; rw [if_pos hi]
    rw [hi, htk] at hTk; have h3 : 0 < s2.1.length := zqz.2 HP.out.good.ne; have hnl : (zar (s2.1.tail, s2.2)).2.1.length <= s2.1.length - 1 := by
     have := zfM 1 zdL (s2.1.tail, s2.2); have h5 : (zar (s2.1.tail, s2.2)).2.1.length <= s2.1.tail.length := this; simpa using h5
    have HK2 : Hid (∀ n m : Nat, ∀ s3 : PS, s3.1.length <= n -> s3.1.length <= m -> zbt n s3 = zbt m s3) := by
     intro n; induction n with
     | zero => 
      intro m s3 h1 h2; have : s3.1 = [] := zpz (by omega)
      cases m with
      | zero => rfl
      | succ m =>
       unfold zbt; rw [if_neg]; intro hi; have := (zch hi).2.1; rw [‹s3.1 = []›] at this; exact absurd this (by decide)
     | succ n ih =>
      intro m s3 h1 h2; cases m with
      | zero =>
       have : s3.1 = [] := zpz (by omega)
       unfold zbt; rw [if_neg]; intro hi; have := (zch hi).2.1; rw [‹s3.1 = []›] at this; exact absurd this (by decide)
      | succ m =>
       unfold zbt; split
       . next hi =>
         have h5 : (zar (s3.1.tail, s3.2)).2.1.length <= s3.1.tail.length := zfM 1 zdL (s3.1.tail, s3.2); rw [List.length_tail] at h5; rw [ih m _ (by omega) (by omega)]
       . rfl
    have HM : Hid ((acc ++ [(zar (s2.1.tail, s2.2)).1]) ++ (zbt (zar (s2.1.tail, s2.2)).2.1.length (zar (s2.1.tail, s2.2)).2).1 = T.1 /\ zaA 3 semi (zbt (zar (s2.1.tail, s2.2)).2.1.length (zar (s2.1.tail, s2.2)).2).2 = T.2) := by
     have hK := HK.out; obtain ⟨n, hn⟩ : ∃ n, s2.1.length = n + 1 := ⟨s2.1.length - 1, by omega⟩
     rw [hn, zbt, if_pos hi, HK2.out n (zar (s2.1.tail, s2.2)).2.1.length _ (by omega) (zpx _)] at hK
     exact ⟨by rw [<- hK.1]; simp, hK.2⟩
    clear HK2 hi htk; have hnm := fun W hW => zdt g (s2.1.tail, s2.2) W hW
    generalize hx2 : (zar (s2.1.tail, s2.2)).1 = x2 at HM hnm; generalize hs3 : (zar (s2.1.tail, s2.2)).2 = s3 at HM hnm hnl; clear hx2 hs3; go_wp2_with fail; refine hTk.mono ?_; rintro e w2 ⟨rfl, hp2, hg2⟩; have HO2 := zpt (zbc HO.out hg2 HL.out); have HG2 := zpt (zcJ HG.out hg2); have HP2 := zpt hp2; clear hTk hp2 hg2; go_wp2_with fail; refine (hnm _ HP2.out).mono ?_; rintro e w3 ⟨rfl, hp3, hg3⟩; have HO3 := zpt (zbc HO2.out hg3 HL.out); have HG3 := zpt (zcJ HG2.out hg3); have HP3 := zpt hp3; have HS3 : Hid (w.heap.size <= w3.heap.size) := HG3.out.size; have hal2 : acc.length <= 200000 := by omega
    clear hnm hp3 hg3; go_wp2_with (first | ((with_reducible refine zaG (b := .append) (xs := #[.tmp 9, .tmp 12]) rfl ?_); at_builtin; refine Kd.R_append zqb (w0 := w3) w.heap.size rfl (.tmp 9) (.tmp 12) 22 9 (.string ⟨#[]⟩) 16 rfl Tryz.underlying22 zbi rfl (by decide) (by decide) u3 acc x2 [.string x2] (fun _ => True) (fun k_ => True /\ some k_ ≠ u3.ownBlock) rfl rfl rfl (fun _ hk => hk) (fun _ _ => trivial) HO3.out (zpw _ _) HS3.out ?aL ?_; (case aL => omega); intro v1 w4 ho hb hg hat; have HO4 := zpt ho; have HP4 := zpt (RS.par HO3.out HP3.out hb HL.out hg); have HG4 := zpt (zey HG3.out hb); clear ho hb hg hat))
    go_roundg s3.1.length
    case measure => omega
    case rel => exact ⟨acc ++ [x2], s3, zpx _, by simp; omega, ⟨HM.out⟩, ⟨HO4.out⟩, ⟨HP4.out⟩, ⟨HG4.out⟩⟩
  . have hi' : isP 3 zdo s2 = false := by simpa using hi
    have htk : za5 3 zdo s2 = (false, s2) := by unfold za5; rw [if_neg hi]
    rw [hi', htk] at hTk; have HM : Hid (acc = T.1 /\ zaA 3 semi s2 = T.2) := by
     have hK := HK.out; have hm0 : zbt s2.1.length s2 = ([], s2) := by
      generalize s2.1.length = n; cases n with
      | zero => rfl
      | succ n => unfold zbt; rw [if_neg hi]
     rw [hm0] at hK; exact ⟨by rw [<- hK.1]; simp, hK.2⟩
    have hmu := fun W hW => zcS g 3 (by decide) semi s2 W hW
    clear hi htk hi'; go_wp2_with fail; refine hTk.mono ?_; rintro e w2 ⟨rfl, hp2, hg2⟩; have HO2 := zpt (zbc HO.out hg2 HL.out); have HG2 := zpt (zcJ HG.out hg2); have HP2 := zpt hp2; clear hTk hp2 hg2; go_wp2_with fail; refine (hmu _ HP2.out).mono ?_; rintro e w3 ⟨rfl, hp3, hg3⟩; have HO3 := zpt (zbc HO2.out hg3 HL.out); have HG3 := zpt (zcJ HG2.out hg3); have HP3 := zpt hp3; clear hmu hp3 hg3; go_wp2; go_ret
    refine ⟨_, rfl, ?_, ?_, HG3.out⟩
    . rw [<- HM.out.1]; exact HO3.out
    . rw [<- HM.out.2]; exact HP3.out
end X
end Go.Proofs.YtdpgdnpddndeoaaGreatDoor
