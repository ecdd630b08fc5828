/-
  lex, walked by hand: All.
-/
import Derived.Test.YthagibkmfgodgaaGreatDoorPc
import Derived.Test.YthagibkmfgodgaaGreatDoorShelfB
import Derived.BigQuiet
import Derived.Deep.QuietTactic
namespace Go.Proofs.YthagibkmfgodgaaGreatDoor.X
open Go.RowKit Go.Maps Go.Proofs.YthagibkmfgodgaaGreatDoorW.PrintWords

/-- A row that was just laid is read. -/
theorem lit_C {α : Type} (d : Kd α) (W : World) (e : Nat) (xs : List α) (inner : List Value) (hrep : Reps (d.K W) d.sz xs inner) (hm : xs.length ≤ 9223372036854775807) :
    d.C (W.alloc (.cells inner.toArray e)) (some ⟨W.heap.size, 0, none⟩) xs.length xs := by
  have h2 := World.ownsRow_lit (base := W.heap.size) (e := e) (size := d.sz) W inner.toArray xs.length (Nat.le_refl _) (by simpa [maxLen] using hm) (by simpa using hrep.1)
  refine ⟨rfl, hm, fun _ => ⟨_, rfl, fun j p hj => ⟨(inner.drop (j * d.sz)).take d.sz, ?_, d.K_below ((Below.refl _ _).alloc (Nat.le_refl _) _) (hrep.2 j p hj), fun i u hu => ?_⟩⟩⟩
  · exact d.K_len (hrep.2 j p hj)
  · have hi : i < d.sz := by
      obtain ⟨hl, _⟩ := List.getElem?_eq_some_iff.1 hu
      rw [List.length_take] at hl
      omega
    rw [List.getElem?_take_of_lt hi, List.getElem?_drop] at hu
    have := h2.cells (g := W.heap.size) rfl (j * d.sz + i) u (by simpa using hu)
    simpa [Addr.add] using this

def shipwrightlaw1_begun.f : Option Bool := some true
set_option maxHeartbeats 4000000 in
set_option maxRecDepth 100000 in
theorem shipwrightlaw1_begun.calls (r : Bool) (w : World) (hG : GOK w) (h : shipwrightlaw1_begun.f = some r) :
    Calls Tryz.prog 66 #[] w fun e w' => e = .returned (.bool r) ∧ Below w.heap.size w w' := by
  obtain rfl := Option.some.inj h
  clear h
  have HG := Lib.hid hG
  clear hG
  go_enter Tryz.func66, Tryz.ntmps66
  go_wp2_with fail
  refine (Pc.path_Norm.calls 40 ⟨#[97, 47, 47, 46, 47, 98, 47, 46, 46, 47, 99]⟩ ⟨#[97, 47, 99]⟩ true w HG.out (by kernel_rfl)).mono ?_
  rintro e w1 ⟨rfl, hb1⟩
  go_wp2_with fail
  refine (Pc.path_Norm.calls 40 ⟨#[46, 46]⟩ ⟨#[]⟩ false w1 (HG.out.below hb1) (by kernel_rfl)).mono ?_
  rintro e w2 ⟨rfl, hb2⟩
  replace hb2 := below_then hb1 hb1.size hb2
  clear hb1
  go_wp2_with fail
  refine (Pc.mint_Get.calls 40 ⟨#[49, 58, 97, 48, 58]⟩ [⟨#[97]⟩, ⟨#[]⟩] true w2 (HG.out.below hb2) (by kernel_rfl)).mono ?_
  rintro e w3 ⟨v3, rfl, hr3, hb3⟩
  replace hb3 := below_then hb2 hb2.size hb3
  obtain ⟨A3, c3, rfl, _, _⟩ := Kd.R_reads hr3
  clear hb2 hr3
  go_wp2_with fail
  refine (mint_GetNumber.calls ⟨#[49, 50]⟩ 20 12 true w3 (HG.out.below hb3) (by kernel_rfl)).mono ?_
  rintro e w4 ⟨rfl, hb4⟩
  replace hb4 := below_then hb3 hb3.size hb4
  clear hb3
  go_wp2_with fail
  have hr4 := lit_C k118 w4 118 [⟨⟨#[98]⟩, ⟨#[120]⟩⟩, ⟨⟨#[97]⟩, ⟨#[]⟩⟩, ⟨⟨#[105, 110]⟩, ⟨#[]⟩⟩] [.string ⟨#[98]⟩, .string ⟨#[120]⟩, .string ⟨#[97]⟩, .string ⟨#[]⟩, .string ⟨#[105, 110]⟩, .string ⟨#[]⟩]
    (Reps.c2 (k118_mk w4 ⟨⟨#[98]⟩, ⟨#[120]⟩⟩) (Reps.c2 (k118_mk w4 ⟨⟨#[97]⟩, ⟨#[]⟩⟩) (Reps.c2 (k118_mk w4 ⟨⟨#[105, 110]⟩, ⟨#[]⟩⟩) (Reps.none _ _)))) (by simp)
  have hb4' := below_then hb4 hb4.size ((Below.refl w4.heap.size w4).alloc (Nat.le_refl _) (.cells #[Value.string ⟨#[98]⟩, .string ⟨#[120]⟩, .string ⟨#[97]⟩, .string ⟨#[]⟩, .string ⟨#[105, 110]⟩, .string ⟨#[]⟩] 118))
  refine (tree_New.calls _ 3 [⟨⟨#[98]⟩, ⟨#[120]⟩⟩, ⟨⟨#[97]⟩, ⟨#[]⟩⟩, ⟨⟨#[105, 110]⟩, ⟨#[]⟩⟩] _ (HG.out.below hb4') hr4 (by decide)).mono ?_
  rintro e w5 ⟨g, b, rfl, hT5, _, hBb, hb5⟩
  replace hBb : w.heap.size ≤ b := Nat.le_trans hb4'.size hBb
  replace hb5 := below_then hb4' hb4'.size hb5
  replace hT5 : IsTree w5 g b [([97], []), ([98], [120])] := hT5
  clear hr4 hb4 hb4'
  have HT5 := Lib.hid hT5
  have HB5 := Lib.hid hb5
  clear hT5 hb5
  go_wp2_with fail
  refine (tree_Read.calls w5 g b _ HT5.out ⟨#[98]⟩ (by decide)).mono ?_
  rintro e w6 ⟨rfl, hd6⟩
  rw [show mk ((getT [([97], []), ([98], [120])] (⟨#[98]⟩ : ByteArray).data.toList).getD []) = ⟨#[120]⟩ by kernel_rfl, show (getT [([97], []), ([98], [120])] (⟨#[98]⟩ : ByteArray).data.toList).isSome = true by kernel_rfl]
  have hb6 := below_then HB5.out HB5.out.size hd6.below
  have hT6 := HT5.out.below hd6.below
  clear hd6 HT5 HB5
  have HT6 := Lib.hid hT6
  have HB6 := Lib.hid hb6
  clear hT6 hb6
  go_wp2_with fail
  refine (path_May.calls ⟨#[97, 47, 98, 46, 99]⟩ true w6 (HG.out.below HB6.out) (by kernel_rfl)).mono ?_
  rintro e w7 ⟨rfl, hb7⟩
  replace HT6 := Lib.hid (HT6.out.below hb7)
  replace hb7 := below_then HB6.out HB6.out.size hb7
  have HB7 := Lib.hid hb7
  clear hb7
  go_wp2_with fail
  refine (path_May.calls ⟨#[97, 47, 47, 98]⟩ false w7 (HG.out.below HB7.out) (by kernel_rfl)).mono ?_
  rintro e w8 ⟨rfl, hb8⟩
  replace HT6 := Lib.hid (HT6.out.below hb8)
  replace hb8 := below_then HB7.out HB7.out.size hb8
  have HB8 := Lib.hid hb8
  clear hb8
  go_wp2_with fail
  refine (path_May.calls ⟨#[114, 117, 108, 101]⟩ false w8 (HG.out.below HB8.out) (by kernel_rfl)).mono ?_
  rintro e w9 ⟨rfl, hb9⟩
  replace HT6 := Lib.hid (HT6.out.below hb9)
  replace hb9 := below_then HB8.out HB8.out.size hb9
  have HB9 := Lib.hid hb9
  clear hb9 HB8 HB7
  go_wp2_with fail
  have hr10 := lit_C Kd.string w9 9 [⟨#[97]⟩, ⟨#[]⟩, ⟨#[98]⟩] [.string ⟨#[97]⟩, .string ⟨#[]⟩, .string ⟨#[98]⟩] (Kd.reps_scalar _) (by simp)
  have hb10 := below_then HB9.out HB9.out.size ((Below.refl w9.heap.size w9).alloc (Nat.le_refl _) (.cells #[Value.string ⟨#[97]⟩, .string ⟨#[]⟩, .string ⟨#[98]⟩] 9))
  refine (path_Join.calls _ 3 [⟨#[97]⟩, ⟨#[]⟩, ⟨#[98]⟩] ⟨#[97, 47, 98]⟩ _ (HG.out.below hb10) hr10 (by simp) (by kernel_rfl)).mono ?_
  rintro e w10 ⟨rfl, hb10'⟩
  replace HT6 := Lib.hid ((HT6.out.below ((Below.refl w9.heap.size w9).alloc (Nat.le_refl _) _)).below hb10')
  replace hb10 := below_then hb10 hb10.size hb10'
  have HB10 := Lib.hid hb10
  clear hb10 hb10' hr10
  go_wp2_with fail
  refine (Pb.path_Parts.calls ⟨#[47]⟩ [⟨#[]⟩, ⟨#[]⟩] w10 (HG.out.below HB10.out) (by kernel_rfl)).mono ?_
  rintro e w11 ⟨v11, rfl, hr11, hb11⟩
  replace HT6 := Lib.hid (HT6.out.below hb11)
  replace hb11 := below_then HB10.out HB10.out.size hb11
  have HB11 := Lib.hid hb11
  obtain ⟨A11, c11, rfl, _, _⟩ := Kd.R_reads hr11
  clear hb11 hr11
  go_wp2_with fail
  have hr12 := lit_C Kd.string w11 9 [⟨#[97]⟩, ⟨#[]⟩] [.string ⟨#[97]⟩, .string ⟨#[]⟩] (Kd.reps_scalar _) (by simp)
  have hb12 := below_then HB11.out HB11.out.size ((Below.refl w11.heap.size w11).alloc (Nat.le_refl _) (.cells #[Value.string ⟨#[97]⟩, .string ⟨#[]⟩] 9))
  refine (mint_Put.calls _ 2 [⟨#[97]⟩, ⟨#[]⟩] ⟨#[49, 58, 97, 48, 58]⟩ _ (HG.out.below hb12) hr12 (by simp) (by kernel_rfl)).mono ?_
  rintro e w12 ⟨rfl, hb12'⟩
  replace HT6 := Lib.hid ((HT6.out.below ((Below.refl w11.heap.size w11).alloc (Nat.le_refl _) _)).below hb12')
  replace hb12 := below_then hb12 hb12.size hb12'
  have HB12 := Lib.hid hb12
  clear hb12 hb12' hr12
  go_wp2_with fail
  have hr13 := lit_C k123 w12 123 [⟨true, ⟨#[122]⟩⟩, ⟨false, ⟨#[]⟩⟩] [.bool true, .string ⟨#[122]⟩, .bool false, .string ⟨#[]⟩] (Reps.c2 (k123_mk w12 ⟨true, ⟨#[122]⟩⟩) (Reps.c2 (k123_mk w12 ⟨false, ⟨#[]⟩⟩) (Reps.none _ _))) (by simp)
  have hb13 := below_then HB12.out HB12.out.size ((Below.refl w12.heap.size w12).alloc (Nat.le_refl _) (.cells #[.bool true, .string ⟨#[122]⟩, .bool false, .string ⟨#[]⟩] 123))
  refine (Pc.mint_Vals.calls 10 _ 2 [⟨true, ⟨#[122]⟩⟩, ⟨false, ⟨#[]⟩⟩] ⟨#[50, 58, 43, 122, 49, 58, 45]⟩ _ (HG.out.below hb13) hr13 (by simp) (by kernel_rfl)).mono ?_
  rintro e w13 ⟨rfl, hb13'⟩
  replace HT6 := Lib.hid ((HT6.out.below ((Below.refl w12.heap.size w12).alloc (Nat.le_refl _) _)).below hb13')
  replace hb13 := below_then hb13 hb13.size hb13'
  have HB13 := Lib.hid hb13
  clear hb13 hb13' hr13
  go_wp2_with fail
  refine (tree_Len.calls w13 g b _ HT6.out).mono ?_
  rintro e w14 ⟨rfl, hd14⟩
  replace HT6 := Lib.hid (HT6.out.below hd14.below)
  have HB14 := Lib.hid (below_then HB13.out HB13.out.size hd14.below)
  clear hd14
  go_wp2_with fail
  refine (tree_Names.calls w14 g b _ HT6.out (by show List.Pairwise _ _; decide) (by decide)).mono ?_
  rintro e w15 ⟨v15, rfl, hr15, hb15⟩
  replace HT6 := Lib.hid (HT6.out.below hb15)
  have HB15 := Lib.hid (below_then HB14.out HB14.out.size hb15)
  obtain ⟨A15, c15, rfl, hc15, hrd15⟩ := Kd.R_reads (Kd.R_of_own (h1 := fun _ => rfl) (ok := fun _ => True) hr15 (fun _ _ => trivial))
  rcases row_open hrd15 with h0 | ⟨b', o, rfl, _, hcell⟩
  · cases h0
  have hx := hcell 0 (by simp)
  replace hx : w15.cell? ⟨b', o + 0, none⟩ = some (.string ⟨#[97]⟩) := hx
  have hx' : w15.cell? ⟨b', o, none⟩ = some (.string ⟨#[97]⟩) := hx
  clear hr15 hrd15 hcell hb15
  go_wp2_with fail
  refine (tree_Key.calls w15 (HG.out.below HB15.out) g b _ HT6.out (by show List.Pairwise _ _; decide) (by decide) (by decide) (by rw [show (keyT [([97], []), ([98], [120])]).length = 11 by kernel_rfl]; decide)).mono ?_
  rw [show mk (keyT [([97], []), ([98], [120])]) = ⟨#[49, 58, 97, 48, 58, 49, 58, 98, 49, 58, 120]⟩ by kernel_rfl]
  rintro e w16 ⟨rfl, hb16⟩
  replace HT6 := Lib.hid (HT6.out.below hb16)
  have HB16 := Lib.hid (below_then HB15.out HB15.out.size hb16)
  clear hx hx' hb16
  go_wp2_with fail
  refine (tree_Erase.calls w16 g b _ HT6.out ⟨#[99]⟩ (by decide)).mono ?_
  rw [show (eraseT [([97], []), ([98], [120])] (⟨#[99]⟩ : ByteArray).data.toList).2 = 6 by kernel_rfl]
  rintro e w17 ⟨rfl, _, hg17⟩
  have hb17 := HB16.out.grown hg17 HB16.out.size (fun k hk => by cases hk; exact hBb)
  go_wp2
  go_ret
  exact ⟨rfl, hb17⟩
end Go.Proofs.YthagibkmfgodgaaGreatDoor.X

namespace Go.Proofs.YthagibkmfgodgaaGreatDoor.X
open Go.RowKit Go.Maps Go.Proofs.YthagibkmfgodgaaGreatDoorW.PrintWords Go.Proofs.YthagibkmfgodgaaGreatDoorW.PrintMore

theorem ret_bool {a b : Bool} (h : a = b) : Ending.returned (.bool a) = .returned (.bool b) := by rw [h]
theorem ret_int {a b : Int} (h : a = b) : Ending.returned (.int .i64 a) = .returned (.int .i64 b) := by rw [h]
theorem indexByte_calls (s : ByteArray) (c : Int) (w : World) :
    Calls Tryz.prog 69 #[.string s, .int .u8 c] w fun e w' => e = .returned (.int .i64 (Lib.indexByte s.data.toList c.toNat.toUInt8)) ∧ w = w' := by
  have h := Go.Proofs.Any.strings_IndexByte Go.Proofs.Tryz.lays137 s c w
  change Calls Tryz.prog 69 _ _ _ at h
  exact h.mono fun e w' ⟨he, hw⟩ => ⟨he, hw.symm⟩

/-- May a byte be in a name (lex)? -/
def letB (c : Int) : Bool := (97 ≤ c && c ≤ 122) || (65 ≤ c && c ≤ 90) || (48 ≤ c && c ≤ 57) || c == 46 || c == 95 || c == 45 || c == 47
set_option maxHeartbeats 1000000 in
theorem letter_calls (c : Int) (w : World) :
    Calls Tryz.prog 70 #[.int .u8 c] w fun e w' => e = .returned (.bool (letB c)) ∧ w = w' := by
  go_enter Tryz.func70, Tryz.ntmps70
  go_wp2
  all_goals
    go_ret
    exact ⟨ret_bool (by unfold letB; rw [Bool.eq_iff_iff]; simp <;> omega), rfl⟩

/-! ### blanks and remarks -/
def blankB (c : UInt8) : Bool := c == 32 || c == 10 || c == 9 || c == 13
/-- How many bytes are blanks and remarks (inC: within a remark). -/
def skipN : Bool → Bytes → Nat
  | _, [] => 0
  | true, c :: r => if c = 10 then 1 + skipN false r else 1 + skipN true r
  | false, c :: r => if blankB c then 1 + skipN false r else if c = 35 then 1 + skipN true r else 0
theorem skipN_le : ∀ (b : Bool) (l : Bytes), skipN b l ≤ l.length
  | _, [] => by simp [skipN]
  | true, c :: r => by
    have h1 := skipN_le false r
    have h2 := skipN_le true r
    unfold skipN
    split <;> simp <;> omega
  | false, c :: r => by
    have h1 := skipN_le false r
    have h2 := skipN_le true r
    unfold skipN
    split
    · simp; omega
    · split <;> simp; omega
theorem blank_index : ∀ c : Nat, c < 256 → decide (0 ≤ Lib.indexByte [32, 10, 9, 13] c.toUInt8) = blankB (UInt8.ofNat c) := by decide +kernel
theorem skip_cons (s : ByteArray) (kk : Nat) (h : kk < s.size) (b : Bool) : skipN b (s.data.toList.drop kk) = skipN b (s[kk] :: s.data.toList.drop (kk + 1)) := by
  rw [List.drop_eq_getElem_cons (by rw [← Lib.size_eq]; exact h)]
  rfl

set_option maxHeartbeats 4000000 in
theorem skip_calls (s : ByteArray) (a : Nat) (ha : a ≤ s.size) (hs : s.size ≤ 4611686018427387904) (w : World) :
    Calls Tryz.prog 40 #[.string s, .int .i64 a] w fun e w' => e = .returned (.int .i64 ((a + skipN false (s.data.toList.drop a) : Nat) : Int)) ∧ w = w' := by
  generalize hT : a + skipN false (s.data.toList.drop a) = T
  have HT := Lib.hid hT
  clear hT
  go_enter Tryz.func40, Tryz.ntmps40
  go_wp2_with fail
  go_loopg [1] s.size (fun gg s1 wr => ∃ kk : Nat, kk ≤ s.size ∧ s.size - kk ≤ gg ∧ s1 = .int .i64 kk ∧ Aside0 (kk + skipN false (s.data.toList.drop kk) = T) ∧ wr = w)
  case atStart => exact ⟨a, ha, by omega, rfl, ⟨HT.out⟩, rfl⟩
  case round =>
    obtain ⟨kk, hkk, hgk, rfl, HK, rfl⟩ := hrel
    by_cases hlt : kk < s.size
    · have hltz : (kk : Int) < (s.size : Int) := by omega
      have HC := Lib.hid (skip_cons s kk hlt)
      have hI := indexByte_calls ⟨#[32, 10, 9, 13]⟩ (s[kk].toNat : Int) wr
      have hbi := blank_index s[kk].toNat (UInt8.toNat_lt _)
      rw [show (UInt8.ofNat s[kk].toNat) = s[kk] by simp] at hbi
      rw [Int.toNat_natCast, show (⟨#[32, 10, 9, 13]⟩ : ByteArray).data.toList = [32, 10, 9, 13] from rfl] at hI
      generalize Lib.indexByte ([32, 10, 9, 13] : List UInt8) s[kk].toNat.toUInt8 = i at hbi hI
      have HBI := Lib.hid hbi
      clear hbi
      by_cases hbl : blankB s[kk] = true
      · have hi : decide (0 ≤ i) = true := by rw [HBI.out, hbl]
        have hi0 : 0 ≤ i := by simpa using hi
        have HBL := Lib.hid hbl
        clear hbl
        go_wp2_with (go_at_call 69; refine hI.mono ?_; rintro e w' ⟨rfl, rfl⟩)
        go_roundg (s.size - (kk + 1))
        case measure => omega
        case rel =>
          refine ⟨kk + 1, by omega, by omega, by go_num, ⟨?_⟩, rfl⟩
          have := HK.out
          rw [HC.out, skipN, if_pos HBL.out] at this
          omega
      · have hi : decide (0 ≤ i) = false := by rw [HBI.out]; simpa using hbl
        have hi0 : ¬ 0 ≤ i := by simpa using hi
        have HBL := Lib.hid hbl
        clear hbl
        by_cases h35 : s[kk].toNat = 35
        · have hq : ((s[kk].toNat : Int) == 35) = true := by simp; omega
          have HS35 : Hid (s[kk] = 35) := by
            show s[kk] = 35
            rw [← UInt8.toNat_inj]
            exact h35
          clear h35
          go_wp2_with (go_at_call 69; refine hI.mono ?_; rintro e w' ⟨rfl, rfl⟩)
          have HK2 : Hid (kk + skipN true (s.data.toList.drop kk) = T) := by
            show kk + skipN true (s.data.toList.drop kk) = T
            have := HK.out
            rw [HC.out, skipN, if_neg HBL.out, if_pos HS35.out] at this
            rw [HC.out, skipN, if_neg (by rw [HS35.out]; decide)]
            exact this
          go_loopg [1] s.size (fun gg s1 wr2 => ∃ k2 : Nat, kk ≤ k2 ∧ k2 ≤ s.size ∧ s.size - k2 ≤ gg ∧ s1 = .int .i64 k2 ∧ Aside0 (k2 + skipN true (s.data.toList.drop k2) = T) ∧ wr2 = wr)
          case atStart => exact ⟨kk, by omega, by omega, by omega, rfl, ⟨HK2.out⟩, rfl⟩
          case round =>
            obtain ⟨k2, hk2, hk3, hgk2, rfl, HM, rfl⟩ := hrel
            by_cases hlt2 : k2 < s.size
            · have hltz2 : (k2 : Int) < (s.size : Int) := by omega
              have HC2 := Lib.hid (skip_cons s k2 hlt2)
              by_cases h10 : s[k2].toNat = 10
              · have hq2 : ((s[k2].toNat : Int) != 10) = false := by simp; omega
                have HS10 : Hid (s[k2] = 10) := by
                  show s[k2] = 10
                  rw [← UInt8.toNat_inj]
                  exact h10
                have hlt3 : kk < k2 := by
                  rcases Nat.lt_or_eq_of_le hk2 with h | h
                  · exact h
                  · subst h
                    have := HS35.out
                    rw [HS10.out] at this
                    cases this
                go_wp2
                go_roundg (s.size - k2)
                case measure => omega
                case rel =>
                  refine ⟨k2, by omega, by omega, rfl, ⟨?_⟩, rfl⟩
                  have := HM.out
                  rw [HC2.out, skipN, if_pos HS10.out] at this
                  rw [HC2.out, skipN, if_pos (by rw [HS10.out]; rfl)]
                  exact this
              · have hq2 : ((s[k2].toNat : Int) != 10) = true := by simp; omega
                have HS10 : Hid (s[k2] ≠ 10) := by
                  intro e
                  apply h10
                  rw [e]
                  rfl
                go_wp2
                go_roundg (s.size - (k2 + 1))
                case measure => omega
                case rel =>
                  refine ⟨k2 + 1, by omega, by omega, by omega, by go_num, ⟨?_⟩, rfl⟩
                  have := HM.out
                  rw [HC2.out, skipN, if_neg HS10.out] at this
                  omega
            · have hltz2 : ¬ (k2 : Int) < (s.size : Int) := by omega
              have hlt3 : kk < k2 := by omega
              go_wp2
              go_roundg (s.size - k2)
              case measure => omega
              case rel =>
                refine ⟨k2, by omega, by omega, rfl, ⟨?_⟩, rfl⟩
                have := HM.out
                rw [List.drop_of_length_le (by rw [← Lib.size_eq]; omega)] at this ⊢
                exact this
        · have hq : ((s[kk].toNat : Int) == 35) = false := by simp; omega
          have HS35 : Hid (s[kk] ≠ 35) := by
            intro e
            apply h35
            rw [e]
            rfl
          clear h35
          go_wp2_with (go_at_call 69; refine hI.mono ?_; rintro e w' ⟨rfl, rfl⟩)
          go_ret
          refine ⟨ret_int ?_, rfl⟩
          have := HK.out
          rw [HC.out, skipN, if_neg HBL.out, if_neg HS35.out] at this
          omega
    · have hltz : ¬ (kk : Int) < (s.size : Int) := by omega
      go_wp2
      go_ret
      refine ⟨ret_int ?_, rfl⟩
      have := HK.out
      rw [List.drop_of_length_le (by rw [← Lib.size_eq]; omega), skipN] at this
      omega

end Go.Proofs.YthagibkmfgodgaaGreatDoor.X

namespace Go.Proofs.YthagibkmfgodgaaGreatDoor.X
open Go.RowKit Go.Maps Go.Proofs.YthagibkmfgodgaaGreatDoorW.PrintWords Go.Proofs.YthagibkmfgodgaaGreatDoorW.PrintMore

/-- A sign's digit. -/
def hexV (c : UInt8) : Int := Lib.indexByte [48, 49, 50, 51, 52, 53, 54, 55, 56, 57, 97, 98, 99, 100, 101, 102] c
theorem hexV_range : ∀ c : Nat, c < 256 → -1 ≤ hexV (UInt8.ofNat c) ∧ hexV (UInt8.ofNat c) ≤ 15 := by decide +kernel
def hexF : Bytes → Nat × Nat
  | a :: b :: _ => if 0 ≤ hexV a ∧ 0 ≤ hexV b then ((16 * hexV a + hexV b).toNat, 3) else (0, 0)
  | _ => (0, 0)
/-- What stands behind a backslash. -/
def escF : Bytes → Nat × Nat
  | [] => (0, 0)
  | c :: r => if c = 110 then (10, 1) else if c = 116 then (9, 1) else if c = 92 ∨ c = 34 then (c.toNat, 1) else if c = 120 then hexF r else (0, 0)
theorem digit_calls (c : UInt8) (w : World) :
    Calls Tryz.prog 69 #[.string ⟨#[48, 49, 50, 51, 52, 53, 54, 55, 56, 57, 97, 98, 99, 100, 101, 102]⟩, .int .u8 c.toNat] w fun e w' => e = .returned (.int .i64 (hexV c)) ∧ w' = w :=
  (indexByte_calls _ _ w).mono fun e w' ⟨he, hw⟩ => ⟨by rw [he]; unfold hexV; simp, hw.symm⟩
set_option maxHeartbeats 4000000 in
set_option maxRecDepth 100000 in
theorem escape_calls (s : ByteArray) (w : World) :
    Calls Tryz.prog 116 #[.string s] w fun e w' => e = .returned (.tuple #[.int .u8 (escF s.data.toList).1, .int .i64 (escF s.data.toList).2]) ∧ Drawn0 w w' := by
  by_cases h0 : s.size = 0
  · have hse : s = ⟨#[]⟩ := by
      apply data_inj
      rw [Lib.size_eq] at h0
      exact List.eq_nil_of_length_eq_zero h0
    subst hse
    go_enter Tryz.func116, Tryz.ntmps116
    go_wp2
    go_ret2
    exact ⟨rfl, Drawn0.refl _⟩
  · have hpos : 0 < s.size := by omega
    have hne : (s.toList == []) = false := by
      rw [toList_eq, beq_eq_false_iff_ne]
      intro h
      rw [Lib.size_eq, h] at h0
      exact h0 rfl
    have hL : s.data.toList = s[0] :: s.data.toList.drop 1 := by
      have := List.drop_eq_getElem_cons (l := s.data.toList) (i := 0) (by rw [← Lib.size_eq]; exact hpos)
      rw [List.drop_zero] at this
      exact this
    have HL := Lib.hid hL
    have n8 : ∀ (m : Nat) (k : UInt8), k.toNat = m → (s[0] = k ↔ s[0].toNat = m) := fun m k hk => by rw [← UInt8.toNat_inj, hk]
    have H110 := Lib.hid (n8 110 110 rfl)
    have H116 := Lib.hid (n8 116 116 rfl)
    have H92 := Lib.hid (n8 92 92 rfl)
    have H34 := Lib.hid (n8 34 34 rfl)
    have H120 := Lib.hid (n8 120 120 rfl)
    clear hL n8 h0
    by_cases c1 : s[0].toNat = 110
    · have e1 : ((s[0].toNat : Int) == 110) = true := by simp; omega
      have HE : Hid (escF s.data.toList = (10, 1)) := by show _ = _; rw [HL.out, escF, if_pos (H110.out.2 c1)]
      clear c1
      go_enter Tryz.func116, Tryz.ntmps116
      go_wp2
      go_ret2
      exact ⟨by rw [HE.out]; rfl, Drawn0.refl _⟩
    have e1 : ((s[0].toNat : Int) == 110) = false := by simp; omega
    by_cases c2 : s[0].toNat = 116
    · have e2 : ((s[0].toNat : Int) == 116) = true := by simp; omega
      have HE : Hid (escF s.data.toList = (9, 1)) := by show _ = _; rw [HL.out, escF, if_neg (fun h => c1 (H110.out.1 h)), if_pos (H116.out.2 c2)]
      clear c1 c2
      go_enter Tryz.func116, Tryz.ntmps116
      go_wp2
      go_ret2
      exact ⟨by rw [HE.out]; rfl, Drawn0.refl _⟩
    have e2 : ((s[0].toNat : Int) == 116) = false := by simp; omega
    by_cases c3 : s[0].toNat = 92
    · have e3 : ((s[0].toNat : Int) == 92) = true := by simp; omega
      have HE : Hid (escF s.data.toList = (s[0].toNat, 1)) := by show _ = _; rw [HL.out, escF, if_neg (fun h => c1 (H110.out.1 h)), if_neg (fun h => c2 (H116.out.1 h)), if_pos (.inl (H92.out.2 c3))]
      clear c1 c2 c3
      go_enter Tryz.func116, Tryz.ntmps116
      go_wp2
      go_ret2
      exact ⟨by rw [HE.out]; simp, Drawn0.refl _⟩
    have e3 : ((s[0].toNat : Int) == 92) = false := by simp; omega
    by_cases c4 : s[0].toNat = 34
    · have e4 : ((s[0].toNat : Int) == 34) = true := by simp; omega
      have HE : Hid (escF s.data.toList = (s[0].toNat, 1)) := by show _ = _; rw [HL.out, escF, if_neg (fun h => c1 (H110.out.1 h)), if_neg (fun h => c2 (H116.out.1 h)), if_pos (.inr (H34.out.2 c4))]
      clear c1 c2 c3 c4
      go_enter Tryz.func116, Tryz.ntmps116
      go_wp2
      go_ret2
      exact ⟨by rw [HE.out]; simp, Drawn0.refl _⟩
    have e4 : ((s[0].toNat : Int) == 34) = false := by simp; omega
    have HR : Hid (escF s.data.toList = if s[0] = 120 then hexF (s.data.toList.drop 1) else (0, 0)) := by
      show _ = _
      conv => lhs; rw [HL.out, escF]
      rw [if_neg (fun h => c1 (H110.out.1 h)), if_neg (fun h => c2 (H116.out.1 h)), if_neg (fun h => h.elim (fun h => c3 (H92.out.1 h)) (fun h => c4 (H34.out.1 h)))]
    clear c1 c2 c3 c4
    by_cases c5 : s[0].toNat = 120
    · have e5 : ((s[0].toNat : Int) == 120) = true := by simp; omega
      have H5 : Hid (s[0] = 120) := H120.out.2 c5
      clear c5
      by_cases h3 : s.size < 3
      · have d3 : decide ((s.size : Int) < 3) = true := by simp; omega
        have HE : Hid (escF s.data.toList = (0, 0)) := by
          show _ = _
          rw [HR.out, if_pos H5.out]
          have hlen : (s.data.toList.drop 1).length < 2 := by rw [List.length_drop, ← Lib.size_eq]; omega
          match hm : s.data.toList.drop 1 with
          | [] => rfl
          | [_] => rfl
          | _ :: _ :: _ => rw [hm] at hlen; simp at hlen; omega
        clear h3
        go_enter Tryz.func116, Tryz.ntmps116
        go_wp2
        go_ret2
        exact ⟨by rw [HE.out]; rfl, Drawn0.refl _⟩
      · have d3 : decide ((s.size : Int) < 3) = false := by simp; omega
        have h1 : 1 < s.size := by omega
        have h2 : 2 < s.size := by omega
        have h1z : (1 : Int) < (s.size : Int) := by omega
        have h2z : (2 : Int) < (s.size : Int) := by omega
        have h1d : decide (1 < s.size) = true := by simp; omega
        have h2d : decide (2 < s.size) = true := by simp; omega
        have HE : Hid (escF s.data.toList = if 0 ≤ hexV s[1] ∧ 0 ≤ hexV s[2] then ((16 * hexV s[1] + hexV s[2]).toNat, 3) else (0, 0)) := by
          show _ = _
          rw [HR.out, if_pos H5.out, List.drop_eq_getElem_cons (by rw [← Lib.size_eq]; exact h1), List.drop_eq_getElem_cons (by rw [← Lib.size_eq]; exact h2)]
          rfl
        have r1 := hexV_range s[1].toNat (UInt8.toNat_lt _)
        have r2 := hexV_range s[2].toNat (UInt8.toNat_lt _)
        rw [show UInt8.ofNat s[1].toNat = s[1] by simp] at r1
        rw [show UInt8.ofNat s[2].toNat = s[2] by simp] at r2
        have hi1 := fun W => digit_calls s[1] W
        have hi2 := fun W => digit_calls s[2] W
        generalize hexV s[1] = x1 at *
        generalize hexV s[2] = x2 at *
        go_enter Tryz.func116, Tryz.ntmps116
        go_wp2_with fail
        go_quiet ((go_at_call 69; first | (with_reducible exact Calls.quiet_of_same (hi1 _)) | (with_reducible exact Calls.quiet_of_same (hi2 _))))
        by_cases b1 : 0 ≤ x1
        · by_cases b2 : 0 ≤ x2
          · have HV : Hid (escF s.data.toList = ((16 * x1 + x2).toNat, 3)) := by
              show _ = _
              rw [HE.out]
              exact if_pos ⟨b1, b2⟩
            go_wp2
            go_ret2
            refine ⟨?_, ⟨⟨_, rfl⟩⟩⟩
            rw [HV.out]
            show Ending.returned (.tuple #[.int .u8 (16 * x1 + x2), .int .i64 3]) = Ending.returned (.tuple #[.int .u8 (((16 * x1 + x2).toNat : Nat) : Int), .int .i64 ((3 : Nat) : Int)])
            rw [Int.toNat_of_nonneg (by omega)]
            rfl
          · have HV : Hid (escF s.data.toList = (0, 0)) := by
              show _ = _
              rw [HE.out]
              exact if_neg (fun h => b2 h.2)
            go_wp2
            go_ret2
            exact ⟨by rw [HV.out]; rfl, ⟨⟨_, rfl⟩⟩⟩
        · have HV : Hid (escF s.data.toList = (0, 0)) := by
            show _ = _
            rw [HE.out]
            exact if_neg (fun h => b1 h.1)
          go_wp2
          go_ret2
          exact ⟨by rw [HV.out]; rfl, ⟨⟨_, rfl⟩⟩⟩
    · have e5 : ((s[0].toNat : Int) == 120) = false := by simp; omega
      have HE : Hid (escF s.data.toList = (0, 0)) := by show _ = _; rw [HR.out, if_neg (fun h => c5 (H120.out.1 h))]
      clear c5
      go_enter Tryz.func116, Tryz.ntmps116
      go_wp2
      go_ret2
      exact ⟨by rw [HE.out]; rfl, Drawn0.refl _⟩

/-- A string's bytes, behind its first sign (fuel: its length): what it stands for, and how many bytes it takes with its last sign. -/
def textF : Nat → Bytes → Option (Bytes × Nat)
  | 0, _ => none
  | _ + 1, [] => none
  | k + 1, c :: r =>
    if c = 34 then some ([], 1)
    else if c = 92 then (if (escF r).2 = 0 then none else (textF k (r.drop (escF r).2)).map fun p => (UInt8.ofNat (escF r).1 :: p.1, p.2 + (escF r).2 + 1))
    else if c.toNat < 32 ∨ 126 < c.toNat then none
    else (textF k r).map fun p => (c :: p.1, p.2 + 1)

theorem infoU : (Tryz.prog.info? 5).map (fun i => (i.zero, i.size, i.bytes)) = some (some (.int .u8 0), 1, 1) := by kernel_rfl
def natsB (l : Bytes) : List Int := l.map fun c => (c.toNat : Int)
theorem strOf_natsB (l : Bytes) : strOfNums (natsB l) = mk l := by
  unfold strOfNums natsB mk
  rw [List.map_map]
  congr 2
  conv => rhs; rw [← List.map_id l]
  congr 1
  funext c
  simp
theorem natsB_snoc (l : Bytes) (c : UInt8) : natsB l ++ [(c.toNat : Int)] = natsB (l ++ [c]) := by simp [natsB]
def textR : Option (Bytes × Nat) → Value
  | some p => .tuple #[.string (mk p.1), .int .i64 (p.2 : Nat)]
  | none => .tuple #[.string ⟨#[]⟩, .int .i64 (-1)]
theorem esc_byte : ∀ l : Bytes, (escF l).1 < 256 := by
  intro l
  have hx : ∀ c : UInt8, -1 ≤ hexV c ∧ hexV c ≤ 15 := fun c => by
    have := hexV_range c.toNat (UInt8.toNat_lt _)
    rwa [show UInt8.ofNat c.toNat = c by simp] at this
  unfold escF
  split
  · decide
  · rename_i c r
    split
    · decide
    · split
      · decide
      · split
        · exact UInt8.toNat_lt c
        · split
          · unfold hexF
            split
            · rename_i x y t
              have h1 := hx x
              have h2 := hx y
              split
              · simp only
                omega
              · decide
            · decide
          · decide
theorem esc_take : ∀ l : Bytes, (escF l).2 ≤ l.length ∧ (escF l).2 ≤ 3 := by
  intro l
  unfold escF
  split
  · simp
  · rename_i c r
    split
    · simp
    · split
      · simp
      · split
        · simp
        · split
          · unfold hexF
            split
            · split <;> simp
            · simp
          · simp
theorem textF_fuel : ∀ (k k' : Nat) (l : Bytes), l.length < k → l.length < k' → textF k l = textF k' l
  | 0, _, l, h, _ => absurd h (Nat.not_lt_zero _)
  | _, 0, l, _, h => absurd h (Nat.not_lt_zero _)
  | k + 1, k' + 1, [], _, _ => rfl
  | k + 1, k' + 1, c :: r, h, h' => by
    simp only [List.length_cons] at h h'
    unfold textF
    rw [textF_fuel k k' r (by omega) (by omega), textF_fuel k k' (r.drop (escF r).2) (by rw [List.length_drop]; omega) (by rw [List.length_drop]; omega)]

set_option maxHeartbeats 4000000 in
set_option maxRecDepth 100000 in
theorem text_calls (s : ByteArray) (a : Nat) (ha : a ≤ s.size) (hs : s.size ≤ 100000) (w : World) :
    Calls Tryz.prog 71 #[.string s, .int .i64 a] w fun e w' => e = .returned (textR ((textF (s.size - a + 1) (s.data.toList.drop a)).map fun p => (p.1, a + p.2))) ∧ Below w.heap.size w w' := by
  generalize hT : ((textF (s.size - a + 1) (s.data.toList.drop a)).map fun p => (p.1, a + p.2)) = T
  have HT := Lib.hid hT
  clear hT
  go_enter Tryz.func71, Tryz.ntmps71
  go_wp2_with fail
  go_loopg [1, 6, 7, 8, 9] s.size (fun gg s1 s6 _ _ _ wr => ∃ (kk : Nat) (acc : Bytes), kk ≤ s.size ∧ s.size - kk ≤ gg ∧ s1 = .int .i64 kk ∧ acc.length ≤ kk ∧ Aside0 ((textF (s.size - kk + 1) (s.data.toList.drop kk)).map (fun p => (acc ++ p.1, kk + p.2)) = T) ∧
    Aside0 (wr.ownsRow w.heap.size 5 1 s6 (natsB acc).length (nums .u8 (natsB acc))) ∧ Aside0 (Below w.heap.size w wr))
  case atStart => exact ⟨a, [], ha, by omega, rfl, by simp, ⟨by simpa using HT.out⟩, ⟨own_nil _ _ _ _⟩, ⟨Below.refl _ _⟩⟩
  case round =>
    obtain ⟨kk, acc, hkk, hgk, rfl, hacc, HK, HO, HB⟩ := hrel
    by_cases hlt : kk < s.size
    · have hltz : (kk : Int) < (s.size : Int) := by omega
      have hdr : s.data.toList.drop kk = s[kk] :: s.data.toList.drop (kk + 1) := by
        rw [List.drop_eq_getElem_cons (by rw [← Lib.size_eq]; exact hlt)]
        rfl
      have HD := Lib.hid hdr
      clear hdr
      have hK := HK.out
      rw [HD.out, textF] at hK
      have HK2 := Lib.hid hK
      clear hK
      have n8 : ∀ (m : Nat) (k : UInt8), k.toNat = m → (s[kk] = k ↔ s[kk].toNat = m) := fun m k hk => by rw [← UInt8.toNat_inj, hk]
      have H34 := Lib.hid (n8 34 34 rfl)
      have H92 := Lib.hid (n8 92 92 rfl)
      clear n8
      have hcv := own_string (dst := 9) Tryz.underlying38 Tryz.underlying5 Tryz.underlying9 HO.out
      rw [strOf_natsB] at hcv
      have hrest : (s.data.toList.drop (kk + 1)).length = s.size - (kk + 1) := by rw [List.length_drop, ← Lib.size_eq]
      have HRest := Lib.hid hrest
      clear hrest
      have hwb := HB.out.size
      have HWB := Lib.hid hwb
      clear hwb
      by_cases c1 : s[kk].toNat = 34
      · have e1 : ((s[kk].toNat : Int) == 34) = true := by simp; omega
        have HV : Hid (T = some (acc, kk + 1)) := by
          show T = _
          rw [← HK2.out, if_pos (H34.out.2 c1)]
          simp
        clear c1
        go_wp2
        go_ret2
        exact ⟨by rw [HV.out]; rfl, HB.out⟩
      have e1 : ((s[kk].toNat : Int) == 34) = false := by simp; omega
      have HN34 : Hid (s[kk] ≠ 34) := fun h => c1 (H34.out.1 h)
      clear c1
      by_cases c2 : s[kk].toNat = 92
      · have e2 : ((s[kk].toNat : Int) == 92) = true := by simp; omega
        have HV : Hid (T = Option.map (fun p => (acc ++ p.1, kk + p.2)) (if (escF (s.data.toList.drop (kk + 1))).2 = 0 then none else (textF (s.size - kk) ((s.data.toList.drop (kk + 1)).drop (escF (s.data.toList.drop (kk + 1))).2)).map fun p => (UInt8.ofNat (escF (s.data.toList.drop (kk + 1))).1 :: p.1, p.2 + (escF (s.data.toList.drop (kk + 1))).2 + 1))) := by
          show T = _
          rw [← HK2.out, if_neg HN34.out, if_pos (H92.out.2 c2)]
        clear c2
        have hE := fun W => escape_calls (s.extract (kk + 1) s.size) W
        have hex : (s.extract (kk + 1) s.size).data.toList = s.data.toList.drop (kk + 1) := by
          simp only [ByteArray.data_extract, Array.toList_extract, List.extract_eq_take_drop]
          rw [List.take_of_length_le (by rw [HRest.out]; omega)]
        rw [hex] at hE
        have HB1 := Lib.hid (esc_byte (s.data.toList.drop (kk + 1)))
        have HB2 := Lib.hid (esc_take (s.data.toList.drop (kk + 1)))
        clear hex
        obtain ⟨q, hq⟩ : ∃ q, q = s.data.toList.drop (kk + 1) := ⟨_, rfl⟩
        have HQ := Lib.hid hq
        rw [← hq] at hE HV HB1 HB2 HRest
        clear hq
        obtain ⟨x, hx⟩ : ∃ x, x = (escF q).1 := ⟨_, rfl⟩
        obtain ⟨n, hn⟩ : ∃ n, n = (escF q).2 := ⟨_, rfl⟩
        rw [← hx, ← hn] at hE
        rw [← hx] at HB1
        rw [← hn] at HB2
        rw [← hx, ← hn] at HV
        clear hx hn
        have hn3 : n ≤ 3 := HB2.out.2
        have hnl : n ≤ s.size - (kk + 1) := by have := HB2.out.1; rw [HRest.out] at this; exact this
        by_cases hn0 : n = 0
        · subst hn0
          have HV2 : Hid (T = none) := by show T = none; rw [HV.out, if_pos rfl]; rfl
          go_wp2_with (go_at_call 116; refine (hE _).mono ?_; rintro e w2 ⟨rfl, hd2⟩)
          go_ret2
          exact ⟨by rw [HV2.out]; rfl, below_then HB.out HB.out.size hd2.below⟩
        · have hnz : ((n : Int) == 0) = false := by simp; omega
          have HV2 : Hid (Option.map (fun p => (acc ++ [UInt8.ofNat x] ++ p.1, (kk + n + 1) + p.2)) (textF (s.size - (kk + n + 1) + 1) (s.data.toList.drop (kk + n + 1))) = T) := by
            show _ = T
            rw [HV.out, if_neg hn0, HQ.out, List.drop_drop, textF_fuel (s.size - kk) (s.size - (kk + n + 1) + 1) _ (by rw [List.length_drop, ← Lib.size_eq]; omega) (by rw [List.length_drop, ← Lib.size_eq]; omega), show kk + 1 + n = kk + n + 1 by omega, Option.map_map]
            congr 1
            funext p
            simp only [Function.comp, List.append_assoc, List.cons_append, List.nil_append, Prod.mk.injEq, true_and]
            omega
          have HX : Hid ((x : Int) = ((UInt8.ofNat x).toNat : Int)) := by
            show (x : Int) = _
            have := HB1.out
            rw [UInt8.toNat_ofNat_of_lt' (by simpa using this)]
          clear HV HB1 HB2 HRest
          have hal : (natsB acc).length ≤ 100000 := by unfold natsB; rw [List.length_map]; omega
          go_wp2_with fail
          refine (hE _).mono ?_
          rintro e w2 ⟨rfl, hd2⟩
          have HO2 : Hid (w2.ownsRow w.heap.size 5 1 u6 (natsB acc).length (nums .u8 (natsB acc))) := pw_own_below HO.out hd2.below
          have HBB := Lib.hid (below_then HB.out HB.out.size hd2.below)
          have HWB2 : Hid (w.heap.size ≤ w2.heap.size) := HBB.out.size
          clear hd2
          go_wp2_with (first | ((with_reducible refine gate_builtin (b := .append) (xs := #[.tmp 43, .tmp 45]) rfl ?_); at_builtin; refine print_append_num (w0 := w) w.heap.size rfl (.tmp 43) (.tmp 45) 38 5 .u8 1 rfl Tryz.underlying38 infoU (by decide) u6 (natsB acc) (x : Int) rfl rfl HO2.out HBB.out HWB2.out ?aL ?_; (case aL => omega); intro v1 w3 ho hb hg hat))
          rw [HX.out, natsB_snoc] at ho
          have HO3 := Lib.hid ho
          have HB3 := Lib.hid hb
          clear ho hb hg hat
          go_wp2
          go_roundg (s.size - (kk + n + 1))
          case measure => omega
          case rel => exact ⟨kk + n + 1, acc ++ [UInt8.ofNat x], by omega, by omega, by go_num, by simp; omega, ⟨HV2.out⟩, ⟨HO3.out⟩, ⟨HB3.out⟩⟩
      have e2 : ((s[kk].toNat : Int) == 92) = false := by simp; omega
      have HN92 : Hid (s[kk] ≠ 92) := fun h => c2 (H92.out.1 h)
      clear c2
      by_cases c3 : s[kk].toNat < 32 ∨ 126 < s[kk].toNat
      · have HV : Hid (T = none) := by
          show T = none
          rw [← HK2.out, if_neg HN34.out, if_neg HN92.out, if_pos c3]
          rfl
        by_cases c4 : s[kk].toNat < 32
        · have e4 : decide ((s[kk].toNat : Int) < 32) = true := by simp; omega
          clear c3 c4
          go_wp2
          go_ret2
          exact ⟨by rw [HV.out]; rfl, HB.out⟩
        · have e4 : decide ((s[kk].toNat : Int) < 32) = false := by simp; omega
          have e5 : decide (126 < (s[kk].toNat : Int)) = true := by simp; omega
          clear c3 c4
          go_wp2
          go_ret2
          exact ⟨by rw [HV.out]; rfl, HB.out⟩
      · have HV2 : Hid (Option.map (fun p => (acc ++ [s[kk]] ++ p.1, (kk + 1) + p.2)) (textF (s.size - (kk + 1) + 1) (s.data.toList.drop (kk + 1))) = T) := by
          show _ = T
          rw [← HK2.out, if_neg HN34.out, if_neg HN92.out, if_neg c3, show s.size - (kk + 1) + 1 = s.size - kk by omega, Option.map_map]
          congr 1
          funext p
          simp only [Function.comp, List.append_assoc, List.cons_append, List.nil_append, Prod.mk.injEq, true_and]
          omega
        have e4 : decide ((s[kk].toNat : Int) < 32) = false := by simp; omega
        have e5 : decide (126 < (s[kk].toNat : Int)) = false := by simp; omega
        have hal : (natsB acc).length ≤ 100000 := by unfold natsB; rw [List.length_map]; omega
        clear c3
        go_wp2_with (first | ((with_reducible refine gate_builtin (b := .append) (xs := #[.tmp 17, .tmp 19]) rfl ?_); at_builtin; refine print_append_num (w0 := w) w.heap.size rfl (.tmp 17) (.tmp 19) 38 5 .u8 1 rfl Tryz.underlying38 infoU (by decide) u6 (natsB acc) (s[kk].toNat : Int) rfl rfl HO.out HB.out HWB.out ?aL ?_; (case aL => omega); intro v1 w3 ho hb hg hat))
        rw [natsB_snoc] at ho
        have HO3 := Lib.hid ho
        have HB3 := Lib.hid hb
        clear ho hb hg hat
        go_wp2
        go_roundg (s.size - (kk + 1))
        case measure => omega
        case rel => exact ⟨kk + 1, acc ++ [s[kk]], by omega, by omega, by go_num, by simp; omega, ⟨HV2.out⟩, ⟨HO3.out⟩, ⟨HB3.out⟩⟩
    · have hltz : ¬ (kk : Int) < (s.size : Int) := by omega
      have HN : Hid (T = none) := by
        show T = none
        rw [← HK.out, List.drop_of_length_le (by rw [← Lib.size_eq]; omega)]
        rfl
      go_wp2
      go_ret2
      exact ⟨by rw [HN.out]; rfl, HB.out⟩

end Go.Proofs.YthagibkmfgodgaaGreatDoor.X

namespace Go.Proofs.YthagibkmfgodgaaGreatDoor.X
open Go.RowKit Go.Maps Go.Proofs.YthagibkmfgodgaaGreatDoorW.PrintWords Go.Proofs.YthagibkmfgodgaaGreatDoorW.PrintMore Go.Proofs.YthagibkmfgodgaaGreatDoorW.PrintLast

theorem three_set {w2 : World} {g t : Nat} {x0 x1 x2 : Value} (y0 y1 y2 : Value) (h : w2.heap[g]? = some (.cells #[x0, x1, x2] t (0, 0))) :
    (((w2.setCell ⟨g, 0, none⟩ y0).setCell ⟨g, 1, none⟩ y1).setCell ⟨g, 2, none⟩ y2).heap[g]? = some (.cells #[y0, y1, y2] t (0, 0)) :=
  blk_put (blk_put (blk_put h 0 y0 rfl) 1 y1 rfl) 2 y2 rfl
def letU (c : UInt8) : Bool := letB (c.toNat : Int)
def runL (l : Bytes) : Nat := (l.takeWhile letU).length
def punctB (c : UInt8) : Bool := decide (0 ≤ Lib.indexByte [123, 125, 44, 59, 61, 40, 41, 43, 94, 58, 36] c)
def punctI (c : UInt8) : Int := Lib.indexByte [123, 125, 44, 59, 61, 40, 41, 43, 94, 58, 36] c
theorem punct_calls (c : UInt8) (w : World) :
    Calls Tryz.prog 69 #[.string ⟨#[123, 125, 44, 59, 61, 40, 41, 43, 94, 58, 36]⟩, .int .u8 c.toNat] w fun e w' => e = .returned (.int .i64 (punctI c)) ∧ w = w' :=
  (indexByte_calls _ _ w).mono fun e w' ⟨he, hw⟩ => ⟨by rw [he]; unfold punctI; simp, hw⟩
/-- The word that a text begins with: its kind, what it says, how many bytes it takes. -/
def wordF (l : Bytes) : Option (Nat × Bytes × Nat) :=
  if 0 < runL l then some (1, l.take (runL l), runL l)
  else match l with
    | [] => none
    | c :: r => if c = 34 then (textF (r.length + 1) r).map fun p => (2, p.1, p.2 + 1) else if punctB c then some (3, [c], 1) else none
theorem extract_mk (s : ByteArray) (a b : Nat) : s.extract a b = mk ((s.data.toList.drop a).take (b - a)) := by
  apply data_inj
  rw [mk_data]
  simp only [ByteArray.data_extract, Array.toList_extract, List.extract_eq_take_drop]
theorem runL_cons (c : UInt8) (r : Bytes) : runL (c :: r) = if letU c then 1 + runL r else 0 := by
  unfold runL
  rw [List.takeWhile_cons]
  split
  · simp; omega
  · rfl
theorem runL_le (l : Bytes) : runL l ≤ l.length := by
  induction l with
  | nil => simp [runL]
  | cons c r ih => rw [runL_cons]; split <;> simp <;> omega
def IsWordR (at_ : Nat) (o : Option (Nat × Bytes × Nat)) (w : World) (e : Ending) (w' : World) : Prop :=
  (match o with
    | some p => e = .returned (.tuple #[.agg #[.int .i64 (p.1 : Nat), .int .i64 (at_ : Nat), .string (mk p.2.1)], .int .i64 ((at_ + p.2.2 : Nat) : Int)])
    | none => ∃ (k a : Int) (t : ByteArray), e = .returned (.tuple #[.agg #[.int .i64 k, .int .i64 a, .string t], .int .i64 (-1)])) ∧ Below w.heap.size w w'

set_option maxHeartbeats 4000000 in
set_option maxRecDepth 100000 in
theorem word_calls (s : ByteArray) (a : Nat) (ha : a < s.size) (hs : s.size ≤ 100000) (w : World) :
    Calls Tryz.prog 41 #[.string s, .int .i64 a] w (IsWordR a (wordF (s.data.toList.drop a)) w) := by
  have hL := letter_calls
  go_enter Tryz.func41, Tryz.ntmps41
  go_wp2_with fail
  go_loopg [6] s.size (fun gg s6 wr => ∃ kk : Nat, a ≤ kk ∧ kk ≤ s.size ∧ s.size - kk ≤ gg ∧ s6 = .int .i64 kk ∧ Aside0 (kk + runL (s.data.toList.drop kk) = a + runL (s.data.toList.drop a)) ∧ wr = w.alloc (.cells #[.int .i64 0, .int .i64 0, .string ⟨#[]⟩] 34))
  case atStart => exact ⟨a, by omega, by omega, by omega, rfl, ⟨rfl⟩, rfl⟩
  case round =>
    obtain ⟨kk, hak, hkk, hgk, rfl, HK, rfl⟩ := hrel
    by_cases hlt : kk < s.size
    · have hltz : (kk : Int) < (s.size : Int) := by omega
      have hdr : s.data.toList.drop kk = s[kk] :: s.data.toList.drop (kk + 1) := by
        rw [List.drop_eq_getElem_cons (by rw [← Lib.size_eq]; exact hlt)]
        rfl
      have HD := Lib.hid hdr
      clear hdr
      have hl := fun W => hL (s[kk].toNat : Int) W
      by_cases c1 : letU s[kk] = true
      · have hc : letB (s[kk].toNat : Int) = true := c1
        rw [hc] at hl
        go_wp2_with (go_at_call 70; refine (hl _).mono ?_; rintro e w' ⟨rfl, rfl⟩)
        go_roundg (s.size - (kk + 1))
        case measure => omega
        case rel =>
          refine ⟨kk + 1, by omega, by omega, by omega, by go_num, ⟨?_⟩, rfl⟩
          have := HK.out
          rw [HD.out, runL_cons, if_pos c1] at this
          omega
      · have hc : letB (s[kk].toNat : Int) = false := Bool.eq_false_iff.2 c1
        rw [hc] at hl
        have HN : Hid (kk = a + runL (s.data.toList.drop a)) := by
          show kk = _
          have := HK.out
          rw [HD.out, runL_cons, if_neg c1] at this
          omega
        by_cases hak2 : a < kk
        · have hd : decide (a < kk) = true := by simp [hak2]
          have hdz : (a : Int) < (kk : Int) := by omega
          have HV : Hid (wordF (s.data.toList.drop a) = some (1, (s.data.toList.drop a).take (kk - a), kk - a)) := by
            show _ = _
            have h1 : runL (s.data.toList.drop a) = kk - a := by have := HN.out; omega
            unfold wordF
            rw [h1, if_pos (by omega)]
          go_wp2_with (go_at_call 70; refine (hl _).mono ?_; rintro e w' ⟨rfl, rfl⟩)
          exact bodyPost_ret (v := .tuple #[.agg #[.int .i64 1, .int .i64 a, .string (s.extract a kk)], .int .i64 kk]) (by simp [results, Tryz.results41, go_sem]) rfl ⟨by
            rw [HV.out]
            show Ending.returned _ = Ending.returned _
            rw [extract_mk, show a + (kk - a) = kk by omega]
            rfl, (Below.refl _ _).alloc (Nat.le_refl _) _⟩
        · obtain rfl : kk = a := by omega
          have hd : decide (kk < kk) = false := by simp
          have h0 : ¬ 0 < runL (s.data.toList.drop kk) := by have := HN.out; omega
          by_cases c2 : s[kk].toNat = 34
          · have e2 : ((s[kk].toNat : Int) == 34) = true := by simp; omega
            have HT := fun W => text_calls s (kk + 1) (by omega) hs W
            have hfu : s.size - (kk + 1) + 1 = (s.data.toList.drop (kk + 1)).length + 1 := by rw [List.length_drop, ← Lib.size_eq]
            have HV : Hid (wordF (s.data.toList.drop kk) = (textF ((s.data.toList.drop (kk + 1)).length + 1) (s.data.toList.drop (kk + 1))).map fun p => (2, p.1, p.2 + 1)) := by
              show _ = _
              unfold wordF
              rw [if_neg h0, HD.out]
              simp only
              rw [if_pos (by rw [← UInt8.toNat_inj]; exact c2)]
            rw [hfu] at HT
            clear hfu c2 h0
            cases hT : textF ((s.data.toList.drop (kk + 1)).length + 1) (s.data.toList.drop (kk + 1)) with
            | none =>
              have HV2 : Hid (wordF (s.data.toList.drop kk) = none) := by show _ = none; rw [HV.out, hT]; rfl
              rw [hT] at HT
              clear hT
              replace HT : ∀ W, Calls Tryz.prog 71 #[.string s, .int .i64 ((kk + 1 : Nat) : Int)] W fun e w' => e = .returned (.tuple #[.string ⟨#[]⟩, .int .i64 (-1)]) ∧ Below W.heap.size W w' := HT
              rw [show ((kk + 1 : Nat) : Int) = (kk : Int) + 1 by omega] at HT
              go_wp2_with (go_at_call 70; refine (hl _).mono ?_; rintro e w' ⟨rfl, rfl⟩)
              refine (HT _).mono ?_
              rintro e w2 ⟨rfl, hb2⟩
              have hblk := (hb2.block w.heap.size (by simp)).trans (heap_alloc_new w _)
              have hc0 : w2.cell? ⟨w.heap.size, 0, none⟩ = some (.int .i64 0) := by simp [World.cell?, hblk]
              have hc1 : w2.cell? ⟨w.heap.size, 1, none⟩ = some (.int .i64 0) := by simp [World.cell?, hblk]
              have hc2 : w2.cell? ⟨w.heap.size, 2, none⟩ = some (.string ⟨#[]⟩) := by simp [World.cell?, hblk]
              have hf0 := blk_frozen hblk 0
              have hf1 := blk_frozen hblk 1
              have hf2 := blk_frozen hblk 2
              have HBlk := Lib.hid hblk
              have HB2 := Lib.hid hb2
              clear hblk hb2
              go_wp2
              have hs3 := three_set (.int .i64 2) (.int .i64 kk) (.string ⟨#[]⟩) HBlk.out
              have HB3 : Hid (Below w.heap.size w (((w2.setCell ⟨w.heap.size, 0, none⟩ (.int .i64 2)).setCell ⟨w.heap.size, 1, none⟩ (.int .i64 kk)).setCell ⟨w.heap.size, 2, none⟩ (.string ⟨#[]⟩))) :=
                ((((below_then ((Below.refl _ _).alloc (Nat.le_refl _) _) (by simp) HB2.out).setCell (Nat.le_refl _) _).setCell (Nat.le_refl _) _).setCell (Nat.le_refl _) _)
              generalize ((w2.setCell ⟨w.heap.size, 0, none⟩ (.int .i64 2)).setCell ⟨w.heap.size, 1, none⟩ (.int .i64 kk)).setCell ⟨w.heap.size, 2, none⟩ (.string ⟨#[]⟩) = w3 at hs3 HB3 ⊢
              have g0 := (blk_cell hs3 0).trans rfl
              have g1 := (blk_cell hs3 1).trans rfl
              have g2 := (blk_cell hs3 2).trans rfl
              exact bodyPost_ret (v := .tuple #[.agg #[.int .i64 2, .int .i64 kk, .string ⟨#[]⟩], .int .i64 (-1)]) (by simp [results, Tryz.results41, go_sem, g0, g1, g2]) rfl ⟨by
                rw [HV2.out]
                exact ⟨_, _, _, rfl⟩, HB3.out⟩
            | some p =>
              have HV2 : Hid (wordF (s.data.toList.drop kk) = some (2, p.1, p.2 + 1)) := by show _ = _; rw [HV.out, hT]; rfl
              rw [hT] at HT
              clear hT
              replace HT : ∀ W, Calls Tryz.prog 71 #[.string s, .int .i64 ((kk + 1 : Nat) : Int)] W fun e w' => e = .returned (.tuple #[.string (mk p.1), .int .i64 ((kk + 1 + p.2 : Nat) : Int)]) ∧ Below W.heap.size W w' := HT
              rw [show ((kk + 1 : Nat) : Int) = (kk : Int) + 1 by omega] at HT
              go_wp2_with (go_at_call 70; refine (hl _).mono ?_; rintro e w' ⟨rfl, rfl⟩)
              refine (HT _).mono ?_
              rintro e w2 ⟨rfl, hb2⟩
              have hblk := (hb2.block w.heap.size (by simp)).trans (heap_alloc_new w _)
              have hc0 : w2.cell? ⟨w.heap.size, 0, none⟩ = some (.int .i64 0) := by simp [World.cell?, hblk]
              have hc1 : w2.cell? ⟨w.heap.size, 1, none⟩ = some (.int .i64 0) := by simp [World.cell?, hblk]
              have hc2 : w2.cell? ⟨w.heap.size, 2, none⟩ = some (.string ⟨#[]⟩) := by simp [World.cell?, hblk]
              have hf0 := blk_frozen hblk 0
              have hf1 := blk_frozen hblk 1
              have hf2 := blk_frozen hblk 2
              have HBlk := Lib.hid hblk
              have HB2 := Lib.hid hb2
              clear hblk hb2
              go_wp2
              have hs3 := three_set (.int .i64 2) (.int .i64 kk) (.string (mk p.1)) HBlk.out
              have HB3 : Hid (Below w.heap.size w (((w2.setCell ⟨w.heap.size, 0, none⟩ (.int .i64 2)).setCell ⟨w.heap.size, 1, none⟩ (.int .i64 kk)).setCell ⟨w.heap.size, 2, none⟩ (.string (mk p.1)))) :=
                ((((below_then ((Below.refl _ _).alloc (Nat.le_refl _) _) (by simp) HB2.out).setCell (Nat.le_refl _) _).setCell (Nat.le_refl _) _).setCell (Nat.le_refl _) _)
              generalize ((w2.setCell ⟨w.heap.size, 0, none⟩ (.int .i64 2)).setCell ⟨w.heap.size, 1, none⟩ (.int .i64 kk)).setCell ⟨w.heap.size, 2, none⟩ (.string (mk p.1)) = w3 at hs3 HB3 ⊢
              have g0 := (blk_cell hs3 0).trans rfl
              have g1 := (blk_cell hs3 1).trans rfl
              have g2 := (blk_cell hs3 2).trans rfl
              exact bodyPost_ret (v := .tuple #[.agg #[.int .i64 2, .int .i64 kk, .string (mk p.1)], .int .i64 ((kk + 1 + p.2 : Nat) : Int)]) (by simp [results, Tryz.results41, go_sem, g0, g1, g2]) rfl ⟨by
                rw [HV2.out]
                show Ending.returned _ = Ending.returned _
                rw [show kk + (p.2 + 1) = kk + 1 + p.2 by omega]
                rfl, HB3.out⟩
          · have e2 : ((s[kk].toNat : Int) == 34) = false := by simp; omega
            have HW : Hid (wordF (s.data.toList.drop kk) = if punctB s[kk] then some (3, [s[kk]], 1) else none) := by
              show _ = _
              unfold wordF
              rw [if_neg h0, HD.out]
              simp only
              rw [if_neg (fun h => c2 (by rw [h]; rfl))]
            have hP := fun W => punct_calls s[kk] W
            have HPB : Hid (punctB s[kk] = decide (0 ≤ punctI s[kk])) := rfl
            generalize punctI s[kk] = i at hP HPB
            clear h0 c2
            by_cases hi : 0 ≤ i
            · have hid : decide (0 ≤ i) = true := by simp [hi]
              have HV : Hid (wordF (s.data.toList.drop kk) = some (3, [s[kk]], 1)) := by show _ = _; rw [HW.out, HPB.out, hid]; rfl
              go_wp2_with (first | (go_at_call 70; refine (hl _).mono ?_; rintro e w' ⟨rfl, rfl⟩) | (go_at_call 69; refine (hP _).mono ?_; rintro e w' ⟨rfl, rfl⟩))
              exact bodyPost_ret (v := .tuple #[.agg #[.int .i64 3, .int .i64 kk, .string (s.extract kk (kk + 1))], .int .i64 ((kk : Int) + 1)]) (by simp [results, Tryz.results41, go_sem]) rfl ⟨by
                rw [HV.out]
                show Ending.returned _ = Ending.returned _
                rw [extract_mk, show kk + 1 - kk = 1 by omega, HD.out]
                rfl, (Below.refl _ _).alloc (Nat.le_refl _) _⟩
            · have hid : decide (0 ≤ i) = false := by simp; omega
              have HV : Hid (wordF (s.data.toList.drop kk) = none) := by show _ = _; rw [HW.out, HPB.out, hid]; rfl
              go_wp2_with (first | (go_at_call 70; refine (hl _).mono ?_; rintro e w' ⟨rfl, rfl⟩) | (go_at_call 69; refine (hP _).mono ?_; rintro e w' ⟨rfl, rfl⟩))
              exact bodyPost_ret (v := .tuple #[.agg #[.int .i64 0, .int .i64 0, .string ⟨#[]⟩], .int .i64 (-1)]) (by simp [results, Tryz.results41, go_sem]) rfl ⟨by
                rw [HV.out]
                exact ⟨_, _, _, rfl⟩, (Below.refl _ _).alloc (Nat.le_refl _) _⟩
    · have hltz : ¬ (kk : Int) < (s.size : Int) := by omega
      have hak2 : a < kk := by omega
      have hd : decide (a < kk) = true := by simp [hak2]
      have hdz : (a : Int) < (kk : Int) := by omega
      have HV : Hid (wordF (s.data.toList.drop a) = some (1, (s.data.toList.drop a).take (kk - a), kk - a)) := by
        show _ = _
        have h2 := HK.out
        rw [List.drop_of_length_le (i := kk) (by rw [← Lib.size_eq]; omega)] at h2
        have h3 : runL [] = 0 := rfl
        have h1 : runL (s.data.toList.drop a) = kk - a := by omega
        unfold wordF
        rw [h1, if_pos (by omega)]
      go_wp2
      exact bodyPost_ret (v := .tuple #[.agg #[.int .i64 1, .int .i64 a, .string (s.extract a kk)], .int .i64 kk]) (by simp [results, Tryz.results41, go_sem]) rfl ⟨by
            rw [HV.out]
            show Ending.returned _ = Ending.returned _
            rw [extract_mk, show a + (kk - a) = kk by omega]
            rfl, (Below.refl _ _).alloc (Nat.le_refl _) _⟩

end Go.Proofs.YthagibkmfgodgaaGreatDoor.X

namespace Go.Proofs.YthagibkmfgodgaaGreatDoor.X
open Go.RowKit Go.Maps Go.Proofs.YthagibkmfgodgaaGreatDoorW.PrintWords Go.Proofs.YthagibkmfgodgaaGreatDoorW.PrintMore Go.Proofs.YthagibkmfgodgaaGreatDoorW.PrintLast

abbrev SWord := S34
/-- A text's words from a place on, or where it has none. -/
def lexL : Nat → Nat → Bytes → Except Nat (List SWord)
  | 0, p, _ => .error p
  | k + 1, p, l => if l = [] then .ok [] else match wordF l with
    | none => .error p
    | some q => (lexL k (p + q.2.2 + skipN false (l.drop q.2.2)) ((l.drop q.2.2).drop (skipN false (l.drop q.2.2)))).map (⟨(q.1 : Nat), (p : Nat), mk q.2.1⟩ :: ·)
def allF (s : Bytes) : Except Nat (List SWord) := (lexL (s.length + 1) (skipN false s) (s.drop (skipN false s))).map (· ++ [⟨4, (s.length : Nat), ⟨#[]⟩⟩])
def allR : Except Nat (List SWord) → List SWord × Int × Int
  | .ok l => (l, 0, 0)
  | .error p => ([], 1, (p : Nat))
theorem text_len : ∀ (k : Nat) (l : Bytes) (p : Bytes × Nat), textF k l = some p → p.2 ≤ l.length
  | 0, _, _, h => by cases h
  | k + 1, [], _, h => by cases h
  | k + 1, c :: r, p, h => by
    unfold textF at h
    split at h
    · cases h; simp
    · split at h
      · split at h
        · cases h
        · obtain ⟨q, hq, rfl⟩ := Option.map_eq_some_iff.1 h
          have h1 := text_len k _ q hq
          have h2 := (esc_take r).1
          rw [List.length_drop] at h1
          simp only [List.length_cons]
          omega
      · split at h
        · cases h
        · obtain ⟨q, hq, rfl⟩ := Option.map_eq_some_iff.1 h
          have h1 := text_len k _ q hq
          simp only [List.length_cons]
          omega
theorem word_pos {l : Bytes} {q : Nat × Bytes × Nat} (h : wordF l = some q) : 0 < q.2.2 ∧ q.2.2 ≤ l.length := by
  unfold wordF at h
  split at h
  · cases h
    exact ⟨by assumption, runL_le l⟩
  · split at h
    · cases h
    · split at h
      · obtain ⟨p, hp, rfl⟩ := Option.map_eq_some_iff.1 h
        have := text_len _ _ p hp
        simp only [List.length_cons]
        omega
      · split at h
        · cases h
          simp
        · cases h
theorem lexL_fuel : ∀ (k k' p : Nat) (l : Bytes), l.length < k → l.length < k' → lexL k p l = lexL k' p l
  | 0, _, _, l, h, _ => absurd h (Nat.not_lt_zero _)
  | _, 0, _, l, _, h => absurd h (Nat.not_lt_zero _)
  | k + 1, k' + 1, p, l, h, h' => by
    unfold lexL
    by_cases h0 : l = []
    · rw [if_pos h0, if_pos h0]
    · rw [if_neg h0, if_neg h0]
      cases hw : wordF l with
      | none => rfl
      | some q =>
        have := word_pos hw
        simp only
        rw [lexL_fuel k k' _ _ (by simp only [List.length_drop]; omega) (by simp only [List.length_drop]; omega)]
theorem infoW : (Tryz.prog.info? 34).map (fun i => (i.zero, i.size, i.bytes)) = some (some (.agg #[.int .i64 0, .int .i64 0, .string ⟨#[]⟩]), 3, 32) := by kernel_rfl
theorem two_set {w2 : World} {g t : Nat} {x0 x1 : Value} (y0 y1 : Value) (h : w2.heap[g]? = some (.cells #[x0, x1] t (0, 0))) :
    ((w2.setCell ⟨g, 0, none⟩ y0).setCell ⟨g, 1, none⟩ y1).heap[g]? = some (.cells #[y0, y1] t (0, 0)) :=
  blk_put (blk_put h 0 y0 rfl) 1 y1 rfl
/-- A row beside which two cells of another block are written. -/
theorem words_far {w4 : World} {B g : Nat} {v : Value} {l : List SWord} {x0 x1 : Value} {t : Nat} (y0 y1 : Value) (h : Kd.R k34 34 w4 B (fun _ => True) v l) (hb : w4.heap[g]? = some (.cells #[x0, x1] t (0, 0))) (ht : 34 ≠ t) :
    Kd.R k34 34 ((w4.setCell ⟨g, 0, none⟩ y0).setCell ⟨g, 1, none⟩ y1) B (fun _ => True) v l := by
  have hne : some g ≠ v.ownBlock := by
    obtain ⟨_, inner, hown, _⟩ := h
    exact own_ne hown hb ht
  have h1 := Kd.R_far (p := ⟨g, 0, none⟩) (Kd.R_tight rfl h) (fun k hk e => hne (by rw [← hk, e])) y0
  have h2 := Kd.R_far (p := ⟨g, 1, none⟩) h1 (fun k hk e => hne (by rw [← hk, e])) y1
  exact Kd.R_mono h2 (fun _ _ => trivial)
def IsAllR (r : List SWord × Int × Int) (w : World) (e : Ending) (w' : World) : Prop :=
  ∃ v0_ : Value, e = .returned (.tuple #[v0_, .agg #[.int .i64 r.2.1, .int .i64 r.2.2]]) ∧ Kd.R k34 34 w' w.heap.size (fun _ => True) v0_ r.1 ∧ Below w.heap.size w w'

set_option maxHeartbeats 4000000 in
set_option maxRecDepth 100000 in
theorem all_calls (s : ByteArray) (hs : s.size ≤ 100000) (w : World) :
    Calls Tryz.prog 18 #[.string s] w (IsAllR (allR (allF s.data.toList)) w) := by
  have hlen : s.data.toList.length = s.size := (Lib.size_eq s).symm
  generalize hT : allF s.data.toList = T
  have HT := Lib.hid hT
  have HLen := Lib.hid hlen
  have hS0 := fun W => skip_calls s 0 (by omega) (by omega) W
  have hsl := skipN_le false s.data.toList
  rw [List.drop_zero, Nat.zero_add] at hS0
  clear hT
  rw [hlen] at hsl
  generalize hk0 : skipN false s.data.toList = k0 at hS0 hsl
  have HK0 := Lib.hid hk0
  clear hk0 hlen
  go_enter Tryz.func18, Tryz.ntmps18
  go_wp2_with (go_at_call 40; refine (hS0 _).mono ?_; rintro e w' ⟨rfl, rfl⟩)
  go_loopg [4, 5, 6, 7] s.size (fun gg s4 s5 _ _ wr => ∃ (kk : Nat) (acc : List SWord), kk ≤ s.size ∧ s.size - kk ≤ gg ∧ s5 = .int .i64 kk ∧ acc.length ≤ kk ∧ Aside0 (((lexL (s.size - kk + 1) kk (s.data.toList.drop kk)).map (acc ++ ·)).map (· ++ [⟨4, (s.size : Nat), ⟨#[]⟩⟩]) = T) ∧
    Aside0 (Kd.R k34 34 wr w.heap.size (fun _ => True) s4 acc) ∧ Aside0 (Below w.heap.size w wr) ∧ Aside0 (wr.heap[w.heap.size]? = some (.cells #[.int .i64 0, .int .i64 0] 27 (0, 0))))
  case atStart =>
    refine ⟨k0, [], hsl, by omega, rfl, by simp, ⟨?_⟩, ⟨Kd.R_nil _ _ _ _ _⟩, ⟨(Below.refl _ _).alloc (Nat.le_refl _) _⟩, ⟨heap_alloc_new w _⟩⟩
    rw [← HT.out]
    unfold allF
    rw [HK0.out, HLen.out, lexL_fuel (s.size - k0 + 1) (s.size + 1) _ _ (by rw [List.length_drop, HLen.out]; omega) (by rw [List.length_drop, HLen.out]; omega)]
    cases lexL (s.size + 1) k0 (s.data.toList.drop k0) <;> simp [Except.map]
  case round =>
    obtain ⟨kk, acc, hkk, hgk, rfl, hacc, HK, HO, HB, HC⟩ := hrel
    by_cases hlt : kk < s.size
    · have hltz : (kk : Int) < (s.size : Int) := by omega
      have hW := fun W => word_calls s kk hlt hs W
      go_wp2_with fail
      refine (hW _).mono ?_
      rintro e w2 ⟨he, hb2⟩
      have hlt2 : w.heap.size < w2.heap.size := Nat.lt_of_lt_of_le (blk_lt HC.out) hb2.size
      have hblk := (hb2.block w.heap.size (blk_lt HC.out)).trans HC.out
      have HB2 := Lib.hid (below_then HB.out HB.out.size hb2)
      have HO2 := Lib.hid (Kd.R_below HO.out hb2)
      have hc0 : w2.cell? ⟨w.heap.size, 0, none⟩ = some (.int .i64 0) := (blk_cell hblk 0).trans rfl
      have hc1 : w2.cell? ⟨w.heap.size, 1, none⟩ = some (.int .i64 0) := (blk_cell hblk 1).trans rfl
      have hf0 := blk_frozen hblk 0
      have hf1 := blk_frozen hblk 1
      have HBlk := Lib.hid hblk
      have hK := HK.out
      rw [lexL, if_neg (fun h => by have := congrArg List.length h; rw [List.length_drop, HLen.out, List.length_nil] at this; omega)] at hK
      clear hb2 hblk
      cases hw : wordF (s.data.toList.drop kk) with
      | none =>
        rw [hw] at he hK
        obtain ⟨k9, a9, t9, rfl⟩ := he
        have HV : Hid (allR T = ([], 1, ((kk : Nat) : Int))) := by show _ = _; rw [← hK]; rfl
        clear hK hw
        go_wp2
        have hs2 := two_set (.int .i64 1) (.int .i64 kk) HBlk.out
        have hB5 : Below w.heap.size w ((w2.setCell ⟨w.heap.size, 0, none⟩ (.int .i64 1)).setCell ⟨w.heap.size, 1, none⟩ (.int .i64 kk)) := (HB2.out.setCell (Nat.le_refl _) _).setCell (Nat.le_refl _) _
        generalize (w2.setCell ⟨w.heap.size, 0, none⟩ (.int .i64 1)).setCell ⟨w.heap.size, 1, none⟩ (.int .i64 kk) = w5 at hs2 hB5 ⊢
        have hB6 := hB5.alloc hB5.size (.cells #[.int .i64 k9, .int .i64 a9, .string t9] 34)
        have hs3 := (Below.heap_alloc w5 (.cells #[.int .i64 k9, .int .i64 a9, .string t9] 34) w.heap.size (blk_lt hs2)).trans hs2
        generalize w5.alloc (.cells #[.int .i64 k9, .int .i64 a9, .string t9] 34) = w6 at hs3 hB6 ⊢
        have g0 := (blk_cell hs3 0).trans rfl
        have g1 := (blk_cell hs3 1).trans rfl
        exact bodyPost_ret (v := .tuple #[.slice none 0 0, .agg #[.int .i64 1, .int .i64 kk]]) (by simp [results, Tryz.results18, go_sem, g0, g1]) rfl (by
          rw [HV.out]
          exact ⟨_, rfl, Kd.R_nil _ _ _ _ _, hB6⟩)
      | some q =>
        rw [hw] at he hK
        obtain rfl := he
        have hqp := word_pos hw
        rw [List.length_drop, HLen.out] at hqp
        have hSk := fun W => skip_calls s (kk + q.2.2) (by omega) (by omega) W
        have hsk := skipN_le false (s.data.toList.drop (kk + q.2.2))
        rw [List.length_drop, HLen.out] at hsk
        dsimp only at hK
        simp only [List.drop_drop] at hK
        generalize hm : skipN false (s.data.toList.drop (kk + q.2.2)) = m at hSk hsk hK
        have HM := Lib.hid hm
        have hneg : decide ((kk : Int) + (q.2.2 : Int) < 0) = false := by simp; omega
        have hSk2 : ∀ W, Calls Tryz.prog 40 #[.string s, .int .i64 ((kk : Int) + (q.2.2 : Int))] W fun e w' => e = .returned (.int .i64 ((kk + q.2.2 + m : Nat) : Int)) ∧ W = w' := fun W => by
          have h := hSk W
          rwa [Int.natCast_add kk q.2.2] at h
        have HK3 := Lib.hid hK
        clear hK hw hm
        have HNE : Hid (some w.heap.size ≠ u4.ownBlock) := by
          obtain ⟨_, inner, hown, _⟩ := HO2.out
          exact own_ne hown HBlk.out (by decide)
        have HB3 := Lib.hid (HB2.out.alloc HB2.out.size (.cells #[.int .i64 (q.1 : Nat), .int .i64 (kk : Nat), .string (mk q.2.1)] 34))
        have HO3 := Lib.hid (Kd.R_alloc HO2.out (.cells #[.int .i64 (q.1 : Nat), .int .i64 (kk : Nat), .string (mk q.2.1)] 34))
        have HWB : Hid (w.heap.size ≤ (w2.alloc (.cells #[.int .i64 (q.1 : Nat), .int .i64 (kk : Nat), .string (mk q.2.1)] 34)).heap.size) := HB3.out.size
        have hal : acc.length ≤ 100000 := by omega
        have HBlk3 := Lib.hid ((Below.heap_alloc w2 (.cells #[.int .i64 (q.1 : Nat), .int .i64 (kk : Nat), .string (mk q.2.1)] 34) w.heap.size hlt2).trans HBlk.out)
        have hkn : kk + q.2.2 + m ≤ s.size := by omega
        have HKN : Hid (((lexL (s.size - (kk + q.2.2 + m) + 1) (kk + q.2.2 + m) (s.data.toList.drop (kk + q.2.2 + m))).map ((acc ++ [⟨(q.1 : Nat), (kk : Nat), mk q.2.1⟩]) ++ ·)).map (· ++ [⟨4, (s.size : Nat), ⟨#[]⟩⟩]) = T) := by
          show _ = T
          rw [← HK3.out, lexL_fuel (s.size - (kk + q.2.2 + m) + 1) (s.size - kk) _ _ (by rw [List.length_drop, HLen.out]; omega) (by rw [List.length_drop, HLen.out]; omega)]
          cases lexL (s.size - kk) (kk + q.2.2 + m) (s.data.toList.drop (kk + q.2.2 + m)) <;> simp [Except.map]
        clear hSk hsk
        go_wp2_with (first | ((with_reducible refine gate_builtin (b := .append) (xs := #[.tmp 24, .tmp 26]) rfl ?_); at_builtin; refine Kd.R_append k34 (w0 := w) w.heap.size rfl (.tmp 24) (.tmp 26) 24 34 (.agg #[.int .i64 0, .int .i64 0, .string ⟨#[]⟩]) 32 rfl Tryz.underlying24 infoW rfl (by decide) (by decide) u4 acc ⟨(q.1 : Nat), (kk : Nat), mk q.2.1⟩ [.int .i64 (q.1 : Nat), .int .i64 (kk : Nat), .string (mk q.2.1)] (fun _ => True) (fun k_ => True ∧ some k_ ≠ u4.ownBlock) rfl (by first | (go_simp; done) | (go_simp; rfl)) (k34_mkM _ _ _ ⟨(q.1 : Nat), (kk : Nat), mk q.2.1⟩) (fun _ hk => hk) (fun _ _ => trivial) HO3.out HB3.out HWB.out ?aL ?_; (case aL => omega); intro v1 w4 ho hb hg hat; have hblk := (hg.block w.heap.size (blk_lt HBlk3.out) HNE.out).trans HBlk3.out; have HO4 := Lib.hid ho; have HB4 := Lib.hid hb; have HBlk4 := Lib.hid hblk; clear ho hb hg hat hblk) | (go_at_call 40; refine (hSk2 _).mono ?_; rintro e w' ⟨rfl, rfl⟩))
        go_roundg (s.size - (kk + q.2.2 + m))
        case measure => omega
        case rel => exact ⟨kk + q.2.2 + m, acc ++ [⟨(q.1 : Nat), (kk : Nat), mk q.2.1⟩], hkn, by omega, by first | rfl | go_num, by simp; omega, ⟨HKN.out⟩, ⟨HO4.out⟩, ⟨HB4.out⟩, ⟨HBlk4.out⟩⟩
    · have hltz : ¬ (kk : Int) < (s.size : Int) := by omega
      have HWB := Lib.hid HB.out.size
      have HNE : Hid (some w.heap.size ≠ u4.ownBlock) := by
        obtain ⟨_, inner, hown, _⟩ := HO.out
        exact own_ne hown HC.out (by decide)
      have hal : acc.length ≤ 100000 := by omega
      have HV : Hid (allR T = (acc ++ [⟨4, (s.size : Nat), ⟨#[]⟩⟩], 0, 0)) := by
        show _ = _
        rw [← HK.out, List.drop_of_length_le (by rw [HLen.out]; omega)]
        unfold lexL
        simp [Except.map, allR]
      go_wp2_with (first | ((with_reducible refine gate_builtin (b := .append) (xs := #[.tmp 31, .tmp 35]) rfl ?_); at_builtin; refine Kd.R_append k34 (w0 := w) w.heap.size rfl (.tmp 31) (.tmp 35) 24 34 (.agg #[.int .i64 0, .int .i64 0, .string ⟨#[]⟩]) 32 rfl Tryz.underlying24 infoW rfl (by decide) (by decide) u4 acc ⟨4, (s.size : Nat), ⟨#[]⟩⟩ [.int .i64 4, .int .i64 (s.size : Nat), .string ⟨#[]⟩] (fun _ => True) (fun k_ => True ∧ some k_ ≠ u4.ownBlock) rfl rfl (k34_mkM _ _ _ ⟨4, (s.size : Nat), ⟨#[]⟩⟩) (fun _ hk => hk) (fun _ _ => trivial) HO.out HB.out HWB.out ?aL ?_; (case aL => omega); intro v1 w4 ho hb hg hat; have hblk := (hg.block w.heap.size (blk_lt HC.out) HNE.out).trans HC.out; have HO4 := Lib.hid ho; have HB4 := Lib.hid hb; have hc0 : w4.cell? ⟨w.heap.size, 0, none⟩ = some (.int .i64 0) := (blk_cell hblk 0).trans rfl; have hc1 : w4.cell? ⟨w.heap.size, 1, none⟩ = some (.int .i64 0) := (blk_cell hblk 1).trans rfl; have hf0 := blk_frozen hblk 0; have hf1 := blk_frozen hblk 1; have HBlk := Lib.hid hblk; clear ho hb hg hat hblk))
      have hs2 := two_set (.int .i64 0) (.int .i64 0) HBlk.out
      have hR5 := words_far (.int .i64 0) (.int .i64 0) HO4.out HBlk.out (by decide)
      have hB5 : Below w.heap.size w ((w4.setCell ⟨w.heap.size, 0, none⟩ (.int .i64 0)).setCell ⟨w.heap.size, 1, none⟩ (.int .i64 0)) := (HB4.out.setCell (Nat.le_refl _) _).setCell (Nat.le_refl _) _
      generalize (w4.setCell ⟨w.heap.size, 0, none⟩ (.int .i64 0)).setCell ⟨w.heap.size, 1, none⟩ (.int .i64 0) = w5 at hs2 hR5 hB5 ⊢
      have g0 := (blk_cell hs2 0).trans rfl
      have g1 := (blk_cell hs2 1).trans rfl
      exact bodyPost_ret (v := .tuple #[v1, .agg #[.int .i64 0, .int .i64 0]]) (by simp [results, Tryz.results18, go_sem, g0, g1]) rfl (by
        rw [HV.out]
        exact ⟨v1, rfl, hR5, hB5⟩)

end Go.Proofs.YthagibkmfgodgaaGreatDoor.X
