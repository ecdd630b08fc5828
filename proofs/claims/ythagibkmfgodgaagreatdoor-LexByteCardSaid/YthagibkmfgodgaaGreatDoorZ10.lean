/-
  words, walked by hand: the same words twice.
  The reference's lexer, walked by hand: str.
  The reference's lexer, walked by hand: All, over the same words.
-/
import Derived.BigQuiet
import Derived.Deep.RegionWith
import Derived.IntWalk
import Derived.Test.YthagibkmfgodgaaGreatDoorZ9
import Derived.Test.YthagibkmfgodgaaGreatDoorZ4
import Derived.Test.YthagibkmfgodgaaGreatDoorZ6
import Derived.Test.YthagibkmfgodgaaGreatDoorZ8
namespace Go.Proofs.YthagibkmfgodgaaGreatDoor.X
open Go.RowKit Go.Maps Go.Proofs.YthagibkmfgodgaaGreatDoorW.PrintWords Go.Proofs.YthagibkmfgodgaaGreatDoorW.PrintMore Go.Proofs.YthagibkmfgodgaaGreatDoorW.PrintLast
theorem bdw {B : Nat} {w W : World} (h : Below B w W) (n : Nat) : Below B w (W.drewN n) := by
  induction n with
  | zero => exact h
  | succ n ih => exact below_drew ih

set_option maxHeartbeats 4000000 in
theorem words_same (A B : Option Addr) (c d : Nat) (l : List SWord) (w : World) (ha : Kd.C k34 w A l.length l) (hb : Kd.C k34 w B l.length l) :
    Calls Tryz.prog 20 #[.slice A l.length c, .slice B l.length d] w fun e w' => e = .returned (.bool true) ∧ Below w.heap.size w w' := by
  have hlm : l.length ≤ 9223372036854775807 := ha.2.1
  have HA := Lib.hid ha
  have HB := Lib.hid hb
  clear ha hb
  go_enter Tryz.func20, Tryz.ntmps20
  go_wp2_with fail
  go_loopg [5] l.length (fun gg s5 wr => ∃ kk : Nat, kk ≤ l.length ∧ l.length - kk ≤ gg ∧ s5 = .int .i64 kk ∧ Aside0 (Below w.heap.size w wr))
  case atStart => exact ⟨0, Nat.zero_le _, by omega, rfl, ⟨Below.refl _ _⟩⟩
  case round =>
    obtain ⟨kk, hkk, hgk, rfl, HW⟩ := hrel
    by_cases hlt : kk < l.length
    · have hltz : (kk : Int) < (l.length : Int) := by omega
      obtain ⟨ad, e1, p0, p1, p2⟩ := at_T34 (Kd.C_below HA.out HW.out) (kk : Int) (by omega) hltz
      obtain ⟨bd, e2, q0, q1, q2⟩ := at_T34 (Kd.C_below HB.out HW.out) (kk : Int) (by omega) hltz
      subst e1 e2
      rw [Int.toNat_natCast] at p0 p1 p2 q0 q1 q2
      generalize (rd_T34 l (kk : Int)).f0 = y0 at p0 q0
      generalize (rd_T34 l (kk : Int)).f1 = y1 at p1 q1
      generalize (rd_T34 l (kk : Int)).f2 = y2 at p2 q2
      go_wp2_with fail
      go_quiet (fail)
      go_wp2_with fail
      go_roundg (l.length - (kk + 1))
      case measure => omega
      case rel => exact ⟨kk + 1, by omega, by omega, by go_num, ⟨bdw HW.out _⟩⟩
    · have hltz : ¬ (kk : Int) < (l.length : Int) := by omega
      go_wp2
      go_ret
      exact ⟨rfl, HW.out⟩

end Go.Proofs.YthagibkmfgodgaaGreatDoor.X

namespace Go.Proofs.YthagibkmfgodgaaGreatDoor.X
open Go.RowKit Go.Maps Go.Proofs.YthagibkmfgodgaaGreatDoorW.PrintWords Go.Proofs.YthagibkmfgodgaaGreatDoorW.PrintMore Go.Proofs.YthagibkmfgodgaaGreatDoorW.PrintLast

def sigB (c : Int) : Bool := (97 ≤ c && c ≤ 122) || (65 ≤ c && c ≤ 90) || (48 ≤ c && c ≤ 57) || c == 46 || c == 95 || c == 45
set_option maxHeartbeats 1000000 in
theorem sign_calls (c : Int) (w : World) :
    Calls Tryz.prog 42 #[.int .u8 c] w fun e w' => e = .returned (.bool (sigB c)) ∧ w = w' := by
  go_enter Tryz.func42, Tryz.ntmps42
  go_wp2
  all_goals
    go_ret
    exact ⟨ret_bool (by unfold sigB; rw [Bool.eq_iff_iff]; simp <;> omega), rfl⟩
theorem hexV_tells : ∀ c : Nat, c < 256 → hexV (UInt8.ofNat c) = if 48 ≤ c ∧ c ≤ 57 then (c : Int) - 48 else if 97 ≤ c ∧ c ≤ 102 then (c : Int) - 87 else -1 := by decide +kernel
set_option maxHeartbeats 1000000 in
theorem hex_calls (c : UInt8) (w : World) :
    Calls Tryz.prog 72 #[.int .u8 c.toNat] w fun e w' => e = .returned (.int .i64 (hexV c)) ∧ w = w' := by
  have hT := hexV_tells c.toNat (UInt8.toNat_lt _)
  rw [show UInt8.ofNat c.toNat = c by simp] at hT
  have HT := Lib.hid hT
  have hlt := UInt8.toNat_lt c
  clear hT
  go_enter Tryz.func72, Tryz.ntmps72
  go_wp2
  all_goals
    go_ret
    refine ⟨ret_int ?_, rfl⟩
    rw [HT.out]
    first | (rw [if_pos (by omega)]; done) | (rw [if_pos (by omega)]; omega) | (rw [if_neg (by omega), if_pos (by omega)]; omega) | (rw [if_neg (by omega), if_neg (by omega)]; done) | (rw [if_neg (by omega), if_neg (by omega)]; omega)

end Go.Proofs.YthagibkmfgodgaaGreatDoor.X

namespace Go.Proofs.YthagibkmfgodgaaGreatDoor.X
open Go.RowKit Go.Maps Go.Proofs.YthagibkmfgodgaaGreatDoorW.PrintWords Go.Proofs.YthagibkmfgodgaaGreatDoorW.PrintMore Go.Proofs.YthagibkmfgodgaaGreatDoorW.PrintLast

def strR (o : Option (Bytes × Nat)) : Value := match o with
  | some p => .tuple #[.string (mk p.1), .int .i64 (p.2 : Nat), .bool true]
  | none => .tuple #[.string ⟨#[]⟩, .int .i64 0, .bool false]
theorem drop_at (s : ByteArray) (k : Nat) (h : k < s.size) : s.data.toList.drop k = s[k] :: s.data.toList.drop (k + 1) := by
  rw [List.drop_eq_getElem_cons (by rw [← Lib.size_eq]; exact h)]
  rfl
theorem byte_iff (c : UInt8) (m : Nat) (k : UInt8) (hk : k.toNat = m) : c = k ↔ c.toNat = m := by rw [← UInt8.toNat_inj, hk]
theorem one_byte (W : World) (v : Int) : (convert 38 9 (.slice (some ⟨W.heap.size, 0, none⟩) 1 1)).run Tryz.prog ((W.alloc (.cells #[.int .u8 v] 5)).drew) = .ok (.string (mk [UInt8.ofNat v.toNat])) ((W.alloc (.cells #[.int .u8 v] 5)).drew) := by
  have h : ReadsInt ((W.alloc (.cells #[.int .u8 v] 5)).drew) .u8 (some ⟨W.heap.size, 0, none⟩) 1 [v] := by
    refine ⟨rfl, by decide, fun _ => ⟨_, rfl, fun j hj => ?_⟩⟩
    obtain rfl : j = 0 := by omega
    rw [add_plain]
    show (W.alloc (.cells #[.int .u8 v] 5)).cell? ⟨W.heap.size, 0, none⟩ = some (.int .u8 v)
    exact (blk_cell (heap_alloc_new W (.cells #[.int .u8 v] 5)) 0).trans rfl
  exact string_of_reads Tryz.underlying38 Tryz.underlying5 Tryz.underlying9 h

set_option maxHeartbeats 4000000 in
set_option maxRecDepth 100000 in
theorem str_calls (s : ByteArray) (a : Nat) (ha : a ≤ s.size) (hs : s.size ≤ 100000) (w : World) :
    Calls Tryz.prog 43 #[.string s, .int .i64 a] w fun e w' => e = .returned (strR ((textF (s.size - a + 1) (s.data.toList.drop a)).map fun p => (p.1, a + p.2))) ∧ Below w.heap.size w w' := by
  generalize hT : ((textF (s.size - a + 1) (s.data.toList.drop a)).map fun p => (p.1, a + p.2)) = T
  have HT := Lib.hid hT
  clear hT
  go_enter Tryz.func43, Tryz.ntmps43
  go_wp2_with fail
  go_loopg [7, 8, 9] s.size (fun gg s7 s8 _ wr => ∃ (kk : Nat) (acc : Bytes), kk ≤ s.size ∧ s.size - kk ≤ gg ∧ s7 = .string (mk acc) ∧ s8 = .int .i64 kk ∧ acc.length ≤ kk ∧ Aside0 ((textF (s.size - kk + 1) (s.data.toList.drop kk)).map (fun p => (acc ++ p.1, kk + p.2)) = T) ∧ Aside0 (Below w.heap.size w wr))
  case atStart => exact ⟨a, [], ha, by omega, rfl, rfl, by simp, ⟨by simpa using HT.out⟩, ⟨Below.refl _ _⟩⟩
  case round =>
    obtain ⟨kk, acc, hkk, hgk, rfl, rfl, hacc, HK, HB⟩ := hrel
    by_cases hlt : kk < s.size
    · have hltz : (kk : Int) < (s.size : Int) := by omega
      have hK := HK.out
      rw [drop_at s kk hlt, textF] at hK
      have HK2 := Lib.hid hK
      have H34 := Lib.hid (byte_iff s[kk] 34 34 rfl)
      have H92 := Lib.hid (byte_iff s[kk] 92 92 rfl)
      have hms : (mk acc).size = acc.length := mk_size acc
      have HMS := Lib.hid hms
      clear hK hms
      by_cases c1 : s[kk].toNat = 34
      · have e1 : ((s[kk].toNat : Int) == 34) = true := by simp; omega
        have HV : Hid (T = some (acc, kk + 1)) := by
          show T = _
          rw [← HK2.out, if_pos (H34.out.2 c1)]
          simp
        clear c1
        go_wp2
        go_ret3
        exact ⟨by rw [HV.out]; rfl, HB.out⟩
      have e1 : ((s[kk].toNat : Int) == 34) = false := by simp; omega
      have HN34 : Hid (s[kk] ≠ 34) := fun h => c1 (H34.out.1 h)
      clear c1
      by_cases c3 : s[kk].toNat < 32 ∨ 126 < s[kk].toNat
      · have c2 : s[kk].toNat ≠ 92 := by omega
        have HV : Hid (T = none) := by
          show T = none
          rw [← HK2.out, if_neg HN34.out, if_neg (fun h => c2 (H92.out.1 h)), if_pos c3]
          rfl
        by_cases c4 : s[kk].toNat < 32
        · have e4 : decide ((s[kk].toNat : Int) < 32) = true := by simp; omega
          clear c3 c4 c2
          go_wp2
          go_ret3
          exact ⟨by rw [HV.out]; rfl, HB.out⟩
        · have e4 : decide ((s[kk].toNat : Int) < 32) = false := by simp; omega
          have e5 : decide (126 < (s[kk].toNat : Int)) = true := by simp; omega
          clear c3 c4 c2
          go_wp2
          go_ret3
          exact ⟨by rw [HV.out]; rfl, HB.out⟩
      have e4 : decide ((s[kk].toNat : Int) < 32) = false := by simp; omega
      have e5 : decide (126 < (s[kk].toNat : Int)) = false := by simp; omega
      by_cases c2 : s[kk].toNat ≠ 92
      · have e2 : ((s[kk].toNat : Int) != 92) = true := by simp; omega
        have HV2 : Hid (Option.map (fun p => (acc ++ [s[kk]] ++ p.1, (kk + 1) + p.2)) (textF (s.size - (kk + 1) + 1) (s.data.toList.drop (kk + 1))) = T) := by
          show _ = T
          rw [← HK2.out, if_neg HN34.out, if_neg (fun h => c2 (H92.out.1 h)), if_neg c3, show s.size - (kk + 1) + 1 = s.size - kk by omega, Option.map_map]
          congr 1
          funext p
          simp only [Function.comp, List.append_assoc, List.cons_append, List.nil_append, Prod.mk.injEq, true_and]
          omega
        have hx : s.extract kk (kk + 1) = mk [s[kk]] := by rw [extract_mk, show kk + 1 - kk = 1 by omega, drop_at s kk hlt]; rfl
        have HX := Lib.hid hx
        have hov : ¬ 9223372036854775807 < (mk acc).size + (min (kk + 1) s.size - kk) := by rw [HMS.out]; omega
        clear c3 c2 hx
        go_wp2
        go_roundg (s.size - (kk + 1))
        case measure => omega
        case rel => exact ⟨kk + 1, acc ++ [s[kk]], by omega, by omega, by rw [HX.out, mk_append], by go_num, by simp; omega, ⟨HV2.out⟩, ⟨HB.out⟩⟩
      · have c2' : s[kk].toNat = 92 := by omega
        have e2 : ((s[kk].toNat : Int) != 92) = false := by simp; omega
        have HV : Hid (T = Option.map (fun p => (acc ++ p.1, kk + p.2)) (if (escF (s.data.toList.drop (kk + 1))).2 = 0 then none else (textF (s.size - kk) ((s.data.toList.drop (kk + 1)).drop (escF (s.data.toList.drop (kk + 1))).2)).map fun p => (UInt8.ofNat (escF (s.data.toList.drop (kk + 1))).1 :: p.1, p.2 + (escF (s.data.toList.drop (kk + 1))).2 + 1))) := by
          show T = _
          rw [← HK2.out, if_neg HN34.out, if_pos (H92.out.2 c2')]
        clear c2 c2' c3 HK2
        by_cases hl1 : kk + 1 < s.size
        · have hl1z : (kk : Int) + 1 < (s.size : Int) := by omega
          have d1 : decide ((s.size : Int) ≤ (kk : Int) + 1) = false := by simp; omega
          have HD := Lib.hid (drop_at s (kk + 1) hl1)
          -- one more of textF behind what stands for x in n bytes
          have next : ∀ (x : Nat) (n : Nat), escF (s.data.toList.drop (kk + 1)) = (x, n) → 0 < n → kk + 1 + n ≤ s.size → Option.map (fun p => (acc ++ [UInt8.ofNat x] ++ p.1, (kk + n + 1) + p.2)) (textF (s.size - (kk + n + 1) + 1) (s.data.toList.drop (kk + n + 1))) = T := by
            intro x n he hn hle
            rw [HV.out, he]
            simp only
            rw [if_neg (by omega), List.drop_drop, textF_fuel (s.size - kk) (s.size - (kk + n + 1) + 1) _ (by rw [List.length_drop, ← Lib.size_eq]; omega) (by rw [List.length_drop, ← Lib.size_eq]; omega), show kk + 1 + n = kk + n + 1 by omega, Option.map_map]
            congr 1
            funext p
            simp only [Function.comp, List.append_assoc, List.cons_append, List.nil_append, Prod.mk.injEq, true_and]
            omega
          have NX := Lib.hid next
          have hov1 : ¬ 9223372036854775807 < (mk acc).size + 1 := by rw [HMS.out]; omega
          have hov2 : ¬ 9223372036854775807 < (mk acc).size + (min (kk + 1 + 1) s.size - (kk + 1)) := by rw [HMS.out]; omega
          have J110 := Lib.hid (byte_iff s[kk + 1] 110 110 rfl)
          have J116 := Lib.hid (byte_iff s[kk + 1] 116 116 rfl)
          have J92 := Lib.hid (byte_iff s[kk + 1] 92 92 rfl)
          have J34 := Lib.hid (byte_iff s[kk + 1] 34 34 rfl)
          have J120 := Lib.hid (byte_iff s[kk + 1] 120 120 rfl)
          clear next
          by_cases f1 : s[kk + 1].toNat = 110
          · have g1 : ((s[kk + 1].toNat : Int) == 110) = true := by simp; omega
            have HE : Hid (escF (s.data.toList.drop (kk + 1)) = (10, 1)) := by show _ = _; rw [HD.out, escF, if_pos (J110.out.2 f1)]
            clear f1
            go_wp2
            go_roundg (s.size - (kk + 2))
            case measure => omega
            case rel => exact ⟨kk + 2, acc ++ [10], by omega, by omega, by rw [← mk_append]; rfl, by go_num, by simp; omega, ⟨NX.out 10 1 HE.out (by omega) (by omega)⟩, ⟨HB.out⟩⟩
          have g1 : ((s[kk + 1].toNat : Int) == 110) = false := by simp; omega
          by_cases f2 : s[kk + 1].toNat = 116
          · have g2 : ((s[kk + 1].toNat : Int) == 116) = true := by simp; omega
            have HE : Hid (escF (s.data.toList.drop (kk + 1)) = (9, 1)) := by show _ = _; rw [HD.out, escF, if_neg (fun h => f1 (J110.out.1 h)), if_pos (J116.out.2 f2)]
            clear f1 f2
            go_wp2
            go_roundg (s.size - (kk + 2))
            case measure => omega
            case rel => exact ⟨kk + 2, acc ++ [9], by omega, by omega, by rw [← mk_append]; rfl, by go_num, by simp; omega, ⟨NX.out 9 1 HE.out (by omega) (by omega)⟩, ⟨HB.out⟩⟩
          have g2 : ((s[kk + 1].toNat : Int) == 116) = false := by simp; omega
          have hx1 : s.extract (kk + 1) (kk + 1 + 1) = mk [s[kk + 1]] := by rw [extract_mk, show kk + 1 + 1 - (kk + 1) = 1 by omega, HD.out]; rfl
          have HX1 := Lib.hid hx1
          clear hx1
          by_cases f3 : s[kk + 1].toNat = 92 ∨ s[kk + 1].toNat = 34
          · have HE : Hid (escF (s.data.toList.drop (kk + 1)) = (s[kk + 1].toNat, 1)) := by show _ = _; rw [HD.out, escF, if_neg (fun h => f1 (J110.out.1 h)), if_neg (fun h => f2 (J116.out.1 h)), if_pos (f3.imp J92.out.2 J34.out.2)]
            have HN : Hid (Option.map (fun p => (acc ++ [s[kk + 1]] ++ p.1, (kk + 1 + 1) + p.2)) (textF (s.size - (kk + 1 + 1) + 1) (s.data.toList.drop (kk + 1 + 1))) = T) := by
              have h := NX.out _ 1 HE.out (by omega) (by omega)
              rw [show UInt8.ofNat s[kk + 1].toNat = s[kk + 1] by simp] at h
              exact h
            by_cases f4 : s[kk + 1].toNat = 92
            · have g4 : ((s[kk + 1].toNat : Int) == 92) = true := by simp; omega
              clear f1 f2 f3 f4
              go_wp2
              go_roundg (s.size - (kk + 2))
              case measure => omega
              case rel => exact ⟨kk + 2, acc ++ [s[kk + 1]], by omega, by omega, by rw [← mk_append, ← HX1.out], by go_num, by simp; omega, ⟨HN.out⟩, ⟨HB.out⟩⟩
            · have g4 : ((s[kk + 1].toNat : Int) == 92) = false := by simp; omega
              have g5 : ((s[kk + 1].toNat : Int) == 34) = true := by simp; omega
              clear f1 f2 f3 f4
              go_wp2
              go_roundg (s.size - (kk + 2))
              case measure => omega
              case rel => exact ⟨kk + 2, acc ++ [s[kk + 1]], by omega, by omega, by rw [← mk_append, ← HX1.out], by go_num, by simp; omega, ⟨HN.out⟩, ⟨HB.out⟩⟩
          have g4 : ((s[kk + 1].toNat : Int) == 92) = false := by simp; omega
          have g5 : ((s[kk + 1].toNat : Int) == 34) = false := by simp; omega
          have HR : Hid (escF (s.data.toList.drop (kk + 1)) = if s[kk + 1] = 120 then hexF (s.data.toList.drop (kk + 1 + 1)) else (0, 0)) := by
            show _ = _
            rw [HD.out, escF, if_neg (fun h => f1 (J110.out.1 h)), if_neg (fun h => f2 (J116.out.1 h)), if_neg (fun h => f3 (h.imp J92.out.1 J34.out.1))]
          clear f1 f2 f3
          by_cases f6 : s[kk + 1].toNat = 120
          · have g6 : ((s[kk + 1].toNat : Int) == 120) = true := by simp; omega
            have H6 : Hid (s[kk + 1] = 120) := J120.out.2 f6
            clear f6
            by_cases h3 : kk + 3 < s.size
            · have d3 : decide ((s.size : Int) ≤ (kk : Int) + 1 + 2) = false := by simp; omega
              have d3b : decide ((s.size : Int) ≤ (kk : Int) + 3) = false := by simp; omega
              have h2 : kk + 2 < s.size := by omega
              have HE : Hid (escF (s.data.toList.drop (kk + 1)) = if 0 ≤ hexV s[kk + 2] ∧ 0 ≤ hexV s[kk + 3] then ((16 * hexV s[kk + 2] + hexV s[kk + 3]).toNat, 3) else (0, 0)) := by
                show _ = _
                rw [HR.out, if_pos H6.out, drop_at s (kk + 2) h2, drop_at s (kk + 3) h3]
                rfl
              have r1 := hexV_range s[kk + 2].toNat (UInt8.toNat_lt _)
              have r2 := hexV_range s[kk + 3].toNat (UInt8.toNat_lt _)
              rw [show UInt8.ofNat s[kk + 2].toNat = s[kk + 2] by simp] at r1
              rw [show UInt8.ofNat s[kk + 3].toNat = s[kk + 3] by simp] at r2
              have hi1 := fun W => hex_calls s[kk + 2] W
              have hi2 := fun W => hex_calls s[kk + 3] W
              obtain ⟨x1, hx1⟩ : ∃ x, x = hexV s[kk + 2] := ⟨_, rfl⟩
              obtain ⟨x2, hx2⟩ : ∃ x, x = hexV s[kk + 3] := ⟨_, rfl⟩
              rw [← hx1] at HE r1 hi1
              rw [← hx2] at HE r2 hi2
              clear hx1 hx2
              by_cases b1 : 0 ≤ x1
              · by_cases b2 : 0 ≤ x2
                · have q1 : decide (x1 < 0) = false := by simp; omega
                  have q2 : decide (x2 < 0) = false := by simp; omega
                  go_wp2_with (first | (go_at_call 72; (with_reducible refine (hi1 _).mono ?_); rintro e w' ⟨rfl, rfl⟩) | (go_at_call 72; (with_reducible refine (hi2 _).mono ?_); rintro e w' ⟨rfl, rfl⟩))
                  have w1 : IntKind.i64.wrap ((kk : Int) + 1 + 1) = (kk : Int) + 1 + 1 := IntWalk.i64_in _ (by omega)
                  have w2 : IntKind.i64.wrap ((kk : Int) + 1 + 2) = (kk : Int) + 1 + 2 := IntWalk.i64_in _ (by omega)
                  have w3 : IntKind.i64.wrap (x1 * 16) = x1 * 16 := IntWalk.i64_in _ (by omega)
                  have w4 : IntKind.i64.wrap (x1 * 16 + x2) = x1 * 16 + x2 := IntWalk.i64_in _ (by omega)
                  have t1 : ((kk : Int) + 1 + 1).toNat = kk + 2 := by omega
                  have t2 : ((kk : Int) + 1 + 2).toNat = kk + 3 := by omega
                  have wu : IntKind.u8.wrap (x1 * 16 + x2) = x1 * 16 + x2 := by rw [show x1 * 16 + x2 = (((x1 * 16 + x2).toNat : Nat) : Int) by omega]; simp [IntKind.wrap, IntKind.bits, IntKind.signed]; omega
                  have hcv := one_byte wr (x1 * 16 + x2)
                  have htt : (mk [UInt8.ofNat (x1 * 16 + x2).toNat]).size = 1 := mk_size _
                  have HTT : Hid (mk [UInt8.ofNat (x1 * 16 + x2).toNat] = mk [UInt8.ofNat (x1 * 16 + x2).toNat]) := rfl
                  obtain ⟨tt, htt2⟩ : ∃ tt, tt = mk [UInt8.ofNat (x1 * 16 + x2).toNat] := ⟨_, rfl⟩
                  rw [← htt2] at hcv htt
                  have hov3 : ¬ 9223372036854775807 < (mk acc).size + tt.size := by rw [HMS.out, htt]; omega
                  have HT2 := Lib.hid htt2
                  clear htt2 htt HTT
                  go_region_with ((go_at_call 72; first | ((with_reducible refine (hi1 _).mono ?_); rintro e w' ⟨rfl, rfl⟩) | ((with_reducible refine (hi2 _).mono ?_); rintro e w' ⟨rfl, rfl⟩)))
                  all_goals
                    clear w1 w2 w3 w4 wu hcv
                    have HN : Hid (Option.map (fun p => (acc ++ [UInt8.ofNat (x1 * 16 + x2).toNat] ++ p.1, (kk + 4) + p.2)) (textF (s.size - (kk + 4) + 1) (s.data.toList.drop (kk + 4))) = T) := by
                      have h := NX.out _ 3 (HE.out.trans (if_pos ⟨b1, b2⟩)) (by omega) (by omega)
                      rw [show 16 * x1 + x2 = x1 * 16 + x2 by omega] at h
                      exact h
                    have HB9 : Hid (Below w.heap.size w (wr.alloc (.cells #[.int .u8 (x1 * 16 + x2)] 5)).drew) := (HB.out.alloc HB.out.size _).drew
                    go_wp2
                    go_roundg (s.size - (kk + 4))
                    case measure => omega
                    case rel => exact ⟨kk + 4, acc ++ [UInt8.ofNat (x1 * 16 + x2).toNat], by omega, by omega, by rw [HT2.out, mk_append], by go_num, by simp; omega, ⟨HN.out⟩, ⟨HB9.out⟩⟩
                · have q1 : decide (x1 < 0) = false := by simp; omega
                  have q2 : decide (x2 < 0) = true := by simp; omega
                  have HV2 : Hid (T = none) := by
                    show T = none
                    rw [HV.out, HE.out.trans (if_neg (fun h => b2 h.2))]
                    rfl
                  go_wp2_with (first | (go_at_call 72; (with_reducible refine (hi1 _).mono ?_); rintro e w' ⟨rfl, rfl⟩) | (go_at_call 72; (with_reducible refine (hi2 _).mono ?_); rintro e w' ⟨rfl, rfl⟩))
                  go_ret3
                  exact ⟨by rw [HV2.out]; rfl, HB.out⟩
              · have q1 : decide (x1 < 0) = true := by simp; omega
                have HV2 : Hid (T = none) := by
                  show T = none
                  rw [HV.out, HE.out.trans (if_neg (fun h => b1 h.1))]
                  rfl
                go_wp2_with (go_at_call 72; (with_reducible refine (hi1 _).mono ?_); rintro e w' ⟨rfl, rfl⟩)
                go_ret3
                exact ⟨by rw [HV2.out]; rfl, HB.out⟩
            · have d3 : decide ((s.size : Int) ≤ (kk : Int) + 1 + 2) = true := by simp; omega
              have d3b : decide ((s.size : Int) ≤ (kk : Int) + 3) = true := by simp; omega
              have HV2 : Hid (T = none) := by
                show T = none
                have hlen : (s.data.toList.drop (kk + 1 + 1)).length < 2 := by rw [List.length_drop, ← Lib.size_eq]; omega
                rw [HV.out, HR.out, if_pos H6.out]
                have hh : hexF (s.data.toList.drop (kk + 1 + 1)) = (0, 0) := by
                  match hm : s.data.toList.drop (kk + 1 + 1) with
                  | [] => rfl
                  | [_] => rfl
                  | _ :: _ :: _ => rw [hm] at hlen; simp at hlen; omega
                rw [hh]
                rfl
              go_wp2
              go_ret3
              exact ⟨by rw [HV2.out]; rfl, HB.out⟩
          · have g6 : ((s[kk + 1].toNat : Int) == 120) = false := by simp; omega
            have HV2 : Hid (T = none) := by
              show T = none
              rw [HV.out, HR.out, if_neg (fun h => f6 (J120.out.1 h))]
              rfl
            clear f6
            go_wp2
            go_ret3
            exact ⟨by rw [HV2.out]; rfl, HB.out⟩
        · have d1 : decide ((s.size : Int) ≤ (kk : Int) + 1) = true := by simp; omega
          have HV2 : Hid (T = none) := by
            show T = none
            rw [HV.out, List.drop_of_length_le (i := kk + 1) (by rw [← Lib.size_eq]; omega)]
            rfl
          go_wp2
          go_ret3
          exact ⟨by rw [HV2.out]; rfl, HB.out⟩
    · have hltz : ¬ (kk : Int) < (s.size : Int) := by omega
      have HN : Hid (T = none) := by
        show T = none
        rw [← HK.out, List.drop_of_length_le (by rw [← Lib.size_eq]; omega)]
        rfl
      go_wp2
      go_ret3
      exact ⟨by rw [HN.out]; rfl, HB.out⟩

end Go.Proofs.YthagibkmfgodgaaGreatDoor.X

namespace Go.Proofs.YthagibkmfgodgaaGreatDoor.X
open Go.RowKit Go.Maps Go.Proofs.YthagibkmfgodgaaGreatDoorW.PrintWords Go.Proofs.YthagibkmfgodgaaGreatDoorW.PrintMore Go.Proofs.YthagibkmfgodgaaGreatDoorW.PrintLast

theorem let_sig (c : Int) : letB c = (sigB c || c == 47) := rfl
/-- What is left to do at a place (b: within a remark). -/
def AtW (L : Bytes) (T : Except Nat (List SWord)) (b : Bool) (kk : Nat) (acc : List SWord) : Prop :=
  ((lexM b (L.drop kk) kk).map (acc ++ ·)).map (· ++ [⟨4, (L.length : Nat), ⟨#[]⟩⟩]) = T
variable {L : Bytes} {T : Except Nat (List SWord)} {kk : Nat} {acc : List SWord}
theorem atW_start : AtW L (allF L) false 0 [] := by
  unfold AtW
  rw [allF_lexM, List.drop_zero]
  cases lexM false L 0 <;> simp [Except.map]
theorem atW_blank {c : UInt8} (hd : L.drop kk = c :: L.drop (kk + 1)) (hc : blankB c = true) (h : AtW L T false kk acc) : AtW L T false (kk + 1) acc := by
  unfold AtW at h ⊢
  rwa [hd, lexM_blank hc] at h
theorem atW_hash (hd : L.drop kk = 35 :: L.drop (kk + 1)) (h : AtW L T false kk acc) : AtW L T true (kk + 1) acc := by
  unfold AtW at h ⊢
  rwa [hd, lexM_hash] at h
theorem atW_com {c : UInt8} (hd : L.drop kk = c :: L.drop (kk + 1)) (hc : c ≠ 10) (h : AtW L T true kk acc) : AtW L T true (kk + 1) acc := by
  unfold AtW at h ⊢
  rwa [hd, lexM_com hc] at h
theorem atW_nl (hd : L.drop kk = 10 :: L.drop (kk + 1)) (h : AtW L T true kk acc) : AtW L T false kk acc := by
  unfold AtW at h ⊢
  rwa [hd, lexM_nl, ← lexM_blank (c := 10) (by decide), ← hd] at h
theorem atW_out (hk : L.length ≤ kk) (h : AtW L T true kk acc) : AtW L T false kk acc := by
  unfold AtW at h ⊢
  rw [List.drop_eq_nil_of_le hk, lexM_nil] at h ⊢
  exact h
theorem atW_word {q : Nat × Bytes × Nat} (hq : wordF (L.drop kk) = some q) (h : AtW L T false kk acc) : AtW L T false (kk + q.2.2) (acc ++ [⟨(q.1 : Nat), (kk : Nat), mk q.2.1⟩]) := by
  unfold AtW at h ⊢
  rw [lexM_word hq, List.drop_drop] at h
  rw [← h]
  cases lexM false (L.drop (kk + q.2.2)) (kk + q.2.2) <;> simp [Except.map]
theorem atW_none {c : UInt8} (hd : L.drop kk = c :: L.drop (kk + 1)) (hw : wordF (L.drop kk) = none) (h1 : blankB c = false) (h2 : c ≠ 35) (h : AtW L T false kk acc) : T = .error kk := by
  unfold AtW at h
  rw [hd] at h hw
  rw [lexM_none hw h1 h2] at h
  exact h.symm
theorem atW_end (hk : L.length ≤ kk) (h : AtW L T false kk acc) : T = .ok (acc ++ [⟨4, (L.length : Nat), ⟨#[]⟩⟩]) := by
  unfold AtW at h
  rw [List.drop_eq_nil_of_le hk, lexM_nil] at h
  rw [← h]
  simp [Except.map]
theorem word_str {L : Bytes} {r : Bytes} (hr : L = 34 :: r) : wordF L = (textF (r.length + 1) r).map fun p => (2, p.1, p.2 + 1) := by
  subst hr
  unfold wordF
  rw [if_neg (by rw [runL_cons]; simp [letU, letB])]
  simp
theorem word_punct {c : UInt8} {r : Bytes} (hp : punctB c = true) : wordF (c :: r) = some (3, [c], 1) := by
  have key : ∀ c : Nat, c < 256 → punctB (UInt8.ofNat c) = true → letU (UInt8.ofNat c) = false ∧ UInt8.ofNat c ≠ 34 := by decide +kernel
  have := key c.toNat (UInt8.toNat_lt c)
  rw [show UInt8.ofNat c.toNat = c by simp] at this
  obtain ⟨h1, h2⟩ := this hp
  unfold wordF
  rw [if_neg (by rw [runL_cons, h1]; simp)]
  simp [h2, hp]
theorem word_punct_at {L : Bytes} {kk : Nat} {c : UInt8} (hd : L.drop kk = c :: L.drop (kk + 1)) (hp : punctB c = true) : wordF (L.drop kk) = some (3, [c], 1) := by rw [hd]; exact word_punct hp
theorem word_bad {c : UInt8} {r : Bytes} (h1 : letU c = false) (h2 : c ≠ 34) (h3 : punctB c = false) : wordF (c :: r) = none := by
  unfold wordF
  rw [if_neg (by rw [runL_cons, h1]; simp)]
  simp [h2, h3]
theorem punct_tells : ∀ c : Nat, c < 256 → punctB (UInt8.ofNat c) = (c == 123 || c == 125 || c == 44 || c == 59 || c == 61 || c == 40 || c == 41 || c == 43 || c == 94 || c == 58 || c == 36) := by decide +kernel

--WALK
set_option maxHeartbeats 8000000 in
set_option maxRecDepth 100000 in
theorem refAll_calls (s : ByteArray) (hs : s.size ≤ 100000) (w : World) :
    Calls Tryz.prog 19 #[.string s] w (IsAllR (allR (allF s.data.toList)) w) := by
  have HLen : Hid (s.data.toList.length = s.size) := (Lib.size_eq s).symm
  generalize hT : allF s.data.toList = T
  have HT : Hid (AtW s.data.toList T false 0 []) := by show AtW _ _ _ _ _; rw [← hT]; exact atW_start
  clear hT
  go_enter Tryz.func19, Tryz.ntmps19
  go_wp2_with fail
  go_loopg [4, 5, 6, 7, 8, 9, 10] s.size (fun gg s4 s5 _ _ _ _ _ wr => ∃ (kk : Nat) (acc : List SWord), kk ≤ s.size ∧ s.size - kk ≤ gg ∧ s5 = .int .i64 kk ∧ acc.length ≤ kk ∧ Aside0 (AtW s.data.toList T false kk acc) ∧
    Aside0 (Kd.R k34 34 wr w.heap.size (fun _ => True) s4 acc) ∧ Aside0 (Below w.heap.size w wr) ∧ Aside0 (wr.heap[w.heap.size]? = some (.cells #[.int .i64 0, .int .i64 0] 27 (0, 0))))
  case atStart => exact ⟨0, [], Nat.zero_le _, by omega, rfl, Nat.le_refl _, ⟨HT.out⟩, ⟨Kd.R_nil _ _ _ _ _⟩, ⟨(Below.refl _ _).alloc (Nat.le_refl _) _⟩, ⟨heap_alloc_new w _⟩⟩
  case round =>
    obtain ⟨kk, acc, hkk, hgk, rfl, hacc, HK, HO, HB, HC⟩ := hrel
    have HWB := Lib.hid HB.out.size
    have HNE : Hid (some w.heap.size ≠ u4.ownBlock) := by
      obtain ⟨_, inner, hown, _⟩ := HO.out
      exact own_ne hown HC.out (by decide)
    have hal : acc.length ≤ 100000 := by omega
    by_cases hlt : kk < s.size
    · have hltz : (kk : Int) < (s.size : Int) := by omega
      have HD : Hid (s.data.toList.drop kk = s[kk] :: s.data.toList.drop (kk + 1)) := drop_at s kk hlt
      obtain ⟨c, hc⟩ : ∃ c, c = s[kk] := ⟨_, rfl⟩
      have HCc := Lib.hid hc
      have hcn := UInt8.toNat_lt c
      have hctn : s[kk].toNat = c.toNat := by rw [hc]
      rw [← hc] at HD
      have ofc : ∀ n : Nat, n < 256 → c.toNat = n → c = UInt8.ofNat n := fun n hn h => by rw [← h]; simp
      clear hc
      by_cases c32 : c.toNat = 32
      · have HA : Hid (AtW s.data.toList T false (kk + 1) acc) := atW_blank HD.out (by rw [ofc 32 (by decide) c32]; decide) HK.out
        rw [c32] at hctn
        clear ofc
        go_wp2
        go_roundg (s.size - (kk + 1))
        case measure => omega
        case rel => exact ⟨kk + 1, acc, by omega, by omega, by first | rfl | go_num, by first | omega | (simp; omega), ⟨HA.out⟩, ⟨HO.out⟩, ⟨HB.out⟩, ⟨HC.out⟩⟩
      by_cases c9 : c.toNat = 9
      · have HA : Hid (AtW s.data.toList T false (kk + 1) acc) := atW_blank HD.out (by rw [ofc 9 (by decide) c9]; decide) HK.out
        rw [c9] at hctn
        clear ofc
        go_wp2
        go_roundg (s.size - (kk + 1))
        case measure => omega
        case rel => exact ⟨kk + 1, acc, by omega, by omega, by first | rfl | go_num, by first | omega | (simp; omega), ⟨HA.out⟩, ⟨HO.out⟩, ⟨HB.out⟩, ⟨HC.out⟩⟩
      by_cases c10 : c.toNat = 10
      · have HA : Hid (AtW s.data.toList T false (kk + 1) acc) := atW_blank HD.out (by rw [ofc 10 (by decide) c10]; decide) HK.out
        rw [c10] at hctn
        clear ofc
        go_wp2
        go_roundg (s.size - (kk + 1))
        case measure => omega
        case rel => exact ⟨kk + 1, acc, by omega, by omega, by first | rfl | go_num, by first | omega | (simp; omega), ⟨HA.out⟩, ⟨HO.out⟩, ⟨HB.out⟩, ⟨HC.out⟩⟩
      by_cases c13 : c.toNat = 13
      · have HA : Hid (AtW s.data.toList T false (kk + 1) acc) := atW_blank HD.out (by rw [ofc 13 (by decide) c13]; decide) HK.out
        rw [c13] at hctn
        clear ofc
        go_wp2
        go_roundg (s.size - (kk + 1))
        case measure => omega
        case rel => exact ⟨kk + 1, acc, by omega, by omega, by first | rfl | go_num, by first | omega | (simp; omega), ⟨HA.out⟩, ⟨HO.out⟩, ⟨HB.out⟩, ⟨HC.out⟩⟩
      by_cases c35 : c.toNat = 35
      · have HA : Hid (AtW s.data.toList T true (kk + 1) acc) := atW_hash (by rw [HD.out, ofc 35 (by decide) c35]; rfl) HK.out
        rw [c35] at hctn
        clear ofc c32 c9 c10 c13 c35
        go_wp2_with fail
        go_loopg [5] s.size (fun gg s5 wr' => ∃ k : Nat, kk ≤ k ∧ k ≤ s.size ∧ s.size - k ≤ gg ∧ s5 = .int .i64 k ∧ Aside0 (kk < k → AtW s.data.toList T true k acc) ∧ wr' = wr)
        case atStart => exact ⟨kk, by omega, by omega, by omega, rfl, ⟨fun h => absurd h (Nat.lt_irrefl _)⟩, rfl⟩
        case round =>
          obtain ⟨k, hk1, hk2, hgk2, rfl, HW, rfl⟩ := hrel
          by_cases hkl : k < s.size
          · have hklz : (k : Int) < (s.size : Int) := by omega
            rcases Nat.eq_or_lt_of_le hk1 with he | hkk1
            · subst he
              go_wp2
              go_roundg (s.size - (kk + 1))
              case measure => omega
              case rel => exact ⟨kk + 1, by omega, by omega, by omega, by first | rfl | go_num, ⟨fun _ => HA.out⟩, rfl⟩
            · have HDk : Hid (s.data.toList.drop k = s[k] :: s.data.toList.drop (k + 1)) := drop_at s k hkl
              by_cases d10 : s[k].toNat = 10
              · have HX : Hid (AtW s.data.toList T false k acc) := atW_nl (by rw [HDk.out, show s[k] = 10 from (byte_iff s[k] 10 10 rfl).2 d10]) (HW.out hkk1)
                go_wp2
                go_roundg (s.size - (k))
                case measure => omega
                case rel => exact ⟨k, acc, by omega, by omega, by first | rfl | go_num, by first | omega | (simp; omega), ⟨HX.out⟩, ⟨HO.out⟩, ⟨HB.out⟩, ⟨HC.out⟩⟩
              · have HX : Hid (AtW s.data.toList T true (k + 1) acc) := atW_com HDk.out (fun h => d10 ((byte_iff s[k] 10 10 rfl).1 h)) (HW.out hkk1)
                have e10 : ((s[k].toNat : Int) != 10) = true := by simp; omega
                have e10' : ¬ (s[k].toNat : Int) = 10 := by omega
                go_wp2
                go_roundg (s.size - (k + 1))
                case measure => omega
                case rel => exact ⟨k + 1, by omega, by omega, by omega, by first | rfl | go_num, ⟨fun _ => HX.out⟩, rfl⟩
          · have hklz : ¬ (k : Int) < (s.size : Int) := by omega
            have HX : Hid (AtW s.data.toList T false k acc) := atW_out (by rw [HLen.out]; omega) (HW.out (by omega))
            go_wp2
            go_roundg (s.size - (k))
            case measure => omega
            case rel => exact ⟨k, acc, by omega, by omega, by first | rfl | go_num, by first | omega | (simp; omega), ⟨HX.out⟩, ⟨HO.out⟩, ⟨HB.out⟩, ⟨HC.out⟩⟩
      have f32 : ((c.toNat : Int) == 32) = false := by rw [beq_eq_false_iff_ne]; omega
      have f9 : ((c.toNat : Int) == 9) = false := by rw [beq_eq_false_iff_ne]; omega
      have f10 : ((c.toNat : Int) == 10) = false := by rw [beq_eq_false_iff_ne]; omega
      have f13 : ((c.toNat : Int) == 13) = false := by rw [beq_eq_false_iff_ne]; omega
      have f35 : ((c.toNat : Int) == 35) = false := by rw [beq_eq_false_iff_ne]; omega
      have hbl : blankB c = false := by
        unfold blankB
        rw [Bool.eq_false_iff]
        simp only [ne_eq, Bool.or_eq_true, beq_iff_eq, not_or]
        refine ⟨⟨⟨fun h => c32 (by rw [h]; rfl), fun h => c10 (by rw [h]; rfl)⟩, fun h => c9 (by rw [h]; rfl)⟩, fun h => c13 (by rw [h]; rfl)⟩
      have h35 : c ≠ 35 := fun h => c35 (by rw [h]; rfl)
      have HBl := Lib.hid hbl
      have H35 := Lib.hid h35
      clear c32 c9 c10 c13 c35 hbl h35
      have hsc := fun W => sign_calls (c.toNat : Int) W
      by_cases hl : letU c = true
      · have HRn : Hid (0 < runL (s.data.toList.drop kk)) := by show 0 < _; rw [HD.out, runL_cons, if_pos hl]; omega
        have HRl : Hid (runL (s.data.toList.drop kk) ≤ s.size - kk) := by show _ ≤ _; have := runL_le (s.data.toList.drop kk); rw [List.length_drop, HLen.out] at this; exact this
        have hls : sigB (c.toNat : Int) = true ∨ sigB (c.toNat : Int) = false ∧ ((c.toNat : Int) == 47) = true := by
          have : letB (c.toNat : Int) = true := hl
          rw [let_sig] at this
          cases hsb : sigB (c.toNat : Int) with
          | true => exact .inl rfl
          | false => rw [hsb] at this; exact .inr ⟨rfl, by simpa using this⟩
        clear ofc hl
        rcases hls with hls | ⟨hls, h47⟩
        all_goals
          rw [hls] at hsc
          go_wp2_with (go_at_call 42; refine (hsc _).mono ?_; rintro e w' ⟨rfl, rfl⟩)
          go_loopg [7] s.size (fun gg s7 wr' => ∃ k : Nat, kk ≤ k ∧ k ≤ s.size ∧ s.size - k ≤ gg ∧ s7 = .int .i64 k ∧ Aside0 (k + runL (s.data.toList.drop k) = kk + runL (s.data.toList.drop kk)) ∧ wr' = wr)
          case atStart => exact ⟨kk, by omega, by omega, by omega, rfl, ⟨rfl⟩, rfl⟩
          case round =>
            obtain ⟨k, hk1, hk2, hgk2, rfl, HW, rfl⟩ := hrel
            by_cases hkl : k < s.size
            · have hklz : (k : Int) < (s.size : Int) := by omega
              have HDk : Hid (s.data.toList.drop k = s[k] :: s.data.toList.drop (k + 1)) := drop_at s k hkl
              have hsd := fun W => sign_calls (s[k].toNat : Int) W
              have hlq : letU s[k] = (sigB (s[k].toNat : Int) || (s[k].toNat : Int) == 47) := rfl
              cases hsb : sigB (s[k].toNat : Int) with
              | true =>
                rw [hsb] at hsd hlq
                have HN : Hid (k + 1 + runL (s.data.toList.drop (k + 1)) = kk + runL (s.data.toList.drop kk)) := by
                  show _ = _
                  rw [← HW.out, HDk.out, runL_cons, if_pos (by rw [hlq]; rfl)]
                  omega
                clear hlq
                go_wp2_with (go_at_call 42; refine (hsd _).mono ?_; rintro e w' ⟨rfl, rfl⟩)
                go_roundg (s.size - (k + 1))
                case measure => omega
                case rel => exact ⟨k + 1, by omega, by omega, by omega, by first | rfl | go_num, ⟨HN.out⟩, rfl⟩
              | false =>
                rw [hsb] at hsd hlq
                cases h4 : ((s[k].toNat : Int) == 47) with
                | true =>
                  rw [h4] at hlq
                  have HN : Hid (k + 1 + runL (s.data.toList.drop (k + 1)) = kk + runL (s.data.toList.drop kk)) := by
                    show _ = _
                    rw [← HW.out, HDk.out, runL_cons, if_pos (by rw [hlq]; rfl)]
                    omega
                  clear hlq
                  go_wp2_with (go_at_call 42; refine (hsd _).mono ?_; rintro e w' ⟨rfl, rfl⟩)
                  go_roundg (s.size - (k + 1))
                  case measure => omega
                  case rel => exact ⟨k + 1, by omega, by omega, by omega, by first | rfl | go_num, ⟨HN.out⟩, rfl⟩
                | false =>
                  rw [h4] at hlq
                  have HN : Hid (runL (s.data.toList.drop kk) = k - kk) := by
                    show _ = _
                    have := HW.out
                    rw [HDk.out, runL_cons, if_neg (by rw [hlq]; decide)] at this
                    omega
                  clear hlq
                  have hkk1 : kk < k := by have := HRn.out; rw [HN.out] at this; omega
                  have HX : Hid (AtW s.data.toList T false k (acc ++ [⟨1, (kk : Nat), s.extract kk k⟩])) := by
                    have hq : wordF (s.data.toList.drop kk) = some (1, (s.data.toList.drop kk).take (k - kk), k - kk) := by unfold wordF; rw [if_pos HRn.out, HN.out]
                    have h := atW_word hq HK.out
                    rw [show kk + (k - kk) = k by omega, ← extract_mk] at h
                    exact h
                  have hsl1 : (kk : Int) ≤ (k : Int) := by omega
                  have hsl2 : (k : Int) ≤ (s.size : Int) := by omega
                  go_wp2_with (first | ((with_reducible refine gate_builtin (b := .append) (xs := #[.tmp 78, .tmp 85]) rfl ?_); at_builtin; refine Kd.R_append k34 (w0 := w) w.heap.size rfl (.tmp 78) (.tmp 85) 24 34 (.agg #[.int .i64 0, .int .i64 0, .string ⟨#[]⟩]) 32 rfl Tryz.underlying24 infoW rfl (by decide) (by decide) u4 acc ⟨1, (kk : Nat), s.extract kk k⟩ [.int .i64 1, .int .i64 (kk : Nat), .string (s.extract kk k)] (fun _ => True) (fun k_ => True ∧ some k_ ≠ u4.ownBlock) rfl (by first | rfl | (go_simp; done) | (go_simp; rfl)) (k34_mkM _ _ _ ⟨1, (kk : Nat), s.extract kk k⟩) (fun _ hk => hk) (fun _ _ => trivial) HO.out HB.out HWB.out ?aL ?_; (case aL => omega); intro v1 w4 ho hb hg hat; have hblk := (hg.block w.heap.size (blk_lt HC.out) HNE.out).trans HC.out; have HO4 := Lib.hid ho; have HB4 := Lib.hid hb; have HBlk := Lib.hid hblk; clear ho hb hg hat hblk) | (go_at_call 42; refine (hsd _).mono ?_; rintro e w' ⟨rfl, rfl⟩))
                  go_roundg (s.size - (k))
                  case measure => omega
                  case rel => exact ⟨k, acc ++ [⟨1, (kk : Nat), s.extract kk k⟩], by omega, by omega, by first | rfl | go_num, by first | omega | (simp; omega), ⟨HX.out⟩, ⟨HO4.out⟩, ⟨HB4.out⟩, ⟨HBlk.out⟩⟩
            · have hklz : ¬ (k : Int) < (s.size : Int) := by omega
              have HN : Hid (runL (s.data.toList.drop kk) = k - kk) := by
                show _ = _
                have := HW.out
                rw [List.drop_eq_nil_of_le (by rw [HLen.out]; omega), show runL [] = 0 from rfl] at this
                omega
              have hkk1 : kk < k := by omega
              have HX : Hid (AtW s.data.toList T false k (acc ++ [⟨1, (kk : Nat), s.extract kk k⟩])) := by
                have hq : wordF (s.data.toList.drop kk) = some (1, (s.data.toList.drop kk).take (k - kk), k - kk) := by unfold wordF; rw [if_pos HRn.out, HN.out]
                have h := atW_word hq HK.out
                rw [show kk + (k - kk) = k by omega, ← extract_mk] at h
                exact h
              have hsl1 : (kk : Int) ≤ (k : Int) := by omega
              have hsl2 : (k : Int) ≤ (s.size : Int) := by omega
              go_wp2_with (first | ((with_reducible refine gate_builtin (b := .append) (xs := #[.tmp 78, .tmp 85]) rfl ?_); at_builtin; refine Kd.R_append k34 (w0 := w) w.heap.size rfl (.tmp 78) (.tmp 85) 24 34 (.agg #[.int .i64 0, .int .i64 0, .string ⟨#[]⟩]) 32 rfl Tryz.underlying24 infoW rfl (by decide) (by decide) u4 acc ⟨1, (kk : Nat), s.extract kk k⟩ [.int .i64 1, .int .i64 (kk : Nat), .string (s.extract kk k)] (fun _ => True) (fun k_ => True ∧ some k_ ≠ u4.ownBlock) rfl (by first | rfl | (go_simp; done) | (go_simp; rfl)) (k34_mkM _ _ _ ⟨1, (kk : Nat), s.extract kk k⟩) (fun _ hk => hk) (fun _ _ => trivial) HO.out HB.out HWB.out ?aL ?_; (case aL => omega); intro v1 w4 ho hb hg hat; have hblk := (hg.block w.heap.size (blk_lt HC.out) HNE.out).trans HC.out; have HO4 := Lib.hid ho; have HB4 := Lib.hid hb; have HBlk := Lib.hid hblk; clear ho hb hg hat hblk))
              go_roundg (s.size - (k))
              case measure => omega
              case rel => exact ⟨k, acc ++ [⟨1, (kk : Nat), s.extract kk k⟩], by omega, by omega, by first | rfl | go_num, by first | omega | (simp; omega), ⟨HX.out⟩, ⟨HO4.out⟩, ⟨HB4.out⟩, ⟨HBlk.out⟩⟩
      have hls : sigB (c.toNat : Int) = false := by
        have : ¬ letB (c.toNat : Int) = true := hl
        rw [let_sig] at this
        cases hsb : sigB (c.toNat : Int) with
        | true => rw [hsb] at this; exact absurd rfl this
        | false => rfl
      have h47 : ((c.toNat : Int) == 47) = false := by
        have : ¬ letB (c.toNat : Int) = true := hl
        rw [let_sig, hls] at this
        simpa using this
      by_cases d123 : c.toNat = 123
      · as_aux_lemma =>
          have hX := atW_word (word_punct_at HD.out (by rw [ofc 123 (by decide) d123]; decide)) HK.out
          have HX : Hid (AtW s.data.toList T false (kk + 1) (acc ++ [⟨3, (kk : Nat), s.extract kk (kk + 1)⟩])) := by
            show AtW _ _ _ _ _
            rw [extract_mk, show kk + 1 - kk = 1 by omega, HD.out]
            exact hX
          clear hX
          rw [d123] at hctn hsc
          rw [show sigB ((123 : Nat) : Int) = false from by decide] at hsc
          clear ofc f32 f9 f10 f13 f35 hl hls h47
          have hk1z : (kk : Int) + 1 ≤ (s.size : Int) := by omega
          go_wp2_with (first | ((with_reducible refine gate_builtin (b := .append) (xs := #[.tmp 153, .tmp 161]) rfl ?_); at_builtin; refine Kd.R_append k34 (w0 := w) w.heap.size rfl (.tmp 153) (.tmp 161) 24 34 (.agg #[.int .i64 0, .int .i64 0, .string ⟨#[]⟩]) 32 rfl Tryz.underlying24 infoW rfl (by decide) (by decide) u4 acc ⟨3, (kk : Nat), s.extract kk (kk + 1)⟩ [.int .i64 3, .int .i64 (kk : Nat), .string (s.extract kk (kk + 1))] (fun _ => True) (fun k_ => True ∧ some k_ ≠ u4.ownBlock) rfl (by first | rfl | (go_simp; done) | (go_simp; rfl)) (k34_mkM _ _ _ ⟨3, (kk : Nat), s.extract kk (kk + 1)⟩) (fun _ hk => hk) (fun _ _ => trivial) HO.out HB.out HWB.out ?aL ?_; (case aL => omega); intro v1 w4 ho hb hg hat; have hblk := (hg.block w.heap.size (blk_lt HC.out) HNE.out).trans HC.out; have HO4 := Lib.hid ho; have HB4 := Lib.hid hb; have HBlk := Lib.hid hblk; clear ho hb hg hat hblk) | (go_at_call 42; refine (hsc _).mono ?_; rintro e w' ⟨rfl, rfl⟩))
          go_roundg (s.size - (kk + 1))
          case measure => omega
          case rel => exact ⟨kk + 1, acc ++ [⟨3, (kk : Nat), s.extract kk (kk + 1)⟩], by omega, by omega, by first | rfl | go_num, by first | omega | (simp; omega), ⟨HX.out⟩, ⟨HO4.out⟩, ⟨HB4.out⟩, ⟨HBlk.out⟩⟩
      by_cases d125 : c.toNat = 125
      · as_aux_lemma =>
          have hX := atW_word (word_punct_at HD.out (by rw [ofc 125 (by decide) d125]; decide)) HK.out
          have HX : Hid (AtW s.data.toList T false (kk + 1) (acc ++ [⟨3, (kk : Nat), s.extract kk (kk + 1)⟩])) := by
            show AtW _ _ _ _ _
            rw [extract_mk, show kk + 1 - kk = 1 by omega, HD.out]
            exact hX
          clear hX
          rw [d125] at hctn hsc
          rw [show sigB ((125 : Nat) : Int) = false from by decide] at hsc
          clear ofc f32 f9 f10 f13 f35 hl hls h47
          have hk1z : (kk : Int) + 1 ≤ (s.size : Int) := by omega
          go_wp2_with (first | ((with_reducible refine gate_builtin (b := .append) (xs := #[.tmp 153, .tmp 161]) rfl ?_); at_builtin; refine Kd.R_append k34 (w0 := w) w.heap.size rfl (.tmp 153) (.tmp 161) 24 34 (.agg #[.int .i64 0, .int .i64 0, .string ⟨#[]⟩]) 32 rfl Tryz.underlying24 infoW rfl (by decide) (by decide) u4 acc ⟨3, (kk : Nat), s.extract kk (kk + 1)⟩ [.int .i64 3, .int .i64 (kk : Nat), .string (s.extract kk (kk + 1))] (fun _ => True) (fun k_ => True ∧ some k_ ≠ u4.ownBlock) rfl (by first | rfl | (go_simp; done) | (go_simp; rfl)) (k34_mkM _ _ _ ⟨3, (kk : Nat), s.extract kk (kk + 1)⟩) (fun _ hk => hk) (fun _ _ => trivial) HO.out HB.out HWB.out ?aL ?_; (case aL => omega); intro v1 w4 ho hb hg hat; have hblk := (hg.block w.heap.size (blk_lt HC.out) HNE.out).trans HC.out; have HO4 := Lib.hid ho; have HB4 := Lib.hid hb; have HBlk := Lib.hid hblk; clear ho hb hg hat hblk) | (go_at_call 42; refine (hsc _).mono ?_; rintro e w' ⟨rfl, rfl⟩))
          go_roundg (s.size - (kk + 1))
          case measure => omega
          case rel => exact ⟨kk + 1, acc ++ [⟨3, (kk : Nat), s.extract kk (kk + 1)⟩], by omega, by omega, by first | rfl | go_num, by first | omega | (simp; omega), ⟨HX.out⟩, ⟨HO4.out⟩, ⟨HB4.out⟩, ⟨HBlk.out⟩⟩
      by_cases d44 : c.toNat = 44
      · as_aux_lemma =>
          have hX := atW_word (word_punct_at HD.out (by rw [ofc 44 (by decide) d44]; decide)) HK.out
          have HX : Hid (AtW s.data.toList T false (kk + 1) (acc ++ [⟨3, (kk : Nat), s.extract kk (kk + 1)⟩])) := by
            show AtW _ _ _ _ _
            rw [extract_mk, show kk + 1 - kk = 1 by omega, HD.out]
            exact hX
          clear hX
          rw [d44] at hctn hsc
          rw [show sigB ((44 : Nat) : Int) = false from by decide] at hsc
          clear ofc f32 f9 f10 f13 f35 hl hls h47
          have hk1z : (kk : Int) + 1 ≤ (s.size : Int) := by omega
          go_wp2_with (first | ((with_reducible refine gate_builtin (b := .append) (xs := #[.tmp 153, .tmp 161]) rfl ?_); at_builtin; refine Kd.R_append k34 (w0 := w) w.heap.size rfl (.tmp 153) (.tmp 161) 24 34 (.agg #[.int .i64 0, .int .i64 0, .string ⟨#[]⟩]) 32 rfl Tryz.underlying24 infoW rfl (by decide) (by decide) u4 acc ⟨3, (kk : Nat), s.extract kk (kk + 1)⟩ [.int .i64 3, .int .i64 (kk : Nat), .string (s.extract kk (kk + 1))] (fun _ => True) (fun k_ => True ∧ some k_ ≠ u4.ownBlock) rfl (by first | rfl | (go_simp; done) | (go_simp; rfl)) (k34_mkM _ _ _ ⟨3, (kk : Nat), s.extract kk (kk + 1)⟩) (fun _ hk => hk) (fun _ _ => trivial) HO.out HB.out HWB.out ?aL ?_; (case aL => omega); intro v1 w4 ho hb hg hat; have hblk := (hg.block w.heap.size (blk_lt HC.out) HNE.out).trans HC.out; have HO4 := Lib.hid ho; have HB4 := Lib.hid hb; have HBlk := Lib.hid hblk; clear ho hb hg hat hblk) | (go_at_call 42; refine (hsc _).mono ?_; rintro e w' ⟨rfl, rfl⟩))
          go_roundg (s.size - (kk + 1))
          case measure => omega
          case rel => exact ⟨kk + 1, acc ++ [⟨3, (kk : Nat), s.extract kk (kk + 1)⟩], by omega, by omega, by first | rfl | go_num, by first | omega | (simp; omega), ⟨HX.out⟩, ⟨HO4.out⟩, ⟨HB4.out⟩, ⟨HBlk.out⟩⟩
      by_cases d59 : c.toNat = 59
      · as_aux_lemma =>
          have hX := atW_word (word_punct_at HD.out (by rw [ofc 59 (by decide) d59]; decide)) HK.out
          have HX : Hid (AtW s.data.toList T false (kk + 1) (acc ++ [⟨3, (kk : Nat), s.extract kk (kk + 1)⟩])) := by
            show AtW _ _ _ _ _
            rw [extract_mk, show kk + 1 - kk = 1 by omega, HD.out]
            exact hX
          clear hX
          rw [d59] at hctn hsc
          rw [show sigB ((59 : Nat) : Int) = false from by decide] at hsc
          clear ofc f32 f9 f10 f13 f35 hl hls h47
          have hk1z : (kk : Int) + 1 ≤ (s.size : Int) := by omega
          go_wp2_with (first | ((with_reducible refine gate_builtin (b := .append) (xs := #[.tmp 153, .tmp 161]) rfl ?_); at_builtin; refine Kd.R_append k34 (w0 := w) w.heap.size rfl (.tmp 153) (.tmp 161) 24 34 (.agg #[.int .i64 0, .int .i64 0, .string ⟨#[]⟩]) 32 rfl Tryz.underlying24 infoW rfl (by decide) (by decide) u4 acc ⟨3, (kk : Nat), s.extract kk (kk + 1)⟩ [.int .i64 3, .int .i64 (kk : Nat), .string (s.extract kk (kk + 1))] (fun _ => True) (fun k_ => True ∧ some k_ ≠ u4.ownBlock) rfl (by first | rfl | (go_simp; done) | (go_simp; rfl)) (k34_mkM _ _ _ ⟨3, (kk : Nat), s.extract kk (kk + 1)⟩) (fun _ hk => hk) (fun _ _ => trivial) HO.out HB.out HWB.out ?aL ?_; (case aL => omega); intro v1 w4 ho hb hg hat; have hblk := (hg.block w.heap.size (blk_lt HC.out) HNE.out).trans HC.out; have HO4 := Lib.hid ho; have HB4 := Lib.hid hb; have HBlk := Lib.hid hblk; clear ho hb hg hat hblk) | (go_at_call 42; refine (hsc _).mono ?_; rintro e w' ⟨rfl, rfl⟩))
          go_roundg (s.size - (kk + 1))
          case measure => omega
          case rel => exact ⟨kk + 1, acc ++ [⟨3, (kk : Nat), s.extract kk (kk + 1)⟩], by omega, by omega, by first | rfl | go_num, by first | omega | (simp; omega), ⟨HX.out⟩, ⟨HO4.out⟩, ⟨HB4.out⟩, ⟨HBlk.out⟩⟩
      by_cases d61 : c.toNat = 61
      · as_aux_lemma =>
          have hX := atW_word (word_punct_at HD.out (by rw [ofc 61 (by decide) d61]; decide)) HK.out
          have HX : Hid (AtW s.data.toList T false (kk + 1) (acc ++ [⟨3, (kk : Nat), s.extract kk (kk + 1)⟩])) := by
            show AtW _ _ _ _ _
            rw [extract_mk, show kk + 1 - kk = 1 by omega, HD.out]
            exact hX
          clear hX
          rw [d61] at hctn hsc
          rw [show sigB ((61 : Nat) : Int) = false from by decide] at hsc
          clear ofc f32 f9 f10 f13 f35 hl hls h47
          have hk1z : (kk : Int) + 1 ≤ (s.size : Int) := by omega
          go_wp2_with (first | ((with_reducible refine gate_builtin (b := .append) (xs := #[.tmp 153, .tmp 161]) rfl ?_); at_builtin; refine Kd.R_append k34 (w0 := w) w.heap.size rfl (.tmp 153) (.tmp 161) 24 34 (.agg #[.int .i64 0, .int .i64 0, .string ⟨#[]⟩]) 32 rfl Tryz.underlying24 infoW rfl (by decide) (by decide) u4 acc ⟨3, (kk : Nat), s.extract kk (kk + 1)⟩ [.int .i64 3, .int .i64 (kk : Nat), .string (s.extract kk (kk + 1))] (fun _ => True) (fun k_ => True ∧ some k_ ≠ u4.ownBlock) rfl (by first | rfl | (go_simp; done) | (go_simp; rfl)) (k34_mkM _ _ _ ⟨3, (kk : Nat), s.extract kk (kk + 1)⟩) (fun _ hk => hk) (fun _ _ => trivial) HO.out HB.out HWB.out ?aL ?_; (case aL => omega); intro v1 w4 ho hb hg hat; have hblk := (hg.block w.heap.size (blk_lt HC.out) HNE.out).trans HC.out; have HO4 := Lib.hid ho; have HB4 := Lib.hid hb; have HBlk := Lib.hid hblk; clear ho hb hg hat hblk) | (go_at_call 42; refine (hsc _).mono ?_; rintro e w' ⟨rfl, rfl⟩))
          go_roundg (s.size - (kk + 1))
          case measure => omega
          case rel => exact ⟨kk + 1, acc ++ [⟨3, (kk : Nat), s.extract kk (kk + 1)⟩], by omega, by omega, by first | rfl | go_num, by first | omega | (simp; omega), ⟨HX.out⟩, ⟨HO4.out⟩, ⟨HB4.out⟩, ⟨HBlk.out⟩⟩
      by_cases d40 : c.toNat = 40
      · as_aux_lemma =>
          have hX := atW_word (word_punct_at HD.out (by rw [ofc 40 (by decide) d40]; decide)) HK.out
          have HX : Hid (AtW s.data.toList T false (kk + 1) (acc ++ [⟨3, (kk : Nat), s.extract kk (kk + 1)⟩])) := by
            show AtW _ _ _ _ _
            rw [extract_mk, show kk + 1 - kk = 1 by omega, HD.out]
            exact hX
          clear hX
          rw [d40] at hctn hsc
          rw [show sigB ((40 : Nat) : Int) = false from by decide] at hsc
          clear ofc f32 f9 f10 f13 f35 hl hls h47
          have hk1z : (kk : Int) + 1 ≤ (s.size : Int) := by omega
          go_wp2_with (first | ((with_reducible refine gate_builtin (b := .append) (xs := #[.tmp 153, .tmp 161]) rfl ?_); at_builtin; refine Kd.R_append k34 (w0 := w) w.heap.size rfl (.tmp 153) (.tmp 161) 24 34 (.agg #[.int .i64 0, .int .i64 0, .string ⟨#[]⟩]) 32 rfl Tryz.underlying24 infoW rfl (by decide) (by decide) u4 acc ⟨3, (kk : Nat), s.extract kk (kk + 1)⟩ [.int .i64 3, .int .i64 (kk : Nat), .string (s.extract kk (kk + 1))] (fun _ => True) (fun k_ => True ∧ some k_ ≠ u4.ownBlock) rfl (by first | rfl | (go_simp; done) | (go_simp; rfl)) (k34_mkM _ _ _ ⟨3, (kk : Nat), s.extract kk (kk + 1)⟩) (fun _ hk => hk) (fun _ _ => trivial) HO.out HB.out HWB.out ?aL ?_; (case aL => omega); intro v1 w4 ho hb hg hat; have hblk := (hg.block w.heap.size (blk_lt HC.out) HNE.out).trans HC.out; have HO4 := Lib.hid ho; have HB4 := Lib.hid hb; have HBlk := Lib.hid hblk; clear ho hb hg hat hblk) | (go_at_call 42; refine (hsc _).mono ?_; rintro e w' ⟨rfl, rfl⟩))
          go_roundg (s.size - (kk + 1))
          case measure => omega
          case rel => exact ⟨kk + 1, acc ++ [⟨3, (kk : Nat), s.extract kk (kk + 1)⟩], by omega, by omega, by first | rfl | go_num, by first | omega | (simp; omega), ⟨HX.out⟩, ⟨HO4.out⟩, ⟨HB4.out⟩, ⟨HBlk.out⟩⟩
      by_cases d41 : c.toNat = 41
      · as_aux_lemma =>
          have hX := atW_word (word_punct_at HD.out (by rw [ofc 41 (by decide) d41]; decide)) HK.out
          have HX : Hid (AtW s.data.toList T false (kk + 1) (acc ++ [⟨3, (kk : Nat), s.extract kk (kk + 1)⟩])) := by
            show AtW _ _ _ _ _
            rw [extract_mk, show kk + 1 - kk = 1 by omega, HD.out]
            exact hX
          clear hX
          rw [d41] at hctn hsc
          rw [show sigB ((41 : Nat) : Int) = false from by decide] at hsc
          clear ofc f32 f9 f10 f13 f35 hl hls h47
          have hk1z : (kk : Int) + 1 ≤ (s.size : Int) := by omega
          go_wp2_with (first | ((with_reducible refine gate_builtin (b := .append) (xs := #[.tmp 153, .tmp 161]) rfl ?_); at_builtin; refine Kd.R_append k34 (w0 := w) w.heap.size rfl (.tmp 153) (.tmp 161) 24 34 (.agg #[.int .i64 0, .int .i64 0, .string ⟨#[]⟩]) 32 rfl Tryz.underlying24 infoW rfl (by decide) (by decide) u4 acc ⟨3, (kk : Nat), s.extract kk (kk + 1)⟩ [.int .i64 3, .int .i64 (kk : Nat), .string (s.extract kk (kk + 1))] (fun _ => True) (fun k_ => True ∧ some k_ ≠ u4.ownBlock) rfl (by first | rfl | (go_simp; done) | (go_simp; rfl)) (k34_mkM _ _ _ ⟨3, (kk : Nat), s.extract kk (kk + 1)⟩) (fun _ hk => hk) (fun _ _ => trivial) HO.out HB.out HWB.out ?aL ?_; (case aL => omega); intro v1 w4 ho hb hg hat; have hblk := (hg.block w.heap.size (blk_lt HC.out) HNE.out).trans HC.out; have HO4 := Lib.hid ho; have HB4 := Lib.hid hb; have HBlk := Lib.hid hblk; clear ho hb hg hat hblk) | (go_at_call 42; refine (hsc _).mono ?_; rintro e w' ⟨rfl, rfl⟩))
          go_roundg (s.size - (kk + 1))
          case measure => omega
          case rel => exact ⟨kk + 1, acc ++ [⟨3, (kk : Nat), s.extract kk (kk + 1)⟩], by omega, by omega, by first | rfl | go_num, by first | omega | (simp; omega), ⟨HX.out⟩, ⟨HO4.out⟩, ⟨HB4.out⟩, ⟨HBlk.out⟩⟩
      by_cases d43 : c.toNat = 43
      · as_aux_lemma =>
          have hX := atW_word (word_punct_at HD.out (by rw [ofc 43 (by decide) d43]; decide)) HK.out
          have HX : Hid (AtW s.data.toList T false (kk + 1) (acc ++ [⟨3, (kk : Nat), s.extract kk (kk + 1)⟩])) := by
            show AtW _ _ _ _ _
            rw [extract_mk, show kk + 1 - kk = 1 by omega, HD.out]
            exact hX
          clear hX
          rw [d43] at hctn hsc
          rw [show sigB ((43 : Nat) : Int) = false from by decide] at hsc
          clear ofc f32 f9 f10 f13 f35 hl hls h47
          have hk1z : (kk : Int) + 1 ≤ (s.size : Int) := by omega
          go_wp2_with (first | ((with_reducible refine gate_builtin (b := .append) (xs := #[.tmp 153, .tmp 161]) rfl ?_); at_builtin; refine Kd.R_append k34 (w0 := w) w.heap.size rfl (.tmp 153) (.tmp 161) 24 34 (.agg #[.int .i64 0, .int .i64 0, .string ⟨#[]⟩]) 32 rfl Tryz.underlying24 infoW rfl (by decide) (by decide) u4 acc ⟨3, (kk : Nat), s.extract kk (kk + 1)⟩ [.int .i64 3, .int .i64 (kk : Nat), .string (s.extract kk (kk + 1))] (fun _ => True) (fun k_ => True ∧ some k_ ≠ u4.ownBlock) rfl (by first | rfl | (go_simp; done) | (go_simp; rfl)) (k34_mkM _ _ _ ⟨3, (kk : Nat), s.extract kk (kk + 1)⟩) (fun _ hk => hk) (fun _ _ => trivial) HO.out HB.out HWB.out ?aL ?_; (case aL => omega); intro v1 w4 ho hb hg hat; have hblk := (hg.block w.heap.size (blk_lt HC.out) HNE.out).trans HC.out; have HO4 := Lib.hid ho; have HB4 := Lib.hid hb; have HBlk := Lib.hid hblk; clear ho hb hg hat hblk) | (go_at_call 42; refine (hsc _).mono ?_; rintro e w' ⟨rfl, rfl⟩))
          go_roundg (s.size - (kk + 1))
          case measure => omega
          case rel => exact ⟨kk + 1, acc ++ [⟨3, (kk : Nat), s.extract kk (kk + 1)⟩], by omega, by omega, by first | rfl | go_num, by first | omega | (simp; omega), ⟨HX.out⟩, ⟨HO4.out⟩, ⟨HB4.out⟩, ⟨HBlk.out⟩⟩
      by_cases d94 : c.toNat = 94
      · as_aux_lemma =>
          have hX := atW_word (word_punct_at HD.out (by rw [ofc 94 (by decide) d94]; decide)) HK.out
          have HX : Hid (AtW s.data.toList T false (kk + 1) (acc ++ [⟨3, (kk : Nat), s.extract kk (kk + 1)⟩])) := by
            show AtW _ _ _ _ _
            rw [extract_mk, show kk + 1 - kk = 1 by omega, HD.out]
            exact hX
          clear hX
          rw [d94] at hctn hsc
          rw [show sigB ((94 : Nat) : Int) = false from by decide] at hsc
          clear ofc f32 f9 f10 f13 f35 hl hls h47
          have hk1z : (kk : Int) + 1 ≤ (s.size : Int) := by omega
          go_wp2_with (first | ((with_reducible refine gate_builtin (b := .append) (xs := #[.tmp 153, .tmp 161]) rfl ?_); at_builtin; refine Kd.R_append k34 (w0 := w) w.heap.size rfl (.tmp 153) (.tmp 161) 24 34 (.agg #[.int .i64 0, .int .i64 0, .string ⟨#[]⟩]) 32 rfl Tryz.underlying24 infoW rfl (by decide) (by decide) u4 acc ⟨3, (kk : Nat), s.extract kk (kk + 1)⟩ [.int .i64 3, .int .i64 (kk : Nat), .string (s.extract kk (kk + 1))] (fun _ => True) (fun k_ => True ∧ some k_ ≠ u4.ownBlock) rfl (by first | rfl | (go_simp; done) | (go_simp; rfl)) (k34_mkM _ _ _ ⟨3, (kk : Nat), s.extract kk (kk + 1)⟩) (fun _ hk => hk) (fun _ _ => trivial) HO.out HB.out HWB.out ?aL ?_; (case aL => omega); intro v1 w4 ho hb hg hat; have hblk := (hg.block w.heap.size (blk_lt HC.out) HNE.out).trans HC.out; have HO4 := Lib.hid ho; have HB4 := Lib.hid hb; have HBlk := Lib.hid hblk; clear ho hb hg hat hblk) | (go_at_call 42; refine (hsc _).mono ?_; rintro e w' ⟨rfl, rfl⟩))
          go_roundg (s.size - (kk + 1))
          case measure => omega
          case rel => exact ⟨kk + 1, acc ++ [⟨3, (kk : Nat), s.extract kk (kk + 1)⟩], by omega, by omega, by first | rfl | go_num, by first | omega | (simp; omega), ⟨HX.out⟩, ⟨HO4.out⟩, ⟨HB4.out⟩, ⟨HBlk.out⟩⟩
      by_cases d58 : c.toNat = 58
      · as_aux_lemma =>
          have hX := atW_word (word_punct_at HD.out (by rw [ofc 58 (by decide) d58]; decide)) HK.out
          have HX : Hid (AtW s.data.toList T false (kk + 1) (acc ++ [⟨3, (kk : Nat), s.extract kk (kk + 1)⟩])) := by
            show AtW _ _ _ _ _
            rw [extract_mk, show kk + 1 - kk = 1 by omega, HD.out]
            exact hX
          clear hX
          rw [d58] at hctn hsc
          rw [show sigB ((58 : Nat) : Int) = false from by decide] at hsc
          clear ofc f32 f9 f10 f13 f35 hl hls h47
          have hk1z : (kk : Int) + 1 ≤ (s.size : Int) := by omega
          go_wp2_with (first | ((with_reducible refine gate_builtin (b := .append) (xs := #[.tmp 153, .tmp 161]) rfl ?_); at_builtin; refine Kd.R_append k34 (w0 := w) w.heap.size rfl (.tmp 153) (.tmp 161) 24 34 (.agg #[.int .i64 0, .int .i64 0, .string ⟨#[]⟩]) 32 rfl Tryz.underlying24 infoW rfl (by decide) (by decide) u4 acc ⟨3, (kk : Nat), s.extract kk (kk + 1)⟩ [.int .i64 3, .int .i64 (kk : Nat), .string (s.extract kk (kk + 1))] (fun _ => True) (fun k_ => True ∧ some k_ ≠ u4.ownBlock) rfl (by first | rfl | (go_simp; done) | (go_simp; rfl)) (k34_mkM _ _ _ ⟨3, (kk : Nat), s.extract kk (kk + 1)⟩) (fun _ hk => hk) (fun _ _ => trivial) HO.out HB.out HWB.out ?aL ?_; (case aL => omega); intro v1 w4 ho hb hg hat; have hblk := (hg.block w.heap.size (blk_lt HC.out) HNE.out).trans HC.out; have HO4 := Lib.hid ho; have HB4 := Lib.hid hb; have HBlk := Lib.hid hblk; clear ho hb hg hat hblk) | (go_at_call 42; refine (hsc _).mono ?_; rintro e w' ⟨rfl, rfl⟩))
          go_roundg (s.size - (kk + 1))
          case measure => omega
          case rel => exact ⟨kk + 1, acc ++ [⟨3, (kk : Nat), s.extract kk (kk + 1)⟩], by omega, by omega, by first | rfl | go_num, by first | omega | (simp; omega), ⟨HX.out⟩, ⟨HO4.out⟩, ⟨HB4.out⟩, ⟨HBlk.out⟩⟩
      by_cases d36 : c.toNat = 36
      · as_aux_lemma =>
          have hX := atW_word (word_punct_at HD.out (by rw [ofc 36 (by decide) d36]; decide)) HK.out
          have HX : Hid (AtW s.data.toList T false (kk + 1) (acc ++ [⟨3, (kk : Nat), s.extract kk (kk + 1)⟩])) := by
            show AtW _ _ _ _ _
            rw [extract_mk, show kk + 1 - kk = 1 by omega, HD.out]
            exact hX
          clear hX
          rw [d36] at hctn hsc
          rw [show sigB ((36 : Nat) : Int) = false from by decide] at hsc
          clear ofc f32 f9 f10 f13 f35 hl hls h47
          have hk1z : (kk : Int) + 1 ≤ (s.size : Int) := by omega
          go_wp2_with (first | ((with_reducible refine gate_builtin (b := .append) (xs := #[.tmp 153, .tmp 161]) rfl ?_); at_builtin; refine Kd.R_append k34 (w0 := w) w.heap.size rfl (.tmp 153) (.tmp 161) 24 34 (.agg #[.int .i64 0, .int .i64 0, .string ⟨#[]⟩]) 32 rfl Tryz.underlying24 infoW rfl (by decide) (by decide) u4 acc ⟨3, (kk : Nat), s.extract kk (kk + 1)⟩ [.int .i64 3, .int .i64 (kk : Nat), .string (s.extract kk (kk + 1))] (fun _ => True) (fun k_ => True ∧ some k_ ≠ u4.ownBlock) rfl (by first | rfl | (go_simp; done) | (go_simp; rfl)) (k34_mkM _ _ _ ⟨3, (kk : Nat), s.extract kk (kk + 1)⟩) (fun _ hk => hk) (fun _ _ => trivial) HO.out HB.out HWB.out ?aL ?_; (case aL => omega); intro v1 w4 ho hb hg hat; have hblk := (hg.block w.heap.size (blk_lt HC.out) HNE.out).trans HC.out; have HO4 := Lib.hid ho; have HB4 := Lib.hid hb; have HBlk := Lib.hid hblk; clear ho hb hg hat hblk) | (go_at_call 42; refine (hsc _).mono ?_; rintro e w' ⟨rfl, rfl⟩))
          go_roundg (s.size - (kk + 1))
          case measure => omega
          case rel => exact ⟨kk + 1, acc ++ [⟨3, (kk : Nat), s.extract kk (kk + 1)⟩], by omega, by omega, by first | rfl | go_num, by first | omega | (simp; omega), ⟨HX.out⟩, ⟨HO4.out⟩, ⟨HB4.out⟩, ⟨HBlk.out⟩⟩
      by_cases d34 : c.toNat = 34
      · as_aux_lemma =>
          have hr : s.data.toList.drop kk = 34 :: s.data.toList.drop (kk + 1) := by rw [HD.out, ofc 34 (by decide) d34]; rfl
          have hws := word_str hr
          have hrl : (s.data.toList.drop (kk + 1)).length = s.size - (kk + 1) := by rw [List.length_drop, HLen.out]
          rw [hrl] at hws
          have hst : ∀ W, Calls Tryz.prog 43 #[.string s, .int .i64 ((kk : Int) + 1)] W fun e w' => e = .returned (strR ((textF (s.size - (kk + 1) + 1) (s.data.toList.drop (kk + 1))).map fun p => (p.1, kk + 1 + p.2))) ∧ Below W.heap.size W w' := fun W => by
            have h := str_calls s (kk + 1) (by omega) hs W
            rwa [show ((kk + 1 : Nat) : Int) = (kk : Int) + 1 from by omega] at h
          rw [d34] at hctn hsc
          rw [show sigB ((34 : Nat) : Int) = false from by decide] at hsc
          clear ofc f32 f9 f10 f13 f35 hl hls h47
          cases htx : textF (s.size - (kk + 1) + 1) (s.data.toList.drop (kk + 1)) with
          | none =>
            rw [htx] at hst hws
            have HV : Hid (allR T = ([], 1, ((kk : Nat) : Int))) := by
              show _ = _
              rw [atW_none HD.out hws HBl.out H35.out HK.out]
              rfl
            have HSt := Lib.hid hst
            clear hst hws htx hr hrl
            go_wp2_with (first | (go_at_call 42; refine (hsc _).mono ?_; rintro e w' ⟨rfl, rfl⟩) | (go_at_call 43; refine (HSt.out _).mono ?_; rintro e w2 ⟨rfl, hb2⟩; have HC2 := Lib.hid ((hb2.block w.heap.size (blk_lt HC.out)).trans HC.out); have HB2 := Lib.hid (below_then HB.out HB.out.size hb2); have hc0 : w2.cell? ⟨w.heap.size, 0, none⟩ = some (.int .i64 0) := (blk_cell HC2.out 0).trans rfl; have hc1 : w2.cell? ⟨w.heap.size, 1, none⟩ = some (.int .i64 0) := (blk_cell HC2.out 1).trans rfl; have hf0 := blk_frozen HC2.out 0; have hf1 := blk_frozen HC2.out 1; clear hb2; simp only [Option.map_none, strR]))
            have hs2 := two_set (.int .i64 1) (.int .i64 kk) HC2.out
            have hB5 : Below w.heap.size w ((w2.setCell ⟨w.heap.size, 0, none⟩ (.int .i64 1)).setCell ⟨w.heap.size, 1, none⟩ (.int .i64 kk)) := (HB2.out.setCell (Nat.le_refl _) _).setCell (Nat.le_refl _) _
            generalize (w2.setCell ⟨w.heap.size, 0, none⟩ (.int .i64 1)).setCell ⟨w.heap.size, 1, none⟩ (.int .i64 kk) = w5 at hs2 hB5 ⊢
            have g0 := (blk_cell hs2 0).trans rfl
            have g1 := (blk_cell hs2 1).trans rfl
            exact bodyPost_ret (v := .tuple #[.slice none 0 0, .agg #[.int .i64 1, .int .i64 kk]]) (by simp [results, Tryz.results19, go_sem, g0, g1]) rfl (by
              rw [HV.out]
              exact ⟨_, rfl, Kd.R_nil _ _ _ _ _, hB5⟩)
          | some p =>
            rw [htx] at hst hws
            have hpl := text_len _ _ _ htx
            rw [hrl] at hpl
            have HX : Hid (AtW s.data.toList T false (kk + 1 + p.2) (acc ++ [⟨2, (kk : Nat), mk p.1⟩])) := by
              have h := atW_word hws HK.out
              rw [show kk + 1 + p.2 = kk + (p.2 + 1) by omega]
              exact h
            have HSt := Lib.hid hst
            clear hst hws htx hr hrl
            go_wp2_with (first | ((with_reducible refine gate_builtin (b := .append) (xs := #[.tmp 103, .tmp 107]) rfl ?_); at_builtin; refine Kd.R_append k34 (w0 := w) w.heap.size rfl (.tmp 103) (.tmp 107) 24 34 (.agg #[.int .i64 0, .int .i64 0, .string ⟨#[]⟩]) 32 rfl Tryz.underlying24 infoW rfl (by decide) (by decide) u4 acc ⟨2, (kk : Nat), mk p.1⟩ [.int .i64 2, .int .i64 (kk : Nat), .string (mk p.1)] (fun _ => True) (fun k_ => True ∧ some k_ ≠ u4.ownBlock) rfl (by first | rfl | (go_simp; done) | (go_simp; rfl)) (k34_mkM _ _ _ ⟨2, (kk : Nat), mk p.1⟩) (fun _ hk => hk) (fun _ _ => trivial) HO2.out HB2.out HWB2.out ?aL ?_; (case aL => omega); intro v1 w4 ho hb hg hat; have hblk := (hg.block w.heap.size (blk_lt HC2.out) HNE.out).trans HC2.out; have HO4 := Lib.hid ho; have HB4 := Lib.hid hb; have HBlk := Lib.hid hblk; clear ho hb hg hat hblk) | (go_at_call 42; refine (hsc _).mono ?_; rintro e w' ⟨rfl, rfl⟩) | (go_at_call 43; refine (HSt.out _).mono ?_; rintro e w2 ⟨rfl, hb2⟩; have HC2 := Lib.hid ((hb2.block w.heap.size (blk_lt HC.out)).trans HC.out); have HB2 := Lib.hid (below_then HB.out HB.out.size hb2); have HO2 := Lib.hid (Kd.R_below HO.out hb2); have HWB2 : Hid (w.heap.size ≤ w2.heap.size) := HB2.out.size; clear hb2; simp only [Option.map_some, strR]))
            go_roundg (s.size - (kk + 1 + p.2))
            case measure => omega
            case rel => exact ⟨kk + 1 + p.2, acc ++ [⟨2, (kk : Nat), mk p.1⟩], by omega, by omega, by first | rfl | go_num, by first | omega | (simp; omega), ⟨HX.out⟩, ⟨HO4.out⟩, ⟨HB4.out⟩, ⟨HBlk.out⟩⟩
      have f123 : ((c.toNat : Int) == 123) = false := by rw [beq_eq_false_iff_ne]; omega
      have f125 : ((c.toNat : Int) == 125) = false := by rw [beq_eq_false_iff_ne]; omega
      have f44 : ((c.toNat : Int) == 44) = false := by rw [beq_eq_false_iff_ne]; omega
      have f59 : ((c.toNat : Int) == 59) = false := by rw [beq_eq_false_iff_ne]; omega
      have f61 : ((c.toNat : Int) == 61) = false := by rw [beq_eq_false_iff_ne]; omega
      have f40 : ((c.toNat : Int) == 40) = false := by rw [beq_eq_false_iff_ne]; omega
      have f41 : ((c.toNat : Int) == 41) = false := by rw [beq_eq_false_iff_ne]; omega
      have f43 : ((c.toNat : Int) == 43) = false := by rw [beq_eq_false_iff_ne]; omega
      have f94 : ((c.toNat : Int) == 94) = false := by rw [beq_eq_false_iff_ne]; omega
      have f58 : ((c.toNat : Int) == 58) = false := by rw [beq_eq_false_iff_ne]; omega
      have f36 : ((c.toNat : Int) == 36) = false := by rw [beq_eq_false_iff_ne]; omega
      have f34 : ((c.toNat : Int) == 34) = false := by rw [beq_eq_false_iff_ne]; omega
      have HV : Hid (allR T = ([], 1, ((kk : Nat) : Int))) := by
        show _ = _
        have hp := punct_tells c.toNat hcn
        rw [show UInt8.ofNat c.toNat = c by simp] at hp
        have hp2 : punctB c = false := by rw [hp]; simp only [Bool.or_eq_false_iff, beq_eq_false_iff_ne]; omega
        rw [atW_none HD.out (by rw [HD.out]; exact word_bad (by simpa using hl) (fun h => d34 (by rw [h]; rfl)) hp2) HBl.out H35.out HK.out]
        rfl
      have hc0 : wr.cell? ⟨w.heap.size, 0, none⟩ = some (.int .i64 0) := (blk_cell HC.out 0).trans rfl
      have hc1 : wr.cell? ⟨w.heap.size, 1, none⟩ = some (.int .i64 0) := (blk_cell HC.out 1).trans rfl
      have hf0 := blk_frozen HC.out 0
      have hf1 := blk_frozen HC.out 1
      clear ofc hl d123 d125 d44 d59 d61 d40 d41 d43 d94 d58 d36 d34
      go_wp2_with (go_at_call 42; refine (hsc _).mono ?_; rintro e w' ⟨rfl, rfl⟩)
      have hs2 := two_set (.int .i64 1) (.int .i64 kk) HC.out
      have hB5 : Below w.heap.size w ((wr.setCell ⟨w.heap.size, 0, none⟩ (.int .i64 1)).setCell ⟨w.heap.size, 1, none⟩ (.int .i64 kk)) := (HB.out.setCell (Nat.le_refl _) _).setCell (Nat.le_refl _) _
      generalize (wr.setCell ⟨w.heap.size, 0, none⟩ (.int .i64 1)).setCell ⟨w.heap.size, 1, none⟩ (.int .i64 kk) = w5 at hs2 hB5 ⊢
      have g0 := (blk_cell hs2 0).trans rfl
      have g1 := (blk_cell hs2 1).trans rfl
      exact bodyPost_ret (v := .tuple #[.slice none 0 0, .agg #[.int .i64 1, .int .i64 kk]]) (by simp [results, Tryz.results19, go_sem, g0, g1]) rfl (by
        rw [HV.out]
        exact ⟨_, rfl, Kd.R_nil _ _ _ _ _, hB5⟩)
    · have hltz : ¬ (kk : Int) < (s.size : Int) := by omega
      have HV : Hid (allR T = (acc ++ [⟨4, (s.size : Nat), ⟨#[]⟩⟩], 0, 0)) := by
        show _ = _
        rw [atW_end (by rw [HLen.out]; omega) HK.out, HLen.out]
        rfl
      go_wp2_with (first | ((with_reducible refine gate_builtin (b := .append) (xs := #[.tmp 165, .tmp 169]) rfl ?_); at_builtin; refine Kd.R_append k34 (w0 := w) w.heap.size rfl (.tmp 165) (.tmp 169) 24 34 (.agg #[.int .i64 0, .int .i64 0, .string ⟨#[]⟩]) 32 rfl Tryz.underlying24 infoW rfl (by decide) (by decide) u4 acc ⟨4, (s.size : Nat), ⟨#[]⟩⟩ [.int .i64 4, .int .i64 (s.size : Nat), .string ⟨#[]⟩] (fun _ => True) (fun k_ => True ∧ some k_ ≠ u4.ownBlock) rfl (by first | rfl | (go_simp; done) | (go_simp; rfl)) (k34_mkM _ _ _ ⟨4, (s.size : Nat), ⟨#[]⟩⟩) (fun _ hk => hk) (fun _ _ => trivial) HO.out HB.out HWB.out ?aL ?_; (case aL => omega); intro v1 w4 ho hb hg hat; have hblk := (hg.block w.heap.size (blk_lt HC.out) HNE.out).trans HC.out; have HO4 := Lib.hid ho; have HB4 := Lib.hid hb; have hc0 : w4.cell? ⟨w.heap.size, 0, none⟩ = some (.int .i64 0) := (blk_cell hblk 0).trans rfl; have hc1 : w4.cell? ⟨w.heap.size, 1, none⟩ = some (.int .i64 0) := (blk_cell hblk 1).trans rfl; have hf0 := blk_frozen hblk 0; have hf1 := blk_frozen hblk 1; have HBlk := Lib.hid hblk; clear ho hb hg hat hblk))
      have hs2 := two_set (.int .i64 0) (.int .i64 0) HBlk.out
      have hR5 := words_far (.int .i64 0) (.int .i64 0) HO4.out HBlk.out (by decide)
      have hB5 : Below w.heap.size w ((w4.setCell ⟨w.heap.size, 0, none⟩ (.int .i64 0)).setCell ⟨w.heap.size, 1, none⟩ (.int .i64 0)) := (HB4.out.setCell (Nat.le_refl _) _).setCell (Nat.le_refl _) _
      generalize (w4.setCell ⟨w.heap.size, 0, none⟩ (.int .i64 0)).setCell ⟨w.heap.size, 1, none⟩ (.int .i64 0) = w5 at hs2 hR5 hB5 ⊢
      have g0 := (blk_cell hs2 0).trans rfl
      have g1 := (blk_cell hs2 1).trans rfl
      exact bodyPost_ret (v := .tuple #[v1, .agg #[.int .i64 0, .int .i64 0]]) (by simp [results, Tryz.results19, go_sem, g0, g1]) rfl (by
        rw [HV.out]
        exact ⟨v1, rfl, hR5, hB5⟩)

end Go.Proofs.YthagibkmfgodgaaGreatDoor.X
