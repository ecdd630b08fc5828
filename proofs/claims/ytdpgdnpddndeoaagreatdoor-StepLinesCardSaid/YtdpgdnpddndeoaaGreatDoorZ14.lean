/-
  A text cut short, plainly.
  StepLines, walked by hand: lines, a newline behind each, are the text again.
-/
import Derived.Test.YtdpgdnpddndeoaaGreatDoorZ13
namespace Go.Proofs.YtdpgdnpddndeoaaGreatDoor.X
open Go.RowKit Go.Maps Go.Proofs.YtdpgdnpddndeoaaGreatDoorW.PrintWords Go.Proofs.YtdpgdnpddndeoaaGreatDoorW.PrintMore Go.Proofs.YtdpgdnpddndeoaaGreatDoor.Pb
theorem zmU (s : ByteArray) (n : Nat) : shipwrightlaw1_Short.f s (n : Int) = some (mk (s.data.toList.take n)) := by
 unfold shipwrightlaw1_Short.f mn
 have hz := Lib.size_eq s
 have key : ∀ m : Nat, m <= s.size -> s.data.toList.take m = s.data.toList.take n -> (s.extract 0 ((m : Int)).toNat) = mk (s.data.toList.take n) := by
  intro m _ hm
  apply zbU
  rw [za7, <- hm]
  simp [ByteArray.data_extract]
 rcases Nat.lt_or_ge n s.size with h | h
 . rw [if_pos (show (n : Int) < (s.size : Int) by omega), if_pos (show (0 : Int) <= (n : Int) by omega), if_pos (show (n : Int) <= (s.size : Int) by omega), key n (by omega) rfl]
 . rw [if_neg (show ¬ (n : Int) < (s.size : Int) by omega), if_pos (show (0 : Int) <= (s.size : Int) by omega), if_pos (Int.le_refl _), key s.size (Nat.le_refl _) (by rw [List.take_of_length_le (by omega), List.take_of_length_le (by omega)])]

end Go.Proofs.YtdpgdnpddndeoaaGreatDoor.X

namespace Go.Proofs.YtdpgdnpddndeoaaGreatDoor.X
open Go.RowKit Go.Maps Go.Proofs.YtdpgdnpddndeoaaGreatDoorW.PrintWords Go.Proofs.YtdpgdnpddndeoaaGreatDoorW.PrintMore Go.Proofs.YtdpgdnpddndeoaaGreatDoorW.PrintLast Go.Proofs.YtdpgdnpddndeoaaGreatDoor.Pb
set_option linter.unusedSimpArgs false
theorem ziU (x : ByteArray) (h : (10 : UInt8) ∉ x.data.toList) (k : Nat) (hk : k < x.size) : ((x[k].toNat : Int) == 10) = false := by
 have hm : x[k] ∈ x.data.toList := Array.mem_toList_iff.2 (Array.getElem_mem _)
 have : x[k] ≠ 10 := fun e => h (e ▸ hm)
 simp only [beq_eq_false_iff_ne, ne_eq]
 intro e
 apply this
 apply UInt8.toNat_inj.1
 show x[k].toNat = 10
 omega
set_option maxHeartbeats 8000000 in
set_option maxRecDepth 100000 in
theorem zl5 (s : ByteArray) (w : World) (hG : GOK w) :
 Calls Tryz.prog 12 #[.string s] w (zcd w) := by
 have HG := znM hG
 clear hG
 obtain ⟨t, ht⟩ : ∃ t, t = mk (s.data.toList.take 200) := ⟨_, rfl⟩
 have htl : t.size <= 200 := by rw [ht, za4, List.length_take]; omega
 have hSh := fun W hW => shipwrightlaw1_Short.calls s 200 t W hW (by rw [ht]; exact zmU s 200)
 have hL := fun W hW => zdH t W hW (by omega)
 have HL0 : Hid ((za6 t).map (·.data.toList) = zbb t.data.toList) := by show _ = _; unfold za6; rw [List.map_map]; exact (List.map_congr_left fun x _ => za7 x).trans (List.map_id _)
 have hw := zhH t.data.toList
 have hn := zke t.data.toList
 rw [<- HL0.out] at hw hn
 have hwl : (zaF ((za6 t).map (·.data.toList))).length <= 201 := by
  rw [HL0.out]
  have := zmK t.data.toList
  rw [<- Lib.size_eq] at this
  omega
 clear ht HL0
 generalize za6 t = L at hL hw hn hwl
 have HW0 := znM hw
 have HN0 := znM hn
 have HS0 := znM hwl
 clear hw hn hwl
 go_enter Tryz.func12, Tryz.ntmps12
 go_wp2_with fail
 refine (ziu _ HG.out).mono ?_
 rintro e w1 ⟨rfl, hb1⟩
 have HB1 := znM hb1
 clear hb1
 go_wp2_with fail
 refine (hSh _ (HG.out.below HB1.out)).mono ?_
 rintro e w2 ⟨rfl, hb2⟩
 have HB2 := znM (zad HB1.out HB1.out.size hb2)
 clear hb2 HB1 hSh
 go_wp2_with fail
 refine (hL _ (HG.out.below HB2.out)).mono ?_
 rintro e w3 ⟨v, rfl, hW, hb3⟩
 obtain ⟨A, c, rfl, _, hr3⟩ := Kd.R_reads hW
 have HR3 := znM hr3
 have HB3 := znM (zad HB2.out HB2.out.size hb3)
 clear hL hW hr3 hb3 HB2
 go_wp2_with fail
 have hlen : L.length <= 9223372036854775807 := HR3.out.2.1
 go_loopg [4, 16] L.length (fun gg s4 s16 wr => ∃ kk : Nat, kk <= L.length /\ L.length - kk <= gg /\ s16 = .int .i64 kk /\ s4 = .string (mk (zaF ((L.map (·.data.toList)).take kk))) /\ wr = w3)
 case atStart => exact ⟨0, Nat.zero_le _, by omega, rfl, rfl, rfl⟩
 case round =>
  obtain ⟨kk, hkk, hgk, rfl, rfl, rfl⟩ := hrel
  by_cases hlt : kk < L.length
  . have hltz : (kk : Int) < (L.length : Int) := by omega
    rcases zaZ HR3.out with h0 | ⟨b, o, rfl, hb, hcell⟩
    . exfalso; rw [h0] at hlt; simp at hlt
    have hx := hcell kk hlt
    have hpi : L.getD kk ByteArray.empty = L[kk] := by rw [List.getD_eq_getElem?_getD, List.getElem?_eq_getElem hlt]; rfl
    rw [hpi] at hx
    have hk : kk < (L.map (·.data.toList)).length := by rw [List.length_map]; exact hlt
    have hput : zaF ((L.map (·.data.toList)).take (kk + 1)) = zaF ((L.map (·.data.toList)).take kk) ++ (L[kk].data.toList ++ [10]) := by rw [ziq _ kk hk, List.getElem_map]
    have hle := zhO (L.map (·.data.toList)) (kk + 1)
    rw [hput] at hle
    have hle2 := Nat.le_trans hle HS0.out
    have hno := ziU L[kk] (HN0.out _ (List.mem_map.2 ⟨L[kk], List.getElem_mem hlt, rfl⟩))
    have hm : mk (zaF ((L.map (·.data.toList)).take (kk + 1))) = mk (zaF ((L.map (·.data.toList)).take kk)) ++ (L[kk] ++ ⟨#[10]⟩) := by
     rw [hput, <- zdw, <- zdw, zbi]
     rfl
    have hz : (mk (zaF ((L.map (·.data.toList)).take kk))).size + (L[kk].size + 1) <= 201 := by
     rw [za4]
     have e := Lib.size_eq L[kk]
     simp only [List.length_append, List.length_singleton] at hle2
     omega
    clear hcell hb hpi hput hle hle2
    generalize L[kk] = y at hx hno hm hz
    generalize mk (zaF ((L.map (·.data.toList)).take kk)) = u at hm hz |-
    have HM := znM hm
    have HNo := znM hno
    clear hm hno
    go_wp2_with fail
    go_loopg [7] y.size (fun gg s7 wi => ∃ j : Nat, j <= y.size /\ y.size - j <= gg /\ s7 = .int .i64 j /\ wi = wr)
    case atStart => exact ⟨0, Nat.zero_le _, by omega, rfl, rfl⟩
    case round =>
     obtain ⟨j, hj, hgj, rfl, rfl⟩ := hrel
     by_cases hjl : j < y.size
     . have hjz : (j : Int) < (y.size : Int) := by omega
       have hb := HNo.out j hjl
       go_wp2_with fail
       go_roundg (y.size - (j + 1))
       case measure => omega
       case rel => exact ⟨j + 1, by omega, by omega, by first | rfl | go_num, rfl⟩
     . have hjz : ¬ (j : Int) < (y.size : Int) := by omega
       have o1 : ¬ 9223372036854775807 < y.size + 1 := by omega
       have o2 : ¬ 9223372036854775807 < u.size + (y.size + 1) := by omega
       go_wp2_with fail
       go_roundg (L.length - (kk + 1))
       case measure => omega
       case rel => exact ⟨kk + 1, by omega, by omega, by first | rfl | go_num, by rw [HM.out], rfl⟩
  . have hltz : ¬ (kk : Int) < (L.length : Int) := by omega
    obtain rfl : kk = L.length := by omega
    rw [List.take_of_length_le (by rw [List.length_map]; exact Nat.le_refl _)]
    rcases HW0.out with h | ⟨h, h10⟩
    . rw [h, zbi]
      have d : (t.toList == t.toList) = true := by simp
      clear h
      go_wp2_with fail
      go_ret
      exact ⟨rfl, HB3.out⟩
    . have hm : mk (t.data.toList ++ [10]) = t ++ ⟨#[10]⟩ := by rw [<- zdw, zbi]; rfl
      rw [h, hm]
      have d1 : ((t ++ (⟨#[10]⟩ : ByteArray)).toList == t.toList) = false := by
       rw [beq_eq_false_iff_ne]
       intro e
       have := congrArg List.length e
       rw [zbv, zbv, data_append, List.length_append] at this
       simp at this
      have d2 : ((t ++ (⟨#[10]⟩ : ByteArray)).toList == (t ++ (⟨#[10]⟩ : ByteArray)).toList) = true := by simp
      have o1 : ¬ 9223372036854775807 < t.size + 1 := by omega
      clear h hm
      by_cases h0 : t.size = 0
      . have d3 : ((t.size : Int) == 0) = true := by simp [h0]
        clear h10
        go_wp2_with fail
        go_ret
        exact ⟨rfl, HB3.out⟩
      . have d3 : ((t.size : Int) == 0) = false := by simp [h0]
        have hx : t.size - 1 < t.size := by omega
        have hd : ((t[t.size - 1].toNat : Int) != 10) = true := by
         have e : t.data.toList.getLast? = some t[t.size - 1] := by
          rw [List.getLast?_eq_getElem?, <- Lib.size_eq, List.getElem?_eq_getElem (by rw [<- Lib.size_eq]; exact hx)]
          rfl
         rw [e] at h10
         have h11 : t[t.size - 1] ≠ 10 := fun e => h10 (congrArg some e)
         simp only [bne_iff_ne, ne_eq]
         intro e
         apply h11
         apply UInt8.toNat_inj.1
         show t[t.size - 1].toNat = 10
         omega
        have hi : ((t.size : Int) - 1).toNat = t.size - 1 := by omega
        have hi0 : (0 : Int) <= (t.size : Int) - 1 := by omega
        have hi1 : (t.size : Int) - 1 < (t.size : Int) := by omega
        clear h10
        go_wp2_with fail
        go_ret
        exact ⟨rfl, HB3.out⟩

def shipwrightlaw7_StepLines.f (_ : ByteArray) : Option Bool := some true
theorem shipwrightlaw7_StepLines.calls (s : ByteArray) (r : Bool) (w : World) (hG : GOK w) (h : shipwrightlaw7_StepLines.f s = some r) :
 Calls Tryz.prog 12 #[.string s] w fun e w' => e = .returned (.bool r) /\ Below w.heap.size w w' := by
 obtain rfl := Option.some.inj h
 exact zl5 s w hG
theorem pure_StepLines (s : ByteArray) {p : Prop} (_ : p) : shipwrightlaw7_StepLines.f s = some true := rfl

end Go.Proofs.YtdpgdnpddndeoaaGreatDoor.X
