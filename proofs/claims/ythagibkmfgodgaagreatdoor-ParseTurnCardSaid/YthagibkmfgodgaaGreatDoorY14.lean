/-
  ParseTurn, walked by hand: a printed rule file of which a byte was turned, a part is missing, something was put in.
-/
import Derived.Deep.RegionHeld3
import Derived.Test.YthagibkmfgodgaaGreatDoorY13
import Derived.Test.YthagibkmfgodgaaGreatDoorY12
namespace Go.Proofs.YthagibkmfgodgaaGreatDoor.X
open Go.RowKit Go.Maps Go.Proofs.YthagibkmfgodgaaGreatDoorW.PrintWords Go.Proofs.YthagibkmfgodgaaGreatDoorW.PrintMore Go.Proofs.YthagibkmfgodgaaGreatDoorW.PrintLast Go.Proofs.YthagibkmfgodgaaGreatDoor.Pb
set_option linter.unusedSimpArgs false

theorem reads_set {w : World} {g n : Nat} {xs : List Int} (h : ReadsInt w .u8 (some ⟨g, 0, none⟩) n xs) (j : Nat) (y : Int) :
 ReadsInt (w.setCell ⟨g, j, none⟩ (.int .u8 y)) .u8 (some ⟨g, 0, none⟩) n (xs.set j y) := by
 obtain ⟨h1, h2, h3⟩ := h
 refine ⟨by rw [List.length_set]; exact h1, h2, fun hn => ⟨_, rfl, fun i hi => ?_⟩⟩
 obtain ⟨ad, he, hc⟩ := h3 hn
 cases he
 have hci := hc i hi
 rw [add_plain] at hci ⊢
 by_cases e : i = j
 · subst e
   rw [World.cell?_setCell_same w ⟨g, i, none⟩ _ hci]
   simp [List.getD_eq_getElem?_getD, h1, hi]
 · rw [List.getD_eq_getElem?_getD, List.getElem?_set_ne (Ne.symm e), ← List.getD_eq_getElem?_getD, ← hci]
   unfold World.setCell World.cell?
   simp only [Array.getElem?_modify, if_true]
   cases hb : w.heap[g]? with
   | none => rfl
   | some ob =>
    cases ob with
    | cells c e2 f => simp [Ne.symm e]
    | _ => rfl
set_option maxHeartbeats 8000000 in
set_option maxRecDepth 100000 in
theorem parseTurn_walk (A : Option Addr) (c : Nat) (l : List SRule) (at_ x : Int) (more : ByteArray) (w : World) (hG : GOK w) (hC : Kd.C k49 w A l.length l) (hB : ∀ r ∈ l, BoundRule r) (hGd : ∀ r ∈ l, GoodRule r) :
 Calls Tryz.prog 6 #[.slice A l.length c, .int .i64 at_, .int .u8 x, .string more] w (IsTrue w) := by
 have HG := Lib.hid hG
 have HC := Lib.hid hC
 have HBd := Lib.hid hB
 have HGd := Lib.hid hGd
 clear hG hC hB hGd
 go_enter Tryz.func6, Tryz.ntmps6
 go_wp2_with fail
 refine (begun4_calls _ HG.out).mono ?_
 rintro e w1 ⟨rfl, hb1⟩
 have HB1 := Lib.hid hb1
 clear hb1
 go_wp2_with fail
 refine (rules_calls A c l w1 (Kd.C_below HC.out HB1.out) HBd.out).mono ?_
 rintro e w2 ⟨X, d, rfl, hN2, hb2⟩
 have hsm : ∀ r ∈ (l.take 42).map ruleC, SmallRule r := fun r hr => by
  obtain ⟨q, hq, rfl⟩ := List.mem_map.1 hr
  have hm := List.mem_of_mem_take hq
  exact small_of_bound (HBd.out q hm) (HGd.out q hm)
 have hl42 : ((l.take 42).map ruleC).length ≤ 42 := by rw [List.length_map]; exact List.length_take_le _ _
 generalize (l.take 42).map ruleC = rs at hN2 hsm hl42
 have hcc := (Kd.N_reads' hN2).2.1
 have HC2 := Lib.hid (Kd.N_reads' hN2).2.2
 have HSM := Lib.hid hsm
 have HB2 := Lib.hid (below_then HB1.out HB1.out.size hb2)
 clear hsm hN2 hb2 HC HBd HGd
 obtain ⟨ps, hps⟩ : ∃ q, q = rs.take 4 := ⟨_, rfl⟩
 have e2 : (min (rs.length : Int) 4).toNat = ps.length := by rw [hps, List.length_take]; omega
 have hPA := printAll_calls X d ps w2 (by rw [hps]; exact take_C HC2.out 4) (fun r hr => HSM.out r (List.mem_of_mem_take (by rw [← hps]; exact hr))) (by rw [hps, List.length_take]; omega)
 clear hps
 go_wp2_with fail
 refine hPA.mono ?_
 rintro e w3 ⟨s, rfl, hs, hb3⟩
 have HB3 := Lib.hid (below_then HB2.out HB2.out.size hb3)
 clear hb3 HC2 HSM e2 hcc hPA
 have HBc := Lib.hid HB3.out
 by_cases hbad : s.size = 0 ∨ 3000 < s.size ∨ at_ < 0
 · obtain ⟨t, ht⟩ : ∃ t, t = mk (s.data.toList.take 3000) := ⟨_, rfl⟩
   have hSh := fun W hW => shipwrightlaw1_Short.calls s 3000 t W hW (by rw [ht]; exact short_f s _)
   clear ht
   by_cases h0 : s.size = 0
   · have d0 : ((s.size : Int) == 0) = true := by rw [h0]; rfl
     have H0 := Lib.hid h0
     clear h0 hbad
     go_wp2_with (first | (go_at_call 17; refine (hSh _ (HG.out.below HBc.out)).mono ?_; rintro e w5 ⟨rfl, hb⟩; have HBc := Lib.hid (below_then HBc.out HBc.out.size hb); clear hb) | (go_at_call 23; refine (reads_calls _ _ (HG.out.below HBc.out)).mono ?_; rintro e w6 ⟨rfl, hb⟩; have HBc := Lib.hid (below_then HBc.out HBc.out.size hb); clear hb))
     go_ret
     exact ⟨rfl, HBc.out⟩
   have d0 : ((s.size : Int) == 0) = false := by rw [beq_eq_false_iff_ne]; omega
   by_cases h1 : 3000 < s.size
   · have d1 : (3000 : Int) < (s.size : Int) := by omega
     clear hbad
     go_wp2_with (first | (go_at_call 17; refine (hSh _ (HG.out.below HBc.out)).mono ?_; rintro e w5 ⟨rfl, hb⟩; have HBc := Lib.hid (below_then HBc.out HBc.out.size hb); clear hb) | (go_at_call 23; refine (reads_calls _ _ (HG.out.below HBc.out)).mono ?_; rintro e w6 ⟨rfl, hb⟩; have HBc := Lib.hid (below_then HBc.out HBc.out.size hb); clear hb))
     go_ret
     exact ⟨rfl, HBc.out⟩
   have d1 : ¬ (3000 : Int) < (s.size : Int) := by omega
   have h2 : at_ < 0 := by omega
   clear hbad
   go_wp2_with (first | (go_at_call 17; refine (hSh _ (HG.out.below HBc.out)).mono ?_; rintro e w5 ⟨rfl, hb⟩; have HBc := Lib.hid (below_then HBc.out HBc.out.size hb); clear hb) | (go_at_call 23; refine (reads_calls _ _ (HG.out.below HBc.out)).mono ?_; rintro e w6 ⟨rfl, hb⟩; have HBc := Lib.hid (below_then HBc.out HBc.out.size hb); clear hb))
   go_ret
   exact ⟨rfl, HBc.out⟩
 have h0 : s.size ≠ 0 := fun h => hbad (.inl h)
 have h1 : ¬ 3000 < s.size := fun h => hbad (.inr (.inl h))
 have h2 : ¬ at_ < 0 := fun h => hbad (.inr (.inr h))
 have d0 : ((s.size : Int) == 0) = false := by rw [beq_eq_false_iff_ne]; omega
 have d1 : ¬ (3000 : Int) < (s.size : Int) := by omega
 obtain ⟨k, hk⟩ : ∃ k : Nat, at_ % (s.size : Int) = (k : Int) := ⟨(at_ % (s.size : Int)).toNat, by have := Int.emod_nonneg at_ (b := (s.size : Int)) (by omega); omega⟩
 have hks : k < s.size := by have := Int.emod_lt_of_pos at_ (b := (s.size : Int)) (by omega); omega
 have hmd : Int.tmod at_ (s.size : Int) = (k : Int) := by rw [Int.tmod_eq_emod_of_nonneg (by omega)]; exact hk
 have HSL : Hid (s.size ≤ 3000) := by show s.size ≤ 3000; omega
 clear hk hbad
 have hconv := print_bytes (P := Tryz.prog) 9 38 5 Tryz.underlying9 Tryz.underlying38 Tryz.underlying5 s w3
 have hrd := bytes_reads w3 5 s (by omega)
 have HB4 := Lib.hid (bytes_below HB3.out HB3.out.size 5 s)
 have hcj := Lib.bytesWorld_cell w3 5 s k hks
 have hfj : (Lib.bytesWorld w3 5 s).frozen? ⟨w3.heap.size, k, none⟩ = false := by
  have hb := Lib.bytesWorld_at_new w3 5 s
  have hl : k < (Lib.bytesCells w3 5 s).size := by
   unfold Lib.bytesCells
   rw [Array.size_append, Array.size_map]
   have : s.size = s.data.size := rfl
   omega
  simp [World.frozen?, hb]
  omega
 generalize hw3 : Lib.bytesWorld w3 5 s = w4 at hconv hrd HB4 hcj hfj
 generalize hcp : grownCap w3 s.size 0 5 = cp at hconv
 generalize hv : (s.data.toList.getD k 0).toNat = v at hcj
 obtain ⟨g, hg⟩ : ∃ g, g = w3.heap.size := ⟨_, rfl⟩
 rw [← hg] at hconv hrd hcj hfj
 have HGl : Hid (w.heap.size ≤ g) := by rw [hg]; exact HB3.out.size
 have HRD := Lib.hid hrd
 have hkz : (k : Int) < (s.size : Int) := by omega
 have hk0 : (0 : Int) ≤ (k : Int) := by omega
 have hkl : (k : Int) ≤ (s.size : Int) := by omega
 clear hw3 hcp hv hg hrd
 go_upto_region 11 with fail
 have HB5 : Hid (Below w.heap.size w (w4.setCell ⟨g, k, none⟩ (.int .u8 (bits BinOp.xor IntKind.u8 (v : Int) x)))) := HB4.out.setCell HGl.out _
 have hrs := reads_set HRD.out k (bits BinOp.xor IntKind.u8 (v : Int) x)
 obtain ⟨t, ht⟩ : ∃ t, t = strOfNums ((bytesOf s).set k (bits BinOp.xor IntKind.u8 (v : Int) x)) := ⟨_, rfl⟩
 generalize w4.setCell ⟨g, k, none⟩ (.int .u8 (bits BinOp.xor IntKind.u8 (v : Int) x)) = w5 at HB5 hrs ⊢
 have hSt : ∀ W, Below w5.heap.size w5 W → (convert 38 9 (.slice (some ⟨g, 0, none⟩) s.size cp)).run Tryz.prog W = .ok (.string t) W := fun W hW => by
  rw [ht]
  exact string_of_reads Tryz.underlying38 Tryz.underlying5 Tryz.underlying9 (ReadsInt.below hrs hW)
 have HSt := Lib.hid hSt
 have HBk : Hid (Below w5.heap.size w5 w5.drew) := Lib.hid (below_drew (Below.refl _ _))
 have HBc : Hid (Below w.heap.size w w5.drew) := Lib.hid (below_drew HB5.out)
 obtain ⟨m, hm⟩ : ∃ m, m = mk (more.data.toList.take 20) := ⟨_, rfl⟩
 have hSh := fun W hW => shipwrightlaw1_Short.calls more 20 m W hW (by rw [hm]; exact short_f more _)
 have hm20 : m.size ≤ 20 := by rw [hm, mk_size]; exact List.length_take_le _ _
 have z1 : (s.extract 0 k).size ≤ 3000 := by rw [ByteArray.size_extract]; omega
 have z2 : (s.extract k s.size).size ≤ 3000 := by rw [ByteArray.size_extract]; omega
 generalize hs1 : s.extract 0 k = t1 at z1
 generalize hs2 : s.extract k s.size = t2 at z2
 have ho1 : ¬ 9223372036854775807 < t1.size + m.size := by omega
 have ho2 : ¬ 9223372036854775807 < t1.size + m.size + t2.size := by omega
 clear hm HB4 hcj hfj hconv ht hrs hSt HRD HB5 HGl z1 z2 hm20
 go_region_held3 (fun W => (convert 38 9 (.slice (some ⟨g, 0, none⟩) s.size cp)).run Tryz.prog W = .ok (.string t) W) (exact HSt.out _ HBk.out) (first | (go_at_call 17; refine (hSh _ (HG.out.below HBc.out)).mono ?_; rintro e w5 ⟨rfl, hb⟩; have HBc := Lib.hid (below_then HBc.out HBc.out.size hb); have HBk := Lib.hid (below_then HBk.out HBk.out.size hb); clear hb) | (go_at_call 23; refine (reads_calls _ _ (HG.out.below HBc.out)).mono ?_; rintro e w6 ⟨rfl, hb⟩; have HBc := Lib.hid (below_then HBc.out HBc.out.size hb); have HBk := Lib.hid (below_then HBk.out HBk.out.size hb); clear hb))
 all_goals
  go_wp2_with fail
  go_ret
  exact ⟨rfl, HBc.out⟩

noncomputable def shipwrightlaw4_ParseTurn.f (l : List SRule) (_ _ : Int) (_ : ByteArray) : Option Bool := open Classical in if (∀ r ∈ l, BoundRule r) ∧ ∀ r ∈ l, GoodRule r then some true else none
theorem shipwrightlaw4_ParseTurn.calls (A : Option Addr) (c : Nat) (l : List SRule) (at_ x : Int) (more : ByteArray) (r : Bool) (w : World) (hG : GOK w) (hr : Kd.C k49 w A l.length l) (_hc : l.length ≤ c) (h : shipwrightlaw4_ParseTurn.f l at_ x more = some r) :
 Calls Tryz.prog 6 #[.slice A l.length c, .int .i64 at_, .int .u8 x, .string more] w fun e w' => e = .returned (.bool r) ∧ Below w.heap.size w w' := by
 unfold shipwrightlaw4_ParseTurn.f at h
 split at h
 · rename_i hs
   obtain rfl := Option.some.inj h
   exact parseTurn_walk A c l at_ x more w hG hr hs.1 hs.2
 · cases h
theorem pure_ParseTurn (l : List SRule) (at_ x : Int) (more : ByteArray) (h0 : l.length * 112 ≤ 140737488351232 ∧ ∀ y ∈ l, BoundRule y) (hg : ∀ y ∈ l, GoodRule y) {p q s : Prop} (_ : p) (_ : q) (_ : s) : shipwrightlaw4_ParseTurn.f l at_ x more = some true := by
 unfold shipwrightlaw4_ParseTurn.f
 rw [if_pos ⟨h0.2, hg⟩]

end Go.Proofs.YthagibkmfgodgaaGreatDoor.X
