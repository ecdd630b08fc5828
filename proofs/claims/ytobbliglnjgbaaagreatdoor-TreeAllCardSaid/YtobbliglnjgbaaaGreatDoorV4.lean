/-
  The reference's tree, walked by hand: Read, Erase, Write.
  The reference's Number, Put and Key, walked by hand.
  (Pg) printed by the kit's print for this seat; what is not reached is left out.
  Numbers that are read: mint's GetNumber and the reference's tell the same: a text is a number's if it is written as numbers are.
  (Pe) printed by the kit's print for this seat; what is not reached is left out.
-/
import Derived.Deep.DeepCutAuto
import Derived.Deep.CutBlock
import Derived.Deep.RegionHeld3
import Derived.Test.YtobbliglnjgbaaaGreatDoorProg
import Derived.Below
import Derived.Deep.Draws
import Derived.Deep.AppendLies
import Derived.Maps.AppendAt
import Derived.OwnWalk
import Derived.Laws.BytesArg
import Derived.Laws.MakeOwn
import Derived.Laws.OwnMore
import Derived.Deep.OwnRows
import Derived.Tactics
import Derived.Lib.ConvBytes
import Derived.Laws.Slices
import Derived.WalkKit
import Derived.KernelRfl
import Derived.RowKit3
import Derived.Deep.LoopGhost
import Derived.Deep.QuietTactic
import Derived.BigQuiet
import Derived.WideLaws
import Derived.Laws.Rows
import Derived.Lib.AppendStr
import Derived.ArgAppend
import Derived.Laws.IdiomCopy
import Derived.OrdersHeld
import Derived.Laws.BitsLemmas
import Derived.RowKit
import Derived.Test.YtobbliglnjgbaaaGreatDoorV3
import Derived.Test.YtobbliglnjgbaaaGreatDoorV0
import Derived.Test.YtobbliglnjgbaaaGreatDoorV1
import Derived.Test.YtobbliglnjgbaaaGreatDoorV2
namespace Go.Proofs.YtobbliglnjgbaaaGreatDoor.X
open Go.RowKit Go.Maps Go.Proofs.YtobbliglnjgbaaaGreatDoorW.PrintWords Go.Proofs.YtobbliglnjgbaaaGreatDoorW.PrintMore Go.Proofs.YtobbliglnjgbaaaGreatDoorW.PrintLast Go.Proofs.YtobbliglnjgbaaaGreatDoor.Pb Go.Proofs.YtobbliglnjgbaaaGreatDoor.Pc
set_option linter.unusedSimpArgs false

structure IsR (w : World) (base g : Nat) (A : Option Addr) (c : Nat) (L : List SFile) : Prop where
 cell : w.heap[g]? = some (.cells #[.slice A L.length c] 64 (0, 0))
 row : RF w base (.slice A L.length c) L
theorem IsR.c {w : World} {base g : Nat} {A : Option Addr} {c : Nat} {L : List SFile} (h : IsR w base g A c L) : w.cell? ⟨g, 0, none⟩ = some (.slice A L.length c) := (blk_cell h.cell 0).trans rfl
theorem IsR.below {w w1 : World} {base g : Nat} {A : Option Addr} {c : Nat} {L : List SFile} (h : IsR w base g A c L) (hb : Below w.heap.size w w1) : IsR w1 base g A c L := ⟨blk_below h.cell hb, Kd.R_below h.row hb⟩
structure But (w w' : World) (S : Nat → Prop) : Prop where
 os : w'.os = w.os
 tape : w'.tape = w.tape
 output : w'.output = w.output
 size : w.heap.size ≤ w'.heap.size
 block : ∀ k, k < w.heap.size → ¬ S k → w'.heap[k]? = w.heap[k]?
theorem But.below {w w' : World} {S : Nat → Prop} {n : Nat} (h : But w w' S) (hn : ∀ k, S k → n ≤ k) (hs : n ≤ w.heap.size) : Below n w w' := ⟨h.os, h.tape, h.output, h.size, fun k hk => h.block k (by omega) (fun hS => by have := hn k hS; omega)⟩
theorem But.ofBelow {w w' : World} {S : Nat → Prop} (h : Below w.heap.size w w') : But w w' S := ⟨h.os, h.tape, h.output, h.size, fun k hk _ => h.block k hk⟩
theorem Below.setCell_but {w W : World} (h : Below w.heap.size w W) (g j : Nat) (v : Value) : But w (W.setCell ⟨g, j, none⟩ v) (fun k => k = g) :=
 ⟨h.os, h.tape, h.output, by show _ ≤ (W.setCell ⟨g, j, none⟩ v).heap.size; rw [World.size_setCell]; exact h.size, fun k hk hS => (Below.heap_setCell W ⟨g, j, none⟩ v k hS).trans (h.block k hk)⟩
def ofR (g : Nat) (A : Option Addr) (n c : Nat) (k : Nat) : Prop := k = g ∨ some k = (Value.slice A n c).ownBlock

set_option maxHeartbeats 4000000 in
set_option maxRecDepth 100000 in
theorem refRead_calls (w : World) (base g : Nat) (A : Option Addr) (c : Nat) (L : List SFile) (n : ByteArray) (h : IsR w base g A c L) :
 Calls Tryz.prog 40 #[.pointer (some ⟨g, 0, none⟩), .string n] w fun e w' => e = .returned (.tuple #[.string (readR L n).1, .bool (readR L n).2]) ∧ Drawn0 w w' := by
 have hat := ref_at.calls w g A c L n h.c (Kd.R_reads' h.row).2.2
 have HR := Lib.hid h
 unfold readR
 cases hf : foundF L n with
 | false =>
  rw [if_pos rfl]
  rw [hf] at hat
  clear hf h
  go_enter Tryz.func40, Tryz.ntmps40
  go_wp2_with fail
  refine hat.mono ?_
  rintro e w1 ⟨rfl, hd⟩
  go_wp2_with fail
  go_ret2
  exact ⟨rfl, hd⟩
 | true =>
  rw [if_neg (by simp)]
  have hlt : posF L n < L.length := by
   rcases Nat.lt_or_ge (posF L n) L.length with h1 | h1
   · exact h1
   · unfold foundF at hf
     rw [List.getElem?_eq_none h1] at hf
     cases hf
  rw [hf] at hat
  generalize posF L n = p at hat hlt ⊢
  have hpz : (p : Int) < (L.length : Int) := by omega
  have hlen : L.length ≤ 9223372036854775807 := (Kd.R_reads' h.row).2.2.2.1
  obtain ⟨v, hv⟩ : ∃ v, v = (L.getD p ⟨n, n⟩).f1 := ⟨_, rfl⟩
  rw [← hv]
  have hxi : (rd_T50 L (p : Int)).f1 = v := by rw [hv]; unfold rd_T50; simp [List.getD_eq_getElem?_getD, List.getElem?_eq_getElem hlt]
  have HXI := Lib.hid hxi
  clear hf h hv hxi
  go_enter Tryz.func40, Tryz.ntmps40
  go_wp2_with fail
  refine hat.mono ?_
  rintro e w1 ⟨rfl, hd⟩
  have HR1 := HR.out.below hd.below
  have hc := HR1.c
  obtain ⟨ad, rfl, hx0, hx1⟩ := at_T50 (Kd.R_reads' HR1.row).2.2 (p : Int) (by omega) hpz
  simp only [Int.toNat_natCast] at hx0 hx1
  rw [HXI.out] at hx1
  clear HR1
  go_wp2_with fail
  go_ret2
  exact ⟨rfl, hd⟩

set_option maxHeartbeats 4000000 in
set_option maxRecDepth 100000 in
theorem refErase_calls (w : World) (base g : Nat) (A : Option Addr) (c : Nat) (L : List SFile) (n : ByteArray) (h : IsR w base g A c L) (hl : L.length ≤ 1000) (hbase : base ≤ w.heap.size) :
 Calls Tryz.prog 39 #[.pointer (some ⟨g, 0, none⟩), .string n] w fun e w' => e = .returned (.int .i64 (eraseR L n).2) ∧ (∃ A' c', IsR w' base g A' c' (eraseR L n).1) ∧ But w w' (ofR g A L.length c) := by
 have hat := ref_at.calls w g A c L n h.c (Kd.R_reads' h.row).2.2
 have HR := Lib.hid h
 unfold eraseR
 cases hf : foundF L n with
 | false =>
  rw [if_pos rfl]
  rw [hf] at hat
  clear hf h
  go_enter Tryz.func39, Tryz.ntmps39
  go_wp2_with fail
  refine hat.mono ?_
  rintro e w1 ⟨rfl, hd⟩
  go_wp2_with fail
  go_ret
  exact ⟨rfl, ⟨A, c, HR.out.below hd.below⟩, But.ofBelow hd.below⟩
 | true =>
  rw [if_neg (by simp)]
  have hlt : posF L n < L.length := by
   rcases Nat.lt_or_ge (posF L n) L.length with h1 | h1
   · exact h1
   · unfold foundF at hf
     rw [List.getElem?_eq_none h1] at hf
     cases hf
  rw [hf] at hat
  generalize posF L n = p at hat hlt ⊢
  obtain ⟨X', c', he, hcap, hrd⟩ := Kd.R_reads h.row
  injection he with he1 he2 he3
  subst he1 he3
  obtain ⟨o1, ho1⟩ : ∃ q, q = L.take p := ⟨_, rfl⟩
  obtain ⟨o3, ho3⟩ : ∃ q, q = L.drop (p + 1) := ⟨_, rfl⟩
  obtain ⟨X3, hX3⟩ : ∃ Z, (if c = p + 1 then A else Option.map (fun x => x.add ((p + 1) * 2)) A) = Z := ⟨_, rfl⟩
  have HL1 : Hid (o1.length = p) := by show _ = _; rw [ho1, List.length_take]; omega
  have HL3 : Hid (o3.length = L.length - (p + 1)) := by show _ = _; rw [ho3, List.length_drop]
  have HC1 : Hid (Kd.C k50 w A o1.length o1) := by show Kd.C _ _ _ _ _; rw [ho1]; exact Kd.C_take hrd (by omega)
  have HC3 : Hid (Kd.C k50 w X3 o3.length o3) := by show Kd.C _ _ _ _ _; rw [ho3, ← hX3]; exact Kd.C_drop hrd (by omega) hcap
  rw [← ho1, ← ho3]
  have hb1 : (p : Int) ≤ (L.length : Int) := by omega
  have hb2 : (L.length : Int) ≤ (c : Int) := by omega
  have hb3 : (p : Int) ≤ (c : Int) := by omega
  have hb0 : (0 : Int) ≤ (p : Int) := by omega
  have hb4 : (p : Int) + 1 ≤ (L.length : Int) := by omega
  have hb5 : (p : Int) + 1 ≤ (c : Int) := by omega
  have hb6 : (0 : Int) ≤ (p : Int) + 1 := by omega
  have hpw : IntKind.i64.wrap ((p : Int) + 1) = (p : Int) + 1 := by rw [i64_w]; unfold wrap64; omega
  have HBs := Lib.hid hbase
  clear hf h hrd ho1 ho3 he2 hbase
  go_enter Tryz.func39, Tryz.ntmps39
  go_wp2_with fail
  refine hat.mono ?_
  rintro e w1 ⟨rfl, hd⟩
  have HD := Lib.hid hd.below
  have HR1 := Lib.hid (HR.out.below hd.below)
  have hc := HR1.out.c
  clear hat
  go_upto_region 4 with fail
  have HBk : Hid (Below w1.heap.size w1 w1.drew) := Lib.hid (below_drew (Below.refl _ _))
  refine start_ (n := 19) (S := fun W => W.cell? ⟨g, 0, none⟩ = some (.slice A L.length c)) (ds := [18]) (upX 19 0 [7, 15, 18]) (by kernel_rfl) rfl (by kernel_rfl) ((HR1.out.below HBk.out).c) (fun hHeld => ?_)
  iterate 7
   refine nextX (v := ?_) (a' := ?_) rfl (by decide +kernel) (fun _ _ _ h => h) (Or.inl ⟨by rfl, ?_⟩) hHeld ?_ ?_
   rotate_left
   · intro w' s0
     go_simp
     with_reducible rfl
   rotate_left
   · simp only [Act.put, List.getElem_toArray, List.getElem_cons_zero, List.getElem_cons_succ, List.setIfInBounds_toArray, List.set_cons_zero, List.set_cons_succ, i64_w, i32_w]
     rfl
  refine skipX (by decide +kernel) ?_
  iterate 7
   refine nextX (v := ?_) (a' := ?_) rfl (by decide +kernel) (fun _ _ _ h => h) (Or.inl ⟨by rfl, ?_⟩) hHeld ?_ ?_
   rotate_left
   · intro w' s0
     go_simp
     with_reducible rfl
   rotate_left
   · simp only [Act.put, List.getElem_toArray, List.getElem_cons_zero, List.getElem_cons_succ, List.setIfInBounds_toArray, List.set_cons_zero, List.set_cons_succ, i64_w, i32_w]
     rfl
  refine one_ (i := 7) (N := some 22) (upX 19 15 []) rfl rfl (by decide +kernel) (by decide) (fun K hK => ?_)
  refine appF_step (by rfl) (.const (.slice none 0 0)) (.tmp 21) rfl Tryz.underlying46 info50 (v := .slice none 0 0) rfl (Kd.R_nil _ _ _ _ _) HBk.out.size o1 _ _ (by rw [HL1.out]; rfl) (Kd.C_below (Kd.C_below HC1.out HD.out) HBk.out) (by have h1 := HL1.out; simp; omega) ?_
  intro Y e w5 hy hb5 hg5 hd5
  have HY := Lib.hid hy
  have HBk := Lib.hid (HBk.out.trans hb5)
  clear hy hb5 hg5 hd5
  refine hK.out _ _ (HR1.out.below HBk.out).c (fun hHeld => ?_)
  clear hK K
  refine norm_ (a' := ?_) ?_ ?_
  rotate_left
  · show Act.put _ (some 22) _ = _
    simp only [Act.put, List.getElem_toArray, List.getElem_cons_zero, List.getElem_cons_succ, List.setIfInBounds_toArray, List.set_cons_zero, List.set_cons_succ, i64_w, i32_w]
    rfl
  refine one_ (i := 15) (N := some 30) (upX 19 16 []) rfl rfl (by decide +kernel) (by decide) (fun K hK => ?_)
  refine appF_step (by rfl) (.tmp 22) (.tmp 29) rfl Tryz.underlying46 info50 (v := .slice Y ([] ++ o1).length e) (by rfl) HY.out HBk.out.size o3 _ _ (by rw [HL3.out]; rfl) (Kd.C_below (Kd.C_below HC3.out HD.out) HBk.out) (by have h1 := HL1.out; have h3 := HL3.out; simp; omega) ?_
  intro Z f w6 hz hb6 hg6 hd6
  have HZ := Lib.hid hz
  have HBk := Lib.hid (HBk.out.trans hb6)
  clear hz hb6 hg6 hd6
  refine hK.out _ _ (HR1.out.below HBk.out).c (fun hHeld => ?_)
  clear hK K
  refine norm_ (a' := ?_) ?_ ?_
  rotate_left
  · show Act.put _ (some 30) _ = _
    simp only [Act.put, List.getElem_toArray, List.getElem_cons_zero, List.getElem_cons_succ, List.setIfInBounds_toArray, List.set_cons_zero, List.set_cons_succ, i64_w, i32_w]
    rfl
  iterate 2
   refine nextX (v := ?_) (a' := ?_) rfl (by decide +kernel) (fun _ _ _ h => h) (Or.inl ⟨by rfl, ?_⟩) hHeld ?_ ?_
   rotate_left
   · intro w' s0
     go_simp
     with_reducible rfl
   rotate_left
   · simp only [Act.put, List.getElem_toArray, List.getElem_cons_zero, List.getElem_cons_succ, List.setIfInBounds_toArray, List.set_cons_zero, List.set_cons_succ, i64_w, i32_w]
     rfl
  have hcell := (HR1.out.below HBk.out).cell
  have fz := blk_frozen hcell 0
  refine last_ (i := 18) (N := none) (upX 19 19 []) rfl rfl (by decide +kernel) (by decide) (fun K hK => ?_)
  refine skip_ (w1 := ?_) (by rfl) rfl ?_ ?_
  rotate_left
  · go_simp
    rfl
  refine hK.out _ _ ?_
  clear hK K
  refine done_ (by decide +kernel) ?_
  have hrow : RF (w6.setCell ⟨g, 0, none⟩ (.slice Z ([] ++ o1 ++ o3).length f)) base (.slice Z (o1 ++ o3).length f) (o1 ++ o3) := Kd.R_set (Kd.R_lower HZ.out (Nat.le_trans HBs.out HD.out.size)) hcell (by decide) 0 _
  have hfin : IsR (w6.setCell ⟨g, 0, none⟩ (.slice Z ([] ++ o1 ++ o3).length f)) base g Z f (o1 ++ o3) := ⟨blk_put hcell 0 _ rfl, hrow⟩
  have hbut : But w (w6.setCell ⟨g, 0, none⟩ (.slice Z ([] ++ o1 ++ o3).length f)) (ofR g A L.length c) := by
   have hb := below_then HD.out HD.out.size HBk.out
   have h0 := Below.setCell_but hb g 0 (.slice Z ([] ++ o1 ++ o3).length f)
   exact ⟨h0.os, h0.tape, h0.output, h0.size, fun k hk hS => h0.block k hk (fun e => hS (.inl e))⟩
  have e2 : w6.setCell ⟨g, 0, none⟩ (.slice Z ([] ++ o1 ++ o3).length f) = w6.setCell ⟨g, 0, none⟩ (.slice Z (o1.length + o3.length) f) := by rw [List.nil_append, List.length_append]
  rw [e2] at hfin hbut
  have HFi := Lib.hid hfin
  have HBu := Lib.hid hbut
  clear hfin hbut e2 hrow hcell fz
  go_wp2_with fail
  go_ret
  exact ⟨rfl, ⟨Z, f, HFi.out⟩, HBu.out⟩

theorem M_one {W : World} {g : Nat} {x : SFile} (h : W.heap[g]? = some (.cells #[.string x.f0, .string x.f1] 50 (0, 0))) : Kd.C k50 W (some ⟨g, 0, none⟩) 1 [x] := by
 refine ⟨rfl, by decide, fun _ => ⟨_, rfl, fun j p hj => ⟨[.string p.f0, .string p.f1], rfl, k50_mk W p, fun i u hu => ?_⟩⟩⟩
 obtain rfl : j = 0 := by have := (List.getElem?_eq_some_iff.1 hj).1; simpa using this
 simp only [List.getElem?_cons_zero, Option.some.injEq] at hj
 have e : (⟨g, 0, none⟩ : Addr).add (0 * k50.sz + i) = ⟨g, i, none⟩ := by rw [Nat.zero_mul, Nat.zero_add]; exact add_plain g i
 rw [e]
 exact (blk_cell h i).trans (by rw [hj]; simpa using hu)
theorem share4 {α1 α2 α3 α4 : Type} {F G : α1 → α2 → α3 → α4 → Prop} {R : Prop} (main : (∀ a b c d, F a b c d → G a b c d) → R) (tail : ∀ a b c d, F a b c d → G a b c d) : R := main tail
theorem found_lt {L : List SFile} {n : ByteArray} (hf : foundF L n = true) : posF L n < L.length := by
 rcases Nat.lt_or_ge (posF L n) L.length with h1 | h1
 · exact h1
 · unfold foundF at hf
   rw [List.getElem?_eq_none h1] at hf
   cases hf
set_option maxHeartbeats 8000000 in
set_option maxRecDepth 100000 in
theorem refWrite_calls (w : World) (base g : Nat) (A : Option Addr) (c : Nat) (L : List SFile) (n b : ByteArray) (h : IsR w base g A c L) (hl : L.length ≤ 1000) (hbase : base ≤ w.heap.size)
 (hMay : ∀ W, Below w.heap.size w W → Calls Tryz.prog 57 #[.string n] W fun e w' => e = .returned (.bool (may n.data.toList)) ∧ Below W.heap.size W w') :
 Calls Tryz.prog 36 #[.pointer (some ⟨g, 0, none⟩), .string n, .string b] w fun e w' => e = .returned (.int .i64 (writeR L n b).2) ∧ (∃ A' c', IsR w' base g A' c' (writeR L n b).1) ∧ But w w' (ofR g A L.length c) := by
 have hat := ref_at.calls w g A c L n h.c (Kd.R_reads' h.row).2.2
 have hpl := pos_le L n
 have HR := Lib.hid h
 have HMy := Lib.hid hMay
 have HBs := Lib.hid hbase
 have hfl := fun hf => found_lt (L := L) (n := n) hf
 unfold writeR
 generalize posF L n = p at hat hpl hfl ⊢
 generalize foundF L n = fd at hat hfl ⊢
 clear h hMay hbase
 by_cases hmy : may n.data.toList = false
 · rw [if_pos hmy]
   rw [hmy] at HMy
   clear hmy hfl
   go_enter Tryz.func36, Tryz.ntmps36
   go_wp2_with fail
   refine hat.mono ?_
   rintro e w1 ⟨rfl, hd⟩
   have HD := Lib.hid hd.below
   clear hat hd
   go_wp2_with fail
   refine (HMy.out _ HD.out).mono ?_
   rintro e w2 ⟨rfl, hb2⟩
   have HD2 := Lib.hid (below_then HD.out HD.out.size hb2)
   clear hb2
   go_wp2_with fail
   go_ret
   exact ⟨rfl, ⟨A, c, HR.out.below HD2.out⟩, But.ofBelow HD2.out⟩
 rw [if_neg hmy]
 have hmt : may n.data.toList = true := by simpa using hmy
 rw [hmt] at HMy
 clear hmy hmt
 have HPL := Lib.hid hpl
 have HFl := Lib.hid hfl
 have HLl := Lib.hid hl
 have hl2 : (L.length : Int) ≤ 1000 := by omega
 clear hpl hfl hl
 by_cases hbig : 2000 < b.size ∨ fd = false ∧ 60 ≤ L.length
 · rw [if_pos hbig]
   by_cases hsz : 2000 < b.size
   · have hsz2 : (2000 : Int) < (b.size : Int) := by omega
     clear hbig
     go_enter Tryz.func36, Tryz.ntmps36
     go_wp2_with fail
     refine hat.mono ?_
     rintro e w1 ⟨rfl, hd⟩
     have HD := Lib.hid hd.below
     clear hat hd
     go_wp2_with fail
     refine (HMy.out _ HD.out).mono ?_
     rintro e w2 ⟨rfl, hb2⟩
     have HD2 := Lib.hid (below_then HD.out HD.out.size hb2)
     have HR2 := Lib.hid (HR.out.below HD2.out)
     have hc := HR2.out.c
     clear hb2 HD
     go_wp2_with fail
     go_ret
     exact ⟨rfl, ⟨A, c, HR2.out⟩, But.ofBelow HD2.out⟩
   · have hsz2 : ¬ (2000 : Int) < (b.size : Int) := by omega
     obtain ⟨hfd, h60⟩ : fd = false ∧ 60 ≤ L.length := hbig.resolve_left hsz
     have h60z : (60 : Int) ≤ (L.length : Int) := by omega
     subst hfd
     clear hbig hsz
     go_enter Tryz.func36, Tryz.ntmps36
     go_wp2_with fail
     refine hat.mono ?_
     rintro e w1 ⟨rfl, hd⟩
     have HD := Lib.hid hd.below
     clear hat hd
     go_wp2_with fail
     refine (HMy.out _ HD.out).mono ?_
     rintro e w2 ⟨rfl, hb2⟩
     have HD2 := Lib.hid (below_then HD.out HD.out.size hb2)
     have HR2 := Lib.hid (HR.out.below HD2.out)
     have hc := HR2.out.c
     clear hb2 HD
     go_wp2_with fail
     go_ret
     exact ⟨rfl, ⟨A, c, HR2.out⟩, But.ofBelow HD2.out⟩
 rw [if_neg hbig]
 have hb0 : ¬ 2000 < b.size := fun h => hbig (.inl h)
 have hb1 : ¬ (2000 : Int) < (b.size : Int) := by omega
 cases fd with
 | true =>
  rw [if_pos rfl]
  have hlt := HFl.out rfl
  obtain ⟨x0, hx0⟩ : ∃ q, q = (L.getD p ⟨n, b⟩).f0 := ⟨_, rfl⟩
  rw [← hx0]
  have HX0 := Lib.hid hx0
  clear hx0
  have hpz : (p : Int) < (L.length : Int) := by omega
  have hpz0 : (0 : Int) ≤ (p : Int) := by omega
  clear hbig hb0
  go_enter Tryz.func36, Tryz.ntmps36
  go_wp2_with fail
  refine hat.mono ?_
  rintro e w1 ⟨rfl, hd⟩
  have HD := Lib.hid hd.below
  clear hat hd
  go_wp2_with fail
  refine (HMy.out _ HD.out).mono ?_
  rintro e w2 ⟨rfl, hb2⟩
  have HD2 := Lib.hid (below_then HD.out HD.out.size hb2)
  have HR2 := Lib.hid (HR.out.below HD2.out)
  have hc := HR2.out.c
  clear hb2 HD
  obtain ⟨g5, cap, ev, hgb, hgl, cur, hcur⟩ := Kd.R_form HR2.out.row (by omega)
  injection ev with ev1 ev2 ev3
  subst ev1 ev3
  obtain ⟨ad, he, hx0, hx1⟩ := at_T50 (Kd.R_reads' HR2.out.row).2.2 (p : Int) hpz0 hpz
  injection he with he
  subst he
  rw [Int.toNat_natCast] at hx0 hx1
  have hxi : rd_T50 L (p : Int) = L[p] := by unfold rd_T50; simp [List.getD_eq_getElem?_getD, List.getElem?_eq_getElem hlt]
  rw [hxi] at hx0 hx1
  have hgd : (L.getD p ⟨n, b⟩) = L[p] := by simp [List.getD_eq_getElem?_getD, List.getElem?_eq_getElem hlt]
  have HGD := Lib.hid hgd
  generalize L[p] = x at hx0 hx1 HGD
  have hy0 : w2.cell? ⟨g5, p * 2, none⟩ = some (.string x.f0) := by have := hx0; rwa [add_plain] at this
  have hy1 : w2.cell? ⟨g5, p * 2 + 1, none⟩ = some (.string x.f1) := by have := hx1; rw [add_plain] at this; exact this
  have hfz := blk_frozen hcur (p * 2 + 1)
  have hseg := Kd.R_seg HR2.out.row (p : Int) hpz0 hpz (c := [.string x.f0, .string x.f1]) (seg := [.string b]) (j := 1) rfl (fun j u hu => by
   rw [Int.toNat_natCast]
   rcases j with _ | _ | j
   · simp only [List.getElem?_cons_zero, Option.some.injEq] at hu; rw [← hu]; exact hy0
   · simp only [List.getElem?_cons_succ, List.getElem?_cons_zero, Option.some.injEq] at hu; rw [← hu]; exact hy1
   · simp at hu) (show 1 + 1 ≤ 2 by decide) (x' := ⟨x.f0, b⟩) (okp := fun _ => False) (k50_mkM w2 base _ ⟨x.f0, b⟩) (fun _ hk => hk.elim)
  rw [Int.toNat_natCast] at hseg
  have hrow : RF (w2.setCell ⟨g5, p * 2 + 1, none⟩ (.string b)) base (.slice (some ⟨g5, 0, none⟩) L.length c) (L.set p ⟨x.f0, b⟩) := hseg.1
  have hgr : w2.grownBy (w2.setCell ⟨g5, p * 2 + 1, none⟩ (.string b)) (some g5) := hseg.2
  have hg5 : g ≠ g5 := by
   rintro rfl
   rw [HR2.out.cell] at hcur
   injection hcur with hcur
   injection hcur with _ h2
   exact absurd h2 (by decide)
  have hcl := (blk_far HR2.out.cell (p := ⟨g5, p * 2 + 1, none⟩) hg5 (.string b))
  have HRow := Lib.hid hrow
  have HCl := Lib.hid hcl
  have HGr := Lib.hid hgr
  have hxx : x.f0 = x0 := by rw [HX0.out, HGD.out]
  rw [hxx] at HRow
  clear hxx hseg hrow hgr hcl hg5 hx0 hx1 hxi hgd hy0 hcur cur hgb ev2
  go_wp2_with fail
  go_ret
  refine ⟨rfl, ⟨some ⟨g5, 0, none⟩, c, ⟨?_, ?_⟩⟩, ⟨HGr.out.os.trans HD2.out.os, HGr.out.tape.trans HD2.out.tape, HGr.out.output.trans HD2.out.output, Nat.le_trans HD2.out.size HGr.out.size, fun k hk hS => ?_⟩⟩
  · rw [List.length_set]; exact HCl.out
  · rw [List.length_set]; exact HRow.out
  · exact (HGr.out.block k (Nat.lt_of_lt_of_le hk HD2.out.size) (fun e => hS (.inr e))).trans (HD2.out.block k hk)
 | false =>
  rw [if_neg (by simp)]
  have h60 : ¬ 60 ≤ L.length := fun h => hbig (.inr ⟨rfl, h⟩)
  have h60z : ¬ (60 : Int) ≤ (L.length : Int) := by omega
  have hpl := HPL.out
  have hrd0 := Kd.R_reads HR.out.row
  obtain ⟨X', c', he, hcap, hrd⟩ := hrd0
  injection he with he1 he2 he3
  subst he1 he3
  obtain ⟨o1, ho1⟩ : ∃ q, q = L.take p := ⟨_, rfl⟩
  obtain ⟨o3, ho3⟩ : ∃ q, q = L.drop p := ⟨_, rfl⟩
  obtain ⟨X3, hX3⟩ : ∃ Z, (if c = p then A else Option.map (fun x => x.add (p * 2)) A) = Z := ⟨_, rfl⟩
  have HL1 : Hid (o1.length = p) := by show _ = _; rw [ho1, List.length_take]; omega
  have HL3 : Hid (o3.length = L.length - p) := by show _ = _; rw [ho3, List.length_drop]
  have HC1 : Hid (Kd.C k50 w A o1.length o1) := by show Kd.C _ _ _ _ _; rw [ho1]; exact Kd.C_take hrd (by omega)
  have HC3 : Hid (Kd.C k50 w X3 o3.length o3) := by show Kd.C _ _ _ _ _; rw [ho3, ← hX3]; exact Kd.C_drop hrd (by omega) hcap
  rw [← ho1, ← ho3]
  have hb11 : (p : Int) ≤ (L.length : Int) := by omega
  have hb12 : (L.length : Int) ≤ (c : Int) := by omega
  have hb13 : (p : Int) ≤ (c : Int) := by omega
  have hb10 : (0 : Int) ≤ (p : Int) := by omega
  have HL60 : Hid (L.length < 60) := by show _ < _; omega
  clear hbig hb0 h60 hpl hrd ho1 ho3 he2
  go_enter Tryz.func36, Tryz.ntmps36
  go_wp2_with fail
  refine hat.mono ?_
  rintro e w1 ⟨rfl, hd⟩
  have HD := Lib.hid hd.below
  clear hat hd
  go_wp2_with fail
  refine (HMy.out _ HD.out).mono ?_
  rintro e w2 ⟨rfl, hb2⟩
  have HD2 := Lib.hid (below_then HD.out HD.out.size hb2)
  have HR2 := Lib.hid (HR.out.below HD2.out)
  have hc := HR2.out.c
  clear hb2 HD
  go_upto_region 2 with fail
  have HBk : Hid (Below w2.heap.size w2 w2.drew) := Lib.hid (below_drew (Below.refl _ _))
  refine start_ (n := 23) (S := fun W => W.cell? ⟨g, 0, none⟩ = some (.slice A L.length c)) (ds := [22]) (upX 23 0 [7, 11, 12, 19, 22]) (by kernel_rfl) rfl (by kernel_rfl) ((HR2.out.below HBk.out).c) (fun hHeld => ?_)
  iterate 7
   refine nextX (v := ?_) (a' := ?_) rfl (by decide +kernel) (fun _ _ _ h => h) (Or.inl ⟨by rfl, ?_⟩) hHeld ?_ ?_
   rotate_left
   · intro w' s0
     go_simp
     with_reducible rfl
   rotate_left
   · simp only [Act.put, List.getElem_toArray, List.getElem_cons_zero, List.getElem_cons_succ, List.setIfInBounds_toArray, List.set_cons_zero, List.set_cons_succ, i64_w, i32_w]
     rfl
  refine skipX (by decide +kernel) ?_
  iterate 3
   refine nextX (v := ?_) (a' := ?_) rfl (by decide +kernel) (fun _ _ _ h => h) (Or.inl ⟨by rfl, ?_⟩) hHeld ?_ ?_
   rotate_left
   · intro w' s0
     go_simp
     with_reducible rfl
   rotate_left
   · simp only [Act.put, List.getElem_toArray, List.getElem_cons_zero, List.getElem_cons_succ, List.setIfInBounds_toArray, List.set_cons_zero, List.set_cons_succ, i64_w, i32_w]
     rfl
  refine skipX (by decide +kernel) ?_
  refine skipX (by decide +kernel) ?_
  iterate 6
   refine nextX (v := ?_) (a' := ?_) rfl (by decide +kernel) (fun _ _ _ h => h) (Or.inl ⟨by rfl, ?_⟩) hHeld ?_ ?_
   rotate_left
   · intro w' s0
     go_simp
     with_reducible rfl
   rotate_left
   · simp only [Act.put, List.getElem_toArray, List.getElem_cons_zero, List.getElem_cons_succ, List.setIfInBounds_toArray, List.set_cons_zero, List.set_cons_succ, i64_w, i32_w]
     rfl
  apply share4 (F := fun (Y : Option Addr) (e gb : Nat) (W : World) => RF W w2.heap.size (.slice Y o1.length e) o1 ∧ W.heap[gb]? = some (.cells #[.string n, .string b] 50 (0, 0)) ∧ Below w2.heap.size w2 W)
  · intro tail
    refine two_ (i := 7) (j := 11) (Ni := some 22) (Nj := some 26) (upX 23 19 [11, 12]) (upX 23 19 [7, 12]) rfl rfl rfl rfl (by decide +kernel) (by decide) (by decide) (fun K hK => ?_) (fun K hK => ?_)
    · refine appF_step (by rfl) (.const (.slice none 0 0)) (.tmp 21) rfl Tryz.underlying46 info50 (v := .slice none 0 0) rfl (Kd.R_nil _ _ _ _ _) HBk.out.size o1 _ _ (by rw [HL1.out]; rfl) (Kd.C_below (Kd.C_below HC1.out HD2.out) HBk.out) (by have h1 := HL1.out; have h2 := HL60.out; simp; omega) ?_
      intro Y e w5 hy hb5 hg5 hd5
      have HBk := Lib.hid (HBk.out.trans hb5)
      refine hK.out _ _ (HR2.out.below HBk.out).c (fun hHeld => ?_)
      clear hK K
      refine norm_ (a' := ?_) ?_ ?_
      rotate_left
      · show Act.put _ (some 22) _ = _
        simp only [Act.put, List.getElem_toArray, List.getElem_cons_zero, List.getElem_cons_succ, List.setIfInBounds_toArray, List.set_cons_zero, List.set_cons_succ, i64_w, i32_w]
        rfl
      refine one_ (i := 11) (N := some 26) (upX 23 19 [12]) rfl rfl (by decide +kernel) (by decide) (fun K hK => ?_)
      refine value_ (w1 := ?_) (v := ?_) (by rfl) rfl ?_ ?_
      rotate_left 2
      · go_simp
        constructor
        · rfl
        · rfl
      have hal := (Below.refl w5.heap.size w5).alloc (Nat.le_refl _) (.cells #[.string n, .string b] 50)
      have HBk := Lib.hid (HBk.out.alloc HBk.out.size (.cells #[.string n, .string b] 50))
      refine hK.out _ _ (HR2.out.below HBk.out).c (fun hHeld => ?_)
      clear hK K
      refine norm_ (a' := ?_) ?_ ?_
      rotate_left
      · show Act.put _ (some 26) _ = _
        simp only [Act.put, List.getElem_toArray, List.getElem_cons_zero, List.getElem_cons_succ, List.setIfInBounds_toArray, List.set_cons_zero, List.set_cons_succ, i64_w, i32_w]
        rfl
      have hF : RF (w5.alloc (.cells #[.string n, .string b] 50)) w2.heap.size (.slice Y o1.length e) o1 ∧ (w5.alloc (.cells #[.string n, .string b] 50)).heap[w5.heap.size]? = some (.cells #[.string n, .string b] 50 (0, 0)) ∧ Below w2.heap.size w2 (w5.alloc (.cells #[.string n, .string b] 50)) := ⟨Kd.R_below hy hal, blk_new w5 _, HBk.out⟩
      clear hb5 hg5 hd5 hal hHeld
      generalize w5.alloc (.cells #[.string n, .string b] 50) = W at hF ⊢
      generalize w5.heap.size = gb at hF ⊢
      exact tail Y e gb W hF
    · refine value_ (w1 := ?_) (v := ?_) (by rfl) rfl ?_ ?_
      rotate_left 2
      · go_simp
        constructor
        · rfl
        · rfl
      have hE : (w2.alloc (.cells #[.string n, .string b] 50)).drew.heap[w2.heap.size]? = some (.cells #[.string n, .string b] 50 (0, 0)) := blk_drew (blk_new w2 _)
      have HBk : Hid (Below w2.heap.size w2 (w2.alloc (.cells #[.string n, .string b] 50)).drew) := Lib.hid (below_drew ((Below.refl _ _).alloc (Nat.le_refl _) _))
      refine hK.out _ _ (HR2.out.below HBk.out).c (fun hHeld => ?_)
      clear hK K
      refine norm_ (a' := ?_) ?_ ?_
      rotate_left
      · show Act.put _ (some 26) _ = _
        simp only [Act.put, List.getElem_toArray, List.getElem_cons_zero, List.getElem_cons_succ, List.setIfInBounds_toArray, List.set_cons_zero, List.set_cons_succ, i64_w, i32_w]
        rfl
      refine one_ (i := 7) (N := some 22) (upX 23 19 [12]) rfl rfl (by decide +kernel) (by decide) (fun K hK => ?_)
      refine appF_step (by rfl) (.const (.slice none 0 0)) (.tmp 21) rfl Tryz.underlying46 info50 (v := .slice none 0 0) rfl (Kd.R_nil _ _ _ _ _) HBk.out.size o1 _ _ (by rw [HL1.out]; rfl) (Kd.C_below (Kd.C_below HC1.out HD2.out) HBk.out) (by have h1 := HL1.out; have h2 := HL60.out; simp; omega) ?_
      intro Y e w5 hy hb5 hg5 hd5
      have hE5 := blk_grown hE hg5 (by simp [Value.ownBlock])
      have HBk := Lib.hid (HBk.out.trans hb5)
      refine hK.out _ _ (HR2.out.below HBk.out).c (fun hHeld => ?_)
      clear hK K
      refine norm_ (a' := ?_) ?_ ?_
      rotate_left
      · show Act.put _ (some 22) _ = _
        simp only [Act.put, List.getElem_toArray, List.getElem_cons_zero, List.getElem_cons_succ, List.setIfInBounds_toArray, List.set_cons_zero, List.set_cons_succ, i64_w, i32_w]
        rfl
      exact tail Y e w2.heap.size w5 ⟨hy, hE5, HBk.out⟩
  intro Y e gb W ⟨hy, hE, hb⟩
  have HY : Hid (RF W w2.heap.size (.slice Y ([] ++ o1).length e) ([] ++ o1)) := Lib.hid hy
  have HE := Lib.hid hE
  have HBk := Lib.hid hb
  have hHeld := (HR2.out.below hb).c
  clear hy hE hb
  refine one_ (i := 12) (N := some 27) (upX 23 19 []) rfl rfl (by decide +kernel) (by decide) (fun K hK => ?_)
  refine appF_step (by rfl) (.tmp 22) (.tmp 26) rfl Tryz.underlying46 info50 (v := .slice Y ([] ++ o1).length e) (by rfl) HY.out HBk.out.size [⟨n, b⟩] _ _ (by rfl) (M_one (x := ⟨n, b⟩) HE.out) (by have h1 := HL1.out; have h2 := HL60.out; simp; omega) ?_
  intro Z f w6 hz hb6 hg6 hd6
  have HZ := Lib.hid hz
  have HBk := Lib.hid (HBk.out.trans hb6)
  clear hz hb6 hg6 hd6
  refine hK.out _ _ (HR2.out.below HBk.out).c (fun hHeld => ?_)
  clear hK K
  refine norm_ (a' := ?_) ?_ ?_
  rotate_left
  · show Act.put _ (some 27) _ = _
    simp only [Act.put, List.getElem_toArray, List.getElem_cons_zero, List.getElem_cons_succ, List.setIfInBounds_toArray, List.set_cons_zero, List.set_cons_succ, i64_w, i32_w]
    rfl
  refine one_ (i := 19) (N := some 34) (upX 23 20 []) rfl rfl (by decide +kernel) (by decide) (fun K hK => ?_)
  refine appF_step (by rfl) (.tmp 27) (.tmp 33) rfl Tryz.underlying46 info50 (v := .slice Z ([] ++ o1 ++ [(⟨n, b⟩ : SFile)]).length f) (by rfl) HZ.out HBk.out.size o3 _ _ (by rw [HL3.out]; rfl) (Kd.C_below (Kd.C_below HC3.out HD2.out) HBk.out) (by have h1 := HL1.out; have h3 := HL3.out; have h2 := HL60.out; simp; omega) ?_
  intro V m w7 hv hb7 hg7 hd7
  have HV := Lib.hid hv
  have HBk := Lib.hid (HBk.out.trans hb7)
  clear hv hb7 hg7 hd7
  refine hK.out _ _ (HR2.out.below HBk.out).c (fun hHeld => ?_)
  clear hK K
  refine norm_ (a' := ?_) ?_ ?_
  rotate_left
  · show Act.put _ (some 34) _ = _
    simp only [Act.put, List.getElem_toArray, List.getElem_cons_zero, List.getElem_cons_succ, List.setIfInBounds_toArray, List.set_cons_zero, List.set_cons_succ, i64_w, i32_w]
    rfl
  iterate 2
   refine nextX (v := ?_) (a' := ?_) rfl (by decide +kernel) (fun _ _ _ h => h) (Or.inl ⟨by rfl, ?_⟩) hHeld ?_ ?_
   rotate_left
   · intro w' s0
     go_simp
     with_reducible rfl
   rotate_left
   · simp only [Act.put, List.getElem_toArray, List.getElem_cons_zero, List.getElem_cons_succ, List.setIfInBounds_toArray, List.set_cons_zero, List.set_cons_succ, i64_w, i32_w]
     rfl
  have hcell := (HR2.out.below HBk.out).cell
  have fz := blk_frozen hcell 0
  refine last_ (i := 22) (N := none) (upX 23 23 []) rfl rfl (by decide +kernel) (by decide) (fun K hK => ?_)
  refine skip_ (w1 := ?_) (by rfl) rfl ?_ ?_
  rotate_left
  · go_simp
    rfl
  refine hK.out _ _ ?_
  clear hK K
  refine done_ (by decide +kernel) ?_
  have hln : ([] ++ o1 ++ [(⟨n, b⟩ : SFile)] ++ o3).length = o1.length + (o3.length + 1) := by simp [Nat.add_assoc, Nat.add_comm 1]
  have hrow : RF (w7.setCell ⟨g, 0, none⟩ (.slice V ([] ++ o1 ++ [(⟨n, b⟩ : SFile)] ++ o3).length m)) base (.slice V (o1 ++ [(⟨n, b⟩ : SFile)] ++ o3).length m) (o1 ++ [(⟨n, b⟩ : SFile)] ++ o3) := Kd.R_set (Kd.R_lower HV.out (Nat.le_trans HBs.out HD2.out.size)) hcell (by decide) 0 _
  have hfin : IsR (w7.setCell ⟨g, 0, none⟩ (.slice V ([] ++ o1 ++ [(⟨n, b⟩ : SFile)] ++ o3).length m)) base g V m (o1 ++ [(⟨n, b⟩ : SFile)] ++ o3) := ⟨blk_put hcell 0 _ rfl, hrow⟩
  have hbut : But w (w7.setCell ⟨g, 0, none⟩ (.slice V ([] ++ o1 ++ [(⟨n, b⟩ : SFile)] ++ o3).length m)) (ofR g A L.length c) := by
   have hb := below_then HD2.out HD2.out.size HBk.out
   have h0 := Below.setCell_but hb g 0 (.slice V ([] ++ o1 ++ [(⟨n, b⟩ : SFile)] ++ o3).length m)
   exact ⟨h0.os, h0.tape, h0.output, h0.size, fun k hk hS => h0.block k hk (fun e => hS (.inl e))⟩
  rw [hln] at hfin hbut
  have HFi := Lib.hid hfin
  have HBu := Lib.hid hbut
  clear hfin hbut hln hrow hcell fz
  go_wp2_with fail
  go_ret
  exact ⟨rfl, ⟨V, m, HFi.out⟩, HBu.out⟩

end Go.Proofs.YtobbliglnjgbaaaGreatDoor.X

namespace Go.Proofs.YtobbliglnjgbaaaGreatDoor.X
open Go.RowKit Go.Maps Go.Proofs.YtobbliglnjgbaaaGreatDoorW.PrintWords Go.Proofs.YtobbliglnjgbaaaGreatDoorW.PrintMore Go.Proofs.YtobbliglnjgbaaaGreatDoorW.PrintLast Go.Proofs.YtobbliglnjgbaaaGreatDoor.Pb Go.Proofs.YtobbliglnjgbaaaGreatDoor.Pc
set_option linter.unusedSimpArgs false

abbrev RS (w : World) (base : Nat) (v : Value) (l : List ByteArray) : Prop := Kd.R Kd.string 9 w base (fun _ => True) v l
theorem one_byteN (W : World) (v : Int) : (convert 43 9 (.slice (some ⟨W.heap.size, 0, none⟩) 1 1)).run Tryz.prog (W.alloc (.cells #[.int .u8 v] 5)) = .ok (.string (mk [UInt8.ofNat v.toNat])) (W.alloc (.cells #[.int .u8 v] 5)) := by
 have h : ReadsInt (W.alloc (.cells #[.int .u8 v] 5)) .u8 (some ⟨W.heap.size, 0, none⟩) 1 [v] := by
  refine ⟨rfl, by decide, fun _ => ⟨_, rfl, fun j hj => ?_⟩⟩
  obtain rfl : j = 0 := by omega
  rw [add_plain]
  exact (blk_cell (heap_alloc_new W (.cells #[.int .u8 v] 5)) 0).trans rfl
 exact string_of_reads Tryz.underlying43 Tryz.underlying5 Tryz.underlying9 h
section
variable {P : Program} {ops : Array Oper} {o : Oper} {a : Act} {Kc : Act → World → Prop} {Q : Exit → Act → World → Prop} {W : World}
theorem app_row_step (hw : Region.wanted o (yielded ops a.tmps) = true) (s x : Operand)
 (ho : o.op = .call { callee := .builtin .append, args := #[s, x], argTypes := #[28, 28] })
 (ht : P.underlying 28 = some (.slice 9)) (hinfo : (P.info? 9).map (fun i => (i.zero, i.size, i.bytes)) = some (some (.string ⟨#[]⟩), 1, 16))
 {base : Nat} {v : Value} {xs : List ByteArray} (hs : a.eval s = v) (HO : RS W base v xs) (hbase : base ≤ W.heap.size)
 (l : List ByteArray) (A : Option Addr) (c : Nat) (hx : a.eval x = .slice A l.length c) (HR : Kd.C Kd.string W A l.length l) (hl : (xs.length + l.length) * 16 ≤ 140737488355328)
 (h : ∀ X d w1, RS w1 base (.slice X (xs ++ l).length d) (xs ++ l) → Below base W w1 → Kc (a.put o.dst (.slice X (xs ++ l).length d)) w1) :
 if Region.wanted o (yielded ops a.tmps) = true then Oper.wp P o a W Kc Q else Kc (a.put o.dst undef) W := by
 refine Kd.R_append_rows_step Kd.string (w0 := W) base hw s x 28 9 (.string ⟨#[]⟩) 16 ho ht hinfo rfl (by decide) (by decide) v xs l A l.length c (fun _ => True) (fun k_ => True ∧ some k_ ≠ v.ownBlock) hs hx HO HR (fun _ _ h => h) (fun _ hk => hk) (fun _ _ => trivial) (Below.refl _ _) hbase hl ?_
 intro v1 w1 ho1 hb1 _ _
 obtain ⟨X, d, rfl, _, _⟩ := Kd.R_reads ho1
 exact h X d w1 ho1 hb1
end
theorem C_two {W : World} {g : Nat} {x y : ByteArray} (h : W.heap[g]? = some (.cells #[.string x, .string y] 9 (0, 0))) : Kd.C Kd.string W (some ⟨g, 0, none⟩) 2 [x, y] := by
 refine ⟨rfl, by decide, fun _ => ⟨_, rfl, fun j p hj => ⟨[.string p], rfl, rfl, fun i u hu => ?_⟩⟩⟩
 obtain rfl : i = 0 := by have := (List.getElem?_eq_some_iff.1 hu).1; simpa using this
 simp only [List.getElem?_cons_zero, Option.some.injEq] at hu
 rw [← hu]
 have e : (⟨g, 0, none⟩ : Addr).add (j * Kd.string.sz + 0) = ⟨g, j, none⟩ := by rw [show j * Kd.string.sz + 0 = j from Nat.mul_one j]; exact add_plain g j
 rw [e]
 refine (blk_cell h j).trans ?_
 rcases j with _ | _ | j
 · simp only [List.getElem?_cons_zero, Option.some.injEq] at hj; rw [← hj]; rfl
 · simp only [List.getElem?_cons_succ, List.getElem?_cons_zero, Option.some.injEq] at hj; rw [← hj]; rfl
 · simp at hj
theorem dig10 (u : Nat) (h : u < 10) : Lib.decDigits u = [UInt8.ofNat (48 + u)] := by
 rw [Lib.decDigits]
 split
 · rfl
 · omega
theorem digR (u : Nat) (h : ¬ u < 10) : Lib.decDigits u = Lib.decDigits (u / 10) ++ Lib.decDigits (u % 10) := by
 rw [dig10 (u % 10) (by omega)]
 conv => lhs; rw [Lib.decDigits]
 split
 · omega
 · rfl
theorem put_piece (t dn : Bytes) (x : ByteArray) : mk t ++ (mk dn ++ (⟨#[58]⟩ : ByteArray) ++ x) = mk (t ++ (dn ++ [58] ++ x.data.toList)) := by
 have e : x = mk x.data.toList := (data_mk x).symm
 have e2 : (⟨#[58]⟩ : ByteArray) = mk [58] := rfl
 rw [e2]
 conv => lhs; rw [e]
 rw [mk_append, mk_append, mk_append]
set_option maxHeartbeats 1000000 in
theorem refNumF_small (u : Nat) (h : u < 10) (w : World) : Calls Tryz.prog 27 #[.int .i64 (u : Int)] w fun e w' => e = .returned (.string (mk (Lib.decDigits u))) ∧ Below w.heap.size w w' := by
 have hm1 : max (u : Int) 0 = (u : Int) := by omega
 have hcv := one_byteN w (48 + (u : Int))
 have hw : IntKind.u8.wrap (48 + (u : Int)) = 48 + (u : Int) := by
  have : (48 + (u : Int)) % 256 = 48 + (u : Int) := Int.emod_eq_of_lt (by omega) (by omega)
  simp [IntKind.wrap, IntKind.bits, IntKind.signed, this]
 have hd : Lib.decDigits u = [UInt8.ofNat (48 + (u : Int)).toNat] := by
  rw [dig10 u h, show (48 + (u : Int)).toNat = 48 + u by omega]
 rw [hd]
 have hz : (u : Int) < 10 := by omega
 clear hd
 go_enter Tryz.func27, Tryz.ntmps27
 go_wp2_with fail
 go_ret
 exact ⟨rfl, (Below.refl _ _).alloc (Nat.le_refl _) _⟩
theorem refNumF : ∀ (k : Nat) (_ : k ≤ 30) (u : Nat) (w : World), u < 10 ^ (k + 1) → u ≤ 9223372036854775807 → Calls Tryz.prog 27 #[.int .i64 (u : Int)] w fun e w' => e = .returned (.string (mk (Lib.decDigits u))) ∧ Below w.heap.size w w' := by
 intro k
 induction k with
 | zero => exact fun _ u w h _ => refNumF_small u (by simpa using h) w
 | succ k ih =>
  intro hk u w h hx
  by_cases h10 : u < 10
  · exact refNumF_small u h10 w
  · have hq := fun W => ih (by omega) (u / 10) W (by rw [Nat.pow_succ] at h; omega) (by omega)
    have hr := fun W => refNumF_small (u % 10) (by omega) W
    have hd := digR u h10
    rw [hd]
    have hs := digits_length_le (u / 10)
    have hs2 := digits_length_le (u % 10)
    obtain ⟨q, hqq⟩ : ∃ q, u / 10 = q := ⟨_, rfl⟩
    obtain ⟨r, hrr⟩ : ∃ r, u % 10 = r := ⟨_, rfl⟩
    have hr10 : u % 10 < 10 := by omega
    rw [hqq] at hq hs ⊢
    rw [hrr] at hr hs2 hr10 ⊢
    have hd1 : Int.tdiv (u : Int) 10 = (q : Int) := by rw [Int.tdiv_eq_ediv_of_nonneg (by omega)]; omega
    have hd2 : (u : Int) / 10 = (q : Int) := by omega
    have hm1 : Int.tmod (u : Int) 10 = (r : Int) := by rw [Int.tmod_eq_emod_of_nonneg (by omega)]; omega
    have hz : ¬ (u : Int) < 10 := by omega
    have hqs : q ≤ 922337203685477580 := by omega
    generalize Lib.decDigits q = dq at hq hs ⊢
    generalize Lib.decDigits r = dr at hr hs2 ⊢
    have ho : ¬ 9223372036854775807 < (mk dq).size + (mk dr).size := by rw [mk_size, mk_size]; omega
    clear ih h hd hqq hrr hs hs2 hr10
    go_enter Tryz.func27, Tryz.ntmps27
    go_wp2_with (first | (go_at_call_of 27 (Value.int .i64 (q : Int)); refine (hq _).mono ?_; rintro e w1 ⟨rfl, hb1⟩) | (go_at_call_of 27 (Value.int .i64 (r : Int)); refine (hr _).mono ?_; rintro e w2 ⟨rfl, hb2⟩))
    go_ret
    exact ⟨by rw [mk_append]; rfl, below_then hb1 hb1.size hb2⟩

set_option maxHeartbeats 4000000 in
set_option maxRecDepth 100000 in
theorem refPut_calls (A : Option Addr) (c : Nat) (l : List ByteArray) (w : World) (hC : Kd.C Kd.string w A l.length l) (hP : (put (l.map (·.data.toList))).length ≤ 140737488355328) :
 Calls Tryz.prog 50 #[.slice A l.length c] w fun e w' => e = .returned (.string (mk (put (l.map (·.data.toList))))) ∧ Below w.heap.size w w' := by
 have HC := Lib.hid hC
 have HP := Lib.hid hP
 have hlen : l.length ≤ 140737488355328 := by have := put_ge (l.map (·.data.toList)); rw [List.length_map] at this; omega
 clear hC hP
 obtain ⟨T, hT⟩ : ∃ T, T = mk (put (l.map (·.data.toList))) := ⟨_, rfl⟩
 rw [← hT]
 have HT := Lib.hid hT
 clear hT
 go_enter Tryz.func50, Tryz.ntmps50
 go_wp2_with fail
 go_loopg [3, 4] l.length (fun gg s3 s4 wr => ∃ (kk : Nat) (t : Bytes), kk ≤ l.length ∧ l.length - kk ≤ gg ∧ s4 = .int .i64 kk ∧ s3 = .string (mk t) ∧ Aside0 (t = put ((l.map (·.data.toList)).take kk)) ∧ Aside0 (Below w.heap.size w wr))
 case atStart => exact ⟨0, [], Nat.zero_le _, by omega, rfl, rfl, ⟨rfl⟩, ⟨Below.refl _ _⟩⟩
 case round =>
  obtain ⟨kk, t, hkk, hgk, rfl, rfl, HK, HB⟩ := hrel
  by_cases hlt : kk < l.length
  · have hltz : (kk : Int) < (l.length : Int) := by omega
    rcases row_open HC.out with h0 | ⟨b, o, rfl, _, hcell⟩
    · exfalso; rw [h0] at hlt; simp at hlt
    have p0 : w.cell? ⟨b, o + kk, none⟩ = some (.string (l.getD kk ByteArray.empty)) := hcell kk hlt
    have hxi : l.getD kk ByteArray.empty = l[kk] := by rw [List.getD_eq_getElem?_getD, List.getElem?_eq_getElem hlt]; rfl
    rw [hxi] at p0
    have htk := put_take (l.map (·.data.toList)) kk (by rw [List.length_map]; exact hlt)
    rw [List.getElem_map] at htk
    have hle := put_take_le (l.map (·.data.toList)) (kk + 1)
    rw [htk] at hle
    generalize l[kk] = x at p0 htk hle
    rw [← HK.out] at htk hle
    have hn : number ((x.data.toList.length : Nat) : Int) = Lib.decDigits x.size := by rw [Lib.size_eq]; simp [number]
    rw [hn] at htk hle
    have hle2 := Nat.le_trans hle HP.out
    simp only [List.length_append, List.length_singleton] at hle2
    rw [← Lib.size_eq] at hle2
    have hN := fun W => refNumF 19 (by omega) x.size W (by show x.size < 100000000000000000000; omega) (by omega)
    generalize Lib.decDigits x.size = dn at hN htk hle2
    have ho1 : ¬ 9223372036854775807 < (mk dn).size + 1 := by rw [mk_size]; omega
    have ho2 : ¬ 9223372036854775807 < (mk dn).size + 1 + x.size := by rw [mk_size]; omega
    have ho3 : ¬ 9223372036854775807 < (mk t).size + ((mk dn).size + 1 + x.size) := by rw [mk_size, mk_size]; omega
    have HTK := Lib.hid htk
    have HP0 := Lib.hid p0
    have hS : ∀ W, Below wr.heap.size wr W → W.cell? ⟨b, o + kk, none⟩ = some (.string x) := fun W hW => cell_keeps (below_then HB.out HB.out.size hW) HP0.out
    have HS := Lib.hid hS
    have HNm := Lib.hid hN
    have HBk : Hid (Below wr.heap.size wr wr.drew) := Lib.hid (below_drew (Below.refl _ _))
    clear htk hle hle2 hn hN hS p0 hcell hxi
    go_wp2_with fail
    go_region_held3 (fun W => W.cell? ⟨b, o + kk, none⟩ = some (.string x)) (exact HS.out _ HBk.out) (first
     | (go_at_call 27; refine (HNm.out _).mono ?_; rintro e w5 ⟨rfl, hb⟩; have HBk := Lib.hid (below_then HBk.out HBk.out.size hb); clear hb))
    all_goals
     go_wp2_with fail
     go_roundg (l.length - (kk + 1))
     case measure => omega
     case rel => exact ⟨kk + 1, t ++ (dn ++ [58] ++ x.data.toList), by omega, by omega, by first | rfl | go_num, by rw [put_piece], ⟨HTK.out.symm⟩, ⟨below_then HB.out HB.out.size HBk.out⟩⟩
  · have hltz : ¬ (kk : Int) < (l.length : Int) := by omega
    obtain rfl : kk = l.length := by omega
    have hK := HK.out
    rw [List.take_of_length_le (by rw [List.length_map]; exact Nat.le_refl _)] at hK
    have HK2 := Lib.hid hK
    clear hK
    go_wp2_with fail
    go_ret
    exact ⟨by rw [HT.out, HK2.out]; rfl, HB.out⟩

def flatR (L : List SFile) : List ByteArray := L.flatMap fun y => [y.f0, y.f1]
theorem flatR_take (L : List SFile) (k : Nat) (h : k < L.length) : flatR (L.take (k + 1)) = flatR (L.take k) ++ [L[k].f0, L[k].f1] := by
 unfold flatR
 rw [List.take_succ_eq_append_getElem h, List.flatMap_append]
 simp
theorem flatR_length (L : List SFile) : (flatR L).length = 2 * L.length := by
 induction L with
 | nil => rfl
 | cons p r ih => simp only [flatR, List.flatMap_cons, List.length_append, List.length_cons, List.length_nil] at ih ⊢; omega
theorem flatR_refL (m : TM) : (flatR (refL m)).map (·.data.toList) = m.flatMap fun p => [p.1, p.2] := by
 unfold flatR refL
 rw [List.flatMap_map, List.map_flatMap]
 rfl
set_option maxHeartbeats 4000000 in
set_option maxRecDepth 100000 in
theorem refKey_calls (w : World) (base g : Nat) (A : Option Addr) (c : Nat) (L : List SFile) (h : IsR w base g A c L) (hl : L.length ≤ 1000) (hP : (put ((flatR L).map (·.data.toList))).length ≤ 140737488355328) :
 Calls Tryz.prog 38 #[.pointer (some ⟨g, 0, none⟩)] w fun e w' => e = .returned (.string (mk (put ((flatR L).map (·.data.toList))))) ∧ Below w.heap.size w w' := by
 have HR := Lib.hid h
 have HP := Lib.hid hP
 have hl2 : (L.length : Int) ≤ 1000 := by omega
 clear h hP
 obtain ⟨T, hT⟩ : ∃ T, T = mk (put ((flatR L).map (·.data.toList))) := ⟨_, rfl⟩
 rw [← hT]
 have HT := Lib.hid hT
 clear hT
 go_enter Tryz.func38, Tryz.ntmps38
 go_wp2_with fail
 go_loopg [3, 4] L.length (fun gg s3 s4 wr => ∃ (kk : Nat) (X : Option Addr) (d : Nat) (q : List ByteArray), kk ≤ L.length ∧ L.length - kk ≤ gg ∧ s4 = .int .i64 kk ∧ s3 = .slice X q.length d ∧ Aside0 (q = flatR (L.take kk)) ∧ Aside0 (RS wr w.heap.size (.slice X q.length d) q) ∧ Aside0 (Below w.heap.size w wr))
 case atStart => exact ⟨0, none, 0, [], Nat.zero_le _, by omega, rfl, rfl, ⟨rfl⟩, ⟨Kd.R_nil _ _ _ _ _⟩, ⟨Below.refl _ _⟩⟩
 case round =>
  obtain ⟨kk, X, d, q, hkk, hgk, rfl, rfl, HQ, HO, HB⟩ := hrel
  have HRr := Lib.hid (HR.out.below HB.out)
  have hc := HRr.out.c
  by_cases hlt : kk < L.length
  · have hltz : (kk : Int) < (L.length : Int) := by omega
    obtain ⟨ad, rfl, hx0, hx1⟩ := at_T50 (Kd.R_reads' HR.out.row).2.2 (kk : Int) (by omega) hltz
    simp only [Int.toNat_natCast] at hx0 hx1
    have hxi : rd_T50 L (kk : Int) = L[kk] := by unfold rd_T50; simp [List.getD_eq_getElem?_getD, List.getElem?_eq_getElem hlt]
    rw [hxi] at hx0 hx1
    have htk := flatR_take L kk hlt
    rw [← HQ.out] at htk
    have hql : q.length = 2 * kk := by rw [HQ.out, flatR_length, List.length_take]; omega
    generalize L[kk] = x at hx0 hx1 htk
    have HX0 := Lib.hid hx0
    have HX1 := Lib.hid hx1
    have HTK := Lib.hid htk
    have HQL := Lib.hid hql
    have hS : ∀ W, Below w.heap.size w W → W.cell? ⟨g, 0, none⟩ = some (.slice (some ad) L.length c) ∧ W.cell? (ad.add (kk * 2)) = some (.string x.f0) ∧ W.cell? ⟨(ad.add (kk * 2)).block, (ad.add (kk * 2)).off + 1, none⟩ = some (.string x.f1) := fun W hW => ⟨(HR.out.below hW).c, cell_keeps hW HX0.out, cell_keeps hW HX1.out⟩
    have HS := Lib.hid hS
    have HBk : Hid (Below w.heap.size w wr.drew) := Lib.hid (below_drew HB.out)
    clear hS htk hx0 hx1 hxi hql
    go_wp2_with fail
    clear hc
    go_region_held3 (fun W => W.cell? ⟨g, 0, none⟩ = some (.slice (some ad) L.length c) ∧ W.cell? (ad.add (kk * 2)) = some (.string x.f0) ∧ W.cell? ⟨(ad.add (kk * 2)).block, (ad.add (kk * 2)).off + 1, none⟩ = some (.string x.f1)) (exact HS.out _ (by first | exact HBk.out | exact HBk.out.alloc HBk.out.size _ | exact below_drew (HB.out.alloc HB.out.size _))) (first
     | (refine app_row_step (by rfl) (.tmp 14) (.tmp 31) rfl Tryz.underlying28 infoS (v := .slice X q.length d) (by rfl) (Kd.R_below HO.out (by first | exact (Below.refl _ _).alloc (Nat.le_refl _) _ | exact below_drew ((Below.refl _ _).alloc (Nat.le_refl _) _))) (Below.size (by first | exact HBk.out | exact HBk.out.alloc HBk.out.size _ | exact below_drew (HB.out.alloc HB.out.size _))) [x.f0, x.f1] _ _ (by rfl) (C_two (by first | exact blk_new _ _ | exact blk_drew (blk_new _ _))) (by have h1 := HQL.out; simp; omega) ?_; intro Y e w5 ho hb; have HO5 := Lib.hid ho; have HBk := Lib.hid (Below.trans (by first | exact HBk.out | exact HBk.out.alloc HBk.out.size _ | exact below_drew (HB.out.alloc HB.out.size _)) hb); clear ho hb))
    all_goals
     have HLn : Hid ((q ++ [x.f0, x.f1]).length = q.length + 2) := by show _ = _; simp
     go_wp2_with fail
     go_roundg (L.length - (kk + 1))
     case measure => omega
     case rel => exact ⟨kk + 1, Y, e, q ++ [x.f0, x.f1], by omega, by omega, by first | rfl | go_num, by rw [HLn.out], ⟨HTK.out.symm⟩, ⟨HO5.out⟩, ⟨HBk.out⟩⟩
  · have hltz : ¬ (kk : Int) < (L.length : Int) := by omega
    obtain rfl : kk = L.length := by omega
    have hq := HQ.out
    rw [List.take_length] at hq
    obtain ⟨X', c', he, hcap, hrd⟩ := Kd.R_reads HO.out
    injection he with he1 he2 he3
    subst he1 he3
    have hPt := refPut_calls X d q wr hrd (by rw [hq]; exact HP.out)
    have HTq : Hid (T = mk (put (q.map (·.data.toList)))) := by show _ = _; rw [HT.out, hq]
    rw [← HTq.out] at hPt
    clear hq hrd hcap he2
    go_wp2_with (go_at_call 50; refine hPt.mono ?_; rintro e w5 ⟨rfl, hb⟩; have HB5 := Lib.hid (below_then HB.out HB.out.size hb); clear hb)
    go_ret
    exact ⟨rfl, HB5.out⟩

end Go.Proofs.YtobbliglnjgbaaaGreatDoor.X

namespace Go.Proofs.YtobbliglnjgbaaaGreatDoor.Pg
open Go.Proofs.YtobbliglnjgbaaaGreatDoor.X Go.Proofs.YtobbliglnjgbaaaGreatDoor.Pb Go.Proofs.YtobbliglnjgbaaaGreatDoor.Pc
open Go.RowKit Go.Proofs.YtobbliglnjgbaaaGreatDoorW.PrintWords Go.Proofs.YtobbliglnjgbaaaGreatDoorW.PrintLast Go.Proofs.YtobbliglnjgbaaaGreatDoorW.PrintMore
attribute [local go_sem] max2_int min2_int max_two min_two max_three min_three max_four min_four   -- for this text's walks alone
set_option linter.unusedVariables false
set_option linter.unusedSimpArgs false



def errW : Option Int → Value
 | none => .nilIface
 | some c => .iface 0 (.int .i64 c)
theorem errW_none : errW none = .nilIface := rfl
theorem errW_some (c : Int) : errW (some c) = .iface 0 (.int .i64 c) := rfl

-- the values' own types

end Go.Proofs.YtobbliglnjgbaaaGreatDoor.Pg
namespace Go.Proofs.YtobbliglnjgbaaaGreatDoor.Pg
open Go.Proofs.YtobbliglnjgbaaaGreatDoor.X Go.Proofs.YtobbliglnjgbaaaGreatDoor.Pb Go.Proofs.YtobbliglnjgbaaaGreatDoor.Pc
open Go.RowKit Go.Proofs.YtobbliglnjgbaaaGreatDoorW.PrintWords Go.Proofs.YtobbliglnjgbaaaGreatDoorW.PrintLast Go.Proofs.YtobbliglnjgbaaaGreatDoorW.PrintMore
attribute [local go_sem] max2_int min2_int max_two min_two max_three min_three max_four min_four   -- for this text's walks alone
set_option linter.unusedVariables false
set_option linter.unusedSimpArgs false

def shipwrightref1_GetNumber.l0 : Nat → ByteArray → Int → Int → Int → Option (Int × Bool)
 | 0, _, _, _, _ => none
 | k + 1, x0, x1, x6, x7 => if x7 < (x0.size : Int) then (if 0 ≤ x7 then (if (bt x0 x7) < 48 then (some (0, false)) else (if (bt x0 x7) > 57 then (some (0, false)) else (if x6 > ((9223372036854775807 - (((bt x0 x7) - 48) % 256)) / 10) then (some (0, false)) else (shipwrightref1_GetNumber.l0 k x0 x1 (wrap64 ((wrap64 (x6 * 10)) + (((bt x0 x7) - 48) % 256))) (wrap64 (x7 + 1)))))) else (none)) else (if x0.toList = ([] : List UInt8) then (some (0, false)) else (if (x0.size : Int) > 1 then (if 0 < (x0.size : Int) then (if (bt x0 0) = 48 then (some (0, false)) else (if x6 > x1 then (some (0, false)) else (some (x6, true)))) else (none)) else (if x6 > x1 then (some (0, false)) else (some (x6, true)))))
def shipwrightref1_GetNumber.f (k : Nat) (a0 : ByteArray) (a1 : Int) : Option (Int × Bool) := shipwrightref1_GetNumber.l0 k a0 a1 0 0
theorem shipwrightref1_GetNumber.mono_l : ∀ k, (∀ y0 y1 y2 y3, LeO (shipwrightref1_GetNumber.l0 k y0 y1 y2 y3) (shipwrightref1_GetNumber.l0 (k + 1) y0 y1 y2 y3))
 | 0 => fun _ _ _ _ r h => by simp [shipwrightref1_GetNumber.l0] at h
 | k + 1 => by
  have ih0 := shipwrightref1_GetNumber.mono_l k
  · intro y0 y1 y2 y3
    unfold shipwrightref1_GetNumber.l0
    repeat' first
    | (with_reducible exact ih0 _ _ _ _)
    | (with_reducible exact LeO.refl _)
    | (with_reducible exact LeO.none _)
    | (with_reducible refine LeO.ite ?_ ?_)
    | (with_reducible refine LeO.bind ?_ (fun _ => ?_))
    | exact ih0 _ _ _ _
    | exact LeO.none _
    | refine LeO.ite ?_ ?_
    | refine LeO.bind ?_ (fun _ => ?_)
theorem shipwrightref1_GetNumber.mono : ∀ a0 a1 k, LeO (shipwrightref1_GetNumber.f k a0 a1) (shipwrightref1_GetNumber.f (k + 1) a0 a1) := by
 intro a0 a1 k
 have ih0 := shipwrightref1_GetNumber.mono_l k
 unfold shipwrightref1_GetNumber.f
 repeat' first
  | (with_reducible exact ih0 _ _ _ _)
  | (with_reducible exact LeO.refl _)
  | (with_reducible exact LeO.none _)
  | (with_reducible refine LeO.ite ?_ ?_)
  | (with_reducible refine LeO.bind ?_ (fun _ => ?_))
  | exact ih0 _ _ _ _
  | exact LeO.none _
  | refine LeO.ite ?_ ?_
  | refine LeO.bind ?_ (fun _ => ?_)
end Go.Proofs.YtobbliglnjgbaaaGreatDoor.Pg

namespace Go.Proofs.YtobbliglnjgbaaaGreatDoor.X
open Go.RowKit Go.Proofs.YtobbliglnjgbaaaGreatDoorW.PrintWords Go.Proofs.YtobbliglnjgbaaaGreatDoor.Pg

theorem w64 {x : Int} (h0 : 0 ≤ x) (h1 : x ≤ 9223372036854775807) : wrap64 x = x := by unfold wrap64; omega
theorem bt_list (s : ByteArray) (i : Nat) (h : i < s.data.toList.length) : bt s (i : Int) = ((s.data.toList[i]).toNat : Int) := by
 have h' : i < s.size := by rw [Lib.size_eq]; exact h
 have := bt_at s (i : Int) (by simpa using h')
 rw [← this]
 simp
 rfl
end Go.Proofs.YtobbliglnjgbaaaGreatDoor.X

namespace Go.Proofs.YtobbliglnjgbaaaGreatDoor.Pe
open Go.Proofs.YtobbliglnjgbaaaGreatDoor.X Go.Proofs.YtobbliglnjgbaaaGreatDoor.Pb Go.Proofs.YtobbliglnjgbaaaGreatDoor.Pc
open Go.RowKit Go.Proofs.YtobbliglnjgbaaaGreatDoorW.PrintWords Go.Proofs.YtobbliglnjgbaaaGreatDoorW.PrintLast Go.Proofs.YtobbliglnjgbaaaGreatDoorW.PrintMore
attribute [local go_sem] max2_int min2_int max_two min_two max_three min_three max_four min_four   -- for this text's walks alone
set_option linter.unusedVariables false
set_option linter.unusedSimpArgs false



def errW : Option Int → Value
 | none => .nilIface
 | some c => .iface 0 (.int .i64 c)
theorem errW_none : errW none = .nilIface := rfl
theorem errW_some (c : Int) : errW (some c) = .iface 0 (.int .i64 c) := rfl

-- the values' own types

end Go.Proofs.YtobbliglnjgbaaaGreatDoor.Pe
namespace Go.Proofs.YtobbliglnjgbaaaGreatDoor.Pe
open Go.Proofs.YtobbliglnjgbaaaGreatDoor.X Go.Proofs.YtobbliglnjgbaaaGreatDoor.Pb Go.Proofs.YtobbliglnjgbaaaGreatDoor.Pc
open Go.RowKit Go.Proofs.YtobbliglnjgbaaaGreatDoorW.PrintWords Go.Proofs.YtobbliglnjgbaaaGreatDoorW.PrintLast Go.Proofs.YtobbliglnjgbaaaGreatDoorW.PrintMore
attribute [local go_sem] max2_int min2_int max_two min_two max_three min_three max_four min_four   -- for this text's walks alone
set_option linter.unusedVariables false
set_option linter.unusedSimpArgs false

def shipwrightref1_Sign.f (a0 : Int) : Option (Bool) := if a0 ≥ 97 then (if a0 ≤ 122 then (some true) else (if a0 ≥ 65 then (if a0 ≤ 90 then (some true) else (if a0 ≥ 48 then (if a0 ≤ 57 then (some true) else (if a0 = 46 then (some true) else (if a0 = 95 then (some true) else (some (a0 == 45))))) else (if a0 = 46 then (some true) else (if a0 = 95 then (some true) else (some (a0 == 45)))))) else (if a0 ≥ 48 then (if a0 ≤ 57 then (some true) else (if a0 = 46 then (some true) else (if a0 = 95 then (some true) else (some (a0 == 45))))) else (if a0 = 46 then (some true) else (if a0 = 95 then (some true) else (some (a0 == 45))))))) else (if a0 ≥ 65 then (if a0 ≤ 90 then (some true) else (if a0 ≥ 48 then (if a0 ≤ 57 then (some true) else (if a0 = 46 then (some true) else (if a0 = 95 then (some true) else (some (a0 == 45))))) else (if a0 = 46 then (some true) else (if a0 = 95 then (some true) else (some (a0 == 45)))))) else (if a0 ≥ 48 then (if a0 ≤ 57 then (some true) else (if a0 = 46 then (some true) else (if a0 = 95 then (some true) else (some (a0 == 45))))) else (if a0 = 46 then (some true) else (if a0 = 95 then (some true) else (some (a0 == 45))))))
set_option maxHeartbeats 8000000 in
set_option maxRecDepth 100000 in
theorem shipwrightref1_Sign.calls (a0 : Int) (r : Bool) (w : World) (hG : GOK w) (h : shipwrightref1_Sign.f a0 = some r) :
 Calls Tryz.prog 31 #[.int .u8 a0] w fun e w' => e = .returned (.bool r) ∧ Drawn0 w w' := by
 have HG := Aside0.mk hG
 clear hG
 have H : (if a0 ≥ 97 then (if a0 ≤ 122 then (some true) else (if a0 ≥ 65 then (if a0 ≤ 90 then (some true) else (if a0 ≥ 48 then (if a0 ≤ 57 then (some true) else (if a0 = 46 then (some true) else (if a0 = 95 then (some true) else (some (a0 == 45))))) else (if a0 = 46 then (some true) else (if a0 = 95 then (some true) else (some (a0 == 45)))))) else (if a0 ≥ 48 then (if a0 ≤ 57 then (some true) else (if a0 = 46 then (some true) else (if a0 = 95 then (some true) else (some (a0 == 45))))) else (if a0 = 46 then (some true) else (if a0 = 95 then (some true) else (some (a0 == 45))))))) else (if a0 ≥ 65 then (if a0 ≤ 90 then (some true) else (if a0 ≥ 48 then (if a0 ≤ 57 then (some true) else (if a0 = 46 then (some true) else (if a0 = 95 then (some true) else (some (a0 == 45))))) else (if a0 = 46 then (some true) else (if a0 = 95 then (some true) else (some (a0 == 45)))))) else (if a0 ≥ 48 then (if a0 ≤ 57 then (some true) else (if a0 = 46 then (some true) else (if a0 = 95 then (some true) else (some (a0 == 45))))) else (if a0 = 46 then (some true) else (if a0 = 95 then (some true) else (some (a0 == 45))))))) = some r := h
 clear h
 by_cases c2 : a0 ≥ 97
 · rw [if_pos c2] at H
   have c2b0 : decide (97 ≤ a0) = true := decide_eq_true c2
   clear c2
   by_cases c3 : a0 ≤ 122
   · rw [if_pos c3] at H
     have c3b0 : decide (a0 ≤ 122) = true := decide_eq_true c3
     clear c3
     obtain rfl := Option.some.inj H
     go_enter Tryz.func31, Tryz.ntmps31
     go_wp2
     go_ret
     exact ⟨by first | rfl | (simp; done) | (simp [*]; done), by repeat (first | exact Drawn0.refl _ | apply Drawn0.step)⟩
   · rw [if_neg c3] at H
     have c3b0 : decide (a0 ≤ 122) = false := decide_eq_false c3
     clear c3
     by_cases c4 : a0 ≥ 65
     · rw [if_pos c4] at H
       have c4b0 : decide (65 ≤ a0) = true := decide_eq_true c4
       clear c4
       by_cases c5 : a0 ≤ 90
       · rw [if_pos c5] at H
         have c5b0 : decide (a0 ≤ 90) = true := decide_eq_true c5
         clear c5
         obtain rfl := Option.some.inj H
         go_enter Tryz.func31, Tryz.ntmps31
         go_wp2
         go_ret
         exact ⟨by first | rfl | (simp; done) | (simp [*]; done), by repeat (first | exact Drawn0.refl _ | apply Drawn0.step)⟩
       · rw [if_neg c5] at H
         have c5b0 : decide (a0 ≤ 90) = false := decide_eq_false c5
         clear c5
         by_cases c6 : a0 ≥ 48
         · rw [if_pos c6] at H
           have c6b0 : decide (48 ≤ a0) = true := decide_eq_true c6
           clear c6
           by_cases c7 : a0 ≤ 57
           · rw [if_pos c7] at H
             have c7b0 : decide (a0 ≤ 57) = true := decide_eq_true c7
             clear c7
             obtain rfl := Option.some.inj H
             go_enter Tryz.func31, Tryz.ntmps31
             go_wp2
             go_ret
             exact ⟨by first | rfl | (simp; done) | (simp [*]; done), by repeat (first | exact Drawn0.refl _ | apply Drawn0.step)⟩
           · rw [if_neg c7] at H
             have c7b0 : decide (a0 ≤ 57) = false := decide_eq_false c7
             clear c7
             by_cases c8 : a0 = 46
             · rw [if_pos c8] at H
               have c8b0 : (a0 == 46) = true := beq_iff_eq.mpr c8
               have c8b1 : (a0 != 46) = false := bne_eq_false_iff_eq.mpr c8
               clear c8
               obtain rfl := Option.some.inj H
               go_enter Tryz.func31, Tryz.ntmps31
               go_wp2
               go_ret
               exact ⟨by first | rfl | (simp; done) | (simp [*]; done), by repeat (first | exact Drawn0.refl _ | apply Drawn0.step)⟩
             · rw [if_neg c8] at H
               have c8b0 : (a0 == 46) = false := beq_eq_false_iff_ne.mpr c8
               have c8b1 : (a0 != 46) = true := bne_iff_ne.mpr c8
               by_cases c9 : a0 = 95
               · rw [if_pos c9] at H
                 have c9b0 : (a0 == 95) = true := beq_iff_eq.mpr c9
                 have c9b1 : (a0 != 95) = false := bne_eq_false_iff_eq.mpr c9
                 clear c9
                 obtain rfl := Option.some.inj H
                 go_enter Tryz.func31, Tryz.ntmps31
                 go_wp2
                 go_ret
                 exact ⟨by first | rfl | (simp; done) | (simp [*]; done), by repeat (first | exact Drawn0.refl _ | apply Drawn0.step)⟩
               · rw [if_neg c9] at H
                 have c9b0 : (a0 == 95) = false := beq_eq_false_iff_ne.mpr c9
                 have c9b1 : (a0 != 95) = true := bne_iff_ne.mpr c9
                 obtain rfl := Option.some.inj H
                 go_enter Tryz.func31, Tryz.ntmps31
                 go_wp2
                 go_ret
                 exact ⟨by first | rfl | (simp; done) | (simp [*]; done), by repeat (first | exact Drawn0.refl _ | apply Drawn0.step)⟩
         · rw [if_neg c6] at H
           have c6b0 : decide (48 ≤ a0) = false := decide_eq_false c6
           clear c6
           by_cases c10 : a0 = 46
           · rw [if_pos c10] at H
             have c10b0 : (a0 == 46) = true := beq_iff_eq.mpr c10
             have c10b1 : (a0 != 46) = false := bne_eq_false_iff_eq.mpr c10
             clear c10
             obtain rfl := Option.some.inj H
             go_enter Tryz.func31, Tryz.ntmps31
             go_wp2
             go_ret
             exact ⟨by first | rfl | (simp; done) | (simp [*]; done), by repeat (first | exact Drawn0.refl _ | apply Drawn0.step)⟩
           · rw [if_neg c10] at H
             have c10b0 : (a0 == 46) = false := beq_eq_false_iff_ne.mpr c10
             have c10b1 : (a0 != 46) = true := bne_iff_ne.mpr c10
             by_cases c11 : a0 = 95
             · rw [if_pos c11] at H
               have c11b0 : (a0 == 95) = true := beq_iff_eq.mpr c11
               have c11b1 : (a0 != 95) = false := bne_eq_false_iff_eq.mpr c11
               clear c11
               obtain rfl := Option.some.inj H
               go_enter Tryz.func31, Tryz.ntmps31
               go_wp2
               go_ret
               exact ⟨by first | rfl | (simp; done) | (simp [*]; done), by repeat (first | exact Drawn0.refl _ | apply Drawn0.step)⟩
             · rw [if_neg c11] at H
               have c11b0 : (a0 == 95) = false := beq_eq_false_iff_ne.mpr c11
               have c11b1 : (a0 != 95) = true := bne_iff_ne.mpr c11
               obtain rfl := Option.some.inj H
               go_enter Tryz.func31, Tryz.ntmps31
               go_wp2
               go_ret
               exact ⟨by first | rfl | (simp; done) | (simp [*]; done), by repeat (first | exact Drawn0.refl _ | apply Drawn0.step)⟩
     · rw [if_neg c4] at H
       have c4b0 : decide (65 ≤ a0) = false := decide_eq_false c4
       clear c4
       by_cases c12 : a0 ≥ 48
       · rw [if_pos c12] at H
         have c12b0 : decide (48 ≤ a0) = true := decide_eq_true c12
         clear c12
         by_cases c13 : a0 ≤ 57
         · rw [if_pos c13] at H
           have c13b0 : decide (a0 ≤ 57) = true := decide_eq_true c13
           clear c13
           obtain rfl := Option.some.inj H
           go_enter Tryz.func31, Tryz.ntmps31
           go_wp2
           go_ret
           exact ⟨by first | rfl | (simp; done) | (simp [*]; done), by repeat (first | exact Drawn0.refl _ | apply Drawn0.step)⟩
         · rw [if_neg c13] at H
           have c13b0 : decide (a0 ≤ 57) = false := decide_eq_false c13
           clear c13
           by_cases c14 : a0 = 46
           · rw [if_pos c14] at H
             have c14b0 : (a0 == 46) = true := beq_iff_eq.mpr c14
             have c14b1 : (a0 != 46) = false := bne_eq_false_iff_eq.mpr c14
             clear c14
             obtain rfl := Option.some.inj H
             go_enter Tryz.func31, Tryz.ntmps31
             go_wp2
             go_ret
             exact ⟨by first | rfl | (simp; done) | (simp [*]; done), by repeat (first | exact Drawn0.refl _ | apply Drawn0.step)⟩
           · rw [if_neg c14] at H
             have c14b0 : (a0 == 46) = false := beq_eq_false_iff_ne.mpr c14
             have c14b1 : (a0 != 46) = true := bne_iff_ne.mpr c14
             by_cases c15 : a0 = 95
             · rw [if_pos c15] at H
               have c15b0 : (a0 == 95) = true := beq_iff_eq.mpr c15
               have c15b1 : (a0 != 95) = false := bne_eq_false_iff_eq.mpr c15
               clear c15
               obtain rfl := Option.some.inj H
               go_enter Tryz.func31, Tryz.ntmps31
               go_wp2
               go_ret
               exact ⟨by first | rfl | (simp; done) | (simp [*]; done), by repeat (first | exact Drawn0.refl _ | apply Drawn0.step)⟩
             · rw [if_neg c15] at H
               have c15b0 : (a0 == 95) = false := beq_eq_false_iff_ne.mpr c15
               have c15b1 : (a0 != 95) = true := bne_iff_ne.mpr c15
               obtain rfl := Option.some.inj H
               go_enter Tryz.func31, Tryz.ntmps31
               go_wp2
               go_ret
               exact ⟨by first | rfl | (simp; done) | (simp [*]; done), by repeat (first | exact Drawn0.refl _ | apply Drawn0.step)⟩
       · rw [if_neg c12] at H
         have c12b0 : decide (48 ≤ a0) = false := decide_eq_false c12
         clear c12
         by_cases c16 : a0 = 46
         · rw [if_pos c16] at H
           have c16b0 : (a0 == 46) = true := beq_iff_eq.mpr c16
           have c16b1 : (a0 != 46) = false := bne_eq_false_iff_eq.mpr c16
           clear c16
           obtain rfl := Option.some.inj H
           go_enter Tryz.func31, Tryz.ntmps31
           go_wp2
           go_ret
           exact ⟨by first | rfl | (simp; done) | (simp [*]; done), by repeat (first | exact Drawn0.refl _ | apply Drawn0.step)⟩
         · rw [if_neg c16] at H
           have c16b0 : (a0 == 46) = false := beq_eq_false_iff_ne.mpr c16
           have c16b1 : (a0 != 46) = true := bne_iff_ne.mpr c16
           by_cases c17 : a0 = 95
           · rw [if_pos c17] at H
             have c17b0 : (a0 == 95) = true := beq_iff_eq.mpr c17
             have c17b1 : (a0 != 95) = false := bne_eq_false_iff_eq.mpr c17
             clear c17
             obtain rfl := Option.some.inj H
             go_enter Tryz.func31, Tryz.ntmps31
             go_wp2
             go_ret
             exact ⟨by first | rfl | (simp; done) | (simp [*]; done), by repeat (first | exact Drawn0.refl _ | apply Drawn0.step)⟩
           · rw [if_neg c17] at H
             have c17b0 : (a0 == 95) = false := beq_eq_false_iff_ne.mpr c17
             have c17b1 : (a0 != 95) = true := bne_iff_ne.mpr c17
             obtain rfl := Option.some.inj H
             go_enter Tryz.func31, Tryz.ntmps31
             go_wp2
             go_ret
             exact ⟨by first | rfl | (simp; done) | (simp [*]; done), by repeat (first | exact Drawn0.refl _ | apply Drawn0.step)⟩
 · rw [if_neg c2] at H
   have c2b0 : decide (97 ≤ a0) = false := decide_eq_false c2
   clear c2
   by_cases c18 : a0 ≥ 65
   · rw [if_pos c18] at H
     have c18b0 : decide (65 ≤ a0) = true := decide_eq_true c18
     clear c18
     by_cases c19 : a0 ≤ 90
     · rw [if_pos c19] at H
       have c19b0 : decide (a0 ≤ 90) = true := decide_eq_true c19
       clear c19
       obtain rfl := Option.some.inj H
       go_enter Tryz.func31, Tryz.ntmps31
       go_wp2
       go_ret
       exact ⟨by first | rfl | (simp; done) | (simp [*]; done), by repeat (first | exact Drawn0.refl _ | apply Drawn0.step)⟩
     · rw [if_neg c19] at H
       have c19b0 : decide (a0 ≤ 90) = false := decide_eq_false c19
       clear c19
       by_cases c20 : a0 ≥ 48
       · rw [if_pos c20] at H
         have c20b0 : decide (48 ≤ a0) = true := decide_eq_true c20
         clear c20
         by_cases c21 : a0 ≤ 57
         · rw [if_pos c21] at H
           have c21b0 : decide (a0 ≤ 57) = true := decide_eq_true c21
           clear c21
           obtain rfl := Option.some.inj H
           go_enter Tryz.func31, Tryz.ntmps31
           go_wp2
           go_ret
           exact ⟨by first | rfl | (simp; done) | (simp [*]; done), by repeat (first | exact Drawn0.refl _ | apply Drawn0.step)⟩
         · rw [if_neg c21] at H
           have c21b0 : decide (a0 ≤ 57) = false := decide_eq_false c21
           clear c21
           by_cases c22 : a0 = 46
           · rw [if_pos c22] at H
             have c22b0 : (a0 == 46) = true := beq_iff_eq.mpr c22
             have c22b1 : (a0 != 46) = false := bne_eq_false_iff_eq.mpr c22
             clear c22
             obtain rfl := Option.some.inj H
             go_enter Tryz.func31, Tryz.ntmps31
             go_wp2
             go_ret
             exact ⟨by first | rfl | (simp; done) | (simp [*]; done), by repeat (first | exact Drawn0.refl _ | apply Drawn0.step)⟩
           · rw [if_neg c22] at H
             have c22b0 : (a0 == 46) = false := beq_eq_false_iff_ne.mpr c22
             have c22b1 : (a0 != 46) = true := bne_iff_ne.mpr c22
             by_cases c23 : a0 = 95
             · rw [if_pos c23] at H
               have c23b0 : (a0 == 95) = true := beq_iff_eq.mpr c23
               have c23b1 : (a0 != 95) = false := bne_eq_false_iff_eq.mpr c23
               clear c23
               obtain rfl := Option.some.inj H
               go_enter Tryz.func31, Tryz.ntmps31
               go_wp2
               go_ret
               exact ⟨by first | rfl | (simp; done) | (simp [*]; done), by repeat (first | exact Drawn0.refl _ | apply Drawn0.step)⟩
             · rw [if_neg c23] at H
               have c23b0 : (a0 == 95) = false := beq_eq_false_iff_ne.mpr c23
               have c23b1 : (a0 != 95) = true := bne_iff_ne.mpr c23
               obtain rfl := Option.some.inj H
               go_enter Tryz.func31, Tryz.ntmps31
               go_wp2
               go_ret
               exact ⟨by first | rfl | (simp; done) | (simp [*]; done), by repeat (first | exact Drawn0.refl _ | apply Drawn0.step)⟩
       · rw [if_neg c20] at H
         have c20b0 : decide (48 ≤ a0) = false := decide_eq_false c20
         clear c20
         by_cases c24 : a0 = 46
         · rw [if_pos c24] at H
           have c24b0 : (a0 == 46) = true := beq_iff_eq.mpr c24
           have c24b1 : (a0 != 46) = false := bne_eq_false_iff_eq.mpr c24
           clear c24
           obtain rfl := Option.some.inj H
           go_enter Tryz.func31, Tryz.ntmps31
           go_wp2
           go_ret
           exact ⟨by first | rfl | (simp; done) | (simp [*]; done), by repeat (first | exact Drawn0.refl _ | apply Drawn0.step)⟩
         · rw [if_neg c24] at H
           have c24b0 : (a0 == 46) = false := beq_eq_false_iff_ne.mpr c24
           have c24b1 : (a0 != 46) = true := bne_iff_ne.mpr c24
           by_cases c25 : a0 = 95
           · rw [if_pos c25] at H
             have c25b0 : (a0 == 95) = true := beq_iff_eq.mpr c25
             have c25b1 : (a0 != 95) = false := bne_eq_false_iff_eq.mpr c25
             clear c25
             obtain rfl := Option.some.inj H
             go_enter Tryz.func31, Tryz.ntmps31
             go_wp2
             go_ret
             exact ⟨by first | rfl | (simp; done) | (simp [*]; done), by repeat (first | exact Drawn0.refl _ | apply Drawn0.step)⟩
           · rw [if_neg c25] at H
             have c25b0 : (a0 == 95) = false := beq_eq_false_iff_ne.mpr c25
             have c25b1 : (a0 != 95) = true := bne_iff_ne.mpr c25
             obtain rfl := Option.some.inj H
             go_enter Tryz.func31, Tryz.ntmps31
             go_wp2
             go_ret
             exact ⟨by first | rfl | (simp; done) | (simp [*]; done), by repeat (first | exact Drawn0.refl _ | apply Drawn0.step)⟩
   · rw [if_neg c18] at H
     have c18b0 : decide (65 ≤ a0) = false := decide_eq_false c18
     clear c18
     by_cases c26 : a0 ≥ 48
     · rw [if_pos c26] at H
       have c26b0 : decide (48 ≤ a0) = true := decide_eq_true c26
       clear c26
       by_cases c27 : a0 ≤ 57
       · rw [if_pos c27] at H
         have c27b0 : decide (a0 ≤ 57) = true := decide_eq_true c27
         clear c27
         obtain rfl := Option.some.inj H
         go_enter Tryz.func31, Tryz.ntmps31
         go_wp2
         go_ret
         exact ⟨by first | rfl | (simp; done) | (simp [*]; done), by repeat (first | exact Drawn0.refl _ | apply Drawn0.step)⟩
       · rw [if_neg c27] at H
         have c27b0 : decide (a0 ≤ 57) = false := decide_eq_false c27
         clear c27
         by_cases c28 : a0 = 46
         · rw [if_pos c28] at H
           have c28b0 : (a0 == 46) = true := beq_iff_eq.mpr c28
           have c28b1 : (a0 != 46) = false := bne_eq_false_iff_eq.mpr c28
           clear c28
           obtain rfl := Option.some.inj H
           go_enter Tryz.func31, Tryz.ntmps31
           go_wp2
           go_ret
           exact ⟨by first | rfl | (simp; done) | (simp [*]; done), by repeat (first | exact Drawn0.refl _ | apply Drawn0.step)⟩
         · rw [if_neg c28] at H
           have c28b0 : (a0 == 46) = false := beq_eq_false_iff_ne.mpr c28
           have c28b1 : (a0 != 46) = true := bne_iff_ne.mpr c28
           by_cases c29 : a0 = 95
           · rw [if_pos c29] at H
             have c29b0 : (a0 == 95) = true := beq_iff_eq.mpr c29
             have c29b1 : (a0 != 95) = false := bne_eq_false_iff_eq.mpr c29
             clear c29
             obtain rfl := Option.some.inj H
             go_enter Tryz.func31, Tryz.ntmps31
             go_wp2
             go_ret
             exact ⟨by first | rfl | (simp; done) | (simp [*]; done), by repeat (first | exact Drawn0.refl _ | apply Drawn0.step)⟩
           · rw [if_neg c29] at H
             have c29b0 : (a0 == 95) = false := beq_eq_false_iff_ne.mpr c29
             have c29b1 : (a0 != 95) = true := bne_iff_ne.mpr c29
             obtain rfl := Option.some.inj H
             go_enter Tryz.func31, Tryz.ntmps31
             go_wp2
             go_ret
             exact ⟨by first | rfl | (simp; done) | (simp [*]; done), by repeat (first | exact Drawn0.refl _ | apply Drawn0.step)⟩
     · rw [if_neg c26] at H
       have c26b0 : decide (48 ≤ a0) = false := decide_eq_false c26
       clear c26
       by_cases c30 : a0 = 46
       · rw [if_pos c30] at H
         have c30b0 : (a0 == 46) = true := beq_iff_eq.mpr c30
         have c30b1 : (a0 != 46) = false := bne_eq_false_iff_eq.mpr c30
         clear c30
         obtain rfl := Option.some.inj H
         go_enter Tryz.func31, Tryz.ntmps31
         go_wp2
         go_ret
         exact ⟨by first | rfl | (simp; done) | (simp [*]; done), by repeat (first | exact Drawn0.refl _ | apply Drawn0.step)⟩
       · rw [if_neg c30] at H
         have c30b0 : (a0 == 46) = false := beq_eq_false_iff_ne.mpr c30
         have c30b1 : (a0 != 46) = true := bne_iff_ne.mpr c30
         by_cases c31 : a0 = 95
         · rw [if_pos c31] at H
           have c31b0 : (a0 == 95) = true := beq_iff_eq.mpr c31
           have c31b1 : (a0 != 95) = false := bne_eq_false_iff_eq.mpr c31
           clear c31
           obtain rfl := Option.some.inj H
           go_enter Tryz.func31, Tryz.ntmps31
           go_wp2
           go_ret
           exact ⟨by first | rfl | (simp; done) | (simp [*]; done), by repeat (first | exact Drawn0.refl _ | apply Drawn0.step)⟩
         · rw [if_neg c31] at H
           have c31b0 : (a0 == 95) = false := beq_eq_false_iff_ne.mpr c31
           have c31b1 : (a0 != 95) = true := bne_iff_ne.mpr c31
           obtain rfl := Option.some.inj H
           go_enter Tryz.func31, Tryz.ntmps31
           go_wp2
           go_ret
           exact ⟨by first | rfl | (simp; done) | (simp [*]; done), by repeat (first | exact Drawn0.refl _ | apply Drawn0.step)⟩

end Go.Proofs.YtobbliglnjgbaaaGreatDoor.Pe
