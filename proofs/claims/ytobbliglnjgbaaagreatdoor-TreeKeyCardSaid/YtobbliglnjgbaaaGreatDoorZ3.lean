/-
  TreeKey, walked by hand: unlike trees have unlike keys; in whatever order files were written, the same tree has the same.
  Arguments that are rows: what a row's reading gives the walks (Kd.C), and its bulk.
  Arguments that are rows of Ops (a kind, a name, bytes).
  An argument that is an Op by value (a kind, a name, bytes).
-/
import Derived.Deep.DeepCutAuto
import Derived.Deep.CutBlock
import Derived.Deep.RegionHeld3
import Derived.Test.YtobbliglnjgbaaaGreatDoorRows
import Derived.Deep.Slices
import Derived.ChangeSame
import Derived.SizedLaws
import Derived.Deep.Strs
import Derived.Test.YtobbliglnjgbaaaGreatDoorZ2
import Derived.Test.YtobbliglnjgbaaaGreatDoorZ0
namespace Go.Proofs.YtobbliglnjgbaaaGreatDoor.X
open Go.RowKit Go.Maps Go.Proofs.YtobbliglnjgbaaaGreatDoorW.PrintWords Go.Proofs.YtobbliglnjgbaaaGreatDoorW.PrintMore Go.Proofs.YtobbliglnjgbaaaGreatDoor.Pb Go.Proofs.YtobbliglnjgbaaaGreatDoor.Pc
set_option linter.unusedSimpArgs false

abbrev RF (w : World) (base : Nat) (v : Value) (l : List S50) : Prop := Kd.R k50 50 w base (fun _ => True) v l
section
variable {P : Program} {ops : Array Oper} {o : Oper} {a : Act} {Kc : Act → World → Prop} {Q : Exit → Act → World → Prop} {W : World}
/-- append(v, l...) onto a row of files of the call's own, inside a region that draws its order. -/
theorem appF_step (hw : Region.wanted o (yielded ops a.tmps) = true) (s x : Operand)
    (ho : o.op = .call { callee := .builtin .append, args := #[s, x], argTypes := #[46, 46] })
    (ht : P.underlying 46 = some (.slice 50)) (hinfo : (P.info? 50).map (fun i => (i.zero, i.size, i.bytes)) = some (some (.agg #[.string ⟨#[]⟩, .string ⟨#[]⟩]), 2, 32))
    {base : Nat} {v : Value} {xs : List S50} (hs : a.eval s = v) (HO : RF W base v xs) (hbase : base ≤ W.heap.size)
    (l : List S50) (A : Option Addr) (c : Nat) (hx : a.eval x = .slice A l.length c) (HR : Kd.C k50 W A l.length l) (hl : (xs.length + l.length) * 32 ≤ 140737488355328)
    (h : ∀ X d w1, RF w1 base (.slice X (xs ++ l).length d) (xs ++ l) → Below base W w1 → W.grownBy w1 v.ownBlock → (xs ++ l).length ≤ d → Kc (a.put o.dst (.slice X (xs ++ l).length d)) w1) :
    if Region.wanted o (yielded ops a.tmps) = true then Oper.wp P o a W Kc Q else Kc (a.put o.dst undef) W := by
  refine Kd.R_append_rows_step k50 (w0 := W) base hw s x 46 50 (.agg #[.string ⟨#[]⟩, .string ⟨#[]⟩]) 32 ho ht hinfo rfl (by decide) (by decide) v xs l A l.length c (fun _ => True) (fun k_ => True ∧ some k_ ≠ v.ownBlock) hs hx HO HR (fun _ _ h => h) (fun _ hk => hk) (fun _ _ => trivial) (Below.refl _ _) hbase hl ?_
  intro v1 w1 ho1 hb1 hg1 _
  obtain ⟨X, d, rfl, hd, _⟩ := Kd.R_reads ho1
  exact h X d w1 ho1 hb1 hg1 hd
end
theorem IsTree.row {w w1 : World} {g b : Nat} {m : TM} {base : Nat} {v : Value} {l : List S50} (h : IsTree w g b m) (hO : RF w base v l) (hg : w.grownBy w1 v.ownBlock) : IsTree w1 g b m := by
  refine h.kept (hg.block g h.lt.1 (Kd.R_ne hO h.cell (by decide))) (hg.block b h.lt.2 (fun e => ?_))
  obtain ⟨cells, hc⟩ := Kd.R_typed hO b e.symm
  obtain ⟨es, clock, hb, _⟩ := h.map
  rw [hc] at hb
  cases hb
set_option maxHeartbeats 4000000 in
set_option maxRecDepth 100000 in
theorem treeKey_walk (A : Option Addr) (c : Nat) (l : List S50) (turn kind : Int) (name bs : ByteArray) (w : World) (hG : GOK w) (hr : Kd.C k50 w A l.length l) (hg : ∀ y ∈ l, y.f0.size ≤ maxLen ∧ y.f1.size ≤ maxLen) (hn : name.size ≤ maxLen) (hb : bs.size ≤ maxLen) :
    Calls Tryz.prog 7 #[.slice A l.length c, .int .i64 turn, .agg #[.int .i64 kind, .string name, .string bs]] w fun e w' => e = .returned (.bool true) ∧ Below w.heap.size w w' := by
  have HG := Lib.hid hG
  have HR := Lib.hid hr
  have HGd := Lib.hid hg
  have HN := Lib.hid hn
  have HBs := Lib.hid hb
  have hlen : l.length ≤ 9223372036854775807 := hr.2.1
  have HB0 := Lib.hid ((Below.refl w.heap.size w).alloc (Nat.le_refl _) (.cells #[.int .i64 kind, .string name, .string bs] 48))
  have HO0 := Lib.hid (blk_new w (.cells #[.int .i64 kind, .string name, .string bs] 48))
  clear hG hr hg hn hb
  go_enter Tryz.func7, Tryz.ntmps7
  go_wp2_with fail
  generalize w.alloc (.cells #[.int .i64 kind, .string name, .string bs] 48) = w0 at HB0 HO0 ⊢
  refine (shipwrightlaw1_begun.calls true w0 (HG.out.below HB0.out) rfl).mono ?_
  rintro e w1 ⟨rfl, hb1⟩
  have HO1 := Lib.hid (blk_below HO0.out hb1)
  have HB1 := Lib.hid (below_then HB0.out HB0.out.size hb1)
  have HW1 := Lib.hid (blk_lt HO1.out)
  clear hb1 HO0 HB0
  go_upto_block 0 with fail
  go_cut [8] (fun s8 wx => ∃ (X : Option Addr) (d : Nat) (o : List S50), s8 = .slice X o.length d ∧ Aside0 (o.length ≤ 12) ∧ Aside0 (∀ x ∈ o, x ∈ l) ∧ Aside0 ((o.map (·.f0)).Nodup) ∧ Aside0 (Kd.R k50 50 wx w1.heap.size (fun _ => True) (.slice X o.length d) o) ∧ Aside0 (Below w1.heap.size w1 wx))
  case first =>
   go_wp2_with fail
   go_loopg [8, 9, 10, 11] l.length (fun gg s8 s9 _ _ wr => ∃ (kk : Nat) (X : Option Addr) (d : Nat) (o : List S50), kk ≤ l.length ∧ kk ≤ 12 ∧ l.length - kk ≤ gg ∧ s9 = .int .i64 kk ∧ s8 = .slice X o.length d ∧ o.length ≤ kk ∧ Aside0 (∀ x ∈ o, x ∈ l) ∧ Aside0 ((o.map (·.f0)).Nodup) ∧
     Aside0 (Kd.R k50 50 wr w1.heap.size (fun _ => True) (.slice X o.length d) o) ∧ Aside0 (Below w1.heap.size w1 wr))
   case atStart => exact ⟨0, none, 0, [], Nat.zero_le _, by omega, by omega, rfl, rfl, Nat.le_refl _, ⟨fun _ h => by cases h⟩, ⟨List.nodup_nil⟩, ⟨Kd.R_nil _ _ _ _ _⟩, ⟨Below.refl _ _⟩⟩
   case round =>
     obtain ⟨kk, X, d, o, hkk, hk12, hgk, rfl, rfl, hol, HM, HD, HO, HB⟩ := hrel
     by_cases hgo : kk < l.length ∧ kk < 12
     · obtain ⟨hlt, hl2⟩ := hgo
       have hltz : (kk : Int) < (l.length : Int) := by omega
       have hl2z : (kk : Int) < 12 := by omega
       obtain ⟨ad, rfl, hx0, hx1⟩ := at_T50 HR.out (kk : Int) (by omega) hltz
       simp only [Int.toNat_natCast] at hx0 hx1
       have hxi : rd_T50 l (kk : Int) = l[kk] := by unfold rd_T50; simp [List.getD_eq_getElem?_getD, List.getElem?_eq_getElem hlt]
       rw [hxi] at hx0 hx1
       have HXM := Lib.hid (List.getElem_mem hlt)
       generalize l[kk] = x at hx0 hx1 HXM
       have HX0 := Lib.hid hx0
       have HX1 := Lib.hid hx1
       clear hx0 hx1 hxi
       have hol2 : o.length ≤ 9223372036854775807 := by omega
       go_wp2_with fail
       go_loopg [10, 11, 32] o.length (fun gj s10 _ s32 wi => ∃ jj : Nat, jj ≤ o.length ∧ o.length - jj ≤ gj ∧ s32 = .int .i64 jj ∧ s10 = .bool ((o.take jj).any fun y => y.f0.toList == x.f0.toList) ∧ Aside0 (Below wr.heap.size wr wi))
       case atStart => exact ⟨0, Nat.zero_le _, by omega, rfl, rfl, ⟨Below.refl _ _⟩⟩
       case round =>
         obtain ⟨jj, hjj, hgj, rfl, rfl, HI⟩ := hrel
         by_cases hlj : jj < o.length
         · have hljz : (jj : Int) < (o.length : Int) := by omega
           have htk : ((o.take (jj + 1)).any fun y => y.f0.toList == x.f0.toList) = (((o.take jj).any fun y => y.f0.toList == x.f0.toList) || (o[jj].f0.toList == x.f0.toList)) := by
             rw [List.take_add_one, List.getElem?_eq_getElem hlj, List.any_append]
             simp
           have HTK := Lib.hid htk
           obtain ⟨X', c', he, _, hrd⟩ := Kd.R_reads (Kd.R_below HO.out HI.out)
           obtain rfl : X = X' := by injection he
           obtain ⟨ed, rfl, hy0, hy1⟩ := at_T50 hrd (jj : Int) (by omega) hljz
           simp only [Int.toNat_natCast] at hy0 hy1
           have hyi : rd_T50 o (jj : Int) = o[jj] := by unfold rd_T50; simp [List.getD_eq_getElem?_getD, List.getElem?_eq_getElem hlj]
           rw [hyi] at hy0
           generalize o[jj] = y at hy0 HTK
           have hbx := below_then (below_then HB1.out HB1.out.size HB.out) (below_then HB1.out HB1.out.size HB.out).size HI.out
           have hx0 := cell_keeps hbx HX0.out
           clear hyi hy1 hrd he htk hbx
           generalize ((o.take jj).any fun y => y.f0.toList == x.f0.toList) = tw at HTK ⊢
           cases tw with
           | true =>
             go_wp2_with fail
             go_quiet (fail)
             have HI2 := Lib.hid (pw_below_drewN HI.out nq)
             go_wp2_with fail
             go_roundg (o.length - (jj + 1))
             case measure => omega
             case rel => exact ⟨jj + 1, by omega, by omega, by first | rfl | go_num, by rw [HTK.out]; rfl, ⟨HI2.out⟩⟩
           | false =>
             cases hq2 : (y.f0.toList == x.f0.toList) with
             | true =>
               go_wp2_with fail
               go_quiet (fail)
               have HI2 := Lib.hid (pw_below_drewN HI.out nq)
               go_wp2_with fail
               go_roundg (o.length - (jj + 1))
               case measure => omega
               case rel => exact ⟨jj + 1, by omega, by omega, by first | rfl | go_num, by rw [HTK.out, hq2]; rfl, ⟨HI2.out⟩⟩
             | false =>
               go_wp2_with fail
               go_quiet (fail)
               have HI2 := Lib.hid (pw_below_drewN HI.out nq)
               go_wp2_with fail
               go_roundg (o.length - (jj + 1))
               case measure => omega
               case rel => exact ⟨jj + 1, by omega, by omega, by first | rfl | go_num, by rw [HTK.out, hq2]; rfl, ⟨HI2.out⟩⟩
         · have hljz : ¬ (jj : Int) < (o.length : Int) := by omega
           obtain rfl : jj = o.length := by omega
           rw [List.take_length]
           have hbx := below_then HB.out HB.out.size HI.out
           have hby := below_then HB1.out HB1.out.size hbx
           have hx0 := cell_keeps hby HX0.out
           have hx1 := cell_keeps hby HX1.out
           have HB2 := Lib.hid hbx
           have HO2 := Lib.hid (Kd.R_below HO.out HI.out)
           clear hbx hby
           cases hany : o.any fun y => y.f0.toList == x.f0.toList with
           | true =>
             have hnot : (!o.any fun y => y.f0.toList == x.f0.toList) = false := by rw [hany]; rfl
             go_wp2_with fail
             go_roundg (l.length - (kk + 1))
             case measure => omega
             case rel => exact ⟨kk + 1, X, d, o, by omega, by omega, by omega, by first | rfl | go_num, rfl, by omega, ⟨HM.out⟩, ⟨HD.out⟩, ⟨HO2.out⟩, ⟨HB2.out⟩⟩
           | false =>
             have hnot : (!o.any fun y => y.f0.toList == x.f0.toList) = true := by rw [hany]; rfl
             have HAN := Lib.hid hany
             clear hany
             go_wp2_with ((with_reducible refine gate_builtin (b := .append) (xs := #[.tmp 52, .tmp 57]) rfl ?_); at_builtin; refine Kd.R_append k50 (w0 := w1) w1.heap.size rfl (.tmp 52) (.tmp 57) 46 50 (.agg #[.string ⟨#[]⟩, .string ⟨#[]⟩]) 32 rfl Tryz.underlying46 info50 rfl (by decide) (by decide) (.slice X o.length d) o x [.string x.f0, .string x.f1] (fun _ => True) (fun k_ => True ∧ some k_ ≠ (Value.slice X o.length d).ownBlock) (by rfl) (by rfl) (k50_mkM _ _ _ x) (fun _ hk => hk) (fun _ _ => trivial) HO2.out HB2.out HB2.out.size ?aL ?_; (case aL => omega); intro v1 w9 ho hb hg hat; obtain ⟨A9, c9, rfl, _, _⟩ := Kd.R_reads ho; rw [List.length_append, List.length_singleton] at ho ⊢; have HO9 := Lib.hid ho; have HB9 := Lib.hid hb; clear ho hb hg hat)
             go_roundg (l.length - (kk + 1))
             case measure => omega
             case rel =>
               refine ⟨kk + 1, A9, c9, o ++ [x], by omega, by omega, by omega, by first | rfl | go_num, by rw [List.length_append, List.length_singleton], by rw [List.length_append, List.length_singleton]; omega, ⟨fun y hy => ?_⟩, ⟨?_⟩, ⟨by rw [List.length_append, List.length_singleton]; exact HO9.out⟩, ⟨HB9.out⟩⟩
               · rcases List.mem_append.1 hy with hy | hy
                 · exact HM.out y hy
                 · rw [List.mem_singleton] at hy
                   rw [hy]
                   exact HXM.out
               · rw [List.map_append]
                 refine List.nodup_append.2 ⟨HD.out, (by simp), fun a ha b hb => ?_⟩
                 obtain ⟨y, hy, rfl⟩ := List.mem_map.1 ha
                 rw [List.map_cons, List.map_nil, List.mem_singleton] at hb
                 rw [hb]
                 intro e
                 have := List.any_eq_false.1 HAN.out y hy
                 rw [e] at this
                 simp at this
     · have hol12 : o.length ≤ 12 := by omega
       have HOL := Lib.hid hol12
       by_cases hlt : kk < l.length
       · have hltz : (kk : Int) < (l.length : Int) := by omega
         have hl2z : ¬ (kk : Int) < 12 := by omega
         go_wp2_with fail
         go_meet
         exact ⟨X, d, o, rfl, ⟨HOL.out⟩, ⟨HM.out⟩, ⟨HD.out⟩, ⟨HO.out⟩, ⟨HB.out⟩⟩
       · have hltz : ¬ (kk : Int) < (l.length : Int) := by omega
         go_wp2_with fail
         go_meet
         exact ⟨X, d, o, rfl, ⟨HOL.out⟩, ⟨HM.out⟩, ⟨HD.out⟩, ⟨HO.out⟩, ⟨HB.out⟩⟩
  case rest =>
    obtain ⟨X, d, o, rfl, HOL, HM, HD, HO, HB⟩ := hcut
    have hol2 : o.length ≤ 9223372036854775807 := by have := HOL.out; omega
    go_upto_if 61 with fail
    go_cut [12] (fun s12 wx => ∃ k : Nat, s12 = .int .i64 k ∧ k ≤ o.length ∧ wx = wc)
    case first =>
      rcases Nat.eq_zero_or_pos o.length with h0 | h0
      · have hg0 : ¬ (0 : Int) < (o.length : Int) := by omega
        have H0 := Lib.hid h0
        clear h0
        go_wp2_with fail
        go_meet
        exact ⟨0, rfl, by have := H0.out; omega, rfl⟩
      · have hg0 : (0 : Int) < (o.length : Int) := by omega
        obtain ⟨m1, hm1⟩ : ∃ m, Int.tmod turn (o.length : Int) = m := ⟨_, rfl⟩
        have h1 := Int.lt_tmod_of_pos turn hg0
        have h2 := Int.tmod_lt_of_pos turn hg0
        rw [hm1] at h1 h2
        obtain ⟨k, hk⟩ : ∃ k : Nat, Int.tmod (m1 + (o.length : Int)) (o.length : Int) = (k : Int) := ⟨(Int.tmod (m1 + (o.length : Int)) (o.length : Int)).toNat, by have := Int.tmod_nonneg (o.length : Int) (show (0 : Int) ≤ m1 + (o.length : Int) by omega); omega⟩
        have hk2 := Int.tmod_lt_of_pos (m1 + (o.length : Int)) hg0
        rw [hk] at hk2
        have HK := Lib.hid hk2
        have hwr : wrap64 (m1 + (o.length : Int)) = m1 + (o.length : Int) := by have := HOL.out; unfold wrap64; omega
        clear hk2
        go_wp2_with fail
        go_meet
        exact ⟨k, rfl, by have := HK.out; omega, rfl⟩
    case rest =>
      obtain ⟨k, rfl, hk, rfl⟩ := hcut
      obtain ⟨X', c', he, hcap, hrd⟩ := Kd.R_reads HO.out
      injection he with he1 he2 he3
      subst he1 he3
      obtain ⟨o1, ho1⟩ : ∃ q, q = o.take k := ⟨_, rfl⟩
      obtain ⟨o3, ho3⟩ : ∃ q, q = o.drop k := ⟨_, rfl⟩
      have HL1 : Hid (o1.length = k) := by show _ = _; rw [ho1, List.length_take]; omega
      have HL3 : Hid (o3.length = o.length - k) := by show _ = _; rw [ho3, List.length_drop]
      have HC0 := Lib.hid hrd
      have HC1 : Hid (Kd.C k50 wc X o1.length o1) := by show Kd.C _ _ _ _ _; rw [ho1]; exact Kd.C_take hrd hk
      obtain ⟨X3, hX3⟩ : ∃ Z, (if d = k then X else Option.map (fun x => x.add (k * 2)) X) = Z := ⟨_, rfl⟩
      have HC3 : Hid (Kd.C k50 wc X3 o3.length o3) := by show Kd.C _ _ _ _ _; rw [ho3, ← hX3]; exact Kd.C_drop hrd hk hcap
      have hp : ([] ++ o3 ++ o1).Perm o := by
        rw [ho1, ho3, List.nil_append]
        exact List.perm_append_comm.trans (List.Perm.of_eq (List.take_append_drop k o))
      have hm2 : newT (([] ++ o3 ++ o1).map fileOf) = newT (o.map fileOf) := by
        refine newT_perm (by rw [List.length_map]; have := HOL.out; omega) ?_ (hp.map fileOf)
        rw [List.map_map]
        have hd2 := HD.out
        have inj : ∀ z : List S50, (z.map (·.f0)).Nodup → (z.map (Prod.fst ∘ fileOf)).Nodup := fun z hz => by
          have : z.map (Prod.fst ∘ fileOf) = (z.map (·.f0)).map (fun s => s.data.toList) := by rw [List.map_map]; rfl
          rw [this]
          refine List.Pairwise.map _ (fun a b hab e => hab ?_) hz
          rw [← data_mk a, ← data_mk b]
          exact congrArg mk e
        exact inj o hd2
      have HM2 := Lib.hid hm2
      have HQS : Hid (∀ f ∈ [] ++ o3 ++ o1, f.f0.size ≤ maxLen ∧ f.f1.size ≤ maxLen) := fun f hf => HGd.out f (HM.out f (hp.mem_iff.1 hf))
      have HOS : Hid (∀ f ∈ o, f.f0.size ≤ maxLen ∧ f.f1.size ≤ maxLen) := fun f hf => HGd.out f (HM.out f hf)
      have HGc := Lib.hid (HG.out.below (below_then HB1.out HB1.out.size HB.out))
      generalize hmm : newT (o.map fileOf) = m at HM2
      have HMM := Lib.hid hmm
      have hb1 : (k : Int) ≤ (o.length : Int) := by omega
      have hb2 : (o.length : Int) ≤ (d : Int) := by omega
      have hb3 : (k : Int) ≤ (d : Int) := by omega
      have hb0 : (0 : Int) ≤ (k : Int) := by omega
      have HBk : Hid (Below wc.heap.size wc wc.drew) := Lib.hid (below_drew (Below.refl _ _))
      clear he2 hrd ho1 ho3 hp hm2 hmm
      go_upto_region 19 with fail
      go_cut [13, 14] (fun s13 s14 wx => ∃ g b g2 b2 : Nat, s13 = .pointer (some ⟨g, 0, none⟩) ∧ s14 = .pointer (some ⟨g2, 0, none⟩) ∧ Aside0 (IsTree wx g b m) ∧ Aside0 (IsTree wx g2 b2 m) ∧ Aside0 (g ≠ b2 ∧ b ≠ b2 ∧ wc.heap.size ≤ b2) ∧ Aside0 (Below wc.heap.size wc wx))
      case first =>
        go_region_held3 (fun _ => True) (trivial) (first
          | (go_at_call_of 25 (Value.slice X o.length d); refine (tree_New.calls X d o _ (HGc.out.below HBk.out) (Kd.C_below HC0.out HBk.out) HOS.out).mono ?_; rintro e w4 ⟨ga, ba, rfl, hTa, hga, hba, hBa⟩; rw [HMM.out] at hTa; have HTa := Lib.hid hTa; (try (have HY := Lib.hid (Kd.R_below HY.out hBa))); have HBk := Lib.hid (below_then HBk.out HBk.out.size hBa); clear hTa hga hba hBa)
          | (refine appF_step (by rfl) (.const (.slice none 0 0)) (.tmp 76) rfl Tryz.underlying46 info50 rfl (Kd.R_nil _ _ _ _ _) HBk.out.size o3 _ _ (by rw [HL3.out]; rfl) (Kd.C_below HC3.out HBk.out) (by have h1 := HL3.out; have h2 := HOL.out; simp; omega) ?_; intro Y e w5 hy hb5 hg5 hd5; (try (have HTa := Lib.hid (HTa.out.row (Kd.R_nil _ _ _ wc.heap.size _) hg5))); have HY := Lib.hid hy; have HBk := Lib.hid (HBk.out.trans hb5); clear hy hb5 hg5 hd5)
          | (refine appF_step (by rfl) (.tmp 77) (.tmp 80) rfl Tryz.underlying46 info50 (v := .slice Y ([] ++ o3).length e) (by rfl) HY.out HBk.out.size o1 X d (by rw [HL1.out]; rfl) (Kd.C_below HC1.out HBk.out) (by have h1 := HL1.out; have h3 := HL3.out; have h2 := HOL.out; simp; omega) ?_; intro Z f w6 hz hb6 hg6 hd6; (try (have HTa := Lib.hid (HTa.out.row HY.out hg6))); obtain ⟨q, hq⟩ : ∃ q, q = [] ++ o3 ++ o1 := ⟨_, rfl⟩; rw [← hq] at hz ⊢; have HQ := Lib.hid hq; have HZ := Lib.hid hz; have HBk := Lib.hid (HBk.out.trans hb6); clear hz hb6 hg6 hd6 hq)
          | (go_at_call_of 25 (Value.slice Z q.length f); refine (tree_New.calls Z f q _ (HGc.out.below HBk.out) (Kd.R_reads' HZ.out).2.2 (by rw [HQ.out]; exact HQS.out)).mono ?_; rintro e w7 ⟨gb, bb, rfl, hTb, hgb, hbb, hBb⟩; rw [HQ.out, HM2.out] at hTb; have HTb := Lib.hid hTb; have HNe : Hid (ga ≠ bb ∧ ba ≠ bb ∧ wc.heap.size ≤ bb) := Lib.hid ⟨(by have := HTa.out.lt; omega), (by have := HTa.out.lt; omega), Nat.le_trans HBk.out.size hbb⟩; have HTa := Lib.hid (HTa.out.below hBb); have HBk := Lib.hid (below_then HBk.out HBk.out.size hBb); clear hTb hgb hbb hBb))
        all_goals
          go_wp2_with fail
          go_meet
          exact ⟨ga, ba, gb, bb, rfl, rfl, ⟨HTa.out⟩, ⟨HTb.out⟩, ⟨HNe.out⟩, ⟨HBk.out⟩⟩
      case rest =>
        obtain ⟨g, b, g2, b2, rfl, rfl, HTa, HTb, HNe, HBk2⟩ := hcut
        have hS : SortedT m := by rw [← HMM.out]; exact SortedT.new _
        have hL : m.length ≤ 60 := by rw [← HMM.out]; exact newT_length _
        have hK : SmallT m := by rw [← HMM.out]; exact SmallT.new _
        have hkey : (keyT m).length ≤ 140737488355328 := Nat.le_trans (hK.key hL) (by decide)
        have HS := Lib.hid hS
        have HL := Lib.hid hL
        have HK := Lib.hid hK
        have HKL := Lib.hid hkey
        have HTa := Lib.hid HTa.out
        have HTb := Lib.hid HTb.out
        have HC := Lib.hid (below_then HB.out HB.out.size HBk2.out)
        have HW := Lib.hid (below_then HB1.out HB1.out.size HC.out)
        have HNb : Hid (w.heap.size ≤ b2 ∧ w1.heap.size ≤ b2) := Lib.hid ⟨Nat.le_trans HB1.out.size (Nat.le_trans HB.out.size HNe.out.2.2), Nat.le_trans HB.out.size HNe.out.2.2⟩
        obtain ⟨km, hkm⟩ : ∃ q, q = mk (keyT m) := ⟨_, rfl⟩
        have HKM := Lib.hid hkm
        have hKa := fun W hW hT => tree_Key.calls W hW g b m hT hS hL hK.names hkey
        have hKb := fun W hW hT => tree_Key.calls W hW g2 b2 m hT hS hL hK.names hkey
        rw [← hkm] at hKa hKb
        have HKa := Lib.hid hKa
        have HKb := Lib.hid hKb
        have hsame : (km.toList == km.toList) = true := by simp
        clear hS hL hK hkey hkm hKa hKb
        go_wp2_with (first
          | (go_at_call_of 29 (Value.pointer (some ⟨g, 0, none⟩)); refine (HKa.out _ (HG.out.below HW.out) HTa.out).mono ?_; rintro e w5 ⟨rfl, hb⟩; have HTa := Lib.hid (HTa.out.below hb); have HTb := Lib.hid (HTb.out.below hb); have HW := Lib.hid (below_then HW.out HW.out.size hb); have HC := Lib.hid (below_then HC.out HC.out.size hb); clear hb)
          | (go_at_call_of 29 (Value.pointer (some ⟨g2, 0, none⟩)); refine (HKb.out _ (HG.out.below HW.out) HTb.out).mono ?_; rintro e w6 ⟨rfl, hb⟩; have HTa := Lib.hid (HTa.out.below hb); have HTb := Lib.hid (HTb.out.below hb); have HW := Lib.hid (below_then HW.out HW.out.size hb); have HC := Lib.hid (below_then HC.out HC.out.size hb); have k1 := (blk_cell (blk_below HO1.out HC.out) 1).trans rfl; have k2 := (blk_cell (blk_below HO1.out HC.out) 2).trans rfl; clear hb)
          | (go_at_call 30; refine (tree_Read.calls _ g b m HTa.out name HN.out).mono ?_; rintro e w7 ⟨rfl, hd⟩; have HTa := Lib.hid (HTa.out.below hd.below); have HTb := Lib.hid (HTb.out.below hd.below); have HW := Lib.hid (below_then HW.out HW.out.size hd.below); have HC := Lib.hid (below_then HC.out HC.out.size hd.below); have k1 := (blk_cell (blk_below HO1.out HC.out) 1).trans rfl; have k2 := (blk_cell (blk_below HO1.out HC.out) 2).trans rfl; clear hd))
        refine (tree_Write.calls _ (HG.out.below HW.out) g2 b2 m HTb.out name bs HN.out HBs.out HL.out).mono ?_
        rintro e w8 ⟨rfl, hT, hg⟩
        have HTc := Lib.hid hT
        have HTa := Lib.hid (HTa.out.kept (hg.block g HTa.out.lt.1 (by simpa using HNe.out.1)) (hg.block b HTa.out.lt.2 (by simpa using HNe.out.2.1)))
        have HW := Lib.hid (HW.out.grown hg HW.out.size (fun k hk => by cases hk; exact HNb.out.1))
        have HC := Lib.hid (HC.out.grown hg HC.out.size (fun k hk => by cases hk; exact HNb.out.2))
        have k2 := (blk_cell (blk_below HO1.out HC.out) 2).trans rfl
        clear hT hg HTb k1
        by_cases hz : (writeT m name.data.toList bs.data.toList).2 = 0
        · have hS2 := HS.out.write name.data.toList bs.data.toList
          have hL2 := writeT_length m name.data.toList bs.data.toList HL.out
          have hK2 := HK.out.write name.data.toList bs.data.toList
          have hkey2 : (keyT (writeT m name.data.toList bs.data.toList).1).length ≤ 140737488355328 := Nat.le_trans (hK2.key hL2) (by decide)
          have hiff := key_write HS.out name.data.toList bs.data.toList hz
          have HIff : Hid (km.toList = (mk (keyT (writeT m name.data.toList bs.data.toList).1)).toList ↔ getT m name.data.toList = some bs.data.toList) := by
            show _ ↔ _
            rw [HKM.out, toList_eq, toList_eq, mk_data, mk_data]
            exact hiff
          rw [hz]
          generalize (writeT m name.data.toList bs.data.toList).1 = m2 at HTc hS2 hL2 hK2 hkey2 HIff
          have hKb2 := fun W hW hT => tree_Key.calls W hW g2 b2 m2 hT hS2 hL2 hK2.names hkey2
          generalize mk (keyT m2) = km2 at hKb2 HIff
          have HKc := Lib.hid hKb2
          clear hS2 hL2 hK2 hkey2 hiff hz hKb2
          cases hgm : getT m name.data.toList with
          | none =>
            have hne : (km.toList == km2.toList) = false := by
              rw [beq_eq_false_iff_ne]
              intro e
              have := HIff.out.1 e
              rw [hgm] at this
              cases this
            clear hgm
            simp only [Option.getD_none, Option.isSome_none]
            go_wp2_with (first
              | (go_at_call_of 29 (Value.pointer (some ⟨g, 0, none⟩)); refine (HKa.out _ (HG.out.below HW.out) HTa.out).mono ?_; rintro e w9 ⟨rfl, hb⟩; have HTc := Lib.hid (HTc.out.below hb); have HW := Lib.hid (below_then HW.out HW.out.size hb); have HC := Lib.hid (below_then HC.out HC.out.size hb); have k2 := (blk_cell (blk_below HO1.out HC.out) 2).trans rfl; clear hb)
              | (go_at_call_of 29 (Value.pointer (some ⟨g2, 0, none⟩)); refine (HKc.out _ (HG.out.below HW.out) HTc.out).mono ?_; rintro e w10 ⟨rfl, hb⟩; have HW := Lib.hid (below_then HW.out HW.out.size hb); have HC := Lib.hid (below_then HC.out HC.out.size hb); have k2 := (blk_cell (blk_below HO1.out HC.out) 2).trans rfl; clear hb))
            go_ret
            exact ⟨rfl, HW.out⟩
          | some xv =>
            by_cases hxv : xv = bs.data.toList
            · have hne : (km.toList == km2.toList) = true := by
                rw [beq_iff_eq]
                exact HIff.out.2 (by rw [hgm, hxv])
              obtain ⟨xs, hxs⟩ : ∃ q, mk ((some xv).getD []) = q := ⟨_, rfl⟩
              have hxb : (xs.toList == bs.toList) = true := by
                rw [← hxs, hxv, Option.getD_some, data_mk]
                simp
              rw [hxs]
              clear hgm hxs
              simp only [Option.isSome_some]
              go_wp2_with (first
                | (go_at_call_of 29 (Value.pointer (some ⟨g, 0, none⟩)); refine (HKa.out _ (HG.out.below HW.out) HTa.out).mono ?_; rintro e w9 ⟨rfl, hb⟩; have HTc := Lib.hid (HTc.out.below hb); have HW := Lib.hid (below_then HW.out HW.out.size hb); have HC := Lib.hid (below_then HC.out HC.out.size hb); have k2 := (blk_cell (blk_below HO1.out HC.out) 2).trans rfl; clear hb)
                | (go_at_call_of 29 (Value.pointer (some ⟨g2, 0, none⟩)); refine (HKc.out _ (HG.out.below HW.out) HTc.out).mono ?_; rintro e w10 ⟨rfl, hb⟩; have HW := Lib.hid (below_then HW.out HW.out.size hb); have HC := Lib.hid (below_then HC.out HC.out.size hb); have k2 := (blk_cell (blk_below HO1.out HC.out) 2).trans rfl; clear hb))
              go_ret
              exact ⟨rfl, HW.out⟩
            · have hne : (km.toList == km2.toList) = false := by
                rw [beq_eq_false_iff_ne]
                intro e
                have := HIff.out.1 e
                rw [hgm] at this
                exact hxv (Option.some.inj this)
              obtain ⟨xs, hxs⟩ : ∃ q, mk ((some xv).getD []) = q := ⟨_, rfl⟩
              have hxb : (xs.toList == bs.toList) = false := by
                rw [← hxs, beq_eq_false_iff_ne, Option.getD_some, toList_eq, toList_eq, mk_data]
                exact hxv
              rw [hxs]
              clear hgm hxs
              simp only [Option.isSome_some]
              go_wp2_with (first
                | (go_at_call_of 29 (Value.pointer (some ⟨g, 0, none⟩)); refine (HKa.out _ (HG.out.below HW.out) HTa.out).mono ?_; rintro e w9 ⟨rfl, hb⟩; have HTc := Lib.hid (HTc.out.below hb); have HW := Lib.hid (below_then HW.out HW.out.size hb); have HC := Lib.hid (below_then HC.out HC.out.size hb); have k2 := (blk_cell (blk_below HO1.out HC.out) 2).trans rfl; clear hb)
                | (go_at_call_of 29 (Value.pointer (some ⟨g2, 0, none⟩)); refine (HKc.out _ (HG.out.below HW.out) HTc.out).mono ?_; rintro e w10 ⟨rfl, hb⟩; have HW := Lib.hid (below_then HW.out HW.out.size hb); have HC := Lib.hid (below_then HC.out HC.out.size hb); have k2 := (blk_cell (blk_below HO1.out HC.out) 2).trans rfl; clear hb))
              go_ret
              exact ⟨rfl, HW.out⟩
        · rw [write_same _ _ hz] at HTc
          have hzz : ((writeT m name.data.toList bs.data.toList).2 != 0) = true := by simp [hz]
          generalize (writeT m name.data.toList bs.data.toList).2 = z at hzz ⊢
          generalize mk ((getT m name.data.toList).getD []) = v0
          generalize (getT m name.data.toList).isSome = i0
          clear hz
          go_wp2_with (first
            | (go_at_call_of 29 (Value.pointer (some ⟨g, 0, none⟩)); refine (HKa.out _ (HG.out.below HW.out) HTa.out).mono ?_; rintro e w9 ⟨rfl, hb⟩; have HTc := Lib.hid (HTc.out.below hb); have HW := Lib.hid (below_then HW.out HW.out.size hb); have HC := Lib.hid (below_then HC.out HC.out.size hb); have k2 := (blk_cell (blk_below HO1.out HC.out) 2).trans rfl; clear hb)
            | (go_at_call_of 29 (Value.pointer (some ⟨g2, 0, none⟩)); refine (HKb.out _ (HG.out.below HW.out) HTc.out).mono ?_; rintro e w10 ⟨rfl, hb⟩; have HW := Lib.hid (below_then HW.out HW.out.size hb); have HC := Lib.hid (below_then HC.out HC.out.size hb); have k2 := (blk_cell (blk_below HO1.out HC.out) 2).trans rfl; clear hb))
          go_ret
          exact ⟨rfl, HW.out⟩

noncomputable def shipwrightlaw1_TreeKey.f (l : List S50) (_turn _kind : Int) (name bs : ByteArray) : Option Bool :=
  open Classical in if (∀ y ∈ l, y.f0.size ≤ maxLen ∧ y.f1.size ≤ maxLen) ∧ name.size ≤ maxLen ∧ bs.size ≤ maxLen then some true else none
theorem shipwrightlaw1_TreeKey.calls (A : Option Addr) (c : Nat) (l : List S50) (turn kind : Int) (name bs : ByteArray) (r : Bool) (w : World) (hG : GOK w) (hr : Kd.C k50 w A l.length l) (_hc : l.length ≤ c) (h : shipwrightlaw1_TreeKey.f l turn kind name bs = some r) :
    Calls Tryz.prog 7 #[.slice A l.length c, .int .i64 turn, .agg #[.int .i64 kind, .string name, .string bs]] w fun e w' => e = .returned (.bool r) ∧ Below w.heap.size w w' := by
  unfold shipwrightlaw1_TreeKey.f at h
  split at h
  · rename_i hs
    obtain rfl := Option.some.inj h
    exact treeKey_walk A c l turn kind name bs w hG hr hs.1 hs.2.1 hs.2.2
  · cases h
theorem pure_TreeKey (l : List S50) (turn kind : Int) (name bs : ByteArray) (_h0 : l.length * 32 ≤ 140737488351232) (hg : ∀ y ∈ l, y.f0.size ≤ maxLen ∧ y.f1.size ≤ maxLen) {p : Prop} (_h1 : p) (hn : name.size ≤ maxLen) (hb : bs.size ≤ maxLen) : shipwrightlaw1_TreeKey.f l turn kind name bs = some true := by
  unfold shipwrightlaw1_TreeKey.f
  rw [if_pos ⟨hg, hn, hb⟩]

end Go.Proofs.YtobbliglnjgbaaaGreatDoor.X

namespace Go.Proofs.YtobbliglnjgbaaaGreatDoor.X
open Go.RowKit Go.ChangeShapes Go.WideShapes Go.Deep Go.Proofs.YtobbliglnjgbaaaGreatDoorW.PrintWords

theorem addr_add (a : Addr) (i j : Nat) : (a.add i).add j = a.add (i + j) := by
  unfold Addr.add
  by_cases hi : i = 0 <;> by_cases hj : j = 0 <;> simp [hi, hj, Nat.add_assoc]
section
variable {H : Type} {enc : TypeId × Value → H} {W : World} {α : Type}
/-- What a row reads as: nil, or its elements and its spare places. -/
def RowD (E : α → DataW H) (l : List α) (d : DataW H) : Prop := (d = .nil ∧ l = []) ∨ ∃ sp, d = .slice (l.map E) sp
theorem open_rowG [Inhabited α] (K : Kd α) (E : α → DataW H) (good : α → Prop) {P : Program} {base : Nat} {held : Bool} {t e : TypeId} {v : Value} {d : DataW H} {ps : List MemPlace}
    (ht : P.underlying t = some (.slice e)) (hce : P.cellsOf e = K.sz)
    (hel : ∀ n cs x p, cs.length = K.sz → DataW.trod enc P W base (fun _ => true) held n e cs = some (x, p) → ∃ y : α, K.K W y cs ∧ x = E y ∧ good y)
    (hv : ∃ a len cap, v = .slice a len cap) (h : DataW.Trod enc P W base (fun _ => true) held t v d ps) :
    ∃ (a : Option Addr) (l : List α) (c : Nat), v = .slice a l.length c ∧ K.C W a l.length l ∧ l.length ≤ c ∧ RowD E l d ∧ ∀ y ∈ l, good y := by
  obtain ⟨a0, len0, cap0, rfl⟩ := hv
  obtain ⟨fuel, hf⟩ := h
  rcases open_slice ht hf with ⟨hcs, hx⟩ | ⟨a, len, cap, m, n, D, Pl, hcs, hb, hl, hm, hmm, hx, hall⟩
  · simp [Value.cells] at hcs
    obtain ⟨rfl, rfl, rfl⟩ := hcs
    have := (Prod.mk.inj hx).1
    exact ⟨none, [], 0, rfl, ⟨rfl, by simp, fun h => by simp at h⟩, Nat.le_refl _, .inl ⟨this, rfl⟩, fun y hy => by cases hy⟩
  · simp [Value.cells] at hcs
    obtain ⟨rfl, rfl, rfl⟩ := hcs
    obtain ⟨hx1, _⟩ := Prod.mk.inj hx
    have hlm : len0 ≤ m := by rw [hmm]; simp; omega
    obtain ⟨Y, hY⟩ := choose_lt (α := α) (n := len0) (p := fun i y => ∃ cs, W.cells? base (a.add (i * K.sz)) K.sz = some cs ∧ K.K W y cs ∧ D i = E y ∧ good y) (fun i hi => by
      obtain ⟨cs, h1, h2⟩ := hall i (by omega)
      rw [hce] at h1
      obtain ⟨_, hlen, _⟩ := World.cells?_some h1
      obtain ⟨y, h3, h4, h5⟩ := hel n cs _ _ hlen h2
      exact ⟨y, cs, h1, h3, h4, h5⟩)
    have hle : len0 ≤ 9223372036854775807 := by unfold maxLen at hm; omega
    refine ⟨some a, (List.range len0).map Y, cap0, by simp, ?_, by simpa using hl, .inr ⟨(List.range (m - len0)).map fun j => D (len0 + j), hx1.trans ?_⟩, ?_⟩
    · refine ⟨rfl, by simpa using hle, fun _ => ⟨a, rfl, fun j p hj => ?_⟩⟩
      obtain ⟨hjl, hjp⟩ := List.getElem?_eq_some_iff.1 hj
      have hjn : j < len0 := by simpa using hjl
      have hp : Y j = p := by simpa using hjp
      obtain ⟨cs, h1, h2, _, _⟩ := hY j hjn
      rw [hp] at h2
      obtain ⟨_, hlen, hcell⟩ := World.cells?_some h1
      refine ⟨cs, hlen, h2, fun i u hu => ?_⟩
      have hi : i < K.sz := by rw [← hlen]; exact (List.getElem?_eq_some_iff.1 hu).1
      have := hcell i hi
      rw [hu] at this
      rw [← this, addr_add]
    · congr 1
      rw [List.map_map]
      refine List.map_congr_left fun i hi => ?_
      obtain ⟨_, _, _, h3, _⟩ := hY i (List.mem_range.1 hi)
      exact h3
    · intro y hy
      obtain ⟨i, hi, rfl⟩ := List.mem_map.1 hy
      obtain ⟨_, _, _, _, h4⟩ := hY i (List.mem_range.1 hi)
      exact h4

end

instance : Inhabited S34 := ⟨z34⟩
instance : Inhabited S50 := ⟨z50⟩
def eFile {H : Type} (y : S50) : DataW H := .agg [.lit (.string y.f0.data.toList), .lit (.string y.f1.data.toList)]
theorem two_cells {cs : List Value} (h : cs.length = 2) : ∃ a b, cs = [a, b] := by
  match cs, h with
  | [a, b], _ => exact ⟨a, b, rfl⟩
theorem open_files {H : Type} {enc : TypeId × Value → H} {W : World} {base : Nat} {held : Bool} {v : Value} {d : DataW H} {ps : List MemPlace} (hv : ∃ a len cap, v = Value.slice a len cap)
    (h : DataW.Trod enc Tryz.prog W base (fun _ => true) held 46 v d ps) :
    ∃ (a : Option Addr) (l : List S50) (c : Nat), v = .slice a l.length c ∧ Kd.C k50 W a l.length l ∧ l.length ≤ c ∧ RowD (eFile (H := H)) l d ∧ ∀ y ∈ l, y.f0.size ≤ maxLen ∧ y.f1.size ≤ maxLen :=
  open_rowG k50 eFile (fun y => y.f0.size ≤ maxLen ∧ y.f1.size ≤ maxLen) Tryz.underlying46 (by kernel_rfl) (fun n cs x p hl hx => by
    obtain ⟨y0, y1, m, h1, _, h2, h3⟩ := trod_struct2 Tryz.underlying50 hx
    obtain ⟨ca, cb, rfl⟩ := two_cells hl
    have c2 : Tryz.prog.cellsOf 9 = 1 := by kernel_rfl
    simp only [c2, List.drop_zero, List.drop_succ_cons, List.take_succ_cons, List.take_zero] at h2 h3
    obtain ⟨b, e1, e2, e6⟩ := DataW.trod_string Tryz.underlying9 h2
    obtain ⟨s, e3, e4, e5⟩ := DataW.trod_string Tryz.underlying9 h3
    refine ⟨⟨b, s⟩, ?_, ?_, e6, e5⟩
    · cases e1; cases e3
      exact k50_mk W ⟨b, s⟩
    · rw [(Prod.mk.inj h1).1, e2, e4]
      rfl) hv h

theorem sized_row {H : Type} {α : Type} {E : α → DataW H} {l : List α} {P : Program} {ts : List TypeId} {ds : List (DataW H)} {j : Nat} {t e : TypeId} {d : DataW H} {B : Nat}
    (hsz : (DataW.weightsEach P ts ds).all (· ≤ reachBytes) = true) (ht : ts[j]? = some t) (hd : RowD E l d) (hj : ds[j]? = some d) (hu : P.underlying t = some (.slice e)) (hB : P.bytesOf e = B) : l.length * B ≤ 140737488351232 := by
  rcases hd with ⟨_, rfl⟩ | ⟨sp, rfl⟩
  · simp
  · have z := sized_slice hsz ht hj hu
    rw [hB, List.length_map] at z
    exact Nat.le_trans (Nat.mul_le_mul_right _ (Nat.le_add_right _ _)) z

end Go.Proofs.YtobbliglnjgbaaaGreatDoor.X

namespace Go.Proofs.YtobbliglnjgbaaaGreatDoor.X
open Go.RowKit Go.ChangeShapes Go.WideShapes Go.Deep Go.Proofs.YtobbliglnjgbaaaGreatDoorW.PrintWords

instance : Inhabited S48 := ⟨z48⟩
theorem three_cells {cs : List Value} (h : cs.length = 3) : ∃ a b c, cs = [a, b, c] := by
  match cs, h with
  | [a, b, c], _ => exact ⟨a, b, c, rfl⟩
end Go.Proofs.YtobbliglnjgbaaaGreatDoor.X

namespace Go.Proofs.YtobbliglnjgbaaaGreatDoor.X
open Go.RowKit Go.ChangeShapes Go.WideShapes Go.Deep Go.Proofs.YtobbliglnjgbaaaGreatDoorW.PrintWords

theorem open_op1 {H : Type} {enc : TypeId × Value → H} {W : World} {base : Nat} {held : Bool} {v : Value} {d : DataW H} {ps : List MemPlace} (hv : ∃ cs, v = Value.agg cs ∧ cs.size = Tryz.prog.cellsOf 48)
    (h : DataW.Trod enc Tryz.prog W base (fun _ => true) held 48 v d ps) :
    ∃ (b : Int) (s t : ByteArray), v = .agg #[.int .i64 b, .string s, .string t] ∧ s.size ≤ maxLen ∧ t.size ≤ maxLen := by
  obtain ⟨cs, rfl, hs⟩ := hv
  obtain ⟨fuel, hf⟩ := h
  have c0 : Tryz.prog.cellsOf 48 = 3 := by kernel_rfl
  rw [c0] at hs
  obtain ⟨ca, cb, cc, hl⟩ := three_cells (cs := cs.toList) (by simpa using hs)
  obtain rfl : cs = #[ca, cb, cc] := by apply Array.toList_inj.1; exact hl
  obtain ⟨y0, y1, y2, m, h1, _, h2, h3, h4⟩ := trod_struct3 Tryz.underlying48 hf
  have c1 : Tryz.prog.cellsOf 3 = 1 := by kernel_rfl
  have c2 : Tryz.prog.cellsOf 9 = 1 := by kernel_rfl
  simp only [Value.cells, c1, c2, List.drop_zero, List.drop_succ_cons, List.take_succ_cons, List.take_zero] at h2 h3 h4
  obtain ⟨b, e1, e2, _⟩ := DataW.trod_int Tryz.underlying3 h2
  obtain ⟨s, e3, e4, e5⟩ := DataW.trod_string Tryz.underlying9 h3
  obtain ⟨t, e6, e7, e8⟩ := DataW.trod_string Tryz.underlying9 h4
  cases e1; cases e3; cases e6
  exact ⟨b, s, t, rfl, e5, e8⟩

end Go.Proofs.YtobbliglnjgbaaaGreatDoor.X
