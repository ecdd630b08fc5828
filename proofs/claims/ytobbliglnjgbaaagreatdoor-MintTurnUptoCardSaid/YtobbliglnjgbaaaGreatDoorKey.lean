/-
  Trees: Key, the key of the names and bytes in the names' order.
-/
import Derived.Test.YtobbliglnjgbaaaGreatDoorNames
namespace Go.Proofs.YtobbliglnjgbaaaGreatDoor.X
open Go.RowKit Go.Maps Go.Proofs.YtobbliglnjgbaaaGreatDoorW.PrintWords

section
variable {P : Program} {ops : Array Oper} {rest : List Oper} {o : Oper} {a : Act} {Q : Exit → Act → World → Prop}
theorem append_two {w0 W : World} (base : Nat) (hgd : o.guard = none) (s x : Operand) (t e : TypeId) (z : Value) (bytes : Nat)
    (ho : o.op = .call { callee := .builtin .append, args := #[s, x], argTypes := #[t, t] })
    (ht : P.underlying t = some (.slice e)) (hinfo : (P.info? e).map (fun i => (i.zero, i.size, i.bytes)) = some (some z, 1, bytes)) (hz : z.cells.size = 1) (hb0 : 0 < bytes)
    (v : Value) (xs : List Value) (y1 y2 : Value) (hs : a.eval s = v) (hx : a.eval x = .slice (some ⟨W.heap.size, 0, none⟩) 2 2) (h1 : y1.oneCell' = true) (h2 : y2.oneCell' = true)
    (HO : W.ownsRow base e 1 v xs.length xs) (HB : Below base w0 W) (hbase : base ≤ W.heap.size) (hl : (xs.length + 2) * bytes ≤ 140737488355328)
    (h : ∀ v1 w1, w1.ownsRow base e 1 v1 (xs ++ [y1, y2]).length (xs ++ [y1, y2]) → Below base w0 w1 → W.grownBy w1 v.ownBlock → (v1.ownBlock = v.ownBlock ∨ ∃ b, v1.ownBlock = some b ∧ W.heap.size ≤ b) → wpList P ops Q rest (a.put o.dst v1) w1) :
    wpList P ops Q (o :: rest) a (W.alloc (.cells #[y1, y2] e)) := by
  obtain ⟨i0, hi, hzz⟩ := Option.map_eq_some_iff.1 hinfo
  simp only [Prod.mk.injEq] at hzz
  obtain ⟨hz0, hz1, hz2⟩ := hzz
  have hlen : xs.length + 2 ≤ 140737488355328 := Nat.le_trans (Nat.le_mul_of_pos_right _ hb0) hl
  refine wpList_append_own_at (W.alloc (.cells #[y1, y2] e)) hgd s x t ho base e i0 z 1 bytes ht hi hz0 hz1 hz2 hz (by omega) v xs.length xs hs (HO.alloc _) ⟨W.heap.size, 0, none⟩ 2 2 [y1, y2] hx rfl
    (World.news_of_block (cs := #[y1, y2]) (t := e) (fr := (0, 0)) (heap_alloc_new W _)) (by simp [h1, h2]) (by simp only [maxLen]; omega) hl (by simp; omega) ?_
  intro v1 w1 hown hg _ hat
  refine h v1 w1 (by simpa using hown) ((HB.alloc hbase _).grown hg (by simp; omega) (own_base HO)) (World.grownBy.trans (World.grownBy_alloc W _ _) hg) ?_
  rcases hat with hat | hat
  · exact .inl hat
  · exact .inr ⟨_, hat, by simp⟩
end

theorem IsTree.look1 {w : World} {g b : Nat} {m : TM} (h : IsTree w g b m) (k : ByteArray) (hk : k.size ≤ maxLen) :
    (Instr.lookup 77 (.map (some b)) (.string k) false).run Tryz.prog w = .ok (.string (X.mk ((getT m k.data.toList).getD []))) w := by
  obtain ⟨v, ps, hrun, hR⟩ := h.map.lookup kS Tryz.underlying77 (zS w) pS (Go.WideMaps.keyOf_string_mk Tryz.underlying9 hk)
  rw [encT_at] at hR
  obtain ⟨s, rfl, hs, _⟩ := plainElem_string_inv Tryz.underlying9 hR
  rw [hrun]
  have h0 := (Prod.mk.inj hs).1
  simp only [DataW.lit.injEq, Lit.string.injEq] at h0
  rw [h0, data_mk]

def flatT (m : TM) : List ByteArray := m.flatMap fun p => [mk p.1, mk p.2]
theorem flatT_key (m : TM) : put ((flatT m).map (·.data.toList)) = keyT m := by
  unfold flatT keyT
  congr 1
  rw [List.map_flatMap]
  simp only [List.map_cons, List.map_nil, mk_data]
theorem flatT_take (m : TM) (k : Nat) (h : k < m.length) : flatT (m.take (k + 1)) = flatT (m.take k) ++ [mk (m[k]).1, mk (m[k]).2] := by
  unfold flatT
  rw [List.take_succ_eq_append_getElem h, List.flatMap_append]
  simp
theorem flatT_length (m : TM) : (flatT m).length = 2 * m.length := by
  induction m with
  | nil => rfl
  | cons p r ih => simp only [flatT, List.flatMap_cons, List.length_append, List.length_cons, List.length_nil] at ih ⊢; omega
theorem find_sorted {m : TM} (h : SortedT m) (k : Nat) (hk : k < m.length) : getT m (m[k]).1 = some (m[k]).2 := by
  unfold getT
  have : m.find? (fun p => p.1 == (m[k]).1) = some m[k] := by
    rw [List.find?_eq_some_iff_getElem]
    refine ⟨by simp, k, hk, rfl, fun j hj => ?_⟩
    have := List.pairwise_iff_getElem.1 h j k (by omega) hk hj
    simp only [Bool.not_eq_true']
    rw [beq_eq_false_iff_ne]
    intro e
    rw [e, WideAt.bytes_irrefl] at this
    cases this
  rw [this]
  rfl

theorem infoS : (Tryz.prog.info? 9).map (fun i => (i.zero, i.size, i.bytes)) = some (some (.string ⟨#[]⟩), 1, 16) := by kernel_rfl
set_option maxHeartbeats 4000000 in
set_option maxRecDepth 100000 in
theorem tree_Key.calls (w : World) (hG : GOK w) (g b : Nat) (m : TM) (h : IsTree w g b m) (hm : SortedT m) (hl : m.length ≤ 60) (hkey : ∀ p ∈ m, p.1.length ≤ maxLen) (hput : (keyT m).length ≤ 140737488355328) :
    Calls Tryz.prog 29 #[.pointer (some ⟨g, 0, none⟩)] w fun e w' => e = .returned (.string (mk (keyT m))) ∧ Below w.heap.size w w' := by
  have hN := tree_Names.calls w g b m h hm hl
  have HT := Lib.hid h
  have HM := Lib.hid hm
  have HG := Lib.hid hG
  have HP : Hid ((keyT m).length ≤ 140737488355328) := hput
  have HKey := Lib.hid hkey
  clear hG h hm hput hkey
  generalize hnm : (m.map fun p => mk p.1) = nm at hN
  have hnl : nm.length = m.length := by rw [← hnm, List.length_map]
  have HNM := Lib.hid hnm
  clear hnm
  go_enter Tryz.func29, Tryz.ntmps29
  go_wp2_with fail
  refine hN.mono ?_
  rintro e w1 ⟨vn, rfl, hrow, hb1⟩
  obtain ⟨A, c, rfl, hc, hrd⟩ := Kd.R_reads (Kd.R_of_own (h1 := fun _ => rfl) (ok := fun _ => True) hrow (fun _ _ => trivial))
  have HROW : Hid (w1.ownsRow w.heap.size 9 1 (.slice A nm.length c) nm.length (encs Value.string nm)) := hrow
  have HB1 := Lib.hid hb1
  clear hrow hb1 hc hrd
  have hnl2 : nm.length ≤ 60 := by omega
  have HNL : Hid (nm.length = m.length) := hnl
  clear hnl
  go_wp2_with fail
  go_loopg [3, 5, 9] nm.length (fun gg s3 _ s9 wr => ∃ kk : Nat, kk ≤ nm.length ∧ nm.length - kk ≤ gg ∧ s9 = .int .i64 kk ∧ Aside0 (wr.ownsRow w.heap.size 9 1 s3 (encs Value.string (flatT (m.take kk))).length (encs Value.string (flatT (m.take kk)))) ∧
    Aside0 (wr.ownsRow w.heap.size 9 1 (.slice A nm.length c) nm.length (encs Value.string nm)) ∧ Aside0 (s3.ownBlock = none ∨ s3.ownBlock ≠ (Value.slice A nm.length c).ownBlock) ∧ Aside0 (Below w.heap.size w wr))
  case atStart =>
    exact ⟨0, Nat.zero_le _, by omega, rfl, ⟨own_nil _ _ _ _⟩, ⟨HROW.out⟩, ⟨.inl rfl⟩, ⟨HB1.out⟩⟩
  case round =>
    obtain ⟨kk, hkk, hgk, rfl, HO, HR, HNE, HW⟩ := hrel
    by_cases hlt : kk < nm.length
    · have hltz : (kk : Int) < (nm.length : Int) := by omega
      have hkm : kk < m.length := by have := HNL.out; omega
      obtain ⟨A', c', he, _, hrd⟩ := Kd.R_reads (Kd.R_of_own (h1 := fun _ => rfl) (ok := fun _ => True) HR.out (fun _ _ => trivial))
      obtain rfl : A = A' := by injection he
      obtain ⟨y, hy⟩ : ∃ y, y = nm.getD kk ByteArray.empty := ⟨_, rfl⟩
      have hym : y = mk (m[kk]).1 := by
        rw [hy, List.getD_eq_getElem?_getD, List.getElem?_eq_getElem hlt]
        simp only [Option.getD_some]
        have := HNM.out
        subst this
        rw [List.getElem_map]
      rcases row_open hrd with h0 | ⟨b', o, rfl, _, hcell⟩
      · exfalso; rw [h0] at hlt; simp at hlt
      have hx : wr.cell? ⟨b', o + kk, none⟩ = some (.string y) := by rw [hy]; exact hcell kk hlt
      have hTW := HT.out.below HW.out
      have hc := hTW.c
      have hsz : y.size ≤ maxLen := by rw [hym, mk_size]; exact HKey.out _ (List.getElem_mem hkm)
      have hlk := hTW.look1 y hsz
      obtain ⟨z, hz⟩ : ∃ z, z = mk (m[kk]).2 := ⟨_, rfl⟩
      have hget : mk ((getT m y.data.toList).getD []) = z := by rw [hym, mk_data, find_sorted HM.out kk hkm, hz]; rfl
      rw [hget] at hlk
      have HF : Hid (flatT (m.take (kk + 1)) = flatT (m.take kk) ++ [y, z]) := by show _ = _; rw [flatT_take m kk hkm, hym, hz]
      have HL2 : Hid ((flatT (m.take kk)).length = 2 * kk) := by show _ = _; rw [flatT_length, List.length_take]; omega
      have hwb : w.heap.size ≤ wr.heap.size := HW.out.size
      have HWB := Lib.hid hwb
      clear hcell hrd hy hym hget hz he hsz hTW
      go_wp2_with (first | ((with_reducible refine gate_builtin (b := .append) (xs := #[.tmp 13, .tmp 21]) rfl ?_); at_builtin; refine append_two (w0 := w) w.heap.size rfl (.tmp 13) (.tmp 21) 28 9 (.string ⟨#[]⟩) 16 rfl Tryz.underlying28 infoS rfl (by decide) u3 (encs Value.string (flatT (m.take kk))) (.string y) (.string z) rfl ?aX rfl rfl HO.out HW.out HWB.out ?aL ?_; (case aX => exact rfl); (case aL => have := HL2.out; unfold encs; rw [List.length_map, this]; omega); intro v1 w2 ho hb hg hat))
      rw [show encs Value.string (flatT (m.take kk)) ++ [.string y, .string z] = encs Value.string (flatT (m.take (kk + 1))) by rw [HF.out]; unfold encs; rw [List.map_append]; rfl] at ho
      have HR2 : Hid (w2.ownsRow w.heap.size 9 1 (.slice (some ⟨b', o, none⟩) nm.length c) nm.length (encs Value.string nm)) :=
        own_other HR.out hg (by
          rcases HNE.out with h | h
          · exact .inr (by rw [h]; simp [Value.ownBlock])
          · exact .inr (Ne.symm h))
      have HNE2 : Hid (v1.ownBlock = none ∨ v1.ownBlock ≠ (Value.slice (some ⟨b', o, none⟩) nm.length c).ownBlock) := by
        rcases hat with h | ⟨q, h, hq⟩
        · exact h ▸ HNE.out
        · refine .inr ?_
          rw [h]
          simp only [Value.ownBlock, ne_eq, Option.some.injEq]
          omega
      have HO2 := Lib.hid ho
      have HB2 := Lib.hid hb
      clear ho hb hg hat hx hc hlk HF HL2 HWB
      go_wp2
      go_roundg (nm.length - (kk + 1))
      case measure => omega
      case rel => exact ⟨kk + 1, by omega, by omega, by go_num, ⟨HO2.out⟩, ⟨HR2.out⟩, ⟨HNE2.out⟩, ⟨HB2.out⟩⟩
    · have hltz : ¬ (kk : Int) < (nm.length : Int) := by omega
      obtain rfl : kk = nm.length := by omega
      have ho := HO.out
      rw [HNL.out, List.take_length] at ho
      obtain ⟨A', c', rfl, hc', hrd⟩ := Kd.R_reads (Kd.R_of_own (h1 := fun _ => rfl) (ok := fun _ => True) (show wr.ownsRow w.heap.size 9 1 u3 (flatT m).length (encs Value.string (flatT m)) by unfold encs at ho; rw [List.length_map] at ho; exact ho) (fun _ _ => trivial))
      have hP := mint_Put.calls A' c' (flatT m) (mk (keyT m)) wr (HG.out.below HW.out) hrd hc' (by unfold mint_Put.f; rw [flatT_key, if_pos HP.out])
      clear hrd ho hc'
      go_wp2_with fail
      refine hP.mono ?_
      rintro e w2 ⟨rfl, hb2⟩
      go_wp2
      go_ret
      exact ⟨rfl, below_then HW.out HW.out.size hb2⟩

end Go.Proofs.YtobbliglnjgbaaaGreatDoor.X
