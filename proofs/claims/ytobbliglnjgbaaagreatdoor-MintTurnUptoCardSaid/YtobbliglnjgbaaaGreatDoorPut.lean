/-
  mint.Put on bytes: each part with its length ahead of it, written into a strings.Builder.
-/
import Derived.Test.YtobbliglnjgbaaaGreatDoorMint
namespace Go.Proofs.YtobbliglnjgbaaaGreatDoor.X
open Go.RowKit Go.Proofs.YtobbliglnjgbaaaGreatDoorW.PrintWords

theorem builder_below {T e : TypeId} {B b : Nat} {bs : List Value} {w w1 : World} (h : Lib.IsBuilder T e B b bs w) (hb : Below w.heap.size w w1) : Lib.IsBuilder T e B b bs w1 := by
  have one : ∀ p, Lib.BuilderAt T e B b p bs w → Lib.BuilderAt T e B b p bs w1 := by
    rintro p ⟨hB, v, hh, ho, hne⟩
    exact ⟨hB, v, (hb.block b (Array.getElem?_eq_some_iff.1 hh).1).trans hh, pw_own_below ho hb, hne⟩
  rcases h with h | h
  · exact .inl (one _ h)
  · exact .inr (one _ h)
theorem byteCells_snoc (l m : Bytes) (s : ByteArray) (h : s.data.toList = m) : Lib.byteCells l ++ Lib.strCells s = Lib.byteCells (l ++ m) := by
  subst h
  unfold Lib.byteCells Lib.strCells
  rw [List.map_append]
theorem byteCells_length (l : Bytes) : (Lib.byteCells l).length = l.length := by simp [Lib.byteCells]
theorem put_take (l : List Bytes) (k : Nat) (h : k < l.length) : put (l.take (k + 1)) = put (l.take k) ++ (number (l[k].length) ++ [58] ++ l[k]) := by
  unfold put
  rw [List.take_succ_eq_append_getElem h, List.map_append, List.flatten_append]
  simp
theorem put_take_le (l : List Bytes) (k : Nat) : (put (l.take k)).length ≤ (put l).length := by
  have : put l = put (l.take k) ++ put (l.drop k) := by
    unfold put
    rw [← List.flatten_append, ← List.map_append, List.take_append_drop]
  rw [this, List.length_append]
  omega

theorem writeString_calls (B b : Nat) (l : Bytes) (s : ByteArray) (w : World) (h : Lib.IsBuilder 82 5 B b (Lib.byteCells l) w) (hlen : l.length + s.size ≤ 140737488355328) (hBw : B ≤ w.heap.size) :
    Calls Tryz.prog 51 #[.pointer (some ⟨b, 0, none⟩), .string s] w fun e w' => e = .returned (.tuple #[.int .i64 s.size, .nilIface]) ∧ Lib.IsBuilder 82 5 B b (Lib.byteCells (l ++ s.data.toList)) w' ∧ Below B w w' := by
  have hcall := Go.Proofs.Any.Builder_WriteString { Go.Proofs.Tryz.lays156 with } builderExtra B b (Lib.byteCells l) s w h (by rw [byteCells_length]; exact hlen) hBw
  change Calls Tryz.prog 51 _ _ _ at hcall
  refine hcall.mono fun e w' ⟨he, hb, hB⟩ => ⟨he, .inr ?_, hB⟩
  rw [byteCells_snoc l s.data.toList s rfl] at hb
  exact hb
theorem builderString_calls (B b : Nat) (l : Bytes) (w : World) (h : Lib.IsBuilder 82 5 B b (Lib.byteCells l) w) (hBw : B ≤ w.heap.size) :
    Calls Tryz.prog 53 #[.pointer (some ⟨b, 0, none⟩)] w fun e w' => e = .returned (.string (mk l)) ∧ Below B w w' := by
  have hcall := Go.Proofs.Any.Builder_String_any { Go.Proofs.Tryz.lays156 with } builderExtra B b l w h hBw
  change Calls Tryz.prog 53 _ _ _ at hcall
  exact hcall

def mint_Put.f (l0 : List ByteArray) : Option ByteArray := if (put (l0.map (·.data.toList))).length ≤ 140737488355328 then some (mk (put (l0.map (·.data.toList)))) else none
set_option maxHeartbeats 4000000 in
theorem mint_Put.calls (A0 : Option Addr) (c0 : Nat) (l0 : List ByteArray) (r : ByteArray) (w : World) (hG : GOK w) (hr0 : Kd.C Kd.string w A0 l0.length l0) (_hc0 : l0.length ≤ c0) (h : mint_Put.f l0 = some r) :
    Calls Tryz.prog 32 #[.slice A0 l0.length c0] w fun e w' => e = .returned (.string r) ∧ Below w.heap.size w w' := by
  unfold mint_Put.f at h
  split at h
  · rename_i hs
    have hr : mk (put (l0.map (·.data.toList))) = r := Option.some.inj h
    clear h
    have hlen : l0.length ≤ 9223372036854775807 := hr0.2.1
    have HS : Hid ((put (l0.map (·.data.toList))).length ≤ 140737488355328) := hs
    have HR := Lib.hid hr
    have HG := Lib.hid hG
    have HC : Hid (l0 = [] ∨ ∃ b o, A0 = some ⟨b, o, none⟩ ∧ b < w.heap.size ∧ ∀ j, j < l0.length → w.cell? ⟨b, o + j, none⟩ = some (.string (l0.getD j ByteArray.empty))) := row_open hr0
    clear hs hr hG hr0
    go_enter Tryz.func32, Tryz.ntmps32
    go_wp2_with fail
    go_loopg [5, 8] l0.length (fun gg _ s8 wr => ∃ kk : Nat, kk ≤ l0.length ∧ l0.length - kk ≤ gg ∧ s8 = .int .i64 kk ∧ Aside0 (Lib.IsBuilder 82 5 w.heap.size w.heap.size (Lib.byteCells (put ((l0.map (·.data.toList)).take kk))) wr) ∧ Aside0 (Below w.heap.size w wr))
    case atStart =>
      refine ⟨0, Nat.zero_le _, by omega, rfl, ⟨.inl ⟨Nat.le_refl _, .slice none 0 0, heap_alloc_new w _, own_nil _ _ _ _, by simp [Value.ownBlock]⟩⟩, ⟨(Below.refl _ _).alloc (Nat.le_refl _) _⟩⟩
    case round =>
      obtain ⟨kk, hkk, hgk, rfl, HB, HW⟩ := hrel
      by_cases hlt : kk < l0.length
      · have hltz : (kk : Int) < (l0.length : Int) := by omega
        obtain ⟨y, hy⟩ : ∃ y, y = l0.getD kk ByteArray.empty := ⟨_, rfl⟩
        rcases HC.out with h0 | ⟨b, o, rfl, hb, hcell⟩
        · exfalso; rw [h0] at hlt; simp at hlt
        have hx : wr.cell? ⟨b, o + kk, none⟩ = some (.string y) := by rw [hy]; exact cell_keeps HW.out (hcell kk hlt)
        have hk : kk < (l0.map (·.data.toList)).length := by simpa using hlt
        have hyk : (l0.map (·.data.toList))[kk] = y.data.toList := by rw [hy]; simp [List.getD_eq_getElem?_getD, List.getElem?_eq_getElem hlt]
        have hput : put ((l0.map (·.data.toList)).take (kk + 1)) = put ((l0.map (·.data.toList)).take kk) ++ (number (y.size) ++ [58] ++ y.data.toList) := by
          rw [put_take _ kk hk, hyk, ← Lib.size_eq]
        have hle : (put ((l0.map (·.data.toList)).take kk)).length + (number y.size ++ [58] ++ y.data.toList).length ≤ 140737488355328 := by
          have := put_take_le (l0.map (·.data.toList)) (kk + 1)
          rw [hput, List.length_append] at this
          exact Nat.le_trans this HS.out
        have hsz : y.size ≤ 140737488355328 := by
          have e := Lib.size_eq y
          simp only [List.length_append] at hle
          omega
        have hnl : (number y.size).length ≤ 140737488355328 := by simp only [List.length_append] at hle; omega
        clear hcell hb
        have HP := Lib.hid hput
        have HL : Hid ((put ((l0.map (·.data.toList)).take kk)).length + (number y.size ++ [58] ++ y.data.toList).length ≤ 140737488355328) := hle
        have HN := number_calls (y.size : Int) (by omega) (by omega) wr (HG.out.below HW.out)
        have ens : (mk (number y.size)).size = (number (y.size : Int)).length := mk_size _
        have end_ : (mk (number y.size)).data.toList = number (y.size : Int) := mk_data _
        generalize mk (number (y.size : Int)) = nv at HN ens end_
        have hnv : nv.size ≤ 140737488355328 := by omega
        have END := Lib.hid end_
        clear hy hput hle hyk hk ens end_ hnl
        have hd1 : nv.size + 1 ≤ 9223372036854775807 := by omega
        go_wp2_with fail
        refine HN.mono ?_
        rintro e w1 ⟨rfl, hb1⟩
        go_wp2_with fail
        refine (writeString_calls w.heap.size w.heap.size _ _ _ (builder_below HB.out hb1) ?_ (Nat.le_trans HW.out.size hb1.size)).mono ?_
        · have h1 := HL.out
          have e3 := congrArg List.length END.out
          rw [← Lib.size_eq] at e3
          have e4 := Lib.size_eq y
          simp only [List.length_append, List.length_singleton] at h1
          simp only [ByteArray.size_append]
          show _ + (nv.size + 1 + y.size) ≤ _
          omega
        rintro e w2 ⟨rfl, hB2, hb2⟩
        go_wp2
        go_roundg (l0.length - (kk + 1))
        case measure => omega
        case rel =>
          refine ⟨kk + 1, by omega, by omega, by go_num, ⟨?_⟩, ⟨(HW.out.trans (hb1.mono HW.out.size)).trans hb2⟩⟩
          rw [HP.out]
          have e5 : (nv ++ (⟨#[58]⟩ : ByteArray) ++ y).data.toList = number y.size ++ [58] ++ y.data.toList := by
            rw [data_append, data_append, END.out]
          rw [← e5]
          exact hB2
      · have hltz : ¬ (kk : Int) < (l0.length : Int) := by omega
        obtain rfl : kk = l0.length := by omega
        have hB := HB.out
        rw [List.take_of_length_le (by simp)] at hB
        clear HB
        go_wp2_with (go_at_call 53; refine (builderString_calls w.heap.size w.heap.size _ _ hB HW.out.size).mono ?_; rintro e w2 ⟨rfl, hb2⟩)
        go_ret
        exact ⟨by rw [← HR.out]; rfl, HW.out.trans hb2⟩
  · cases h

end Go.Proofs.YtobbliglnjgbaaaGreatDoor.X
