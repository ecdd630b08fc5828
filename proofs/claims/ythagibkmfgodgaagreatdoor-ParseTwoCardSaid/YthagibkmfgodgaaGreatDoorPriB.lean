/-
  print, walked by hand: slices.Clone of steps.
-/
import Derived.Test.YthagibkmfgodgaaGreatDoorRise
import Derived.Test.YthagibkmfgodgaaGreatDoorQuoteA
import Derived.Deep.RegionLaw
namespace Go.Proofs.YthagibkmfgodgaaGreatDoor.X
open Go.RowKit Go.Maps Go.Proofs.YthagibkmfgodgaaGreatDoorW.PrintWords Go.Proofs.YthagibkmfgodgaaGreatDoorW.PrintMore Go.Proofs.YthagibkmfgodgaaGreatDoorW.PrintLast

theorem app_mk (a b : Bytes) : mk a ++ mk b = mk (a ++ b) := by
  apply data_inj
  rw [mk_data, ByteArray.data_append, Array.toList_append, mk_data, mk_data]
abbrev datas (l : List ByteArray) : List Bytes := l.map fun x => x.data.toList
theorem join_f {l : List ByteArray} {sep : Bytes} (hl : l.length * 16 ≤ 140737488355328) (hsum : (Lib.join (datas l) sep).length ≤ 70368744177664) : strings_Join.f l (mk sep) = some (mk (Lib.join (datas l) sep)) := by
  unfold strings_Join.f
  rw [mk_data, if_pos ⟨by omega, Nat.le_trans hsum (by omega)⟩]
def clauseF (word : Bytes) (l : List ByteArray) : Bytes := if l = [] then [] else [32, 32] ++ word ++ [32] ++ Lib.join (datas l) [44, 32] ++ [59, 10]
set_option maxHeartbeats 2000000 in
theorem clause_calls (word : Bytes) (A : Option Addr) (c : Nat) (l : List ByteArray) (w : World) (hG : GOK w) (hr : Kd.C Kd.string w A l.length l) (hc : l.length ≤ c) (hw : word.length ≤ 100) (hl : l.length * 16 ≤ 140737488355328) (hsum : (Lib.join (datas l) [44, 32]).length ≤ 70368744177664) :
    Calls Tryz.prog 80 #[.string (mk word), .slice A l.length c] w fun e w' => e = .returned (.string (mk (clauseF word l))) ∧ Below w.heap.size w w' := by
  by_cases h0 : l = []
  · have hd : ((l.length : Int) == 0) = true := by rw [h0]; rfl
    have HE : Hid (clauseF word l = []) := by show _ = _; unfold clauseF; rw [if_pos h0]
    clear h0 hr
    go_enter Tryz.func80, Tryz.ntmps80
    go_wp2
    go_ret
    exact ⟨by rw [HE.out]; rfl, Below.refl _ _⟩
  · have hpos : 0 < l.length := List.length_pos_iff.2 h0
    have hd : ((l.length : Int) == 0) = false := by simp; exact h0
    have HE : Hid (clauseF word l = [32, 32] ++ word ++ [32] ++ Lib.join (datas l) [44, 32] ++ [59, 10]) := by show _ = _; unfold clauseF; rw [if_neg h0]
    have hJ := strings_Join.calls A c l (mk [44, 32]) (mk (Lib.join (datas l) [44, 32])) w hG hr hc (join_f hl hsum)
    generalize Lib.join (datas l) [44, 32] = J at HE hJ hsum
    have n1 : ¬ 9223372036854775807 < 2 + (mk word).size := by rw [mk_size]; omega
    have n2 : ¬ 9223372036854775807 < 2 + (mk word).size + 1 := by rw [mk_size]; omega
    have n3 : ¬ 9223372036854775807 < 2 + (mk word).size + 1 + (mk J).size := by rw [mk_size, mk_size]; omega
    have n4 : ¬ 9223372036854775807 < 2 + (mk word).size + 1 + (mk J).size + 2 := by rw [mk_size, mk_size]; omega
    clear h0 hr
    go_enter Tryz.func80, Tryz.ntmps80
    go_wp2_with (go_at_call 68; refine hJ.mono ?_; rintro e w2 ⟨rfl, hb2⟩)
    go_ret
    refine ⟨?_, hb2⟩
    rw [HE.out, ← app_mk, ← app_mk, ← app_mk, ← app_mk]
    rfl

/-! ### a step -/
def quoteS (x : ByteArray) : ByteArray := mk (quoteF x.data.toList)
def PlainB (x : ByteArray) : Prop := x.size ≤ 1099511627776 ∧ ∀ c ∈ x.data.toList, c = 10 ∨ c = 9 ∨ ¬ (c.toNat < 32 ∨ 126 < c.toNat)
def stepL (s : SStep) : List ByteArray := [s.f0, ⟨#[61]⟩, opNameF s.f1] ++ s.f3.map quoteS ++ s.f2
def stepT (s : SStep) : Bytes := Lib.join (datas (stepL s)) [32] ++ [59]
set_option maxHeartbeats 4000000 in
set_option maxRecDepth 100000 in
theorem pstep_calls (s : SStep) (A2 : Option Addr) (c2 : Nat) (A3 : Option Addr) (c3 : Nat) (w : World) (hG : GOK w) (h2 : Kd.C Kd.string w A2 s.f2.length s.f2) (h3 : Kd.C Kd.string w A3 s.f3.length s.f3)
    (h9 : s.f1 ≠ 9) (hpr : ∀ x ∈ s.f3, PlainB x) (hl2 : s.f2.length ≤ 1000) (hl3 : s.f3.length ≤ 1000) (hsum : (Lib.join (datas (stepL s)) [32]).length ≤ 70368744177664) :
    Calls Tryz.prog 39 #[.agg #[.string s.f0, .int .i64 s.f1, .slice A2 s.f2.length c2, .slice A3 s.f3.length c3, .int .i64 s.f4]] w fun e w' => e = .returned (.string (mk (stepT s))) ∧ Below w.heap.size w w' := by
  have hB0 := (Below.refl w.heap.size w).alloc (Nat.le_refl _) (.cells #[.string s.f0, .int .i64 s.f1, .slice A2 s.f2.length c2, .slice A3 s.f3.length c3, .int .i64 s.f4] 62)
  have hb0 := blk_new w (.cells #[.string s.f0, .int .i64 s.f1, .slice A2 s.f2.length c2, .slice A3 s.f3.length c3, .int .i64 s.f4] 62)
  have HB0 := Lib.hid hB0
  have HBlk := Lib.hid hb0
  have HG := Lib.hid hG
  have HPr := Lib.hid hpr
  have HSum := Lib.hid hsum
  have H2 := Lib.hid h2
  have H3 := Lib.hid h3
  have e9 : (s.f1 == 9) = false := by simpa using h9
  clear hB0 hb0 hG hpr hsum h9
  go_enter Tryz.func39, Tryz.ntmps39
  go_wp2
  generalize w.alloc (.cells #[.string s.f0, .int .i64 s.f1, .slice A2 s.f2.length c2, .slice A3 s.f3.length c3, .int .i64 s.f4] 62) = w1 at HB0 HBlk ⊢
  have k0 : w1.cell? ⟨w.heap.size, 0, none⟩ = some (.string s.f0) := (blk_cell HBlk.out 0).trans rfl
  have k1 : w1.cell? ⟨w.heap.size, 1, none⟩ = some (.int .i64 s.f1) := (blk_cell HBlk.out 1).trans rfl
  have hOp := opName_calls s.f1 w1.drew
  have HB0d := Lib.hid (below_drew HB0.out)
  have HBd := Lib.hid (blk_drew HBlk.out)
  go_region_law (first | (go_simp; go_at_call 35; refine hOp.mono ?_; rintro e w2 ⟨rfl, hb2⟩; have HB2 := Lib.hid (below_then HB0d.out HB0d.out.size hb2); have HBlk2 := Lib.hid (blk_below HBd.out hb2); have k02 : w2.cell? ⟨w.heap.size, 0, none⟩ = some (.string s.f0) := (blk_cell HBlk2.out 0).trans rfl; clear hb2))
  all_goals
    have k13 : ∀ ob : Obj, (w2.alloc ob).cell? ⟨w.heap.size, 1, none⟩ = some (.int .i64 s.f1) := fun ob => (blk_cell (blk_alloc HBlk2.out ob) 1).trans rfl
    have k33 : ∀ ob : Obj, (w2.alloc ob).cell? ⟨w.heap.size, 3, none⟩ = some (.slice A3 s.f3.length c3) := fun ob => (blk_cell (blk_alloc HBlk2.out ob) 3).trans rfl
    have HB3 := Lib.hid (HB2.out.alloc HB2.out.size (.cells #[.string s.f0, .string ⟨#[61]⟩, .string (opNameF s.f1)] 9))
    have HBlk3 := Lib.hid (blk_alloc HBlk2.out (.cells #[.string s.f0, .string ⟨#[61]⟩, .string (opNameF s.f1)] 9))
    have HL3 : Hid (RS (w2.alloc (.cells #[.string s.f0, .string ⟨#[61]⟩, .string (opNameF s.f1)] 9)) w.heap.size (.slice (some ⟨w2.heap.size, 0, none⟩) 3 3) [s.f0, ⟨#[61]⟩, opNameF s.f1]) := rs_lit w2 w.heap.size [s.f0, ⟨#[61]⟩, opNameF s.f1] HB2.out.size (by simp)
    go_wp2_with fail
    generalize w2.alloc (.cells #[.string s.f0, .string ⟨#[61]⟩, .string (opNameF s.f1)] 9) = w3 at HB3 HBlk3 HL3 ⊢
    generalize (some (⟨w2.heap.size, 0, none⟩ : Addr)) = AL at HL3 ⊢
    clear k02 HBlk2 HB2 k13 k33
    go_loopg [3, 5, 24] s.f3.length (fun gg s3 _ s24 wr => ∃ (kk : Nat) (A : Option Addr) (c : Nat), kk ≤ s.f3.length ∧ s.f3.length - kk ≤ gg ∧ s24 = .int .i64 kk ∧ s3 = .slice A (3 + kk) c ∧ 3 + kk ≤ c ∧
      Aside0 (RS wr w.heap.size (.slice A (3 + kk) c) ([s.f0, ⟨#[61]⟩, opNameF s.f1] ++ (s.f3.take kk).map quoteS)) ∧ Aside0 (Below w.heap.size w wr) ∧
      Aside0 (wr.heap[w.heap.size]? = some (.cells #[.string s.f0, .int .i64 s.f1, .slice A2 s.f2.length c2, .slice A3 s.f3.length c3, .int .i64 s.f4] 62 (0, 0))))
    case atStart => exact ⟨0, AL, 3, Nat.zero_le _, by omega, rfl, rfl, by omega, ⟨by simpa using HL3.out⟩, ⟨HB3.out⟩, ⟨HBlk3.out⟩⟩
    case round =>
      obtain ⟨kk, A, c, hkk, hgk, rfl, rfl, hcc, HO, HB, HBk⟩ := hrel
      by_cases hlt : kk < s.f3.length
      · have hltz : (kk : Int) < (s.f3.length : Int) := by omega
        rcases row_open (Kd.C_below H3.out HB.out) with h0 | ⟨b, o, rfl, _, hcell⟩
        · rw [h0] at hlt; simp at hlt
        · have hx : wr.cell? ⟨b, o + kk, none⟩ = some (.string (s.f3.getD kk ByteArray.empty)) := hcell kk hlt
          obtain ⟨y, hy⟩ : ∃ y, y = s.f3.getD kk ByteArray.empty := ⟨_, rfl⟩
          rw [← hy] at hx
          have hym : y = s.f3[kk] := by rw [hy]; simp [List.getD_eq_getElem?_getD, List.getElem?_eq_getElem hlt]
          have hyP := HPr.out y (by rw [hym]; exact List.getElem_mem _)
          have hq := fun W => quote_calls y hyP.1 hyP.2 W
          have HN : Hid ((s.f3.take kk).map quoteS ++ [quoteS y] = (s.f3.take (kk + 1)).map quoteS) := by
            show _ = _
            rw [List.take_succ_eq_append_getElem hlt, List.map_append, hym]
            rfl
          have HNl : Hid (([s.f0, (⟨#[61]⟩ : ByteArray), opNameF s.f1] ++ (s.f3.take kk).map quoteS).length = 3 + kk) := by
            show _ = _
            simp only [List.length_append, List.length_map, List.length_take, List.length_cons, List.length_nil]
            omega
          clear hcell hy hym hyP
          go_wp2_with (first | (go_at_call 21; refine (hq _).mono ?_; rintro e w4 ⟨rfl, hb4⟩; have HB4 := Lib.hid (below_then HB.out HB.out.size hb4); have HO4 := Lib.hid (Kd.R_below HO.out hb4); have HBk4 := Lib.hid (blk_below HBk.out hb4); have HS4 : Hid (w.heap.size ≤ w4.heap.size) := HB4.out.size; clear hb4) | ((with_reducible refine gate_builtin (b := .append) (xs := #[.tmp 28, .tmp 31]) rfl ?_); at_builtin; refine Kd.R_append Kd.string (w0 := w) w.heap.size rfl (.tmp 28) (.tmp 31) 46 9 (.string ⟨#[]⟩) 16 rfl Tryz.underlying46 infoStr rfl (by decide) (by decide) (.slice A (3 + kk) c) ([s.f0, ⟨#[61]⟩, opNameF s.f1] ++ (s.f3.take kk).map quoteS) (quoteS y) [.string (quoteS y)] (fun _ => True) (fun k_ => True ∧ some k_ ≠ (Value.slice A (3 + kk) c).ownBlock) rfl rfl rfl (fun _ hk => hk) (fun _ _ => trivial) HO4.out HB4.out HS4.out ?aL ?_; (case aL => rw [HNl.out]; omega); intro v1 w5 ho hb hg hat; obtain ⟨AN, cN, rfl, hcN, _⟩ := Kd.R_reads ho; have HO5 := Lib.hid ho; have HB5 := Lib.hid hb; have HBk5 := Lib.hid (blk_grown HBk4.out hg (Kd.R_ne HO4.out HBk4.out (by decide))); have HcN := Lib.hid hcN; clear ho hb hg hat hcN))
          have hLn : ([s.f0, (⟨#[61]⟩ : ByteArray), opNameF s.f1] ++ (s.f3.take kk).map quoteS ++ [quoteS y]).length = 3 + (kk + 1) := by rw [List.length_append, HNl.out]; rfl
          have hO5 := HO5.out
          have hcN := HcN.out
          rw [hLn] at hO5 hcN
          rw [List.append_assoc, HN.out] at hO5
          go_roundg (s.f3.length - (kk + 1))
          case measure => omega
          case rel =>
            exact ⟨kk + 1, AN, cN, by omega, by omega, by go_num, by first | rfl | (congr 1; omega) | (simp; omega), hcN, ⟨hO5⟩, ⟨HB5.out⟩, ⟨HBk5.out⟩⟩
      · have hltz : ¬ (kk : Int) < (s.f3.length : Int) := by omega
        obtain rfl : kk = s.f3.length := by omega
        have hLL : [s.f0, (⟨#[61]⟩ : ByteArray), opNameF s.f1] ++ (s.f3.take s.f3.length).map quoteS ++ s.f2 = stepL s := by rw [List.take_length]; rfl
        have hLn : ([s.f0, (⟨#[61]⟩ : ByteArray), opNameF s.f1] ++ (s.f3.take s.f3.length).map quoteS).length = 3 + s.f3.length := by
          simp only [List.length_append, List.length_map, List.length_take, List.length_cons, List.length_nil, Nat.min_self]
        have HLL := Lib.hid hLL
        have HLn := Lib.hid hLn
        have HWB := Lib.hid HB.out.size
        have H2r := Lib.hid (Kd.C_below H2.out HB.out)
        have k2 : wr.cell? ⟨w.heap.size, 2, none⟩ = some (.slice A2 s.f2.length c2) := (blk_cell HBk.out 2).trans rfl
        have hlS : (stepL s).length = 3 + s.f3.length + s.f2.length := by rw [← hLL, List.length_append, hLn]
        have HlS : Hid ((stepL s).length * 16 ≤ 140737488355328) := by show _ ≤ _; rw [hlS]; omega
        clear hLL hLn hlS
        go_wp2_with (first | ((with_reducible refine gate_builtin (b := .append) (xs := #[.tmp 34, .tmp 36]) rfl ?_); at_builtin; refine Kd.R_append_rows Kd.string (Rr := Kd.string.K wr) (w0 := w) w.heap.size rfl (.tmp 34) (.tmp 36) 46 9 (.string ⟨#[]⟩) 16 rfl Tryz.underlying46 infoStr rfl (by decide) (by decide) (.slice A (3 + s.f3.length) c) ([s.f0, ⟨#[61]⟩, opNameF s.f1] ++ (s.f3.take s.f3.length).map quoteS) s.f2 A2 s.f2.length c2 (fun _ => True) (fun k_ => True ∧ some k_ ≠ (Value.slice A (3 + s.f3.length) c).ownBlock) rfl rfl HO.out H2r.out (fun _ _ h => h) (fun _ hk => hk) (fun _ _ => trivial) HB.out HWB.out ?aL ?_; (case aL => rw [HLn.out]; omega); intro v1 w5 ho hb hg hat; rw [HLL.out] at ho; obtain ⟨AN, cN, rfl, hcN, hrN⟩ := Kd.R_reads ho; have HB5 := Lib.hid hb; have HcN := Lib.hid hcN; have HrN := Lib.hid hrN; have hJ := strings_Join.calls AN cN (stepL s) (mk [32]) (mk (Lib.join (datas (stepL s)) [32])) w5 (HG.out.below hb) hrN hcN (join_f HlS.out HSum.out); have hn1 : ¬ 9223372036854775807 < (mk (Lib.join (datas (stepL s)) [32])).size + 1 := (by rw [mk_size]; have := HSum.out; omega); clear ho hb hg hat hcN hrN) | (go_at_call 68; refine hJ.mono ?_; rintro e w6 ⟨rfl, hb6⟩; have HB6 := Lib.hid (below_then HB5.out HB5.out.size hb6); clear hb6))
        go_ret
        refine ⟨?_, HB6.out⟩
        unfold stepT
        rw [← app_mk]
        rfl

end Go.Proofs.YthagibkmfgodgaaGreatDoor.X

namespace Go.Proofs.YthagibkmfgodgaaGreatDoor.X
open Go.RowKit Go.Maps Go.Proofs.YthagibkmfgodgaaGreatDoorW.PrintWords Go.Proofs.YthagibkmfgodgaaGreatDoorW.PrintMore Go.Proofs.YthagibkmfgodgaaGreatDoorW.PrintLast

/-- A slice as it lies in a cell. -/
structure Sl where
  a : Option Addr
  n : Nat
  c : Nat
def Sl.v (s : Sl) : Value := .slice s.a s.n s.c
def kSl : Kd Sl := Kd.scalar Sl.v (fun _ => rfl)
abbrev Sh := ByteArray × Int × Sl × Sl × Int
def kSh : Kd Sh := Kd.pair Kd.string (Kd.pair (Kd.int .i64) (Kd.pair kSl (Kd.pair kSl (Kd.int .i64))))
theorem sh_K {w : World} (x : Sh) {cs : List Value} : kSh.K w x cs ↔ cs = [.string x.1, .int .i64 x.2.1, x.2.2.1.v, x.2.2.2.1.v, .int .i64 x.2.2.2.2] := by
  constructor
  · rintro ⟨_, _, rfl, rfl, _, _, rfl, rfl, _, _, rfl, rfl, _, _, rfl, rfl, rfl⟩
    rfl
  · rintro rfl
    exact ⟨[_], [_, _, _, _], rfl, rfl, [_], [_, _, _], rfl, rfl, [_], [_, _], rfl, rfl, [_], [_], rfl, rfl, rfl⟩
theorem sh_M {w : World} {base : Nat} {ok : Nat → Prop} (x : Sh) {cs : List Value} : kSh.M w base ok x cs ↔ cs = [.string x.1, .int .i64 x.2.1, x.2.2.1.v, x.2.2.2.1.v, .int .i64 x.2.2.2.2] := by
  constructor
  · rintro ⟨_, _, rfl, rfl, _, _, rfl, rfl, _, _, rfl, rfl, _, _, rfl, rfl, rfl⟩
    rfl
  · rintro rfl
    exact ⟨[_], [_, _, _, _], rfl, rfl, [_], [_, _, _], rfl, rfl, [_], [_, _], rfl, rfl, [_], [_], rfl, rfl, rfl⟩
set_option maxHeartbeats 4000000 in
set_option maxRecDepth 100000 in
theorem cloneS_calls (ad : Addr) (c : Nat) (l : List Sh) (w : World) (hr : Kd.C kSh w (some ad) l.length l) (hl : l.length ≤ 1000) :
    Calls Tryz.prog 93 #[.slice (some ad) l.length c] w fun e w' => ∃ v, e = .returned v ∧ Kd.R kSh 62 w' w.heap.size (fun _ => True) v l ∧ Below w.heap.size w w' := by
  have HO : Hid (Kd.R kSh 62 (w.alloc (.cells #[] 62)) w.heap.size (fun _ => True) (.slice (some ⟨w.heap.size, 0, none⟩) 0 0) []) :=
    ⟨fun _ _ => trivial, OwnRow.lit (ps := []) (inner := []) w w.heap.size (Reps.none _ _) (Nat.le_refl _) (by simp)⟩
  have HC := Lib.hid (Kd.C_below hr ((Below.refl w.heap.size w).alloc (Nat.le_refl _) (.cells #[] 62)))
  have HB := Lib.hid ((Below.refl w.heap.size w).alloc (Nat.le_refl _) (.cells #[] 62))
  have hnil : ∀ W, (binOp .eql 47 (.slice (some ad) l.length c) (.slice none 0 0)).run Tryz.prog W = .ok (.bool false) W := fun _ => rfl
  clear hr
  go_enter Tryz.func93, Tryz.ntmps93
  go_wp2_with (first | ((with_reducible refine gate_builtin (b := .append) (xs := #[.tmp 5, .tmp 6]) rfl ?_); at_builtin; refine Kd.R_append_rows kSh (Rr := kSh.K (w.alloc (.cells #[] 62))) (w0 := w) w.heap.size rfl (.tmp 5) (.tmp 6) 47 62 (.agg #[.string ⟨#[]⟩, .int .i64 0, .slice none 0 0, .slice none 0 0, .int .i64 0]) 80 rfl Tryz.underlying47 info62 rfl (by decide) (by decide) (.slice (some ⟨w.heap.size, 0, none⟩) 0 0) [] l (some ad) l.length c (fun _ => True) (fun k_ => True ∧ some k_ ≠ (Value.slice (some (⟨w.heap.size, 0, none⟩ : Addr)) 0 0).ownBlock) rfl rfl HO.out HC.out (fun x cs h => (sh_M x).2 ((sh_K x).1 h)) (fun _ hk => hk) (fun _ _ => trivial) HB.out HB.out.size ?aL ?_; (case aL => simp; omega); intro v1 w4 ho hb hg hat; have HO4 := Lib.hid ho; have HB4 := Lib.hid hb; clear ho hb hg hat))
  go_ret
  exact ⟨v1, rfl, HO4.out, HB4.out⟩

end Go.Proofs.YthagibkmfgodgaaGreatDoor.X
