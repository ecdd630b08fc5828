/-
  Arguments that are rules: what their reading gives the walks (Kd.C), and the bounds of their texts.
  Rules of the draws, not too many: Rules, walked by hand.
  The reference's Quote, walked by hand, for every text.
  The reference's printing, walked by hand: some text comes, not too long (OpName, Number, clause, rising, Step).
  The reference's printing, walked by hand: some text comes, not too long (Step, Sorted, Print, PrintAll).
  The reference's printing, walked by hand: Sorted (rules in some order, each with its lists in some order), Print, PrintAll.
  The reference's printing, walked by hand: some text comes, not too long (Print, PrintAll).
  ParsePrefix, walked by hand: of a rule file that is cut off the error is where it ends, or ahead of it.
-/
import Derived.Deep.Strs
import Derived.OpenShut
import Derived.BigQuiet
import Derived.BigRegion
import Derived.Deep.DeepCutAuto
import Derived.Deep.CutBlock
import Derived.Deep.RegionHeld3
import Derived.Test.YthagibkmfgodgaaGreatDoorY12
import Derived.Test.YthagibkmfgodgaaGreatDoorY10
import Derived.Test.YthagibkmfgodgaaGreatDoorY6
namespace Go.Proofs.YthagibkmfgodgaaGreatDoor.X
open Go.RowKit Go.ChangeShapes Go.WideShapes Go.Deep Go.Proofs.YthagibkmfgodgaaGreatDoorW.PrintWords

section
variable {H : Type} {enc : TypeId × Value → H} {W : World} {α : Type}
def RowP (l : List α) (d : DataW H) : Prop := (d = .nil ∧ l = []) ∨ ∃ ds sp, d = .slice ds sp ∧ ds.length = l.length
def SizedBy (P : Program) (t : TypeId) (d : DataW H) : Prop := ∀ n ∈ d.weights P t, n ≤ reachBytes
theorem mem_weightsAll {P : Program} {e : TypeId} {n : Nat} {d : DataW H} (hn : n ∈ d.weights P e) : ∀ ds : List (DataW H), d ∈ ds → n ∈ DataW.weightsAll P e ds
 | [], h => by cases h
 | x :: r, h => by
  rw [DataW.weightsAll, List.mem_append]
  rcases List.mem_cons.1 h with rfl | h
  · exact .inl hn
  · exact .inr (mem_weightsAll hn r h)
theorem SizedBy.elems {P : Program} {t e : TypeId} {ds sp : List (DataW H)} (hu : P.underlying t = some (.slice e)) (h : SizedBy P t (.slice ds sp)) : ds.length * P.bytesOf e ≤ reachBytes ∧ ∀ d ∈ ds, SizedBy P e d := by
 unfold SizedBy at h
 simp only [DataW.weights, hu] at h
 refine ⟨Nat.le_trans (Nat.mul_le_mul_right _ (Nat.le_add_right _ _)) (h _ List.mem_cons_self), fun d hd n hn => ?_⟩
 exact h n (List.mem_cons_of_mem _ (List.mem_append_left _ (mem_weightsAll hn ds hd)))
theorem SizedBy.part {P : Program} {t : TypeId} {fs : Array Field} {ds : List (DataW H)} (hu : P.underlying t = some (.struct fs)) (h : SizedBy P t (.agg ds)) {j : Nat} {t' : TypeId} {d : DataW H} (ht : (fs.toList.map (·.type))[j]? = some t') (hd : ds[j]? = some d) : SizedBy P t' d := fun n hn => by
 refine h n ?_
 simp only [DataW.weights, hu]
 exact DataW.weights_mem_each ht hd n hn
theorem open_rowC [Inhabited α] (K : Kd α) (good good2 : α → Prop) {P : Program} {base fuel : Nat} {held : Bool} {t e : TypeId} {cs0 : List Value} {x0 : DataW H × List MemPlace}
 (ht : P.underlying t = some (.slice e)) (hce : P.cellsOf e = K.sz)
 (hel : ∀ n cs x, cs.length = K.sz → DataW.trod enc P W base (fun _ => true) held n e cs = some x → ∃ y : α, K.K W y cs ∧ good y ∧ (SizedBy P e x.1 → good2 y))
 (h : DataW.trod enc P W base (fun _ => true) held fuel t cs0 = some x0) :
 ∃ (a : Option Addr) (l : List α) (c : Nat), cs0 = [.slice a l.length c] ∧ K.C W a l.length l ∧ l.length ≤ c ∧ RowP l x0.1 ∧ (∀ y ∈ l, good y) ∧ (SizedBy P t x0.1 → l.length * P.bytesOf e ≤ reachBytes ∧ ∀ y ∈ l, good2 y) := by
 rcases open_slice ht h with ⟨hcs, hx⟩ | ⟨a, len, cap, m, n, D, Pl, hcs, hb, hl, hm, hmm, hx, hall⟩
 · exact ⟨none, [], 0, hcs, ⟨rfl, by simp, fun h => by simp at h⟩, Nat.le_refl _, .inl ⟨congrArg Prod.fst hx, rfl⟩, fun y hy => (by cases hy), fun _ => ⟨by simp, fun y hy => (by cases hy)⟩⟩
 · have hlm : len ≤ m := by rw [hmm]; simp; omega
   obtain ⟨Y, hY⟩ := choose_lt (α := α) (n := len) (p := fun i y => ∃ cs, W.cells? base (a.add (i * K.sz)) K.sz = some cs ∧ K.K W y cs ∧ good y ∧ (SizedBy P e (D i) → good2 y)) (fun i hi => by
    obtain ⟨cs, h1, h2⟩ := hall i (by omega)
    rw [hce] at h1
    obtain ⟨_, hlen, _⟩ := World.cells?_some h1
    obtain ⟨y, h3, h5, h6⟩ := hel n cs _ hlen h2
    exact ⟨y, cs, h1, h3, h5, h6⟩)
   have hle : len ≤ 9223372036854775807 := by unfold maxLen at hm; omega
   refine ⟨some a, (List.range len).map Y, cap, by simpa using hcs, ?_, by simpa using hl, .inr ⟨_, _, congrArg Prod.fst hx, by simp⟩, ?_, ?_⟩
   · refine ⟨rfl, by simpa using hle, fun _ => ⟨a, rfl, fun j p hj => ?_⟩⟩
     obtain ⟨hjl, hjp⟩ := List.getElem?_eq_some_iff.1 hj
     have hjn : j < len := by simpa using hjl
     have hp : Y j = p := by simpa using hjp
     obtain ⟨cs, h1, h2, _, _⟩ := hY j hjn
     rw [hp] at h2
     obtain ⟨_, hlen, hcell⟩ := World.cells?_some h1
     refine ⟨cs, hlen, h2, fun i u hu => ?_⟩
     have hi : i < K.sz := by rw [← hlen]; exact (List.getElem?_eq_some_iff.1 hu).1
     have := hcell i hi
     rw [hu] at this
     rw [← this, addr_add]
   · intro y hy
     obtain ⟨i, hi, rfl⟩ := List.mem_map.1 hy
     obtain ⟨_, _, _, h4, _⟩ := hY i (List.mem_range.1 hi)
     exact h4
   · intro hs
     rw [congrArg Prod.fst hx] at hs
     obtain ⟨q1, q2⟩ := SizedBy.elems ht hs
     refine ⟨by simpa using q1, fun y hy => ?_⟩
     obtain ⟨i, hi, rfl⟩ := List.mem_map.1 hy
     obtain ⟨_, _, _, _, h5⟩ := hY i (List.mem_range.1 hi)
     exact h5 (q2 _ (List.mem_map_of_mem hi))
theorem trod_struct5 {P : Program} {w : World} {base : Nat} {spare : Nat → Bool} {held : Bool} {t : TypeId} {f0 f1 f2 f3 f4 : Field} {fuel : Nat} {cs : List Value} {x : DataW H × List MemPlace} (ht : P.underlying t = some (.struct #[f0, f1, f2, f3, f4])) (h : DataW.trod enc P w base spare held fuel t cs = some x) :
 ∃ y0 y1 y2 y3 y4 n, cs.length = P.cellsOf t ∧ x.1 = .agg [y0.1, y1.1, y2.1, y3.1, y4.1] ∧ DataW.trod enc P w base spare held n f0.type ((cs.drop f0.offset).take (P.cellsOf f0.type)) = some y0 ∧
  DataW.trod enc P w base spare held n f1.type ((cs.drop f1.offset).take (P.cellsOf f1.type)) = some y1 ∧ DataW.trod enc P w base spare held n f2.type ((cs.drop f2.offset).take (P.cellsOf f2.type)) = some y2 ∧
  DataW.trod enc P w base spare held n f3.type ((cs.drop f3.offset).take (P.cellsOf f3.type)) = some y3 ∧ DataW.trod enc P w base spare held n f4.type ((cs.drop f4.offset).take (P.cellsOf f4.type)) = some y4 := by
 obtain ⟨xs, n, _, rfl, hl, hlen, hf⟩ := DataW.trod_struct ht h
 match xs, hlen with
 | [y0, y1, y2, y3, y4], _ => exact ⟨y0, y1, y2, y3, y4, n, hl, by simp, by simpa using hf 0 f0 rfl, by simpa using hf 1 f1 rfl, by simpa using hf 2 f2 rfl, by simpa using hf 3 f3 rfl, by simpa using hf 4 f4 rfl⟩
theorem five_cells {cs : List Value} (h : cs.length = 5) : ∃ a b c d e, cs = [a, b, c, d, e] := by
 match cs, h with
 | [a, b, c, d, e], _ => exact ⟨a, b, c, d, e, rfl⟩
end
instance : Inhabited S62 := ⟨z62⟩
instance : Inhabited S49 := ⟨z49⟩
structure GoodStep (y : S62) : Prop where
 out : y.f0.size ≤ maxLen
 op : -9223372036854775808 ≤ y.f1 ∧ y.f1 ≤ 9223372036854775807
 args : ∀ s ∈ y.f2, s.size ≤ maxLen
 lits : ∀ s ∈ y.f3, s.size ≤ maxLen
 num : -9223372036854775808 ≤ y.f4 ∧ y.f4 ≤ 9223372036854775807
structure GoodRule (y : S49) : Prop where
 name : y.f0.size ≤ maxLen
 ins : ∀ s ∈ y.f1, s.size ≤ maxLen
 outs : ∀ s ∈ y.f2, s.size ≤ maxLen
 after : ∀ s ∈ y.f3, s.size ≤ maxLen
 steps : ∀ s ∈ y.f4, GoodStep s
structure BoundStep (y : S62) : Prop where
 out : y.f0.size ≤ 140737488351232
 args : y.f2.length * 16 ≤ 140737488351232
 lits : y.f3.length * 16 ≤ 140737488351232
 argz : ∀ s ∈ y.f2, s.size ≤ 140737488351232
 litz : ∀ s ∈ y.f3, s.size ≤ 140737488351232
structure BoundRule (y : S49) : Prop where
 name : y.f0.size ≤ 140737488351232
 insz : ∀ s ∈ y.f1, s.size ≤ 140737488351232
 outsz : ∀ s ∈ y.f2, s.size ≤ 140737488351232
 afterz : ∀ s ∈ y.f3, s.size ≤ 140737488351232
 ins : y.f1.length * 16 ≤ 140737488351232
 outs : y.f2.length * 16 ≤ 140737488351232
 after : y.f3.length * 16 ≤ 140737488351232
 len : y.f4.length * 80 ≤ 140737488351232
 steps : ∀ s ∈ y.f4, BoundStep s
section
variable {H : Type} {enc : TypeId × Value → H} {W : World} {base fuel : Nat} {held : Bool}
theorem by16 : Tryz.prog.bytesOf 9 = 16 := by kernel_rfl
theorem by80 : Tryz.prog.bytesOf 62 = 80 := by kernel_rfl
theorem by112 : Tryz.prog.bytesOf 49 = 112 := by kernel_rfl
theorem sized_str {P : Program} {t : TypeId} {s : ByteArray} {x : DataW H × List MemPlace} (hx : x = (.lit (.string s.data.toList), [])) (hs : SizedBy P t x.1) : s.size ≤ 140737488351232 := by
 rw [hx] at hs
 have := hs s.data.toList.length (by simp [DataW.weights])
 rwa [Array.length_toList] at this
theorem open_strsC {cs : List Value} {x : DataW H × List MemPlace} (h : DataW.trod enc Tryz.prog W base (fun _ => true) held fuel 46 cs = some x) :
 ∃ (a : Option Addr) (l : List ByteArray) (c : Nat), cs = [.slice a l.length c] ∧ Kd.C Kd.string W a l.length l ∧ l.length ≤ c ∧ RowP l x.1 ∧ (∀ y ∈ l, y.size ≤ maxLen) ∧ (SizedBy Tryz.prog 46 x.1 → l.length * 16 ≤ 140737488351232 ∧ ∀ y ∈ l, y.size ≤ 140737488351232) := by
 obtain ⟨a, l, c, h1, h2, h3, h4, h5, h6⟩ := open_rowC Kd.string (fun y => y.size ≤ maxLen) (fun y => y.size ≤ 140737488351232) Tryz.underlying46 (by kernel_rfl) (fun n cs x _ hx => by
  obtain ⟨s, h1, h2, h3⟩ := DataW.trod_string Tryz.underlying9 (x := x) hx
  exact ⟨s, h1, h3, fun hs => sized_str h2 hs⟩) h
 refine ⟨a, l, c, h1, h2, h3, h4, h5, fun hs => ?_⟩
 have := h6 hs
 rwa [by16] at this
theorem open_step5 {cs : List Value} {x : DataW H × List MemPlace} (hl : cs.length = 5) (hx : DataW.trod enc Tryz.prog W base (fun _ => true) held fuel 62 cs = some x) : ∃ y, k62.K W y cs ∧ GoodStep y ∧ (SizedBy Tryz.prog 62 x.1 → BoundStep y) := by
 obtain ⟨y0, y1, y2, y3, y4, n, _, hx1, h0, h1, h2, h3, h4⟩ := trod_struct5 Tryz.underlying62 hx
 obtain ⟨ca, cb, cc, cd, ce, rfl⟩ := five_cells hl
 have c1 : Tryz.prog.cellsOf 3 = 1 := by kernel_rfl
 have c2 : Tryz.prog.cellsOf 9 = 1 := by kernel_rfl
 have c3 : Tryz.prog.cellsOf 46 = 1 := by kernel_rfl
 simp only [c1, c2, c3, List.drop_zero, List.drop_succ_cons, List.take_succ_cons, List.take_zero] at h0 h1 h2 h3 h4
 obtain ⟨s, e1, d1, g1⟩ := DataW.trod_string Tryz.underlying9 h0
 obtain ⟨b, e2, _, g2⟩ := DataW.trod_int Tryz.underlying3 h1
 obtain ⟨a3, l3, k3, e3, C3, n3, _, g3, z3⟩ := open_strsC h2
 obtain ⟨a4, l4, k4, e4, C4, n4, _, g4, z4⟩ := open_strsC h3
 obtain ⟨b5, e5, _, g5⟩ := DataW.trod_int Tryz.underlying3 h4
 cases e1; cases e2; cases e3; cases e4; cases e5
 refine ⟨⟨s, b, l3, l4, b5⟩, k62_mk W ⟨s, b, l3, l4, b5⟩ n3 C3 n4 C4, ⟨g1, bounds_i64 g2, g3, g4, bounds_i64 g5⟩, fun hs => ?_⟩
 rw [hx1] at hs
 have u := Tryz.underlying62
 obtain ⟨q3, r3⟩ := z3 (SizedBy.part u hs (j := 2) rfl rfl)
 obtain ⟨q4, r4⟩ := z4 (SizedBy.part u hs (j := 3) rfl rfl)
 exact ⟨sized_str d1 (SizedBy.part u hs (j := 0) rfl rfl), q3, q4, r3, r4⟩
theorem open_stepsC {cs : List Value} {x : DataW H × List MemPlace} (h : DataW.trod enc Tryz.prog W base (fun _ => true) held fuel 47 cs = some x) :
 ∃ (a : Option Addr) (l : List S62) (c : Nat), cs = [.slice a l.length c] ∧ Kd.C k62 W a l.length l ∧ l.length ≤ c ∧ RowP l x.1 ∧ (∀ y ∈ l, GoodStep y) ∧ (SizedBy Tryz.prog 47 x.1 → l.length * 80 ≤ 140737488351232 ∧ ∀ y ∈ l, BoundStep y) := by
 obtain ⟨a, l, c, h1, h2, h3, h4, h5, h6⟩ := open_rowC k62 GoodStep BoundStep Tryz.underlying47 (by kernel_rfl) (fun n cs x hl hx => open_step5 hl hx) h
 refine ⟨a, l, c, h1, h2, h3, h4, h5, fun hs => ?_⟩
 have := h6 hs
 rwa [by80] at this
theorem open_rule5 {cs : List Value} {x : DataW H × List MemPlace} (hl : cs.length = 5) (hx : DataW.trod enc Tryz.prog W base (fun _ => true) held fuel 49 cs = some x) : ∃ y, k49.K W y cs ∧ GoodRule y ∧ (SizedBy Tryz.prog 49 x.1 → BoundRule y) := by
 obtain ⟨y0, y1, y2, y3, y4, n, _, hx1, h0, h1, h2, h3, h4⟩ := trod_struct5 Tryz.underlying49 hx
 obtain ⟨ca, cb, cc, cd, ce, rfl⟩ := five_cells hl
 have c2 : Tryz.prog.cellsOf 9 = 1 := by kernel_rfl
 have c3 : Tryz.prog.cellsOf 46 = 1 := by kernel_rfl
 have c4 : Tryz.prog.cellsOf 47 = 1 := by kernel_rfl
 simp only [c2, c3, c4, List.drop_zero, List.drop_succ_cons, List.take_succ_cons, List.take_zero] at h0 h1 h2 h3 h4
 obtain ⟨s, e1, d1, g1⟩ := DataW.trod_string Tryz.underlying9 h0
 obtain ⟨a2, l2, k2, e2, C2, n2, _, g2, z2⟩ := open_strsC h1
 obtain ⟨a3, l3, k3, e3, C3, n3, _, g3, z3⟩ := open_strsC h2
 obtain ⟨a4, l4, k4, e4, C4, n4, _, g4, z4⟩ := open_strsC h3
 obtain ⟨a5, l5, k5, e5, C5, n5, _, g5, z5⟩ := open_stepsC h4
 cases e1; cases e2; cases e3; cases e4; cases e5
 refine ⟨⟨s, l2, l3, l4, l5⟩, k49_mk W ⟨s, l2, l3, l4, l5⟩ n2 C2 n3 C3 n4 C4 n5 C5, ⟨g1, g2, g3, g4, g5⟩, fun hs => ?_⟩
 rw [hx1] at hs
 have u := Tryz.underlying49
 obtain ⟨q1, q2⟩ := z5 (SizedBy.part u hs (j := 4) rfl rfl)
 obtain ⟨m2, r2⟩ := z2 (SizedBy.part u hs (j := 1) rfl rfl)
 obtain ⟨m3, r3⟩ := z3 (SizedBy.part u hs (j := 2) rfl rfl)
 obtain ⟨m4, r4⟩ := z4 (SizedBy.part u hs (j := 3) rfl rfl)
 exact ⟨sized_str d1 (SizedBy.part u hs (j := 0) rfl rfl), r2, r3, r4, m2, m3, m4, q1, q2⟩
theorem open_rules {v : Value} {d : DataW H} {ps : List MemPlace} (hv : ∃ a len cap, v = Value.slice a len cap) (h : DataW.Trod enc Tryz.prog W base (fun _ => true) held 35 v d ps) :
 ∃ (a : Option Addr) (l : List S49) (c : Nat), v = .slice a l.length c ∧ Kd.C k49 W a l.length l ∧ l.length ≤ c ∧ RowP l d ∧ (∀ y ∈ l, GoodRule y) ∧ (SizedBy Tryz.prog 35 d → l.length * 112 ≤ 140737488351232 ∧ ∀ y ∈ l, BoundRule y) := by
 obtain ⟨a0, len0, cap0, rfl⟩ := hv
 obtain ⟨fuel, hf⟩ := h
 obtain ⟨a, l, c, h1, h2⟩ := open_rowC k49 GoodRule BoundRule Tryz.underlying35 (by kernel_rfl) (fun n cs x hl hx => open_rule5 hl hx) hf
 simp [Value.cells] at h1
 obtain ⟨e1, e2, e3⟩ := h1
 rw [by112] at h2
 exact ⟨a, l, c, by rw [e1, e2, e3], h2⟩
theorem sizedBy {P : Program} {ts : List TypeId} {ds : List (DataW H)} {j : Nat} {t : TypeId} {d : DataW H} (hsz : (DataW.weightsEach P ts ds).all (· ≤ reachBytes) = true) (ht : ts[j]? = some t) (hj : ds[j]? = some d) : SizedBy P t d := fun n hn => by
 have := List.all_eq_true.1 hsz n (DataW.weights_mem_each ht hj n hn)
 simpa using this
end
end Go.Proofs.YthagibkmfgodgaaGreatDoor.X

namespace Go.Proofs.YthagibkmfgodgaaGreatDoor.X
open Go.RowKit Go.Maps Go.Proofs.YthagibkmfgodgaaGreatDoorW.PrintWords Go.Proofs.YthagibkmfgodgaaGreatDoorW.PrintMore Go.Proofs.YthagibkmfgodgaaGreatDoorW.PrintLast
set_option linter.unusedSimpArgs false
def IsRulesN (l : List SRule) (w : World) (e : Ending) (w' : World) : Prop :=
 ∃ X d, e = .returned (.slice X l.length d) ∧ Kd.N k49 49 w' w.heap.size (fun k => w.heap.size ≤ k) (.slice X l.length d) l ∧ Below w.heap.size w w'
set_option maxHeartbeats 4000000 in
set_option maxRecDepth 100000 in
theorem rules_calls (A : Option Addr) (c : Nat) (l : List SRule) (w : World) (hC : Kd.C k49 w A l.length l) (hB : ∀ r ∈ l, BoundRule r) :
 Calls Tryz.prog 24 #[.slice A l.length c] w (IsRulesN ((l.take 42).map ruleC) w) := by
 have HC := Lib.hid hC
 have HBd := Lib.hid hB
 have hlen : l.length ≤ 9223372036854775807 := hC.2.1
 clear hC hB
 obtain ⟨L, hL⟩ : ∃ L, L = (l.take 42).map ruleC := ⟨_, rfl⟩
 rw [← hL]
 have HLq := Lib.hid hL
 clear hL
 go_enter Tryz.func24, Tryz.ntmps24
 go_wp2_with fail
 go_loopg [3, 4] l.length (fun gg s3 s4 wr => ∃ (kk : Nat) (X : Option Addr) (d : Nat), kk ≤ l.length ∧ kk ≤ 42 ∧ l.length - kk ≤ gg ∧ s4 = .int .i64 kk ∧ s3 = .slice X kk d ∧ Aside0 (Kd.N k49 49 wr w.heap.size (fun k => w.heap.size ≤ k) (.slice X kk d) ((l.take kk).map ruleC)) ∧ Aside0 (Below w.heap.size w wr))
 case atStart => exact ⟨0, none, 0, Nat.zero_le _, by omega, by omega, rfl, rfl, ⟨Kd.N_nil _ _ _ _ _⟩, ⟨Below.refl _ _⟩⟩
 case round =>
  obtain ⟨kk, X, d, hkk, hk42, hgk, rfl, rfl, HN, HB⟩ := hrel
  by_cases hlt : kk < l.length
  · have hltz : (kk : Int) < (l.length : Int) := by omega
    by_cases hl2 : kk < 42
    · have hl2z : (kk : Int) < 42 := by omega
      obtain ⟨ad, B1, e1, B2, e2, B3, e3, B4, e4, rfl, p0, p1, p2, p3, p4, q1, g1, q2, g2, q3, g3, q4, g4⟩ := at_T49 (Kd.C_below HC.out HB.out) (kk : Int) (by omega) hltz
      have hxi : rd_T49 l (kk : Int) = l[kk] := by unfold rd_T49; simp [List.getD_eq_getElem?_getD, List.getElem?_eq_getElem hlt]
      rw [hxi] at p0 p1 p2 p3 p4 q1 g1 q2 g2 q3 g3 q4 g4
      rw [Int.toNat_natCast] at p0 p1 p2 p3 p4
      have htk : (l.take (kk + 1)).map ruleC = (l.take kk).map ruleC ++ [ruleC l[kk]] := by rw [List.take_add_one, List.getElem?_eq_getElem hlt, List.map_append]; rfl
      have HTK := Lib.hid htk
      have HBx := Lib.hid (HBd.out l[kk] (List.getElem_mem hlt))
      generalize l[kk] = x at p0 p1 p2 p3 p4 q1 g1 q2 g2 q3 g3 q4 g4 HTK HBx
      clear htk hxi
      have hCut := cut_calls x B1 e1 B2 e2 B3 e3 B4 e4 wr g1 g2 g3 g4 (fun s hs => ⟨Nat.le_trans (HBx.out.steps s hs).args (by decide), Nat.le_trans (HBx.out.steps s hs).lits (by decide)⟩) q1 q2 q3 q4
      generalize ruleC x = y at hCut HTK
      have hkl : ((l.take kk).map ruleC).length = kk := by rw [List.length_map, List.length_take]; omega
      have HKL := Lib.hid hkl
      generalize (l.take kk).map ruleC = acc at HN HTK HKL
      clear g1 g2 g3 g4 q1 q2 q3 q4 hkl
      go_wp2_with (first
       | (go_at_call 45; refine hCut.mono ?_; rintro e w5 ⟨X1, d1, X2, d2, X3, d3, X4, d4, rfl, hF, hb5⟩; have HF5 := Lib.hid hF; have HB5 := Lib.hid (below_then HB.out HB.out.size hb5); have HN5 := Lib.hid (Kd.N_below HN.out hb5); have HW5 := Lib.hid hb5.size; have HX5 := Lib.hid (Kd.N_lt HN.out); clear hF hb5)
       | ((with_reducible refine gate_builtin (b := .append) (xs := #[.tmp 15, .tmp 21]) rfl ?_); at_builtin; refine Kd.N_append k49 (w0 := w) w.heap.size rfl (.tmp 15) (.tmp 21) 35 49 (.agg #[.string ⟨#[]⟩, .slice none 0 0, .slice none 0 0, .slice none 0 0, .slice none 0 0]) 112 rfl Tryz.underlying35 info49 rfl (by decide) (by decide) (.slice X kk d) acc y [.string y.f0, .slice X1 y.f1.length d1, .slice X2 y.f2.length d2, .slice X3 y.f3.length d3, .slice X4 y.f4.length d4] (fun k => w.heap.size ≤ k) (fun k => wr.heap.size ≤ k) (by rfl) (by rfl) HF5.out ?aP ?aS HN5.out HB5.out HB5.out.size ?aL ?_; (case aP => (intro k hk; refine ⟨Nat.le_trans HB.out.size hk, fun he => ?_⟩; have := HX5.out k he.symm; omega)); (case aS => (intro k hk; exact Nat.le_trans HB5.out.size hk)); (case aL => (have h1 := HKL.out; omega)); intro v1 w9 ho hb hg hat; obtain ⟨A9, c9, rfl⟩ := Kd.N_slice ho; rw [List.length_append, HKL.out, List.length_singleton] at ho ⊢; have HR9 := Lib.hid ho; have HB9 := Lib.hid hb; clear ho hb hg hat))
      go_roundg (l.length - (kk + 1))
      case measure => omega
      case rel => exact ⟨kk + 1, A9, c9, by omega, by omega, by omega, by first | rfl | go_num, rfl, ⟨by rw [HTK.out]; exact HR9.out⟩, ⟨HB9.out⟩⟩
    · have hl2z : ¬ (kk : Int) < 42 := by omega
      obtain rfl : kk = 42 := by omega
      have hN := HN.out
      have hlm : ((l.take 42).map ruleC).length = 42 := by rw [List.length_map, List.length_take]; omega
      have HN2 : Hid (Kd.N k49 49 wr w.heap.size (fun k => w.heap.size ≤ k) (.slice X 42 d) ((l.take 42).map ruleC)) := hN
      have HLM := Lib.hid hlm
      clear hN hlm
      go_wp2_with fail
      go_ret
      exact ⟨X, d, by rw [HLq.out, HLM.out]; rfl, by rw [HLq.out, HLM.out]; exact HN2.out, HB.out⟩
  · have hltz : ¬ (kk : Int) < (l.length : Int) := by omega
    obtain rfl : kk = l.length := by omega
    have hN := HN.out
    rw [List.take_length] at hN
    have HN2 := Lib.hid hN
    have HLM : Hid ((l.take 42).map ruleC = l.map ruleC) := by show _ = _; rw [List.take_of_length_le hk42]
    clear hN
    go_wp2_with fail
    go_ret
    exact ⟨X, d, by rw [HLq.out, HLM.out, List.length_map]; rfl, by rw [HLq.out, HLM.out, List.length_map]; exact HN2.out, HB.out⟩

end Go.Proofs.YthagibkmfgodgaaGreatDoor.X

namespace Go.Proofs.YthagibkmfgodgaaGreatDoor.X
open Go.RowKit Go.Maps Go.Proofs.YthagibkmfgodgaaGreatDoorW.PrintWords Go.Proofs.YthagibkmfgodgaaGreatDoorW.PrintMore Go.Proofs.YthagibkmfgodgaaGreatDoorW.PrintLast

theorem ex_one (s : ByteArray) (k : Nat) (h : k < s.size) : s.extract k (k + 1) = mk [s[k]] := by
 apply ByteArray.ext
 rw [ByteArray.data_extract]
 apply Array.ext'
 rw [Array.toList_extract, List.extract_eq_take_drop, List.drop_eq_getElem_cons (by rw [← Lib.size_eq]; exact h), show k + 1 - k = 1 by omega]
 rfl
theorem dig_ex : ∀ n : Nat, n < 16 → (⟨#[48, 49, 50, 51, 52, 53, 54, 55, 56, 57, 97, 98, 99, 100, 101, 102]⟩ : ByteArray).extract n (n + 1) = mk [hexD n] := by decide +kernel
theorem ap2 (a b c : Bytes) : mk a ++ (mk b ++ mk c) = mk (a ++ (b ++ c)) := by rw [mk_append, mk_append]
theorem ap4 (a : Bytes) (x y : UInt8) : mk a ++ ((⟨#[92, 120]⟩ : ByteArray) ++ mk [x] ++ mk [y]) = mk (a ++ [92, 120, x, y]) := by
 rw [show (⟨#[92, 120]⟩ : ByteArray) = mk [92, 120] from rfl, mk_append, mk_append, mk_append]
 rfl
set_option maxHeartbeats 4000000 in
set_option maxRecDepth 100000 in
theorem refQuote_all (s : ByteArray) (hs : s.size ≤ 140737488355328) (w : World) :
 Calls Tryz.prog 22 #[.string s] w fun e w' => e = .returned (.string (mk (quoteF s.data.toList))) ∧ Below w.heap.size w w' := by
 generalize hT : quoteF s.data.toList = T
 have HT := Lib.hid hT
 clear hT
 go_enter Tryz.func22, Tryz.ntmps22
 go_wp2_with fail
 go_loopg [4, 5, 6] s.size (fun gg s4 s5 _ wr => ∃ (kk : Nat) (acc : Bytes), kk ≤ s.size ∧ s.size - kk ≤ gg ∧ s5 = .int .i64 kk ∧ s4 = .string (mk acc) ∧ acc.length ≤ 1 + 4 * kk ∧ Aside0 (acc ++ (quoteL (s.data.toList.drop kk) ++ [34]) = T) ∧ Aside0 (Below w.heap.size w wr))
 case atStart => exact ⟨0, [34], Nat.zero_le _, by omega, rfl, rfl, by simp, ⟨by rw [← HT.out]; rfl⟩, ⟨Below.refl _ _⟩⟩
 case round =>
  obtain ⟨kk, acc, hkk, hgk, rfl, rfl, hacc, HK, HB⟩ := hrel
  by_cases hlt : kk < s.size
  · have hltz : (kk : Int) < (s.size : Int) := by omega
    have hdr : s.data.toList.drop kk = s[kk] :: s.data.toList.drop (kk + 1) := by
     rw [List.drop_eq_getElem_cons (by rw [← Lib.size_eq]; exact hlt)]
     rfl
    have hK := HK.out
    rw [hdr, quoteL] at hK
    have HK2 := Lib.hid hK
    clear hK hdr
    have n8 : ∀ (m : Nat) (k : UInt8), k.toNat = m → (s[kk] = k ↔ s[kk].toNat = m) := fun m k hk => by rw [← UInt8.toNat_inj, hk]
    have H34 := Lib.hid (n8 34 34 rfl)
    have H92 := Lib.hid (n8 92 92 rfl)
    have H10 := Lib.hid (n8 10 10 rfl)
    have H9 := Lib.hid (n8 9 9 rfl)
    clear n8
    have next : ∀ l : Bytes, quoteC s[kk] = l → acc ++ l ++ (quoteL (s.data.toList.drop (kk + 1)) ++ [34]) = T := fun l hl => by
     rw [← HK2.out, hl]
     simp
    have HN := Lib.hid next
    clear next
    have hsub : 0 ≤ (kk : Int) + 1 ∧ (kk : Int) ≤ (kk : Int) + 1 ∧ (kk : Int) + 1 ≤ (s.size : Int) := by omega
    have hms : (mk acc).size ≤ 600000000000000 := by rw [mk_size]; omega
    have ho1 : ¬ 9223372036854775807 < (mk acc).size + (1 + (min (kk + 1) s.size - kk)) := by omega
    have ho2 : ¬ 9223372036854775807 < (mk acc).size + 2 := by omega
    have ho3 : ¬ 9223372036854775807 < (mk acc).size + (min (kk + 1) s.size - kk) := by omega
    have HE := Lib.hid (ex_one s kk hlt)
    by_cases c1 : s[kk].toNat = 34
    · have e1 : ((s[kk].toNat : Int) == 34) = true := by simp; omega
      have HV := Lib.hid (HN.out [92, s[kk]] (by unfold quoteC; rw [if_pos (.inl (H34.out.2 c1))]))
      clear c1
      go_wp2_with fail
      go_roundg (s.size - (kk + 1))
      case measure => omega
      case rel => exact ⟨kk + 1, acc ++ [92, s[kk]], by omega, by omega, by first | rfl | go_num, (by rw [HE.out]; exact congrArg Value.string (ap2 acc [92] [s[kk]])), by simp; omega, ⟨HV.out⟩, ⟨HB.out⟩⟩
    have e1 : ((s[kk].toNat : Int) == 34) = false := by simp; omega
    by_cases c2 : s[kk].toNat = 92
    · have e2 : ((s[kk].toNat : Int) == 92) = true := by simp; omega
      have HV := Lib.hid (HN.out [92, s[kk]] (by unfold quoteC; rw [if_pos (.inr (H92.out.2 c2))]))
      clear c1 c2
      go_wp2_with fail
      go_roundg (s.size - (kk + 1))
      case measure => omega
      case rel => exact ⟨kk + 1, acc ++ [92, s[kk]], by omega, by omega, by first | rfl | go_num, (by rw [HE.out]; exact congrArg Value.string (ap2 acc [92] [s[kk]])), by simp; omega, ⟨HV.out⟩, ⟨HB.out⟩⟩
    have e2 : ((s[kk].toNat : Int) == 92) = false := by simp; omega
    have HQ1 : Hid (¬ (s[kk] = 34 ∨ s[kk] = 92)) := fun h => h.elim (fun h => c1 (H34.out.1 h)) (fun h => c2 (H92.out.1 h))
    clear c1 c2
    by_cases c3 : s[kk].toNat = 10
    · have e3 : ((s[kk].toNat : Int) == 10) = true := by simp; omega
      have HV := Lib.hid (HN.out [92, 110] (by unfold quoteC; rw [if_neg HQ1.out, if_pos (H10.out.2 c3)]))
      clear c3
      go_wp2_with fail
      go_roundg (s.size - (kk + 1))
      case measure => omega
      case rel => exact ⟨kk + 1, acc ++ [92, 110], by omega, by omega, by first | rfl | go_num, congrArg Value.string (mk_append acc [92, 110]), by simp; omega, ⟨HV.out⟩, ⟨HB.out⟩⟩
    have e3 : ((s[kk].toNat : Int) == 10) = false := by simp; omega
    by_cases c4 : s[kk].toNat = 9
    · have e4 : ((s[kk].toNat : Int) == 9) = true := by simp; omega
      have HV := Lib.hid (HN.out [92, 116] (by unfold quoteC; rw [if_neg HQ1.out, if_neg (fun h => c3 (H10.out.1 h)), if_pos (H9.out.2 c4)]))
      clear c3 c4
      go_wp2_with fail
      go_roundg (s.size - (kk + 1))
      case measure => omega
      case rel => exact ⟨kk + 1, acc ++ [92, 116], by omega, by omega, by first | rfl | go_num, congrArg Value.string (mk_append acc [92, 116]), by simp; omega, ⟨HV.out⟩, ⟨HB.out⟩⟩
    have e4 : ((s[kk].toNat : Int) == 9) = false := by simp; omega
    have HQ2 : Hid (¬ s[kk] = 10) := fun h => c3 (H10.out.1 h)
    have HQ3 : Hid (¬ s[kk] = 9) := fun h => c4 (H9.out.1 h)
    clear c3 c4
    by_cases c5 : s[kk].toNat < 32 ∨ 126 < s[kk].toNat
    · have HV := Lib.hid (HN.out [92, 120, hexD (s[kk].toNat / 16), hexD (s[kk].toNat % 16)] (by unfold quoteC; rw [if_neg HQ1.out, if_neg HQ2.out, if_neg HQ3.out, if_pos c5]))
      obtain ⟨d1, hd1⟩ : ∃ d : Nat, d = s[kk].toNat / 16 := ⟨_, rfl⟩
      obtain ⟨d2, hd2⟩ : ∃ d : Nat, d = s[kk].toNat % 16 := ⟨_, rfl⟩
      have hb : s[kk].toNat < 256 := s[kk].toNat_lt
      have hx1 : IntKind.u8.wrap ((s[kk].toNat : Int) / 16) = (d1 : Int) := by
       rw [show ((s[kk].toNat : Int) / 16) = (d1 : Int) by omega]
       have e : (d1 : Int) % 256 = d1 := Int.emod_eq_of_lt (by omega) (by omega)
       simp [IntKind.wrap, IntKind.bits, IntKind.signed, e]
      have hx2 : Int.tmod (s[kk].toNat : Int) 16 = (d2 : Int) := by
       rw [Int.tmod_eq_emod_of_nonneg (by omega)]
       omega
      have hl1n : d1 < 16 := by omega
      have hl2n : d2 < 16 := by omega
      rw [← hd1, ← hd2] at HV
      have HG1 := Lib.hid (dig_ex d1 hl1n)
      have HG2 := Lib.hid (dig_ex d2 hl2n)
      clear hd1 hd2 hb
      by_cases c6 : s[kk].toNat < 32
      · have e6 : decide ((s[kk].toNat : Int) < 32) = true := by simp; omega
        clear c5 c6
        go_wp2_with fail
        go_quiet (fail)
        go_wp2_with fail
        go_roundg (s.size - (kk + 1))
        case measure => omega
        case rel => exact ⟨kk + 1, acc ++ [92, 120, hexD d1, hexD d2], by omega, by omega, by first | rfl | go_num, (by rw [HG1.out, HG2.out]; exact congrArg Value.string (ap4 acc _ _)), by simp; omega, ⟨HV.out⟩, ⟨pw_below_drewN HB.out nq⟩⟩
      · have e6 : decide ((s[kk].toNat : Int) < 32) = false := by simp; omega
        have e7 : decide ((126 : Int) < (s[kk].toNat : Int)) = true := by simp; omega
        clear c5 c6
        go_wp2_with fail
        go_quiet (fail)
        go_wp2_with fail
        go_roundg (s.size - (kk + 1))
        case measure => omega
        case rel => exact ⟨kk + 1, acc ++ [92, 120, hexD d1, hexD d2], by omega, by omega, by first | rfl | go_num, (by rw [HG1.out, HG2.out]; exact congrArg Value.string (ap4 acc _ _)), by simp; omega, ⟨HV.out⟩, ⟨pw_below_drewN HB.out nq⟩⟩
    · have HV := Lib.hid (HN.out [s[kk]] (by unfold quoteC; rw [if_neg HQ1.out, if_neg HQ2.out, if_neg HQ3.out, if_neg c5]))
      have e5 : decide ((s[kk].toNat : Int) < 32) = false := by simp; omega
      have e6 : decide ((126 : Int) < (s[kk].toNat : Int)) = false := by simp; omega
      clear c5
      go_wp2_with fail
      go_roundg (s.size - (kk + 1))
      case measure => omega
      case rel => exact ⟨kk + 1, acc ++ [s[kk]], by omega, by omega, by first | rfl | go_num, (by rw [HE.out]; exact congrArg Value.string (mk_append acc [s[kk]])), by simp; omega, ⟨HV.out⟩, ⟨HB.out⟩⟩
  · have hltz : ¬ (kk : Int) < (s.size : Int) := by omega
    have HV : Hid (T = acc ++ [34]) := by
     show T = _
     rw [← HK.out, List.drop_of_length_le (by rw [← Lib.size_eq]; omega)]
     rfl
    have hms : (mk acc).size ≤ 600000000000000 := by rw [mk_size]; omega
    have ho1 : ¬ 9223372036854775807 < (mk acc).size + 1 := by omega
    go_wp2_with fail
    go_ret
    rw [HV.out]
    exact ⟨congrArg (fun b => Ending.returned (Value.string b)) (mk_append acc [34]), HB.out⟩

end Go.Proofs.YthagibkmfgodgaaGreatDoor.X

namespace Go.Proofs.YthagibkmfgodgaaGreatDoor.X
open Go.RowKit Go.Maps Go.Proofs.YthagibkmfgodgaaGreatDoorW.PrintWords Go.Proofs.YthagibkmfgodgaaGreatDoorW.PrintMore Go.Proofs.YthagibkmfgodgaaGreatDoorW.PrintLast
set_option linter.unusedSimpArgs false
def TextOf (n : Nat) (w : World) (e : Ending) (w' : World) : Prop := ∃ s : ByteArray, e = .returned (.string s) ∧ s.size ≤ n ∧ Below w.heap.size w w'
theorem ops_small (k : Nat) (hk : k < 10) : ∃ s : ByteArray, opsC[k]? = some (.string s) ∧ s.size ≤ 10 := by
 have h : k = 0 ∨ k = 1 ∨ k = 2 ∨ k = 3 ∨ k = 4 ∨ k = 5 ∨ k = 6 ∨ k = 7 ∨ k = 8 ∨ k = 9 := by omega
 rcases h with rfl | rfl | rfl | rfl | rfl | rfl | rfl | rfl | rfl | rfl <;> exact ⟨_, rfl, by decide⟩
set_option maxHeartbeats 1000000 in
theorem refOpName_calls (op : Int) (w : World) : Calls Tryz.prog 87 #[.int .i64 op] w (TextOf 10 w) := by
 have HB := Lib.hid ((Below.refl w.heap.size w).alloc (Nat.le_refl _) (.cells opsC 9))
 have HA := Lib.hid (blk_new w (.cells opsC 9))
 by_cases h1 : (1 : Int) ≤ op
 · by_cases h2 : op < 10
   · obtain ⟨k, rfl⟩ : ∃ k : Nat, op = (k : Int) := ⟨op.toNat, by omega⟩
     obtain ⟨s, hs, hs2⟩ := ops_small k (by omega)
     have hc : (w.alloc (.cells opsC 9)).cell? ⟨w.heap.size, k, none⟩ = some (.string s) := (blk_cell HA.out k).trans hs
     go_enter Tryz.func87, Tryz.ntmps87
     go_wp2_with (go_at_call 129; refine (names_calls _).mono ?_; rintro e w' ⟨rfl, rfl⟩)
     go_ret
     exact ⟨s, rfl, hs2, HB.out⟩
   · go_enter Tryz.func87, Tryz.ntmps87
     go_wp2_with (go_at_call 129; refine (names_calls _).mono ?_; rintro e w' ⟨rfl, rfl⟩)
     go_ret
     exact ⟨⟨#[]⟩, rfl, by decide, HB.out⟩
 · go_enter Tryz.func87, Tryz.ntmps87
   go_wp2_with (go_at_call 129; refine (names_calls _).mono ?_; rintro e w' ⟨rfl, rfl⟩)
   go_ret
   exact ⟨⟨#[]⟩, rfl, by decide, HB.out⟩

theorem one_byteN (W : World) (v : Int) : (convert 38 9 (.slice (some ⟨W.heap.size, 0, none⟩) 1 1)).run Tryz.prog (W.alloc (.cells #[.int .u8 v] 5)) = .ok (.string (mk [UInt8.ofNat v.toNat])) (W.alloc (.cells #[.int .u8 v] 5)) := by
 have h : ReadsInt (W.alloc (.cells #[.int .u8 v] 5)) .u8 (some ⟨W.heap.size, 0, none⟩) 1 [v] := by
  refine ⟨rfl, by decide, fun _ => ⟨_, rfl, fun j hj => ?_⟩⟩
  obtain rfl : j = 0 := by omega
  rw [add_plain]
  exact (blk_cell (heap_alloc_new W (.cells #[.int .u8 v] 5)) 0).trans rfl
 exact string_of_reads Tryz.underlying38 Tryz.underlying5 Tryz.underlying9 h
set_option maxHeartbeats 1000000 in
theorem refNumber_small (n : Int) (h : n < 10) (w : World) : Calls Tryz.prog 88 #[.int .i64 n] w (TextOf 1 w) := by
 have hm : max n 0 ≤ 9 ∧ 0 ≤ max n 0 := by omega
 obtain ⟨m, hm1⟩ : ∃ m, max n 0 = m := ⟨_, rfl⟩
 rw [hm1] at hm
 have hcv := one_byteN w (48 + m)
 have hw : IntKind.u8.wrap (48 + m) = 48 + m := by
  have : (48 + m) % 256 = 48 + m := Int.emod_eq_of_lt (by omega) (by omega)
  simp [IntKind.wrap, IntKind.bits, IntKind.signed, this]
 go_enter Tryz.func88, Tryz.ntmps88
 go_wp2_with fail
 go_ret
 exact ⟨_, rfl, by rw [mk_size]; exact Nat.le_refl _, (Below.refl _ _).alloc (Nat.le_refl _) _⟩
theorem refNumber_k : ∀ (k : Nat) (_hk : k ≤ 30) (n : Int) (w : World), n < 10 ^ (k + 1) → n ≤ 9223372036854775807 → Calls Tryz.prog 88 #[.int .i64 n] w (TextOf (k + 1) w) := by
 intro k
 induction k with
 | zero => exact fun _ n w h _ => refNumber_small n (by simpa using h) w
 | succ k ih =>
  intro hk n w h hx
  by_cases h10 : n < 10
  · refine (refNumber_small n h10 w).mono ?_
    rintro e w' ⟨s, rfl, hs, hb⟩
    exact ⟨s, rfl, by omega, hb⟩
  · have hq := fun W => ih (by omega) (n / 10) W (by rw [Int.pow_succ] at h; omega) (by omega)
    have hr := fun W => refNumber_small (n % 10) (by omega) W
    obtain ⟨q, hqq⟩ : ∃ q, n / 10 = q := ⟨_, rfl⟩
    obtain ⟨r, hrr⟩ : ∃ r, n % 10 = r := ⟨_, rfl⟩
    rw [hqq] at hq
    rw [hrr] at hr
    have hd : Int.tdiv n 10 = q := by rw [Int.tdiv_eq_ediv_of_nonneg (by omega)]; exact hqq
    have hm : Int.tmod n 10 = r := by rw [Int.tmod_eq_emod_of_nonneg (by omega)]; exact hrr
    clear ih h
    go_enter Tryz.func88, Tryz.ntmps88
    go_wp2_with (first | (go_at_call_of 88 (Value.int .i64 q); refine (hq _).mono ?_; rintro e w1 ⟨s1, rfl, hs1, hb1⟩) | (go_at_call_of 88 (Value.int .i64 r); refine (hr _).mono ?_; rintro e w2 ⟨s2, rfl, hs2, hb2⟩; have ho1 : ¬ 9223372036854775807 < s1.size + s2.size := (by omega)))
    go_ret
    refine ⟨_, rfl, ?_, below_then hb1 hb1.size hb2⟩
    rw [ByteArray.size_append]
    exact Nat.add_le_add hs1 hs2

set_option maxHeartbeats 2000000 in
set_option maxRecDepth 100000 in
theorem refClause_calls (word : ByteArray) (A : Option Addr) (c : Nat) (l : List ByteArray) (w : World) (hC : Kd.C Kd.string w A l.length l) (hw : word.size ≤ 10) (hl : l.length ≤ 10) (hs : ∀ x ∈ l, x.size ≤ 140737488355328) :
 Calls Tryz.prog 56 #[.string word, .slice A l.length c] w (TextOf 2000000000000000 w) := by
 have HS := Lib.hid hs
 rcases row_open hC with rfl | ⟨b, o, rfl, _, hcell⟩
 · go_enter Tryz.func56, Tryz.ntmps56
   go_wp2_with fail
   go_ret
   exact ⟨⟨#[]⟩, rfl, by decide, Below.refl _ _⟩
 · rcases Nat.eq_zero_or_pos l.length with h0 | h0
   · rw [h0]
     clear hcell hC
     go_enter Tryz.func56, Tryz.ntmps56
     go_wp2_with fail
     go_ret
     exact ⟨⟨#[]⟩, rfl, by decide, Below.refl _ _⟩
   · have HCL := Lib.hid hcell
     have szk : ∀ k, k < l.length → (l.getD k ByteArray.empty).size ≤ 140737488355328 := fun k hk => by
      rw [List.getD_eq_getElem?_getD, List.getElem?_eq_getElem hk]
      exact hs _ (List.getElem_mem hk)
     have HSZ := Lib.hid szk
     have p0 : w.cell? ⟨b, o, none⟩ = some (.string (l.getD 0 ByteArray.empty)) := hcell 0 h0
     have hx0 := szk 0 h0
     generalize l.getD 0 ByteArray.empty = x0 at p0 hx0
     have hn0 : ((l.length : Int) == 0) = false := by rw [beq_eq_false_iff_ne]; omega
     have ho1 : ¬ 9223372036854775807 < 2 + word.size := by omega
     have ho2 : ¬ 9223372036854775807 < 2 + word.size + 1 := by omega
     have ho3 : ¬ 9223372036854775807 < 2 + word.size + 1 + x0.size := by omega
     have h0z : (0 : Int) < (l.length : Int) := by omega
     clear hcell hC hs szk
     go_enter Tryz.func56, Tryz.ntmps56
     go_wp2_with fail
     have ht0 : ((⟨#[32, 32]⟩ : ByteArray) ++ word ++ ⟨#[32]⟩ ++ x0).size ≤ 1000 + 1 * 140737488356000 := by
      simp only [ByteArray.size_append]
      have e1 : (⟨#[32, 32]⟩ : ByteArray).size = 2 := rfl
      have e2 : (⟨#[32]⟩ : ByteArray).size = 1 := rfl
      omega
     have HT0 := Lib.hid ht0
     clear ht0 ho1 ho2 ho3
     go_loopg [5, 6] l.length (fun gg s5 s6 wr => ∃ (kk : Nat) (t : ByteArray), kk ≤ l.length ∧ l.length - kk ≤ gg ∧ s6 = .int .i64 kk ∧ s5 = .string t ∧ t.size ≤ 1000 + kk * 140737488356000 ∧ wr = w)
     case atStart => exact ⟨1, _, by omega, by omega, rfl, rfl, HT0.out, rfl⟩
     case round =>
      obtain ⟨kk, t, hkk, hgk, rfl, rfl, ht, rfl⟩ := hrel
      by_cases hlt : kk < l.length
      · have hltz : (kk : Int) < (l.length : Int) := by omega
        have p1 := HCL.out kk hlt
        have hx := HSZ.out kk hlt
        generalize l.getD kk ByteArray.empty = x at p1 hx
        have ho1 : ¬ 9223372036854775807 < 2 + x.size := by omega
        have ho2 : ¬ 9223372036854775807 < t.size + (2 + x.size) := by omega
        go_wp2_with fail
        go_roundg (l.length - (kk + 1))
        case measure => omega
        case rel =>
         refine ⟨kk + 1, _, by omega, by omega, by first | rfl | go_num, rfl, ?_, rfl⟩
         simp only [ByteArray.size_append]
         have e1 : (⟨#[44, 32]⟩ : ByteArray).size = 2 := rfl
         omega
      · have hltz : ¬ (kk : Int) < (l.length : Int) := by omega
        have ho1 : ¬ 9223372036854775807 < t.size + 2 := by omega
        go_wp2_with fail
        go_ret
        refine ⟨_, rfl, ?_, Below.refl _ _⟩
        simp only [ByteArray.size_append]
        have e1 : (⟨#[59, 10]⟩ : ByteArray).size = 2 := rfl
        omega

theorem C_one {W : World} {g : Nat} {x : ByteArray} (h : W.heap[g]? = some (.cells #[.string x] 9 (0, 0))) : Kd.C Kd.string W (some ⟨g, 0, none⟩) 1 [x] := by
 refine ⟨rfl, by decide, fun _ => ⟨_, rfl, fun j p hj => ⟨[.string p], rfl, rfl, fun i u hu => ?_⟩⟩⟩
 obtain rfl : j = 0 := by have := (List.getElem?_eq_some_iff.1 hj).1; simpa using this
 obtain rfl : i = 0 := by have := (List.getElem?_eq_some_iff.1 hu).1; simpa using this
 simp only [List.getElem?_cons_zero, Option.some.injEq] at hj hu
 rw [← hu, ← hj]
 exact (blk_cell h 0).trans rfl
section
variable {P : Program} {ops : Array Oper} {o : Oper} {a : Act} {Kc : Act → World → Prop} {Q : Exit → Act → World → Prop} {W : World}
theorem app_row_step (hw : Region.wanted o (yielded ops a.tmps) = true) (s x : Operand)
 (ho : o.op = .call { callee := .builtin .append, args := #[s, x], argTypes := #[46, 46] })
 (ht : P.underlying 46 = some (.slice 9)) (hinfo : (P.info? 9).map (fun i => (i.zero, i.size, i.bytes)) = some (some (.string ⟨#[]⟩), 1, 16))
 {base : Nat} {v : Value} {xs : List ByteArray} (hs : a.eval s = v) (HO : RS W base v xs) (hbase : base ≤ W.heap.size)
 (l : List ByteArray) (A : Option Addr) (c : Nat) (hx : a.eval x = .slice A l.length c) (HR : Kd.C Kd.string W A l.length l) (hl : (xs.length + l.length) * 16 ≤ 140737488355328)
 (h : ∀ X d w1, RS w1 base (.slice X (xs ++ l).length d) (xs ++ l) → Below base W w1 → Kc (a.put o.dst (.slice X (xs ++ l).length d)) w1) :
 if Region.wanted o (yielded ops a.tmps) = true then Oper.wp P o a W Kc Q else Kc (a.put o.dst undef) W := by
 refine Kd.R_append_rows_step Kd.string (w0 := W) base hw s x 46 9 (.string ⟨#[]⟩) 16 ho ht hinfo rfl (by decide) (by decide) v xs l A l.length c (fun _ => True) (fun k_ => True ∧ some k_ ≠ v.ownBlock) hs hx HO HR (fun _ _ h => h) (fun _ hk => hk) (fun _ _ => trivial) (Below.refl _ _) hbase hl ?_
 intro v1 w1 ho1 hb1 _ _
 obtain ⟨X, d, rfl, _, _⟩ := Kd.R_reads ho1
 exact h X d w1 ho1 hb1
end
set_option maxHeartbeats 4000000 in
set_option maxRecDepth 100000 in
theorem refRising_calls (A : Option Addr) (c : Nat) (l : List ByteArray) (w : World) (hC : Kd.C Kd.string w A l.length l) (hl : l.length ≤ 1000) :
 Calls Tryz.prog 55 #[.slice A l.length c] w fun e w' => ∃ (X : Option Addr) (d : Nat) (l' : List ByteArray), e = .returned (.slice X l'.length d) ∧ l'.length = l.length ∧ (∀ x ∈ l', x ∈ l) ∧ RS w' w.heap.size (.slice X l'.length d) l' ∧ Below w.heap.size w w' := by
 have HC := Lib.hid hC
 clear hC
 go_enter Tryz.func55, Tryz.ntmps55
 go_wp2_with fail
 go_loopg [3, 4, 5] l.length (fun gg s3 s4 _ wr => ∃ (kk : Nat) (X : Option Addr) (d : Nat) (o : List ByteArray), kk ≤ l.length ∧ l.length - kk ≤ gg ∧ s4 = .int .i64 kk ∧ s3 = .slice X o.length d ∧ o.length = kk ∧ Aside0 (∀ x ∈ o, x ∈ l) ∧ Aside0 (RS wr w.heap.size (.slice X o.length d) o) ∧ Aside0 (Below w.heap.size w wr))
 case atStart => exact ⟨0, none, 0, [], Nat.zero_le _, by omega, rfl, rfl, rfl, ⟨fun _ h => by cases h⟩, ⟨Kd.R_nil _ _ _ _ _⟩, ⟨Below.refl _ _⟩⟩
 case round =>
  obtain ⟨kk, X, d, o, hkk, hgk, rfl, rfl, hol, HM, HO, HB⟩ := hrel
  by_cases hlt : kk < l.length
  · have hltz : (kk : Int) < (l.length : Int) := by omega
    rcases row_open HC.out with h0 | ⟨b, ol, rfl, hbl, hcell⟩
    · exfalso; rw [h0] at hlt; simp at hlt
    have p0 : w.cell? ⟨b, ol + kk, none⟩ = some (.string (l.getD kk ByteArray.empty)) := hcell kk hlt
    have hmem : l.getD kk ByteArray.empty ∈ l := by
     rw [List.getD_eq_getElem?_getD, List.getElem?_eq_getElem hlt]
     exact List.getElem_mem hlt
    generalize l.getD kk ByteArray.empty = x at p0 hmem
    have HP0 := Lib.hid p0
    have HMx := Lib.hid hmem
    have hol2 : o.length ≤ 1000 := by omega
    have HOL := Lib.hid hol
    clear p0 hmem hcell hol
    go_upto_block 2 with fail
    go_cut [5] (fun s5 wi => ∃ jj : Nat, s5 = .int .i64 jj ∧ jj ≤ o.length ∧ Aside0 (Below wr.heap.size wr wi))
    case first =>
     go_wp2_with fail
     go_loopg [5] o.length (fun gj s5 wi => ∃ jj : Nat, jj ≤ o.length ∧ o.length - jj ≤ gj ∧ s5 = .int .i64 jj ∧ Aside0 (Below wr.heap.size wr wi))
     case atStart => exact ⟨0, Nat.zero_le _, by omega, rfl, ⟨Below.refl _ _⟩⟩
     case round =>
      obtain ⟨jj, hjj, hgj, rfl, HI⟩ := hrel
      have hbw := below_then HB.out HB.out.size HI.out
      have q0 := cell_keeps hbw HP0.out
      by_cases hlj : jj < o.length
      · have hljz : (jj : Int) < (o.length : Int) := by omega
        obtain ⟨X', c', he, _, hrd⟩ := Kd.R_reads (Kd.R_below HO.out HI.out)
        obtain rfl : X = X' := by injection he
        rcases row_open hrd with h0 | ⟨b2, o2, rfl, _, hc2⟩
        · exfalso; rw [h0] at hlj; simp at hlj
        have q1 := hc2 jj hlj
        generalize o.getD jj ByteArray.empty = y at q1
        clear hc2 hrd he hbw
        have hd1 : decide ((jj : Int) < (o.length : Int)) = true := by simp; omega
        have hd2 : decide (jj < o.length) = true := by simp; omega
        cases hle : (Op.bytesLess y.toList x.toList || y.toList == x.toList) with
        | true =>
         go_wp2_with fail
         go_quiet (fail)
         have HI2 := Lib.hid (pw_below_drewN HI.out nq)
         go_wp2_with fail
         go_roundg (o.length - (jj + 1))
         case measure => omega
         case rel => exact ⟨jj + 1, by omega, by omega, by first | rfl | go_num, ⟨HI2.out⟩⟩
        | false =>
         go_wp2_with fail
         go_quiet (fail)
         have HI2 := Lib.hid (pw_below_drewN HI.out nq)
         go_wp2_with fail
         go_meet
         exact ⟨jj, rfl, hjj, ⟨HI2.out⟩⟩
      · have hljz : ¬ (jj : Int) < (o.length : Int) := by omega
        have hd1 : decide ((jj : Int) < (o.length : Int)) = false := by simp; omega
        have hd2 : decide (jj < o.length) = false := by simp; omega
        clear hbw
        go_wp2_with fail
        go_quiet (fail)
        have HI2 := Lib.hid (pw_below_drewN HI.out nq)
        go_wp2_with fail
        go_meet
        exact ⟨jj, rfl, hjj, ⟨HI2.out⟩⟩
    case rest =>
     obtain ⟨jj, rfl, hjj, HI⟩ := hcut
     have HBW := Lib.hid (below_then HB.out HB.out.size HI.out)
     have hS : ∀ W, Below wc.heap.size wc W → W.cell? ⟨b, ol + kk, none⟩ = some (.string x) := fun W hW => cell_keeps (below_then HBW.out HBW.out.size hW) HP0.out
     have HS := Lib.hid hS
     have hro := Kd.R_below HO.out HI.out
     obtain ⟨X', c', he, hcap, hrd⟩ := Kd.R_reads hro
     injection he with he1 he2 he3
     subst he1 he3
     obtain ⟨o1, ho1⟩ : ∃ q, q = o.take jj := ⟨_, rfl⟩
     obtain ⟨o3, ho3⟩ : ∃ q, q = o.drop jj := ⟨_, rfl⟩
     have HL1 : Hid (o1.length = jj) := by show _ = _; rw [ho1, List.length_take]; omega
     have HL3 : Hid (o3.length = o.length - jj) := by show _ = _; rw [ho3, List.length_drop]
     have HC1 : Hid (Kd.C Kd.string wc X o1.length o1) := by show Kd.C _ _ _ _ _; rw [ho1]; exact Kd.C_take hrd hjj
     have HC3 : Hid (Kd.C Kd.string wc (if d = jj then X else Option.map (fun x => x.add jj) X) o3.length o3) := by
      show Kd.C _ _ _ _ _
      have hq := Kd.C_drop hrd hjj hcap
      rw [show jj * Kd.string.sz = jj from Nat.mul_one jj] at hq
      rw [ho3]
      exact hq
     have HMn : Hid (∀ z ∈ o1 ++ [x] ++ o3, z ∈ l) := by
      intro z hz
      rw [ho1, ho3] at hz
      rcases List.mem_append.1 hz with hz | hz
      · rcases List.mem_append.1 hz with hz | hz
        · exact HM.out z (List.mem_of_mem_take hz)
        · rw [List.mem_singleton] at hz; rw [hz]; exact HMx.out
      · exact HM.out z (List.mem_of_mem_drop hz)
     have hb1 : (jj : Int) ≤ (o.length : Int) := by omega
     have hb2 : (o.length : Int) ≤ (d : Int) := by omega
     have hb3 : (jj : Int) ≤ (d : Int) := by omega
     have hb0 : (0 : Int) ≤ (jj : Int) := by omega
     have HBk : Hid (Below wc.heap.size wc wc.drew) := Lib.hid (below_drew (Below.refl _ _))
     clear hS hro hrd ho1 ho3 he2
     go_wp2_with fail
     go_region_held3 (fun W => W.cell? ⟨b, ol + kk, none⟩ = some (.string x)) (exact HS.out _ (by first | exact HBk.out | exact to_alloc HBk.out (.inr ⟨_, rfl⟩)))
      (first
       | (refine app_nil_step (by rfl) (.tmp 31) rfl Tryz.underlying46 infoStr o1 X d (by rw [HL1.out]; rfl) (Kd.C_below HC1.out (by first | exact HBk.out | exact to_alloc HBk.out (.inr ⟨_, rfl⟩))) (by have h1 := HL1.out; omega) ?_; intro X1 d1 w4 ho hb; have HO1 := Lib.hid (Kd.R_lower ho (by first | exact HBk.out.size | exact (to_alloc HBk.out (.inr ⟨_, rfl⟩)).size)); (try first | (have HE := Lib.hid (blk_below (blk_new wc (.cells #[.string x] 9)) hb)) | (have HE := Lib.hid (blk_below (blk_drew (blk_new wc (.cells #[.string x] 9))) hb)) | (have HE := Lib.hid (blk_below (blk_new wc.drew (.cells #[.string x] 9)) hb))); have HBk := Lib.hid (below_then HBk.out HBk.out.size (nxt hb (by first | exact .inl rfl | exact .inr ⟨_, rfl⟩))); clear ho hb)
       | (refine app_row_step (by rfl) (.tmp 32) (.tmp 37) rfl Tryz.underlying46 infoStr (v := .slice X1 o1.length d1) (by rfl) (Kd.R_below HO1.out ((Below.refl _ _).alloc (Nat.le_refl _) _)) (HBk.out.alloc HBk.out.size _).size [x] _ _ (by rfl) (C_one (blk_new _ _)) (by have h1 := HL1.out; simp; omega) ?_; intro X2 d2 w5 ho hb; have HO2 := Lib.hid ho; have HBk := Lib.hid ((HBk.out.alloc HBk.out.size _).trans hb); clear ho hb)
       | (refine app_row_step (by rfl) (.tmp 32) (.tmp 37) rfl Tryz.underlying46 infoStr (v := .slice X1 o1.length d1) (by rfl) HO1.out HBk.out.size [x] _ _ (by rfl) (C_one HE.out) (by have h1 := HL1.out; simp; omega) ?_; intro X2 d2 w5 ho hb; have HO2 := Lib.hid ho; have HBk := Lib.hid (HBk.out.trans hb); clear ho hb)
       | (refine app_row_step (by rfl) (.tmp 38) (.tmp 41) rfl Tryz.underlying46 infoStr (v := .slice X2 (o1 ++ [x]).length d2) (by rfl) HO2.out HBk.out.size o3 _ _ (by rw [HL3.out]; rfl) (Kd.C_below HC3.out HBk.out) (by have h1 := HL1.out; have h3 := HL3.out; simp; omega) ?_; intro X3 d3 w6 ho hb; have HO3 := Lib.hid ho; have HBk := Lib.hid (HBk.out.trans hb); clear ho hb))
     all_goals
      have HLn : Hid ((o1 ++ [x] ++ o3).length = kk + 1) := by show _ = _; have h1 := HL1.out; have h3 := HL3.out; have h2 := HOL.out; simp; omega
      go_wp2_with fail
     all_goals
      go_roundg (l.length - (kk + 1))
      case measure => omega
      case rel => exact ⟨kk + 1, X3, d3, o1 ++ [x] ++ o3, by omega, by omega, by first | rfl | go_num, by simp [Nat.add_assoc, Nat.add_comm 1], HLn.out, ⟨HMn.out⟩, ⟨Kd.R_lower HO3.out HBW.out.size⟩, ⟨below_then HBW.out HBW.out.size HBk.out⟩⟩
  · have hltz : ¬ (kk : Int) < (l.length : Int) := by omega
    go_wp2_with fail
    go_ret
    exact ⟨X, d, o, by rw [hol]; rfl, by omega, HM.out, HO.out, HB.out⟩

end Go.Proofs.YthagibkmfgodgaaGreatDoor.X

namespace Go.Proofs.YthagibkmfgodgaaGreatDoor.X
open Go.RowKit Go.Maps Go.Proofs.YthagibkmfgodgaaGreatDoorW.PrintWords Go.Proofs.YthagibkmfgodgaaGreatDoorW.PrintMore Go.Proofs.YthagibkmfgodgaaGreatDoorW.PrintLast
set_option linter.unusedSimpArgs false
theorem quoteC_le (c : UInt8) : (quoteC c).length ≤ 4 := by
 unfold quoteC
 split
 · simp
 · split
   · simp
   · split
     · simp
     · split <;> simp
theorem quoteL_le : ∀ l : Bytes, (quoteL l).length ≤ 4 * l.length
 | [] => by simp [quoteL]
 | c :: r => by
  have h1 := quoteC_le c
  have h2 := quoteL_le r
  rw [quoteL, List.length_append, List.length_cons]
  omega
theorem quoteF_le (s : ByteArray) : (mk (quoteF s.data.toList)).size ≤ 4 * s.size + 2 := by
 have := quoteL_le s.data.toList
 rw [mk_size, quoteF, List.length_cons, List.length_append, List.length_singleton, Lib.size_eq]
 omega
theorem refNumber_calls (n : Int) (h : n ≤ 9223372036854775807) (w : World) : Calls Tryz.prog 88 #[.int .i64 n] w (TextOf 20 w) := refNumber_k 19 (by omega) n w (by omega) h

structure SmallStep (x : SStep) : Prop where
 out : x.f0.size ≤ 140737488355328
 num : x.f4 ≤ 9223372036854775807
 args : x.f2.length ≤ 8
 lits : x.f3.length ≤ 3
 argz : ∀ s ∈ x.f2, s.size ≤ 140737488355328
 litz : ∀ s ∈ x.f3, s.size ≤ 140737488355328
set_option maxHeartbeats 4000000 in
set_option maxRecDepth 100000 in
theorem refStep_calls (x : SStep) (hx : SmallStep x) (B2 : Option Addr) (c2 : Nat) (B3 : Option Addr) (c3 : Nat) (w : World) (h2 : Kd.C Kd.string w B2 x.f2.length x.f2) (h3 : Kd.C Kd.string w B3 x.f3.length x.f3) :
 Calls Tryz.prog 57 #[.agg #[.string x.f0, .int .i64 x.f1, .slice B2 x.f2.length c2, .slice B3 x.f3.length c3, .int .i64 x.f4]] w (TextOf 3000000000000000 w) := by
 have HX := Lib.hid hx
 have ho := hx.out
 have hn := hx.num
 have ha := hx.args
 have hli := hx.lits
 clear hx
 obtain ⟨f0, f1, f2, f3, f4⟩ := x
 dsimp only at *
 have hb1 := (Below.refl w.heap.size w).alloc (Nat.le_refl _) (.cells #[.string f0, .int .i64 f1, .slice B2 f2.length c2, .slice B3 f3.length c3, .int .i64 f4] 62)
 have hk := blk_new w (.cells #[.string f0, .int .i64 f1, .slice B2 f2.length c2, .slice B3 f3.length c3, .int .i64 f4] 62)
 have H2 := Lib.hid (Kd.C_below h2 hb1)
 have H3 := Lib.hid (Kd.C_below h3 hb1)
 have HB1 := Lib.hid hb1
 have HK := Lib.hid hk
 clear hb1 hk h2 h3
 go_enter Tryz.func57, Tryz.ntmps57
 go_wp2_with fail
 generalize w.alloc (.cells #[.string f0, .int .i64 f1, .slice B2 f2.length c2, .slice B3 f3.length c3, .int .i64 f4] 62) = w1 at H2 H3 HB1 HK ⊢
 have Sof : ∀ W, Below w1.heap.size w1 W → W.cell? ⟨w.heap.size, 0, none⟩ = some (.string f0) ∧ W.cell? ⟨w.heap.size, 1, none⟩ = some (.int .i64 f1) := fun W hW => ⟨(blk_cell (blk_below HK.out hW) 0).trans rfl, (blk_cell (blk_below HK.out hW) 1).trans rfl⟩
 have HS := Lib.hid Sof
 have HBc : Hid (Below w1.heap.size w1 w1.drew) := Lib.hid (below_drew (Below.refl _ _))
 have ho1 : ¬ 9223372036854775807 < f0.size + 3 := by omega
 clear Sof
 go_region_held3 (fun W => W.cell? ⟨w.heap.size, 0, none⟩ = some (.string f0) ∧ W.cell? ⟨w.heap.size, 1, none⟩ = some (.int .i64 f1))
  (exact HS.out _ HBc.out)
  (first | (go_at_call 87; refine (refOpName_calls _ _).mono ?_; rintro e w3 ⟨s, rfl, hs, hb⟩; have HBc := Lib.hid (below_then HBc.out HBc.out.size hb); have ho2 : ¬ 9223372036854775807 < f0.size + 3 + s.size := (by omega); have HSs := Lib.hid hs; clear hb hs))
 have ht : (f0 ++ (⟨#[32, 61, 32]⟩ : ByteArray) ++ s).size ≤ 140737488355400 := by
  simp only [ByteArray.size_append]
  have h1 := HSs.out
  have e : (⟨#[32, 61, 32]⟩ : ByteArray).size = 3 := rfl
  omega
 generalize f0 ++ (⟨#[32, 61, 32]⟩ : ByteArray) ++ s = t0 at ht ⊢
 have HT0 := Lib.hid ht
 have hk3 := blk_below HK.out HBc.out
 have k1 : w3.cell? ⟨w.heap.size, 1, none⟩ = some (.int .i64 f1) := (blk_cell hk3 1).trans rfl
 have k4 : w3.cell? ⟨w.heap.size, 4, none⟩ = some (.int .i64 f4) := (blk_cell hk3 4).trans rfl
 clear ht hk3 ho1 ho2
 go_upto_if 15 with fail
 go_cut [3] (fun s3 wx => ∃ t : ByteArray, s3 = .string t ∧ t.size ≤ 140737488355500 ∧ Aside0 (Below w1.heap.size w1 wx))
 case first =>
  by_cases h9 : f1 = 9
  · have d9 : (f1 == 9) = true := by simp [h9]
    have HN9 := Lib.hid hn
    clear h9
    go_wp2_with (first | (go_at_call 88; refine (refNumber_calls f4 HN9.out _).mono ?_; rintro e w4 ⟨s1, rfl, hs1, hb1⟩; have ho1 : ¬ 9223372036854775807 < 1 + s1.size := (by omega); have ho2 : ¬ 9223372036854775807 < t0.size + (1 + s1.size) := (by have := HT0.out; omega); have HS1 := Lib.hid hs1; have HB4 := Lib.hid (below_then HBc.out HBc.out.size hb1); clear hs1 hb1))
    go_meet
    refine ⟨_, rfl, ?_, ⟨HB4.out⟩⟩
    simp only [ByteArray.size_append]
    have h1 := HS1.out
    have h2 := HT0.out
    have e : (⟨#[32]⟩ : ByteArray).size = 1 := rfl
    omega
  · have d9 : (f1 == 9) = false := by simp [h9]
    clear h9
    go_wp2_with fail
    go_meet
    exact ⟨_, rfl, by have := HT0.out; omega, ⟨HBc.out⟩⟩
 case rest =>
  obtain ⟨t1, rfl, ht1, HB5⟩ := hcut
  have HT1 := Lib.hid ht1
  clear ht1 k1 k4
  go_wp2_with fail
  go_loopg [3, 4] f3.length (fun gg s3 s4 wr => ∃ (kk : Nat) (t : ByteArray), kk ≤ f3.length ∧ f3.length - kk ≤ gg ∧ s4 = .int .i64 kk ∧ s3 = .string t ∧ t.size ≤ 140737488355500 + kk * 562949953430000 ∧ Aside0 (Below w1.heap.size w1 wr))
  case atStart => exact ⟨0, t1, Nat.zero_le _, by omega, rfl, rfl, by have := HT1.out; omega, ⟨HB5.out⟩⟩
  case round =>
   obtain ⟨kk, t, hkk, hgk, rfl, rfl, ht, HB⟩ := hrel
   have hkr := blk_below HK.out HB.out
   have k3 : wr.cell? ⟨w.heap.size, 3, none⟩ = some (.slice B3 f3.length c3) := (blk_cell hkr 3).trans rfl
   clear hkr
   by_cases hlt : kk < f3.length
   · have hltz : (kk : Int) < (f3.length : Int) := by omega
     rcases row_open (Kd.C_below H3.out HB.out) with h0 | ⟨b, o, rfl, _, hcell⟩
     · exfalso; rw [h0] at hlt; simp at hlt
     have p1 := hcell kk hlt
     have hx : (f3.getD kk ByteArray.empty).size ≤ 140737488355328 := by
      rw [List.getD_eq_getElem?_getD, List.getElem?_eq_getElem hlt]
      exact HX.out.litz _ (List.getElem_mem hlt)
     generalize f3.getD kk ByteArray.empty = x at p1 hx
     have hq := refQuote_all x hx wr
     have hql := quoteF_le x
     generalize mk (quoteF x.data.toList) = q at hq hql
     have ho1 : ¬ 9223372036854775807 < 1 + q.size := by omega
     have ho2 : ¬ 9223372036854775807 < t.size + (1 + q.size) := by omega
     have HQL : Hid (q.size ≤ 562949953421314) := by show _ ≤ _; omega
     have HTk := Lib.hid ht
     clear hcell hql ht
     go_wp2_with (first | (go_at_call 22; refine hq.mono ?_; rintro e w4 ⟨rfl, hb1⟩; have HB4 := Lib.hid (below_then HB.out HB.out.size hb1); clear hb1))
     go_roundg (f3.length - (kk + 1))
     case measure => omega
     case rel =>
      refine ⟨kk + 1, _, by omega, by omega, by first | rfl | go_num, rfl, ?_, ⟨HB4.out⟩⟩
      simp only [ByteArray.size_append]
      have h1 := HQL.out
      have h2 := HTk.out
      have e : (⟨#[32]⟩ : ByteArray).size = 1 := rfl
      omega
   · have hltz : ¬ (kk : Int) < (f3.length : Int) := by omega
     have HTk : Hid (t.size ≤ 1829587348645500) := by show _ ≤ _; omega
     have HB6 := Lib.hid HB.out
     clear ht
     go_wp2_with fail
     go_loopg [3, 5] f2.length (fun gj s3 s5 wi => ∃ (jj : Nat) (t : ByteArray), jj ≤ f2.length ∧ f2.length - jj ≤ gj ∧ s5 = .int .i64 jj ∧ s3 = .string t ∧ t.size ≤ 1829587348645500 + jj * 140737488356000 ∧ wi = wr)
     case atStart => exact ⟨0, t, Nat.zero_le _, by omega, rfl, rfl, by have := HTk.out; omega, rfl⟩
     case round =>
      obtain ⟨jj, t2, hjj, hgj, rfl, rfl, ht2, rfl⟩ := hrel
      have hkr := blk_below HK.out HB6.out
      have k2 : wr.cell? ⟨w.heap.size, 2, none⟩ = some (.slice B2 f2.length c2) := (blk_cell hkr 2).trans rfl
      clear hkr
      by_cases hlj : jj < f2.length
      · have hljz : (jj : Int) < (f2.length : Int) := by omega
        rcases row_open (Kd.C_below H2.out HB6.out) with h0 | ⟨b, o, rfl, _, hcell⟩
        · exfalso; rw [h0] at hlj; simp at hlj
        have p1 := hcell jj hlj
        have hx : (f2.getD jj ByteArray.empty).size ≤ 140737488355328 := by
         rw [List.getD_eq_getElem?_getD, List.getElem?_eq_getElem hlj]
         exact HX.out.argz _ (List.getElem_mem hlj)
        generalize f2.getD jj ByteArray.empty = x at p1 hx
        have ho1 : ¬ 9223372036854775807 < 1 + x.size := by omega
        have ho2 : ¬ 9223372036854775807 < t2.size + (1 + x.size) := by omega
        have HTj := Lib.hid ht2
        have HXj := Lib.hid hx
        clear hcell ht2 hx
        go_wp2_with fail
        go_roundg (f2.length - (jj + 1))
        case measure => omega
        case rel =>
         refine ⟨jj + 1, _, by omega, by omega, by first | rfl | go_num, rfl, ?_, rfl⟩
         simp only [ByteArray.size_append]
         have h1 := HXj.out
         have h2 := HTj.out
         have e : (⟨#[32]⟩ : ByteArray).size = 1 := rfl
         omega
      · have hljz : ¬ (jj : Int) < (f2.length : Int) := by omega
        have ho1 : ¬ 9223372036854775807 < t2.size + 1 := by omega
        have HTj : Hid (t2.size ≤ 2999999999999990) := by show _ ≤ _; omega
        clear ht2
        go_wp2_with fail
        go_ret
        refine ⟨_, rfl, ?_, below_then HB1.out HB1.out.size HB6.out⟩
        simp only [ByteArray.size_append]
        have h2 := HTj.out
        have e : (⟨#[59]⟩ : ByteArray).size = 1 := rfl
        omega

end Go.Proofs.YthagibkmfgodgaaGreatDoor.X

namespace Go.Proofs.YthagibkmfgodgaaGreatDoor.X
open Go.RowKit Go.Maps Go.Proofs.YthagibkmfgodgaaGreatDoorW.PrintWords Go.Proofs.YthagibkmfgodgaaGreatDoorW.PrintMore Go.Proofs.YthagibkmfgodgaaGreatDoorW.PrintLast
set_option linter.unusedSimpArgs false
structure SmallRule (r : SRule) : Prop where
 name : r.f0.size ≤ 140737488355328
 ins : r.f1.length ≤ 10
 outs : r.f2.length ≤ 10
 after : r.f3.length ≤ 10
 len : r.f4.length ≤ 14
 insz : ∀ s ∈ r.f1, s.size ≤ 140737488355328
 outsz : ∀ s ∈ r.f2, s.size ≤ 140737488355328
 afterz : ∀ s ∈ r.f3, s.size ≤ 140737488355328
 steps : ∀ s ∈ r.f4, SmallStep s
theorem F_one {W : World} {g : Nat} {r : SRule} {ok okp : Nat → Prop} {cs : List Value} (hk : Kd.FK k49 W okp r cs) (hb : W.heap[g]? = some (.cells cs.toArray 49 (0, 0))) (hok : ∀ k, okp k → ok k) (hg : ok g) : Kd.F k49 W ok (some ⟨g, 0, none⟩) 1 [r] := fun W' hW' => by
 have hlt : g < W.heap.size := (Array.getElem?_eq_some_iff.1 hb).1
 have hb' := (hW' g hg hlt).trans hb
 have hK := hk W' (fun k hk hl => hW' k (hok k hk) hl)
 refine ⟨rfl, by decide, fun _ => ⟨_, rfl, fun j p hj => ⟨cs, ?_, ?_, fun i u hu => ?_⟩⟩⟩
 · exact Kd.K_len _ hK
 · obtain rfl : j = 0 := by have := (List.getElem?_eq_some_iff.1 hj).1; simpa using this
   simp only [List.getElem?_cons_zero, Option.some.injEq] at hj
   rw [← hj]
   exact hK
 · obtain rfl : j = 0 := by have := (List.getElem?_eq_some_iff.1 hj).1; simpa using this
   have e : (⟨g, 0, none⟩ : Addr).add (0 * k49.sz + i) = ⟨g, i, none⟩ := by rw [Nat.zero_mul, Nat.zero_add]; exact add_plain g i
   rw [e]
   exact (blk_cell hb' i).trans (by simpa using hu)
abbrev RN (w : World) (base : Nat) (ok : Nat → Prop) (v : Value) (l : List SRule) : Prop := Kd.N k49 49 w base ok v l
section
variable {P : Program} {ops : Array Oper} {o : Oper} {a : Act} {Kc : Act → World → Prop} {Q : Exit → Act → World → Prop} {W : World}
theorem appN_step (hw : Region.wanted o (yielded ops a.tmps) = true) (s x : Operand)
 (ho : o.op = .call { callee := .builtin .append, args := #[s, x], argTypes := #[35, 35] })
 (ht : P.underlying 35 = some (.slice 49)) (hinfo : (P.info? 49).map (fun i => (i.zero, i.size, i.bytes)) = some (some (.agg #[.string ⟨#[]⟩, .slice none 0 0, .slice none 0 0, .slice none 0 0, .slice none 0 0]), 5, 112))
 {base : Nat} {ok : Nat → Prop} (okp : Nat → Prop) {v : Value} {xs : List SRule} (hs : a.eval s = v) (HO : RN W base ok v xs) (hbase : base ≤ W.heap.size)
 (l : List SRule) (A : Option Addr) (c : Nat) (hx : a.eval x = .slice A l.length c) (HR : Kd.F k49 W okp A l.length l) (hokp : ∀ k, okp k → ok k ∧ some k ≠ v.ownBlock) (hfresh : ∀ k, W.heap.size ≤ k → ok k) (hl : (xs.length + l.length) * 112 ≤ 140737488355328)
 (h : ∀ X d w1, RN w1 base ok (.slice X (xs ++ l).length d) (xs ++ l) → Below base W w1 → Kc (a.put o.dst (.slice X (xs ++ l).length d)) w1) :
 if Region.wanted o (yielded ops a.tmps) = true then Oper.wp P o a W Kc Q else Kc (a.put o.dst undef) W := by
 refine Kd.N_append_rows_step k49 (w0 := W) base hw s x 35 49 (.agg #[.string ⟨#[]⟩, .slice none 0 0, .slice none 0 0, .slice none 0 0, .slice none 0 0]) 112 ho ht hinfo rfl (by decide) (by decide) v xs l A l.length c ok okp hs hx HO HR hokp hfresh (Below.refl _ _) hbase hl ?_
 intro v1 w1 ho1 hb1 _ _
 obtain ⟨X, d, rfl⟩ := Kd.N_slice ho1
 exact h X d w1 ho1 hb1
end

set_option maxHeartbeats 8000000 in
set_option maxRecDepth 100000 in
theorem refSorted_calls (A : Option Addr) (c : Nat) (l : List SRule) (w : World) (hC : Kd.C k49 w A l.length l) (hl : l.length ≤ 1000) (hSm : ∀ r ∈ l, SmallRule r) :
 Calls Tryz.prog 30 #[.slice A l.length c] w fun e w' => ∃ (X : Option Addr) (d : Nat) (l' : List SRule), e = .returned (.slice X l'.length d) ∧ l'.length = l.length ∧ (∀ r ∈ l', SmallRule r) ∧ RN w' w.heap.size (fun k => w.heap.size ≤ k) (.slice X l'.length d) l' ∧ Below w.heap.size w w' := by
 have HC := Lib.hid hC
 have HSm := Lib.hid hSm
 clear hC hSm
 go_enter Tryz.func30, Tryz.ntmps30
 go_wp2_with fail
 go_loopg [3, 4, 5, 6] l.length (fun gg s3 s4 _ _ wr => ∃ (kk : Nat) (X : Option Addr) (d : Nat) (o : List SRule), kk ≤ l.length ∧ l.length - kk ≤ gg ∧ s4 = .int .i64 kk ∧ s3 = .slice X o.length d ∧ Aside0 (o.length = kk) ∧ Aside0 (∀ r ∈ o, SmallRule r) ∧ Aside0 (RN wr w.heap.size (fun k => w.heap.size ≤ k) (.slice X o.length d) o) ∧ Aside0 (Below w.heap.size w wr))
 case atStart => exact ⟨0, none, 0, [], Nat.zero_le _, by omega, rfl, rfl, ⟨rfl⟩, ⟨fun _ h => by cases h⟩, ⟨Kd.N_nil _ _ _ _ _⟩, ⟨Below.refl _ _⟩⟩
 case round =>
  obtain ⟨kk, X, d, o, hkk, hgk, rfl, rfl, HOL, HM, HO, HB⟩ := hrel
  by_cases hlt : kk < l.length
  · have hltz : (kk : Int) < (l.length : Int) := by omega
    obtain ⟨ad, B1, c1, B2, c2, B3, c3, B4, c4, rfl, p0, p1, p2, p3, p4, q1, g1, q2, g2, q3, g3, q4, g4⟩ := at_T49 (Kd.C_below HC.out HB.out) (kk : Int) (by omega) hltz
    have hxi : rd_T49 l (kk : Int) = l[kk] := by unfold rd_T49; simp [List.getD_eq_getElem?_getD, List.getElem?_eq_getElem hlt]
    rw [hxi] at p0 p1 p2 p3 p4 q1 g1 q2 g2 q3 g3 q4 g4
    rw [Int.toNat_natCast] at p0 p1 p2 p3 p4
    have HX := Lib.hid (HSm.out l[kk] (List.getElem_mem hlt))
    generalize l[kk] = x at p0 p1 p2 p3 p4 q1 g1 q2 g2 q3 g3 q4 g4 HX
    have hCp := copy_calls x B1 c1 B2 c2 B3 c3 B4 c4 wr g1 g2 g3 g4 (fun s hs => by have h1 := (HX.out.steps s hs).args; have h2 := (HX.out.steps s hs).lits; omega) (by have := HX.out.ins; omega) (by have := HX.out.outs; omega) (by have := HX.out.after; omega) (by have := HX.out.len; omega)
    obtain ⟨f0, l1, l2, l3, l4⟩ := x
    dsimp only at *
    have HLn1 : Hid (l1.length ≤ 1000) := by show _ ≤ _; have := HX.out.ins; simp only at this; omega
    have HLn2 : Hid (l2.length ≤ 1000) := by show _ ≤ _; have := HX.out.outs; simp only at this; omega
    have HLn3 : Hid (l3.length ≤ 1000) := by show _ ≤ _; have := HX.out.after; simp only at this; omega
    clear hxi q1 g1 q2 g2 q3 g3 q4 g4
    go_upto_region 6 with (first | (go_at_call 31; refine hCp.mono ?_; rintro e w5 ⟨Y1, d1, Y2, d2, Y3, d3, Y4, d4, rfl, ho1, ho2, ho3, ho4, hb5⟩; have HB5 := Lib.hid (below_then HB.out HB.out.size hb5); have HRO := Lib.hid (Kd.N_below HO.out hb5); have HW5 := Lib.hid hb5.size; have HR1 := Lib.hid (Kd.R_lower ho1 HB.out.size); have HR2 := Lib.hid (Kd.R_lower ho2 HB.out.size); have HR3 := Lib.hid (Kd.R_lower ho3 HB.out.size); have HR4 := Lib.hid (Kd.R_lower ho4 HB.out.size); clear ho1 ho2 ho3 ho4 hb5))
    have hG := blk_new w5 (.cells #[.string f0, .slice Y1 l1.length d1, .slice Y2 l2.length d2, .slice Y3 l3.length d3, .slice Y4 l4.length d4] 49)
    have hab := (Below.refl w5.heap.size w5).alloc (Nat.le_refl _) (.cells #[.string f0, .slice Y1 l1.length d1, .slice Y2 l2.length d2, .slice Y3 l3.length d3, .slice Y4 l4.length d4] 49)
    have HR1 := Lib.hid (Kd.R_below HR1.out hab)
    have HR2 := Lib.hid (Kd.R_below HR2.out hab)
    have HR3 := Lib.hid (Kd.R_below HR3.out hab)
    have HR4 := Lib.hid (Kd.R_below HR4.out hab)
    have HRO := Lib.hid (Kd.N_below (Kd.N_bound HRO.out) hab)
    have HB6 := Lib.hid (below_then HB5.out HB5.out.size hab)
    have HG5 := Lib.hid HB5.out.size
    clear hCp p0 p1 p2 p3 p4 HB5 HW5
    generalize w5.alloc (.cells #[.string f0, .slice Y1 l1.length d1, .slice Y2 l2.length d2, .slice Y3 l3.length d3, .slice Y4 l4.length d4] 49) = w6 at hG hab HR1 HR2 HR3 HR4 HRO HB6 ⊢
    generalize w5.heap.size = G at hG hab HG5 HRO ⊢
    have HG6 := Lib.hid hG
    have HC1 := Lib.hid (Kd.R_reads' HR1.out).2.2
    have HC2 := Lib.hid (Kd.R_reads' HR2.out).2.2
    have HC3 := Lib.hid (Kd.R_reads' HR3.out).2.2
    have hSof : ∀ W, Below w6.heap.size w6 W → W.cell? ⟨G, 1, none⟩ = some (.slice Y1 l1.length d1) ∧ W.cell? ⟨G, 2, none⟩ = some (.slice Y2 l2.length d2) ∧ W.cell? ⟨G, 3, none⟩ = some (.slice Y3 l3.length d3) := fun W hW => ⟨(blk_cell (blk_below HG6.out hW) 1).trans rfl, (blk_cell (blk_below HG6.out hW) 2).trans rfl, (blk_cell (blk_below HG6.out hW) 3).trans rfl⟩
    have HS := Lib.hid hSof
    have HBk : Hid (Below w6.heap.size w6 w6.drew) := Lib.hid (below_drew (Below.refl _ _))
    clear hG hab hSof
    refine start_ (n := 15) (S := fun W => W.cell? ⟨G, 1, none⟩ = some (.slice Y1 l1.length d1) ∧ W.cell? ⟨G, 2, none⟩ = some (.slice Y2 l2.length d2) ∧ W.cell? ⟨G, 3, none⟩ = some (.slice Y3 l3.length d3)) (ds := [10, 12, 14]) #[false, false, false, false, false, false, false, false, false, false, false, false, false, false, false] (by kernel_rfl) rfl rfl (HS.out _ HBk.out) (fun hHeld => ?_)
    refine pure_ (i := 0) (N := some 18) (v := ?_) (a' := ?_) #[true, false, false, false, false, false, false, false, false, false, false, false, false, false, false] rfl rfl (by kernel_rfl) (fun _ _ _ h => h) (Or.inl ⟨by rfl, ?_⟩) ?_ ?_
    rotate_left
    · intro w'
      go_simp
      with_reducible rfl
    rotate_left
    · simp only [Act.put, List.getElem_toArray, List.getElem_cons_zero, List.getElem_cons_succ, List.setIfInBounds_toArray, List.set_cons_zero, List.set_cons_succ, i64_w, i32_w]
      rfl
    refine pure_ (i := 3) (N := some 21) (v := ?_) (a' := ?_) #[true, false, false, true, false, false, false, false, false, false, false, false, false, false, false] rfl rfl (by kernel_rfl) (fun _ _ _ h => h) (Or.inl ⟨by rfl, ?_⟩) ?_ ?_
    rotate_left
    · intro w'
      go_simp
      with_reducible rfl
    rotate_left
    · simp only [Act.put, List.getElem_toArray, List.getElem_cons_zero, List.getElem_cons_succ, List.setIfInBounds_toArray, List.set_cons_zero, List.set_cons_succ, i64_w, i32_w]
      rfl
    refine pure_ (i := 6) (N := some 24) (v := ?_) (a' := ?_) #[true, false, false, true, false, false, true, false, false, false, false, false, false, false, false] rfl rfl (by kernel_rfl) (fun _ _ _ h => h) (Or.inl ⟨by rfl, ?_⟩) ?_ ?_
    rotate_left
    · intro w'
      go_simp
      with_reducible rfl
    rotate_left
    · simp only [Act.put, List.getElem_toArray, List.getElem_cons_zero, List.getElem_cons_succ, List.setIfInBounds_toArray, List.set_cons_zero, List.set_cons_succ, i64_w, i32_w]
      rfl
    refine take_ (i := 1) (N := some 19) (v := ?_) (a' := ?_) #[true, true, false, true, false, false, true, false, false, false, false, false, false, false, false] rfl rfl (by kernel_rfl) (fun _ _ _ h => h) (Or.inl ⟨by rfl, ?_⟩) hHeld ?_ ?_
    rotate_left
    · rintro w' ⟨s0, s1, s2⟩
      go_simp
      with_reducible rfl
    rotate_left
    · simp only [Act.put, List.getElem_toArray, List.getElem_cons_zero, List.getElem_cons_succ, List.setIfInBounds_toArray, List.set_cons_zero, List.set_cons_succ, i64_w, i32_w]
      rfl
    refine take_ (i := 4) (N := some 22) (v := ?_) (a' := ?_) #[true, true, false, true, true, false, true, false, false, false, false, false, false, false, false] rfl rfl (by kernel_rfl) (fun _ _ _ h => h) (Or.inl ⟨by rfl, ?_⟩) hHeld ?_ ?_
    rotate_left
    · rintro w' ⟨s0, s1, s2⟩
      go_simp
      with_reducible rfl
    rotate_left
    · simp only [Act.put, List.getElem_toArray, List.getElem_cons_zero, List.getElem_cons_succ, List.setIfInBounds_toArray, List.set_cons_zero, List.set_cons_succ, i64_w, i32_w]
      rfl
    refine take_ (i := 7) (N := some 25) (v := ?_) (a' := ?_) #[true, true, false, true, true, false, true, true, false, false, false, false, false, false, false] rfl rfl (by kernel_rfl) (fun _ _ _ h => h) (Or.inl ⟨by rfl, ?_⟩) hHeld ?_ ?_
    rotate_left
    · rintro w' ⟨s0, s1, s2⟩
      go_simp
      with_reducible rfl
    rotate_left
    · simp only [Act.put, List.getElem_toArray, List.getElem_cons_zero, List.getElem_cons_succ, List.setIfInBounds_toArray, List.set_cons_zero, List.set_cons_succ, i64_w, i32_w]
      rfl
    refine one_ (i := 2) (N := some 20) #[true, true, true, true, true, false, true, true, false, false, false, false, false, false, false] rfl rfl (by kernel_rfl) (by decide) (fun K hK => ?_)
    refine goes_ Tryz.func55 (by kernel_rfl) rfl #[.slice Y1 l1.length d1] (by rfl) rfl rfl (by simp only [List.map_toArray, List.map_cons, List.map_nil]; rfl) ?_
    with_reducible refine (refRising_calls Y1 d1 l1 _ (Kd.C_below HC1.out HBk.out) HLn1.out).mono ?_
    rintro e wa ⟨Z1, e1, z1, rfl, hl1, hm1, ho1, hb1⟩
    refine ⟨_, rfl, ?_⟩
    have HZ1 := Lib.hid (Kd.R_lower ho1 HBk.out.size)
    have HBk := Lib.hid (below_then HBk.out HBk.out.size hb1)
    have HLz1 := Lib.hid hl1
    have HMz1 := Lib.hid hm1
    clear ho1 hb1 hl1 hm1
    refine hK.out _ _ (HS.out _ HBk.out) (fun hHeld => ?_)
    clear hK K
    refine norm_ (a' := ?_) ?_ ?_
    rotate_left
    · show Act.put _ (some 20) _ = _
      simp only [Act.put, List.getElem_toArray, List.getElem_cons_zero, List.getElem_cons_succ, List.setIfInBounds_toArray, List.set_cons_zero, List.set_cons_succ, i64_w, i32_w]
      rfl
    refine pure_ (i := 9) (N := some 27) (v := ?_) (a' := ?_) #[true, true, true, true, true, false, true, true, false, true, false, false, false, false, false] rfl rfl (by kernel_rfl) (fun _ _ _ h => h) (Or.inl ⟨by rfl, ?_⟩) ?_ ?_
    rotate_left
    · intro w'
      go_simp
      with_reducible rfl
    rotate_left
    · simp only [Act.put, List.getElem_toArray, List.getElem_cons_zero, List.getElem_cons_succ, List.setIfInBounds_toArray, List.set_cons_zero, List.set_cons_succ, i64_w, i32_w]
      rfl
    refine one_ (i := 5) (N := some 23) #[true, true, true, true, true, true, true, true, false, true, false, false, false, false, false] rfl rfl (by kernel_rfl) (by decide) (fun K hK => ?_)
    refine goes_ Tryz.func55 (by kernel_rfl) rfl #[.slice Y2 l2.length d2] (by rfl) rfl rfl (by simp only [List.map_toArray, List.map_cons, List.map_nil]; rfl) ?_
    with_reducible refine (refRising_calls Y2 d2 l2 _ (Kd.C_below HC2.out HBk.out) HLn2.out).mono ?_
    rintro e wa ⟨Z2, e2, z2, rfl, hl2, hm2, ho2, hb2⟩
    refine ⟨_, rfl, ?_⟩
    have HZ1 := Lib.hid (Kd.R_below HZ1.out hb2)
    have HZ2 := Lib.hid (Kd.R_lower ho2 HBk.out.size)
    have HBk := Lib.hid (below_then HBk.out HBk.out.size hb2)
    have HLz2 := Lib.hid hl2
    have HMz2 := Lib.hid hm2
    clear ho2 hb2 hl2 hm2
    refine hK.out _ _ (HS.out _ HBk.out) (fun hHeld => ?_)
    clear hK K
    refine norm_ (a' := ?_) ?_ ?_
    rotate_left
    · show Act.put _ (some 23) _ = _
      simp only [Act.put, List.getElem_toArray, List.getElem_cons_zero, List.getElem_cons_succ, List.setIfInBounds_toArray, List.set_cons_zero, List.set_cons_succ, i64_w, i32_w]
      rfl
    refine one_ (i := 8) (N := some 26) #[true, true, true, true, true, true, true, true, true, true, false, false, false, false, false] rfl rfl (by kernel_rfl) (by decide) (fun K hK => ?_)
    refine goes_ Tryz.func55 (by kernel_rfl) rfl #[.slice Y3 l3.length d3] (by rfl) rfl rfl (by simp only [List.map_toArray, List.map_cons, List.map_nil]; rfl) ?_
    with_reducible refine (refRising_calls Y3 d3 l3 _ (Kd.C_below HC3.out HBk.out) HLn3.out).mono ?_
    rintro e wa ⟨Z3, e3, z3, rfl, hl3, hm3, ho3, hb3⟩
    refine ⟨_, rfl, ?_⟩
    have HZ1 := Lib.hid (Kd.R_below HZ1.out hb3)
    have HZ2 := Lib.hid (Kd.R_below HZ2.out hb3)
    have HZ3 := Lib.hid (Kd.R_lower ho3 HBk.out.size)
    have HBk := Lib.hid (below_then HBk.out HBk.out.size hb3)
    have HLz3 := Lib.hid hl3
    have HMz3 := Lib.hid hm3
    clear ho3 hb3 hl3 hm3
    refine hK.out _ _ (HS.out _ HBk.out) (fun hHeld => ?_)
    clear hK K
    refine norm_ (a' := ?_) ?_ ?_
    rotate_left
    · show Act.put _ (some 26) _ = _
      simp only [Act.put, List.getElem_toArray, List.getElem_cons_zero, List.getElem_cons_succ, List.setIfInBounds_toArray, List.set_cons_zero, List.set_cons_succ, i64_w, i32_w]
      rfl
    refine last_ (i := 10) (N := none) #[true, true, true, true, true, true, true, true, true, true, true, false, false, false, false] rfl rfl (by kernel_rfl) (by decide) (fun K hK => ?_)
    have hs1 := blk_below HG6.out HBk.out
    have hs2 := blk_set hs1 1 (.slice Z1 z1.length e1)
    have hs3 := blk_set hs2 2 (.slice Z2 z2.length e2)
    have cs1 : (wa).cell? ⟨G, 1, none⟩ = some (.slice Y1 l1.length d1) := (blk_cell hs1 1).trans rfl
    have fs1 := blk_frozen hs1 1
    refine skip_ (w1 := ?_) (by rfl) rfl ?_ ?_
    rotate_left
    · go_simp
      rfl
    refine hK.out _ _ ?_
    clear hK K
    refine pure_ (i := 11) (N := some 28) (v := ?_) (a' := ?_) #[true, true, true, true, true, true, true, true, true, true, true, true, false, false, false] rfl rfl (by kernel_rfl) (fun _ _ _ h => h) (Or.inl ⟨by rfl, ?_⟩) ?_ ?_
    rotate_left
    · intro w'
      go_simp
      with_reducible rfl
    rotate_left
    · simp only [Act.put, List.getElem_toArray, List.getElem_cons_zero, List.getElem_cons_succ, List.setIfInBounds_toArray, List.set_cons_zero, List.set_cons_succ, i64_w, i32_w]
      rfl
    refine last_ (i := 12) (N := none) #[true, true, true, true, true, true, true, true, true, true, true, true, true, false, false] rfl rfl (by kernel_rfl) (by decide) (fun K hK => ?_)
    have cs2 : (wa.setCell ⟨G, 1, none⟩ (.slice Z1 z1.length e1)).cell? ⟨G, 2, none⟩ = some (.slice Y2 l2.length d2) := (blk_cell hs2 2).trans rfl
    have fs2 := blk_frozen hs2 2
    refine skip_ (w1 := ?_) (by rfl) rfl ?_ ?_
    rotate_left
    · go_simp
      rfl
    refine hK.out _ _ ?_
    clear hK K
    refine pure_ (i := 13) (N := some 29) (v := ?_) (a' := ?_) #[true, true, true, true, true, true, true, true, true, true, true, true, true, true, false] rfl rfl (by kernel_rfl) (fun _ _ _ h => h) (Or.inl ⟨by rfl, ?_⟩) ?_ ?_
    rotate_left
    · intro w'
      go_simp
      with_reducible rfl
    rotate_left
    · simp only [Act.put, List.getElem_toArray, List.getElem_cons_zero, List.getElem_cons_succ, List.setIfInBounds_toArray, List.set_cons_zero, List.set_cons_succ, i64_w, i32_w]
      rfl
    refine last_ (i := 14) (N := none) #[true, true, true, true, true, true, true, true, true, true, true, true, true, true, true] rfl rfl (by kernel_rfl) (by decide) (fun K hK => ?_)
    have cs3 : ((wa.setCell ⟨G, 1, none⟩ (.slice Z1 z1.length e1)).setCell ⟨G, 2, none⟩ (.slice Z2 z2.length e2)).cell? ⟨G, 3, none⟩ = some (.slice Y3 l3.length d3) := (blk_cell hs3 3).trans rfl
    have fs3 := blk_frozen hs3 3
    refine skip_ (w1 := ?_) (by rfl) rfl ?_ ?_
    rotate_left
    · go_simp
      rfl
    refine hK.out _ _ ?_
    clear hK K
    refine done_ (by kernel_rfl) ?_
    have hs4 := blk_set hs3 3 (.slice Z3 z3.length e3)
    have hs4' : (((wa.setCell ⟨G, 1, none⟩ (.slice Z1 z1.length e1)).setCell ⟨G, 2, none⟩ (.slice Z2 z2.length e2)).setCell ⟨G, 3, none⟩ (.slice Z3 z3.length e3)).heap[G]? = some (.cells #[.string f0, .slice Z1 z1.length e1, .slice Z2 z2.length e2, .slice Z3 z3.length e3, .slice Y4 l4.length d4] 49 (0, 0)) := hs4
    have hz1 := Kd.R_set (Kd.R_set (Kd.R_set HZ1.out hs1 (by decide) 1 (.slice Z1 z1.length e1)) hs2 (by decide) 2 (.slice Z2 z2.length e2)) hs3 (by decide) 3 (.slice Z3 z3.length e3)
    have hz2 := Kd.R_set (Kd.R_set (Kd.R_set HZ2.out hs1 (by decide) 1 (.slice Z1 z1.length e1)) hs2 (by decide) 2 (.slice Z2 z2.length e2)) hs3 (by decide) 3 (.slice Z3 z3.length e3)
    have hz3 := Kd.R_set (Kd.R_set (Kd.R_set HZ3.out hs1 (by decide) 1 (.slice Z1 z1.length e1)) hs2 (by decide) 2 (.slice Z2 z2.length e2)) hs3 (by decide) 3 (.slice Z3 z3.length e3)
    have hr4 := Kd.R_set (Kd.R_set (Kd.R_set (Kd.R_below HR4.out HBk.out) hs1 (by decide) 1 (.slice Z1 z1.length e1)) hs2 (by decide) 2 (.slice Z2 z2.length e2)) hs3 (by decide) 3 (.slice Z3 z3.length e3)
    have hnG : ∀ k, (w.heap.size ≤ k ∧ k < G) → k ≠ G := fun k hk => Nat.ne_of_lt hk.2
    have hro := Kd.N_far (Kd.N_far (Kd.N_far (Kd.N_below HRO.out HBk.out) (p := ⟨G, 1, none⟩) hnG (.slice Z1 z1.length e1)) (p := ⟨G, 2, none⟩) hnG (.slice Z2 z2.length e2)) (p := ⟨G, 3, none⟩) hnG (.slice Z3 z3.length e3)
    have hb7 := (((below_then HB6.out HB6.out.size HBk.out).setCell (p := ⟨G, 1, none⟩) HG5.out (.slice Z1 z1.length e1)).setCell (p := ⟨G, 2, none⟩) HG5.out (.slice Z2 z2.length e2)).setCell (p := ⟨G, 3, none⟩) HG5.out (.slice Z3 z3.length e3)
    have hG6s : w.heap.size ≤ w6.heap.size := HB6.out.size
    have HG6s := Lib.hid hG6s
    clear hs1 hs2 hs3 hs4 cs1 cs2 cs3 fs1 fs2 fs3 hG6s HG6 HR1 HR2 HR3 HC1 HC2 HC3 HS HRO HB6 HR4 HZ1 HZ2 HZ3
    go_upto_block 2 with fail
    generalize ((wa.setCell ⟨G, 1, none⟩ (.slice Z1 z1.length e1)).setCell ⟨G, 2, none⟩ (.slice Z2 z2.length e2)).setCell ⟨G, 3, none⟩ (.slice Z3 z3.length e3) = w7 at hs4' hz1 hz2 hz3 hr4 hro hb7 ⊢
    have HG7 := Lib.hid hs4'
    have HZ1 := Lib.hid (Kd.R_lower hz1 HG6s.out)
    have HZ2 := Lib.hid (Kd.R_lower hz2 HG6s.out)
    have HZ3 := Lib.hid (Kd.R_lower hz3 HG6s.out)
    have HR4 := Lib.hid hr4
    have HRO := Lib.hid hro
    have HB7 := Lib.hid hb7
    have hol2 : o.length ≤ 1000 := by have := HOL.out; omega
    clear hs4' hz1 hz2 hz3 hr4 hro hb7 hnG
    go_cut [6] (fun s6 wi => ∃ jj : Nat, s6 = .int .i64 jj ∧ jj ≤ o.length ∧ Aside0 (Below w7.heap.size w7 wi))
    case first =>
     go_wp2_with fail
     go_loopg [6] o.length (fun gj s6 wi => ∃ jj : Nat, jj ≤ o.length ∧ o.length - jj ≤ gj ∧ s6 = .int .i64 jj ∧ Aside0 (Below w7.heap.size w7 wi))
     case atStart => exact ⟨0, Nat.zero_le _, by omega, rfl, ⟨Below.refl _ _⟩⟩
     case round =>
      obtain ⟨jj, hjj, hgj, rfl, HI⟩ := hrel
      have k0 : wr.cell? ⟨G, 0, none⟩ = some (.string f0) := (blk_cell (blk_below HG7.out HI.out) 0).trans rfl
      by_cases hlj : jj < o.length
      · have hljz : (jj : Int) < (o.length : Int) := by omega
        obtain ⟨ed, E1, v1, E2, v2, E3, v3, E4, v4, rfl, y0, _, _, _, _, _, _, _, _, _, _, _, _⟩ := at_T49 (Kd.N_reads' (Kd.N_below HRO.out HI.out)).2.2 (jj : Int) (by omega) hljz
        rw [Int.toNat_natCast] at y0
        generalize (rd_T49 o (jj : Int)).f0 = y at y0
        have hd1 : decide ((jj : Int) < (o.length : Int)) = true := by simp; omega
        have hd2 : decide (jj < o.length) = true := by simp; omega
        cases hle : (Op.bytesLess y.toList f0.toList || y.toList == f0.toList) with
        | true =>
         go_wp2_with fail
         go_quiet (fail)
         have HI2 := Lib.hid (pw_below_drewN HI.out nq)
         go_wp2_with fail
         go_roundg (o.length - (jj + 1))
         case measure => omega
         case rel => exact ⟨jj + 1, by omega, by omega, by first | rfl | go_num, ⟨HI2.out⟩⟩
        | false =>
         go_wp2_with fail
         go_quiet (fail)
         have HI2 := Lib.hid (pw_below_drewN HI.out nq)
         go_wp2_with fail
         go_meet
         exact ⟨jj, rfl, hjj, ⟨HI2.out⟩⟩
      · have hljz : ¬ (jj : Int) < (o.length : Int) := by omega
        have hd1 : decide ((jj : Int) < (o.length : Int)) = false := by simp; omega
        have hd2 : decide (jj < o.length) = false := by simp; omega
        go_wp2_with fail
        go_quiet (fail)
        have HI2 := Lib.hid (pw_below_drewN HI.out nq)
        go_wp2_with fail
        go_meet
        exact ⟨jj, rfl, hjj, ⟨HI2.out⟩⟩
    case rest =>
     obtain ⟨jj, rfl, hjj, HI⟩ := hcut
     have hro := Kd.N_below HRO.out HI.out
     have hcap := (Kd.N_reads' hro).2.1
     have hGw : G < wc.heap.size := Nat.lt_of_lt_of_le (blk_lt HG7.out) HI.out.size
     have hup : ∀ k, (w.heap.size ≤ k ∧ k < G) → w.heap.size ≤ k ∧ k < wc.heap.size := fun k hk => ⟨hk.1, Nat.lt_trans hk.2 hGw⟩
     obtain ⟨o1, ho1⟩ : ∃ q, q = o.take jj := ⟨_, rfl⟩
     obtain ⟨o3, ho3⟩ : ∃ q, q = o.drop jj := ⟨_, rfl⟩
     obtain ⟨X3, hX3⟩ : ∃ Z, (if d = jj then X else Option.map (fun x => x.add (jj * 5)) X) = Z := ⟨_, rfl⟩
     have HL1 : Hid (o1.length = jj) := by show _ = _; rw [ho1, List.length_take]; omega
     have HL3 : Hid (o3.length = o.length - jj) := by show _ = _; rw [ho3, List.length_drop]
     have HF1 : Hid (Kd.F k49 wc (fun k => w.heap.size ≤ k ∧ k < wc.heap.size) X o1.length o1) := by show Kd.F _ _ _ _ _ _; rw [ho1]; exact Kd.F_mono (Kd.F_take (Kd.N_F hro) hjj) hup
     have HF3 : Hid (Kd.F k49 wc (fun k => w.heap.size ≤ k ∧ k < wc.heap.size) X3 o3.length o3) := by show Kd.F _ _ _ _ _ _; rw [ho3, ← hX3]; exact Kd.F_mono (Kd.F_cut (Kd.N_F hro) hjj hcap) hup
     have hrow : ∀ {z : List ByteArray} {Z : Option Addr} {e : Nat}, RS w7 w.heap.size (.slice Z z.length e) z → z.length ≤ e ∧ Kd.F Kd.string wc (fun k => w.heap.size ≤ k ∧ k < wc.heap.size) Z z.length z := fun h => by
      have h2 := Kd.R_below h HI.out
      exact ⟨(Kd.R_reads' h2).2.1, Kd.R_F (Kd.R_mono (Kd.R_bound h2) (fun k hk => ⟨hk.2.1, hk.2.2.1⟩))⟩
     have hr4 := Kd.R_below HR4.out HI.out
     have HFK : Hid (Kd.FK k49 wc (fun k => w.heap.size ≤ k ∧ k < wc.heap.size) (⟨f0, z1, z2, z3, l4⟩ : SRule) [.string f0, .slice Z1 z1.length e1, .slice Z2 z2.length e2, .slice Z3 z3.length e3, .slice Y4 l4.length d4]) := k49_mkF wc _ (⟨f0, z1, z2, z3, l4⟩ : SRule) (hrow HZ1.out).1 (hrow HZ1.out).2 (hrow HZ2.out).1 (hrow HZ2.out).2 (hrow HZ3.out).1 (hrow HZ3.out).2 (Kd.R_reads' hr4).2.1 (Kd.R_F (Kd.R_mono (Kd.R_bound hr4) (fun k hk => ⟨hk.2.1, hk.2.2.1⟩)))
     have HMn : Hid (∀ r ∈ o1 ++ [(⟨f0, z1, z2, z3, l4⟩ : SRule)] ++ o3, SmallRule r) := by
      intro r hr
      rw [ho1, ho3] at hr
      rcases List.mem_append.1 hr with hr | hr
      · rcases List.mem_append.1 hr with hr | hr
        · exact HM.out r (List.mem_of_mem_take hr)
        · rw [List.mem_singleton] at hr
          rw [hr]
          have h := HX.out
          exact ⟨h.name, by have := h.ins; have := HLz1.out; show z1.length ≤ 10; simp only at *; omega, by have := h.outs; have := HLz2.out; show z2.length ≤ 10; simp only at *; omega, by have := h.after; have := HLz3.out; show z3.length ≤ 10; simp only at *; omega, h.len, fun s hs => h.insz s (HMz1.out s hs), fun s hs => h.outsz s (HMz2.out s hs), fun s hs => h.afterz s (HMz3.out s hs), h.steps⟩
      · exact HM.out r (List.mem_of_mem_drop hr)
     have hSof : ∀ W, Below wc.heap.size wc W → W.cell? ⟨G, 0, none⟩ = some (.string f0) ∧ W.cell? ⟨G, 1, none⟩ = some (.slice Z1 z1.length e1) ∧ W.cell? ⟨G, 2, none⟩ = some (.slice Z2 z2.length e2) ∧ W.cell? ⟨G, 3, none⟩ = some (.slice Z3 z3.length e3) ∧ W.cell? ⟨G, 4, none⟩ = some (.slice Y4 l4.length d4) := fun W hW => by
      have h := blk_below (blk_below HG7.out HI.out) hW
      exact ⟨(blk_cell h 0).trans rfl, (blk_cell h 1).trans rfl, (blk_cell h 2).trans rfl, (blk_cell h 3).trans rfl, (blk_cell h 4).trans rfl⟩
     have HS := Lib.hid hSof
     have HBW := Lib.hid (below_then HB7.out HB7.out.size HI.out)
     have hb1 : (jj : Int) ≤ (o.length : Int) := by omega
     have hb2 : (o.length : Int) ≤ (d : Int) := by omega
     have hb3 : (jj : Int) ≤ (d : Int) := by omega
     have hb0 : (0 : Int) ≤ (jj : Int) := by omega
     have HBk : Hid (Below wc.heap.size wc wc.drew) := Lib.hid (below_drew (Below.refl _ _))
     clear hro hup ho1 ho3 hrow hr4 hSof hGw
     go_wp2_with fail
     go_region_held3 (fun W => W.cell? ⟨G, 0, none⟩ = some (.string f0) ∧ W.cell? ⟨G, 1, none⟩ = some (.slice Z1 z1.length e1) ∧ W.cell? ⟨G, 2, none⟩ = some (.slice Z2 z2.length e2) ∧ W.cell? ⟨G, 3, none⟩ = some (.slice Z3 z3.length e3) ∧ W.cell? ⟨G, 4, none⟩ = some (.slice Y4 l4.length d4)) (exact HS.out _ (by first | exact HBk.out | exact to_alloc HBk.out (.inr ⟨_, rfl⟩)))
      (first
       | (refine appN_step (by rfl) (.const (.slice none 0 0)) (.tmp 48) rfl Tryz.underlying35 info49 (ok := fun k => w.heap.size ≤ k) (fun k => w.heap.size ≤ k ∧ k < wc.heap.size) (v := .slice none 0 0) rfl (Kd.N_nil _ _ _ _ _) (Nat.le_refl _) o1 X d (by rw [HL1.out]; rfl) (Kd.F_below HF1.out (by first | exact HBk.out | exact to_alloc HBk.out (.inr ⟨_, rfl⟩))) (fun k hk => ⟨hk.1, by simp [Value.ownBlock]⟩) (fun k hk => Nat.le_trans HBW.out.size (Nat.le_trans (Below.size (by first | exact HBk.out | exact to_alloc HBk.out (.inr ⟨_, rfl⟩))) hk)) (by have h1 := HL1.out; simp; omega) ?_; intro X1 d1 w4 ho hb; have HN1 := Lib.hid (Kd.N_lower ho (Below.size (by first | exact HBk.out | exact to_alloc HBk.out (.inr ⟨_, rfl⟩)))); have HNb := Lib.hid (Kd.N_base ho); (try first | (have HE := Lib.hid (blk_below (blk_new wc (.cells #[.string f0, .slice Z1 z1.length e1, .slice Z2 z2.length e2, .slice Z3 z3.length e3, .slice Y4 l4.length d4] 49)) hb)) | (have HE := Lib.hid (blk_below (blk_drew (blk_new wc (.cells #[.string f0, .slice Z1 z1.length e1, .slice Z2 z2.length e2, .slice Z3 z3.length e3, .slice Y4 l4.length d4] 49))) hb)) | (have HE := Lib.hid (blk_below (blk_new wc.drew (.cells #[.string f0, .slice Z1 z1.length e1, .slice Z2 z2.length e2, .slice Z3 z3.length e3, .slice Y4 l4.length d4] 49)) hb))); have HBk := Lib.hid (below_then HBk.out HBk.out.size (nxt hb (by first | exact .inl rfl | exact .inr ⟨_, rfl⟩))); clear ho hb)
       | (refine appN_step (by rfl) (.tmp 49) (.tmp 51) rfl Tryz.underlying35 info49 (fun k => (w.heap.size ≤ k ∧ k < wc.heap.size) ∨ k = w4.heap.size) (v := .slice X1 ([] ++ o1).length d1) (by rfl) (Kd.N_below HN1.out ((Below.refl _ _).alloc (Nat.le_refl _) _)) (HBk.out.alloc HBk.out.size _).size [(⟨f0, z1, z2, z3, l4⟩ : SRule)] _ _ (by rfl) (F_one (Kd.FK_below HFK.out (HBk.out.alloc HBk.out.size _)) (blk_new w4 (.cells #[.string f0, .slice Z1 z1.length e1, .slice Z2 z2.length e2, .slice Z3 z3.length e3, .slice Y4 l4.length d4] 49)) (fun k hk => .inl hk) (.inr rfl)) (fun k hk => hk.elim (fun h => ⟨h.1, fun e => by have q1 := Kd.N_base HN1.out k e.symm; have q2 := h.2; omega⟩) (fun h => ⟨by have q1 := HBW.out.size; have q2 := HBk.out.size; omega, fun e => by have q1 := Kd.N_lt HN1.out k e.symm; omega⟩)) (fun k hk => Nat.le_trans HBW.out.size (Nat.le_trans (HBk.out.alloc HBk.out.size _).size hk)) (by have h1 := HL1.out; simp; omega) ?_; intro X2 d2 w5 ho hb; have HN2 := Lib.hid ho; have HBk := Lib.hid ((HBk.out.alloc HBk.out.size _).trans hb); clear ho hb)
       | (refine appN_step (by rfl) (.tmp 49) (.tmp 51) rfl Tryz.underlying35 info49 (fun k => (w.heap.size ≤ k ∧ k < wc.heap.size) ∨ k = wc.heap.size) (v := .slice X1 ([] ++ o1).length d1) (by rfl) HN1.out HBk.out.size [(⟨f0, z1, z2, z3, l4⟩ : SRule)] _ _ (by rfl) (F_one (Kd.FK_below HFK.out HBk.out) HE.out (fun k hk => .inl hk) (.inr rfl)) (fun k hk => hk.elim (fun h => ⟨h.1, fun e => by have q1 := Kd.N_base HN1.out k e.symm; have q2 := h.2; omega⟩) (fun h => ⟨by have q1 := HBW.out.size; omega, fun e => by have q1 := HNb.out k e.symm; simp at q1; omega⟩)) (fun k hk => Nat.le_trans HBW.out.size (Nat.le_trans HBk.out.size hk)) (by have h1 := HL1.out; simp; omega) ?_; intro X2 d2 w5 ho hb; have HN2 := Lib.hid ho; have HBk := Lib.hid (HBk.out.trans hb); clear ho hb)
       | (refine appN_step (by rfl) (.tmp 52) (.tmp 55) rfl Tryz.underlying35 info49 (fun k => w.heap.size ≤ k ∧ k < wc.heap.size) (v := .slice X2 ([] ++ o1 ++ [(⟨f0, z1, z2, z3, l4⟩ : SRule)]).length d2) (by rfl) HN2.out HBk.out.size o3 _ _ (by rw [HL3.out]; rfl) (Kd.F_below HF3.out HBk.out) (fun k h => ⟨h.1, fun e => by have q1 := Kd.N_base HN2.out k e.symm; have q2 := h.2; omega⟩) (fun k hk => Nat.le_trans HBW.out.size (Nat.le_trans HBk.out.size hk)) (by have h1 := HL1.out; have h3 := HL3.out; simp; omega) ?_; intro X4 d5 w6 ho hb; have HN3 := Lib.hid ho; have HBk := Lib.hid (HBk.out.trans hb); clear ho hb))
     all_goals
      have HLn : Hid (([] ++ o1 ++ [(⟨f0, z1, z2, z3, l4⟩ : SRule)] ++ o3).length = kk + 1) := by show _ = _; have h1 := HL1.out; have h3 := HL3.out; have h2 := HOL.out; simp; omega
      go_wp2_with fail
     all_goals
      go_roundg (l.length - (kk + 1))
      case measure => omega
      case rel => exact ⟨kk + 1, X4, d5, [] ++ o1 ++ [(⟨f0, z1, z2, z3, l4⟩ : SRule)] ++ o3, by omega, by omega, by first | rfl | go_num, by simp [Nat.add_assoc, Nat.add_comm 1], ⟨HLn.out⟩, ⟨HMn.out⟩, ⟨Kd.N_lower HN3.out HBW.out.size⟩, ⟨below_then HBW.out HBW.out.size HBk.out⟩⟩
  · have hltz : ¬ (kk : Int) < (l.length : Int) := by omega
    go_wp2_with fail
    go_ret
    exact ⟨X, d, o, rfl, by have := HOL.out; omega, HM.out, HO.out, HB.out⟩

end Go.Proofs.YthagibkmfgodgaaGreatDoor.X

namespace Go.Proofs.YthagibkmfgodgaaGreatDoor.X
open Go.RowKit Go.Maps Go.Proofs.YthagibkmfgodgaaGreatDoorW.PrintWords Go.Proofs.YthagibkmfgodgaaGreatDoorW.PrintMore Go.Proofs.YthagibkmfgodgaaGreatDoorW.PrintLast
set_option linter.unusedSimpArgs false

set_option maxHeartbeats 8000000 in
set_option maxRecDepth 100000 in
theorem refPrint_calls (x : SRule) (hx : SmallRule x) (A1 : Option Addr) (c1 : Nat) (A2 : Option Addr) (c2 : Nat) (A3 : Option Addr) (c3 : Nat) (A4 : Option Addr) (c4 : Nat) (w : World)
 (hF : Kd.FK k49 w (fun k => k < w.heap.size) x [.string x.f0, .slice A1 x.f1.length c1, .slice A2 x.f2.length c2, .slice A3 x.f3.length c3, .slice A4 x.f4.length c4]) :
 Calls Tryz.prog 33 #[.agg #[.string x.f0, .slice A1 x.f1.length c1, .slice A2 x.f2.length c2, .slice A3 x.f3.length c3, .slice A4 x.f4.length c4]] w (TextOf 100000000000000000 w) := by
 have HX := Lib.hid hx
 have hb1 := (Below.refl w.heap.size w).alloc (Nat.le_refl _) (.cells #[.string x.f0, .slice A1 x.f1.length c1, .slice A2 x.f2.length c2, .slice A3 x.f3.length c3, .slice A4 x.f4.length c4] 49)
 have hb2 := hb1.alloc hb1.size (.cells #[.string x.f0, .slice A1 x.f1.length c1, .slice A2 x.f2.length c2, .slice A3 x.f3.length c3, .slice A4 x.f4.length c4] 49)
 have hk1 := blk_new w (.cells #[.string x.f0, .slice A1 x.f1.length c1, .slice A2 x.f2.length c2, .slice A3 x.f3.length c3, .slice A4 x.f4.length c4] 49)
 have hk := blk_alloc hk1 (.cells #[.string x.f0, .slice A1 x.f1.length c1, .slice A2 x.f2.length c2, .slice A3 x.f3.length c3, .slice A4 x.f4.length c4] 49)
 have hr := blk_new (w.alloc (.cells #[.string x.f0, .slice A1 x.f1.length c1, .slice A2 x.f2.length c2, .slice A3 x.f3.length c3, .slice A4 x.f4.length c4] 49)) (.cells #[.string x.f0, .slice A1 x.f1.length c1, .slice A2 x.f2.length c2, .slice A3 x.f3.length c3, .slice A4 x.f4.length c4] 49)
 have hsz : (w.alloc (.cells #[.string x.f0, .slice A1 x.f1.length c1, .slice A2 x.f2.length c2, .slice A3 x.f3.length c3, .slice A4 x.f4.length c4] 49)).heap.size = w.heap.size + 1 := World.size_alloc _ _
 have hsz2 : ((w.alloc (.cells #[.string x.f0, .slice A1 x.f1.length c1, .slice A2 x.f2.length c2, .slice A3 x.f3.length c3, .slice A4 x.f4.length c4] 49)).alloc (.cells #[.string x.f0, .slice A1 x.f1.length c1, .slice A2 x.f2.length c2, .slice A3 x.f3.length c3, .slice A4 x.f4.length c4] 49)).heap.size = w.heap.size + 2 := by rw [World.size_alloc, hsz]
 rw [hsz] at hr
 have hC : Kd.C k49 ((w.alloc (.cells #[.string x.f0, .slice A1 x.f1.length c1, .slice A2 x.f2.length c2, .slice A3 x.f3.length c3, .slice A4 x.f4.length c4] 49)).alloc (.cells #[.string x.f0, .slice A1 x.f1.length c1, .slice A2 x.f2.length c2, .slice A3 x.f3.length c3, .slice A4 x.f4.length c4] 49)) (some ⟨w.heap.size + 1, 0, none⟩) 1 [x] :=
  Kd.F_now (F_one (ok := fun _ => True) (Kd.FK_below hF hb2) hr (fun _ _ => trivial) trivial)
 have hS := refSorted_calls (some ⟨w.heap.size + 1, 0, none⟩) 1 [x] ((w.alloc (.cells #[.string x.f0, .slice A1 x.f1.length c1, .slice A2 x.f2.length c2, .slice A3 x.f3.length c3, .slice A4 x.f4.length c4] 49)).alloc (.cells #[.string x.f0, .slice A1 x.f1.length c1, .slice A2 x.f2.length c2, .slice A3 x.f3.length c3, .slice A4 x.f4.length c4] 49)) hC (by simp) (fun r hr => by rw [List.mem_singleton] at hr; rw [hr]; exact hx)
 have HB2 := Lib.hid hb2
 have HK := Lib.hid hk
 have HSZ2 := Lib.hid hsz2
 clear hb1 hk1 hr hsz hC hF hx hb2 hk hsz2
 go_enter Tryz.func33, Tryz.ntmps33
 go_wp2_with fail
 generalize (w.alloc (.cells #[.string x.f0, .slice A1 x.f1.length c1, .slice A2 x.f2.length c2, .slice A3 x.f3.length c3, .slice A4 x.f4.length c4] 49)).alloc (.cells #[.string x.f0, .slice A1 x.f1.length c1, .slice A2 x.f2.length c2, .slice A3 x.f3.length c3, .slice A4 x.f4.length c4] 49) = w2 at HB2 HK HSZ2 hS ⊢
 refine hS.mono ?_
 rintro e w3 ⟨X, d, l', rfl, hl', hS', hN, hb3⟩
 obtain ⟨y, rfl⟩ : ∃ y, l' = [y] := List.length_eq_one_iff.1 hl'
 have HY := Lib.hid (hS' y (by simp))
 obtain ⟨g, cap, ev, hgb, hgl, cur, hcur⟩ := Kd.N_form hN (by simp)
 injection ev with ev1 ev2 ev3
 subst ev1 ev3
 obtain ⟨cs, hcl, hFK, hcc, hfr⟩ := Kd.N_elem hN z49 0 (by decide) (by simp)
 change Kd.FK _ _ _ y cs at hFK
 obtain ⟨B1, e1, B2, e2, B3, e3, B4, e4, rfl, q1, g1, q2, g2, q3, g3, q4, g4⟩ := k49_openF hFK
 have p0 : w3.cell? ⟨g, 0, none⟩ = some (.string y.f0) := hcc 0 _ rfl
 have p1 : w3.cell? ⟨g, 1, none⟩ = some (.slice B1 y.f1.length e1) := hcc 1 _ rfl
 have p2 : w3.cell? ⟨g, 2, none⟩ = some (.slice B2 y.f2.length e2) := hcc 2 _ rfl
 have p3 : w3.cell? ⟨g, 3, none⟩ = some (.slice B3 y.f3.length e3) := hcc 3 _ rfl
 have p4 : w3.cell? ⟨g, 4, none⟩ = some (.slice B4 y.f4.length e4) := hcc 4 _ rfl
 have hK3 := blk_below HK.out hb3
 have HK3 := Lib.hid hK3
 have z0 := (blk_cell hK3 0).trans rfl
 have z1 := (blk_cell hK3 1).trans rfl
 have z2 := (blk_cell hK3 2).trans rfl
 have z3 := (blk_cell hK3 3).trans rfl
 have z4 := (blk_cell hK3 4).trans rfl
 have y0 := blk_frozen hK3 0
 have y1 := blk_frozen hK3 1
 have y2 := blk_frozen hK3 2
 have y3 := blk_frozen hK3 3
 have y4 := blk_frozen hK3 4
 have hok : ∀ k, (w2.heap.size ≤ k ∧ k ≠ g) → k ≠ w.heap.size := fun k hk e => by have q := HSZ2.out; have q2 := hk.1; omega
 have hg1 := Kd.F_far (Kd.F_far (Kd.F_far (Kd.F_far (Kd.F_far g1 (p := ⟨w.heap.size, 0, none⟩) hok (.string y.f0)) (p := ⟨w.heap.size, 1, none⟩) hok (.slice B1 y.f1.length e1)) (p := ⟨w.heap.size, 2, none⟩) hok (.slice B2 y.f2.length e2)) (p := ⟨w.heap.size, 3, none⟩) hok (.slice B3 y.f3.length e3)) (p := ⟨w.heap.size, 4, none⟩) hok (.slice B4 y.f4.length e4)
 have hg2 := Kd.F_far (Kd.F_far (Kd.F_far (Kd.F_far (Kd.F_far g2 (p := ⟨w.heap.size, 0, none⟩) hok (.string y.f0)) (p := ⟨w.heap.size, 1, none⟩) hok (.slice B1 y.f1.length e1)) (p := ⟨w.heap.size, 2, none⟩) hok (.slice B2 y.f2.length e2)) (p := ⟨w.heap.size, 3, none⟩) hok (.slice B3 y.f3.length e3)) (p := ⟨w.heap.size, 4, none⟩) hok (.slice B4 y.f4.length e4)
 have hg3 := Kd.F_far (Kd.F_far (Kd.F_far (Kd.F_far (Kd.F_far g3 (p := ⟨w.heap.size, 0, none⟩) hok (.string y.f0)) (p := ⟨w.heap.size, 1, none⟩) hok (.slice B1 y.f1.length e1)) (p := ⟨w.heap.size, 2, none⟩) hok (.slice B2 y.f2.length e2)) (p := ⟨w.heap.size, 3, none⟩) hok (.slice B3 y.f3.length e3)) (p := ⟨w.heap.size, 4, none⟩) hok (.slice B4 y.f4.length e4)
 have hg4 := Kd.F_far (Kd.F_far (Kd.F_far (Kd.F_far (Kd.F_far g4 (p := ⟨w.heap.size, 0, none⟩) hok (.string y.f0)) (p := ⟨w.heap.size, 1, none⟩) hok (.slice B1 y.f1.length e1)) (p := ⟨w.heap.size, 2, none⟩) hok (.slice B2 y.f2.length e2)) (p := ⟨w.heap.size, 3, none⟩) hok (.slice B3 y.f3.length e3)) (p := ⟨w.heap.size, 4, none⟩) hok (.slice B4 y.f4.length e4)
 have hb4 := (((((below_then HB2.out HB2.out.size hb3).setCell (p := ⟨w.heap.size, 0, none⟩) (Nat.le_refl _) (.string y.f0)).setCell (p := ⟨w.heap.size, 1, none⟩) (Nat.le_refl _) (.slice B1 y.f1.length e1)).setCell (p := ⟨w.heap.size, 2, none⟩) (Nat.le_refl _) (.slice B2 y.f2.length e2)).setCell (p := ⟨w.heap.size, 3, none⟩) (Nat.le_refl _) (.slice B3 y.f3.length e3)).setCell (p := ⟨w.heap.size, 4, none⟩) (Nat.le_refl _) (.slice B4 y.f4.length e4)
 have hk4 := set5_blk (.string y.f0) (.slice B1 y.f1.length e1) (.slice B2 y.f2.length e2) (.slice B3 y.f3.length e3) (.slice B4 y.f4.length e4) hK3
 unfold set5 at hk4
 clear hl' hS' hN hgb hgl hcur cur hcl hFK hcc hfr q1 g1 q2 g2 q3 g3 q4 g4 hok hb3 hK3 ev2 hS
 go_upto_region 2 with fail
 clear p0 p1 p2 p3 p4 z0 z1 z2 z3 z4 y0 y1 y2 y3 y4
 generalize ((((w3.setCell ⟨w.heap.size, 0, none⟩ (.string y.f0)).setCell ⟨w.heap.size, 1, none⟩ (.slice B1 y.f1.length e1)).setCell ⟨w.heap.size, 2, none⟩ (.slice B2 y.f2.length e2)).setCell ⟨w.heap.size, 3, none⟩ (.slice B3 y.f3.length e3)).setCell ⟨w.heap.size, 4, none⟩ (.slice B4 y.f4.length e4) = w4 at hg1 hg2 hg3 hg4 hb4 hk4 ⊢
 have HG1 := Lib.hid (Kd.F_now hg1)
 have HG2 := Lib.hid (Kd.F_now hg2)
 have HG3 := Lib.hid (Kd.F_now hg3)
 have HG4 := Lib.hid (Kd.F_now hg4)
 have HB4 := Lib.hid hb4
 have HK4 := Lib.hid hk4
 have hSof : ∀ W, Below w4.heap.size w4 W → W.cell? ⟨w.heap.size, 0, none⟩ = some (.string y.f0) ∧ W.cell? ⟨w.heap.size, 1, none⟩ = some (.slice B1 y.f1.length e1) ∧ W.cell? ⟨w.heap.size, 2, none⟩ = some (.slice B2 y.f2.length e2) ∧ W.cell? ⟨w.heap.size, 3, none⟩ = some (.slice B3 y.f3.length e3) := fun W hW => ⟨(blk_cell (blk_below HK4.out hW) 0).trans rfl, (blk_cell (blk_below HK4.out hW) 1).trans rfl, (blk_cell (blk_below HK4.out hW) 2).trans rfl, (blk_cell (blk_below HK4.out hW) 3).trans rfl⟩
 have HS := Lib.hid hSof
 have HBc : Hid (Below w4.heap.size w4 w4.drew) := Lib.hid (below_drew (Below.refl _ _))
 have hn1 := HY.out.name
 have ho1 : ¬ 9223372036854775807 < 5 + y.f0.size := by omega
 have ho2 : ¬ 9223372036854775807 < 5 + y.f0.size + 3 := by omega
 have HNm := Lib.hid hn1
 clear hg1 hg2 hg3 hg4 hb4 hk4 hSof hn1
 go_cut [3] (fun s3 wx => ∃ t : ByteArray, s3 = .string t ∧ Aside0 (t.size ≤ 7000000000000000) ∧ Aside0 (Below w4.heap.size w4 wx))
 case first =>
  go_region_held3 (fun W => W.cell? ⟨w.heap.size, 0, none⟩ = some (.string y.f0) ∧ W.cell? ⟨w.heap.size, 1, none⟩ = some (.slice B1 y.f1.length e1) ∧ W.cell? ⟨w.heap.size, 2, none⟩ = some (.slice B2 y.f2.length e2) ∧ W.cell? ⟨w.heap.size, 3, none⟩ = some (.slice B3 y.f3.length e3))
   (exact HS.out _ HBc.out)
   (first
    | (go_at_call_of 56 (Value.string ⟨#[105, 110]⟩); refine (refClause_calls ⟨#[105, 110]⟩ B1 e1 y.f1 _ (Kd.C_below HG1.out HBc.out) (by decide) HY.out.ins HY.out.insz).mono ?_; rintro e w5 ⟨s1, rfl, hs1, hb⟩; have HS1 := Lib.hid hs1; have HBc := Lib.hid (below_then HBc.out HBc.out.size hb); have ho3 : ¬ 9223372036854775807 < 5 + y.f0.size + 3 + s1.size := (by have := HNm.out; omega); clear hs1 hb)
    | (go_at_call_of 56 (Value.string ⟨#[111, 117, 116]⟩); refine (refClause_calls ⟨#[111, 117, 116]⟩ B2 e2 y.f2 _ (Kd.C_below HG2.out HBc.out) (by decide) HY.out.outs HY.out.outsz).mono ?_; rintro e w6 ⟨s2, rfl, hs2, hb⟩; have HS2 := Lib.hid hs2; have HBc := Lib.hid (below_then HBc.out HBc.out.size hb); have ho4 : ¬ 9223372036854775807 < 5 + y.f0.size + 3 + s1.size + s2.size := (by have := HNm.out; have := HS1.out; omega); clear hs2 hb)
    | (go_at_call_of 56 (Value.string ⟨#[97, 102, 116, 101, 114]⟩); refine (refClause_calls ⟨#[97, 102, 116, 101, 114]⟩ B3 e3 y.f3 _ (Kd.C_below HG3.out HBc.out) (by decide) HY.out.after HY.out.afterz).mono ?_; rintro e w7 ⟨s3, rfl, hs3, hb⟩; have HS3 := Lib.hid hs3; have HBc := Lib.hid (below_then HBc.out HBc.out.size hb); have ho5 : ¬ 9223372036854775807 < 5 + y.f0.size + 3 + s1.size + s2.size + s3.size := (by have := HNm.out; have := HS1.out; have := HS2.out; omega); clear hs3 hb))
  all_goals
   go_wp2_with fail
   go_meet
   refine ⟨_, rfl, ⟨?_⟩, ⟨HBc.out⟩⟩
   simp only [ByteArray.size_append]
   have h0 := HNm.out
   have h1 := HS1.out
   have h2 := HS2.out
   have h3 := HS3.out
   have e1 : (⟨#[114, 117, 108, 101, 32]⟩ : ByteArray).size = 5 := rfl
   have e2 : (⟨#[32, 123, 10]⟩ : ByteArray).size = 3 := rfl
   omega
 case rest =>
  obtain ⟨t0, rfl, HT0, HB5⟩ := hcut
  clear ho1 ho2
  go_wp2_with fail
  go_loopg [3, 4] y.f4.length (fun gg s3 s4 wr => ∃ (kk : Nat) (t : ByteArray), kk ≤ y.f4.length ∧ y.f4.length - kk ≤ gg ∧ s4 = .int .i64 kk ∧ s3 = .string t ∧ t.size ≤ 7000000000000000 + kk * 3000000000000010 ∧ Aside0 (Below w4.heap.size w4 wr))
  case atStart => exact ⟨0, t0, Nat.zero_le _, by omega, rfl, rfl, by have := HT0.out; omega, ⟨HB5.out⟩⟩
  case round =>
   obtain ⟨kk, t, hkk, hgk, rfl, rfl, ht, HB⟩ := hrel
   have k4 : wr.cell? ⟨w.heap.size, 4, none⟩ = some (.slice B4 y.f4.length e4) := (blk_cell (blk_below HK4.out HB.out) 4).trans rfl
   have h14 := HY.out.len
   by_cases hlt : kk < y.f4.length
   · have hltz : (kk : Int) < (y.f4.length : Int) := by omega
     obtain ⟨ad, D2, m2, D3, m3, rfl, n0, n1, n2, n3, n4, u2, v2, u3, v3⟩ := at_T62 (Kd.C_below HG4.out HB.out) (kk : Int) (by omega) hltz
     rw [Int.toNat_natCast] at n0 n1 n2 n3 n4
     have hm : rd_T62 y.f4 (kk : Int) ∈ y.f4 := by unfold rd_T62; simp [List.getD_eq_getElem?_getD, List.getElem?_eq_getElem hlt]
     have hst := refStep_calls _ (HY.out.steps _ hm) D2 m2 D3 m3 wr v2 v3
     generalize rd_T62 y.f4 (kk : Int) = z at n0 n1 n2 n3 n4 hst
     have HTk := Lib.hid ht
     have HKb : Hid (t.size ≤ 60000000000000000) := by show _ ≤ _; omega
     have hk14 : kk < 14 := by omega
     clear u2 v2 u3 v3 hm ht h14
     go_wp2_with (first | (go_at_call 57; refine hst.mono ?_; rintro e w8 ⟨s1, rfl, hs1, hb⟩; have HS1 := Lib.hid hs1; have HB8 := Lib.hid (below_then HB.out HB.out.size hb); have ho1 : ¬ 9223372036854775807 < 2 + s1.size := (by omega); have ho2 : ¬ 9223372036854775807 < 2 + s1.size + 1 := (by omega); have ho3 : ¬ 9223372036854775807 < t.size + (2 + s1.size + 1) := (by have := HKb.out; omega); clear hs1 hb))
     go_roundg (y.f4.length - (kk + 1))
     case measure => omega
     case rel =>
      refine ⟨kk + 1, _, by omega, by omega, by first | rfl | go_num, rfl, ?_, ⟨HB8.out⟩⟩
      simp only [ByteArray.size_append]
      have h1 := HS1.out
      have h2 := HTk.out
      have e1 : (⟨#[32, 32]⟩ : ByteArray).size = 2 := rfl
      have e2 : (⟨#[10]⟩ : ByteArray).size = 1 := rfl
      omega
   · have hltz : ¬ (kk : Int) < (y.f4.length : Int) := by omega
     have HKb : Hid (t.size ≤ 60000000000000000) := by show _ ≤ _; omega
     have ho1 : ¬ 9223372036854775807 < t.size + 2 := by have := HKb.out; omega
     clear ht h14
     go_wp2_with fail
     go_ret
     refine ⟨_, rfl, ?_, below_then HB4.out HB4.out.size HB.out⟩
     simp only [ByteArray.size_append]
     have h1 := HKb.out
     have e1 : (⟨#[125, 10]⟩ : ByteArray).size = 2 := rfl
     omega

set_option maxHeartbeats 8000000 in
set_option maxRecDepth 100000 in
theorem printAll_calls (A : Option Addr) (c : Nat) (l : List SRule) (w : World) (hC : Kd.C k49 w A l.length l) (hSm : ∀ r ∈ l, SmallRule r) (hl : l.length ≤ 4) :
 Calls Tryz.prog 25 #[.slice A l.length c] w (TextOf 1000000000000000000 w) := by
 have hS := refSorted_calls A c l w hC (by omega) hSm
 have HL := Lib.hid hl
 clear hC hSm hl
 go_enter Tryz.func25, Tryz.ntmps25
 go_wp2_with fail
 refine hS.mono ?_
 rintro e w3 ⟨X, d, o, rfl, hol, hSo, hN, hb3⟩
 have HSo := Lib.hid hSo
 have HN := Lib.hid hN
 have HB3 := Lib.hid hb3
 have ho4 : o.length ≤ 4 := by have := HL.out; omega
 clear hSo hN hb3 hS hol
 go_wp2_with fail
 go_loopg [3, 5] o.length (fun gg s3 s5 wr => ∃ (kk : Nat) (t : ByteArray), kk ≤ o.length ∧ o.length - kk ≤ gg ∧ s5 = .int .i64 kk ∧ s3 = .string t ∧ t.size ≤ kk * 100000000000000000 ∧ Aside0 (Below w3.heap.size w3 wr))
 case atStart => exact ⟨0, ⟨#[]⟩, Nat.zero_le _, by omega, rfl, rfl, by decide, ⟨Below.refl _ _⟩⟩
 case round =>
  obtain ⟨kk, t, hkk, hgk, rfl, rfl, ht, HB⟩ := hrel
  by_cases hlt : kk < o.length
  · have hltz : (kk : Int) < (o.length : Int) := by omega
    have hN := Kd.N_below HN.out HB.out
    obtain ⟨g, cap, ev, hgb, hgl, cur, hcur⟩ := Kd.N_form hN (by omega)
    injection ev with ev1 ev2 ev3
    subst ev1 ev3
    obtain ⟨cs, hcl, hFK, hcc, hfr⟩ := Kd.N_elem hN z49 (kk : Int) (by omega) hltz
    have hxi : o.getD (kk : Int).toNat z49 = o[kk] := by rw [Int.toNat_natCast, List.getD_eq_getElem?_getD, List.getElem?_eq_getElem hlt]; rfl
    rw [hxi] at hFK
    rw [Int.toNat_natCast] at hcc
    have HY := Lib.hid (HSo.out o[kk] (List.getElem_mem hlt))
    generalize o[kk] = y at hFK HY
    obtain ⟨B1, e1, B2, e2, B3, e3, B4, e4, rfl, q1, g1, q2, g2, q3, g3, q4, g4⟩ := k49_openF hFK
    have p0 : wr.cell? ⟨g, kk * 5, none⟩ = some (.string y.f0) := hcc 0 _ rfl
    have p1 : wr.cell? ⟨g, kk * 5 + 1, none⟩ = some (.slice B1 y.f1.length e1) := hcc 1 _ rfl
    have p2 : wr.cell? ⟨g, kk * 5 + 2, none⟩ = some (.slice B2 y.f2.length e2) := hcc 2 _ rfl
    have p3 : wr.cell? ⟨g, kk * 5 + 3, none⟩ = some (.slice B3 y.f3.length e3) := hcc 3 _ rfl
    have p4 : wr.cell? ⟨g, kk * 5 + 4, none⟩ = some (.slice B4 y.f4.length e4) := hcc 4 _ rfl
    have hP := refPrint_calls y HY.out B1 e1 B2 e2 B3 e3 B4 e4 wr (Kd.FK_mono (Kd.FK_bound hFK) (fun k hk => hk.2))
    have HTk := Lib.hid ht
    have HKb : Hid (t.size ≤ 400000000000000000) := by show _ ≤ _; omega
    clear hN hgb hgl hcur cur hcl hFK hcc hfr hxi q1 g1 q2 g2 q3 g3 q4 g4 ev2 ht
    go_wp2_with (first | (go_at_call 33; refine hP.mono ?_; rintro e w8 ⟨s1, rfl, hs1, hb⟩; have HS1 := Lib.hid hs1; have HB8 := Lib.hid (below_then HB.out HB.out.size hb); have ho1 : ¬ 9223372036854775807 < t.size + s1.size := (by have := HKb.out; omega); clear hs1 hb))
    go_roundg (o.length - (kk + 1))
    case measure => omega
    case rel =>
     refine ⟨kk + 1, _, by omega, by omega, by first | rfl | go_num, rfl, ?_, ⟨HB8.out⟩⟩
     simp only [ByteArray.size_append]
     have h1 := HS1.out
     have h2 := HTk.out
     omega
  · have hltz : ¬ (kk : Int) < (o.length : Int) := by omega
    have HTk : Hid (t.size ≤ 400000000000000000) := by show _ ≤ _; omega
    clear ht
    go_wp2_with fail
    go_ret
    exact ⟨t, rfl, by have := HTk.out; omega, below_then HB3.out HB3.out.size HB.out⟩

end Go.Proofs.YthagibkmfgodgaaGreatDoor.X

namespace Go.Proofs.YthagibkmfgodgaaGreatDoor.X
open Go.RowKit Go.Maps Go.Proofs.YthagibkmfgodgaaGreatDoorW.PrintWords Go.Proofs.YthagibkmfgodgaaGreatDoorW.PrintMore Go.Proofs.YthagibkmfgodgaaGreatDoorW.PrintLast Go.Proofs.YthagibkmfgodgaaGreatDoor.Pb

theorem inv_pre (N : Int) (_h0 : 0 ≤ N) : InvP (fun s => GoodW s.1 ∧ (∀ x ∈ s.1, 0 ≤ x.f1 ∧ x.f1 ≤ N) ∧ -1 ≤ s.2 ∧ s.2 ≤ N) := by
 refine ⟨fun s h => ⟨h.1.fails, ?_⟩, fun s h _ hk => ⟨h.1.tail hk, fun x hx => h.2.1 x (List.mem_of_mem_tail hx), h.2.2⟩⟩
 unfold failsP
 split
 · obtain ⟨l, d⟩ := s
   match l, h.1.ne, h.2 with
   | x :: r, _, hg => have := hg.1 x (by simp); exact ⟨hg.1, show -1 ≤ x.f1 by omega, show x.f1 ≤ N from this.2⟩
 · exact h.2
theorem chain_at (t : Bytes) : ∀ (ws : List SWord) lo, Chain t lo ws → ∀ x ∈ ws, 0 ≤ x.f1 ∧ x.f1 ≤ (t.length : Nat)
 | [], _, _, x, hx => by cases hx
 | y :: r, lo, h, x, hx => by
  obtain ⟨a, n, h1, _, h3, h4, _, h6⟩ := h
  rcases List.mem_cons.1 hx with rfl | hx
  · rw [h1]; omega
  · exact chain_at t r _ h6 x hx
theorem fileP_pre (N : Int) (h0 : 0 ≤ N) (l : List SWord) (hg : GoodW l) (hw : ∀ x ∈ l, 0 ≤ x.f1 ∧ x.f1 ≤ N) : (fileP l).2.1 = 0 ∨ (fileP l).2.1 ≠ 0 ∧ (fileP l).1 = [] ∧ 0 ≤ (fileP l).2.2 ∧ (fileP l).2.2 ≤ N := by
 have hi := (inv_pre N h0).rules (l.length + 1) (s := (l, -1)) ⟨hg, hw, Int.le_refl _, by show (-1 : Int) ≤ N; omega⟩
 rw [fileP_of]
 generalize rulesP (l.length + 1) (l, -1) = r at hi ⊢
 obtain ⟨r1, r2, r3⟩ := r
 have hi2 : -1 ≤ r3 ∧ r3 ≤ N := hi.2.2
 by_cases hn : r3 < 0
 · rw [if_pos hn]
   exact .inl rfl
 · rw [if_neg hn]
   exact .inr ⟨by show (1 : Int) ≠ 0; decide, rfl, Int.not_lt.1 hn, hi2.2⟩
theorem fileE_ok (s : Bytes) (ws : List SWord) : fileE s (.ok ws) = fileP (ws ++ [⟨4, (s.length : Nat), ⟨#[]⟩⟩]) := rfl
theorem fileE_err (s : Bytes) (e : Nat) : fileE s (.error e) = ([], 1, (e : Int)) := rfl
theorem file_pre (s : Bytes) (hs : s.length ≤ 20000) : (fileT s).2.1 = 0 ∨ (fileT s).2.1 ≠ 0 ∧ (fileT s).1 = [] ∧ 0 ≤ (fileT s).2.2 ∧ (fileT s).2.2 ≤ (s.length : Nat) := by
 rw [fileT_of hs]
 cases hl : lexM false s 0 with
 | error e =>
  have := lexM_err false s 0 e hl
  rw [fileE_err]
  refine .inr ⟨by show (1 : Int) ≠ 0; decide, rfl, ?_, ?_⟩
  · show (0 : Int) ≤ (e : Int); omega
  · show (e : Int) ≤ (s.length : Nat); omega
 | ok ws =>
  have hg := (lexM_good (by omega) hl).2
  have hw := chain_at s ws 0 (lexM_chain s false s 0 (Nat.zero_le _) List.drop_zero ws hl)
  rw [fileE_ok]
  refine fileP_pre (s.length : Nat) (Int.natCast_nonneg _) _ hg (fun x hx => ?_)
  rcases List.mem_append.1 hx with hx | hx
  · exact hw x hx
  · rw [List.mem_singleton] at hx
    rw [hx]
    exact ⟨Int.natCast_nonneg _, Int.le_refl _⟩

theorem small_of_bound {r : SRule} (h : BoundRule r) (hg : GoodRule r) : SmallRule (ruleC r) := by
 have tk : ∀ {l : List ByteArray} (k : Nat), (∀ s ∈ l, s.size ≤ 140737488351232) → ∀ s ∈ l.take k, s.size ≤ 140737488355328 := fun k hs s hm => Nat.le_trans (hs s (List.mem_of_mem_take hm)) (by decide)
 refine ⟨Nat.le_trans h.name (by decide), List.length_take_le _ _, Nat.le_trans (List.length_take_le _ _) (by decide), List.length_take_le _ _, ?_, tk 10 h.insz, tk 6 h.outsz, tk 10 h.afterz, fun x hx => ?_⟩
 · show ((r.f4.take 14).map stepC).length ≤ 14
   rw [List.length_map]
   exact List.length_take_le _ _
 · obtain ⟨y, hy, rfl⟩ := List.mem_map.1 (show x ∈ (r.f4.take 14).map stepC from hx)
   have hm := List.mem_of_mem_take hy
   have hb := h.steps y hm
   exact ⟨Nat.le_trans hb.out (by decide), (hg.steps y hm).num.2, List.length_take_le _ _, List.length_take_le _ _, tk 8 hb.argz, tk 3 hb.litz⟩

set_option maxHeartbeats 4000000 in
set_option maxRecDepth 100000 in
theorem parsePrefix_walk (A : Option Addr) (c : Nat) (l : List SRule) (at_ : Int) (w : World) (hG : GOK w) (hC : Kd.C k49 w A l.length l) (hB : ∀ r ∈ l, BoundRule r) (hGd : ∀ r ∈ l, GoodRule r) :
 Calls Tryz.prog 13 #[.slice A l.length c, .int .i64 at_] w (IsTrue w) := by
 have HG := Lib.hid hG
 have HC := Lib.hid hC
 have HBd := Lib.hid hB
 have HGd := Lib.hid hGd
 clear hG hC hB hGd
 go_enter Tryz.func13, Tryz.ntmps13
 go_wp2_with fail
 refine (begun4_calls _ HG.out).mono ?_
 rintro e w1 ⟨rfl, hb1⟩
 have HB1 := Lib.hid hb1
 clear hb1
 go_wp2_with fail
 refine (rules_calls A c l w1 (Kd.C_below HC.out HB1.out) HBd.out).mono ?_
 rintro e w2 ⟨X, d, rfl, hN2, hb2⟩
 have hsm : ∀ r ∈ (l.take 42).map ruleC, SmallRule r := fun r hr => by
  obtain ⟨q, hq, rfl⟩ := List.mem_map.1 hr
  have hm := List.mem_of_mem_take hq
  exact small_of_bound (HBd.out q hm) (HGd.out q hm)
 have hl42 : ((l.take 42).map ruleC).length ≤ 42 := by rw [List.length_map]; exact List.length_take_le _ _
 generalize (l.take 42).map ruleC = rs at hN2 hsm hl42
 have hcc := (Kd.N_reads' hN2).2.1
 have HC2 := Lib.hid (Kd.N_reads' hN2).2.2
 have HSM := Lib.hid hsm
 have HB2 := Lib.hid (below_then HB1.out HB1.out.size hb2)
 clear hsm hN2 hb2 HC HBd HGd
 obtain ⟨ps, hps⟩ : ∃ q, q = rs.take 2 := ⟨_, rfl⟩
 have e2 : (min (rs.length : Int) 2).toNat = ps.length := by rw [hps, List.length_take]; omega
 have hPA := printAll_calls X d ps w2 (by rw [hps]; exact take_C HC2.out 2) (fun r hr => HSM.out r (List.mem_of_mem_take (by rw [← hps]; exact hr))) (by rw [hps, List.length_take]; omega)
 clear hps
 go_wp2_with fail
 refine hPA.mono ?_
 rintro e w3 ⟨s, rfl, hs, hb3⟩
 have HB3 := Lib.hid (below_then HB2.out HB2.out.size hb3)
 clear hb3 HC2 HSM e2 hcc hPA
 by_cases h0 : s.size = 0
 · have d0 : ((s.size : Int) == 0) = true := by rw [h0]; rfl
   go_wp2_with fail
   go_ret
   exact ⟨rfl, HB3.out⟩
 have d0 : ((s.size : Int) == 0) = false := by rw [beq_eq_false_iff_ne]; omega
 by_cases h1 : 3000 < s.size
 · have d1 : (3000 : Int) < (s.size : Int) := by omega
   go_wp2_with fail
   go_ret
   exact ⟨rfl, HB3.out⟩
 have d1 : ¬ (3000 : Int) < (s.size : Int) := by omega
 by_cases h2 : at_ < 0
 · go_wp2_with fail
   go_ret
   exact ⟨rfl, HB3.out⟩
 obtain ⟨k, hk⟩ : ∃ k : Nat, at_ % (s.size : Int) = (k : Int) := ⟨(at_ % (s.size : Int)).toNat, by have := Int.emod_nonneg at_ (b := (s.size : Int)) (by omega); omega⟩
 have hks : k < s.size := by have := Int.emod_lt_of_pos at_ (b := (s.size : Int)) (by omega); omega
 have hmd : Int.tmod at_ (s.size : Int) = (k : Int) := by rw [Int.tmod_eq_emod_of_nonneg (by omega)]; exact hk
 clear hk
 have hpr := file_pre (s.extract 0 k).data.toList (by rw [← Lib.size_eq, ByteArray.size_extract]; omega)
 rw [← Lib.size_eq, ByteArray.size_extract] at hpr
 have hFile := fun W hW => file_calls (s.extract 0 k) W hW
 have hReads := fun W hW => reads_calls (s.extract 0 k) W hW
 rw [show min k s.size - 0 = k by omega] at hpr
 generalize fileT (s.extract 0 k).data.toList = T at hFile hpr
 generalize hsk : s.extract 0 k = sk at hFile hReads
 have HPR := Lib.hid hpr
 have HRd := Lib.hid hReads
 clear hpr hReads
 go_wp2_with fail
 refine (hFile _ (HG.out.below HB3.out)).mono ?_
 rintro e w4 ⟨v, rfl, hR, hb4⟩
 obtain ⟨Y, q, rfl, hq, hr4⟩ := Kd.R_reads hR
 have hb5 := (Below.refl w4.heap.size w4).alloc (Nat.le_refl _) (.cells #[.int .i64 T.2.1, .int .i64 T.2.2] 27)
 have HE5 := Lib.hid (blk_new w4 (.cells #[.int .i64 T.2.1, .int .i64 T.2.2] 27))
 have HB5 := Lib.hid (below_then (below_then HB3.out HB3.out.size hb4) (below_then HB3.out HB3.out.size hb4).size hb5)
 clear hFile hR hb4 hr4 hb5 hq
 go_wp2_with fail
 generalize w4.alloc (.cells #[.int .i64 T.2.1, .int .i64 T.2.2] 27) = w5 at HE5 HB5 ⊢
 generalize w4.heap.size = E1 at HE5 ⊢
 refine (HRd.out _ (HG.out.below HB5.out)).mono ?_
 rintro e w6 ⟨rfl, hb6⟩
 have h1 := blk_below HE5.out hb6
 have k10 : w6.cell? ⟨E1, 0, none⟩ = some (.int .i64 T.2.1) := (blk_cell h1 0).trans rfl
 have k11 : w6.cell? ⟨E1, 1, none⟩ = some (.int .i64 T.2.2) := (blk_cell h1 1).trans rfl
 have HB6 := Lib.hid (below_then HB5.out HB5.out.size hb6)
 clear h1 hb6 HE5
 obtain ⟨T1, T2, T3⟩ := T
 dsimp only at k10 k11 ⊢
 rcases HPR.out with hc | ⟨hc, hl0, hlo, hhi⟩
 · obtain rfl : T2 = 0 := hc
   go_wp2_with fail
   go_ret
   exact ⟨rfl, HB6.out⟩
 · have d2 : (T2 == 0) = false := by simpa using hc
   obtain rfl : T1 = [] := hl0
   have hlo2 : (0 : Int) ≤ T3 := hlo
   have hhi2 : T3 ≤ (k : Int) := hhi
   clear hc hlo hhi
   go_wp2_with fail
   go_ret
   exact ⟨rfl, HB6.out⟩

noncomputable def shipwrightlaw4_ParsePrefix.f (l : List SRule) (_ : Int) : Option Bool := open Classical in if (∀ r ∈ l, BoundRule r) ∧ ∀ r ∈ l, GoodRule r then some true else none
theorem shipwrightlaw4_ParsePrefix.calls (A : Option Addr) (c : Nat) (l : List SRule) (at_ : Int) (r : Bool) (w : World) (hG : GOK w) (hr : Kd.C k49 w A l.length l) (_hc : l.length ≤ c) (h : shipwrightlaw4_ParsePrefix.f l at_ = some r) :
 Calls Tryz.prog 13 #[.slice A l.length c, .int .i64 at_] w fun e w' => e = .returned (.bool r) ∧ Below w.heap.size w w' := by
 unfold shipwrightlaw4_ParsePrefix.f at h
 split at h
 · rename_i hs
   obtain rfl := Option.some.inj h
   exact parsePrefix_walk A c l at_ w hG hr hs.1 hs.2
 · cases h
theorem pure_ParsePrefix (l : List SRule) (at_ : Int) (h0 : l.length * 112 ≤ 140737488351232 ∧ ∀ y ∈ l, BoundRule y) (hg : ∀ y ∈ l, GoodRule y) {p : Prop} (_ : p) : shipwrightlaw4_ParsePrefix.f l at_ = some true := by
 unfold shipwrightlaw4_ParsePrefix.f
 rw [if_pos ⟨h0.2, hg⟩]

end Go.Proofs.YthagibkmfgodgaaGreatDoor.X
