/-
  Arguments that are rows: what a row's reading gives the walks (Kd.C), and its bulk.
-/
import Derived.Test.YtobbliglnjgbaaaGreatDoorRows
import Derived.Test.YtobbliglnjgbaaaGreatDoorK0
import Derived.Test.YtobbliglnjgbaaaGreatDoorSpec
import Derived.Deep.Slices
import Derived.ChangeSame
import Derived.SizedLaws
namespace Go.Proofs.YtobbliglnjgbaaaGreatDoor.X
open Go.RowKit Go.ChangeShapes Go.WideShapes Go.Deep Go.Proofs.YtobbliglnjgbaaaGreatDoorW.PrintWords

theorem addr_add (a : Addr) (i j : Nat) : (a.add i).add j = a.add (i + j) := by
  unfold Addr.add
  by_cases hi : i = 0 <;> by_cases hj : j = 0 <;> simp [hi, hj, Nat.add_assoc]
section
variable {H : Type} {enc : TypeId × Value → H} {W : World} {α : Type}
/-- What a row reads as: nil, or its elements and its spare places. -/
def RowD (E : α → DataW H) (l : List α) (d : DataW H) : Prop := (d = .nil ∧ l = []) ∨ ∃ sp, d = .slice (l.map E) sp
theorem open_rowG [Inhabited α] (K : Kd α) (E : α → DataW H) (good : α → Prop) {P : Program} {base : Nat} {held : Bool} {t e : TypeId} {v : Value} {d : DataW H} {ps : List MemPlace}
    (ht : P.underlying t = some (.slice e)) (hce : P.cellsOf e = K.sz)
    (hel : ∀ n cs x p, cs.length = K.sz → DataW.trod enc P W base (fun _ => true) held n e cs = some (x, p) → ∃ y : α, K.K W y cs ∧ x = E y ∧ good y)
    (hv : ∃ a len cap, v = .slice a len cap) (h : DataW.Trod enc P W base (fun _ => true) held t v d ps) :
    ∃ (a : Option Addr) (l : List α) (c : Nat), v = .slice a l.length c ∧ K.C W a l.length l ∧ l.length ≤ c ∧ RowD E l d ∧ ∀ y ∈ l, good y := by
  obtain ⟨a0, len0, cap0, rfl⟩ := hv
  obtain ⟨fuel, hf⟩ := h
  rcases open_slice ht hf with ⟨hcs, hx⟩ | ⟨a, len, cap, m, n, D, Pl, hcs, hb, hl, hm, hmm, hx, hall⟩
  · simp [Value.cells] at hcs
    obtain ⟨rfl, rfl, rfl⟩ := hcs
    have := (Prod.mk.inj hx).1
    exact ⟨none, [], 0, rfl, ⟨rfl, by simp, fun h => by simp at h⟩, Nat.le_refl _, .inl ⟨this, rfl⟩, fun y hy => by cases hy⟩
  · simp [Value.cells] at hcs
    obtain ⟨rfl, rfl, rfl⟩ := hcs
    obtain ⟨hx1, _⟩ := Prod.mk.inj hx
    have hlm : len0 ≤ m := by rw [hmm]; simp; omega
    obtain ⟨Y, hY⟩ := choose_lt (α := α) (n := len0) (p := fun i y => ∃ cs, W.cells? base (a.add (i * K.sz)) K.sz = some cs ∧ K.K W y cs ∧ D i = E y ∧ good y) (fun i hi => by
      obtain ⟨cs, h1, h2⟩ := hall i (by omega)
      rw [hce] at h1
      obtain ⟨_, hlen, _⟩ := World.cells?_some h1
      obtain ⟨y, h3, h4, h5⟩ := hel n cs _ _ hlen h2
      exact ⟨y, cs, h1, h3, h4, h5⟩)
    have hle : len0 ≤ 9223372036854775807 := by unfold maxLen at hm; omega
    refine ⟨some a, (List.range len0).map Y, cap0, by simp, ?_, by simpa using hl, .inr ⟨(List.range (m - len0)).map fun j => D (len0 + j), hx1.trans ?_⟩, ?_⟩
    · refine ⟨rfl, by simpa using hle, fun _ => ⟨a, rfl, fun j p hj => ?_⟩⟩
      obtain ⟨hjl, hjp⟩ := List.getElem?_eq_some_iff.1 hj
      have hjn : j < len0 := by simpa using hjl
      have hp : Y j = p := by simpa using hjp
      obtain ⟨cs, h1, h2, _, _⟩ := hY j hjn
      rw [hp] at h2
      obtain ⟨_, hlen, hcell⟩ := World.cells?_some h1
      refine ⟨cs, hlen, h2, fun i u hu => ?_⟩
      have hi : i < K.sz := by rw [← hlen]; exact (List.getElem?_eq_some_iff.1 hu).1
      have := hcell i hi
      rw [hu] at this
      rw [← this, addr_add]
    · congr 1
      rw [List.map_map]
      refine List.map_congr_left fun i hi => ?_
      obtain ⟨_, _, _, h3, _⟩ := hY i (List.mem_range.1 hi)
      exact h3
    · intro y hy
      obtain ⟨i, hi, rfl⟩ := List.mem_map.1 hy
      obtain ⟨_, _, _, _, h4⟩ := hY i (List.mem_range.1 hi)
      exact h4

/-- The bulk of a row. -/
theorem RowD.bulk {E : α → DataW H} {l : List α} {d : DataW H} (h : RowD E l d) (wt : α → Nat) (hw : ∀ y, wt y + 1 ≤ Rows.uptoBulk (E y)) : (l.map wt).sum + l.length ≤ Rows.uptoBulk d := by
  have key : ∀ r : List α, (r.map wt).sum + r.length ≤ Rows.uptoBulkAll (r.map E) := by
    intro r
    induction r with
    | nil => simp [Rows.uptoBulkAll]
    | cons y r ih =>
      have := hw y
      simp only [List.map_cons, List.sum_cons, List.length_cons, Rows.uptoBulkAll]
      omega
  rcases h with ⟨rfl, rfl⟩ | ⟨sp, rfl⟩
  · simp
  · have := key l
    simp only [Rows.uptoBulk]
    omega
end

/-! ### strings -/
def eStr {H : Type} (s : ByteArray) : DataW H := .lit (.string s.data.toList)
theorem open_strs {H : Type} {enc : TypeId × Value → H} {W : World} {base : Nat} {held : Bool} {v : Value} {d : DataW H} {ps : List MemPlace} (hv : ∃ a len cap, v = Value.slice a len cap)
    (h : DataW.Trod enc Tryz.prog W base (fun _ => true) held 28 v d ps) :
    ∃ (a : Option Addr) (l : List ByteArray) (c : Nat), v = .slice a l.length c ∧ Kd.C Kd.string W a l.length l ∧ l.length ≤ c ∧ RowD (eStr (H := H)) l d ∧ ∀ y ∈ l, y.size ≤ maxLen :=
  open_rowG Kd.string eStr (fun y => y.size ≤ maxLen) Tryz.underlying28 (by kernel_rfl) (fun n cs x p _ hx => by
    obtain ⟨s, h1, h2, h3⟩ := DataW.trod_string Tryz.underlying9 hx
    exact ⟨s, h1, (Prod.mk.inj h2).1, h3⟩) hv h
instance : Inhabited S34 := ⟨z34⟩
instance : Inhabited S50 := ⟨z50⟩
def eVal {H : Type} (y : S34) : DataW H := .agg [.lit (.bool y.f0), .lit (.string y.f1.data.toList)]
def eFile {H : Type} (y : S50) : DataW H := .agg [.lit (.string y.f0.data.toList), .lit (.string y.f1.data.toList)]
theorem two_cells {cs : List Value} (h : cs.length = 2) : ∃ a b, cs = [a, b] := by
  match cs, h with
  | [a, b], _ => exact ⟨a, b, rfl⟩
theorem open_vals {H : Type} {enc : TypeId × Value → H} {W : World} {base : Nat} {held : Bool} {v : Value} {d : DataW H} {ps : List MemPlace} (hv : ∃ a len cap, v = Value.slice a len cap)
    (h : DataW.Trod enc Tryz.prog W base (fun _ => true) held 31 v d ps) :
    ∃ (a : Option Addr) (l : List S34) (c : Nat), v = .slice a l.length c ∧ Kd.C k34 W a l.length l ∧ l.length ≤ c ∧ RowD (eVal (H := H)) l d ∧ ∀ y ∈ l, y.f1.size ≤ maxLen :=
  open_rowG k34 eVal (fun y => y.f1.size ≤ maxLen) Tryz.underlying31 (by kernel_rfl) (fun n cs x p hl hx => by
    obtain ⟨y0, y1, m, h1, _, h2, h3⟩ := trod_struct2 Tryz.underlying34 hx
    obtain ⟨ca, cb, rfl⟩ := two_cells hl
    have c1 : Tryz.prog.cellsOf 4 = 1 := by kernel_rfl
    have c2 : Tryz.prog.cellsOf 9 = 1 := by kernel_rfl
    simp only [c1, c2, List.drop_zero, List.drop_succ_cons, List.take_succ_cons, List.take_zero] at h2 h3
    obtain ⟨b, e1, e2⟩ := DataW.trod_bool Tryz.underlying4 h2
    obtain ⟨s, e3, e4, e5⟩ := DataW.trod_string Tryz.underlying9 h3
    refine ⟨⟨b, s⟩, ?_, ?_, e5⟩
    · cases e1; cases e3
      exact k34_mk W ⟨b, s⟩
    · rw [(Prod.mk.inj h1).1, e2, e4]
      rfl) hv h
theorem open_files {H : Type} {enc : TypeId × Value → H} {W : World} {base : Nat} {held : Bool} {v : Value} {d : DataW H} {ps : List MemPlace} (hv : ∃ a len cap, v = Value.slice a len cap)
    (h : DataW.Trod enc Tryz.prog W base (fun _ => true) held 46 v d ps) :
    ∃ (a : Option Addr) (l : List S50) (c : Nat), v = .slice a l.length c ∧ Kd.C k50 W a l.length l ∧ l.length ≤ c ∧ RowD (eFile (H := H)) l d ∧ ∀ y ∈ l, y.f0.size ≤ maxLen ∧ y.f1.size ≤ maxLen :=
  open_rowG k50 eFile (fun y => y.f0.size ≤ maxLen ∧ y.f1.size ≤ maxLen) Tryz.underlying46 (by kernel_rfl) (fun n cs x p hl hx => by
    obtain ⟨y0, y1, m, h1, _, h2, h3⟩ := trod_struct2 Tryz.underlying50 hx
    obtain ⟨ca, cb, rfl⟩ := two_cells hl
    have c2 : Tryz.prog.cellsOf 9 = 1 := by kernel_rfl
    simp only [c2, List.drop_zero, List.drop_succ_cons, List.take_succ_cons, List.take_zero] at h2 h3
    obtain ⟨b, e1, e2, e6⟩ := DataW.trod_string Tryz.underlying9 h2
    obtain ⟨s, e3, e4, e5⟩ := DataW.trod_string Tryz.underlying9 h3
    refine ⟨⟨b, s⟩, ?_, ?_, e6, e5⟩
    · cases e1; cases e3
      exact k50_mk W ⟨b, s⟩
    · rw [(Prod.mk.inj h1).1, e2, e4]
      rfl) hv h

/-! ### bulks -/
theorem bulk_str {H : Type} (y : ByteArray) : y.size + 1 ≤ Rows.uptoBulk (eStr (H := H) y) := by
  have := Lib.size_eq y
  simp only [eStr, Rows.uptoBulk]
  omega
theorem bulk_val {H : Type} (y : S34) : y.f1.size + 1 ≤ Rows.uptoBulk (eVal (H := H) y) := by
  have := Lib.size_eq y.f1
  simp only [eVal, Rows.uptoBulk, Rows.uptoBulkAll]
  omega
theorem bulk_file {H : Type} (y : S50) : (y.f0.size + y.f1.size) + 1 ≤ Rows.uptoBulk (eFile (H := H) y) := by
  have h0 := Lib.size_eq y.f0
  have h1 := Lib.size_eq y.f1
  simp only [eFile, Rows.uptoBulk, Rows.uptoBulkAll]
  omega
theorem bulk_part {H : Type} {d : DataW H} {l : List (DataW H)} (h : d ∈ l) (hB : Rows.uptoSmall H l = true) : Rows.uptoBulk d ≤ 1048576 := by
  have hB2 : Rows.uptoBulkAll l ≤ 1048576 := by simpa [Rows.uptoSmall] using hB
  clear hB
  induction l with
  | nil => cases h
  | cons x r ih =>
    simp only [Rows.uptoBulkAll] at hB2
    rcases List.mem_cons.1 h with rfl | h
    · omega
    · exact ih h (by omega)

theorem bulk_text {H : Type} {a : ByteArray} (h : Rows.uptoBulk (DataW.lit (H := H) (.string a.data.toList)) ≤ 1048576) : a.size + 1 ≤ 1048576 := by
  have := Lib.size_eq a
  simp only [Rows.uptoBulk] at h
  omega
theorem sized_row {H : Type} {α : Type} {E : α → DataW H} {l : List α} {P : Program} {ts : List TypeId} {ds : List (DataW H)} {j : Nat} {t e : TypeId} {d : DataW H} {B : Nat}
    (hsz : (DataW.weightsEach P ts ds).all (· ≤ reachBytes) = true) (ht : ts[j]? = some t) (hd : RowD E l d) (hj : ds[j]? = some d) (hu : P.underlying t = some (.slice e)) (hB : P.bytesOf e = B) : l.length * B ≤ 140737488351232 := by
  rcases hd with ⟨_, rfl⟩ | ⟨sp, rfl⟩
  · simp
  · have z := sized_slice hsz ht hj hu
    rw [hB, List.length_map] at z
    exact Nat.le_trans (Nat.mul_le_mul_right _ (Nat.le_add_right _ _)) z

end Go.Proofs.YtobbliglnjgbaaaGreatDoor.X
