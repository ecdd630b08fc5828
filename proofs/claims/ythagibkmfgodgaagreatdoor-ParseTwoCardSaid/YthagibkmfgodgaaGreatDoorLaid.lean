/-
  What a row of this seat lists gives the walks their tables (GOK); a world for the witness that lays them.
-/
import Derived.Test.YthagibkmfgodgaaGreatDoorRows
import Derived.Test.YthagibkmfgodgaaGreatDoorGok
import Derived.Stop.LaidErr
import Derived.LaidMore
import Derived.MakeChecks
import Derived.Deep.DeepHandedRow
import Derived.Deep.DeepWitnessRowRef
namespace Go.Proofs.YthagibkmfgodgaaGreatDoor.X
open Go.RowKit Go.ChangeShapes

def laidL : List (String × DataW Unit) := [("math/bits.deBruijn32tab", Rows.laid_math_bits_deBruijn32tab), ("math/bits.deBruijn64tab", Rows.laid_math_bits_deBruijn64tab), ("internal/strconv.uint64pow10", Rows.laid_internal_strconv_uint64pow10), ("unicode/utf8.acceptRanges", Rows.laid_unicode_utf8_acceptRanges), ("strconv.ErrRange", Rows.laid_strconv_ErrRange), ("strconv.ErrSyntax", Rows.laid_strconv_ErrSyntax), ("unicode/utf8.first", Rows.laid_unicode_utf8_first)]
theorem gLaid : laidMetH Tryz.prog laidL = laidMet Tryz.prog laidL := funext fun w => MakeChecks.laidMetH_plain _ _ w (by kernel_rfl)

theorem typPow : (Tryz.prog.globals[3]?).map (·.type) = some 203 := by kernel_rfl
theorem typSyn : (Tryz.prog.globals[1]?).map (·.type) = some 131 := by kernel_rfl
theorem typRan : (Tryz.prog.globals[2]?).map (·.type) = some 131 := by kernel_rfl

theorem int_of_shape {P : Program} {w : World} {g : Nat} {t : TypeId} {zero : Array Value} (h : w.ShapedOpen P) (hg : g < P.globals.size)
    (h0 : ((begin P (fun _ _ => 0) default).world.heap[g]?).bind Obj.row? = some (zero, t)) (hz : zero.size = 1)
    (hb : P.buildable t = true) (hc : P.cellTypes P.depth t = some [t]) (hu : P.underlying t = some (.int .i64)) : ∃ m : Int, w.cell? ⟨g, 0, none⟩ = some (.int .i64 m) := by
  obtain ⟨cs, hh, hs, hr⟩ := h.1 g zero t hg h0
  obtain ⟨ts, hts, _, hall⟩ := hr hb
  rw [hc] at hts
  cases hts
  have h1 : 0 < cs.size := by omega
  obtain ⟨u, hu', hok⟩ := hall 0 cs[0] (by simp [h1])
  have : u = t := by simpa using hu'.symm
  subst this
  have hcell : w.cell? ⟨g, 0, none⟩ = some cs[0] := by simp [World.cell?, hh, h1]
  rw [hcell]
  unfold Cell.ok at hok
  rw [hu] at hok
  cases hv : cs[0] <;> rw [hv] at hok <;> first | exact ⟨_, rfl⟩ | simp at hok
  rename_i k m
  obtain ⟨rfl, _⟩ := hok
  exact ⟨_, rfl⟩
theorem star : "*" ++ "errors.errorString" = "*errors.errorString" := by decide
theorem errName (u : TypeId) (h : Tryz.prog.typeName? 3 u = some "*errors.errorString") : u = 215 :=
  typeName_ptr_named (nm := "errors.errorString") (by rw [star]; kernel_rfl) (by kernel_rfl) (by decide) u (by rw [star]; exact h)

set_option maxRecDepth 100000 in
theorem gok {W : World} (hL : laidMetH Tryz.prog laidL W) (hS : W.ShapedOpen Tryz.prog) : GOK W := by
  rw [gLaid] at hL
  have h5 := hL.tail.tail
  have hpow : Lib.TabIs Tryz.prog W "internal/strconv.uint64pow10" .u64 Lib.pow10Tab :=
    Lib.tabIs_of_head gPow typPow Tryz.underlying203 Tryz.underlying179 (by kernel_rfl) (by kernel_rfl) h5
  refine ⟨int_of_shape (zero := #[.int .i64 0]) (t := 3) hS (of_decide_eq_true (by kernel_rfl)) (by kernel_rfl) rfl (by kernel_rfl) (by kernel_rfl) Tryz.underlying3, hpow, ?_, ?_, ?_⟩
  · have := hpow.cell gPow 0 (by decide)
    exact World.block_lt_of_cell? W _ this
  · obtain ⟨a, s, hv, _⟩ := laid_sentinel (g := 1) (ti := 131) (tp := 215) (te := 217) (ts := 9) h5.tail.tail.tail gSyn typSyn Tryz.underlying131 errName Tryz.underlying215 Tryz.underlying217 rfl rfl Tryz.underlying9 (by kernel_rfl) (by kernel_rfl)
    exact ⟨_, _, by simpa using World.var?_cell gSyn hv 0⟩
  · obtain ⟨a, s, hv, _⟩ := laid_sentinel (g := 2) (ti := 131) (tp := 215) (te := 217) (ts := 9) h5.tail.tail gRan typRan Tryz.underlying131 errName Tryz.underlying215 Tryz.underlying217 rfl rfl Tryz.underlying9 (by kernel_rfl) (by kernel_rfl)
    exact ⟨_, _, by simpa using World.var?_cell gRan hv 0⟩

theorem own : ownKnob Tryz.prog.godebug = none := by kernel_rfl
theorem laidOut : laidOutB Tryz.prog = true := by kernel_rfl
/-- The pinned table's cells. -/
def firstCell : DataW Unit → Value
  | .lit (.int k n) => .int k n
  | _ => .bool false
def firstCells : Array Value := match (Rows.laid_unicode_utf8_first : DataW Unit) with
  | .agg l => (l.map firstCell).toArray
  | _ => #[]
/-- A world for the witness: the heap that the door's own run leaves, and the pinned table in its place. -/
noncomputable def startW (os : Os) : World :=
  { World.doorLaid Tryz.prog 72 os with heap := (World.doorLaid Tryz.prog 72 os).heap.modify 4 fun
      | .cells _ t frozen => .cells firstCells t frozen
      | o => o }
theorem start_met (os : Os) (args : Array Value) : laidMetH Tryz.prog laidL ((startW os).forCall (fun _ _ => 0) ⟨#[], args, []⟩).memory := by
  rw [gLaid]
  exact laidMet_of_run' 8 (by kernel_rfl) (by kernel_rfl)

end Go.Proofs.YthagibkmfgodgaaGreatDoor.X
