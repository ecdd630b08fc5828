/-
  What the library's tables hold, as one premise (GOK): the cell of internal/bytealg.MaxLen holds some int, internal/strconv.uint64pow10 its powers of ten, strconv.ErrSyntax and strconv.ErrRange some error each; it lives on in every later world that keeps what lay below the heap's end.
-/
import Derived.Test.YthagibkmfgodgaaGreatDoorProg
import Derived.WalkSmall
import Derived.Lib.LaidTab
import Derived.Lib.ItoaNum
import Derived.Shelf.Vars
import Derived.KernelRfl
namespace Go.Proofs.YthagibkmfgodgaaGreatDoor.X
open Go.RowKit

theorem gMax : Tryz.prog.globalNamed "internal/bytealg.MaxLen" = some 0 := by kernel_rfl
theorem gPow : Tryz.prog.globalNamed "internal/strconv.uint64pow10" = some 3 := by kernel_rfl
theorem gSyn : Tryz.prog.globalNamed "strconv.ErrSyntax" = some 1 := by kernel_rfl
theorem gRan : Tryz.prog.globalNamed "strconv.ErrRange" = some 2 := by kernel_rfl

/-- The library's tables stand in this world. -/
structure GOK (w : World) : Prop where
  maxLen : ∃ m : Int, w.cell? ⟨0, 0, none⟩ = some (.int .i64 m)
  pow10 : Lib.TabIs Tryz.prog w "internal/strconv.uint64pow10" .u64 Lib.pow10Tab
  powLt : 3 < w.heap.size
  errS : ∃ te pe, w.cell? ⟨1, 0, none⟩ = some (.iface te pe)
  errR : ∃ te pe, w.cell? ⟨2, 0, none⟩ = some (.iface te pe)

theorem cell_keeps {w w1 : World} (h : Below w.heap.size w w1) {a : Addr} {v : Value} (hc : w.cell? a = some v) : w1.cell? a = some v := (h.cell (World.block_lt_of_cell? w a hc)).trans hc

theorem GOK.below {w w1 : World} (h : GOK w) (hb : Below w.heap.size w w1) : GOK w1 := by
  obtain ⟨⟨m, hm⟩, hp, hlt, ⟨t1, p1, h1⟩, ⟨t2, p2, h2⟩⟩ := h
  exact ⟨⟨m, cell_keeps hb hm⟩, var?_below hb gPow hlt hp, Nat.lt_of_lt_of_le hlt hb.size, ⟨t1, p1, cell_keeps hb h1⟩, ⟨t2, p2, cell_keeps hb h2⟩⟩
theorem GOK.drewN {w : World} (h : GOK w) (n : Nat) : GOK (w.drewN n) := h.below (below_drewN (Below.refl _ _) n)
theorem GOK.drew {w : World} (h : GOK w) : GOK w.drew := h.below ⟨rfl, rfl, rfl, Nat.le_refl _, fun _ _ => rfl⟩
theorem GOK.alloc {w : World} (h : GOK w) (o : Obj) : GOK (w.alloc o) := h.below ((Below.refl _ _).alloc (Nat.le_refl _) o)

end Go.Proofs.YthagibkmfgodgaaGreatDoor.X
