/-
  Arguments that are rows of Ops (a kind, a name, bytes).
-/
import Derived.Test.YtobbliglnjgbaaaGreatDoorRead
import Derived.Deep.Strs
namespace Go.Proofs.YtobbliglnjgbaaaGreatDoor.X
open Go.RowKit Go.ChangeShapes Go.WideShapes Go.Deep Go.Proofs.YtobbliglnjgbaaaGreatDoorW.PrintWords

instance : Inhabited S48 := ⟨z48⟩
def eOp {H : Type} (y : S48) : DataW H := .agg [.lit (.int .i64 y.f0), .lit (.string y.f1.data.toList), .lit (.string y.f2.data.toList)]
theorem three_cells {cs : List Value} (h : cs.length = 3) : ∃ a b c, cs = [a, b, c] := by
  match cs, h with
  | [a, b, c], _ => exact ⟨a, b, c, rfl⟩
theorem open_ops {H : Type} {enc : TypeId × Value → H} {W : World} {base : Nat} {held : Bool} {v : Value} {d : DataW H} {ps : List MemPlace} (hv : ∃ a len cap, v = Value.slice a len cap)
    (h : DataW.Trod enc Tryz.prog W base (fun _ => true) held 59 v d ps) :
    ∃ (a : Option Addr) (l : List S48) (c : Nat), v = .slice a l.length c ∧ Kd.C k48 W a l.length l ∧ l.length ≤ c ∧ RowD (eOp (H := H)) l d ∧ ∀ y ∈ l, y.f1.size ≤ maxLen ∧ y.f2.size ≤ maxLen :=
  open_rowG k48 eOp (fun y => y.f1.size ≤ maxLen ∧ y.f2.size ≤ maxLen) Tryz.underlying59 (by kernel_rfl) (fun n cs x p hl hx => by
    obtain ⟨y0, y1, y2, m, h1, _, h2, h3, h4⟩ := trod_struct3 Tryz.underlying48 hx
    obtain ⟨ca, cb, cc, rfl⟩ := three_cells hl
    have c1 : Tryz.prog.cellsOf 3 = 1 := by kernel_rfl
    have c2 : Tryz.prog.cellsOf 9 = 1 := by kernel_rfl
    simp only [c1, c2, List.drop_zero, List.drop_succ_cons, List.take_succ_cons, List.take_zero] at h2 h3 h4
    obtain ⟨b, e1, e2, _⟩ := DataW.trod_int Tryz.underlying3 h2
    obtain ⟨s, e3, e4, e5⟩ := DataW.trod_string Tryz.underlying9 h3
    obtain ⟨t, e6, e7, e8⟩ := DataW.trod_string Tryz.underlying9 h4
    refine ⟨⟨b, s, t⟩, ?_, ?_, e5, e8⟩
    · cases e1; cases e3; cases e6
      exact k48_mk W ⟨b, s, t⟩
    · rw [(Prod.mk.inj h1).1, e2, e4, e7]
      rfl) hv h
theorem bulk_op {H : Type} (y : S48) : (y.f1.size + y.f2.size) + 1 ≤ Rows.uptoBulk (eOp (H := H) y) := by
  have h0 := Lib.size_eq y.f1
  have h1 := Lib.size_eq y.f2
  simp only [eOp, Rows.uptoBulk, Rows.uptoBulkAll]
  omega

end Go.Proofs.YtobbliglnjgbaaaGreatDoor.X
