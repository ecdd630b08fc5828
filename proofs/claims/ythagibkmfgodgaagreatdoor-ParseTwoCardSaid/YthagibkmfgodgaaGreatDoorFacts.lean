/-
  Closed facts of the seat's program, once for all its cards (the kernel gives its memory back behind each).
-/
import Derived.Test.YthagibkmfgodgaaGreatDoorLaid
import Derived.JoinedCond
namespace Go.Proofs.YthagibkmfgodgaaGreatDoor.X
open Go Go.Proofs
theorem fact_laid : laidOutB Tryz.prog = true := by kernel_rfl
theorem fact_rowed : mapsRowed Tryz.prog = true := by kernel_rfl
theorem fact_keys : Tryz.prog.plainKeys = Rows.printNoneRow.plainKeys := by kernel_rfl
theorem fact_heard : Tryz.prog.stopsHeard = true := by kernel_rfl
theorem fact_enter : Tryz.prog.mayEnter = true := by kernel_rfl
theorem fact_lifts : Tryz.prog.liftsFinal = Rows.printNoneRow.lifted := by kernel_rfl
theorem fact_make : Tryz.prog.make = some Rows.printNoneRow.make := by kernel_rfl
theorem fact_stops : Tryz.prog.stops = [] := by kernel_rfl
theorem fact_knobs : Tryz.prog.stopKnobs = [] := by kernel_rfl

end Go.Proofs.YthagibkmfgodgaaGreatDoor.X
