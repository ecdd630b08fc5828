/-
  Closed facts of the row of StepFail. Written by splitcard.py.
-/
import Derived.Test.YtdpgdnpddndeoaaGreatDoorCards
import Derived.Test.YtdpgdnpddndeoaaGreatDoorTie
import Derived.Test.YtdpgdnpddndeoaaGreatDoorY0
import Derived.WalkKit
import Derived.ProofKit
import Derived.OpenShut
import Derived.ShutString
import Derived.ChangeOld
import Derived.Below
import Derived.SizedLaws
import Derived.Deep.DeepHandedRow
import Derived.Deep.DeepWitnessRowRef
import Derived.SevenTiedAt
namespace Go.Proofs.YtdpgdnpddndeoaaGreatDoor.stepFailCard
open Go.ChangeShapes Go.WideShapes Go.ChangeAt Go.RowKit Go.Proofs.YtdpgdnpddndeoaaGreatDoor.X
open Go.ChangeMaps (open_string shut_string)
theorem cl1 : (Rows.stepFailRow.inPlace == Tryz.prog.inPlace 9) = true := by kernel_rfl
theorem cl2 : (Rows.stepFailRow.unfollowed == Tryz.prog.unfollowed 9) = true := by kernel_rfl
theorem cl3 : (Rows.stepFailRow.recurses == Tryz.prog.recurses 9) = true := by kernel_rfl
theorem cl4 : (Rows.stepFailRow.named == Tryz.prog.varsNamed 9) = true := by kernel_rfl
theorem closed : joinedFacts Tryz.prog 9 Tryz.f9 (OpenSpec.ofChange Rows.stepFailSpec).bare Rows.stepFailRow = true := by
  unfold joinedFacts
  rw [cl1, cl2, cl3, cl4, fact_laid, fact_rowed, fact_keys, fact_heard, fact_enter, fact_lifts, fact_make, fact_stops, fact_knobs]
  kernel_rfl
end Go.Proofs.YtdpgdnpddndeoaaGreatDoor.stepFailCard
