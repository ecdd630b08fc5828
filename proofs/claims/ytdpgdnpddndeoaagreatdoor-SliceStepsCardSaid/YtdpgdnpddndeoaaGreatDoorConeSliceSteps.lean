/-
  Closed facts of the row of SliceSteps. Written by splitcard.py.
-/
import Derived.Test.YtdpgdnpddndeoaaGreatDoorCards
import Derived.Test.YtdpgdnpddndeoaaGreatDoorTie
import Derived.Test.YtdpgdnpddndeoaaGreatDoorV0
import Derived.WalkKit
import Derived.ProofKit
import Derived.OpenShut
import Derived.ShutString
import Derived.ChangeOld
import Derived.Below
import Derived.SizedLaws
import Derived.Deep.DeepHandedRow
import Derived.Deep.DeepWitnessRowRef
import Derived.SevenTiedAt
namespace Go.Proofs.YtdpgdnpddndeoaaGreatDoor.sliceStepsCard
open Go.ChangeShapes Go.WideShapes Go.ChangeAt Go.RowKit Go.Proofs.YtdpgdnpddndeoaaGreatDoor.X
open Go.ChangeMaps (open_string shut_string)
theorem cl1 : (Rows.sliceStepsRow.inPlace == Tryz.prog.inPlace 15) = true := by kernel_rfl
theorem cl2 : (Rows.sliceStepsRow.unfollowed == Tryz.prog.unfollowed 15) = true := by kernel_rfl
theorem cl3 : (Rows.sliceStepsRow.recurses == Tryz.prog.recurses 15) = true := by kernel_rfl
theorem cl4 : (Rows.sliceStepsRow.named == Tryz.prog.varsNamed 15) = true := by kernel_rfl
theorem closed : joinedFacts Tryz.prog 15 Tryz.f15 (OpenSpec.ofChange Rows.sliceStepsSpec).bare Rows.sliceStepsRow = true := by
  unfold joinedFacts
  rw [cl1, cl2, cl3, cl4, fact_laid, fact_rowed, fact_keys, fact_heard, fact_enter, fact_lifts, fact_make, fact_stops, fact_knobs]
  kernel_rfl
end Go.Proofs.YtdpgdnpddndeoaaGreatDoor.sliceStepsCard
