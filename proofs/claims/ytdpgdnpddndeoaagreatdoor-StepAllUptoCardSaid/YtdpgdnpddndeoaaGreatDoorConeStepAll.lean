/-
  Closed facts of the row of StepAll. Written by splitcard.py.
-/
import Derived.Test.YtdpgdnpddndeoaaGreatDoorCards
import Derived.Test.YtdpgdnpddndeoaaGreatDoorTie
import Derived.Test.YtdpgdnpddndeoaaGreatDoorQ0
import Derived.WalkKit
import Derived.ProofKit
import Derived.OpenShut
import Derived.ShutString
import Derived.ChangeOld
import Derived.Below
import Derived.SizedLaws
import Derived.Deep.DeepHandedRow
import Derived.Deep.DeepWitnessRowRef
import Derived.SevenTiedAt
namespace Go.Proofs.YtdpgdnpddndeoaaGreatDoor.stepAllCard
open Go.ChangeShapes Go.WideShapes Go.ChangeAt Go.RowKit Go.Proofs.YtdpgdnpddndeoaaGreatDoor.X
open Go.ChangeMaps (open_string shut_string)
theorem cl1 : (Rows.stepAllUptoRow.inPlace == Tryz.prog.inPlace 3) = true := by kernel_rfl
theorem cl2 : (Rows.stepAllUptoRow.unfollowed == Tryz.prog.unfollowed 3) = true := by kernel_rfl
theorem cl3 : (Rows.stepAllUptoRow.recurses == Tryz.prog.recurses 3) = true := by kernel_rfl
theorem cl4 : (Rows.stepAllUptoRow.named == Tryz.prog.varsNamed 3) = true := by kernel_rfl
theorem closed : joinedFacts Tryz.prog 3 Tryz.f3 (Rows.OpenSpec.upto Rows.stepAllSpec).bare Rows.stepAllUptoRow = true := by
  unfold joinedFacts
  rw [cl1, cl2, cl3, cl4, fact_laid, fact_rowed, fact_keys, fact_heard, fact_enter, fact_lifts, fact_make, fact_stops, fact_knobs]
  kernel_rfl
end Go.Proofs.YtdpgdnpddndeoaaGreatDoor.stepAllCard
