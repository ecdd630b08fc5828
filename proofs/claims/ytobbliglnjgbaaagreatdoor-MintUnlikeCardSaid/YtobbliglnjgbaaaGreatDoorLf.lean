-- By xprint.py (this session's driver of the kit's print): out of the translation; Lean checks it.
import Derived.Test.YtobbliglnjgbaaaGreatDoorLf0
import Derived.Test.YtobbliglnjgbaaaGreatDoorLf1
import Derived.Test.YtobbliglnjgbaaaGreatDoorLf2
namespace Go.Proofs.YtobbliglnjgbaaaGreatDoor.Lf
open Go.Proofs.YtobbliglnjgbaaaGreatDoor.X Go.Proofs.YtobbliglnjgbaaaGreatDoor.Pb Go.Proofs.YtobbliglnjgbaaaGreatDoor.Pc
open Go.RowKit Go.Proofs.YtobbliglnjgbaaaGreatDoorW.PrintWords Go.Proofs.YtobbliglnjgbaaaGreatDoorW.PrintLast Go.Proofs.YtobbliglnjgbaaaGreatDoorW.PrintMore
attribute [local go_sem] max2_int min2_int max_two min_two max_three min_three max_four min_four   -- for this text's walks alone
set_option linter.unusedVariables false
set_option linter.unusedSimpArgs false

end Go.Proofs.YtobbliglnjgbaaaGreatDoor.Lf
