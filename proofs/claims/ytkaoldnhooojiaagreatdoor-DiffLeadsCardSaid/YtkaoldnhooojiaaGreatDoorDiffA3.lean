
/- DiffA3: the reference's DiffOf. -/
import Derived.Test.YtkaoldnhooojiaaGreatDoorDiffA2
namespace Go.Proofs.YtkaoldnhooojiaaGreatDoor
open Go.RowKit
set_option linter.unusedVariables false
set_option linter.unusedSimpArgs false

end Go.Proofs.YtkaoldnhooojiaaGreatDoor
