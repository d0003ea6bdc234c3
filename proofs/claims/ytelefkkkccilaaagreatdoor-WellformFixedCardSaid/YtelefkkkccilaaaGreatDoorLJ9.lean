/- What LJ holds besides. -/
import Derived.Test.YtelefkkkccilaaaGreatDoorLJ
import Derived.Test.YtelefkkkccilaaaGreatDoorLA9
set_option linter.unusedVariables false
set_option linter.unusedSimpArgs false
namespace Go.Proofs.YtelefkkkccilaaaGreatDoor
open Go.RowKit
set_option maxRecDepth 100000
end Go.Proofs.YtelefkkkccilaaaGreatDoor
