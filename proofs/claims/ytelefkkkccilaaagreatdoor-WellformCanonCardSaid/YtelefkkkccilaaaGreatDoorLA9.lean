/- What LA holds besides. -/
import Derived.Test.YtelefkkkccilaaaGreatDoorLA
set_option linter.unusedVariables false
set_option linter.unusedSimpArgs false
namespace Go.Proofs.YtelefkkkccilaaaGreatDoor
namespace Fl
set_option maxRecDepth 100000
end Fl
namespace It
set_option maxRecDepth 100000
end It
namespace It
set_option maxRecDepth 100000
end It
namespace It
end It
namespace It
end It
end Go.Proofs.YtelefkkkccilaaaGreatDoor
