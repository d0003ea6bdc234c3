/- Reading, a step at a time. -/
import Derived.Test.YtelefkkkccilaaaGreatDoorLA
set_option linter.unusedVariables false
set_option linter.unusedSimpArgs false
