/- Reading, a step at a time. -/
import Derived.Test.YtelefkkkccilaaaGreatDoorLA
set_option linter.all false
