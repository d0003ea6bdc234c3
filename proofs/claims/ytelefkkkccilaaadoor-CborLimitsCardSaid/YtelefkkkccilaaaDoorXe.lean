/- The walk of the reference's look at an item: the items that are left. -/
import Derived.Test.YtelefkkkccilaaaDoorLF
import Derived.Test.YtelefkkkccilaaaDoorLG
import Derived.Test.YtelefkkkccilaaaDoorLA
set_option linter.unusedVariables false
set_option linter.unusedSimpArgs false
namespace Go.Proofs.YtelefkkkccilaaaDoor
open Go.RowKit
set_option maxRecDepth 100000
def LP (r:Int) (w:World) (e:Ending) (w':World):Prop:=e=.returned (.int .i64 r)∧Below w.heap.size w w'
end Go.Proofs.YtelefkkkccilaaaDoor
