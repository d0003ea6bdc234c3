/- The walk of the reference's look at an item with elements. -/
import Derived.Test.YtelefkkkccilaaaDoorXe
set_option linter.unusedVariables false
set_option linter.unusedSimpArgs false
namespace Go.Proofs.YtelefkkkccilaaaDoor
open Go.RowKit
set_option maxRecDepth 100000
def LK (d:Nat) (ks:List It) (R:Bool) (M ni:Nat) (w:World) (n i:Value) (W:World):Prop:=∃ j m:Nat,i=.int .i64 (j:Int)∧n=.int .i64 (m:Int)∧j≤ni∧It.okSL d (ks.drop j) m=R∧m + It.nodesL ks=M + It.nodesL (ks.drop j)∧m≤256∧Below w.heap.size w W
theorem LK.stop {d:Nat} {ks:List It} {R:Bool} {m:Nat} (h:It.okSL d (ks.drop ks.length) m=R):R=true:=by
 rw [List.drop_length] at h;rw [← h];simp [It.okSL,It.wfs,It.sts,It.nodesL]
end Go.Proofs.YtelefkkkccilaaaDoor
