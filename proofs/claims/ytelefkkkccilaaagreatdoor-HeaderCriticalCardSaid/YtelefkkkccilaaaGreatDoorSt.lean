/- The law HeaderValid, walked. -/
import Derived.Test.YtelefkkkccilaaaGreatDoorSp
set_option linter.all false
namespace Go.Proofs.YtelefkkkccilaaaGreatDoor
open Go.RowKit
set_option maxRecDepth 100000
section
variable {o:Oper} {ρ:Operand→Value} {w:World}
theorem doesh_neqE {ok:Nat→Prop} (x y:Operand) (s:Int) (ho:o.op=.binOp .neq 32 x y 32) (hx:ρ x=.int .i64 s) (hy:ρ y=.int .i64 s):Rg.Does Tryz.prog o ρ w fun v' w'=>RB' w w'∧True∧(Fh.eq (.bool false)).holds ok v' w':=by
 refine doesh_val ?_ rfl;simp only [execOp,ho,hx,hy];go_simp
end
