/- The law CborDecodes, walked. -/
import Derived.Test.YtelefkkkccilaaaDoorLN
import Derived.Test.YtelefkkkccilaaaDoorLP
import Derived.Test.YtelefkkkccilaaaDoorZy
import Derived.Test.YtelefkkkccilaaaDoorNa
import Derived.Test.YtelefkkkccilaaaDoorNb
import Derived.Test.YtelefkkkccilaaaDoorRe
import Derived.Test.YtelefkkkccilaaaDoorZa
import Derived.Test.YtelefkkkccilaaaDoorNz
set_option linter.unusedVariables false
set_option linter.unusedSimpArgs false
namespace Go.Proofs.YtelefkkkccilaaaDoor
open Go.RowKit
set_option maxRecDepth 100000
theorem DecP.out (R:It.DR):∃ (x:It) (k:Int),∀ w e w',DecP R w e w'→∃ A:Ad,e=.returned (.tuple #[.agg #[.int .i64 x.kind,.int .u64 (x.num:Int),.slice A.ab A.nb A.cb,.slice A.ai A.ni A.ci],.int .i64 k])∧IR (fun _=>True) w' x A∧Below w.heap.size w w':=by
 cases R with
 | err n=>exact ⟨.mk 0 0 [] [],n,fun w e w' h=>⟨⟨none,0,0,none,0,0⟩,h.2.2,IR.flat _ _ (by omega),h.1⟩⟩
 | ok x=>
  refine ⟨x,0,fun w e w' h=>?_⟩;obtain ⟨h3,A,h1,h2⟩:=h;exact ⟨A,h1,h2.imp fun _ _ _=>trivial,h3⟩
theorem PrefP.out (l:List UInt8) (R:It.PR It):∃ (x:It) (j k:Int),∀ w e w',PrefP l R w e w'→∃ A:Ad,e=.returned (.tuple #[.agg #[.int .i64 x.kind,.int .u64 (x.num:Int),.slice A.ab A.nb A.cb,.slice A.ai A.ni A.ci],.int .i64 j,.int .i64 k])∧IR (fun _=>True) w' x A∧Below w.heap.size w w':=by
 cases R with
 | err n=>exact ⟨.mk 0 0 [] [],0,n,fun w e w' h=>⟨⟨none,0,0,none,0,0⟩,h.2.2,IR.flat _ _ (by omega),h.1⟩⟩
 | ok x f s=>
  refine ⟨x,((l.length - s.length:Nat):Int),0,fun w e w' h=>?_⟩;obtain ⟨h3,A,j,h1,h2,h4,h5⟩:=h;have:j=l.length - s.length:=by rw [h5,List.length_drop];omega
  subst this;exact ⟨A,h1,h2.imp fun _ _ _=>trivial,h3⟩
end Go.Proofs.YtelefkkkccilaaaDoor
