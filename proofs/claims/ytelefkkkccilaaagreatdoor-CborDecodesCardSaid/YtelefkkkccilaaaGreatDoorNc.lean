/- The law CborOne, walked. -/
import Derived.Test.YtelefkkkccilaaaGreatDoorLN
import Derived.Test.YtelefkkkccilaaaGreatDoorLP
import Derived.Test.YtelefkkkccilaaaGreatDoorZy
import Derived.Test.YtelefkkkccilaaaGreatDoorNa
import Derived.Test.YtelefkkkccilaaaGreatDoorNb
set_option linter.unusedVariables false
set_option linter.unusedSimpArgs false
namespace Go.Proofs.YtelefkkkccilaaaGreatDoor
open Go.RowKit
set_option maxRecDepth 100000
theorem short_yes (a:Option Addr) (n c:Nat) (w:World) (h:n≤600):Calls Tryz.prog 41 #[.slice a n c] w fun e w'=>e=.returned (.bool true)∧w=w':=by
 have hz:(n:Int)≤600:=by omega
 go_enter Tryz.func41,Tryz.ntmps41
 go_wp2
 go_ret
 exact ⟨by simp [hz],rfl⟩
theorem short_no (a:Option Addr) (n c:Nat) (w:World) (h:¬ n≤600):Calls Tryz.prog 41 #[.slice a n c] w fun e w'=>e=.returned (.bool false)∧w=w':=by
 have hz:¬ (n:Int)≤600:=by omega
 go_enter Tryz.func41,Tryz.ntmps41
 go_wp2
 go_ret
 exact ⟨by simp,rfl⟩
end Go.Proofs.YtelefkkkccilaaaGreatDoor
