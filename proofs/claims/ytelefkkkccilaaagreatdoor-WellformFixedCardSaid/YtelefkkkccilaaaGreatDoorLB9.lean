/- What LB holds besides. -/
import Derived.Test.YtelefkkkccilaaaGreatDoorLB
import Derived.Test.YtelefkkkccilaaaGreatDoorLA9
set_option linter.unusedVariables false
set_option linter.unusedSimpArgs false
namespace Go.Proofs.YtelefkkkccilaaaGreatDoor
open Go.RowKit
theorem below_grownD {n b:Nat} {w W W':World} {e size:Nat} {v:Value} {k:Nat} {xs:List Value} (h1:Below n w W) (hn:n≤w.heap.size) (hown:W.ownsRow b e size v k xs) (hb:n≤b) (hgr:W.drew.grownBy W' v.ownBlock):Below n w W':=
 ⟨hgr.os.trans h1.os,hgr.tape.trans h1.tape,hgr.output.trans h1.output,Nat.le_trans h1.size hgr.size,fun i hi=>by
  rcases Nat.lt_or_ge i W.heap.size with hl | hl
  ·exact (hgr.block i hl fun e=>by have:=(olt hown e.symm).2.1;omega).trans (h1.block i hi)
  ·have:=h1.size;omega⟩
set_option maxRecDepth 100000
end Go.Proofs.YtelefkkkccilaaaGreatDoor
