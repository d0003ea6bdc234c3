/- What LB holds besides. -/
import Derived.Test.YtelefkkkccilaaaGreatDoorLB
import Derived.Test.YtelefkkkccilaaaGreatDoorLA9
set_option linter.all false
namespace Go.Proofs.YtelefkkkccilaaaGreatDoor
open Go.RowKit
theorem bcell {W w1:World} (hb:Below W.heap.size W w1):(∀ b o,b < W.heap.size→w1.cell? ⟨b,o,none⟩=W.cell? ⟨b,o,none⟩)∧(∀ b o,b < W.heap.size→w1.frozen? ⟨b,o,none⟩=W.frozen? ⟨b,o,none⟩):=
 ⟨fun b o h=>hb.cell (p:=⟨b,o,none⟩) h,fun b o h=>hb.frozen (p:=⟨b,o,none⟩) h⟩
theorem kind_ne {w:World} {a b:Nat} {c c':Array Value} {e e':TypeId} {f f':Nat × Nat} (h:w.heap[a]?=some (.cells c e f)) (h':w.heap[b]?=some (.cells c' e' f')) (he:e≠e'):a≠b:=fun h2=>by
 subst h2;rw [h] at h';cases h';exact he rfl
theorem below_grownD {n b:Nat} {w W W':World} {e size:Nat} {v:Value} {k:Nat} {xs:List Value} (h1:Below n w W) (hn:n≤w.heap.size) (hown:W.ownsRow b e size v k xs) (hb:n≤b) (hgr:W.drew.grownBy W' v.ownBlock):Below n w W':=
 ⟨hgr.os.trans h1.os,hgr.tape.trans h1.tape,hgr.output.trans h1.output,Nat.le_trans h1.size hgr.size,fun i hi=>by
  rcases Nat.lt_or_ge i W.heap.size with hl | hl
  ·exact (hgr.block i hl fun e=>by have:=(olt hown e.symm).2.1;omega).trans (h1.block i hi)
  ·have:=h1.size;omega⟩
set_option maxRecDepth 100000
