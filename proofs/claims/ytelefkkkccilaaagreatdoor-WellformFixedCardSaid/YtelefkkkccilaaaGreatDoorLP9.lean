/- What LP holds besides. -/
import Derived.Test.YtelefkkkccilaaaGreatDoorLP
import Derived.Test.YtelefkkkccilaaaGreatDoorLJ9
set_option linter.unusedVariables false
set_option linter.unusedSimpArgs false
namespace Go.Proofs.YtelefkkkccilaaaGreatDoor
open Go.ChangeShapes Go.WideShapes Go.ChangeAt Go.RowKit Go.Joins
theorem cells5:Tryz.prog.cellsOf 5=1:=by kernel_rfl
theorem br_of {H:Type} {enc:TypeId × Value→H} {w:World} {base:Nat} {spare:Nat→Bool} {held:Bool} {fuel:Nat} {v:Value} {x:DataW H × List MemPlace} (h:DataW.trod enc Tryz.prog w base spare held fuel 23 [v]=some x):
 ∃ (a:Option Addr) (n c:Nat) (l:List UInt8),v=.slice a n c∧BR (fun b=>b < w.heap.size) w a n l∧n≤c∧c≤9223372036854775807:=by
 rcases open_ints Tryz.underlying23 Tryz.underlying5 cells5 h with ⟨hcs,_⟩ | ⟨a,n,c,zs,hcs,_,hl,hm,hz,_,hcell,hwz⟩
 ·simp only [List.cons.injEq,and_true] at hcs
  subst hcs;exact ⟨none,0,0,[],rfl,BR.nil _ _ _,Nat.le_refl _,by omega⟩
 ·simp only [List.cons.injEq,and_true] at hcs
  subst hcs;have hm:c≤9223372036854775807:=by unfold maxLen at hm;omega
  have hzn:n≤zs.length:=by split at hz <;> omega
  refine ⟨some a,n,c,(zs.take n).map fun z=>UInt8.ofNat z.toNat,rfl,⟨by simp;omega,by omega,fun i hi=>?_⟩,hl,hm⟩;have hi:i < n:=by simp at hi;omega
  have hiz:i < zs.length:=by omega
  have hc:=hcell i hiz;obtain ⟨b,o,spot⟩:=a;have hspot:spot=none:=by simpa [Addr.add] using World.cell?_spot (hcell 0 (by omega))
  subst hspot;rw [add_at] at hc;refine ⟨b,o,rfl,lg hc,?_⟩;rw [hc];have hb:=bounds_u8 (hwz _ (List.getElem_mem hiz));simp [hiz];omega
end Go.Proofs.YtelefkkkccilaaaGreatDoor
namespace Go.Proofs.YtelefkkkccilaaaGreatDoor
open Go.Shelf Go.RowKit
end Go.Proofs.YtelefkkkccilaaaGreatDoor
