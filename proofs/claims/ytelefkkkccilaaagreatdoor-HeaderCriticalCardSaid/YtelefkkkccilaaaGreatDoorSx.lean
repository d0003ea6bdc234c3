/- Lists of numbers as a reading gives them. -/
import Derived.Test.YtelefkkkccilaaaGreatDoorSv
set_option linter.all false
namespace Go.Proofs.YtelefkkkccilaaaGreatDoor
open Go.ChangeShapes Go.WideShapes Go.ChangeAt Go.RowKit Go.Joins Go.Shelf
set_option maxRecDepth 100000
theorem nl_of {H:Type} {enc:TypeId × Value→H} {w:World} {base:Nat} {spare:Nat→Bool} {held:Bool} {fuel:Nat} {v:Value} {x:DataW H × List MemPlace} (h:DataW.trod enc Tryz.prog w base spare held fuel 29 [v]=some x):
 ∃ (a:Option Addr) (n c:Nat) (l:List Int),v=.slice a n c∧NL w a n l∧n≤c∧c≤9223372036854775807:=by
 rcases open_ints Tryz.underlying29 Tryz.underlying3 cells3 h with ⟨hcs,_⟩ | ⟨a,n,c,zs,hcs,_,hl,hm,hz,_,hcell,hwz⟩
 ·simp only [List.cons.injEq,and_true] at hcs
  subst hcs;exact ⟨none,0,0,[],rfl,⟨rfl,by omega,fun j hj=>by simp at hj⟩,Nat.le_refl _,by omega⟩
 ·simp only [List.cons.injEq,and_true] at hcs
  subst hcs;have hm:c≤9223372036854775807:=by unfold maxLen at hm;omega
  have hzn:n≤zs.length:=by split at hz <;> omega
  refine ⟨some a,n,c,zs.take n,rfl,⟨by rw [List.length_take];omega,by omega,fun i hi=>?_⟩,hl,hm⟩;have hi':i < zs.length:=by rw [List.length_take] at hi;omega
  have hc:=hcell i hi';have hb:=bounds_i64 (hwz _ (List.getElem_mem hi'));obtain ⟨b,o,spot⟩:=a;have hspot:spot=none:=by simpa [Addr.add] using World.cell?_spot (hcell 0 (by omega))
  subst hspot;rw [add_at] at hc;have e:zs.getD i 0=zs[i]:=by simp [hi']
  rw [e] at hc;rw [List.getElem_take];exact ⟨b,o,rfl,hc,hb⟩
