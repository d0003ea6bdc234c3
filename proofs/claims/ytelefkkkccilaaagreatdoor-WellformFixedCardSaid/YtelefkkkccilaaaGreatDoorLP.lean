/- How items, bytes and numbers that came in read. The two tables of unicode/utf8, off what a row lists; a world that holds them. -/
import Derived.Test.YtelefkkkccilaaaGreatDoorLJ
import Derived.ProofKit
import Derived.OpenShut
import Derived.ChangeOld
import Derived.Carry
import Derived.Lib.SmallJoins
import Derived.Lib.LaidTab
import Derived.Test.YtelefkkkccilaaaGreatDoorRows
import Derived.Lib.LaidU8T
import Derived.MakeChecks
set_option linter.unusedVariables false
set_option linter.unusedSimpArgs false
namespace Go.Proofs.YtelefkkkccilaaaGreatDoor
open Go.ChangeShapes Go.WideShapes Go.ChangeAt Go.RowKit Go.Joins
theorem cells3:Tryz.prog.cellsOf 3=1:=by kernel_rfl
theorem add_at (b o k:Nat):(⟨b,o,none⟩:Addr).add k=⟨b,o + k,none⟩:=by unfold Addr.add;split <;> simp_all
def InL (w:World) (la:Option Addr) (len:Nat):Prop:=len≤9223372036854775807∧∀ j,j < len→∃ bl ol x,la=some ⟨bl,ol,none⟩∧bl < w.heap.size∧w.cell? ⟨bl,ol + j,none⟩=some (.int .i64 x)
theorem nums_of {H:Type} {enc:TypeId × Value→H} {w:World} {base:Nat} {spare:Nat→Bool} {held:Bool} {fuel:Nat} {v:Value} {x:DataW H × List MemPlace} (h:DataW.trod enc Tryz.prog w base spare held fuel 29 [v]=some x):
 ∃ (a:Option Addr) (n c:Nat),v=.slice a n c∧InL w a n∧n≤c∧c≤9223372036854775807:=by
 rcases open_ints Tryz.underlying29 Tryz.underlying3 cells3 h with ⟨hcs,_⟩ | ⟨a,n,c,zs,hcs,_,hl,hm,hz,_,hcell,hwz⟩
 ·simp only [List.cons.injEq,and_true] at hcs
  subst hcs;exact ⟨none,0,0,rfl,⟨by omega,fun j hj=>by omega⟩,Nat.le_refl _,by omega⟩
 ·simp only [List.cons.injEq,and_true] at hcs
  subst hcs;have hm:c≤9223372036854775807:=by unfold maxLen at hm;omega
  have hzn:n≤zs.length:=by split at hz <;> omega
  refine ⟨some a,n,c,rfl,⟨by omega,fun i hi=>?_⟩,hl,hm⟩;have hc:=hcell i (by omega);obtain ⟨b,o,spot⟩:=a;have hspot:spot=none:=by simpa [Addr.add] using World.cell?_spot (hcell 0 (by omega))
  subst hspot;rw [add_at] at hc;exact ⟨b,o,_,rfl,lg hc,hc⟩
end Go.Proofs.YtelefkkkccilaaaGreatDoor
namespace Go.Proofs.YtelefkkkccilaaaGreatDoor
open Go.Shelf Go.RowKit
def ren8:Go.Shelf.Ren:=⟨fun n=>n,fun | 119=>194 | 138=>196 | 139=>197 | n=>n,fun | 3=>0 | 4=>1 | n=>n⟩
theorem types8:Go.Proofs.U8Types Tryz.prog ren8:=⟨by kernel_rfl,by kernel_rfl,by kernel_rfl,by kernel_rfl⟩
theorem envOf {W:World} (h:laidMetH Tryz.prog [("unicode/utf8.acceptRanges",Rows.laid_unicode_utf8_acceptRanges),("unicode/utf8.first",Rows.laid_unicode_utf8_first)] W):Env W:=by
 rw [Go.MakeChecks.laidMetH_plain _ _ _ (by kernel_rfl)] at h;have h1:(Rows.laid_unicode_utf8_first:DataW Unit)=Go.Lib.firstData:=by kernel_rfl
 have h2:(Rows.laid_unicode_utf8_acceptRanges:DataW Unit)=Go.Lib.acceptData:=by kernel_rfl
 rw [h1,h2] at h;exact Go.Proofs.utf8Tabs_of_readsT types8 ⟨by kernel_rfl,by kernel_rfl,by kernel_rfl,by kernel_rfl,by kernel_rfl,by kernel_rfl,by kernel_rfl⟩ (Lib.laidMet.reads h (.tail _ (.head _))) (Lib.laidMet.reads h (.head _))
noncomputable def laidWorld (os:Os):World:=
 let w0:=World.holding Tryz.prog os ⟨#[],#[],[]⟩
 let put (h:Array Obj) (g:Nat) (cs:Array Value):Array Obj:=h.modify g fun
  | .cells _ t frozen=>.cells cs t frozen
  | o=>o
 let h1:=put w0.heap 0 (Lib.firstTab.map fun z=>Value.int .u8 z).toArray
 let h2:=put h1 1 ((List.range 16).flatMap fun i=>[Value.int .u8 (Lib.accLo i),Value.int .u8 (Lib.accHi i)]).toArray
 { w0 with heap:=h2 }
/-! ### What the bound of the second form gives. -/
end Go.Proofs.YtelefkkkccilaaaGreatDoor
