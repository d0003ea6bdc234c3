/- How items, bytes and numbers that came in read. The two tables of unicode/utf8, off what a row lists; a world that holds them. -/
import Derived.Test.YtelefkkkccilaaaDoorLJ
import Derived.ProofKit
import Derived.OpenShut
import Derived.ChangeOld
import Derived.Carry
import Derived.Lib.SmallJoins
import Derived.Lib.LaidTab
import Derived.Test.YtelefkkkccilaaaDoorRows
import Derived.Lib.LaidU8T
import Derived.MakeChecks
set_option linter.unusedVariables false
set_option linter.unusedSimpArgs false
namespace Go.Proofs.YtelefkkkccilaaaDoor
open Go.ChangeShapes Go.WideShapes Go.ChangeAt Go.RowKit Go.Joins
theorem cells3:Tryd.prog.cellsOf 3=1:=by kernel_rfl
theorem cells5:Tryd.prog.cellsOf 5=1:=by kernel_rfl
theorem add_at (b o k:Nat):(⟨b,o,none⟩:Addr).add k=⟨b,o + k,none⟩:=by unfold Addr.add;split <;> simp_all
theorem br_of {H:Type} {enc:TypeId × Value→H} {w:World} {base:Nat} {spare:Nat→Bool} {held:Bool} {fuel:Nat} {v:Value} {x:DataW H × List MemPlace} (h:DataW.trod enc Tryd.prog w base spare held fuel 23 [v]=some x):
 ∃ (a:Option Addr) (n c:Nat) (l:List UInt8),v=.slice a n c∧BR (fun b=>b < w.heap.size) w a n l∧n≤c∧c≤9223372036854775807:=by
 rcases open_ints Tryd.underlying23 Tryd.underlying5 cells5 h with ⟨hcs,_⟩ | ⟨a,n,c,zs,hcs,_,hl,hm,hz,_,hcell,hwz⟩
 ·simp only [List.cons.injEq,and_true] at hcs
  subst hcs;exact ⟨none,0,0,[],rfl,BR.nil _ _ _,Nat.le_refl _,by omega⟩
 ·simp only [List.cons.injEq,and_true] at hcs
  subst hcs;have hm:c≤9223372036854775807:=by unfold maxLen at hm;omega
  have hzn:n≤zs.length:=by split at hz <;> omega
  refine ⟨some a,n,c,(zs.take n).map fun z=>UInt8.ofNat z.toNat,rfl,⟨by simp;omega,by omega,fun i hi=>?_⟩,hl,hm⟩;have hi:i < n:=by simp at hi;omega
  have hiz:i < zs.length:=by omega
  have hc:=hcell i hiz;obtain ⟨b,o,spot⟩:=a;have hspot:spot=none:=by simpa [Addr.add] using World.cell?_spot (hcell 0 (by omega))
  subst hspot;rw [add_at] at hc;refine ⟨b,o,rfl,lg hc,?_⟩;rw [hc];have hb:=bounds_u8 (hwz _ (List.getElem_mem hiz));simp [hiz];omega
def InL (w:World) (la:Option Addr) (len:Nat):Prop:=len≤9223372036854775807∧∀ j,j < len→∃ bl ol x,la=some ⟨bl,ol,none⟩∧bl < w.heap.size∧w.cell? ⟨bl,ol + j,none⟩=some (.int .i64 x)
theorem InL.deck {w:World} {la:Option Addr} {len:Nat} (h:InL w la len) (c:Nat):Deck (w.alloc (.cells #[.slice la len c,.int .i64 0] 68)) w.heap.size:=by
 refine ⟨la,len,c,0,aw _ _,Nat.zero_le _,h.1,fun j hj=>?_⟩;obtain ⟨bl,ol,x,e,hb,hc⟩:=h.2 j hj;exact ⟨bl,ol,x,e,hb,((al w _).cell (p:=⟨bl,ol + j,none⟩) hb).trans hc⟩
theorem InL.below {w w':World} {la:Option Addr} {len:Nat} (h:InL w la len) (k:Below w.heap.size w w'):InL w' la len:=
 ⟨h.1,fun j hj=>by
  obtain ⟨bl,ol,x,e,hb,hc⟩:=h.2 j hj;exact ⟨bl,ol,x,e,Nat.lt_of_lt_of_le hb k.size,(k.cell (p:=⟨bl,ol + j,none⟩) hb).trans hc⟩⟩
theorem nums_of {H:Type} {enc:TypeId × Value→H} {w:World} {base:Nat} {spare:Nat→Bool} {held:Bool} {fuel:Nat} {v:Value} {x:DataW H × List MemPlace} (h:DataW.trod enc Tryd.prog w base spare held fuel 37 [v]=some x):
 ∃ (a:Option Addr) (n c:Nat),v=.slice a n c∧InL w a n∧n≤c∧c≤9223372036854775807:=by
 rcases open_ints Tryd.underlying37 Tryd.underlying3 cells3 h with ⟨hcs,_⟩ | ⟨a,n,c,zs,hcs,_,hl,hm,hz,_,hcell,hwz⟩
 ·simp only [List.cons.injEq,and_true] at hcs
  subst hcs;exact ⟨none,0,0,rfl,⟨by omega,fun j hj=>by omega⟩,Nat.le_refl _,by omega⟩
 ·simp only [List.cons.injEq,and_true] at hcs
  subst hcs;have hm:c≤9223372036854775807:=by unfold maxLen at hm;omega
  have hzn:n≤zs.length:=by split at hz <;> omega
  refine ⟨some a,n,c,rfl,⟨by omega,fun i hi=>?_⟩,hl,hm⟩;have hc:=hcell i (by omega);obtain ⟨b,o,spot⟩:=a;have hspot:spot=none:=by simpa [Addr.add] using World.cell?_spot (hcell 0 (by omega))
  subst hspot;rw [add_at] at hc;exact ⟨b,o,_,rfl,lg hc,hc⟩
end Go.Proofs.YtelefkkkccilaaaDoor
namespace Go.Proofs.YtelefkkkccilaaaDoor
open Go.Shelf Go.RowKit
def ren8:Go.Shelf.Ren:=⟨fun n=>n,fun | 119=>141 | 138=>143 | 139=>144 | n=>n,fun | 3=>0 | 4=>1 | n=>n⟩
theorem types8:Go.Proofs.U8Types Tryd.prog ren8:=⟨by kernel_rfl,by kernel_rfl,by kernel_rfl,by kernel_rfl⟩
theorem envOf {W:World} (h:laidMetH Tryd.prog [("unicode/utf8.acceptRanges",Rows.laid_unicode_utf8_acceptRanges),("unicode/utf8.first",Rows.laid_unicode_utf8_first)] W):Env W:=by
 rw [Go.MakeChecks.laidMetH_plain _ _ _ (by kernel_rfl)] at h;have h1:(Rows.laid_unicode_utf8_first:DataW Unit)=Go.Lib.firstData:=by kernel_rfl
 have h2:(Rows.laid_unicode_utf8_acceptRanges:DataW Unit)=Go.Lib.acceptData:=by kernel_rfl
 rw [h1,h2] at h;exact Go.Proofs.utf8Tabs_of_readsT types8 ⟨by kernel_rfl,by kernel_rfl,by kernel_rfl,by kernel_rfl,by kernel_rfl,by kernel_rfl,by kernel_rfl⟩ (Lib.laidMet.reads h (.tail _ (.head _))) (Lib.laidMet.reads h (.head _))
noncomputable def laidWorld (os:Os):World:=
 let w0:=World.holding Tryd.prog os ⟨#[],#[],[]⟩
 let put (h:Array Obj) (g:Nat) (cs:Array Value):Array Obj:=h.modify g fun
  | .cells _ t frozen=>.cells cs t frozen
  | o=>o
 let h1:=put w0.heap 0 (Lib.firstTab.map fun z=>Value.int .u8 z).toArray
 let h2:=put h1 1 ((List.range 16).flatMap fun i=>[Value.int .u8 (Lib.accLo i),Value.int .u8 (Lib.accHi i)]).toArray
 { w0 with heap:=h2 }
/-! ### What the bound of the second form gives. -/
end Go.Proofs.YtelefkkkccilaaaDoor
