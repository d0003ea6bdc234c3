/- How items, bytes and numbers that came in read. The two tables of unicode/utf8, off what a row lists; a world that holds them. -/
import Derived.Test.YtelefkkkccilaaaDoorLJ
import Derived.ProofKit
import Derived.OpenShut
import Derived.ChangeOld
import Derived.Carry
import Derived.Lib.SmallJoins
import Derived.Lib.LaidTab
import Derived.Test.YtelefkkkccilaaaDoorRows
import Derived.Lib.LaidU8T
import Derived.MakeChecks
set_option linter.unusedVariables false
set_option linter.unusedSimpArgs false
namespace Go.Proofs.YtelefkkkccilaaaDoor
open Go.ChangeShapes Go.WideShapes Go.ChangeAt Go.RowKit Go.Joins
def InL (w:World) (la:Option Addr) (len:Nat):Prop:=len≤9223372036854775807∧∀ j,j < len→∃ bl ol x,la=some ⟨bl,ol,none⟩∧bl < w.heap.size∧w.cell? ⟨bl,ol + j,none⟩=some (.int .i64 x)
theorem InL.deck {w:World} {la:Option Addr} {len:Nat} (h:InL w la len) (c:Nat):Deck (w.alloc (.cells #[.slice la len c,.int .i64 0] 68)) w.heap.size:=by
 refine ⟨la,len,c,0,aw _ _,Nat.zero_le _,h.1,fun j hj=>?_⟩;obtain ⟨bl,ol,x,e,hb,hc⟩:=h.2 j hj;exact ⟨bl,ol,x,e,hb,((al w _).cell (p:=⟨bl,ol + j,none⟩) hb).trans hc⟩
theorem InL.below {w w':World} {la:Option Addr} {len:Nat} (h:InL w la len) (k:Below w.heap.size w w'):InL w' la len:=
 ⟨h.1,fun j hj=>by
  obtain ⟨bl,ol,x,e,hb,hc⟩:=h.2 j hj;exact ⟨bl,ol,x,e,Nat.lt_of_lt_of_le hb k.size,(k.cell (p:=⟨bl,ol + j,none⟩) hb).trans hc⟩⟩
end Go.Proofs.YtelefkkkccilaaaDoor
namespace Go.Proofs.YtelefkkkccilaaaDoor
open Go.Shelf Go.RowKit
def ren8:Go.Shelf.Ren:=⟨fun n=>n,fun | 119=>141 | 138=>143 | 139=>144 | n=>n,fun | 3=>0 | 4=>1 | n=>n⟩
theorem types8:Go.Proofs.U8Types Tryd.prog ren8:=⟨by kernel_rfl,by kernel_rfl,by kernel_rfl,by kernel_rfl⟩
theorem envOf {W:World} (h:laidMetH Tryd.prog [("unicode/utf8.acceptRanges",Rows.laid_unicode_utf8_acceptRanges),("unicode/utf8.first",Rows.laid_unicode_utf8_first)] W):Env W:=by
 rw [Go.MakeChecks.laidMetH_plain _ _ _ (by kernel_rfl)] at h;have h1:(Rows.laid_unicode_utf8_first:DataW Unit)=Go.Lib.firstData:=by kernel_rfl
 have h2:(Rows.laid_unicode_utf8_acceptRanges:DataW Unit)=Go.Lib.acceptData:=by kernel_rfl
 rw [h1,h2] at h;exact Go.Proofs.utf8Tabs_of_readsT types8 ⟨by kernel_rfl,by kernel_rfl,by kernel_rfl,by kernel_rfl,by kernel_rfl,by kernel_rfl,by kernel_rfl⟩ (Lib.laidMet.reads h (.tail _ (.head _))) (Lib.laidMet.reads h (.head _))
noncomputable def laidWorld (os:Os):World:=
 let w0:=World.holding Tryd.prog os ⟨#[],#[],[]⟩
 let put (h:Array Obj) (g:Nat) (cs:Array Value):Array Obj:=h.modify g fun
  | .cells _ t frozen=>.cells cs t frozen
  | o=>o
 let h1:=put w0.heap 0 (Lib.firstTab.map fun z=>Value.int .u8 z).toArray
 let h2:=put h1 1 ((List.range 16).flatMap fun i=>[Value.int .u8 (Lib.accLo i),Value.int .u8 (Lib.accHi i)]).toArray
 { w0 with heap:=h2 }
/-! ### What the bound of the second form gives. -/
end Go.Proofs.YtelefkkkccilaaaDoor
