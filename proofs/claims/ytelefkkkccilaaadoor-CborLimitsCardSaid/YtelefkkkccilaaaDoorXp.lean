/- A deck's items. -/
import Derived.Test.YtelefkkkccilaaaDoorXn
import Derived.Test.YtelefkkkccilaaaDoorLL
import Derived.Test.YtelefkkkccilaaaDoorPo
set_option linter.unusedVariables false
set_option linter.unusedSimpArgs false
namespace Go.Proofs.YtelefkkkccilaaaDoor
open Go.RowKit
set_option maxRecDepth 100000
theorem gen_push {b base:Nat} {W W6:World} {v:Value} {es:List (It × Ad)} (hO:OutI W base (fun q=>base≤q) v es) (hbW:base≤W.heap.size) (hbb:b < base) (hB:But b W W6) {y:It} {A:Ad} (hI:IR (fun q=>W.heap.size≤q) W6 y A) (c:Nat) (hsz:es.length≤1000):
 ∃ v' W',(Builtin.append_ #[29,29] 29 #[v,.slice (some ⟨W6.heap.size,0,none⟩) 1 c]).run Tryd.prog (W6.alloc (.cells #[.int .i64 y.kind,.int .u64 (y.num:Int),.slice A.ab A.nb A.cb,.slice A.ai A.ni A.ci] 31))=.ok v' W'∧OutI W' base (fun q=>base≤q) v' (es ++ [(y,A)])∧Below base W6 W':=by
 have hP:=al W6 (.cells #[.int .i64 y.kind,.int .u64 (y.num:Int),.slice A.ab A.nb A.cb,.slice A.ai A.ni A.ci] 31);have hN:=aw W6 (.cells #[.int .i64 y.kind,.int .u64 (y.num:Int),.slice A.ab A.nb A.cb,.slice A.ai A.ni A.ci] 31);have h6:=hO.deck hB hbb (fun q hq=>by omega);have h7:=h6.pure hP;have hs:=hB.size;obtain ⟨v',W',h1,h2,h3,_⟩:=h7.app (news:=[(y,A)]) (c:=c) (SrcI.one hN) (fun e he=>by
  simp only [List.mem_singleton] at he;subst he;exact (hI.below hP).imp fun q hq _=>⟨by omega,fun e=>by have:=own_lt hO.row e;omega⟩) (by omega) (by have:=hP.size;omega)
 exact ⟨v',W',h1,h2,bg (hP.mono (by omega)) (by have:=hP.size;omega) h7.row h3⟩
theorem TL.one {ok:Nat→Prop} {W:World} {b T:Nat} {y:It} {A:Ad} (h:W.heap[b]?=some (.cells #[.int .i64 y.kind,.int .u64 (y.num:Int),.slice A.ab A.nb A.cb,.slice A.ai A.ni A.ci] T (0,0))) (hb:ok b) (hI:IR ok W y A):TL ok W [y] (some ⟨b,0,none⟩) 1:=by
 refine ⟨rfl,by omega,fun j hj=>?_⟩;have:j=0:=by simpa using hj
 subst this;obtain ⟨x0,x1,x2,x3⟩:=cf h;exact ⟨b,0,A,rfl,hb,⟨x0,x1,x2,x3⟩,hI⟩
def GI (b:Nat) (w:World) (e:Ending) (w':World):Prop:=∃ (x:It) (A:Ad),e=.returned (.agg #[.int .i64 x.kind,.int .u64 (x.num:Int),.slice A.ab A.nb A.cb,.slice A.ai A.ni A.ci])∧It.valid x=true∧IR (fun q=>w.heap.size≤q) w' x A∧DW b w w'
end Go.Proofs.YtelefkkkccilaaaDoor
