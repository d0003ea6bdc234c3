/- Two items as a row; a deck's loop over pairs. -/
import Derived.Test.YtelefkkkccilaaaGreatDoorXp
set_option linter.all false
namespace Go.Proofs.YtelefkkkccilaaaGreatDoor
open Go.RowKit
set_option maxRecDepth 100000
theorem OutI.two {w:World} {b base:Nat} {Q:Nat→Prop} {e f:It × Ad} (h:w.heap[b]?=some (.cells #[.int .i64 e.1.kind,.int .u64 (e.1.num:Int),.slice e.2.ab e.2.nb e.2.cb,.slice e.2.ai e.2.ni e.2.ci,.int .i64 f.1.kind,.int .u64 (f.1.num:Int),.slice f.2.ab f.2.nb f.2.cb,.slice f.2.ai f.2.ni f.2.ci] 26 (0,0))) (hb:base≤b)
 (he:IR (fun q=>Q q∧q≠b) w e.1 e.2) (hf:IR (fun q=>Q q∧q≠b) w f.1 f.2):OutI w base Q (.slice (some ⟨b,0,none⟩) 2 2) [e,f]:=by
 refine ⟨⟨rfl,.inr ⟨b,2,_,rfl,hb,h,Nat.le_refl _,by unfold maxLen;omega,rfl,rfl⟩⟩,fun x hx=>?_⟩;have hq:∀ q,Q q∧q≠b→okQ Q (.slice (some ⟨b,0,none⟩) 2 2) q:=fun q h=>⟨h.1,fun e=>h.2 (Option.some.inj e).symm⟩
 simp only [List.mem_cons,List.not_mem_nil,or_false] at hx;rcases hx with rfl | rfl
 ·exact he.imp fun q h _=>hq q h
 ·exact hf.imp fun q h _=>hq q h
theorem BPost.out (r:It.MR):∃ (x:It) (k:Int),∀ w e w',BPost r w e w'→∃ A:Ad,e=.returned (.tuple #[.agg #[.int .i64 x.kind,.int .u64 (x.num:Int),.slice A.ab A.nb A.cb,.slice A.ai A.ni A.ci],.int .i64 k])∧IR (fun _=>True) w' x A∧Below w.heap.size w w':=by
 cases r with
 | err n=>exact ⟨.mk 0 0 [] [],n,fun w e w' h=>⟨⟨none,0,0,none,0,0⟩,h.1,IR.flat _ _ (by omega),h.2⟩⟩
 | ok x=>
   refine ⟨x,0,fun w e w' h=>?_⟩;obtain ⟨A,h1,h2,h3⟩:=h;exact ⟨A,h1,h2.imp fun _ _ _=>trivial,h3⟩
theorem DW.pure {w u:World} {o:Obj} (h:DW w.heap.size (w.alloc o) u):Below w.heap.size w u:=by
 have P:=al w o;exact ⟨h.but.os.trans P.os,h.but.tape.trans P.tape,h.but.output.trans P.output,Nat.le_trans P.size h.but.size,fun k hk=>(h.but.block k (Nat.lt_of_lt_of_le hk P.size) (by omega)).trans (P.block k hk)⟩
