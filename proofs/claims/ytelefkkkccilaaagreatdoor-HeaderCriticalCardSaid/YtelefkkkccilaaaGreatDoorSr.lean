/- Headers as a reading gives them. -/
import Derived.Test.YtelefkkkccilaaaGreatDoorLP
set_option linter.all false
namespace Go.Proofs.YtelefkkkccilaaaGreatDoor
open Go.ChangeShapes Go.WideShapes Go.ChangeAt Go.RowKit Go.Joins Go.Shelf
set_option maxRecDepth 100000
theorem cells28:Tryz.prog.cellsOf 28=8:=by kernel_rfl
def ReadsH (w:World) (cs:List Value) (x y:It):Prop:=∃ A C:Ad,cs=[.int .i64 x.kind,.int .u64 (x.num:Int),.slice A.ab A.nb A.cb,.slice A.ai A.ni A.ci,.int .i64 y.kind,.int .u64 (y.num:Int),.slice C.ab C.nb C.cb,.slice C.ai C.ni C.ci]∧IR (fun b=>b < w.heap.size) w x A∧IR (fun b=>b < w.heap.size) w y C
theorem readsH_of {H:Type} {enc:TypeId × Value→H} {w:World} {base:Nat} {spare:Nat→Bool} {held:Bool} {fuel:Nat} {cs:List Value} {x:DataW H × List MemPlace} (h:DataW.trod enc Tryz.prog w base spare held fuel 28 cs=some x):∃ p u,ReadsH w cs p u:=by
 obtain ⟨xs,n,e,_,hl,hlen,hfs⟩:=DataW.trod_struct Tryz.underlying28 h;rw [cells28] at hl;obtain ⟨v0,v1,v2,v3,v4,v5,v6,v7,rfl⟩:∃ v0 v1 v2 v3 v4 v5 v6 v7,cs=[v0,v1,v2,v3,v4,v5,v6,v7]:=by
  match cs,hl with
  | [v0,v1,v2,v3,v4,v5,v6,v7],_=>exact ⟨v0,v1,v2,v3,v4,v5,v6,v7,rfl⟩
 match xs,hlen with
 | [y0,y1],_=>
   have h0:DataW.trod enc Tryz.prog w base spare held n 26 (List.take (Tryz.prog.cellsOf 26) [v0,v1,v2,v3,v4,v5,v6,v7])=some y0:=hfs 0 _ rfl;have h1:=hfs 1 _ rfl;rw [cells26] at h0;have h0':DataW.trod enc Tryz.prog w base spare held n 26 [v0,v1,v2,v3]=some y0:=h0;have h1':DataW.trod enc Tryz.prog w base spare held n 26 [v4,v5,v6,v7]=some y1:=h1;clear h0 h1 hfs;obtain ⟨p,A,e0,hI⟩:=reads_of n n (Nat.le_refl _) _ _ h0';obtain ⟨u,C,e1,hJ⟩:=reads_of n n (Nat.le_refl _) _ _ h1';refine ⟨p,u,A,C,?_,hI,hJ⟩;simp only [List.cons.injEq,and_true] at e0 e1;obtain ⟨rfl,rfl,rfl,rfl⟩:=e0;obtain ⟨rfl,rfl,rfl,rfl⟩:=e1
   rfl
