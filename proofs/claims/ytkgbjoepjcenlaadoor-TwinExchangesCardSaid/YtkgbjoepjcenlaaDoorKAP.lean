/- Joined texts. -/
import Derived.Test.YtkgbjoepjcenlaaDoorKAO
import Derived.Test.YtkgbjoepjcenlaaDoorKAK
set_option linter.unusedVariables false
set_option linter.unusedSimpArgs false
namespace Go.Proofs.YtkgbjoepjcenlaaDoor
open Go.RowKit
theorem inf3i:(Tryd.prog.info? 3).map (fun i=>(i.zero,i.size,i.bytes))=some (some (.int .i64 0),1,8):=by kernel_rfl
theorem pushI {W:World} {base:Nat} {v:Value} {ls:List Int} (h:W.ownsRow base 3 1 v ls.length (ls.map (Value.int .i64))) {a:Nat} {x:Int} (ha:W.heap[a]?=some (.cells #[.int .i64 x] 3 (0,0))) (hl:ls.length≤1000) (hb:base≤W.heap.size):
 ∃ v' W',(Builtin.append_ #[22,22] 22 #[v,.slice (some ⟨a,0,none⟩) 1 1]).run Tryd.prog W=.ok v' W'∧W'.ownsRow base 3 1 v' (ls ++ [x]).length ((ls ++ [x]).map (Value.int .i64))∧W.grownBy W' v.ownBlock:=by
 obtain ⟨i0,hi,hz0,hz1,hz2⟩:=info_parts inf3i
 have c0:=cell_of_arr ha 0
 simp at c0
 obtain ⟨v',W',h2,h3,h4,_,_⟩:=run_append_own_at (P:=Tryd.prog) W base 22 22 3 i0 _ 1 8 Tryd.underlying22 hi hz0 hz1 hz2 rfl (by omega) v ls.length _ h ⟨a,0,none⟩ 1 1 [.int .i64 x] rfl (fun j u hu=>by
  rcases (show j=0∨1≤j by omega) with rfl | hj
  ·simp at hu;subst hu;exact c0
  ·rw [List.getElem?_eq_none (by simpa using hj)] at hu;cases hu) (fun u hu=>by simp at hu;subst hu;rfl) (by unfold maxLen;omega) (by omega) hb
 exact ⟨v',W',h2,by simpa using h3,h4⟩
def told (b0 b1 b2 b3:Bool):List Int:=(if b0 then [100] else []) ++ (if b1 then [101] else []) ++ (if b2 then [102] else []) ++ (if b3 then [103] else [])
def TLoop (w:World) (i v:Value) (W:World):Prop:=∃ (j:Nat) (b0 b1 b2 b3:Bool),j≤4∧i=.int .i64 j∧((j≤0→b0=false)∧(j≤1→b1=false)∧(j≤2→b2=false)∧(j≤3→b3=false))∧W.heap[w.heap.size]?=some (.cells #[.bool b0,.bool b1,.bool b2,.bool b3] 47 (0,0))∧W.ownsRow (w.heap.size + 1) 3 1 v (told b0 b1 b2 b3).length ((told b0 b1 b2 b3).map (Value.int .i64))∧Below w.heap.size w W
theorem told_len (b0 b1 b2 b3:Bool):(told b0 b1 b2 b3).length≤4:=by cases b0 <;> cases b1 <;> cases b2 <;> cases b3 <;> decide
theorem TLoop.next {w wr:World} {j:Nat} (hj:j < 4) {b0 b1 b2 b3:Bool} (hb:(j≤0→b0=false)∧(j≤1→b1=false)∧(j≤2→b2=false)∧(j≤3→b3=false)) {v:Value} (hH:wr.heap[w.heap.size]?=some (.cells #[.bool b0,.bool b1,.bool b2,.bool b3] 47 (0,0))) (hO:wr.ownsRow (w.heap.size + 1) 3 1 v (told b0 b1 b2 b3).length ((told b0 b1 b2 b3).map (Value.int .i64))) (hB:Below w.heap.size w wr) {x:Int} (hx:x=100 + j):
 ∃ v' W',(Builtin.append_ #[22,22] 22 #[v,.slice (some ⟨wr.heap.size,0,none⟩) 1 1]).run Tryd.prog (wr.alloc (.cells #[.int .i64 x] 3))=.ok v' W'∧W'.cell? ⟨w.heap.size,j,none⟩=some (.bool false)∧W'.frozen? ⟨w.heap.size,j,none⟩=false∧∀ i:Value,i=.int .i64 ((j + 1:Nat):Int)→TLoop w i v' (W'.setCell ⟨w.heap.size,j,none⟩ (.bool true)):=by
 have hs:=lt_of_block hH
 have hO1:=own_pure hO (pure_alloc wr (.cells #[.int .i64 x] 3))
 obtain ⟨v',W',hrun,hO2,hgr⟩:=pushI hO1 (alloc_new wr (.cells #[.int .i64 x] 3)) (by have:=told_len b0 b1 b2 b3;omega) (by simp;omega)
 have hne:some w.heap.size≠v.ownBlock:=fun e=>by have:=(own_lt hO e.symm).2.1;omega
 have H2:W'.heap[w.heap.size]?=some (.cells #[.bool b0,.bool b1,.bool b2,.bool b3] 47 (0,0)):=(hgr.block _ (by simp;omega) hne).trans (alloc_keep hH)
 have hne':∀ g,v'.ownBlock=some g→w.heap.size + 1≤g:=fun g h=>(own_lt hO2 h).2.1
 have hB2:Below w.heap.size w W':=by
  have h1:=hB.alloc hB.size (.cells #[.int .i64 x] 3)
  exact ⟨hgr.os.trans h1.os,hgr.tape.trans h1.tape,hgr.output.trans h1.output,Nat.le_trans h1.size hgr.size,fun i hi=>(hgr.block i (by simp;omega) fun e=>by have:=(own_lt hO e.symm).2.1;omega).trans (h1.block i hi)⟩
 have hO3:(W'.setCell ⟨w.heap.size,j,none⟩ (.bool true)).ownsRow (w.heap.size + 1) 3 1 v' (told b0 b1 b2 b3 ++ [x]).length ((told b0 b1 b2 b3 ++ [x]).map (Value.int .i64)):=own_keep hO2 fun g hg=>Below.heap_setCell _ _ _ _ (by have:=hne' g hg;show g≠w.heap.size;omega)
 have hS:=set_arr H2 j (.bool true)
 have hcell:W'.cell? ⟨w.heap.size,j,none⟩=some (.bool false):=by
  rw [cell_of_arr H2]
  rcases (show j=0∨j=1∨j=2∨j=3 by omega) with rfl | rfl | rfl | rfl
  ·rw [hb.1 (by omega)];rfl
  ·rw [hb.2.1 (by omega)];rfl
  ·rw [hb.2.2.1 (by omega)];rfl
  ·rw [hb.2.2.2 (by omega)];rfl
 refine ⟨v',W',hrun,hcell,frozen_of_arr H2 j,fun i hi=>?_⟩
 subst hx
 rcases (show j=0∨j=1∨j=2∨j=3 by omega) with rfl | rfl | rfl | rfl
 ·obtain ⟨h0,h1,h2,h3⟩:=hb
  obtain rfl:=h0 (by omega);obtain rfl:=h1 (by omega);obtain rfl:=h2 (by omega);obtain rfl:=h3 (by omega)
  exact ⟨1,true,false,false,false,by omega,hi,⟨by omega,fun _=>rfl,fun _=>rfl,fun _=>rfl⟩,hS,hO3,hB2.setCell (Nat.le_refl _) _⟩
 ·obtain ⟨h0,h1,h2,h3⟩:=hb
  obtain rfl:=h1 (by omega);obtain rfl:=h2 (by omega);obtain rfl:=h3 (by omega)
  refine ⟨2,b0,true,false,false,by omega,hi,⟨by omega,by omega,fun _=>rfl,fun _=>rfl⟩,hS,?_,hB2.setCell (Nat.le_refl _) _⟩
  have e:told b0 true false false=told b0 false false false ++ [100 + ((1:Nat):Int)]:=by cases b0 <;> rfl
  rw [e];exact hO3
 ·obtain ⟨h0,h1,h2,h3⟩:=hb
  obtain rfl:=h2 (by omega);obtain rfl:=h3 (by omega)
  refine ⟨3,b0,b1,true,false,by omega,hi,⟨by omega,by omega,by omega,fun _=>rfl⟩,hS,?_,hB2.setCell (Nat.le_refl _) _⟩
  have e:told b0 b1 true false=told b0 b1 false false ++ [100 + ((2:Nat):Int)]:=by cases b0 <;> cases b1 <;> rfl
  rw [e];exact hO3
 ·obtain ⟨h0,h1,h2,h3⟩:=hb
  obtain rfl:=h3 (by omega)
  refine ⟨4,b0,b1,b2,true,by omega,hi,⟨by omega,by omega,by omega,by omega⟩,hS,?_,hB2.setCell (Nat.le_refl _) _⟩
  have e:told b0 b1 b2 true=told b0 b1 b2 false ++ [100 + ((3:Nat):Int)]:=by cases b0 <;> cases b1 <;> cases b2 <;> rfl
  rw [e];exact hO3
end Go.Proofs.YtkgbjoepjcenlaaDoor
namespace Go.Proofs.YtkgbjoepjcenlaaDoor
open Go.RowKit
structure But2 (X b:Nat) (w w':World):Prop where
 os:w'.os=w.os
 tape:w'.tape=w.tape
 output:w'.output=w.output
 size:w.heap.size≤w'.heap.size
 block:∀ k,k < w.heap.size→k≠X→k≠b→w'.heap[k]?=w.heap[k]?
theorem But2.refl (X b:Nat) (w:World):But2 X b w w:=⟨rfl,rfl,rfl,Nat.le_refl _,fun _ _ _ _=>rfl⟩
theorem But2.but {X b:Nat} {u v w:World} (h:But2 X b u v) (k:But b v w):But2 X b u w:=
 ⟨k.os.trans h.os,k.tape.trans h.tape,k.output.trans h.output,Nat.le_trans h.size k.size,fun i hi h1 h2=>(k.block i (Nat.lt_of_lt_of_le hi h.size) h2).trans (h.block i hi h1 h2)⟩
theorem But2.grown {X b:Nat} {u w w':World} {e size:Nat} {v:Value} {k:Nat} {xs:List Value} (h:But2 X b u w) (hown:w.ownsRow u.heap.size e size v k xs) (hgr:w.grownBy w' v.ownBlock):But2 X b u w':=
 ⟨hgr.os.trans h.os,hgr.tape.trans h.tape,hgr.output.trans h.output,Nat.le_trans h.size hgr.size,fun i hi hx hb=>(hgr.block i (Nat.lt_of_lt_of_le hi h.size) fun e=>by have:=(own_lt hown e.symm).2.1;omega).trans (h.block i hi hx hb)⟩
end Go.Proofs.YtkgbjoepjcenlaaDoor
namespace Go.Proofs.YtkgbjoepjcenlaaDoor
open Go.RowKit
end Go.Proofs.YtkgbjoepjcenlaaDoor
