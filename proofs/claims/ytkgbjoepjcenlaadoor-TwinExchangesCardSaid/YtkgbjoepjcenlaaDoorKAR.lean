/- Joined texts. -/
import Derived.Test.YtkgbjoepjcenlaaDoorKAO
import Derived.Test.YtkgbjoepjcenlaaDoorKAQ
import Derived.Test.YtkgbjoepjcenlaaDoorKAM
import Derived.Test.YtkgbjoepjcenlaaDoorKAN
set_option linter.unusedVariables false
set_option linter.unusedSimpArgs false
namespace Go.Proofs.YtkgbjoepjcenlaaDoor
open Go.RowKit
namespace Tm
theorem wf_nz:∀ t:Tm,wf t=true→nz t=true:=by
 intro t
 refine Tm.rec (motive_1:=fun t=>wf t=true→nz t=true) (motive_2:=fun l=>∀ t ∈ l,wf t=true→nz t=true) ?_ ?_ ?_ t
 ·intro o n ks ih h
  have h1:=wf_kids h
  have ho:=okN_op h1.1
  unfold nz
  rw [Bool.and_eq_true]
  refine ⟨?_,nzs_of fun k hk=>ih k hk ((wfs_iff _).1 h1.2 k hk)⟩
  have:o≠0:=by
   have ho':o=1∨o=2∨o=3∨o=4∨o=5∨o=6∨o=7∨o=8:=ho
   omega
  simpa using this
 ·intro t ht;simp at ht
 ·intro k ks h1 h2 t ht
  rcases List.mem_cons.1 ht with rfl | ht
  ·exact h1
  ·exact h2 t ht
end Tm
inductive Fs where
 | eq (v:Value)
 | tm (t:Tm)
 | tmd (d:Nat)
 | row (t:Tm) (d:Nat)
 | bld (o m:Int) (t:Tm) (d:Nat)
 | four (x y z:Tm) (d:Nat)
 | cell (lo:Nat)
 | any
def isTm (b:Nat) (t:Tm) (v:Value) (w:World):Prop:=∃ a n c,v=.agg #[.int .i64 t.op,.int .i64 t.num,.slice a n c]∧TR (fun k=>k≠b) w t a n∧n≤c
def Fs.holds (b:Nat):Fs→Value→World→Prop
 | .eq v0,v,_=>v=v0
 | .tm t,v,w=>isTm b t v w
 | .tmd d,v,w=>∃ t,Tm.shaped t d=true∧isTm b t v w
 | .row t d,v,w=>∃ t',Tm.shaped t' d=true∧∃ a c,v=.slice a 2 c∧TL (fun k=>k≠b) w [t,t'] a 2∧2≤c
 | .bld o m t d,v,w=>∃ t',Tm.shaped t' d=true∧∃ a c,v=.agg #[.int .i64 o,.int .i64 m,.slice a 2 c]∧TL (fun k=>k≠b) w [t,t'] a 2∧2≤c
 | .four x y z d,v,w=>∃ t',Tm.shaped t' d=true∧∃ g,v=.slice (some ⟨g,0,none⟩) 4 4∧TL (fun k=>k≠b) w [x,y,z,t'] (some ⟨g,0,none⟩) 4
 | .cell lo,v,w=>∃ q,v=.pointer (some ⟨q,0,none⟩)∧w.heap[q]?=some (.cells #[.int .i64 0,.int .i64 0,.slice none 0 0] 28 (0,0))∧lo≤q∧q≠b
 | .any,_,_=>True
theorem But.ne {b:Nat} {w w':World} (h:But b w w') (k:Nat) (hk:k≠b) (hl:k < w.heap.size):w'.heap[k]?=w.heap[k]?∧k≠b:=⟨h.block k hl hk,hk⟩
theorem Fs.stable (b:Nat) (f:Fs) (v:Value) (w w':World) (h:But b w w') (hf:f.holds b v w):f.holds b v w':=by
 cases f with
 | eq v0=>exact hf
 | tm t=>
   obtain ⟨a,n,c,e,hT,hn⟩:=hf
   exact ⟨a,n,c,e,hT.keep fun k hk hl=>h.ne k hk hl,hn⟩
 | tmd d=>
   obtain ⟨t,hs,a,n,c,e,hT,hn⟩:=hf
   exact ⟨t,hs,a,n,c,e,hT.keep fun k hk hl=>h.ne k hk hl,hn⟩
 | row t d=>
   obtain ⟨t',hs,a,c,e,hT,hn⟩:=hf
   exact ⟨t',hs,a,c,e,hT.keep fun k hk hl=>h.ne k hk hl,hn⟩
 | bld o m t d=>
   obtain ⟨t',hs,a,c,e,hT,hn⟩:=hf
   exact ⟨t',hs,a,c,e,hT.keep fun k hk hl=>h.ne k hk hl,hn⟩
 | four x y z d=>
   obtain ⟨t',hs,g,e,hT⟩:=hf
   exact ⟨t',hs,g,e,hT.keep fun k hk hl=>h.ne k hk hl⟩
 | cell lo=>
   obtain ⟨q,e,hq,hlo,hne⟩:=hf
   exact ⟨q,e,(h.block q (lt_of_block hq) hne).trans hq,hlo,hne⟩
 | any=>trivial
structure GS (b:Nat) (V:List (Nat × Tm)) (w:World):Prop where
 deck:Deck w b
 var:∀ p ∈ V,p.1≠b∧∃ a n c,w.heap[p.1]?=some (.cells #[.int .i64 p.2.op,.int .i64 p.2.num,.slice a n c] 28 (0,0))∧TR (fun k=>k≠b) w p.2 a n∧n≤c
theorem GS.but {b:Nat} {V:List (Nat × Tm)} {w w':World} (hG:GS b V w) (h:But b w w') (hd:Deck w' b):GS b V w':=
 ⟨hd,fun p hp=>by
  obtain ⟨hne,a,n,c,hb,hT,hn⟩:=hG.var p hp
  exact ⟨hne,a,n,c,(h.block _ (lt_of_block hb) hne).trans hb,hT.keep fun k hk hl=>h.ne k hk hl,hn⟩⟩
theorem GS.pure {b:Nat} {V:List (Nat × Tm)} {w w':World} (hG:GS b V w) (h:RB w w'):But b w w'∧GS b V w':=⟨But.of_below h,hG.but (But.of_below h) (hG.deck.below h)⟩
end Go.Proofs.YtkgbjoepjcenlaaDoor
namespace Go.Proofs.YtkgbjoepjcenlaaDoor
open Go.RowKit
def YLoop (w wS:World) (ms:List Tm) (k v:Value) (W:World):Prop:=∃ (j:Nat) (es:List Elem),j≤4∧k=.int .i64 j∧OutT W wS.heap.size (w.heap.size + 1) w.heap.size v es ((ms.take j).map Tm.normal)∧RB wS W∧v.ownBlock≠some w.heap.size
theorem YLoop.next {w wS wr w3:World} {ms:List Tm} {j:Nat} {es:List Elem} {v:Value} (hsw:w.heap.size < wS.heap.size) (hml:ms.length=4) (hj:j < 4) (hO:OutT wr wS.heap.size (w.heap.size + 1) w.heap.size v es ((ms.take j).map Tm.normal)) (hB:RB wS wr) (hX:v.ownBlock≠some w.heap.size)
 (hw3:RB wr w3) {k:Tm} (hk:k=ms[j]'(by omega)) {ra:Option Addr} {rn rc:Nat} (hTR:TR (fun b=>wr.heap.size≤b) w3 (Tm.normal k) ra rn) (hrc:rn≤rc):
 ∃ v' w6,(Builtin.append_ #[23,23] 23 #[v,.slice (some ⟨(w3.alloc (.cells #[.int .i64 (Tm.normal k).op,.int .i64 (Tm.normal k).num,.slice ra rn rc] 28)).heap.size,0,none⟩) 1 1]).run Tryd.prog ((w3.alloc (.cells #[.int .i64 (Tm.normal k).op,.int .i64 (Tm.normal k).num,.slice ra rn rc] 28)).alloc (.cells #[.int .i64 (Tm.normal k).op,.int .i64 (Tm.normal k).num,.slice ra rn rc] 28))=.ok v' w6∧∀ i:Value,i=.int .i64 ((j + 1:Nat):Int)→YLoop w wS ms i v' w6:=by
 have hsz:=hB.size
 have hw5:RB wr ((w3.alloc (.cells #[.int .i64 (Tm.normal k).op,.int .i64 (Tm.normal k).num,.slice ra rn rc] 28)).alloc (.cells #[.int .i64 (Tm.normal k).op,.int .i64 (Tm.normal k).num,.slice ra rn rc] 28)):=pure_trans (pure_trans hw3 (pure_alloc _ _)) (pure_alloc _ _)
 have hT5:=(hTR.below (pure_alloc w3 (.cells #[.int .i64 (Tm.normal k).op,.int .i64 (Tm.normal k).num,.slice ra rn rc] 28))).below (pure_alloc _ (.cells #[.int .i64 (Tm.normal k).op,.int .i64 (Tm.normal k).num,.slice ra rn rc] 28))
 have N5:=alloc_new (w3.alloc (.cells #[.int .i64 (Tm.normal k).op,.int .i64 (Tm.normal k).num,.slice ra rn rc] 28)) (.cells #[.int .i64 (Tm.normal k).op,.int .i64 (Tm.normal k).num,.slice ra rn rc] 28)
 have hO5:=hO.pure hw5
 obtain ⟨v',w6,hrun,hO6,hgr,hob,hoX⟩:=hO5.push (c:=1) (e:=⟨(Tm.normal k).op,(Tm.normal k).num,ra,rn,rc⟩) (t:=Tm.normal k) N5 rfl rfl hrc (hT5.imp fun b hb _=>⟨by have:wr.heap.size≤b:=hb;omega,by have:wr.heap.size≤b:=hb;omega,fun e=>by have h1:=(own_lt hO.row e).1;have:wr.heap.size≤b:=hb;omega⟩) (by simp;omega) (by have:=hw5.size;omega) hX (by have:=hw5.size;omega)
 have htk:(ms.take j).map Tm.normal ++ [Tm.normal k]=(ms.take (j + 1)).map Tm.normal:=by
  rw [List.take_succ_eq_append_getElem (by omega),List.map_append,hk];rfl
 rw [htk] at hO6
 have hg:∀ g,v.ownBlock=some g→wS.heap.size≤g:=fun g h=>(own_lt hO.row h).2.1
 refine ⟨v',w6,hrun,fun i hi=>⟨j + 1,_,by omega,hi,hO6,?_,hoX⟩⟩
 have h1:=RB.trans _ _ _ hB hw5
 exact ⟨hgr.os.trans h1.os,hgr.tape.trans h1.tape,hgr.output.trans h1.output,Nat.le_trans h1.size hgr.size,fun i hi=>(hgr.block i (by have:=h1.size;omega) fun e=>by have:=hg i e.symm;omega).trans (h1.block i hi)⟩
theorem nz_normal {t:Tm} (h:Tm.valid t=true):Tm.nz (Tm.normal t)=true:=Tm.wf_nz _ (Tm.valid_wf (Tm.valid_normal h))
end Go.Proofs.YtkgbjoepjcenlaaDoor
