/- Headers that a deck makes. -/
import Derived.Test.YtelefkkkccilaaaGreatDoorKL
import Derived.Test.YtelefkkkccilaaaGreatDoorLP
import Derived.Test.YtelefkkkccilaaaGreatDoorKG
set_option maxHeartbeats 32000000
set_option linter.all false
namespace Go.Proofs.YtelefkkkccilaaaGreatDoor
open Go.RowKit
set_option maxRecDepth 100000
def Fh.db (bd:Nat):Fh→Prop
 | .bk n _=>bd < n
 | .row _=>False
 | .own _ _=>False
 | .rw _ _=>False
 | .bt _=>False
 | _=>True
def dbs (bd:Nat):List Fh→Prop
 | []=>True
 | f :: l=>f.db bd∧dbs bd l
theorem dbs.get {bd:Nat}:∀ {l:List Fh},dbs bd l→∀ j,(l.getD j .any).db bd
 | [],_,j=>trivial
 | f :: l,h,0=>h.1
 | f :: l,h,j + 1=>dbs.get h.2 j
theorem Fh.keepB {ok:Nat→Prop} {bd:Nat} {w w':World} (hb:But bd w w') (hok:∀ b,ok b→b≠bd) {f:Fh} (hf:f.db bd) {v:Value} (h:f.holds ok v w):f.holds ok v w':=by
 have k:∀ {x:It} {A:Ad},IR ok w x A→IR ok w' x A:=fun h=>But.ir h hb hok
 cases f with
 | eq v0=>exact h
 | it x=>obtain ⟨A,e,hI⟩:=h;exact ⟨A,e,k hI⟩
 | op r=>obtain ⟨A,e,hI⟩:=h;exact ⟨A,e,k hI⟩
 | mr r=>obtain ⟨A,e,hI⟩:=h;exact ⟨A,e,k hI⟩
 | hd p u=>obtain ⟨A,C,e,hI,hJ⟩:=h;exact ⟨A,C,e,k hI,k hJ⟩
 | hr r=>obtain ⟨A,C,e,hI,hJ⟩:=h;exact ⟨A,C,e,k hI,k hJ⟩
 | hx P=>obtain ⟨r,A,C,hp,e,hI,hJ⟩:=h;exact ⟨r,A,C,hp,e,k hI,k hJ⟩
 | ix P=>obtain ⟨x,A,hp,e,hI⟩:=h;exact ⟨x,A,hp,e,k hI⟩
 | bk n o=>
   obtain ⟨b,e,hb',hn⟩:=h;have:bd < n:=hf;exact ⟨b,e,(hb.block b (lb hb') (by omega)).trans hb',hn⟩
 | row l=>exact hf.elim
 | own N l=>exact hf.elim
 | rw N l=>exact hf.elim
 | bt l=>exact hf.elim
 | rok l=>obtain ⟨a,n,c,e,hT,h1⟩:=h;exact ⟨a,n,c,e,But.tl hT hb hok,h1⟩
 | num n=>exact h
 | bl=>exact h
 | any=>trivial
theorem region_k {M id:Nat} {w:World} {Q:Exit→Act→World→Prop} {ops:Array Oper} {a0:Act} (bd:Nat) (ok:Nat→Prop) (hokb:∀ b,ok b→b≠bd) (l:List Fh) (hl:dbs bd l) (m:List Rg.Kd) (x y:Nat) (q:Fh) (hq:q.db bd) (hD:Deck w bd) (hok:Rg.okB ops M a0.tmps.size=true) (ht:Rg.tailL ops M (Rg.idx m)=true) (hp:Rg.pairB m M x y=true) (hQ:∀ c a o v w,Q (.panic c) (Act.put a o v) w→Q (.panic c) a w)
 (hs:Rg.StepsJ Tryz.prog a0 ops w (But bd) (fun w=>Deck w bd) (facth ok l) x y (Dp ok q) 0 (ops.toList.take M) m)
 (hend:∀ vs w',But bd w w'→Deck w' bd→(∀ j,j < M→facth ok l j (vs j) w')→(x < M→y < M→Dp ok q (vs x) (vs y) w')→(∀ i o,i ∈ Rg.idx m→ops[i]?=some o→∀ W,(execOp (Rg.rho a0 ops i vs) o).run Tryz.prog W=.ok (.value (vs i)) W)→wpList Tryz.prog ops Q (ops.toList.drop M) (Rg.putAll ops M vs a0) w'):(Code.region id ops true).wp Tryz.prog Q a0 w:=
 Rg.regionJ m x y (Dp ok q) (by kernel_rfl) (But bd) (fun w=>Deck w bd) (facth ok l) (But.refl bd) (fun _ _ _ h k=>h.trans k) (fun w=>bob (RB'.drew w)) (fun j _ _ _ h hf=>Fh.keepB h hokb (hl.get j) hf) (fun _ _ _ _ h hf b e=>Fh.keepB h (fun k hk=>hokb k hk.2) hq (hf b e)) hok ht hp hQ (fun h=>h.below (RB'.drew _)) hD hs hend
def EndK (bd:Nat) (ok:Nat→Prop) (w:World) (f:Fh) (e:Ending) (w':World):Prop:=∃ v,e=.returned v∧But bd w w'∧Deck w' bd∧f.holds ok v w'
section
variable {o:Oper} {ρ:Operand→Value} {w:World}
theorem dk {q:Value→World→Prop} {bd:Nat} (h:Rg.Does Tryz.prog o ρ w fun v w'=>RB' w w'∧True∧q v w') (hD:Deck w bd):Rg.Does Tryz.prog o ρ w fun v w'=>But bd w w'∧Deck w' bd∧q v w':=
 h.mono fun v w' h=>⟨bob h.1,hD.below h.1,h.2.2⟩
theorem dkx {q X:Value→World→Prop} {bd:Nat} (h:Rg.Does Tryz.prog o ρ w fun v w'=>(RB' w w'∧True∧q v w')∧X v w') (hD:Deck w bd):Rg.Does Tryz.prog o ρ w fun v w'=>(But bd w w'∧Deck w' bd∧q v w')∧X v w':=
 h.mono fun v w' h=>⟨⟨bob h.1.1,hD.below h.1.1,h.1.2.2⟩,h.2⟩
theorem doesk_call {bd:Nat} {ok:Nat→Prop} {q:Fh} (f:FuncId) (fo:Operand) (args:Array Operand) (ts:Array TypeId) (ho:o.op=.call { callee:=.value fo,args:=args,argTypes:=ts }) (hf:ρ fo=.func (.func f) #[] #[]) {vals:Array Value} (hv:args.map ρ=vals)
 (hcf:∀ w,(callFunc f vals).run Tryz.prog w=.ok (.enter f vals) w) (h:Calls Tryz.prog f vals w (EndK bd ok w q)):Rg.Does Tryz.prog o ρ w fun v w'=>But bd w w'∧Deck w' bd∧q.holds ok v w':=
 Rg.Does.call f fo args ts ho hf hv hcf (h.mono fun _ _ ⟨v,e,h1,h2,h3⟩=>⟨v,e,h1,h2,h3⟩)
theorem doesh_gtrB {ok:Nat→Prop} (x y:Operand) (n k:Int) (ho:o.op=.binOp .gtr 3 x y 3) (hx:(Fh.num n).holds ok (ρ x) w) (hy:ρ y=.int .i64 k):Rg.Does Tryz.prog o ρ w fun v' w'=>RB' w w'∧True∧Fh.bl.holds ok v' w':=by
 obtain ⟨r,e,_⟩:=hx;exact (does_gtr3 x y r k _ ho e hy rfl).mono fun v w' h=>⟨h.1,trivial,_,h.2.2⟩
theorem doesh_eqlB {ok:Nat→Prop} (x y:Operand) (n k:Int) (ho:o.op=.binOp .eql 3 x y 3) (hx:(Fh.num n).holds ok (ρ x) w) (hy:ρ y=.int .i64 k):Rg.Does Tryz.prog o ρ w fun v' w'=>RB' w w'∧True∧Fh.bl.holds ok v' w':=by
 obtain ⟨r,e,_⟩:=hx;exact (does_eql3 x y r k _ ho e hy rfl).mono fun v w' h=>⟨h.1,trivial,_,h.2.2⟩
theorem dl8 {ok:Nat→Prop} (x:Operand) (b:Nat) (p u:It) (A C:Ad) (hb:w.heap[b]?=some (.cells #[.int .i64 p.kind,.int .u64 (p.num:Int),.slice A.ab A.nb A.cb,.slice A.ai A.ni A.ci,.int .i64 u.kind,.int .u64 (u.num:Int),.slice C.ab C.nb C.cb,.slice C.ai C.ni C.ci] 28 (0,0))) (ho:o.op=.load 28 x) (hx:ρ x=.pointer (some ⟨b,0,none⟩)):Rg.Does Tryz.prog o ρ w fun v' w'=>RB' w w'∧True∧(Fh.eq (.agg #[.int .i64 p.kind,.int .u64 (p.num:Int),.slice A.ab A.nb A.cb,.slice A.ai A.ni A.ci,.int .i64 u.kind,.int .u64 (u.num:Int),.slice C.ab C.nb C.cb,.slice C.ai C.ni C.ci])).holds ok v' w':=by
 have a:=ce hb;refine doesh_val (v:=.agg #[.int .i64 p.kind,.int .u64 (p.num:Int),.slice A.ab A.nb A.cb,.slice A.ai A.ni A.ci,.int .i64 u.kind,.int .u64 (u.num:Int),.slice C.ab C.nb C.cb,.slice C.ai C.ni C.ci]) ?_ rfl;have hr:(Instr.loadAt 28 (.pointer (some ⟨b,0,none⟩))).run Tryz.prog w=.ok (.agg #[.int .i64 p.kind,.int .u64 (p.num:Int),.slice A.ab A.nb A.cb,.slice A.ai A.ni A.ci,.int .i64 u.kind,.int .u64 (u.num:Int),.slice C.ab C.nb C.cb,.slice C.ai C.ni C.ci]) w:=by
  go_simp
 simp only [execOp,ho,hx,Sem.run_bind,hr,Result.andThen_ok,Sem.run_pure]
theorem dl4 {ok:Nat→Prop} (x:Operand) (b:Nat) (k:It) (A:Ad) (hb:w.heap[b]?=some (.cells #[.int .i64 k.kind,.int .u64 (k.num:Int),.slice A.ab A.nb A.cb,.slice A.ai A.ni A.ci] 26 (0,0))) (ho:o.op=.load 26 x) (hx:ρ x=.pointer (some ⟨b,0,none⟩)):Rg.Does Tryz.prog o ρ w fun v' w'=>RB' w w'∧True∧(Fh.eq (.agg #[.int .i64 k.kind,.int .u64 (k.num:Int),.slice A.ab A.nb A.cb,.slice A.ai A.ni A.ci])).holds ok v' w':=
 doesh_loadEV x b k A (Below.refl _ _) hb ho hx
theorem doesh_alloc8 {ok:Nat→Prop} {q:Fh} {l:List Fh} {x y n:Nat} (ho:o.op=.alloc 28) (hx:l.getD x .any=q) (hy:l.getD y .any=.bk n (.cells #[.int .i64 0,.int .u64 0,.slice none 0 0,.slice none 0 0,.int .i64 0,.int .u64 0,.slice none 0 0,.slice none 0 0] 28 (0,0))) (hxy:x≠y) (hn:n≤w.heap.size):Rg.Does Tryz.prog o ρ w fun v w'=>(RB' w w'∧True∧facth ok l y v w')∧Rg.PairX (facth ok l) x y (Dp ok q) y v w w':=by
 have hP:=al w o8z;refine Rg.Does.value (v:=.pointer (some ⟨w.heap.size,0,none⟩)) (w':=w.alloc o8z) ?_ ⟨⟨hP,trivial,?_⟩,fun e=>absurd e.symm hxy,fun _ u hu b hb=>?_⟩
 ·simp only [execOp,ho]
  go_simp
 ·show Fh.holds ok (l.getD y .any) _ _
  rw [hy];exact ⟨w.heap.size,rfl,aw _ _,hn⟩
 ·have hu:Fh.holds ok (l.getD x .any) u w:=hu
  rw [hx] at hu;have:b=w.heap.size:=by simpa using hb.symm
  subst this;exact Fh.keep hP (fun k hk hl=>⟨by omega,hk⟩) hu
end
theorem h_next {bd:Nat} {ok:Nat→Prop} {W:World} (n:Int) (hD:Deck W bd) (h1:1≤n) (h2:n≤9223372036854775807):Calls Tryz.prog 59 #[.pointer (some ⟨bd,0,none⟩),.int .i64 n] W (EndK bd ok W (.num n)):=
 (nxa bd n W hD h1 h2).mono fun _ _ ⟨r,h0,h1,he,hD',hB,_⟩=>⟨_,he,hB,hD',r,rfl,h0,h1⟩
theorem h_rputB {p u v:It} {A C K:Ad} {n:Int} {v1:Value} {W:World} {ok ok' ok2 ok3:Nat→Prop} (hb:Fh.bl.holds ok v1 W) (hI:IR ok' W p A) (hJ:IR ok2 W u C) (hE:Env W) (hK:IR ok3 W v K) (h0: -9223372036854775808≤n) (h1:n≤9223372036854775807):Calls Tryz.prog 33 #[.agg #[.int .i64 p.kind,.int .u64 (p.num:Int),.slice A.ab A.nb A.cb,.slice A.ai A.ni A.ci,.int .i64 u.kind,.int .u64 (u.num:Int),.slice C.ab C.nb C.cb,.slice C.ai C.ni C.ci],v1,.int .i64 n,.agg #[.int .i64 v.kind,.int .u64 (v.num:Int),.slice K.ab K.nb K.cb,.slice K.ai K.ni K.ci]] W (EndH W (.hx fun r=>∃ bb,r=It.putP p u bb n v)):=by
 obtain ⟨bb,rfl⟩:=hb;exact (rput_any p u A C W _ _ hI hJ hE v K bb n _ hK h0 h1).mono fun _ _ ⟨v,e,h1,A',C',h2,h3,h4⟩=>⟨v,e,h1,_,A',C',⟨bb,rfl⟩,h2,h3,h4⟩
theorem h_rputBV {p u v:It} {A C:Ad} {n:Int} {v1 v3:Value} {W:World} {ok ok' ok2 ok3:Nat→Prop} (hb:Fh.bl.holds ok v1 W) (hI:IR ok' W p A) (hJ:IR ok2 W u C) (hE:Env W) (hK:(Fh.it v).holds ok3 v3 W) (h0: -9223372036854775808≤n) (h1:n≤9223372036854775807):Calls Tryz.prog 33 #[.agg #[.int .i64 p.kind,.int .u64 (p.num:Int),.slice A.ab A.nb A.cb,.slice A.ai A.ni A.ci,.int .i64 u.kind,.int .u64 (u.num:Int),.slice C.ab C.nb C.cb,.slice C.ai C.ni C.ci],v1,.int .i64 n,v3] W (EndH W (.hx fun r=>∃ bb,r=It.putP p u bb n v)):=by
 obtain ⟨K,rfl,hK⟩:=hK;exact h_rputB hb hI hJ hE hK h0 h1
theorem h_rputV {p u v:It} {A C:Ad} {n:Int} {bb:Bool} {v3:Value} {W:World} {ok ok' ok2:Nat→Prop} (hI:IR ok' W p A) (hJ:IR ok2 W u C) (hE:Env W) (hK:(Fh.it v).holds ok v3 W) (h0: -9223372036854775808≤n) (h1:n≤9223372036854775807):Calls Tryz.prog 33 #[.agg #[.int .i64 p.kind,.int .u64 (p.num:Int),.slice A.ab A.nb A.cb,.slice A.ai A.ni A.ci,.int .i64 u.kind,.int .u64 (u.num:Int),.slice C.ab C.nb C.cb,.slice C.ai C.ni C.ci],.bool bb,.int .i64 n,v3] W (EndH W (.hr (It.putP p u bb n v))):=by
 obtain ⟨K,rfl,hK⟩:=hK;exact rput_any p u A C W _ _ hI hJ hE v K bb n _ hK h0 h1
theorem h_list {l:List It} {v:Value} {W:World} {ok:Nat→Prop} (h:(Fh.row l).holds ok v W) (hn:It.nodesL l≤90000) (hs:It.sts l=true):Calls Tryz.prog 74 #[v] W (EndH W (.it (.mk 4 0 [] l))):=by
 obtain ⟨a,n,c,rfl,hT,hc,hm⟩:=h;exact (rlist_any l a n c W _ hT hc hm hn hs).mono fun _ _ h=>EndH.ip h
theorem doesh_row1 {o:Oper} {ρ:Operand→Value} {w:World} {ok ok0:Nat→Prop} (o0:Operand) (x0:It) (ho:o.op=.buildSlice 24 1 #[(0,o0)]) (h0:(Fh.it x0).holds ok0 (ρ o0) w):Rg.Does Tryz.prog o ρ w fun v w'=>RB' w w'∧True∧(Fh.row [x0]).holds ok v w':=by
 obtain ⟨A0,e0,hI0⟩:=h0;obtain ⟨hP,hN⟩:=an w (o4 x0 A0);refine Rg.Does.value (v:=.slice (some ⟨w.heap.size,0,none⟩) 1 1) (w':=w.alloc (o4 x0 A0)) ?_ ⟨hP,trivial,some ⟨w.heap.size,0,none⟩,1,1,rfl,TL.one hN trivial ((hI0.imp fun _ _ _=>trivial).below hP),by simp,by simp⟩;have hr:=run_row1 x0.kind (x0.num:Int) A0.ab A0.ai A0.nb A0.cb A0.ni A0.ci w;simp only [execOp,ho,List.map_toArray,List.map_cons,List.map_nil,e0,Sem.run_bind,hr,Result.andThen_ok,Sem.run_pure]
theorem late_tup {o:Oper} {ρ:Operand→Value} {w:World} {ok:Nat→Prop} {a b:Value} (x:Operand) (i:Nat) (hi:i < 2) (ho:o.op=.extract x i) (e:ρ x=.tuple #[a,b]):∃ v,(∀ W,(execOp ρ o).run Tryz.prog W=.ok (.value v) W)∧Fh.any.holds ok v w:=by
 rcases (show i=0∨i=1 by omega) with rfl | rfl
 ·exact ⟨a,fun W=>by simp only [execOp,ho,e];go_simp,trivial⟩
 ·exact ⟨b,fun W=>by simp only [execOp,ho,e];go_simp,trivial⟩
theorem late_hx {P:It.PH→Prop} {o:Oper} {ρ:Operand→Value} {w:World} {ok:Nat→Prop} (x:Operand) (i:Nat) (hi:i < 2) (ho:o.op=.extract x i) (h:(Fh.hx P).holds ok (ρ x) w):∃ v,(∀ W,(execOp ρ o).run Tryz.prog W=.ok (.value v) W)∧Fh.any.holds ok v w:=by
 obtain ⟨r,A,C,_,e,_⟩:=h;exact late_tup x i hi ho e
theorem late_hr {r:It.PH} {o:Oper} {ρ:Operand→Value} {w:World} {ok:Nat→Prop} (x:Operand) (i:Nat) (hi:i < 2) (ho:o.op=.extract x i) (h:(Fh.hr r).holds ok (ρ x) w):∃ v,(∀ W,(execOp ρ o).run Tryz.prog W=.ok (.value v) W)∧Fh.any.holds ok v w:=by
 obtain ⟨A,C,e,_⟩:=h;exact late_tup x i hi ho e
def HDS (b B T5:Nat) (q:Nat→Prop) (m:Nat) (w W:World):Prop:=(∀ k,q k→T5 < k)∧∃ (p u:It) (A C:Ad),W.heap[T5]?=some (.cells #[.int .i64 p.kind,.int .u64 (p.num:Int),.slice A.ab A.nb A.cb,.slice A.ai A.ni A.ci,.int .i64 u.kind,.int .u64 (u.num:Int),.slice C.ab C.nb C.cb,.slice C.ai C.ni C.ci] 28 (0,0))∧It.HDk m p u∧IR q W p A∧IR q W u C∧W.heap[B]?=some (.cells #[.int .i64 0,.int .u64 0,.slice none 0 0,.slice none 0 0,.int .i64 0,.int .u64 0,.slice none 0 0,.slice none 0 0] 28 (0,0))∧DW b w W
abbrev QN (T5 N:Nat) (k:Nat):Prop:=T5 < k∧k < N
section
variable {b B T5 T m m':Nat} {q q':Nat→Prop} {w W W':World}
theorem HDS.up (h:HDS b B T5 q m w W) (hm:m≤m'):HDS b B T5 q m' w W:=by
 obtain ⟨h0,p,u,A,C,h1,h2,h3⟩:=h;exact ⟨h0,p,u,A,C,h1,h2.up hm,h3⟩
theorem HDS.new (h:HDS b B T5 q m w W):HDS b B T5 (QN T5 W.heap.size) m w W:=by
 obtain ⟨h0,p,u,A,C,h1,h2,h3,h4,h5⟩:=h;exact ⟨fun k h=>h.1,p,u,A,C,h1,h2,h3.imp fun k hk hl=>⟨h0 k hk,hl⟩,h4.imp fun k hk hl=>⟨h0 k hk,hl⟩,h5⟩
theorem HDS.below (h:HDS b B T5 q m w W) (hB:Below W.heap.size W W'):HDS b B T5 q m w W':=by
 obtain ⟨h0,p,u,A,C,h1,h2,h3,h4,h5,h6⟩:=h;exact ⟨h0,p,u,A,C,bkp hB h1 (lb h1),h2,h3.below hB,h4.below hB,bkp hB h5 (lb h5),h6.down hB h6.but.size⟩
theorem HDS.next (h:HDS b B T5 q m w W) (hB:But b W W') (hD:Deck W' b) (hb:b < B) (hT:B < T5):HDS b B T5 q m w W':=by
 obtain ⟨h0,p,u,A,C,h1,h2,h3,h4,h5,h6⟩:=h;exact ⟨h0,p,u,A,C,(hB.block T5 (lb h1) (by omega)).trans h1,h2,But.ir h3 hB (fun k hk=>by have:=h0 k hk;omega),But.ir h4 hB (fun k hk=>by have:=h0 k hk;omega),(hB.block B (lb h5) (by omega)).trans h5,h6.next hD hB⟩
theorem HDS.store {p u:It} {A C:Ad} (h:HDS b B T5 q m w W) (hT:B < T5) (hw:w.heap.size≤B) (hp:W'.heap[T5]?=some (.cells #[.int .i64 p.kind,.int .u64 (p.num:Int),.slice A.ab A.nb A.cb,.slice A.ai A.ni A.ci,.int .i64 u.kind,.int .u64 (u.num:Int),.slice C.ab C.nb C.cb,.slice C.ai C.ni C.ci] 28 (0,0))) (hs:W'.heap.size=W.heap.size∧∀ k,k≠T5→W'.heap[k]?=W.heap[k]?) (hb:∀ (n:Nat) (u:World),Below n u W→n≤T5→Below n u W') (hk:It.HDk m' p u) (hq:∀ k,q' k→T5 < k) (hI:IR q' W p A) (hJ:IR q' W u C):HDS b B T5 q' m' w W':=by
 obtain ⟨h0,_,_,_,_,h1,_,_,_,h5,h6⟩:=h;exact ⟨hq,p,u,A,C,hp,hk,hI.keep fun k hk _=>⟨hs.2 k (by have:=hq k hk;omega),hk⟩,hJ.keep fun k hk _=>⟨hs.2 k (by have:=hq k hk;omega),hk⟩,(hs.2 B (by omega)).trans h5,h6.down (n:=B) (hb _ _ ((Below.refl W.heap.size W).mono (Nat.le_of_lt (lb h5))) (by omega)) hw⟩
theorem HDS.put (h:HDS b B T5 q m w W) (hT:B < T5) (hw:w.heap.size≤B) (hTT:T5 < T) (hN:∀ k,q k→k≠T) (hs:W'.heap.size=W.heap.size∧∀ k,k≠T→W'.heap[k]?=W.heap[k]?) (hb:∀ (n:Nat) (u:World),Below n u W→n≤T→Below n u W'):HDS b B T5 q m w W':=by
 obtain ⟨h0,p,u,A,C,h1,h2,h3,h4,h5,h6⟩:=h;exact ⟨h0,p,u,A,C,(hs.2 T5 (by omega)).trans h1,h2,h3.keep fun k hk _=>⟨hs.2 k (hN k hk),hk⟩,h4.keep fun k hk _=>⟨hs.2 k (hN k hk),hk⟩,(hs.2 B (by omega)).trans h5,h6.down (n:=B) (hb _ _ ((Below.refl W.heap.size W).mono (Nat.le_of_lt (lb h5))) (by omega)) hw⟩
theorem HDS.dw (h:HDS b B T5 q m w W):DW b w W:=by
 obtain ⟨_,_,_,_,_,_,_,_,_,_,h⟩:=h;exact h
theorem HDS.lt (h:HDS b B T5 q m w W):T5 < W.heap.size:=by
 obtain ⟨_,_,_,_,_,h,_⟩:=h;exact lb h
theorem HDS.blk (h:HDS b B T5 q m w W):∃ (p u:It) (A C:Ad),W.heap[T5]?=some (.cells #[.int .i64 p.kind,.int .u64 (p.num:Int),.slice A.ab A.nb A.cb,.slice A.ai A.ni A.ci,.int .i64 u.kind,.int .u64 (u.num:Int),.slice C.ab C.nb C.cb,.slice C.ai C.ni C.ci] 28 (0,0)):=by
 obtain ⟨_,p,u,A,C,h,_⟩:=h;exact ⟨p,u,A,C,h⟩
end
theorem cell_of5 {w:World} {b:Nat} {x0 x1 x2 x3 x4:Value} {T:Nat} (h:w.heap[b]?=some (.cells #[x0,x1,x2,x3,x4] T (0,0))):w.cell? ⟨b,0,none⟩=some x0∧w.cell? ⟨b,1,none⟩=some x1∧w.cell? ⟨b,2,none⟩=some x2∧w.cell? ⟨b,3,none⟩=some x3∧w.cell? ⟨b,4,none⟩=some x4:=by simp [World.cell?,h]
def VCut (b B T5 m:Nat) (w:World) (c:Value) (W:World):Prop:=∃ (T8:Nat) (v:It) (K:Ad),c=.pointer (some ⟨T8,0,none⟩)∧T5 < T8∧W.heap[T8]?=some (.cells #[.int .i64 v.kind,.int .u64 (v.num:Int),.slice K.ab K.nb K.cb,.slice K.ai K.ni K.ci] 26 (0,0))∧It.Sm 1 v∧IR (fun q=>T5 < q) W v K∧HDS b B T5 (QN T5 W.heap.size) m w W
def LRh (b B T5:Nat) (w:World) (a:Value) (W:World):Prop:=∃ k:Nat,a=.int .i64 (k:Int)∧k≤2∧HDS b B T5 (QN T5 W.heap.size) (3 - k) w W
def HdP (m b:Nat) (w:World) (e:Ending) (w':World):Prop:=∃ (p u:It) (A C:Ad),e=.returned (.agg #[.int .i64 p.kind,.int .u64 (p.num:Int),.slice A.ab A.nb A.cb,.slice A.ai A.ni A.ci,.int .i64 u.kind,.int .u64 (u.num:Int),.slice C.ab C.nb C.cb,.slice C.ai C.ni C.ci])∧It.HDk m p u∧IR (fun q=>w.heap.size≤q) w' p A∧IR (fun q=>w.heap.size≤q) w' u C∧DW b w w'
namespace It
theorem put_alg {alg:Int} (h:alg=10∨alg=30∨alg= -8) (bb:Bool):∃ p u,putP (mk 5 0 [] []) (mk 5 0 [] []) bb 1 (int alg)=.ok p u:=by
 have h0:PH.code (putP (mk 5 0 [] []) (mk 5 0 [] []) bb 1 (int alg))=0:=by
  rcases h with rfl | rfl | rfl <;> cases bb <;> kernel_rfl
 cases hp:putP (mk 5 0 [] []) (mk 5 0 [] []) bb 1 (int alg) with
 | ok p u=>exact ⟨p,u,rfl⟩
 | err e=>
   rw [hp] at h0;exact absurd h0 (putP_err hp)
theorem sm_int (d:Nat) (n:Int) (h0: -9223372036854775808≤n) (h1:n≤9223372036854775807):Sm d (int n):=by
 have:=(valid_int h0 h1).1;rw [int_form] at this ⊢;exact Sm.flat (wf_up (Nat.zero_le _) this) (by simp)
end It
theorem headers_any (alg:Int) (ha:alg=0∨alg=10∨alg=30∨alg= -8) (b:Nat) (w:World) (hD:Deck w b) (hE:Env w) (h1b:1 < b):Calls Tryz.prog 34 #[.pointer (some ⟨b,0,none⟩),.int .i64 alg] w (HdP 5 b w):=by
 have P0:=al w (.cells #[.int .i64 0,.int .u64 0,.slice none 0 0,.slice none 0 0,.int .i64 0,.int .u64 0,.slice none 0 0,.slice none 0 0] 28);have N0:=aw w (.cells #[.int .i64 0,.int .u64 0,.slice none 0 0,.slice none 0 0,.int .i64 0,.int .u64 0,.slice none 0 0,.slice none 0 0] 28);have HD0:=dh ((DW.start hD).down P0 (Nat.le_refl _));have HN0:=dh N0;have hbB:=hD.lt;have HE:=dh hE;clear P0 N0 hE hD;go_enter Tryz.func34,Tryz.ntmps34
 go_upto_region 1 with fail
 generalize w.alloc _=w0 at *;generalize hB:w.heap.size=B at *;have hwB:w.heap.size≤B:=by omega
 have HC:=dh (remty_any w0);go_wp2_with fail
 refine HC.out.mono ?_;rintro e w1 ⟨rfl,B1⟩;have hQ:=pt B1 (al w1 (.cells #[.int .i64 5,.int .u64 0,.slice none 0 0,.slice none 0 0,.int .i64 5,.int .u64 0,.slice none 0 0,.slice none 0 0] 28));have HN2:=kp hQ HN0;have HT2:=dh (aw w1 (.cells #[.int .i64 5,.int .u64 0,.slice none 0 0,.slice none 0 0,.int .i64 5,.int .u64 0,.slice none 0 0,.slice none 0 0] 28));have HD2:=dh (HD0.out.down hQ HD0.out.but.size);have hBT:B < w1.heap.size:=by have:=lb HN0.out;have:=Below.size B1;omega
 go_upto_region 2 with fail
 clear B1 hQ HC HD0 HN0;generalize w1.alloc _=w2 at *;generalize w1.heap.size=T5 at *;have HS0:Hid (HDS b B T5 (QN T5 w2.heap.size) 0 w w2):=dh ⟨fun k h=>h.1,.mk 5 0 [] [],.mk 5 0 [] [],⟨none,0,0,none,0,0⟩,⟨none,0,0,none,0,0⟩,HT2.out,It.hdk_zero,IR.flat _ _ (by omega),IR.flat _ _ (by omega),HN2.out,HD2.out⟩;go_upto_if 15 with fail
 go_cut [5] from 16 to 25 (fun a W=>a=.pointer (some ⟨T5,0,none⟩)∧HDS b B T5 (QN T5 W.heap.size) 1 w W)
 case first=>
  by_cases hz:alg=0
  ·have haz:(alg !=0)=false:=by simpa using hz
   clear ha;subst hz;go_wp2_with fail
   go_meet
   exact ⟨rfl,HS0.out.up (by omega)⟩
  ·have haz:(alg !=0)=true:=by simpa using hz
   have HA3:=dh (ha.resolve_left hz);have HAL:Hid (-9223372036854775808≤alg∧alg≤9223372036854775807):=dh (by omega);obtain ⟨p,hp⟩:∃ p,p=It.mk 5 0 [] []:=⟨_,rfl⟩;obtain ⟨u,hu⟩:∃ p,p=It.mk 5 0 [] []:=⟨_,rfl⟩;obtain ⟨A,hA⟩:∃ A:Ad,A=⟨none,0,0,none,0,0⟩:=⟨_,rfl⟩;obtain ⟨C,hC⟩:∃ A:Ad,A=⟨none,0,0,none,0,0⟩:=⟨_,rfl⟩;have HT:Hid (w2.heap[T5]?=some (.cells #[.int .i64 p.kind,.int .u64 (p.num:Int),.slice A.ab A.nb A.cb,.slice A.ai A.ni A.ci,.int .i64 u.kind,.int .u64 (u.num:Int),.slice C.ab C.nb C.cb,.slice C.ai C.ni C.ci] 28 (0,0))):=dh (by subst hp hu hA hC;exact HT2.out);have HI:Hid (∀ W,IR (fun q=>T5 < q) W p A):=dh (by subst hp hA;exact fun W=>IR.flat _ _ (by omega));have HJ:Hid (∀ W,IR (fun q=>T5 < q) W u C):=dh (by subst hu hC;exact fun W=>IR.flat _ _ (by omega));have HPU:=dh (And.intro hp hu);clear hp hu hA hC HT2 ha hz;go_upto_region 3 with fail
   refine region_k (M:=10) b (fun q=>T5 < q) (fun q hq=>by omega) [.eq (.agg #[.int .i64 p.kind,.int .u64 (p.num:Int),.slice A.ab A.nb A.cb,.slice A.ai A.ni A.ci,.int .i64 u.kind,.int .u64 (u.num:Int),.slice C.ab C.nb C.cb,.slice C.ai C.ni C.ci]),.eq (.pointer (some ⟨b,0,none⟩)),.num 4,.bl,.eq (.int .i64 alg),.it (It.int alg),.hx (fun r=>∃ bb,r=It.putP p u bb 1 (It.int alg)),.hx (fun r=>∃ bb,r=It.putP p u bb 1 (It.int alg)),.any,.any] ⟨trivial,trivial,trivial,trivial,trivial,trivial,trivial,trivial,trivial,trivial,trivial⟩ [.pl,.pl,.pl,.pl,.pl,.pl,.pl,.la,.la,.la] 10 10 (.any) trivial HS0.out.dw.deck (by kernel_rfl) (by kernel_rfl) (by kernel_rfl) (fun _ _ o _ _ h=>by cases o <;> exact h) ?_ ?_
   ·refine ⟨?_,?_,?_,?_,?_,?_,?_,?_,?_,?_,trivial⟩<;>intro vs W hR hG hd;exact dk (dl8 (.tmp 5) T5 p u A C ((hR.block T5 (lb HT.out) (by omega)).trans HT.out) rfl (by kernel_rfl)) hG;exact dk (dmv (.tmp 0) rfl (show _=_ by kernel_rfl)) hG;(have e1:vs 1=.pointer (some ⟨b,0,none⟩):=(hd 1 (dd rfl));exact doesk_call (vals:=#[vs 1,(.int .i64 4)]) 59 (.func 59) #[.tmp 18,.const (.int .i64 4)] _ rfl (by kernel_rfl) (by kernel_rfl) (cq Tryz.func59) (by rw [e1];exact h_next 4 hG (by decide) (by decide)));exact dk (doesh_gtrB (.tmp 19) (.const (.int .i64 0)) 4 0 rfl (hd 2 (dd rfl)) (show _=_ by kernel_rfl)) hG;exact dk (dmv (.tmp 1) rfl (show _=_ by kernel_rfl)) hG;(have e4:vs 4=.int .i64 alg:=(hd 4 (dd rfl));exact dk (dcl (vals:=#[vs 4]) 62 (.func 62) #[.tmp 21] _ rfl (by kernel_rfl) (by kernel_rfl) (cq Tryz.func62) (by rw [e4];exact h_rint alg HAL.out W _)) hG);(have e0:vs 0=.agg #[.int .i64 p.kind,.int .u64 (p.num:Int),.slice A.ab A.nb A.cb,.slice A.ai A.ni A.ci,.int .i64 u.kind,.int .u64 (u.num:Int),.slice C.ab C.nb C.cb,.slice C.ai C.ni C.ci]:=(hd 0 (dd rfl));exact dk (dcl (vals:=#[vs 0,vs 3,(.int .i64 1),vs 5]) 33 (.func 33) #[.tmp 17,.tmp 20,.const (.int .i64 1),.tmp 22] _ rfl (by kernel_rfl) (by kernel_rfl) (cq Tryz.func33) (by rw [e0];exact (h_rputBV (hd 3 (dd rfl)) (HI.out W) (HJ.out W) (But.env HE.out (HS0.out.dw.but.trans hR) (by omega)) (hd 5 (dd rfl)) (by decide) (by decide)).mono fun _ _ h=>EndH.any h (fun q hq=>by have:=HS0.out.lt;have:=hR.size;omega))) hG);exact late_move (.tmp 23) rfl (hd 6 (dd rfl));exact late_hx (.tmp 16) 0 (by decide) rfl (hd 7 (dd rfl));exact late_hx (.tmp 16) 1 (by decide) rfl (hd 7 (dd rfl))
   ·intro vs W3 hR3 hG3 hf hD hE
    obtain ⟨r,X,Y,⟨bb,hr⟩,e6,hIx,hIy⟩:=hf 6 (dd rfl);have e7:vs 7=_:=(exm (hE 7 _ (by decide) rfl W3) (.tmp 23) rfl).trans e6;have e8:vs 8=_:=ex0 (hE 8 _ (by decide) rfl W3) (.tmp 16) rfl e7;obtain ⟨x,y,hxy⟩:=It.put_alg HA3.out bb;have hxy:It.putP p u bb 1 (It.int alg)=.ok x y:=by rw [HPU.out.1,HPU.out.2];exact hxy
    rw [hxy] at hr;subst hr;simp only [It.PH.fst,It.PH.snd,It.PH.code] at *;have HS4:=dh (HS0.out.next hR3 hG3 hbB hBT);have HIx:=dh hIx;have HIy:=dh hIy;have HK4:Hid (It.HDk 1 x y):=dh (It.hdk_put (by rw [HPU.out.1,HPU.out.2];exact It.hdk_zero) (It.sm_int 1 alg HAL.out.1 HAL.out.2) (by decide) (by decide) hxy);simp only [sr,Nat.zero_add,Nat.reduceAdd,e8];clear hf hD hE e6 e7 e8 hR3 hG3 hIx hIy hxy HS0;obtain ⟨_,_,_,_,hq⟩:=HS4.out.blk;have HT4:=dh hq;clear hq;have f:=fe8 HT4.out;have t:=ce HT4.out;go_wp2_with fail
    clear f t;obtain ⟨W',hW',hp8,hs8,hb8⟩:=p8I (W:=W3) (b:=T5) HT4.out x y X Y;rw [hW'];clear hW';go_meet
    exact ⟨rfl,(HDS.store HS4.out hBT hwB hp8 hs8 hb8 HK4.out (fun k h=>h) HIx.out HIy.out).new⟩
 case rest=>
  obtain ⟨rfl,hS⟩:=hcut;have HS1:=dh hS;clear hS HS0 HT2 HN2 HD2 ha;go_wp2_with fail
  refine (nxa b 3 wc HS1.out.dw.deck (by omega) (by omega)).mono ?_;rintro e w4 ⟨r,hr0,hr1,rfl,hD4,hB4,hs4⟩;obtain ⟨k0,rfl⟩:=Int.eq_ofNat_of_zero_le hr0;have HS4:=dh (HS1.out.next hB4 hD4 hbB hBT);have HK0:Hid (k0≤2):=dh (by omega);clear hr0 hr1 hB4 hD4 hs4 HS1;go_wp2_with fail
  go_loopw [6] (fun n W=>LRh b B T5 w n W) (fun n _=>(intOf n).toNat)
  case atStart=>exact ⟨k0,rfl,HK0.out,HS4.out.new.up (by have:=HK0.out;omega)⟩
  case round=>
   obtain ⟨w6,hw6⟩:∃ u,u=wr:=⟨_,rfl⟩;subst hw6;obtain ⟨k,rfl,hk2,hS6⟩:=hrel;have HS6:=dh hS6;clear hS6 HS4;by_cases hk:0 < (k:Int)
   ·go_upto_region 7 with fail
    go_cut [7] from 29 to 36 (fun a W=>∃ n:Int,a=.int .i64 n∧(-9223372036854775808≤n∧n < 100)∧HDS b B T5 (QN T5 W.heap.size) (3 - k) w W)
    case first=>
     have hQ:=al w6 (.cells #[.int .i64 4,.int .i64 6,.int .i64 3,.int .i64 99,.int .i64 (-7)] 3);have HS6x:=dh (HS6.out.below hQ);have HL6:=dh (aw w6 (.cells #[.int .i64 4,.int .i64 6,.int .i64 3,.int .i64 99,.int .i64 (-7)] 3));have HLT:Hid (T5 < w6.heap.size):=dh HS6.out.lt;clear hQ HS6;go_wp2_with fail
     generalize w6.alloc _=w6x at *;generalize w6.heap.size=TL0 at *;refine (nxa b 5 w6x HS6x.out.dw.deck (by omega) (by omega)).mono ?_;rintro e w7 ⟨r,hr0,hr1,rfl,hD7,hB7,hs7⟩;have HS7:=dh (HS6x.out.next hB7 hD7 hbB hBT);have HL:=dh ((hB7.block TL0 (lb HL6.out) (by have:=HLT.out;omega)).trans HL6.out);clear hB7 hD7 hs7 HS6x HL6;obtain ⟨r0,r1,r2,r3,r4⟩:=cell_of5 HL.out;have hr:r=0∨r=1∨r=2∨r=3∨r=4:=by omega
     clear hr0 hr1;rcases hr with rfl | rfl | rfl | rfl | rfl <;> (go_wp2_with fail;go_meet;exact ⟨_,rfl,by decide,HS7.out.new⟩)
    case rest=>
     obtain ⟨n,rfl,hnn,hS7⟩:=hcut;have HNN:=dh hnn;have HS7:=dh hS7;clear hnn hS7 HS6;go_wp2_with fail
     refine (dbytes_any b 5 (by omega) wc HS7.out.dw.deck).mono ?_;rintro e w8 ⟨v8,l8,rfl,hO8,hl8,hW8⟩;obtain ⟨a8,c8,rfl,hR8,_,_⟩:=hO8.br;have HS8:=dh (HS7.out.next hW8.but hW8.deck hbB hBT);have HC8:=dh (rbytes_any l8 a8 l8.length c8 w8 _ hR8 (by omega));have HL8:=dh hl8;have HN8:Hid (wc.heap.size≤w8.heap.size):=dh hW8.but.size;clear hO8 hl8 hW8 hR8 HS7;go_wp2_with fail
     refine HC8.out.mono ?_;rintro e w9 ⟨K,rfl,hK,B9⟩;have hQ:=pt B9 (al w9 (.cells #[.int .i64 (It.mk 2 0 l8 []).kind,.int .u64 ((It.mk 2 0 l8 []).num:Int),.slice K.ab K.nb K.cb,.slice K.ai K.ni K.ci] 26));have HS10:=dh (HS8.out.below hQ);have HT10:=dh (aw w9 (.cells #[.int .i64 (It.mk 2 0 l8 []).kind,.int .u64 ((It.mk 2 0 l8 []).num:Int),.slice K.ab K.nb K.cb,.slice K.ai K.ni K.ci] 26));have HT8G:Hid (T5 < w9.heap.size∧wc.heap.size≤w9.heap.size):=dh (by have:=HS8.out.lt;have:=Below.size B9;have:=HN8.out;omega);have HK10:=dh ((hK.imp (ok':=fun q=>T5 < q) fun q hq _=>by have:=HS8.out.lt;omega).below (al w9 (.cells #[.int .i64 (It.mk 2 0 l8 []).kind,.int .u64 ((It.mk 2 0 l8 []).num:Int),.slice K.ab K.nb K.cb,.slice K.ai K.ni K.ci] 26)));go_upto_region 9 with fail
     clear hQ B9 hK HC8 HS8;generalize w9.alloc (.cells #[.int .i64 (It.mk 2 0 l8 []).kind,.int .u64 ((It.mk 2 0 l8 []).num:Int),.slice K.ab K.nb K.cb,.slice K.ai K.ni K.ci] 26)=w10 at *;generalize w9.heap.size=T8 at *;go_upto_if 41 with fail
     go_cut [8] from 41 to 43 (fun c W=>VCut b B T5 (3 - k) w c W)
     case first=>
      by_cases h99:n=99
      ·have h99b:(n==99)=true:=by simpa using h99
       clear h99;have HC10:=dh (genS_any 1 (by decide) b w10 1 rfl HS10.out.dw.deck (But.env HE.out HS10.out.dw.but (by omega)) (by omega));go_wp2_with fail
       refine HC10.out.mono ?_;rintro e w11 ⟨y,K1,rfl,hvy,hIy,hW11⟩;have HS11:=dh (HS10.out.next hW11.but hW11.deck hbB hBT);have HT11:=dh ((hW11.but.block T8 (lb HT10.out) (by have:=HT8G.out;omega)).trans HT10.out);have HIy:=dh (hIy.imp (ok':=fun q=>T5 < q∧q≠T8) fun q hq _=>by have:=HS10.out.lt;have:=lb HT10.out;omega);have HVY:=dh hvy.2;clear hvy hIy hW11 HC10 HS10 HT10 HK10;have f:=ff HT11.out;have t:=cf HT11.out;go_wp2_with fail
       clear f t;obtain ⟨W',hW',hp4,hs4,hb4⟩:=p4I (W:=w11) (b:=T8) HT11.out y K1;rw [hW'];clear hW';go_meet
       exact ⟨T8,y,K1,rfl,HT8G.out.1,hp4,HVY.out,HIy.out.keep fun q hq _=>⟨hs4.2 q hq.2,hq.1⟩,(HS11.out.put hBT hwB HT8G.out.1 (fun k hk=>by have:=HT8G.out.2;have:=hk.2;omega) hs4 hb4).new⟩
      ·have h99b:(n==99)=false:=by simpa using h99
       clear h99;go_wp2_with fail
       go_meet
       exact ⟨T8,.mk 2 0 l8 [],K,rfl,HT8G.out.1,HT10.out,(leafS (fun d=>by rw [wf_2 (by have:=HL8.out;omega)];rfl) (by have:=HL8.out;omega)).2,HK10.out,HS10.out.new⟩
     case rest=>
      obtain ⟨T8,v,K,rfl,hT8g,hT8,hsm,hKv,hSX⟩:=hcut;have HT8G:=dh hT8g;have HT8:=dh hT8;have HSM:=dh hsm;have HKV:=dh hKv;have HSX:=dh hSX;clear hT8g hT8 hsm hKv hSX HS10 HT10 HK10;obtain ⟨hq0,p,u,A,C,hT,hk,hI,hJ,hN,hW⟩:=HSX.out;have HQ0:=dh hq0;have HT:=dh hT;have HK:=dh hk;have HI:=dh hI;have HJ:=dh hJ;clear hq0 hT hk hI hJ hN hW;go_upto_region 11 with fail
      refine region_k (M:=11) b (fun q=>wc.heap.size≤q) (fun q hq=>by have:=HSX.out.lt;omega) [.eq (.agg #[.int .i64 p.kind,.int .u64 (p.num:Int),.slice A.ab A.nb A.cb,.slice A.ai A.ni A.ci,.int .i64 u.kind,.int .u64 (u.num:Int),.slice C.ab C.nb C.cb,.slice C.ai C.ni C.ci]),.eq (.pointer (some ⟨b,0,none⟩)),.num 2,.bl,.eq (.int .i64 n),.eq (.agg #[.int .i64 v.kind,.int .u64 (v.num:Int),.slice K.ab K.nb K.cb,.slice K.ai K.ni K.ci]),.hx (fun r=>∃ bb,r=It.putP p u bb n v),.hx (fun r=>∃ bb,r=It.putP p u bb n v),.any,.any,.bk wc.heap.size (.cells #[.int .i64 0,.int .u64 0,.slice none 0 0,.slice none 0 0,.int .i64 0,.int .u64 0,.slice none 0 0,.slice none 0 0] 28 (0,0))] ⟨trivial,trivial,trivial,trivial,trivial,trivial,trivial,trivial,trivial,trivial,(show b < wc.heap.size by have:=HSX.out.lt;omega),trivial⟩ [.pl,.pl,.pl,.pl,.pl,.pl,.pa,.la,.la,.la,.pa] 6 10 (.hx (fun r=>∃ bb,r=It.putP p u bb n v)) trivial HSX.out.dw.deck (by kernel_rfl) (by kernel_rfl) (by kernel_rfl) (fun _ _ o _ _ h=>by cases o <;> exact h) ?_ ?_
      ·refine ⟨?_,?_,?_,?_,?_,?_,?_,?_,?_,?_,?_,trivial⟩<;>intro vs W hR hG hd;exact dk (dl8 (.tmp 5) T5 p u A C ((hR.block T5 (lb HT.out) (by omega)).trans HT.out) rfl (by kernel_rfl)) hG;exact dk (dmv (.tmp 0) rfl (show _=_ by kernel_rfl)) hG;(have e1:vs 1=.pointer (some ⟨b,0,none⟩):=(hd 1 (dd rfl));exact doesk_call (vals:=#[vs 1,(.int .i64 2)]) 59 (.func 59) #[.tmp 46,.const (.int .i64 2)] _ rfl (by kernel_rfl) (by kernel_rfl) (cq Tryz.func59) (by rw [e1];exact h_next 2 hG (by decide) (by decide)));exact dk (doesh_eqlB (.tmp 47) (.const (.int .i64 0)) 2 0 rfl (hd 2 (dd rfl)) (show _=_ by kernel_rfl)) hG;exact dk (dmv (.tmp 7) rfl (show _=_ by kernel_rfl)) hG;exact dk (dl4 (.tmp 8) T8 v K ((hR.block T8 (lb HT8.out) (by have:=HT8G.out;omega)).trans HT8.out) rfl (by kernel_rfl)) hG;(have e0:vs 0=.agg #[.int .i64 p.kind,.int .u64 (p.num:Int),.slice A.ab A.nb A.cb,.slice A.ai A.ni A.ci,.int .i64 u.kind,.int .u64 (u.num:Int),.slice C.ab C.nb C.cb,.slice C.ai C.ni C.ci]:=(hd 0 (dd rfl));have e4:vs 4=.int .i64 n:=(hd 4 (dd rfl));have e5:vs 5=.agg #[.int .i64 v.kind,.int .u64 (v.num:Int),.slice K.ab K.nb K.cb,.slice K.ai K.ni K.ci]:=(hd 5 (dd rfl));exact dkx (dfi (vals:=#[vs 0,vs 3,vs 4,vs 5]) 33 (.func 33) #[.tmp 45,.tmp 48,.tmp 49,.tmp 50] _ rfl (by kernel_rfl) (by kernel_rfl) (cq Tryz.func33) rfl rfl (by decide) (fun q hq=>by have:=hR.size;omega) (by rw [e0,e4,e5];exact h_rputB (hd 3 (dd rfl)) (But.ir HI.out hR (fun q hq=>by have:=HQ0.out q hq;omega)) (But.ir HJ.out hR (fun q hq=>by have:=HQ0.out q hq;omega)) (But.env HE.out (HSX.out.dw.but.trans hR) (by omega)) (But.ir HKV.out hR (fun q hq=>by omega)) HNN.out.1 (by have:=HNN.out;omega))) hG);exact late_move (.tmp 51) rfl (hd 6 (dd rfl));exact late_hx (.tmp 44) 0 (by decide) rfl (hd 7 (dd rfl));exact late_hx (.tmp 44) 1 (by decide) rfl (hd 7 (dd rfl));exact dkx (doesh_alloc8 rfl rfl rfl (by decide) hR.size) hG
      ·intro vs W12 hR12 hG12 hf hD hE
       obtain ⟨T9,e10,hT10,hN10⟩:=hf 10 (dd rfl);obtain ⟨r,X,Y,⟨bb,hr⟩,e6,hIx,hIy⟩:=hD (by decide) (by decide) T9 e10;have e7:vs 7=_:=(exm (hE 7 _ (by decide) rfl W12) (.tmp 51) rfl).trans e6;have e8:vs 8=_:=ex0 (hE 8 _ (by decide) rfl W12) (.tmp 44) rfl e7;have e9:vs 9=_:=ex1 (hE 9 _ (by decide) rfl W12) (.tmp 44) rfl e7;have HS12:=dh (HSX.out.next hR12 hG12 hbB hBT);have HT12:=dh hT10;have HT9G:=dh hN10;have HIx:=dh hIx;have HIy:=dh hIy;have HRR:=dh hr;simp only [sr,Nat.zero_add,Nat.reduceAdd,e8,e9,e10];clear hf hD hE e6 e7 e8 e9 e10 hR12 hG12 hT10 hN10 hIx hIy hr;obtain ⟨cd,hcd⟩:∃ cd:Int,((It.PH.code r:Nat):Int)=cd:=⟨_,rfl⟩;rw [hcd];have HCD:=dh hcd;clear hcd;have f:=fe8 HT12.out;have t:=ce HT12.out;go_upto_region 12 with fail
       clear f t;obtain ⟨W',hW',hp8,hs8,hb8⟩:=p8I (W:=W12) (b:=T9) HT12.out (It.PH.fst r) (It.PH.snd r) X Y;rw [hW'];clear hW';have HS13:=dh (HS12.out.put hBT hwB (by have:=HSX.out.lt;have:=HT9G.out;omega) (fun k hk=>by have:=HT9G.out;have:=hk.2;omega) hs8 hb8);have HT13:=dh hp8;have HX13:=dh (HIx.out.keep (w':=W') (ok':=fun q=>T5 < q) fun q hq _=>⟨hs8.2 q hq.1,by have:=HSX.out.lt;have:=hq.2;omega⟩);have HY13:=dh (HIy.out.keep (w':=W') (ok':=fun q=>T5 < q) fun q hq _=>⟨hs8.2 q hq.1,by have:=HSX.out.lt;have:=hq.2;omega⟩);clear hp8 hs8 hb8 HT12 HIx HIy HS12;generalize W'=w13 at *;have hwk:IntKind.i64.wrap ((k:Int) - 1)=((k - 1:Nat):Int):=by rw [IntWalk.i64_in _ (by omega)];omega
       cases r with
       | err e0=>
         obtain rfl:cd=(e0:Int):=HCD.out.symm;have hne:((e0:Int)==0)=false:=by have:=It.putP_err HRR.out.symm;simp;omega
         clear HCD;go_wp2_with fail
         go_roundw
         case rel=>exact ⟨k - 1,by go_num,by omega,HS13.out.new.up (by omega)⟩
         case measure=>simp [intOf];omega
       | ok x y=>
         obtain rfl:cd=0:=HCD.out.symm;simp only [It.PH.fst,It.PH.snd,It.PH.code] at *;have HK13:Hid (It.HDk (3 - k + 1) x y):=dh (It.hdk_put HK.out HSM.out HNN.out.1 HNN.out.2 HRR.out.symm);obtain ⟨_,_,_,_,hq⟩:=HS13.out.blk;have HT14:=dh hq;clear HCD hq;have f:=fe8 HT14.out;have t:=ce HT14.out;obtain ⟨g0,g1,g2,g3,g4,g5,g6,g7⟩:=ce HT13.out;go_upto_region 6 with fail
         clear f t g0 g1 g2 g3 g4 g5 g6 g7;obtain ⟨W',hW',hp8,hs8,hb8⟩:=p8I (W:=w13) (b:=T5) HT14.out x y X Y;rw [hW'];clear hW';have HS14:=dh (HDS.store HS13.out hBT hwB hp8 hs8 hb8 HK13.out (fun k h=>h) HX13.out HY13.out).new;clear hp8 hs8 hb8 HT14 HT13 HS13 HX13 HY13;generalize W'=w14 at *;go_wp2_with fail
         go_roundw
         case rel=>exact ⟨k - 1,by go_num,by omega,HS14.out.up (by omega)⟩
         case measure=>simp [intOf];omega
   ·have hk0:¬ 0 < (k:Int):=hk
    have HSX:=dh (HS6.out.up (m':=3) (by omega));clear HS6;have HEW:=dh (But.env HE.out HSX.out.dw.but (by omega));obtain ⟨hq0,p,u,A,C,hT,hk,hI,hJ,hN,hW⟩:=HSX.out;have HQ0:=dh hq0;have HT:=dh hT;have HK:=dh hk;have HI:=dh hI;have HJ:=dh hJ;clear hq0 hT hk hI hJ hN hW;go_upto_region 14 with fail
    refine rgh (M:=7) (fun q=>w6.heap.size≤q) [.eq (.agg #[.int .i64 p.kind,.int .u64 (p.num:Int),.slice A.ab A.nb A.cb,.slice A.ai A.ni A.ci,.int .i64 u.kind,.int .u64 (u.num:Int),.slice C.ab C.nb C.cb,.slice C.ai C.ni C.ci]),.it (It.int 1),.hr (It.putP p u true 98 (It.int 1)),.hr (It.putP p u true 98 (It.int 1)),.any,.any,.bk w6.heap.size (.cells #[.int .i64 0,.int .u64 0,.slice none 0 0,.slice none 0 0,.int .i64 0,.int .u64 0,.slice none 0 0,.slice none 0 0] 28 (0,0))] [.pl,.pl,.pa,.la,.la,.la,.pa] 2 6 (.hr (It.putP p u true 98 (It.int 1))) (by kernel_rfl) (by kernel_rfl) (by kernel_rfl) (fun _ _ o _ _ h=>by cases o <;> exact h) ?_ ?_
    ·refine ⟨?_,?_,?_,?_,?_,?_,?_,trivial⟩<;>intro vs W hR _ hd;exact dl8 (.tmp 5) T5 p u A C (bkp hR HT.out (lb HT.out)) rfl (by kernel_rfl);exact dcl (vals:=#[(.int .i64 1)]) 62 (.func 62) #[.const (.int .i64 1)] _ rfl (by kernel_rfl) (by kernel_rfl) (cq Tryz.func62) (h_rint 1 (dd rfl) W _);(have e0:vs 0=.agg #[.int .i64 p.kind,.int .u64 (p.num:Int),.slice A.ab A.nb A.cb,.slice A.ai A.ni A.ci,.int .i64 u.kind,.int .u64 (u.num:Int),.slice C.ab C.nb C.cb,.slice C.ai C.ni C.ci]:=(hd 0 (dd rfl));exact dfi (vals:=#[vs 0,(.bool true),(.int .i64 98),vs 1]) 33 (.func 33) #[.tmp 58,.const (.bool true),.const (.int .i64 98),.tmp 59] _ rfl (by kernel_rfl) (by kernel_rfl) (cq Tryz.func33) rfl rfl (by decide) (fun q hq=>by have:=Below.size hR;omega) (by rw [e0];exact h_rputV (HI.out.below hR) (HJ.out.below hR) (HEW.out.below hR) (hd 1 (dd rfl)) (by decide) (by decide)));exact late_move (.tmp 60) rfl (hd 2 (dd rfl));exact late_hr (.tmp 57) 0 (by decide) rfl (hd 3 (dd rfl));exact late_hr (.tmp 57) 1 (by decide) rfl (hd 3 (dd rfl));exact doesh_alloc8 rfl rfl rfl (by decide) hR.size
    ·intro vs W12 hR12 hf hD hE
     obtain ⟨T11,e6,hT6,hN6⟩:=hf 6 (dd rfl);obtain ⟨X,Y,e2,hIx,hIy⟩:=hD (by decide) (by decide) T11 e6;have e3:vs 3=_:=(exm (hE 3 _ (by decide) rfl W12) (.tmp 60) rfl).trans e2;have e4:vs 4=_:=ex0 (hE 4 _ (by decide) rfl W12) (.tmp 57) rfl e3;have e5:vs 5=_:=ex1 (hE 5 _ (by decide) rfl W12) (.tmp 57) rfl e3;have HS12:=dh (HSX.out.below hR12);have HT12:=dh hT6;have HT11G:=dh hN6;have HIx:=dh hIx;have HIy:=dh hIy;generalize hr:It.putP p u true 98 (It.int 1)=r at *;have HRR:=dh hr;simp only [sr,Nat.zero_add,Nat.reduceAdd,e4,e5,e6];clear hf hD hE e2 e3 e4 e5 e6 hR12 hT6 hN6 hIx hIy hr;obtain ⟨cd,hcd⟩:∃ cd:Int,((It.PH.code r:Nat):Int)=cd:=⟨_,rfl⟩;rw [hcd];have HCD:=dh hcd;clear hcd;have f:=fe8 HT12.out;have t:=ce HT12.out;go_upto_region 15 with fail
     clear f t;obtain ⟨W',hW',hp8,hs8,hb8⟩:=p8I (W:=W12) (b:=T11) HT12.out (It.PH.fst r) (It.PH.snd r) X Y;rw [hW'];clear hW';have HS13:=dh (HS12.out.put hBT hwB (by have:=HSX.out.lt;have:=HT11G.out;omega) (fun k hk=>by have:=HT11G.out;have:=hk.2;omega) hs8 hb8);have HT13:=dh hp8;have HX13:=dh (HIx.out.keep (w':=W') (ok':=fun q=>T5 < q∧q≠T11) fun q hq _=>⟨hs8.2 q hq.1,by have:=HSX.out.lt;have:=hq.2;omega,hq.1⟩);have HY13:=dh (HIy.out.keep (w':=W') (ok':=fun q=>T5 < q∧q≠T11) fun q hq _=>⟨hs8.2 q hq.1,by have:=HSX.out.lt;have:=hq.2;omega,hq.1⟩);have HT5L:Hid (T5 < T11):=dh (by have:=HSX.out.lt;have:=HT11G.out;omega);clear hp8 hs8 hb8 HT12 HIx HIy HS12;generalize W'=w13 at *;go_wp2_with fail
     refine (nxa b 6 w13 HS13.out.dw.deck (by omega) (by omega)).mono ?_;rintro e w14 ⟨r6,hr0,hr1,rfl,hD4,hB4,hs4⟩;have HS14:=dh (HS13.out.next hB4 hD4 hbB hBT);have HT14:=dh ((hB4.block T11 (lb HT13.out) (by have:=HT5L.out;omega)).trans HT13.out);have HX14:=dh (But.ir HX13.out hB4 (fun q hq=>by omega));have HY14:=dh (But.ir HY13.out hB4 (fun q hq=>by omega));clear hr0 hr1 hB4 hD4 hs4 HS13 HT13 HX13 HY13;by_cases h5:r6=5
     case neg=>
      have h5b:(r6==5)=false:=by simpa using h5
      clear h5;go_upto_region 20 with fail
      obtain ⟨hq9,p9,u9,A9,C9,hT9,hk9,hI9,hJ9,hN9,hW9⟩:=HS14.out;have HT9:=dh hT9;have HN9:=dh hN9;have HW9:=dh hW9;have HI9:=dh hI9;have HJ9:=dh hJ9;have HK9:=dh hk9;have HQ9:=dh hq9;clear hq9 hT9 hk9 hI9 hJ9 hN9 hW9;have t:=ce HT9.out;have f:=fe8 HN9.out;obtain ⟨r0,r1,r2,r3,r4,r5,r6,r7⟩:=ce HN9.out;go_wp2_with fail
      clear f t r0 r1 r2 r3 r4 r5 r6 r7;obtain ⟨W',hW',hp8,hs8,hb8⟩:=p8I (W:=w14) (b:=B) HN9.out p9 u9 A9 C9;rw [hW'];clear hW';obtain ⟨g0,g1,g2,g3,g4,g5,g6,g7⟩:=ce hp8;refine bodyPost_ret (v:=(v8 p9 u9 A9 C9)) (by simp [v8,results,Tryz.results34,go_sem,g0,g1,g2,g3,g4,g5,g6,g7]) rfl ?_;exact ⟨p9,u9,A9,C9,rfl,HK9.out.up (by omega),HI9.out.keep (w':=W') (ok':=fun q=>w.heap.size≤q) fun q hq _=>by have:=HQ9.out q hq;exact ⟨hs8.2 q (by omega),by omega⟩,HJ9.out.keep (w':=W') (ok':=fun q=>w.heap.size≤q) fun q hq _=>by have:=HQ9.out q hq;exact ⟨hs8.2 q (by omega),by omega⟩,HW9.out.down (n:=B) (hb8 _ _ ((Below.refl _ _).mono (Nat.le_of_lt (lb HN9.out))) (Nat.le_refl _)) hwB⟩
     have h5b:(r6==5)=true:=by simpa using h5
     clear h5;cases r with
     | err e0=>
       obtain rfl:cd=(e0:Int):=HCD.out.symm;have hne:((e0:Int)==0)=false:=by have:=It.putP_err HRR.out;simp;omega
       clear HCD;go_upto_region 20 with fail
       obtain ⟨hq9,p9,u9,A9,C9,hT9,hk9,hI9,hJ9,hN9,hW9⟩:=HS14.out;have HT9:=dh hT9;have HN9:=dh hN9;have HW9:=dh hW9;have HI9:=dh hI9;have HJ9:=dh hJ9;have HK9:=dh hk9;have HQ9:=dh hq9;clear hq9 hT9 hk9 hI9 hJ9 hN9 hW9;have t:=ce HT9.out;have f:=fe8 HN9.out;obtain ⟨r0,r1,r2,r3,r4,r5,r6,r7⟩:=ce HN9.out;go_wp2_with fail
       clear f t r0 r1 r2 r3 r4 r5 r6 r7;obtain ⟨W',hW',hp8,hs8,hb8⟩:=p8I (W:=w14) (b:=B) HN9.out p9 u9 A9 C9;rw [hW'];clear hW';obtain ⟨g0,g1,g2,g3,g4,g5,g6,g7⟩:=ce hp8;refine bodyPost_ret (v:=(v8 p9 u9 A9 C9)) (by simp [v8,results,Tryz.results34,go_sem,g0,g1,g2,g3,g4,g5,g6,g7]) rfl ?_;exact ⟨p9,u9,A9,C9,rfl,HK9.out.up (by omega),HI9.out.keep (w':=W') (ok':=fun q=>w.heap.size≤q) fun q hq _=>by have:=HQ9.out q hq;exact ⟨hs8.2 q (by omega),by omega⟩,HJ9.out.keep (w':=W') (ok':=fun q=>w.heap.size≤q) fun q hq _=>by have:=HQ9.out q hq;exact ⟨hs8.2 q (by omega),by omega⟩,HW9.out.down (n:=B) (hb8 _ _ ((Below.refl _ _).mono (Nat.le_of_lt (lb HN9.out))) (Nat.le_refl _)) hwB⟩
     | ok x y=>
       obtain rfl:cd=0:=HCD.out.symm;simp only [It.PH.fst,It.PH.snd,It.PH.code] at *;have HK14:Hid (It.HDk 4 x y):=dh (It.hdk_put HK.out (It.sm_int 1 1 (by decide) (by decide)) (by decide) (by decide) HRR.out);clear HCD;obtain ⟨_,_,_,_,hq⟩:=HS14.out.blk;have HT5:=dh hq;clear hq;have f:=fe8 HT5.out;have t:=ce HT5.out;obtain ⟨g0,g1,g2,g3,g4,g5,g6,g7⟩:=ce HT14.out;go_upto_region 17 with fail
       clear f t g0 g1 g2 g3 g4 g5 g6 g7;obtain ⟨W',hW',hp8,hs8,hb8⟩:=p8I (W:=w14) (b:=T5) HT5.out x y X Y;rw [hW'];clear hW';have HS16:=dh (HDS.store HS14.out hBT hwB hp8 hs8 hb8 HK14.out (fun k h=>h.1) HX14.out HY14.out);have HT16:=dh ((hs8.2 T11 (by have:=HT5L.out;omega)).trans HT14.out);clear hp8 hs8 hb8 HT5 HS14 HT14 HX14 HY14 HK14 HK HI HJ HT HSX HRR;generalize W'=w16 at *;have HEW:=dh (But.env HE.out HS16.out.dw.but (by omega));obtain ⟨hq0,p,u,A,C,hT,hk,hI,hJ,hN,hW⟩:=HS16.out;have HQ0:=dh hq0;have HT:=dh hT;have HK:=dh hk;have HI:=dh hI;have HJ:=dh hJ;clear hq0 hT hk hI hJ hN hW;refine rgh (M:=8) (fun q=>T5 < q∧q≠T11) [.eq (.agg #[.int .i64 p.kind,.int .u64 (p.num:Int),.slice A.ab A.nb A.cb,.slice A.ai A.ni A.ci,.int .i64 u.kind,.int .u64 (u.num:Int),.slice C.ab C.nb C.cb,.slice C.ai C.ni C.ci]),.it (It.int 98),.row [It.int 98],.it (It.mk 4 0 [] [It.int 98]),.hr (It.putP p u true 2 (It.mk 4 0 [] [It.int 98])),.hr (It.putP p u true 2 (It.mk 4 0 [] [It.int 98])),.any,.any] [.pl,.pl,.pl,.pl,.pl,.la,.la,.la] 8 8 (.any) (by kernel_rfl) (by kernel_rfl) (by kernel_rfl) (fun _ _ o _ _ h=>by cases o <;> exact h) ?_ ?_
       ·refine ⟨?_,?_,?_,?_,?_,?_,?_,?_,trivial⟩<;>intro vs W hR _ hd;exact dl8 (.tmp 5) T5 p u A C (bkp hR HT.out (lb HT.out)) rfl (by kernel_rfl);exact dcl (vals:=#[(.int .i64 98)]) 62 (.func 62) #[.const (.int .i64 98)] _ rfl (by kernel_rfl) (by kernel_rfl) (cq Tryz.func62) (h_rint 98 (dd rfl) W _);exact doesh_row1 (.tmp 73) (It.int 98) rfl (hd 1 (dd rfl));exact dcl (vals:=#[vs 2]) 74 (.func 74) #[.tmp 74] _ rfl (by kernel_rfl) (by kernel_rfl) (cq Tryz.func74) ((h_list (hd 2 (dd rfl)) (by decide) (by decide)).mono fun _ _ h=>EndH.any h (fun q hq=>by have:=HS16.out.lt;have:=Below.size hR;have:=lb HT16.out;exact ⟨by omega,by omega⟩));(have e0:vs 0=.agg #[.int .i64 p.kind,.int .u64 (p.num:Int),.slice A.ab A.nb A.cb,.slice A.ai A.ni A.ci,.int .i64 u.kind,.int .u64 (u.num:Int),.slice C.ab C.nb C.cb,.slice C.ai C.ni C.ci]:=(hd 0 (dd rfl));exact dcl (vals:=#[vs 0,(.bool true),(.int .i64 2),vs 3]) 33 (.func 33) #[.tmp 72,.const (.bool true),.const (.int .i64 2),.tmp 75] _ rfl (by kernel_rfl) (by kernel_rfl) (cq Tryz.func33) (by rw [e0];exact (h_rputV (HI.out.below hR) (HJ.out.below hR) (HEW.out.below hR) (hd 3 (dd rfl)) (by decide) (by decide)).mono fun _ _ h=>EndH.any h (fun q hq=>by have:=HS16.out.lt;have:=Below.size hR;have:=lb HT16.out;exact ⟨by omega,by omega⟩)));exact late_move (.tmp 76) rfl (hd 4 (dd rfl));exact late_hr (.tmp 71) 0 (by decide) rfl (hd 5 (dd rfl));exact late_hr (.tmp 71) 1 (by decide) rfl (hd 5 (dd rfl))
       ·intro vs W17 hR17 hf hD hE
        obtain ⟨X,Y,e4,hIx,hIy⟩:=hf 4 (dd rfl);have e5:vs 5=_:=(exm (hE 5 _ (by decide) rfl W17) (.tmp 76) rfl).trans e4;have e6:vs 6=_:=ex0 (hE 6 _ (by decide) rfl W17) (.tmp 71) rfl e5;have e7:vs 7=_:=ex1 (hE 7 _ (by decide) rfl W17) (.tmp 71) rfl e5;have HS18:=dh (HS16.out.below hR17);have HT18:=kp hR17 HT16;have HIx:=dh hIx;have HIy:=dh hIy;generalize hr:It.putP p u true 2 (It.mk 4 0 [] [It.int 98])=r at *;have HRR:=dh hr;simp only [sr,Nat.zero_add,Nat.reduceAdd,e6,e7];clear hf hD hE e4 e5 e6 e7 hR17 hIx hIy HS16 HT16;obtain ⟨cd,hcd⟩:∃ cd:Int,((It.PH.code r:Nat):Int)=cd:=⟨_,rfl⟩;rw [hcd];have HCD:=dh hcd;clear hcd hr;have f:=fe8 HT18.out;have t:=ce HT18.out;go_upto_region 18 with fail
        clear f t;obtain ⟨W',hW',hp8,hs8,hb8⟩:=p8I (W:=W17) (b:=T11) HT18.out (It.PH.fst r) (It.PH.snd r) X Y;rw [hW'];clear hW';have HS19:=dh (HS18.out.put hBT hwB HT5L.out (fun k hk=>hk.2) hs8 hb8);have HT19:=dh hp8;have HX19:=dh (HIx.out.keep (w':=W') (ok':=fun q=>T5 < q) fun q hq _=>⟨hs8.2 q hq.2,hq.1⟩);have HY19:=dh (HIy.out.keep (w':=W') (ok':=fun q=>T5 < q) fun q hq _=>⟨hs8.2 q hq.2,hq.1⟩);clear hp8 hs8 hb8 HT18 HIx HIy HS18;generalize W'=w19 at *;cases r with
        | err e0=>
          obtain rfl:cd=(e0:Int):=HCD.out.symm;have hne:((e0:Int)==0)=false:=by have:=It.putP_err HRR.out;simp;omega
          clear HCD;go_upto_region 20 with fail
          obtain ⟨hq9,p9,u9,A9,C9,hT9,hk9,hI9,hJ9,hN9,hW9⟩:=HS19.out;have HT9:=dh hT9;have HN9:=dh hN9;have HW9:=dh hW9;have HI9:=dh hI9;have HJ9:=dh hJ9;have HK9:=dh hk9;have HQ9:=dh hq9;clear hq9 hT9 hk9 hI9 hJ9 hN9 hW9;have t:=ce HT9.out;have f:=fe8 HN9.out;obtain ⟨r0,r1,r2,r3,r4,r5,r6,r7⟩:=ce HN9.out;go_wp2_with fail
          clear f t r0 r1 r2 r3 r4 r5 r6 r7;obtain ⟨W',hW',hp8,hs8,hb8⟩:=p8I (W:=w19) (b:=B) HN9.out p9 u9 A9 C9;rw [hW'];clear hW';obtain ⟨g0,g1,g2,g3,g4,g5,g6,g7⟩:=ce hp8;refine bodyPost_ret (v:=(v8 p9 u9 A9 C9)) (by simp [v8,results,Tryz.results34,go_sem,g0,g1,g2,g3,g4,g5,g6,g7]) rfl ?_;exact ⟨p9,u9,A9,C9,rfl,HK9.out.up (by omega),HI9.out.keep (w':=W') (ok':=fun q=>w.heap.size≤q) fun q hq _=>by have:=HQ9.out q hq;exact ⟨hs8.2 q (by omega),by omega⟩,HJ9.out.keep (w':=W') (ok':=fun q=>w.heap.size≤q) fun q hq _=>by have:=HQ9.out q hq;exact ⟨hs8.2 q (by omega),by omega⟩,HW9.out.down (n:=B) (hb8 _ _ ((Below.refl _ _).mono (Nat.le_of_lt (lb HN9.out))) (Nat.le_refl _)) hwB⟩
        | ok x y=>
          obtain rfl:cd=0:=HCD.out.symm;simp only [It.PH.fst,It.PH.snd,It.PH.code] at *;have HK19:Hid (It.HDk 5 x y):=dh (It.hdk_put HK.out (It.Sm.list (d:=0) (fun y hy=>by simp only [List.mem_singleton] at hy;subst hy;exact It.sm_int 0 98 (by decide) (by decide)) (by decide)) (by decide) (by decide) HRR.out);clear HCD;obtain ⟨_,_,_,_,hq⟩:=HS19.out.blk;have HT5:=dh hq;clear hq;have f:=fe8 HT5.out;have t:=ce HT5.out;obtain ⟨g0,g1,g2,g3,g4,g5,g6,g7⟩:=ce HT19.out;go_upto_region 20 with fail
          clear f t g0 g1 g2 g3 g4 g5 g6 g7;obtain ⟨W',hW',hp8,hs8,hb8⟩:=p8I (W:=w19) (b:=T5) HT5.out x y X Y;rw [hW'];clear hW';have HS20:=dh (HDS.store HS19.out hBT hwB hp8 hs8 hb8 HK19.out (fun k h=>h) HX19.out HY19.out);clear hp8 hs8 hb8 HT5 HS19 HT19 HX19 HY19 HK19;generalize W'=w20 at *;obtain ⟨hq9,p9,u9,A9,C9,hT9,hk9,hI9,hJ9,hN9,hW9⟩:=HS20.out;have HT9:=dh hT9;have HN9:=dh hN9;have HW9:=dh hW9;have HI9:=dh hI9;have HJ9:=dh hJ9;have HK9:=dh hk9;have HQ9:=dh hq9;clear hq9 hT9 hk9 hI9 hJ9 hN9 hW9;have t:=ce HT9.out;have f:=fe8 HN9.out;obtain ⟨r0,r1,r2,r3,r4,r5,r6,r7⟩:=ce HN9.out;go_wp2_with fail
          clear f t r0 r1 r2 r3 r4 r5 r6 r7;obtain ⟨W',hW',hp8,hs8,hb8⟩:=p8I (W:=w20) (b:=B) HN9.out p9 u9 A9 C9;rw [hW'];clear hW';obtain ⟨g0,g1,g2,g3,g4,g5,g6,g7⟩:=ce hp8;refine bodyPost_ret (v:=(v8 p9 u9 A9 C9)) (by simp [v8,results,Tryz.results34,go_sem,g0,g1,g2,g3,g4,g5,g6,g7]) rfl ?_;exact ⟨p9,u9,A9,C9,rfl,HK9.out.up (by omega),HI9.out.keep (w':=W') (ok':=fun q=>w.heap.size≤q) fun q hq _=>by have:=HQ9.out q hq;exact ⟨hs8.2 q (by omega),by omega⟩,HJ9.out.keep (w':=W') (ok':=fun q=>w.heap.size≤q) fun q hq _=>by have:=HQ9.out q hq;exact ⟨hs8.2 q (by omega),by omega⟩,HW9.out.down (n:=B) (hb8 _ _ ((Below.refl _ _).mono (Nat.le_of_lt (lb HN9.out))) (Nat.le_refl _)) hwB⟩
theorem TL.flat {ok:Nat→Prop} {w:World} {b T:Nat} {es:List (It × Ad)} (h:w.heap[b]?=some (.cells (es.flatMap cells4).toArray T (0,0))) (hb:ok b) (hI:∀ e ∈ es,IR ok w e.1 e.2) (hl:es.length≤1000):TL ok w (es.map (·.1)) (some ⟨b,0,none⟩) es.length:=by
 refine ⟨by simp,by omega,fun j hj=>?_⟩;have hj':j < es.length:=by simpa using hj
 refine ⟨b,0,es[j].2,rfl,hb,?_,by simpa using hI _ (List.getElem_mem hj')⟩;have c:∀ k,k < 4→w.cell? ⟨b,0 + j * 4 + k,none⟩=(cells4 es[j])[k]?:=fun k hk=>by
  rw [cr h,Nat.zero_add];simpa using flat4_get es j hj' k hk
 have c0:=c 0 (by decide);have c1:=c 1 (by decide);have c2:=c 2 (by decide);have c3:=c 3 (by decide);simp only [cells4,List.getElem?_cons_zero,List.getElem?_cons_succ] at c0 c1 c2 c3;refine ⟨?_,?_,?_,?_⟩
 ·simpa using c0
 ·simpa using c1
 ·simpa using c2
 ·simpa using c3
section
variable {o:Oper} {ρ:Operand→Value} {w:World}
end
def SBx (r:It.MR) (w5:World) (a c:Value) (W:World):Prop:=∃ (T:Nat) (Z:Ad),a=.pointer (some ⟨T,0,none⟩)∧c=.int .i64 (It.MR.code r:Int)∧W.heap[T]?=some (.cells #[.int .i64 (It.MR.item r).kind,.int .u64 ((It.MR.item r).num:Int),.slice Z.ab Z.nb Z.cb,.slice Z.ai Z.ni Z.ci] 26 (0,0))∧IR (fun b=>w5.heap.size≤b∧b≠T) W (It.MR.item r) Z∧w5.heap.size≤T∧Below w5.heap.size w5 W
theorem SBx.below {r:It.MR} {w5 W:World} {a c:Value} (h:SBx r w5 a c W):Below w5.heap.size w5 W:=by
 obtain ⟨_,_,_,_,_,_,_,h⟩:=h;exact h
namespace It
def StP (x:It):Prop:=st x=true∧nodes x≤256
theorem StP.kind {x:It} (h:StP x) (k:Int):StP (mk k x.num x.bytes x.kids):=by
 cases x
 exact h
end It
theorem IR.kind {ok:Nat→Prop} {w:World} {x:It} {A:Ad} (h:IR ok w x A) (k:Int):IR ok w (.mk k x.num x.bytes x.kids) A:=by
 cases x
 exact h
def SS (b B:Nat) (w W:World):Prop:=∃ (p u:It) (A C:Ad),W.heap[B]?=some (.cells #[.int .i64 p.kind,.int .u64 (p.num:Int),.slice A.ab A.nb A.cb,.slice A.ai A.ni A.ci,.int .i64 u.kind,.int .u64 (u.num:Int),.slice C.ab C.nb C.cb,.slice C.ai C.ni C.ci] 28 (0,0))∧(It.StP p∧It.StP u)∧IR (fun q=>B + 1 < q) W p A∧IR (fun q=>B + 1 < q) W u C∧W.heap[B + 1]?=some (.cells #[.int .i64 0,.int .u64 0,.slice none 0 0,.slice none 0 0,.int .i64 0,.int .u64 0,.slice none 0 0,.slice none 0 0] 28 (0,0))∧DW b w W
theorem SS.below {b B:Nat} {w W W':World} (h:SS b B w W) (hB:Below W.heap.size W W'):SS b B w W':=by
 obtain ⟨p,u,A,C,h1,h2,h3,h4,h5,h6⟩:=h;exact ⟨p,u,A,C,bkp hB h1 (lb h1),h2,h3.below hB,h4.below hB,bkp hB h5 (lb h5),h6.down hB h6.but.size⟩
theorem SS.next {b B:Nat} {w W W':World} (h:SS b B w W) (hB:But b W W') (hD:Deck W' b) (hb:b < B):SS b B w W':=by
 obtain ⟨p,u,A,C,h1,h2,h3,h4,h5,h6⟩:=h;exact ⟨p,u,A,C,(hB.block B (lb h1) (by omega)).trans h1,h2,But.ir h3 hB (fun k hk=>by omega),But.ir h4 hB (fun k hk=>by omega),(hB.block (B + 1) (lb h5) (by omega)).trans h5,h6.next hD hB⟩
theorem SS.dw {b B:Nat} {w W:World} (h:SS b B w W):DW b w W:=by
 obtain ⟨_,_,_,_,_,_,_,_,_,h⟩:=h;exact h
theorem SS.lt {b B:Nat} {w W:World} (h:SS b B w W):B + 1 < W.heap.size:=by
 obtain ⟨_,_,_,_,_,_,_,_,h,_⟩:=h;exact lb h
theorem SS.store {b B:Nat} {w W W':World} {p u:It} {A C:Ad} (h:SS b B w W) (hw:w.heap.size≤B) (hp:W'.heap[B]?=some (.cells #[.int .i64 p.kind,.int .u64 (p.num:Int),.slice A.ab A.nb A.cb,.slice A.ai A.ni A.ci,.int .i64 u.kind,.int .u64 (u.num:Int),.slice C.ab C.nb C.cb,.slice C.ai C.ni C.ci] 28 (0,0))) (hs:W'.heap.size=W.heap.size∧∀ k,k≠B→W'.heap[k]?=W.heap[k]?) (hb:∀ (n:Nat) (u:World),Below n u W→n≤B→Below n u W') (hst:It.StP p∧It.StP u) (hI:IR (fun q=>B + 1 < q) W p A) (hJ:IR (fun q=>B + 1 < q) W u C):SS b B w W':=by
 obtain ⟨_,_,_,_,h1,_,_,_,h5,h6⟩:=h;exact ⟨p,u,A,C,hp,hst,hI.keep fun k hk _=>⟨hs.2 k (by omega),hk⟩,hJ.keep fun k hk _=>⟨hs.2 k (by omega),hk⟩,(hs.2 (B + 1) (by omega)).trans h5,h6.down (n:=B) (hb _ _ ((Below.refl W.heap.size W).mono (Nat.le_of_lt (lb h1))) (Nat.le_refl _)) hw⟩
def cells8 (e:It × Ad × It × Ad):List Value:=[.int .i64 e.1.kind,.int .u64 (e.1.num:Int),.slice e.2.1.ab e.2.1.nb e.2.1.cb,.slice e.2.1.ai e.2.1.ni e.2.1.ci,.int .i64 e.2.2.1.kind,.int .u64 (e.2.2.1.num:Int),.slice e.2.2.2.ab e.2.2.2.nb e.2.2.2.cb,.slice e.2.2.2.ai e.2.2.2.ni e.2.2.2.ci]
theorem flat8_get:∀ (es:List (It × Ad × It × Ad)) (i:Nat) (h:i < es.length) (j:Nat),j < 8→(es.flatMap cells8)[i * 8 + j]?=(cells8 es[i])[j]?
 | [],i,h,_,_=>by simp at h
 | e :: es,i,h,j,hj=>by
   rw [List.flatMap_cons];cases i with
   | zero=>rw [List.getElem?_append_left (by simp [cells8];omega)];simp
   | succ i=>
     rw [List.getElem?_append_right (by simp [cells8];omega)];have:(i + 1) * 8 + j - (cells8 e).length=i * 8 + j:=by simp [cells8];omega
     rw [this,flat8_get es i (by simpa using h) j hj];simp
def HRow (W:World) (X n:Nat):Prop:=∀ k,k < n→∃ (p u:It) (A C:Ad),(W.cell? ⟨X,k * 8,none⟩=some (.int .i64 p.kind)∧W.cell? ⟨X,k * 8 + 1,none⟩=some (.int .u64 (p.num:Int))∧W.cell? ⟨X,k * 8 + 2,none⟩=some (.slice A.ab A.nb A.cb)∧W.cell? ⟨X,k * 8 + 3,none⟩=some (.slice A.ai A.ni A.ci)∧W.cell? ⟨X,k * 8 + 4,none⟩=some (.int .i64 u.kind)∧W.cell? ⟨X,k * 8 + 5,none⟩=some (.int .u64 (u.num:Int))∧W.cell? ⟨X,k * 8 + 6,none⟩=some (.slice C.ab C.nb C.cb)∧W.cell? ⟨X,k * 8 + 7,none⟩=some (.slice C.ai C.ni C.ci))∧IR (fun _=>True) W p A∧IR (fun _=>True) W u C
theorem HRow.of {W:World} {X T:Nat} {es:List (It × Ad × It × Ad)} (h:W.heap[X]?=some (.cells (es.flatMap cells8).toArray T (0,0))) (hI:∀ e ∈ es,IR (fun _=>True) W e.1 e.2.1∧IR (fun _=>True) W e.2.2.1 e.2.2.2):HRow W X es.length:=by
 intro k hk;have c:∀ j,j < 8→W.cell? ⟨X,k * 8 + j,none⟩=(cells8 es[k])[j]?:=fun j hj=>by
  rw [cr h];simpa using flat8_get es k hk j hj
 refine ⟨es[k].1,es[k].2.2.1,es[k].2.1,es[k].2.2.2,⟨?_,?_,?_,?_,?_,?_,?_,?_⟩,hI _ (List.getElem_mem hk)⟩
 ·have h:=c 0 (by decide);simp only [cells8,List.getElem?_cons_zero,List.getElem?_cons_succ,Nat.add_zero] at h;exact h
 ·have h:=c 1 (by decide);simp only [cells8,List.getElem?_cons_zero,List.getElem?_cons_succ,Nat.add_zero] at h;exact h
 ·have h:=c 2 (by decide);simp only [cells8,List.getElem?_cons_zero,List.getElem?_cons_succ,Nat.add_zero] at h;exact h
 ·have h:=c 3 (by decide);simp only [cells8,List.getElem?_cons_zero,List.getElem?_cons_succ,Nat.add_zero] at h;exact h
 ·have h:=c 4 (by decide);simp only [cells8,List.getElem?_cons_zero,List.getElem?_cons_succ,Nat.add_zero] at h;exact h
 ·have h:=c 5 (by decide);simp only [cells8,List.getElem?_cons_zero,List.getElem?_cons_succ,Nat.add_zero] at h;exact h
 ·have h:=c 6 (by decide);simp only [cells8,List.getElem?_cons_zero,List.getElem?_cons_succ,Nat.add_zero] at h;exact h
 ·have h:=c 7 (by decide);simp only [cells8,List.getElem?_cons_zero,List.getElem?_cons_succ,Nat.add_zero] at h;exact h
theorem HRow.below {W W':World} {X n:Nat} (h:HRow W X n) (hB:Below W.heap.size W W') (hX:X < W.heap.size):HRow W' X n:=fun k hk=>by
 obtain ⟨p,u,A,C,hc,hI,hJ⟩:=h k hk;have e:∀ q,W'.cell? ⟨X,q,none⟩=W.cell? ⟨X,q,none⟩:=fun q=>cu (hB.block X hX)
 refine ⟨p,u,A,C,?_,hI.below hB,hJ.below hB⟩;simp only [e];exact hc
theorem put_ex:It.putP (It.mk 5 0 [] []) (It.mk 5 0 [] []) true 1 (It.int 10)=.ok (It.mk 5 0 [] [It.int 1,It.int 10]) (It.mk 5 0 [] []):=by kernel_rfl
theorem prot_ex:It.protE (It.mk 5 0 [] [It.int 1,It.int 10]) (It.mk 5 0 [] [])=0∧It.protL (It.mk 5 0 [] [It.int 1,It.int 10]) (It.mk 5 0 [] [])=[161,1,10]:=⟨by kernel_rfl,by kernel_rfl⟩
theorem alg_ex:It.algP (It.mk 5 0 [] [It.int 1,It.int 10]) (It.mk 5 0 [] [])=10:=by kernel_rfl
theorem hv_ex:It.hvalid (It.mk 0 0 [] []) (It.mk 0 0 [] [])=false:=by kernel_rfl
theorem hawake_any (w:World) (hE:Env w):Calls Tryz.prog 25 #[] w (VP true w):=by
 have HE:=dh hE;clear hE;go_enter Tryz.func25,Tryz.ntmps25
 go_wp2_with fail
 refine (hempty_any w).mono ?_;rintro e w1 ⟨rfl,B1⟩;have HP1:=dh B1;clear B1;go_wp2_with fail
 refine (h_rint 10 (dd rfl) w1 (fun _=>True)).mono ?_;rintro e w2 ⟨_,rfl,B2,K,rfl,hK⟩;have HP2:=dh (pt HP1.out B2);have hC:Calls Tryz.prog 32 #[.agg #[.int .i64 5,.int .u64 0,.slice none 0 0,.slice none 0 0,.int .i64 5,.int .u64 0,.slice none 0 0,.slice none 0 0],.bool true,.int .i64 1,.agg #[.int .i64 (It.int 10).kind,.int .u64 ((It.int 10).num:Int),.slice K.ab K.nb K.cb,.slice K.ai K.ni K.ci]] w2 (EndH w2 (.hr (It.putP (It.mk 5 0 [] []) (It.mk 5 0 [] []) true 1 (It.int 10)))):=hput_any (It.mk 5 0 [] []) (It.mk 5 0 [] []) ⟨none,0,0,none,0,0⟩ ⟨none,0,0,none,0,0⟩ w2 (fun _=>True) (fun _=>True) (IR.flat _ _ (by omega)) (IR.flat _ _ (by omega)) (HE.out.below HP2.out) (It.int 10) K true 1 _ hK (by decide) (by decide);rw [put_ex] at hC;have HC:=dh hC;clear B2 hK hC HP1;go_wp2_with fail
 refine HC.out.mono ?_;rintro e w3 ⟨_,rfl,B3,X,Y,rfl,hX,hY⟩;simp only [It.PH.fst,It.PH.snd,It.PH.code] at *;have Q:=pt B3 (al w3 (.cells #[.int .i64 (It.mk 5 0 [] [It.int 1,It.int 10]).kind,.int .u64 ((It.mk 5 0 [] [It.int 1,It.int 10]).num:Int),.slice X.ab X.nb X.cb,.slice X.ai X.ni X.ci,.int .i64 (It.mk 5 0 [] []).kind,.int .u64 ((It.mk 5 0 [] []).num:Int),.slice Y.ab Y.nb Y.cb,.slice Y.ai Y.ni Y.ci] 28));have HP4:=dh (pt HP2.out Q);have HT:=dh (aw w3 (.cells #[.int .i64 (It.mk 5 0 [] [It.int 1,It.int 10]).kind,.int .u64 ((It.mk 5 0 [] [It.int 1,It.int 10]).num:Int),.slice X.ab X.nb X.cb,.slice X.ai X.ni X.ci,.int .i64 (It.mk 5 0 [] []).kind,.int .u64 ((It.mk 5 0 [] []).num:Int),.slice Y.ab Y.nb Y.cb,.slice Y.ai Y.ni Y.ci] 28));have HX:=dh (hX.below (al w3 (.cells #[.int .i64 (It.mk 5 0 [] [It.int 1,It.int 10]).kind,.int .u64 ((It.mk 5 0 [] [It.int 1,It.int 10]).num:Int),.slice X.ab X.nb X.cb,.slice X.ai X.ni X.ci,.int .i64 (It.mk 5 0 [] []).kind,.int .u64 ((It.mk 5 0 [] []).num:Int),.slice Y.ab Y.nb Y.cb,.slice Y.ai Y.ni Y.ci] 28)));have HY:=dh (hY.below (al w3 (.cells #[.int .i64 (It.mk 5 0 [] [It.int 1,It.int 10]).kind,.int .u64 ((It.mk 5 0 [] [It.int 1,It.int 10]).num:Int),.slice X.ab X.nb X.cb,.slice X.ai X.ni X.ci,.int .i64 (It.mk 5 0 [] []).kind,.int .u64 ((It.mk 5 0 [] []).num:Int),.slice Y.ab Y.nb Y.cb,.slice Y.ai Y.ni Y.ci] 28)));clear B3 hX hY Q HC HP2;go_upto_region 2 with fail
 generalize w3.alloc (.cells #[.int .i64 (It.mk 5 0 [] [It.int 1,It.int 10]).kind,.int .u64 ((It.mk 5 0 [] [It.int 1,It.int 10]).num:Int),.slice X.ab X.nb X.cb,.slice X.ai X.ni X.ci,.int .i64 (It.mk 5 0 [] []).kind,.int .u64 ((It.mk 5 0 [] []).num:Int),.slice Y.ab Y.nb Y.cb,.slice Y.ai Y.ni Y.ci] 28)=w4 at *;generalize w3.heap.size=T1 at *;have HE4:=dh (HE.out.below HP4.out);have HC:=dh (hprot_any (It.mk 5 0 [] [It.int 1,It.int 10]) (It.mk 5 0 [] []) X Y w4 _ _ HX.out HY.out HE4.out);have t:=ce HT.out;go_wp2_with fail
 refine HC.out.mono ?_;rintro e w5 ⟨v,rfl,hO,B5⟩;rw [prot_ex.1];rw [prot_ex.2] at hO;obtain ⟨a5,c5,rfl,hR5,_,_⟩:=hO.br;have hstr:(convert 23 9 (.slice a5 3 c5)).run Tryz.prog w5=.ok (.string ⟨#[161,1,10]⟩) w5:=str_of hR5 c5;have HSTR:=dh hstr;have HP5:=dh (pt HP4.out B5);have HT5:=kp B5 HT;have HX5:=dh (HX.out.below B5);have HY5:=dh (HY.out.below B5);have HE5:=dh (HE.out.below HP5.out);have HC2:Hid (∀ W,Below w5.heap.size w5 W→Calls Tryz.prog 20 #[.agg #[.int .i64 0,.int .u64 0,.slice none 0 0,.slice none 0 0,.int .i64 0,.int .u64 0,.slice none 0 0,.slice none 0 0]] W (VP false W)):=dh fun W hW=>by
  have:=hva (It.mk 0 0 [] []) (It.mk 0 0 [] []) ⟨none,0,0,none,0,0⟩ ⟨none,0,0,none,0,0⟩ W (fun _=>True) (fun _=>True) (IR.flat _ _ (by omega)) (IR.flat _ _ (by omega)) (HE5.out.below hW);rw [hv_ex] at this;exact this
 clear hR5 hO hstr B5 HC HT HX HY HE4 HP4 t;go_upto_region 3 with fail
 have hstr:=HSTR.out;go_wp2_with fail
 refine (HC2.out _ (Below.refl _ _)).mono ?_;rintro e w6 ⟨rfl,B6⟩;have HP6:=dh (pt HP5.out B6);have HT6:=kp B6 HT5;have HC3:=dh (halg_any (It.mk 5 0 [] [It.int 1,It.int 10]) (It.mk 5 0 [] []) X Y w6 _ _ (HX5.out.below B6) (HY5.out.below B6) (HE.out.below HP6.out));rw [alg_ex] at HC3;clear B6 HC2 hstr HSTR;have t:=ce HT6.out;go_wp2_with fail
 refine HC3.out.mono ?_;rintro e w7 ⟨rfl,B7⟩;have HP7:=dh (pt HP6.out B7);go_wp2_with fail
 go_ret
 exact ⟨rfl,HP7.out⟩
namespace It
theorem back_put {p u v:It} {b:Bool} {L:Int} (h:HDk 5 p u) (hv:valid v=true) (hs:Sm 2 v) (h0:100≤L) (h1:L≤65535):∃ p' u',putP p u b L v=.ok p' u'∧hvalid p' u'=true∧getP p' u' L=some v∧(∀ n:Int,n < 100→getP p' u' n=getP p u n)∧putP p' u' (!b) L v=.err 7:=by
 have hf:=h.2.1 L h0 h1;have s2:nodes v≤43:=hs.2.1;have s3:(enc v).length≤1467:=hs.2.2;have b2:=h.2.2.1;have b3:=h.2.2.2;obtain ⟨x,hx,hp⟩:=put_room (b:=b) h.1 h0 h1 hf hv (wf_up (show 2≤7 by decide) hs.1) (by cases b <;> simp <;> omega) (by cases b <;> simp <;> omega)
 have hv':=hvalid_put h.1 h0 h1 hf hx;obtain ⟨⟨m1,m2⟩,m3,m4⟩:=hvalid_maps h.1;have hno:=find2_none hf;have key:∀ m:It,valid m=true→m.kind=5→buildP (m.kids ++ [int L,v])=.ok x→look x.kids (int L)=some v∧∀ r:Int,r < 100→look x.kids (int r)=look m.kids (int r):=fun m hm hk hb=>by
  refine ⟨by rw [look_put hm hk hb,same_self,if_pos rfl],fun r hr=>?_⟩;rw [look_put hm hk hb,if_neg];intro hs;have:=same_iff.1 hs;unfold int at this;rw [if_neg (show ¬ L < 0 by omega)] at this
  split at this
  ·simp at this
  ·simp only [mk.injEq] at this;omega
 have hL:getP (if b=true then x else p) (if b=true then u else x) L=some v:=by
  unfold getP;rw [if_pos hv'];unfold find2;cases b with
  | true=>
    simp only [if_true] at hx ⊢;rw [(key p m1 m2 hx).1]
  | false=>
    simp only [Bool.false_eq_true,if_false] at hx ⊢;rw [hno.1];exact (key u m3 m4 hx).1
 refine ⟨_,_,hp,hv',hL,fun n hn=>?_,?_⟩
 ·unfold getP
  rw [if_pos hv',if_pos h.1];unfold find2;cases b with
  | true=>
    simp only [if_true] at hx ⊢;rw [(key p m1 m2 hx).2 n hn]
  | false=>
    simp only [Bool.false_eq_true,if_false] at hx ⊢;rw [(key u m3 m4 hx).2 n hn]
 ·unfold getP at hL
  rw [if_pos hv'] at hL;unfold putP;rw [if_neg (by rw [hv',hv];decide),if_pos (by rw [hL];rfl)]
theorem prot_dec {p u:It} (h:hvalid p u=true):(p.kids.length=0∧(protL p u).length=0)∨(0 < p.kids.length∧0 < (protL p u).length∧decodeP (protL p u)=.ok p):=by
 unfold protL;rw [if_pos h];by_cases hk:p.kids.length=0
 ·rw [if_pos hk];exact .inl ⟨hk,rfl⟩
 ·rw [if_neg hk];exact .inr ⟨by omega,enc_pos p,decode_enc (hvalid_maps h).1.1⟩
end It
theorem DecP.out2 (R:It.DR):∃ (x:It) (k:Int),(∀ y,R=.ok y→x=y∧k=0)∧∀ w e w',DecP R w e w'→∃ A:Ad,e=.returned (.tuple #[.agg #[.int .i64 x.kind,.int .u64 (x.num:Int),.slice A.ab A.nb A.cb,.slice A.ai A.ni A.ci],.int .i64 k])∧IR (fun _=>True) w' x A∧Below w.heap.size w w':=by
 cases R with
 | err n=>exact ⟨.mk 0 0 [] [],n,fun _ h=>(by cases h),fun w e w' h=>⟨⟨none,0,0,none,0,0⟩,h.2.2,IR.flat _ _ (by omega),h.1⟩⟩
 | ok x=>
   refine ⟨x,0,fun y h=>⟨by cases h;rfl,rfl⟩,fun w e w' h=>?_⟩;obtain ⟨h3,A,h1,h2⟩:=h;exact ⟨A,h1,h2.imp fun _ _ _=>trivial,h3⟩
theorem back_law (w:World) (hE:Env w) (la:Option Addr) (ln lc:Nat) (hL:InL w la ln) (label:Int) (h0: -9223372036854775808≤label) (h1:label≤9223372036854775807) (b:Bool):Calls Tryz.prog 5 #[.slice la ln lc,.int .i64 label,.bool b] w fun e w'=>e=.returned (.bool true)∧Below w.heap.size w w':=by
 have PD:=al w (.cells #[.slice la ln lc,.int .i64 0] 94);have HD:=dh (hL.deck lc);have HE1:=dh (hE.below PD);have HEB:=dh hE.lt;have HPD:=dh PD;clear PD hL hE;go_enter Tryz.func5,Tryz.ntmps5
 go_wp2_with fail
 refine (new_any la ln lc w).mono ?_;rintro e w1' ⟨rfl,rfl⟩;go_upto_region 2 with fail
 generalize w.alloc _=w1 at *;generalize hB:w.heap.size=B at *;have h1B:1 < B:=HEB.out;have HDW:=dh (DW.start HD.out);clear HEB HD;have HC:=dh (headers_any 10 (.inr (.inl rfl)) B w1 HDW.out.deck HE1.out h1B);go_wp2_with fail
 refine HC.out.mono ?_;rintro e w2 ⟨p,u,A,C,rfl,hHD,hI,hJ,hW2⟩;have HHD:=dh hHD;have HI2:=dh hI;have HJ2:=dh hJ;have HE2:=dh (But.env HE1.out hW2.but h1B);have HW2:=dh hW2;have hHS:B < w1.heap.size:=hW2.lt;have hS2:=hW2.but.size;clear HC hHD hI hJ hW2 HE1 HDW;have HC:=dh (genS_any 2 (by decide) B w2 2 rfl HW2.out.deck HE2.out h1B);go_wp2_with fail
 refine HC.out.mono ?_;rintro e w3 ⟨v,K,rfl,⟨hV,hSm⟩,hK,hW3⟩;have HV:=dh hV;have HSM:=dh hSm;have HI3:=dh (But.ir HI2.out hW3.but (fun q hq=>by omega));have HJ3:=dh (But.ir HJ2.out hW3.but (fun q hq=>by omega));have HK3:=dh hK;have HE3:=dh (But.env HE2.out hW3.but h1B);have HB3:Hid (Below B w w3):=dh (HPD.out.trans ((HW2.out.but.trans hW3.but).below (by omega) (by omega)));have hS3:=hW3.but.size;clear HC hV hSm hK hW3 HW2 HI2 HJ2 HE2 HPD;go_upto_region 3 with fail
 obtain ⟨P0,N0⟩:=an w3 (o8 p u A C);obtain ⟨P1,N1⟩:=an (w3.alloc (o8 p u A C)) (o4 v K);have hsz:(w3.alloc (o8 p u A C)).heap.size=w3.heap.size + 1:=by simp
 rw [hsz] at N1;have HT4:=dh (bkp P1 N0 (lb N0));have HQ4:=dh N1;have hQ:=pt P0 P1;have HI4:=dh (HI3.out.below hQ);have HJ4:=dh (HJ3.out.below hQ);have HK4:=dh (HK3.out.below hQ);have HE4:=dh (HE3.out.below hQ);have HB4:=dh (bwt HB3.out hQ hB);clear P0 N0 P1 N1 hsz hQ HI3 HJ3 HK3 HE3 HB3;generalize (w3.alloc (o8 p u A C)).alloc (o4 v K)=w4 at *;have HBT:Hid (B < w3.heap.size):=dh (by omega);clear hS2 hS3 hHS;generalize w3.heap.size=T8 at *;obtain ⟨L,hL⟩:∃ L,IntKind.i64.wrap (100 + label % 1000)=L:=⟨_,rfl⟩;have HLA:Hid (100≤L∧L≤65535):=dh (by have q0:=Int.emod_nonneg label (show (1000:Int)≠0 by decide);have q1:=Int.emod_lt_of_pos label (show (0:Int) < 1000 by decide);rw [IntWalk.i64_in _ (by omega)] at hL;omega);clear h0 h1;go_wp2_with fail
 refine (mod_any label 1000 w4 (by decide) (by decide)).mono ?_;rintro e w4' ⟨rfl,rfl⟩;go_upto_region 4 with fail
 clear hL;obtain ⟨p',u',hp,hv',hg,hn,hp2⟩:=It.back_put (b:=b) HHD.out HV.out HSM.out HLA.out.1 HLA.out.2;have HC:=dh (hput_any p u A C w4 _ _ HI4.out HJ4.out HE4.out v K b L _ HK4.out (by have:=HLA.out;omega) (by have:=HLA.out;omega));rw [hp] at HC;have HV2:=dh hv';have HG:=dh hg;have HN:=dh hn;have HP2:=dh hp2;clear hp hv' hg hn hp2;have t:=ce HT4.out;have z:=cf HQ4.out;go_wp2_with fail
 refine HC.out.mono ?_;rintro e v3 ⟨_,rfl,B3,P3,U3,rfl,hP3,hU3⟩
 dsimp only [It.PH.fst,It.PH.snd,It.PH.code]
 have HP5:Hid (IR (fun q=>w4.heap.size≤q) v3 p' P3):=dh hP3;have HU5:Hid (IR (fun q=>w4.heap.size≤q) v3 u' U3):=dh hU3;have HS4:Hid (B < w4.heap.size):=dh (by have:=lb HT4.out;have:=HBT.out;omega);have hQ:=pt B3 (al v3 (o8 p' u' P3 U3));have HX5:=dh (aw v3 (o8 p' u' P3 U3));have HP5:Hid (IR (fun q=>w4.heap.size≤q) (v3.alloc (o8 p' u' P3 U3)) p' P3):=dh (hP3.below (al v3 (o8 p' u' P3 U3)));have HU5:Hid (IR (fun q=>w4.heap.size≤q) (v3.alloc (o8 p' u' P3 U3)) u' U3):=dh (hU3.below (al v3 (o8 p' u' P3 U3)));have HT5:=kp hQ HT4;have HQ5:=kp hQ HQ4;have HI5:=dh (HI4.out.below hQ);have HJ5:=dh (HJ4.out.below hQ);have HK5:=dh (HK4.out.below hQ);have HE5:=dh (HE4.out.below hQ);have HB5:=dh (bwt HB4.out hQ hB);clear HT4 HQ4 HI4 HJ4 HK4 HE4 HB4;clear HC HS4 t z hP3 hU3;go_upto_region 7 with fail
 clear B3 hQ;generalize v3.alloc _=w5 at *;generalize v3.heap.size=T10 at *;have HC:=dh (hget_any p' u' P3 U3 w5 _ _ HP5.out HU5.out HE5.out L (by have:=HLA.out;omega) (by have:=HLA.out;omega));rw [HG.out] at HC;have t:=ce HX5.out;go_wp2_with fail
 refine HC.out.mono ?_;rintro e v4 ⟨_,rfl,B4,Y,rfl,hY⟩;simp only [It.opt,Option.getD_some,Option.isSome_some] at hY ⊢;have hQ:=pt B4 (al v4 (o4 v Y));have HY6:=dh (aw v4 (o4 v Y));have HV6:=dh (hY.below (al v4 (o4 v Y)));have HT6:=kp hQ HT5;have HQ6:=kp hQ HQ5;have HX6:=kp hQ HX5;have HI6:=dh (HI5.out.below hQ);have HJ6:=dh (HJ5.out.below hQ);have HK6:=dh (HK5.out.below hQ);have HP6:=dh (HP5.out.below hQ);have HU6:=dh (HU5.out.below hQ);have HE6:=dh (HE5.out.below hQ);have HB6:=dh (bwt HB5.out hQ hB);clear HT5 HQ5 HX5 HI5 HJ5 HK5 HP5 HU5 HE5 HB5;clear HC HG hY;go_upto_region 8 with fail
 clear t B4 hQ;generalize v4.alloc _=w6 at *;generalize v4.heap.size=T12 at *;have HC:=dh (hprot_any p' u' P3 U3 w6 _ _ HP6.out HU6.out HE6.out);have hpe:It.protE p' u'=0:=by unfold It.protE;rw [if_pos HV2.out]
 have t:=ce HX6.out;go_wp2_with fail
 refine HC.out.mono ?_;rintro e w7 ⟨pv,rfl,hO,B5⟩;obtain ⟨a,c,rfl,hR,hc,hm⟩:=hO.br;rw [hpe];have HT7:=kp B5 HT6;have HQ7:=kp B5 HQ6;have HX7:=kp B5 HX6;have HY7:=kp B5 HY6;have HI7:=dh (HI6.out.below B5);have HJ7:=dh (HJ6.out.below B5);have HK7:=dh (HK6.out.below B5);have HP7:=dh (HP6.out.below B5);have HU7:=dh (HU6.out.below B5);have HV7:=dh (HV6.out.below B5);have HE7:=dh (HE6.out.below B5);have HB7:=dh (bwt HB6.out B5 hB);clear HT6 HQ6 HX6 HY6 HI6 HJ6 HK6 HP6 HU6 HV6 HE6 HB6;have HR:=dh hR;have HCM:=dh (And.intro hc hm);have HPL:=dh (It.prot_dec (by exact HV2.out):(p'.kids.length=0∧(It.protL p' u').length=0)∨(0 < p'.kids.length∧0 < (It.protL p' u').length∧It.decodeP (It.protL p' u')=.ok p'));clear HC hpe hO hR hc hm;go_upto_region 9 with fail
 clear t B5;have HC:=dh (rdecode_any (It.protL p' u') a (It.protL p' u').length c w7 _ HR.out HCM.out.1 HCM.out.2 HE7.out);obtain ⟨x,k,hx,hout⟩:=DecP.out2 (It.decodeP (It.protL p' u'));generalize It.decodeP (It.protL p' u')=D at *;generalize (It.protL p' u').length=N at *;have HDEC:Hid (((p'.kids.length:Int)=0∧(N:Int)=0)∨(¬ (p'.kids.length:Int)=0∧¬ (N:Int)=0∧(0:Int) < N∧x=p'∧k=0)):=dh (by
  rcases HPL.out with ⟨h1,h2⟩ | ⟨h1,h2,h3⟩
  ·exact .inl ⟨by omega,by omega⟩
  ·exact .inr ⟨by omega,by omega,by omega,hx _ h3⟩)
 clear HPL HR HCM hx;go_wp2_with fail
 refine HC.out.mono ?_;intro e v6 he;obtain ⟨F,rfl,hF,B6⟩:=hout _ _ _ he;have hQ:=pt B6 (al v6 (o4 x F));have HZ8:=dh (aw v6 (o4 x F));have HF8:=dh (hF.below (al v6 (o4 x F)));have HT8:=kp hQ HT7;have HQ8:=kp hQ HQ7;have HX8:=kp hQ HX7;have HY8:=kp hQ HY7;have HI8:=dh (HI7.out.below hQ);have HJ8:=dh (HJ7.out.below hQ);have HK8:=dh (HK7.out.below hQ);have HP8:=dh (HP7.out.below hQ);have HU8:=dh (HU7.out.below hQ);have HV8:=dh (HV7.out.below hQ);have HE8:=dh (HE7.out.below hQ);have HB8:=dh (bwt HB7.out hQ hB);clear HT7 HQ7 HX7 HY7 HI7 HJ7 HK7 HP7 HU7 HV7 HE7 HB7;clear HC hF hout he;go_upto_region 10 with fail
 clear B6 hQ;generalize v6.alloc _=w8 at *;generalize v6.heap.size=T16 at *;have HNI:Hid ((P3.ni:Int)=p'.kids.length):=dh (by rw [HP8.out.ni.1]);go_cut [98] from 60 to 98 (fun v W=>v=.bool false∧Below w8.heap.size w8 W)
 case first=>
  have HC:=dh (same_any v v Y K w8 _ _ HV8.out HK8.out);rw [It.same_self] at HC;have r:=cf HY8.out;have q:=cf HQ8.out;rcases HDEC.out with ⟨h1,h2⟩ | ⟨h1,h2,h3,rfl,rfl⟩
  ·have hni:=HNI.out.trans h1
   clear h1;go_wp2_with fail
   refine HC.out.mono ?_;rintro e u9 ⟨rfl,B9⟩;have t:=ck8 B9 HX8;clear r q;go_wp2_with fail
   go_meet
   exact ⟨by simp [h2,hni],B9⟩
  ·have hni:¬ (P3.ni:Int)=0:=by rw [HNI.out];exact h1
   clear h1;go_wp2_with fail
   refine HC.out.mono ?_;rintro e u9 ⟨rfl,B9⟩;have t:=ck8 B9 HX8;have s:=ck B9 HZ8;have HC:=dh (same_any x x F P3 u9 _ _ (HF8.out.below B9) (HP8.out.below B9));rw [It.same_self] at HC;clear r q;go_wp2_with fail
   refine HC.out.mono ?_;rintro e u10 ⟨rfl,B10⟩;have t':=ck8 (pt B9 B10) HX8;have HBA:=dh (pt B9 B10);clear t s B9 B10;go_wp2_with fail
   go_meet
   exact ⟨by rw [show ((N:Int)==0)=false from beq_eq_false_iff_ne.2 h2,show ((P3.ni:Int)==0)=false from beq_eq_false_iff_ne.2 hni];rfl,HBA.out⟩
 case rest=>
  obtain ⟨rfl,hBc⟩:=hcut;have HT9:=kp hBc HT8;have HQ9:=kp hBc HQ8;have HX9:=kp hBc HX8;have HI9:=dh (HI8.out.below hBc);have HJ9:=dh (HJ8.out.below hBc);have HK9:=dh (HK8.out.below hBc);have HP9:=dh (HP8.out.below hBc);have HU9:=dh (HU8.out.below hBc);have HE9:=dh (HE8.out.below hBc);have HB9:=dh (bwt HB8.out hBc hB);clear HT8 HQ8 HX8 HI8 HJ8 HK8 HP8 HU8 HE8 HB8;clear hBc HNI HDEC HY8 HV8 HF8 HZ8;go_upto_region 13 with fail
  go_loopw [18] (fun i W=>∃ j:Int,i=.int .i64 j∧-10≤j∧j≤100∧Below wc.heap.size wc W) (fun i _=>(100 - intOf i).toNat)
  case atStart=>exact ⟨-10,rfl,by omega,by omega,Below.refl _ _⟩
  case round=>
   obtain ⟨u0,hu0⟩:∃ u0,u0=wr:=⟨_,rfl⟩;subst hu0;obtain ⟨j,rfl,hj0,hj1,hBj⟩:=hrel;by_cases hj:j < 100
   ·have HC:=dh (hget_any p u A C u0 _ _ (HI9.out.below hBj) (HJ9.out.below hBj) (HE9.out.below hBj) j (by omega) (by omega))
    have t:=ck8 hBj HT9;generalize hg:It.getP p u j=g at *;have HJJ:=dh (And.intro hj0 hj);have HGE:=dh ((HN.out j hj).trans hg);clear hj0 hj1 hg;go_wp2_with fail
    refine HC.out.mono ?_;rintro e v1 ⟨_,rfl,B1,Y1,rfl,hY1⟩;have hQ:=pt B1 (al v1 (.cells #[.int .i64 (It.opt g).kind,.int .u64 ((It.opt g).num:Int),.slice Y1.ab Y1.nb Y1.cb,.slice Y1.ai Y1.ni Y1.ci] 26));have HY1:=dh (aw v1 (.cells #[.int .i64 (It.opt g).kind,.int .u64 ((It.opt g).num:Int),.slice Y1.ab Y1.nb Y1.cb,.slice Y1.ai Y1.ni Y1.ci] 26));have HV1:=dh (hY1.below (al v1 (.cells #[.int .i64 (It.opt g).kind,.int .u64 ((It.opt g).num:Int),.slice Y1.ab Y1.nb Y1.cb,.slice Y1.ai Y1.ni Y1.ci] 26)));have HB1:=dh (hBj.trans (Below.mono hQ hBj.size));clear HC hY1 hj;go_upto_region 16 with fail
    clear t B1 hQ hBj;generalize v1.alloc _=u1 at *;generalize v1.heap.size=T19 at *;have HC:=dh (hget_any p' u' P3 U3 u1 _ _ (HP9.out.below HB1.out) (HU9.out.below HB1.out) (HE9.out.below HB1.out) j (by have:=HJJ.out;omega) (by have:=HJJ.out;omega));rw [HGE.out] at HC;have t:=ck8 HB1.out HX9;go_wp2_with fail
    refine HC.out.mono ?_;rintro e v2 ⟨_,rfl,B2,Y2,rfl,hY2⟩;have hQ:=pt B2 (al v2 (.cells #[.int .i64 (It.opt g).kind,.int .u64 ((It.opt g).num:Int),.slice Y2.ab Y2.nb Y2.cb,.slice Y2.ai Y2.ni Y2.ci] 26));have HY2:=dh (aw v2 (.cells #[.int .i64 (It.opt g).kind,.int .u64 ((It.opt g).num:Int),.slice Y2.ab Y2.nb Y2.cb,.slice Y2.ai Y2.ni Y2.ci] 26));have HV2':=dh (hY2.below (al v2 (.cells #[.int .i64 (It.opt g).kind,.int .u64 ((It.opt g).num:Int),.slice Y2.ab Y2.nb Y2.cb,.slice Y2.ai Y2.ni Y2.ci] 26)));have HY12:=kp hQ HY1;have HV12:=dh (HV1.out.below hQ);have HB2:=dh (HB1.out.trans (Below.mono hQ HB1.out.size));clear HC hY2 HY1 HV1 HB1 HGE;go_upto_region 17 with fail
    clear t B2 hQ;generalize v2.alloc _=u2 at *;generalize v2.heap.size=T21 at *;have HC:=dh (same_any (It.opt g) (It.opt g) Y1 Y2 u2 _ _ HV12.out HV2'.out);rw [It.same_self] at HC;have r:=cf HY12.out;have q:=cf HY2.out;have hjw:IntKind.i64.wrap (j + 1)=j + 1:=IntWalk.i64_in _ (by have:=HJJ.out;omega);generalize Option.isSome g=gb at *;go_wp2_with fail
    refine HC.out.mono ?_;rintro e u3 ⟨rfl,B3⟩;have HB3:=dh (HB2.out.trans (Below.mono B3 HB2.out.size));clear B3 HC r q HY12 HY2 HV12 HV2' HB2;go_wp2_with fail
    go_roundw
    case rel=>exact ⟨j + 1,by go_num,by have:=HJJ.out;omega,by have:=HJJ.out;omega,HB3.out⟩
    case measure=>have:=HJJ.out;simp [intOf];omega
   ·have hQj:=hBj
    have HT10:=kp hQj HT9;have HQ10:=kp hQj HQ9;have HX10:=kp hQj HX9;have HI10:=dh (HI9.out.below hQj);have HJ10:=dh (HJ9.out.below hQj);have HK10:=dh (HK9.out.below hQj);have HP10:=dh (HP9.out.below hQj);have HU10:=dh (HU9.out.below hQj);have HE10:=dh (HE9.out.below hQj);have HB10:=dh (bwt HB9.out hQj hB);clear HT9 HQ9 HX9 HI9 HJ9 HK9 HP9 HU9 HE9 HB9;clear hBj hQj hj0 hj1 HN;have HC:=dh (hput_any p' u' P3 U3 u0 _ _ HP10.out HU10.out HE10.out v K (!b) L _ HK10.out (by have:=HLA.out;omega) (by have:=HLA.out;omega));rw [HP2.out] at HC;have t:=ce HX10.out;have z:=cf HQ10.out;go_wp2_with fail
    refine HC.out.mono ?_;rintro e v1 ⟨_,rfl,B1,P4,U4,rfl,hP4,hU4⟩;generalize It.PH.fst (.err 7)=f1 at *;generalize It.PH.snd (.err 7)=f2 at *
    dsimp only [It.PH.code]
    have hQ:=pt B1 (al v1 (o8 f1 f2 P4 U4));have HX11:=kp hQ HX10;have HP11:=dh (HP10.out.below hQ);have HU11:=dh (HU10.out.below hQ);have HE11:=dh (HE10.out.below hQ);have HB11:=dh (bwt HB10.out hQ hB);clear HX10 HP10 HU10 HE10 HB10;clear HC hP4 hU4;go_upto_region 20 with fail
    clear t z B1 hQ;generalize v1.alloc _=w11 at *;have HC:=dh (hva p' u' P3 U3 w11 _ _ HP11.out HU11.out HE11.out);rw [HV2.out] at HC;have t:=ce HX11.out;go_wp2_with fail
    refine HC.out.mono ?_;rintro e w12 ⟨rfl,B12⟩;have HC:=dh (hawake_any w12 (HE11.out.below B12));have HB12:=dh (bwt HB11.out B12 hB);clear t B12;go_wp2_with fail
    refine HC.out.mono ?_;rintro e w13 ⟨rfl,B13⟩;have HB13:=dh (bwt HB12.out B13 hB);clear B13;go_wp2_with fail
    go_ret
    exact ⟨rfl,by rw [hB];exact HB13.out⟩
