/- Joined texts. -/
import Derived.Test.YtkgbjoepjcenlaaDoorKAG
import Derived.Test.YtkgbjoepjcenlaaDoorKAK
set_option linter.unusedVariables false
set_option linter.unusedSimpArgs false
namespace Go.Proofs.YtkgbjoepjcenlaaDoor
open Go.RowKit
namespace Tm
mutual
def nz:Tm→Bool | mk o _ ks=>o !=0 && nzs ks
def nzs:List Tm→Bool | []=>true | k :: ks=>nz k && nzs ks
end
theorem nzs_mem {l:List Tm} (h:nzs l=true):∀ t ∈ l,nz t=true:=by
 induction l with
 | nil=>intro t ht;simp at ht
 | cons k ks ih=>
   unfold nzs at h
   rw [Bool.and_eq_true] at h
   intro t ht
   rcases List.mem_cons.1 ht with rfl | ht
   ·exact h.1
   ·exact ih h.2 t ht
theorem nzs_of {l:List Tm} (h:∀ t ∈ l,nz t=true):nzs l=true:=by
 induction l with
 | nil=>rfl
 | cons k ks ih=>
   unfold nzs
   rw [h k (by simp),ih fun t ht=>h t (by simp [ht])];rfl
end Tm
def okW (B:Nat) (L:List (Nat × Tm)) (k:Nat):Prop:=B≤k∧∀ p ∈ L,p.1≠k
inductive Fa where
 | eq (v:Value)
 | tm (t:Tm)
 | tl (l:List Tm)
 | cell (lo:Nat)
 | any
def Fa.holds (B:Nat) (L:List (Nat × Tm)):Fa→Value→World→Prop
 | .eq v0,v,_=>v=v0
 | .tm t,v,w=>Tm.nz t=true∧∃ a n c,v=.agg #[.int .i64 t.op,.int .i64 t.num,.slice a n c]∧TR (okW B L) w t a n∧n≤c
 | .tl l,v,w=>Tm.nzs l=true∧∃ a c,v=.slice a l.length c∧TL (okW B L) w l a l.length∧l.length≤c
 | .cell lo,v,w=>∃ b,v=.pointer (some ⟨b,0,none⟩)∧w.heap[b]?=some (.cells #[.int .i64 0,.int .i64 0,.slice none 0 0] 28 (0,0))∧lo≤b
 | .any,_,_=>True
def VarOk (B:Nat) (L:List (Nat × Tm)) (w:World) (p:Nat × Tm):Prop:=Tm.nz p.2=true∧∃ a n c,w.heap[p.1]?=some (.cells #[.int .i64 p.2.op,.int .i64 p.2.num,.slice a n c] 28 (0,0))∧TR (okW B L) w p.2 a n∧n≤c
def GM (B:Nat) (L:List (Nat × Tm)) (w:World):Prop:=B≤w.heap.size∧∀ p ∈ L,VarOk B L w p
def RB (w w':World):Prop:=Below w.heap.size w w'
theorem RB.refl (w:World):RB w w:=Below.refl _ _
theorem RB.trans (u v w:World) (h:RB u v) (k:RB v w):RB u w:=pure_trans h k
theorem RB.drew (w:World):RB w w.drew:=(Below.refl _ _).drew
theorem Fa.stable (B:Nat) (L:List (Nat × Tm)) (f:Fa) (v:Value) (w w':World) (h:RB w w') (hf:f.holds B L v w):f.holds B L v w':=by
 cases f with
 | eq v0=>exact hf
 | tm t=>
   obtain ⟨hz,a,n,c,e,hT,hn⟩:=hf
   exact ⟨hz,a,n,c,e,hT.below h,hn⟩
 | tl l=>
   obtain ⟨hz,a,c,e,hT,hn⟩:=hf
   exact ⟨hz,a,c,e,hT.below h,hn⟩
 | cell lo=>
   obtain ⟨b,e,hb,hlo⟩:=hf
   exact ⟨b,e,Below.keep h hb (lt_of_block hb),hlo⟩
 | any=>trivial
theorem GM.stable {B:Nat} {L:List (Nat × Tm)} {w w':World} (h:RB w w') (hG:GM B L w):GM B L w':=
 ⟨Nat.le_trans hG.1 h.size,fun p hp=>by
  obtain ⟨hz,a,n,c,hb,hT,hn⟩:=hG.2 p hp
  exact ⟨hz,a,n,c,Below.keep h hb (lt_of_block hb),hT.below h,hn⟩⟩
theorem GM.new {B:Nat} {L:List (Nat × Tm)} {w:World} (hG:GM B L w) {k:Nat} (hk:okW B L k∨w.heap.size≤k):okW B L k:=by
 rcases hk with hk | hk
 ·exact hk
 ·refine ⟨Nat.le_trans hG.1 hk,fun p hp e=>?_⟩
  obtain ⟨_,a,n,c,hb,_⟩:=hG.2 p hp
  have:=lt_of_block hb
  omega
def Ends (B:Nat) (L:List (Nat × Tm)) (w:World) (t:Tm) (v:Value) (w':World):Prop:=RB w w'∧GM B L w'∧(Fa.tm t).holds B L v w'
theorem Ends.of_u {B:Nat} {L:List (Nat × Tm)} {w:World} (hG:GM B L w) {t:Tm} (hz:Tm.nz t=true) {e:Ending} {w':World} (h:UPost (okW B L) t w e w'):∃ v,e=.returned v∧Ends B L w t v w':=by
 obtain ⟨a,n,c,rfl,⟨hT,hn⟩,hb⟩:=h
 exact ⟨_,rfl,hb,hG.stable hb,hz,a,n,c,rfl,hT.imp fun k hk _=>hG.new hk,hn⟩
theorem cf (f:FuncId) (fn:Func) (hf:Tryd.prog.funcs[f]?=some fn) (hn:(fn.name== "runtime.NumGoroutine")=false) (hb:fn.body.isNone=false) (vals:Array Value) (w:World):(callFunc f vals).run Tryd.prog w=.ok (.enter f vals) w:=by
 unfold callFunc
 simp only [Sem.run_bind,run_program,Result.andThen_ok,hf]
 simp [hn,hb]
section calls
variable {B:Nat} {L:List (Nat × Tm)}
theorem does_call {o:Oper} {ρ:Operand→Value} {w:World} {t:Tm} (f:FuncId) (fo:Operand) (args:Array Operand) (ts:Array TypeId) (ho:o.op=.call { callee:=.value fo,args:=args,argTypes:=ts }) (hf:ρ fo=.func (.func f) #[] #[]) {vals:Array Value} (hv:args.map ρ=vals)
 (hcf:∀ w,(callFunc f vals).run Tryd.prog w=.ok (.enter f vals) w) (h:Calls Tryd.prog f vals w fun e w'=>∃ v,e=.returned v∧Ends B L w t v w'):Rg.Does Tryd.prog o ρ w (Ends B L w t):=
 Rg.Does.call f fo args ts ho hf hv hcf h
theorem name_ends {w:World} (hG:GM B L w) (q:Int):Calls Tryd.prog 45 #[.int .i64 q] w fun e w'=>∃ v,e=.returned v∧Ends B L w (Tm.nm q) v w':=
 (tname_any q w).mono fun e w' ⟨he,hb⟩=>⟨_,he,hb,hG.stable hb,rfl,none,0,0,rfl,TR_iff.2 (TL.nil _ _ _),Nat.le_refl _⟩
theorem pub_ends {w:World} (hG:GM B L w) {t:Tm} {v:Value} (hv:(Fa.tm t).holds B L v w):Calls Tryd.prog 49 #[v] w fun e w'=>∃ v,e=.returned v∧Ends B L w (Tm.pub t) v w':=by
 obtain ⟨hz,a,n,c,rfl,hT,hn⟩:=hv
 exact (pub_any t a n c w _ hT hn).mono fun e w' ⟨g,he,hT',hb⟩=>⟨_,he,hb,hG.stable hb,by simp [Tm.pub,Tm.nz,Tm.nzs,hz],_,_,_,rfl,hT'.imp fun k hk _=>hG.new hk,Nat.le_refl _⟩
theorem tup_nz:∀ l:List Tm,l≠[]→Tm.nzs l=true→Tm.nz (Tm.tup l)=true
 | [],h,_=>absurd rfl h
 | [a],_,h=>by unfold Tm.nzs at h;rw [Bool.and_eq_true] at h;exact h.1
 | a :: b :: l,_,h=>by
   unfold Tm.nzs at h
   rw [Bool.and_eq_true] at h
   simp [Tm.tup,Tm.pair,Tm.nz,Tm.nzs,h.1,tup_nz (b :: l) (by simp) h.2]
theorem tuple_ends {w:World} (hG:GM B L w) {l:List Tm} (hne:l≠[]) {v:Value} (hv:(Fa.tl l).holds B L v w):Calls Tryd.prog 48 #[v] w fun e w'=>∃ v,e=.returned v∧Ends B L w (Tm.tup l) v w':=by
 obtain ⟨hz,a,c,rfl,hT,hn⟩:=hv
 cases l with
 | nil=>exact absurd rfl hne
 | cons x l=>exact (tuple_any l x a _ c w _ hT hn).mono fun e w' h=>Ends.of_u hG (tup_nz _ hne hz) h
theorem node_ends {w:World} (hG:GM B L w) (o:Int) (ho:(o !=0)=true) {l:List Tm} {v:Value} (hv:(Fa.tl l).holds B L v w):Calls Tryd.prog 47 #[.int .i64 o,v] w fun e w'=>∃ v,e=.returned v∧Ends B L w (.mk o 0 l) v w':=by
 obtain ⟨hz,a,c,rfl,hT,hn⟩:=hv
 exact (node_any o a _ c w).mono fun e w' ⟨he,hb⟩=>⟨_,he,hb,hG.stable hb,by unfold Tm.nz;rw [ho,hz];rfl,_,_,_,rfl,TR_iff.2 (hT.below hb),hn⟩
def tcells:List (Tm × Option Addr × Nat × Nat)→List Value
 | []=>[]
 | (t,a,n,c) :: r=>.int .i64 t.op :: .int .i64 t.num :: .slice a n c :: tcells r
theorem tcells_get:∀ (l:List (Tm × Option Addr × Nat × Nat)) (j:Nat) (e:Tm × Option Addr × Nat × Nat),l[j]?=some e→(tcells l)[j * 3]?=some (.int .i64 e.1.op)∧(tcells l)[j * 3 + 1]?=some (.int .i64 e.1.num)∧(tcells l)[j * 3 + 2]?=some (.slice e.2.1 e.2.2.1 e.2.2.2)
 | [],j,e,h=>by simp at h
 | (t,a,n,c) :: r,0,e,h=>by simp at h;subst h;exact ⟨rfl,rfl,rfl⟩
 | (t,a,n,c) :: r,j + 1,e,h=>by
   have:=tcells_get r j e (by simpa using h)
   have e1:(j + 1) * 3=j * 3 + 1 + 1 + 1:=by omega
   rw [e1]
   exact this
theorem row_made {w:World} (hG:GM B L w) (l:List (Tm × Option Addr × Nat × Nat)) (hl:∀ e ∈ l,Tm.nz e.1=true∧TR (okW B L) w e.1 e.2.1 e.2.2.1∧e.2.2.1≤e.2.2.2) (hlen:l.length≤1000):
 RB w (w.alloc (.cells (tcells l).toArray 28))∧GM B L (w.alloc (.cells (tcells l).toArray 28))∧(Fa.tl (l.map (·.1))).holds B L (.slice (some ⟨w.heap.size,0,none⟩) l.length l.length) (w.alloc (.cells (tcells l).toArray 28)):=by
 have hb:RB w (w.alloc (.cells (tcells l).toArray 28)):=pure_alloc _ _
 refine ⟨hb,hG.stable hb,Tm.nzs_of fun t ht=>?_,some ⟨w.heap.size,0,none⟩,l.length,by simp,⟨by simp,by simp;omega,fun j hj=>?_⟩,by simp⟩
 ·obtain ⟨e,he,rfl⟩:=List.mem_map.1 ht
  exact (hl e he).1
 ·have hj':j < l.length:=by simpa using hj
  have hn:=alloc_new w (.cells (tcells l).toArray 28)
  obtain ⟨c0,c1,c2⟩:=tcells_get l j l[j] (by simp [hj'])
  obtain ⟨_,hT,hle⟩:=hl l[j] (List.getElem_mem hj')
  refine ⟨w.heap.size,0,l[j].2.1,l[j].2.2.1,l[j].2.2.2,rfl,⟨hG.new (.inr (Nat.le_refl _)),hle⟩,?_,?_,?_,?_⟩
  ·rw [cell_of_arr hn];simpa using c0
  ·rw [cell_of_arr hn];simpa using c1
  ·rw [cell_of_arr hn];simpa using c2
  ·simpa using hT.below hb
theorem run_row1 (o0 m0:Int) (a0:Option Addr) (n0 c0:Nat) (w:World):(Instr.buildSlice 23 1 #[(0,.agg #[.int .i64 o0,.int .i64 m0,.slice a0 n0 c0])]).run Tryd.prog w=.ok (.slice (some ⟨w.heap.size,0,none⟩) 1 1) (w.alloc (.cells #[.int .i64 o0,.int .i64 m0,.slice a0 n0 c0] 28)):=by
 go_simp
theorem does_row1 {o:Oper} {ρ:Operand→Value} {w:World} (hG:GM B L w) (x0:Operand) (t0:Tm) (ho:o.op=.buildSlice 23 1 #[(0,x0)]) (h0:(Fa.tm t0).holds B L (ρ x0) w):Rg.Does Tryd.prog o ρ w fun v w'=>RB w w'∧GM B L w'∧(Fa.tl [t0]).holds B L v w':=by
 obtain ⟨z0,a0,n0,c0,e0,T0,l0⟩:=h0
 refine Rg.Does.value (v:=.slice (some ⟨w.heap.size,0,none⟩) 1 1) (w':=w.alloc (.cells (tcells [(t0,a0,n0,c0)]).toArray 28)) ?_ (row_made hG [(t0,a0,n0,c0)] (fun e he=>by
  simp only [List.mem_cons,List.not_mem_nil,or_false] at he
  subst he;exact ⟨z0,T0,l0⟩) (by simp))
 have hr:=run_row1 t0.op t0.num a0 n0 c0 w
 simp only [execOp,ho,List.map_toArray,List.map_cons,List.map_nil,e0,Sem.run_bind,hr,Result.andThen_ok,Sem.run_pure,tcells]
theorem run_row2 (o0 m0:Int) (a0:Option Addr) (n0 c0:Nat) (o1 m1:Int) (a1:Option Addr) (n1 c1:Nat) (w:World):(Instr.buildSlice 23 2 #[(0,.agg #[.int .i64 o0,.int .i64 m0,.slice a0 n0 c0]),(1,.agg #[.int .i64 o1,.int .i64 m1,.slice a1 n1 c1])]).run Tryd.prog w=.ok (.slice (some ⟨w.heap.size,0,none⟩) 2 2) (w.alloc (.cells #[.int .i64 o0,.int .i64 m0,.slice a0 n0 c0,.int .i64 o1,.int .i64 m1,.slice a1 n1 c1] 28)):=by
 go_simp
theorem does_row2 {o:Oper} {ρ:Operand→Value} {w:World} (hG:GM B L w) (x0 x1:Operand) (t0 t1:Tm) (ho:o.op=.buildSlice 23 2 #[(0,x0),(1,x1)]) (h0:(Fa.tm t0).holds B L (ρ x0) w) (h1:(Fa.tm t1).holds B L (ρ x1) w):Rg.Does Tryd.prog o ρ w fun v w'=>RB w w'∧GM B L w'∧(Fa.tl [t0,t1]).holds B L v w':=by
 obtain ⟨z0,a0,n0,c0,e0,T0,l0⟩:=h0
 obtain ⟨z1,a1,n1,c1,e1,T1,l1⟩:=h1
 refine Rg.Does.value (v:=.slice (some ⟨w.heap.size,0,none⟩) 2 2) (w':=w.alloc (.cells (tcells [(t0,a0,n0,c0),(t1,a1,n1,c1)]).toArray 28)) ?_ (row_made hG [(t0,a0,n0,c0),(t1,a1,n1,c1)] (fun e he=>by
  simp only [List.mem_cons,List.not_mem_nil,or_false] at he
  rcases he with rfl | rfl
  ·exact ⟨z0,T0,l0⟩
  ·exact ⟨z1,T1,l1⟩) (by simp))
 have hr:=run_row2 t0.op t0.num a0 n0 c0 t1.op t1.num a1 n1 c1 w
 simp only [execOp,ho,List.map_toArray,List.map_cons,List.map_nil,e0,e1,Sem.run_bind,hr,Result.andThen_ok,Sem.run_pure,tcells]
theorem run_row3 (o0 m0:Int) (a0:Option Addr) (n0 c0:Nat) (o1 m1:Int) (a1:Option Addr) (n1 c1:Nat) (o2 m2:Int) (a2:Option Addr) (n2 c2:Nat) (w:World):(Instr.buildSlice 23 3 #[(0,.agg #[.int .i64 o0,.int .i64 m0,.slice a0 n0 c0]),(1,.agg #[.int .i64 o1,.int .i64 m1,.slice a1 n1 c1]),(2,.agg #[.int .i64 o2,.int .i64 m2,.slice a2 n2 c2])]).run Tryd.prog w=.ok (.slice (some ⟨w.heap.size,0,none⟩) 3 3) (w.alloc (.cells #[.int .i64 o0,.int .i64 m0,.slice a0 n0 c0,.int .i64 o1,.int .i64 m1,.slice a1 n1 c1,.int .i64 o2,.int .i64 m2,.slice a2 n2 c2] 28)):=by
 go_simp
theorem does_row3 {o:Oper} {ρ:Operand→Value} {w:World} (hG:GM B L w) (x0 x1 x2:Operand) (t0 t1 t2:Tm) (ho:o.op=.buildSlice 23 3 #[(0,x0),(1,x1),(2,x2)]) (h0:(Fa.tm t0).holds B L (ρ x0) w) (h1:(Fa.tm t1).holds B L (ρ x1) w) (h2:(Fa.tm t2).holds B L (ρ x2) w):Rg.Does Tryd.prog o ρ w fun v w'=>RB w w'∧GM B L w'∧(Fa.tl [t0,t1,t2]).holds B L v w':=by
 obtain ⟨z0,a0,n0,c0,e0,T0,l0⟩:=h0
 obtain ⟨z1,a1,n1,c1,e1,T1,l1⟩:=h1
 obtain ⟨z2,a2,n2,c2,e2,T2,l2⟩:=h2
 refine Rg.Does.value (v:=.slice (some ⟨w.heap.size,0,none⟩) 3 3) (w':=w.alloc (.cells (tcells [(t0,a0,n0,c0),(t1,a1,n1,c1),(t2,a2,n2,c2)]).toArray 28)) ?_ (row_made hG [(t0,a0,n0,c0),(t1,a1,n1,c1),(t2,a2,n2,c2)] (fun e he=>by
  simp only [List.mem_cons,List.not_mem_nil,or_false] at he
  rcases he with rfl | rfl | rfl
  ·exact ⟨z0,T0,l0⟩
  ·exact ⟨z1,T1,l1⟩
  ·exact ⟨z2,T2,l2⟩) (by simp))
 have hr:=run_row3 t0.op t0.num a0 n0 c0 t1.op t1.num a1 n1 c1 t2.op t2.num a2 n2 c2 w
 simp only [execOp,ho,List.map_toArray,List.map_cons,List.map_nil,e0,e1,e2,Sem.run_bind,hr,Result.andThen_ok,Sem.run_pure,tcells]
theorem run_row4 (o0 m0:Int) (a0:Option Addr) (n0 c0:Nat) (o1 m1:Int) (a1:Option Addr) (n1 c1:Nat) (o2 m2:Int) (a2:Option Addr) (n2 c2:Nat) (o3 m3:Int) (a3:Option Addr) (n3 c3:Nat) (w:World):(Instr.buildSlice 23 4 #[(0,.agg #[.int .i64 o0,.int .i64 m0,.slice a0 n0 c0]),(1,.agg #[.int .i64 o1,.int .i64 m1,.slice a1 n1 c1]),(2,.agg #[.int .i64 o2,.int .i64 m2,.slice a2 n2 c2]),(3,.agg #[.int .i64 o3,.int .i64 m3,.slice a3 n3 c3])]).run Tryd.prog w=.ok (.slice (some ⟨w.heap.size,0,none⟩) 4 4) (w.alloc (.cells #[.int .i64 o0,.int .i64 m0,.slice a0 n0 c0,.int .i64 o1,.int .i64 m1,.slice a1 n1 c1,.int .i64 o2,.int .i64 m2,.slice a2 n2 c2,.int .i64 o3,.int .i64 m3,.slice a3 n3 c3] 28)):=by
 go_simp
theorem does_row4 {o:Oper} {ρ:Operand→Value} {w:World} (hG:GM B L w) (x0 x1 x2 x3:Operand) (t0 t1 t2 t3:Tm) (ho:o.op=.buildSlice 23 4 #[(0,x0),(1,x1),(2,x2),(3,x3)]) (h0:(Fa.tm t0).holds B L (ρ x0) w) (h1:(Fa.tm t1).holds B L (ρ x1) w) (h2:(Fa.tm t2).holds B L (ρ x2) w) (h3:(Fa.tm t3).holds B L (ρ x3) w):Rg.Does Tryd.prog o ρ w fun v w'=>RB w w'∧GM B L w'∧(Fa.tl [t0,t1,t2,t3]).holds B L v w':=by
 obtain ⟨z0,a0,n0,c0,e0,T0,l0⟩:=h0
 obtain ⟨z1,a1,n1,c1,e1,T1,l1⟩:=h1
 obtain ⟨z2,a2,n2,c2,e2,T2,l2⟩:=h2
 obtain ⟨z3,a3,n3,c3,e3,T3,l3⟩:=h3
 refine Rg.Does.value (v:=.slice (some ⟨w.heap.size,0,none⟩) 4 4) (w':=w.alloc (.cells (tcells [(t0,a0,n0,c0),(t1,a1,n1,c1),(t2,a2,n2,c2),(t3,a3,n3,c3)]).toArray 28)) ?_ (row_made hG [(t0,a0,n0,c0),(t1,a1,n1,c1),(t2,a2,n2,c2),(t3,a3,n3,c3)] (fun e he=>by
  simp only [List.mem_cons,List.not_mem_nil,or_false] at he
  rcases he with rfl | rfl | rfl | rfl
  ·exact ⟨z0,T0,l0⟩
  ·exact ⟨z1,T1,l1⟩
  ·exact ⟨z2,T2,l2⟩
  ·exact ⟨z3,T3,l3⟩) (by simp))
 have hr:=run_row4 t0.op t0.num a0 n0 c0 t1.op t1.num a1 n1 c1 t2.op t2.num a2 n2 c2 t3.op t3.num a3 n3 c3 w
 simp only [execOp,ho,List.map_toArray,List.map_cons,List.map_nil,e0,e1,e2,e3,Sem.run_bind,hr,Result.andThen_ok,Sem.run_pure,tcells]
theorem run_row5 (o0 m0:Int) (a0:Option Addr) (n0 c0:Nat) (o1 m1:Int) (a1:Option Addr) (n1 c1:Nat) (o2 m2:Int) (a2:Option Addr) (n2 c2:Nat) (o3 m3:Int) (a3:Option Addr) (n3 c3:Nat) (o4 m4:Int) (a4:Option Addr) (n4 c4:Nat) (w:World):(Instr.buildSlice 23 5 #[(0,.agg #[.int .i64 o0,.int .i64 m0,.slice a0 n0 c0]),(1,.agg #[.int .i64 o1,.int .i64 m1,.slice a1 n1 c1]),(2,.agg #[.int .i64 o2,.int .i64 m2,.slice a2 n2 c2]),(3,.agg #[.int .i64 o3,.int .i64 m3,.slice a3 n3 c3]),(4,.agg #[.int .i64 o4,.int .i64 m4,.slice a4 n4 c4])]).run Tryd.prog w=.ok (.slice (some ⟨w.heap.size,0,none⟩) 5 5) (w.alloc (.cells #[.int .i64 o0,.int .i64 m0,.slice a0 n0 c0,.int .i64 o1,.int .i64 m1,.slice a1 n1 c1,.int .i64 o2,.int .i64 m2,.slice a2 n2 c2,.int .i64 o3,.int .i64 m3,.slice a3 n3 c3,.int .i64 o4,.int .i64 m4,.slice a4 n4 c4] 28)):=by
 go_simp
theorem does_row5 {o:Oper} {ρ:Operand→Value} {w:World} (hG:GM B L w) (x0 x1 x2 x3 x4:Operand) (t0 t1 t2 t3 t4:Tm) (ho:o.op=.buildSlice 23 5 #[(0,x0),(1,x1),(2,x2),(3,x3),(4,x4)]) (h0:(Fa.tm t0).holds B L (ρ x0) w) (h1:(Fa.tm t1).holds B L (ρ x1) w) (h2:(Fa.tm t2).holds B L (ρ x2) w) (h3:(Fa.tm t3).holds B L (ρ x3) w) (h4:(Fa.tm t4).holds B L (ρ x4) w):Rg.Does Tryd.prog o ρ w fun v w'=>RB w w'∧GM B L w'∧(Fa.tl [t0,t1,t2,t3,t4]).holds B L v w':=by
 obtain ⟨z0,a0,n0,c0,e0,T0,l0⟩:=h0
 obtain ⟨z1,a1,n1,c1,e1,T1,l1⟩:=h1
 obtain ⟨z2,a2,n2,c2,e2,T2,l2⟩:=h2
 obtain ⟨z3,a3,n3,c3,e3,T3,l3⟩:=h3
 obtain ⟨z4,a4,n4,c4,e4,T4,l4⟩:=h4
 refine Rg.Does.value (v:=.slice (some ⟨w.heap.size,0,none⟩) 5 5) (w':=w.alloc (.cells (tcells [(t0,a0,n0,c0),(t1,a1,n1,c1),(t2,a2,n2,c2),(t3,a3,n3,c3),(t4,a4,n4,c4)]).toArray 28)) ?_ (row_made hG [(t0,a0,n0,c0),(t1,a1,n1,c1),(t2,a2,n2,c2),(t3,a3,n3,c3),(t4,a4,n4,c4)] (fun e he=>by
  simp only [List.mem_cons,List.not_mem_nil,or_false] at he
  rcases he with rfl | rfl | rfl | rfl | rfl
  ·exact ⟨z0,T0,l0⟩
  ·exact ⟨z1,T1,l1⟩
  ·exact ⟨z2,T2,l2⟩
  ·exact ⟨z3,T3,l3⟩
  ·exact ⟨z4,T4,l4⟩) (by simp))
 have hr:=run_row5 t0.op t0.num a0 n0 c0 t1.op t1.num a1 n1 c1 t2.op t2.num a2 n2 c2 t3.op t3.num a3 n3 c3 t4.op t4.num a4 n4 c4 w
 simp only [execOp,ho,List.map_toArray,List.map_cons,List.map_nil,e0,e1,e2,e3,e4,Sem.run_bind,hr,Result.andThen_ok,Sem.run_pure,tcells]
theorem does_alloc {o:Oper} {ρ:Operand→Value} {w:World} (hG:GM B L w) (lo:Nat) (hlo:lo≤w.heap.size) (ho:o.op=.alloc 28):Rg.Does Tryd.prog o ρ w fun v w'=>RB w w'∧GM B L w'∧(Fa.cell lo).holds B L v w':=by
 have hb:RB w (w.alloc (.cells #[.int .i64 0,.int .i64 0,.slice none 0 0] 28)):=pure_alloc _ _
 refine Rg.Does.value (v:=.pointer (some ⟨w.heap.size,0,none⟩)) (w':=w.alloc (.cells #[.int .i64 0,.int .i64 0,.slice none 0 0] 28)) ?_ ⟨hb,hG.stable hb,w.heap.size,rfl,alloc_new _ _,hlo⟩
 have hr:(Instr.alloc 28 true (.tuple #[])).run Tryd.prog w=.ok (.pointer (some ⟨w.heap.size,0,none⟩)) (w.alloc (.cells #[.int .i64 0,.int .i64 0,.slice none 0 0] 28)):=by go_simp
 simp only [execOp,ho,Sem.run_bind,hr,Result.andThen_ok,Sem.run_pure]
theorem does_load {o:Oper} {ρ:Operand→Value} {w:World} (hG:GM B L w) (x:Operand) (b:Nat) (t:Tm) (hp:(b,t) ∈ L) (ho:o.op=.load 28 x) (hx:ρ x=.pointer (some ⟨b,0,none⟩)):Rg.Does Tryd.prog o ρ w fun v w'=>RB w w'∧GM B L w'∧(Fa.tm t).holds B L v w':=by
 obtain ⟨hz,a,n,c,hb,hT,hn⟩:=hG.2 _ hp
 have p0:=cell_of_arr hb 0
 have p1:=cell_of_arr hb 1
 have p2:=cell_of_arr hb 2
 simp at p0 p1 p2
 refine Rg.Does.value (v:=.agg #[.int .i64 t.op,.int .i64 t.num,.slice a n c]) (w':=w) ?_ ⟨RB.refl _,hG,hz,a,n,c,rfl,hT,hn⟩
 have hr:(Instr.loadAt 28 (.pointer (some ⟨b,0,none⟩))).run Tryd.prog w=.ok (.agg #[.int .i64 t.op,.int .i64 t.num,.slice a n c]) w:=by
  clear hb
  go_simp
 simp only [execOp,ho,hx,Sem.run_bind,hr,Result.andThen_ok,Sem.run_pure]
end calls
end Go.Proofs.YtkgbjoepjcenlaaDoor
namespace Go.Proofs.YtkgbjoepjcenlaaDoor
open Go.RowKit
theorem cell_ne {B:Nat} {L:List (Nat × Tm)} {w:World} {b:Nat} (hb:w.heap[b]?=some (.cells #[.int .i64 0,.int .i64 0,.slice none 0 0] 28 (0,0))) {t:Tm} (hz:Tm.nz t=true) {a:Option Addr} {n:Nat} (hT:TR (okW B L) w t a n):TR (fun k=>okW B L k∧k≠b) w t a n:=by
 revert a n
 refine Tm.rec (motive_1:=fun t=>Tm.nz t=true→∀ {a:Option Addr} {n:Nat},TR (okW B L) w t a n→TR (fun k=>okW B L k∧k≠b) w t a n) (motive_2:=fun l=>∀ t ∈ l,Tm.nz t=true→∀ {a:Option Addr} {n:Nat},TR (okW B L) w t a n→TR (fun k=>okW B L k∧k≠b) w t a n) ?_ ?_ ?_ t hz
 ·intro o m ks ih hz a n h
  rw [TR_iff] at h ⊢
  unfold Tm.nz at hz
  rw [Bool.and_eq_true] at hz
  refine ⟨h.1,h.2.1,fun j hj=>?_⟩
  obtain ⟨b',o',an,nn,cc,e,hb',c0,c1,c2,ht⟩:=h.2.2 j hj
  have hzj:=Tm.nzs_mem hz.2 _ (List.getElem_mem hj)
  refine ⟨b',o',an,nn,cc,e,⟨⟨hb'.1,fun hbb=>?_⟩,hb'.2⟩,c0,c1,c2,ih _ (List.getElem_mem hj) hzj ht⟩
  subst hbb
  rw [cell_of_arr hb] at c0
  have hop:(Tm.kids (.mk o m ks))[j].op≠0:=by
   cases hk:(Tm.kids (.mk o m ks))[j] with
   | mk o1 m1 ks1=>
     rw [hk] at hzj
     unfold Tm.nz at hzj
     rw [Bool.and_eq_true] at hzj
     simpa [Tm.op] using hzj.1
  rcases hq:o' + j * 3 with _ | _ | _ | q
  ·rw [hq] at c0;simp at c0;exact hop c0.symm
  ·rw [hq] at c0;simp at c0;exact hop c0.symm
  ·rw [hq] at c0;simp at c0
  ·rw [hq] at c0;simp at c0
 ·intro t ht;simp at ht
 ·intro k ks h1 h2 t ht
  rcases List.mem_cons.1 ht with rfl | ht
  ·exact h1
  ·exact h2 t ht
theorem TR.more {B:Nat} {L:List (Nat × Tm)} {w w':World} {b:Nat} {u t:Tm} {a:Option Addr} {n:Nat} (hT:TR (fun k=>okW B L k∧k≠b) w t a n) (hw:∀ k,okW B L k∧k≠b→k < w.heap.size→w'.heap[k]?=w.heap[k]?):TR (okW B ((b,u) :: L)) w' t a n:=
 hT.keep fun k hk hl=>⟨hw k hk hl,hk.1.1,fun p hp=>by
  rcases List.mem_cons.1 hp with rfl | hp
  ·exact fun e=>hk.2 e.symm
  ·exact hk.1.2 p hp⟩
theorem TR.fresh {B:Nat} {L:List (Nat × Tm)} {w:World} {t:Tm} {a:Option Addr} {n:Nat} (hT:TR (okW B L) w t a n) {b:Nat} (hb:w.heap.size≤b):TR (fun k=>okW B L k∧k≠b) w t a n:=
 hT.imp fun k hk hl=>⟨hk,by omega⟩
theorem GM.boxed {B:Nat} {L:List (Nat × Tm)} {w:World} (hG:GM B L w) {t:Tm} {a:Option Addr} {n c:Nat} (hz:Tm.nz t=true) (hT:TR (okW B L) w t a n) (hn:n≤c):GM B ((w.heap.size,t) :: L) (w.alloc (.cells #[.int .i64 t.op,.int .i64 t.num,.slice a n c] 28)):=by
 have hb:=pure_alloc w (.cells #[.int .i64 t.op,.int .i64 t.num,.slice a n c] 28)
 have hk:∀ k,okW B L k∧k≠w.heap.size→k < w.heap.size→(w.alloc (.cells #[.int .i64 t.op,.int .i64 t.num,.slice a n c] 28)).heap[k]?=w.heap[k]?:=fun k _ hl=>hb.block k hl
 refine ⟨Nat.le_trans hG.1 hb.size,fun p hp=>?_⟩
 rcases List.mem_cons.1 hp with rfl | hp
 ·exact ⟨hz,a,n,c,alloc_new _ _,(hT.fresh (Nat.le_refl _)).more hk,hn⟩
 ·obtain ⟨hz',a',n',c',hb',hT',hn'⟩:=hG.2 p hp
  exact ⟨hz',a',n',c',Below.keep hb hb' (lt_of_block hb'),(hT'.fresh (Nat.le_refl _)).more hk,hn'⟩
theorem Fa.boxed {B:Nat} {L:List (Nat × Tm)} {w:World} {t u:Tm} {v:Value} (h:(Fa.tm t).holds B L v w) (o:Obj):(Fa.tm t).holds B ((w.heap.size,u) :: L) v (w.alloc o):=by
 obtain ⟨hz,a,n,c,e,hT,hn⟩:=h
 exact ⟨hz,a,n,c,e,(hT.fresh (Nat.le_refl _)).more fun k _ hl=>(pure_alloc w o).block k hl,hn⟩
theorem GM.stored {B:Nat} {L:List (Nat × Tm)} {w:World} (hG:GM B L w) {b:Nat} (hb:w.heap[b]?=some (.cells #[.int .i64 0,.int .i64 0,.slice none 0 0] 28 (0,0))) (hL:∀ p ∈ L,p.1≠b) {t:Tm} (hz:Tm.nz t=true) {a:Option Addr} {n c:Nat} (hT:TR (okW B L) w t a n) (hn:n≤c):
 GM B ((b,t) :: L) (((w.setCell ⟨b,0,none⟩ (.int .i64 t.op)).setCell ⟨b,1,none⟩ (.int .i64 t.num)).setCell ⟨b,2,none⟩ (.slice a n c))∧TR (okW B ((b,t) :: L)) (((w.setCell ⟨b,0,none⟩ (.int .i64 t.op)).setCell ⟨b,1,none⟩ (.int .i64 t.num)).setCell ⟨b,2,none⟩ (.slice a n c)) t a n∧(((w.setCell ⟨b,0,none⟩ (.int .i64 t.op)).setCell ⟨b,1,none⟩ (.int .i64 t.num)).setCell ⟨b,2,none⟩ (.slice a n c)).heap[b]?=some (.cells #[.int .i64 t.op,.int .i64 t.num,.slice a n c] 28 (0,0)):=by
 obtain ⟨S1,S2,S3⟩:=put3 hb (.int .i64 t.op) (.int .i64 t.num) (.slice a n c) _ rfl
 have hk:∀ k,okW B L k∧k≠b→k < w.heap.size→(((w.setCell ⟨b,0,none⟩ (.int .i64 t.op)).setCell ⟨b,1,none⟩ (.int .i64 t.num)).setCell ⟨b,2,none⟩ (.slice a n c)).heap[k]?=w.heap[k]?:=fun k h _=>S2 k h.2
 refine ⟨⟨Nat.le_trans hG.1 (by simp [World.setCell]),fun p hp=>?_⟩,(cell_ne hb hz hT).more hk,S1⟩
 rcases List.mem_cons.1 hp with rfl | hp
 ·exact ⟨hz,a,n,c,S1,(cell_ne hb hz hT).more hk,hn⟩
 ·obtain ⟨hz',a',n',c',hb',hT',hn'⟩:=hG.2 p hp
  exact ⟨hz',a',n',c',(S2 _ (hL p hp)).trans hb',(cell_ne hb hz' hT').more hk,hn'⟩
theorem GM.lt {B:Nat} {L:List (Nat × Tm)} {w:World} (h:GM B L w):∀ p ∈ L,p.1 < w.heap.size:=fun p hp=>by
 obtain ⟨_,a,n,c,hb,_⟩:=h.2 p hp
 exact lt_of_block hb
theorem TR.fewer {B:Nat} {L:List (Nat × Tm)} {p:Nat × Tm} {w:World} {t:Tm} {a:Option Addr} {n:Nat} (hT:TR (okW B (p :: L)) w t a n):TR (okW B L) w t a n:=hT.imp fun k hk _=>⟨hk.1,fun q hq=>hk.2 q (by simp [hq])⟩
theorem GM.fewer {B:Nat} {L:List (Nat × Tm)} {p:Nat × Tm} {w:World} (h:GM B (p :: L) w):GM B L w:=⟨h.1,fun q hq=>by
 obtain ⟨hz,a,n,c,hb,hT,hn⟩:=h.2 q (by simp [hq])
 exact ⟨hz,a,n,c,hb,hT.fewer,hn⟩⟩
theorem RB.stored {w0 w:World} (h:Below w0.heap.size w0 w) {b:Nat} (hb:w0.heap.size≤b) (x y z:Value):Below w0.heap.size w0 (((w.setCell ⟨b,0,none⟩ x).setCell ⟨b,1,none⟩ y).setCell ⟨b,2,none⟩ z):=((h.setCell (by simpa using hb) _).setCell (by simpa using hb) _).setCell (by simpa using hb) _
abbrev facts (B:Nat) (L:List (Nat × Tm)) (l:List Fa) (j:Nat):Value→World→Prop:=Fa.holds B L (l.getD j .any)
theorem region_tm {B:Nat} {L:List (Nat × Tm)} {M id:Nat} {b:Bool} {w:World} {Q:Exit→Act→World→Prop} {ops:Array Oper} {a0:Act} (l:List Fa) (hok:Rg.okB ops M a0.tmps.size=true) (ht:(if b then Rg.tailB ops M else decide (M≤ops.size))=true) (hG:GM B L w)
 (hs:Rg.Steps Tryd.prog a0 ops w RB (GM B L) (facts B L l) 0 (ops.toList.take M))
 (hend:∀ vs w',RB w w'→GM B L w'→(∀ j,j < M→facts B L l j (vs j) w')→wpList Tryd.prog ops Q (ops.toList.drop M) (Rg.putAll ops M vs a0) w'):(Code.region id ops b).wp Tryd.prog Q a0 w:=
 Rg.region_of RB (GM B L) (facts B L l) (by kernel_rfl) RB.refl RB.trans RB.drew (fun _ _ _ _ h hf=>Fa.stable _ _ _ _ _ _ h hf) hok ht (fun h=>GM.stable (RB.drew _) h) hG hs hend
set_option maxHeartbeats 1000000 in
theorem kdf_ends {B:Nat} {L:List (Nat × Tm)} {w:World} (hG:GM B L w) {k c:Tm} {vk vc:Value} (hk:(Fa.tm k).holds B L vk w) (hc:(Fa.tm c).holds B L vc w) (q:Int):Calls Tryd.prog 50 #[vk,.int .i64 q,vc] w fun e w'=>∃ v,e=.returned v∧Ends B L w (Tm.kdf k q c) v w':=by
 obtain ⟨zk,ak,nk,ck,rfl,Tk,lk⟩:=hk
 obtain ⟨zc,ac,nc,cc,rfl,Tc,lc⟩:=hc
 have G1:=hG.boxed zk Tk lk
 have C1:(Fa.tm c).holds B ((w.heap.size,k) :: L) (.agg #[.int .i64 c.op,.int .i64 c.num,.slice ac nc cc]) (w.alloc (.cells #[.int .i64 k.op,.int .i64 k.num,.slice ak nk ck] 28)):=Fa.boxed ⟨zc,ac,nc,cc,rfl,Tc,lc⟩ _
 have G2:GM B ((w.heap.size + 1,c) :: (w.heap.size,k) :: L) ((w.alloc (.cells #[.int .i64 k.op,.int .i64 k.num,.slice ak nk ck] 28)).alloc (.cells #[.int .i64 c.op,.int .i64 c.num,.slice ac nc cc] 28)):=by
  obtain ⟨z,a,n,cc',e,hT,hn⟩:=C1
  cases e
  have:=G1.boxed z hT hn
  simpa using this
 have N3:(((w.alloc (.cells #[.int .i64 k.op,.int .i64 k.num,.slice ak nk ck] 28)).alloc (.cells #[.int .i64 c.op,.int .i64 c.num,.slice ac nc cc] 28)).alloc (.cells #[.int .i64 0,.int .i64 0,.slice none 0 0] 28)).heap[w.heap.size + 1 + 1]?=some (.cells #[.int .i64 0,.int .i64 0,.slice none 0 0] 28 (0,0)):=alloc_new' _ _ _ (by simp)
 have HG0:=Lib.hid (G2.stable (pure_alloc _ (.cells #[.int .i64 0,.int .i64 0,.slice none 0 0] 28)))
 have HB0:Hid (Below w.heap.size w (((w.alloc (.cells #[.int .i64 k.op,.int .i64 k.num,.slice ak nk ck] 28)).alloc (.cells #[.int .i64 c.op,.int .i64 c.num,.slice ac nc cc] 28)).alloc (.cells #[.int .i64 0,.int .i64 0,.slice none 0 0] 28))):=((pure_alloc _ _).alloc (by simp) _).alloc (by simp;omega) _
 have HN0:=Lib.hid N3
 have HL:Hid (∀ p ∈ L,p.1 < w.heap.size):=hG.lt
 clear G1 C1 G2 N3 hG Tk Tc
 go_enter Tryd.func50,Tryd.ntmps50
 go_upto_region 1 with fail
 generalize (((w.alloc (.cells #[.int .i64 k.op,.int .i64 k.num,.slice ak nk ck] 28)).alloc (.cells #[.int .i64 c.op,.int .i64 c.num,.slice ac nc cc] 28)).alloc (.cells #[.int .i64 0,.int .i64 0,.slice none 0 0] 28))=w1 at *
 refine region_tm (M:=8) [.tm k,.eq (.int .i64 q),.tm (Tm.nm q),.tm c,.tl [Tm.nm q,c],.tm (Tm.tup [Tm.nm q,c]),.tl [k,Tm.tup [Tm.nm q,c]],.tm (Tm.mk 8 0 [k,Tm.tup [Tm.nm q,c]])] (by kernel_rfl) (by kernel_rfl) HG0.out ?_ ?_
 ·refine ⟨fun vs W hR hG hd=>?_,fun vs W hR hG hd=>?_,fun vs W hR hG hd=>?_,fun vs W hR hG hd=>?_,fun vs W hR hG hd=>?_,fun vs W hR hG hd=>?_,fun vs W hR hG hd=>?_,fun vs W hR hG hd=>?_,trivial⟩
  ·exact does_load hG (.tmp 3) w.heap.size k (by simp) rfl (by kernel_rfl)
  ·exact Rg.Does.move (.tmp 1) rfl ⟨RB.refl _,hG,show _=_ by kernel_rfl⟩
  ·have e1:vs 1=.int .i64 q:=hd 1 (by decide);exact does_call (vals:=#[vs 1]) 45 (.func 45) #[.tmp 8] _ rfl (by kernel_rfl) (by kernel_rfl) (cf 45 _ Tryd.func45 (by kernel_rfl) (by kernel_rfl) _) (by rw [e1];exact name_ends hG q)
  ·exact does_load hG (.tmp 5) (w.heap.size + 1) c (by simp) rfl (by kernel_rfl)
  ·exact does_row2 hG (.tmp 9) (.tmp 10) (Tm.nm q) c rfl (hd 2 (by decide)) (hd 3 (by decide))
  ·exact does_call (vals:=#[vs 4]) 48 (.func 48) #[.tmp 11] _ rfl (by kernel_rfl) (by kernel_rfl) (cf 48 _ Tryd.func48 (by kernel_rfl) (by kernel_rfl) _) (tuple_ends hG (by simp) (hd 4 (by decide)))
  ·exact does_row2 hG (.tmp 7) (.tmp 12) k (Tm.tup [Tm.nm q,c]) rfl (hd 0 (by decide)) (hd 5 (by decide))
  ·exact does_call (vals:=#[.int .i64 8,vs 6]) 47 (.func 47) #[.const (.int .i64 8),.tmp 13] _ rfl (by kernel_rfl) (by kernel_rfl) (cf 47 _ Tryd.func47 (by kernel_rfl) (by kernel_rfl) _) (node_ends hG 8 (by decide) (hd 6 (by decide)))
 ·intro vs W1 hR1 hG1 hf
  obtain ⟨z,a,n,c',ev,hT,hn⟩:=hf 7 (by decide)
  have HB1:=Lib.hid (HB0.out.trans (hR1.mono (HB0.out.size)))
  have N1:=Below.keep hR1 HN0.out (lt_of_block HN0.out)
  have HG1:=Lib.hid hG1
  have HT:=Lib.hid hT
  have HN1:=Lib.hid N1
  clear hf hR1 hG1 hT
  have r0:=cell_of_arr N1 0
  have r1:=cell_of_arr N1 1
  have r2:=cell_of_arr N1 2
  simp at r0 r1 r2
  have f0:=frozen_of_arr N1 0
  have f1:=frozen_of_arr N1 1
  have f2:=frozen_of_arr N1 2
  clear N1
  simp only [Rg.putAll,Rg.putFrom,List.take_succ_cons,List.take_zero,List.drop_succ_cons,List.drop_zero,Act.put,List.setIfInBounds_toArray,List.set_cons_zero,List.set_cons_succ,ev]
  clear ev
  obtain ⟨HS,HTT,HSS⟩:=GM.stored HG1.out HN1.out (by
   intro p hp e
   simp only [List.mem_cons] at hp
   rcases hp with rfl | rfl | hp
   ·simp at e <;> omega
   ·simp at e <;> omega
   ·have:=HL.out p hp;omega) z HT.out hn
  have HE:Hid (Ends B L w (Tm.kdf k q c) (.agg #[.int .i64 8,.int .i64 0,.slice a n c']) (((W1.setCell ⟨w.heap.size + 1 + 1,0,none⟩ (.int .i64 8)).setCell ⟨w.heap.size + 1 + 1,1,none⟩ (.int .i64 0)).setCell ⟨w.heap.size + 1 + 1,2,none⟩ (.slice a n c'))):=by
   refine ⟨RB.stored HB1.out (by omega) _ _ _,HS.fewer.fewer.fewer,z,a,n,c',rfl,HTT.fewer.fewer.fewer,hn⟩
  have p0:=cell_of_arr HSS 0
  have p1:=cell_of_arr HSS 1
  have p2:=cell_of_arr HSS 2
  simp [Tm.op,Tm.num] at p0 p1 p2
  simp only [Tm.op,Tm.num]
  clear HS HTT HSS
  go_wp2_with fail
  exact bodyPost_ret (v:=.agg #[.int .i64 8,.int .i64 0,.slice a n c']) (by simp [results,Tryd.results50,go_sem,p0,p1,p2]) rfl ⟨_,rfl,HE.out⟩
set_option maxHeartbeats 1000000 in
theorem share_ends {B:Nat} {L:List (Nat × Tm)} {w:World} (hG:GM B L w) (p q:Int):Calls Tryd.prog 46 #[.int .i64 p,.int .i64 q] w fun e w'=>∃ v,e=.returned v∧Ends B L w (Tm.share p q) v w':=by
 have HG0:=Lib.hid (hG.stable (pure_alloc _ (.cells #[.int .i64 0,.int .i64 0,.slice none 0 0] 28)))
 have HB0:Hid (Below w.heap.size w (w.alloc (.cells #[.int .i64 0,.int .i64 0,.slice none 0 0] 28))):=pure_alloc _ _
 have HN0:=Lib.hid (alloc_new w (.cells #[.int .i64 0,.int .i64 0,.slice none 0 0] 28))
 have HL:Hid (∀ p ∈ L,p.1 < w.heap.size):=hG.lt
 clear hG
 go_enter Tryd.func46,Tryd.ntmps46
 go_upto_region 1 with fail
 generalize (w.alloc (.cells #[.int .i64 0,.int .i64 0,.slice none 0 0] 28))=w1 at *
 refine region_tm (M:=6) [.eq (.int .i64 p),.tm (Tm.nm p),.eq (.int .i64 q),.tm (Tm.nm q),.tl [Tm.nm p,Tm.nm q],.tm (Tm.mk 7 0 [Tm.nm p,Tm.nm q])] (by kernel_rfl) (by kernel_rfl) HG0.out ?_ ?_
 ·refine ⟨fun vs W hR hG hd=>?_,fun vs W hR hG hd=>?_,fun vs W hR hG hd=>?_,fun vs W hR hG hd=>?_,fun vs W hR hG hd=>?_,fun vs W hR hG hd=>?_,trivial⟩
  ·exact Rg.Does.move (.tmp 0) rfl ⟨RB.refl _,hG,show _=_ by kernel_rfl⟩
  ·have e0:vs 0=.int .i64 p:=hd 0 (by decide);exact does_call (vals:=#[vs 0]) 45 (.func 45) #[.tmp 5] _ rfl (by kernel_rfl) (by kernel_rfl) (cf 45 _ Tryd.func45 (by kernel_rfl) (by kernel_rfl) _) (by rw [e0];exact name_ends hG p)
  ·exact Rg.Does.move (.tmp 1) rfl ⟨RB.refl _,hG,show _=_ by kernel_rfl⟩
  ·have e2:vs 2=.int .i64 q:=hd 2 (by decide);exact does_call (vals:=#[vs 2]) 45 (.func 45) #[.tmp 7] _ rfl (by kernel_rfl) (by kernel_rfl) (cf 45 _ Tryd.func45 (by kernel_rfl) (by kernel_rfl) _) (by rw [e2];exact name_ends hG q)
  ·exact does_row2 hG (.tmp 6) (.tmp 8) (Tm.nm p) (Tm.nm q) rfl (hd 1 (by decide)) (hd 3 (by decide))
  ·exact does_call (vals:=#[.int .i64 7,vs 4]) 47 (.func 47) #[.const (.int .i64 7),.tmp 9] _ rfl (by kernel_rfl) (by kernel_rfl) (cf 47 _ Tryd.func47 (by kernel_rfl) (by kernel_rfl) _) (node_ends hG 7 (by decide) (hd 4 (by decide)))
 ·intro vs W1 hR1 hG1 hf
  obtain ⟨z,a,n,c',ev,hT,hn⟩:=hf 5 (by decide)
  have HB1:=Lib.hid (HB0.out.trans (hR1.mono (HB0.out.size)))
  have N1:=Below.keep hR1 HN0.out (lt_of_block HN0.out)
  have HG1:=Lib.hid hG1
  have HT:=Lib.hid hT
  have HN1:=Lib.hid N1
  clear hf hR1 hG1 hT
  have r0:=cell_of_arr N1 0
  have r1:=cell_of_arr N1 1
  have r2:=cell_of_arr N1 2
  simp at r0 r1 r2
  have f0:=frozen_of_arr N1 0
  have f1:=frozen_of_arr N1 1
  have f2:=frozen_of_arr N1 2
  clear N1
  simp only [Rg.putAll,Rg.putFrom,List.take_succ_cons,List.take_zero,List.drop_succ_cons,List.drop_zero,Act.put,List.setIfInBounds_toArray,List.set_cons_zero,List.set_cons_succ,ev]
  clear ev
  obtain ⟨HS,HTT,HSS⟩:=GM.stored HG1.out HN1.out (by
   intro p hp e
   have:=HL.out p hp;omega) z HT.out hn
  have HE:Hid (Ends B L w (Tm.share p q) (.agg #[.int .i64 7,.int .i64 0,.slice a n c']) (((W1.setCell ⟨w.heap.size,0,none⟩ (.int .i64 7)).setCell ⟨w.heap.size,1,none⟩ (.int .i64 0)).setCell ⟨w.heap.size,2,none⟩ (.slice a n c'))):=by
   refine ⟨RB.stored HB1.out (by omega) _ _ _,HS.fewer,z,a,n,c',rfl,HTT.fewer,hn⟩
  have p0:=cell_of_arr HSS 0
  have p1:=cell_of_arr HSS 1
  have p2:=cell_of_arr HSS 2
  simp [Tm.op,Tm.num] at p0 p1 p2
  simp only [Tm.op,Tm.num]
  clear HS HTT HSS
  go_wp2_with fail
  exact bodyPost_ret (v:=.agg #[.int .i64 7,.int .i64 0,.slice a n c']) (by simp [results,Tryd.results46,go_sem,p0,p1,p2]) rfl ⟨_,rfl,HE.out⟩
end Go.Proofs.YtkgbjoepjcenlaaDoor
