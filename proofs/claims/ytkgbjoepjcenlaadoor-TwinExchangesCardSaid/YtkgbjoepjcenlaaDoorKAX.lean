/- Joined texts. -/
import Derived.Test.YtkgbjoepjcenlaaDoorKAW
set_option linter.unusedVariables false
set_option linter.unusedSimpArgs false
namespace Go.Proofs.YtkgbjoepjcenlaaDoor
namespace Am
structure AS where
 fr:List (Nat × SV)
 hp:List (Nat × Row)
 nx:Nat
 fz:List Nat
 N:Nat
def look:List (Nat × SV)→Nat→SV
 | [],_=>.any
 | (k,v) :: r,n=>if k=n then v else look r n
def lookR:List (Nat × Row)→Nat→Option Row
 | [],_=>none
 | (k,v) :: r,n=>if k=n then some v else lookR r n
def putR:List (Nat × Row)→Nat→Row→List (Nat × Row)
 | [],s,r=>[(s,r)]
 | (k,v) :: l,s,r=>if k=s then (k,r) :: l else (k,v) :: putR l s r
def ev (fr:List (Nat × SV)):Operand→SV
 | .tmp t=>look fr t
 | .const v=>.v v
 | .global g=>.v (.pointer (some ⟨g,0,none⟩))
 | .func f=>.v (.func (.func f) #[] #[])
def putF (fr:List (Nat × SV)) (r:SV):Option Tmp→List (Nat × SV)
 | some d=>(d,r) :: fr
 | none=>fr
def putW (hp:List (Nat × Row)):Option (Nat × Row)→List (Nat × Row)
 | some (s,r)=>putR hp s r
 | none=>hp
def nxW (nx:Nat):Option (Nat × Row)→Nat
 | some _=>nx + 1
 | none=>nx
theorem lookR_putR:∀ (l:List (Nat × Row)) (s t:Nat) (r:Row),lookR (putR l s r) t=if s=t then some r else lookR l t
 | [],s,t,r=>rfl
 | (k,v) :: l,s,t,r=>by
   unfold putR
   by_cases h:k=s
   ·subst h
    simp only [if_true,lookR]
    split <;> rfl
   ·simp only [h,if_false,lookR,lookR_putR l s t r]
    by_cases h1:k=t
    ·subst h1;simp [Ne.symm h]
    ·simp [h1]
structure En where
 w0:World
 g0:Cx
 lent:List Nat
structure Ev where
 E:World→Prop
 D:Nat→Prop
 st:∀ w w',w.heap.size≤w'.heap.size→E w→(∀ b,D b→w'.heap[b]?=w.heap[b]?)→E w'
 lt:∀ w b,E w→D b→b < w.heap.size
structure Inv (X:Ev) (e:En) (g:Cx) (w:World) (H:Nat→Option Row) (V:Nat→Prop) (fz:List Nat):Prop where
 le:e.g0.le g
 row:∀ s r,H s=some r→rowIn g w r
 apart:∀ s t r q,H s=some r→H t=some q→s≠t→g.ka r.ver≠0→g.ka q.ver≠0→g.mu r.ver≠g.mu q.ver
 free:∀ s r,H s=some r→fz.contains s=false→g.ka r.ver≠0→¬ g.Z (g.mu r.ver)
 mine:∀ s r,H s=some r→g.ka r.ver≠0→e.w0.heap.size≤g.mu r.ver∨(1000≤s∧∃ u ∈ e.lent,g.mu r.ver=e.g0.mu u∧e.g0.ka u≠0)
 ver:∀ u,g.A u→V u
 blk:∀ u,g.A u→g.ka u≠0→g.mu u < w.heap.size
 zlt:∀ b,g.Z b→b < w.heap.size
 znew:∀ b,g.Z b→e.g0.Z b∨e.w0.heap.size≤b
 keep:∀ b,b < e.w0.heap.size→(∀ u ∈ e.lent,e.g0.ka u≠0→b≠e.g0.mu u)→w.heap[b]?=e.w0.heap[b]?
 size:e.w0.heap.size≤w.heap.size
 io:w.os=e.w0.os∧w.tape=e.w0.tape∧w.output=e.w0.output
 env:X.E w
 nd:(∀ b,X.D b→b < e.w0.heap.size)∧∀ u ∈ e.lent,e.g0.ka u≠0→¬ X.D (e.g0.mu u)
section
variable {P:Program} {X:Ev} {e:En} {g:Cx} {w:World} {ρ:Operand→Value} {o:Oper} {H:Nat→Option Row} {nx:Nat} {fz:List Nat} {V:Nat→Prop}
def putH (H:Nat→Option Row):Option (Nat × Row)→Nat→Option Row
 | some (s,r),t=>if s=t then some r else H t
 | none,t=>H t
theorem lookR_putW (hp:List (Nat × Row)) (x:Option (Nat × Row)):lookR (putW hp x)=putH (lookR hp) x:=by
 funext t
 cases x with
 | none=>rfl
 | some x=>exact lookR_putR ..
theorem Inv.rows (h:Inv X e g w H V fz) {H':Nat→Option Row} {fz':List Nat} (R:Rs) (hH:∀ u,(u ∈ R.rd∨∃ r',R.wr=some (u,r'))→H' u=H u) (hz:∀ u r',R.wr=some (u,r')→fz'.contains u=false→fz.contains u=false):Rows g w H' fz' R:=
 fun u r hu ht=>⟨h.row u r ((hH u ht) ▸ hu),fun ⟨r',hw⟩ hc=>h.free u r ((hH u ht) ▸ hu) (hz u r' hw hc)⟩
theorem Inv.step (h:Inv X e g w H V fz) {R:Rs} {H':Nat→Option Row} {fz':List Nat} {V':Nat→Prop} (hf:Eff P o ρ g w H' nx fz' R) (hH:∀ u r',R.wr=some (u,r')→H' u=H u) (hz:∀ u r',R.wr=some (u,r')→fz'.contains u=false→fz.contains u=false) (hV:∀ u,V u→V' u) (hVn:R.wr≠none→V' nx):
 ∃ (v:Value) (w':World) (g':Cx),((execOp ρ o).run P w=.ok (.value v) w'∨((execOp ρ o).run P w=.ok .skip w'∧v=undef))∧holds g' w' R.r v∧Inv X e g' w' (putH H R.wr) V' fz∧g.le g'∧(∀ b,g.Z b→w'.heap[b]?=w.heap[b]?):=by
 obtain ⟨v,w',g',h1,h2,hc,hn,h3⟩:=hf
 have hZ:∀ b,g.Z b→w'.heap[b]?=w.heap[b]?:=fun b hb=>hc.blk b (h.zlt b hb) fun ⟨s,r',r,e0,hs',hk,hz',eb⟩=>h.free s r ((hH s r' e0) ▸ hs') (hz s r' e0 hz') hk (eb ▸ hb)
 refine ⟨v,w',g',h1,h2,?_,hc.le,hZ⟩
 cases hw:R.wr with
 | none=>
   obtain ⟨rfl,rfl⟩:=hn hw
   exact { h with ver:=fun u hu=>hV u (h.ver u hu) }
 | some sr=>
   obtain ⟨s,r'⟩:=sr
   obtain ⟨k1,k2⟩:=h3 s r' hw
   have hcell:∀ t q,t≠s→H t=some q→g.ka q.ver≠0→w'.heap[g.mu q.ver]?=w.heap[g.mu q.ver]?:=fun t q hts ht hk=>by
    refine hc.blk _ (h.blk _ (h.row t q ht).1 hk) ?_
    rintro ⟨s',r1,r2,e1,e2,e3,e4,e5⟩
    rw [hw] at e1
    cases e1
    exact h.apart t s q r2 ht ((hH s r' hw) ▸ e2) hts hk e3 e5
   have hg:∀ t q,H t=some q→g'.mu q.ver=g.mu q.ver∧g'.ka q.ver=g.ka q.ver:=fun t q ht=>(hc.le.a _ (h.row t q ht).1).2
   have k2:g'.ka r'.ver≠0→w.heap.size≤g'.mu r'.ver∨∃ r,H s=some r∧g.ka r.ver≠0∧g'.mu r'.ver=g.mu r.ver:=fun hk=>(k2 hk).imp id fun ⟨r,h1,h2⟩=>⟨r,(hH s r' hw) ▸ h1,h2⟩
   have hput:∀ t q,putH H (some (s,r')) t=some q→(t=s∧q=r')∨(t≠s∧H t=some q):=fun t q e=>by
    unfold putH at e
    by_cases hst:s=t
    ·simp only [hst,if_true,Option.some.injEq] at e
     exact .inl ⟨hst.symm,e.symm⟩
    ·simp only [hst,if_false] at e
     exact .inr ⟨Ne.symm hst,e⟩
   have hsep:∀ t q,t≠s→H t=some q→g'.ka r'.ver≠0→g'.ka q.ver≠0→g'.mu r'.ver≠g'.mu q.ver:=fun t q hts ht ha hb=>by
    rw [(hg t q ht).2] at hb
    rw [(hg t q ht).1]
    rcases k2 ha with hge | ⟨r,hr,hrk,hre⟩
    ·have:=h.blk _ (h.row t q ht).1 hb;omega
    ·rw [hre];exact h.apart s t r q hr ht (Ne.symm hts) hrk hb
   refine ⟨h.le.trans hc.le,fun t q hq=>?_,fun t u q p hq hp htu ha hb=>?_,fun t q hq hzt hk=>?_,fun t q hq hk=>?_,fun u hu=>?_,fun u hu hk=>?_,fun b hb=>?_,fun b hb=>?_,fun b hb hl=>?_,Nat.le_trans h.size hc.size,⟨hc.io.1.trans h.io.1,hc.io.2.1.trans h.io.2.1,hc.io.2.2.trans h.io.2.2⟩,X.st w w' hc.size h.env fun b hb=>hc.blk b (X.lt w b h.env hb) ?_,h.nd⟩
   ·rcases hput t q hq with ⟨_,rfl⟩ | ⟨hts,ht⟩
    ·exact k1
    ·exact (h.row t q ht).mono hc.le hZ fun hk=>hcell t q hts ht hk
   ·rcases hput t q hq with ⟨rfl,rfl⟩ | ⟨hts,ht⟩ <;> rcases hput u p hp with ⟨rfl,rfl⟩ | ⟨hus,hU⟩
    ·exact absurd rfl htu
    ·exact hsep u p hus hU ha hb
    ·exact (hsep t q hts ht hb ha).symm
    ·rw [(hg t q ht).2] at ha
     rw [(hg u p hU).2] at hb
     rw [(hg t q ht).1,(hg u p hU).1]
     exact h.apart t u q p ht hU htu ha hb
   ·rw [hc.z]
    rcases hput t q hq with ⟨rfl,rfl⟩ | ⟨hts,ht⟩
    ·rcases k2 hk with hge | ⟨r,hr,hrk,hre⟩
     ·intro hb;have:=h.zlt _ hb;omega
     ·rw [hre];exact h.free t r hr hzt hrk
    ·rw [(hg t q ht).2] at hk
     rw [(hg t q ht).1]
     exact h.free t q ht hzt hk
   ·rcases hput t q hq with ⟨rfl,rfl⟩ | ⟨hts,ht⟩
    ·rcases k2 hk with hge | ⟨r,hr,hrk,hre⟩
     ·exact .inl (Nat.le_trans h.size hge)
     ·rw [hre];exact h.mine t r hr hrk
    ·rw [(hg t q ht).2] at hk
     rw [(hg t q ht).1]
     exact h.mine t q ht hk
   ·rcases hc.ver u hu with hu | ⟨hu,_⟩
    ·exact hV u (h.ver u hu)
    ·subst hu;exact hVn (by rw [hw];simp)
   ·rcases hc.ver u hu with hu | ⟨hu,hlt⟩
    ·have e2:=(hc.le.a u hu).2
     rw [e2.2] at hk
     rw [e2.1]
     exact Nat.lt_of_lt_of_le (h.blk u hu hk) hc.size
    ·exact hlt hk
   ·rw [hc.z] at hb
    exact Nat.lt_of_lt_of_le (h.zlt b hb) hc.size
   ·rw [hc.z] at hb
    exact h.znew b hb
   ·refine (hc.blk b (Nat.lt_of_lt_of_le hb h.size) ?_).trans (h.keep b hb hl)
    rintro ⟨s',r1,r2,e1,e2,e3,e4,e5⟩
    rcases h.mine s' r2 ((hH s' r1 e1) ▸ e2) e3 with hge | ⟨_,u,hu,eu,hk⟩
    ·omega
    ·exact hl u hu hk (e5.trans eu)
   ·rintro ⟨s',r1,r2,e1,e2,e3,e4,e5⟩
    rcases h.mine s' r2 ((hH s' r1 e1) ▸ e2) e3 with hge | ⟨_,u,hu,eu,hk⟩
    ·have:=h.nd.1 b hb;omega
    ·exact h.nd.2 u hu hk ((e5.trans eu) ▸ hb)
def Rel (X:Ev) (e:En) (σ:AS) (a:Act) (w:World):Prop:=
 a.defers=[]∧a.tmps.size=σ.N∧∃ g,(∀ d,holds g w (look σ.fr d) (a.tmps.getD d undef))∧Inv X e g w (lookR σ.hp) (· < σ.nx) σ.fz
theorem Rel.ev {σ:AS} {a:Act} (h:∀ d,holds g w (look σ.fr d) (a.tmps.getD d undef)) (x:Operand):holds g w (ev σ.fr x) (a.eval x):=by
 cases x with
 | tmp t=>exact h t
 | const v=>rfl
 | global i=>rfl
 | func f=>rfl
def dOk (N:Nat):Option Tmp→Prop
 | some d=>d < N
 | none=>True
theorem put_rel {σ:AS} {a:Act} {dst:Option Tmp} {v:Value} {r:SV} (h:∀ d,holds g w (look σ.fr d) (a.tmps.getD d undef)) (hs:a.tmps.size=σ.N) (hd:dOk σ.N dst) (hv:holds g w r v):(a.put dst v).defers=a.defers∧(a.put dst v).tmps.size=σ.N∧∀ d,holds g w (look (putF σ.fr r dst) d) ((a.put dst v).tmps.getD d undef):=by
 cases dst with
 | none=>exact ⟨rfl,hs,h⟩
 | some k=>
   have hd:k < σ.N:=hd
   refine ⟨rfl,by simpa [Act.put] using hs,fun d=>?_⟩
   simp only [putF,look,Act.put]
   by_cases hk:k=d
   ·subst hk
    simp [hs,hd]
    exact hv
   ·simp only [hk,if_false]
    have:=h d
    rw [Array.getD_eq_getD_getElem?] at this ⊢
    rwa [Array.getElem?_setIfInBounds_ne hk]
end
end Am
end Go.Proofs.YtkgbjoepjcenlaaDoor
namespace Go.Proofs.YtkgbjoepjcenlaaDoor
namespace Am
def cv (H:Nat→Option Row):Nat→SV→SV
 | 0,_=>.any
 | n + 1,.own s v m k=>match H s with
   | some r=>if r.ver=v∧r.k=k∧m * k≤r.cs.length then .sl m k ((r.cs.take (m * k)).map (cv H n)) else .any
   | none=>.any
 | n + 1,.ptr s v o=>match H s with
   | some r=>if r.ver=v∧o < r.cs.length then .rp ((r.cs.drop o).map (cv H n)) else .any
   | none=>.any
 | n + 1,.agg cs=>.agg (cs.map (cv H n))
 | n + 1,.tup cs=>.tup (cs.map (cv H n))
 | _ + 1,.v x=>.v x
 | _ + 1,.sl n k cs=>.sl n k cs
 | _ + 1,.rp cs=>.rp cs
 | _ + 1,.s q=>.s q
 | _ + 1,.any=>.any
section
variable {P:Program} {X:Ev} {e:En} {g:Cx} {w:World} {ρ:Operand→Value} {o:Oper} {H:Nat→Option Row} {V:Nat→Prop} {fz:List Nat}
theorem agL.map {f:SV→SV} {g':Cx} (h:∀ s v,holds g w s v→holds g' w (f s) v):∀ {cs:List SV} {vs:List Value},agL g w cs vs→agL g' w (cs.map f) vs
 | [],[],_=>trivial
 | _ :: _,_ :: _,k=>⟨h _ _ k.1,agL.map h k.2⟩
theorem cv_holds {g':Cx} (hz:∀ b,g.Z b→g'.Z b) (hr:∀ s r,H s=some r→rowIn g w r∧(g.ka r.ver≠0→g'.Z (g.mu r.ver))):∀ n s v,holds g w s v→holds g'.pure w (cv H n s) v
 | 0,_,_,_=>trivial
 | n + 1,.own s ver m k,v,h=>by
   have ih:=cv_holds hz hr n
   unfold cv
   cases hH:H s with
   | none=>trivial
   | some r=>
     simp only
     split
     ·rename_i hc
      obtain ⟨hv,hk,hl⟩:=hc
      subst hv hk
      obtain ⟨ha,hm,e⟩:=h
      obtain ⟨hrow,hZ⟩:=hr s r hH
      have hlen:((r.cs.take (m * r.k)).map (cv H n)).length=m * r.k:=by rw [List.length_map,List.length_take];omega
      by_cases hka:g.ka r.ver=0
      ·obtain rfl:m=0:=by omega
       have e2:((r.cs.take (0 * r.k)).map (cv H n))=[]:=by simp
       rcases e with e | e
       ·exact ⟨_,_,e,by omega,hlen,.inl (by rw [e2];rfl)⟩
       ·exact ⟨_,_,e.2,by omega,hlen,.inl (by rw [e2];rfl)⟩
      ·have e:=e.resolve_right fun h=>hka h.1
       rcases hrow.2 with h0 | ⟨arr,h1,h2,h3,h4⟩
       ·exact absurd h0.1 hka
       ·have h5:agL g'.pure w ((r.cs.take (m * r.k)).map (cv H n)) ((arr.toList.take r.cs.length).take (m * r.k)):=(h4.take _).map ih
        refine ⟨_,_,e,⟨hm.1,Nat.zero_le _⟩,hlen,.inr ⟨_,0,rfl,hZ hka,atL.of h5 fun i x hx=>?_⟩⟩
        have hi:=(List.getElem?_eq_some_iff.1 hx).1
        rw [List.length_take,List.length_take] at hi
        rw [List.getElem?_take_of_lt (by omega),List.getElem?_take_of_lt (by omega)] at hx
        simpa [World.cell?,h1] using hx
     ·trivial
 | n + 1,.ptr s ver off,v,h=>by
   have ih:=cv_holds hz hr n
   unfold cv
   cases hH:H s with
   | none=>trivial
   | some r=>
     simp only
     split
     ·rename_i hc
      obtain ⟨hv,hl⟩:=hc
      subst hv
      obtain ⟨ha,e⟩:=h
      obtain ⟨hrow,hZ⟩:=hr s r hH
      obtain ⟨hka,arr,h1,h2,h3,h4⟩:=hrow.arr (by omega)
      have h5:agL g'.pure w ((r.cs.drop off).map (cv H n)) ((arr.toList.take r.cs.length).drop off):=(h4.drop _).map ih
      refine ⟨_,off,e,hZ hka,atL.of h5 fun i x hx=>?_⟩
      have hi:=(List.getElem?_eq_some_iff.1 hx).1
      rw [List.length_drop,List.length_take] at hi
      rw [List.getElem?_drop,List.getElem?_take_of_lt (by omega)] at hx
      simpa [World.cell?,h1] using hx
     ·trivial
 | n + 1,.agg cs,v,h=>by
   obtain ⟨vs,e,h⟩:=h
   exact ⟨vs,e,h.map (cv_holds hz hr n)⟩
 | n + 1,.tup cs,v,h=>by
   obtain ⟨vs,e,h⟩:=h
   exact ⟨vs,e,h.map (cv_holds hz hr n)⟩
 | _ + 1,.v x,v,h=>h
 | _ + 1,.sl n k cs,v,h=>by
   obtain ⟨a,c,e,hn,hl,h⟩:=h
   exact ⟨a,c,e,hn,hl,h.imp id fun ⟨b,o,e,hzb,h⟩=>⟨b,o,e,hz b hzb,atL.mono (g:=g.pure) (g':=g'.pure.pure) ⟨hz,fun _ h=>h.elim⟩ (fun _ _=>rfl) _ _ _ hzb h⟩⟩
 | _ + 1,.rp cs,v,h=>by
   obtain ⟨b,o,e,hzb,h⟩:=h
   exact ⟨b,o,e,hz b hzb,atL.mono (g:=g.pure) (g':=g'.pure.pure) ⟨hz,fun _ h=>h.elim⟩ (fun _ _=>rfl) _ _ _ hzb h⟩
 | _ + 1,.s q,v,h=>by
   obtain ⟨a,n,c,e,h⟩:=h
   exact ⟨a,n,c,e,q.mono hz (fun _ _=>rfl) h⟩
 | _ + 1,.any,v,h=>trivial
def ren1 (d u:Nat):SV→SV
 | .own s v n k=>if s=2000 then .own d u n k else .own s v n k
 | .ptr s v o=>if s=2000 then .ptr d u o else .ptr s v o
 | x=>x
def ren (d u:Nat):SV→SV
 | .tup cs=>.tup (cs.map (ren1 d u))
 | x=>ren1 d u x
def rnR (nx:Nat):List Nat→List Row→List Row
 | [],q :: _=>[⟨nx,q.T,q.k,q.cs⟩]
 | _ :: L,r :: rs=>r :: rnR nx L rs
 | _,[]=>[]
def CV (P:Program) (f:FuncId) (vals:Array Value) (w:World) (Q:Ending→World→Prop):Prop:=((callFunc f vals).run P w=.ok (.enter f vals) w∧Calls P f vals w Q)∨∃ v w',(callFunc f vals).run P w=.ok (.value v) w'∧Q (.returned v) w'
theorem CV.mono {f:FuncId} {vals:Array Value} {Q Q':Ending→World→Prop} (h:CV P f vals w Q) (k:∀ en w',Q en w'→Q' en w'):CV P f vals w Q':=
 h.imp (fun h=>⟨h.1,h.2.mono k⟩) fun ⟨v,w',h1,h2⟩=>⟨v,w',h1,k _ _ h2⟩
structure AC (P:Program) (X:Ev) (f:FuncId) (args:List SV) (rows:List Row) (C:SV→List Row→Prop):Prop where
 out:∀ (g:Cx) (w:World) (vals:List Value) (nx:Nat),X.E w→(∀ b,g.Z b→b < w.heap.size)→(∀ u,g.A u→u < nx)→(∀ u,g.A u→g.ka u≠0→g.mu u < w.heap.size)→agL g w args vals→
  (∀ r ∈ rows,rowIn g w r∧(g.ka r.ver≠0→¬ g.Z (g.mu r.ver)∧¬ X.D (g.mu r.ver)))→(∀ (i j:Nat) (r q:Row),rows[i]?=some r→rows[j]?=some q→i≠j→g.ka r.ver≠0→g.ka q.ver≠0→g.mu r.ver≠g.mu q.ver)→
  CV P f vals.toArray w fun en w'=>∃ (v:Value) (r:SV) (rows':List Row) (g':Cx),en=.returned v∧C r rows'∧holds g' w' (ren 0 nx r) v∧g.le g'∧(∀ b,g'.Z b→g.Z b∨(w.heap.size≤b∧b < w'.heap.size))∧
   (rows'.length=rows.length∨rows'.length=rows.length + 1)∧(∀ (i:Nat) (r q:Row),rows[i]?=some r→rows'[i]?=some q→q.ver=r.ver)∧(∀ q ∈ rnR nx (rows.map (·.ver)) rows',rowIn g' w' q)∧(∀ u,g'.A u→g.A u∨(rows'.length=rows.length + 1∧u=nx∧(g'.ka nx≠0→w.heap.size≤g'.mu nx∧g'.mu nx < w'.heap.size∧¬ g'.Z (g'.mu nx))))∧w.heap.size≤w'.heap.size∧(∀ b,b < w.heap.size→(∀ r ∈ rows,g.ka r.ver≠0→b≠g.mu r.ver)→w'.heap[b]?=w.heap[b]?)∧(w'.os=w.os∧w'.tape=w.tape∧w'.output=w.output)∧X.E w'
theorem AC.mono {f:FuncId} {args:List SV} {rows:List Row} {C C':SV→List Row→Prop} (h:AC P X f args rows C) (hc:∀ r rows',C r rows'→C' r rows'):AC P X f args rows C':=
 ⟨fun g w vals nx a b c d e i j=>(h.out g w vals nx a b c d e i j).mono fun _ _ ⟨v,r,rows',g',h1,h2,h3⟩=>⟨v,r,rows',g',h1,hc _ _ h2,h3⟩⟩
theorem AC.weak {f:FuncId} {args:List SV} {rows:List Row} {C C':SV→List Row→Prop} (h:AC P X f args rows C) (hc:∀ r rows',C r rows'→∃ r',C' r' rows'∧∀ g w v nx,holds g w (ren 0 nx r) v→holds g w (ren 0 nx r') v):AC P X f args rows C':=
 ⟨fun g w vals nx a b c d e i j=>(h.out g w vals nx a b c d e i j).mono fun _ _ ⟨v,r,rows',g',h1,h2,h3,h4⟩=>have ⟨r',h5,h6⟩:=hc _ _ h2;⟨v,r',rows',g',h1,h5,h6 _ _ _ _ h3,h4⟩⟩
def putRs (hp:List (Nat × Row)):List Nat→List Row→List (Nat × Row)
 | s :: L,r :: rs=>putRs (putR hp s r) L rs
 | _,_=>hp
theorem lookR_putRs:∀ (L:List Nat) (rs:List Row) (hp:List (Nat × Row)) (t:Nat) (q:Row),lookR (putRs hp L rs) t=some q→(∃ i:Nat,L[i]?=some t∧rs[i]?=some q)∨((t ∉ L∨rs.length < L.length)∧lookR hp t=some q)
 | [],rs,hp,t,q,h=>.inr ⟨.inl (by simp),h⟩
 | s :: L,[],hp,t,q,h=>.inr ⟨.inr (by simp),h⟩
 | s :: L,r :: rs,hp,t,q,h=>by
   rcases lookR_putRs L rs (putR hp s r) t q h with ⟨i,h1,h2⟩ | ⟨h1,h2⟩
   ·exact .inl ⟨i + 1,by simpa using h1,by simpa using h2⟩
   ·rw [lookR_putR] at h2
    by_cases hst:s=t
    ·simp only [hst,if_true,Option.some.injEq] at h2
     exact .inl ⟨0,by simp [hst],by simp [h2]⟩
    ·simp only [hst,if_false] at h2
     refine .inr ⟨h1.imp (fun h1=>?_) (fun h1=>by simpa using h1),h2⟩
     simp only [List.mem_cons,not_or]
     exact ⟨Ne.symm hst,h1⟩
def frzH (hp:List (Nat × Row)) (fs:List Nat) (s:Nat):Option Row:=if fs.contains s=true∧s < 1000 then lookR hp s else none
def lnR (Hf:Nat→Option Row):Option Row→Row
 | some r=>⟨r.ver,r.T,r.k,r.cs.map (cv Hf 6)⟩
 | none=>⟨0,0,0,[]⟩
def lnt (hp:List (Nat × Row)) (fs L:List Nat):List Row:=L.map fun s=>lnR (frzH hp fs) (lookR hp s)
def arg (hp:List (Nat × Row)) (fs L:List Nat):SV→SV
 | .ptr s v o=>if L.contains s=true then .ptr s v o else cv (frzH hp fs) 6 (.ptr s v o)
 | x=>cv (frzH hp fs) 6 x
def lntOk (hp:List (Nat × Row)) (fz fs:List Nat):List Nat→Prop
 | []=>True
 | s :: L=>(lookR hp s).isSome=true∧fz.contains s=false∧fs.contains s=false∧L.contains s=false∧lntOk hp fz fs L
theorem lntOk.get {hp:List (Nat × Row)} {fs:List Nat}:∀ {L:List Nat},lntOk hp fz fs L→∀ (i s:Nat),L[i]?=some s→(∃ r,lookR hp s=some r)∧fz.contains s=false∧fs.contains s=false
 | _ :: _,h,0,s,e=>by simp at e;subst e;exact ⟨Option.isSome_iff_exists.1 h.1,h.2.1,h.2.2.1⟩
 | _ :: _,h,i + 1,s,e=>lntOk.get h.2.2.2.2 i s (by simpa using e)
 | [],_,i,s,e=>by simp at e
theorem lntOk.inj {hp:List (Nat × Row)} {fs:List Nat}:∀ {L:List Nat},lntOk hp fz fs L→∀ (i j s:Nat),L[i]?=some s→L[j]?=some s→i=j
 | x :: L,h,0,0,s,_,_=>rfl
 | x :: L,h,i + 1,j + 1,s,e,k=>by rw [lntOk.inj h.2.2.2.2 i j s (by simpa using e) (by simpa using k)]
 | x :: L,h,0,j + 1,s,e,k=>by
   simp at e k;subst e
   have:=List.mem_of_getElem? k
   have h:=h.2.2.2.1
   simp at h
   exact absurd this h
 | x :: L,h,i + 1,0,s,e,k=>by
   simp at e k;subst k
   have:=List.mem_of_getElem? e
   have h:=h.2.2.2.1
   simp at h
   exact absurd this h
 | [],_,i,_,s,e,_=>by simp at e
def Zf (g:Cx) (hp:List (Nat × Row)) (fs:List Nat) (b:Nat):Prop:=g.Z b∨∃ s r,frzH hp fs s=some r∧g.ka r.ver≠0∧b=g.mu r.ver
theorem frzH_some {hp:List (Nat × Row)} {fs:List Nat} {s:Nat} {r:Row} (h:frzH hp fs s=some r):fs.contains s=true∧s < 1000∧lookR hp s=some r:=by
 unfold frzH at h
 split at h
 ·rename_i hc;exact ⟨hc.1,hc.2,h⟩
 ·cases h
theorem Inv.frz {hp:List (Nat × Row)} (h:Inv X e g w H V fz) (fs:List Nat) (hfs:∀ s,fs.contains s=true→lookR hp s=H s) (s:Nat) (r:Row) (hs:frzH hp fs s=some r):rowIn g w r∧(g.ka r.ver≠0→(⟨Zf g hp fs,g.A,g.mu,g.ka⟩:Cx).Z (g.mu r.ver)):=
 ⟨h.row s r ((hfs s (frzH_some hs).1) ▸ (frzH_some hs).2.2),fun hk=>.inr ⟨s,r,hs,hk,rfl⟩⟩
theorem arg_holds {hp:List (Nat × Row)} (h:Inv X e g w H V fz) (fs:List Nat) (hfs:∀ s,fs.contains s=true→lookR hp s=H s) (L:List Nat) (s:SV) (v:Value) (hv:holds g w s v):holds ⟨Zf g hp fs,g.A,g.mu,g.ka⟩ w (arg hp fs L s) v:=by
 have key:=(cv_holds (g':=⟨Zf g hp fs,g.A,g.mu,g.ka⟩) (fun b hb=>.inl hb) (h.frz fs hfs) 6 s v hv).up
 cases s with
 | ptr s ver off=>
   show holds _ w (if L.contains s=true then .ptr s ver off else cv (frzH hp fs) 6 (.ptr s ver off)) v
   by_cases hc:L.contains s=true
   ·rw [if_pos hc];exact hv
   ·rw [if_neg hc];exact key
 | _=>exact key
def wl (d:Nat):List Nat→List Row→List Nat
 | [],_ :: _=>[d]
 | s :: L,_ :: rs=>s :: wl d L rs
 | L,[]=>L
theorem holds_ren {d d' u:Nat}:∀ (s:SV) (v:Value),holds g w (ren d u s) v→holds g w (ren d' u s) v:=by
 have key:∀ (s:SV) (v:Value),holds g w (ren1 d u s) v→holds g w (ren1 d' u s) v:=fun s v h=>by
  cases s with
  | own t ver n k=>
    simp only [ren1] at h ⊢
    split at h <;> rename_i hc <;> simp only [hc,if_true,if_false] <;> exact h
  | ptr t ver o=>
    simp only [ren1] at h ⊢
    split at h <;> rename_i hc <;> simp only [hc,if_true,if_false] <;> exact h
  | _=>exact h
 have keys:∀ (cs:List SV) (vs:List Value),agL g w (cs.map (ren1 d u)) vs→agL g w (cs.map (ren1 d' u)) vs:=by
  intro cs
  induction cs with
  | nil=>intro vs h;exact h
  | cons c cs ih=>
    intro vs h
    cases vs with
    | nil=>exact h
    | cons v vs=>exact ⟨key c v h.1,ih vs h.2⟩
 intro s v h
 cases s with
 | tup cs=>obtain ⟨vs,e,h⟩:=h;exact ⟨vs,e,keys cs vs h⟩
 | own t ver n k=>exact key (.own t ver n k) v h
 | ptr t ver o=>exact key (.ptr t ver o) v h
 | _=>exact h
def fl0:SV→Bool
 | .v _ | .own .. | .ptr .. | .any | .sl _ _ []=>true
 | _=>false
def fl1:SV→Bool
 | .agg cs=>cs.all fl0
 | x=>fl0 x
def fl:SV→Bool
 | .tup cs=>cs.all fl1
 | x=>fl1 x
theorem fl0_holds {s:SV} {v:Value} (hs:fl0 s=true) (h:holds g w s v) (Z:Nat→Prop):holds ⟨Z,g.A,g.mu,g.ka⟩ w s v:=by
 unfold fl0 at hs
 split at hs
 ·exact h
 ·exact h
 ·exact h
 ·trivial
 ·obtain ⟨a,c,e,hn,hl,_⟩:=h
  exact ⟨a,c,e,hn,hl,.inl rfl⟩
 ·cases hs
theorem fl0s_holds (Z:Nat→Prop):∀ {cs:List SV} {vs:List Value},cs.all fl0=true→agL g w cs vs→agL ⟨Z,g.A,g.mu,g.ka⟩ w cs vs
 | [],[],_,_=>trivial
 | c :: cs,v :: vs,hf,h=>by
   simp only [List.all_cons,Bool.and_eq_true] at hf
   exact ⟨fl0_holds hf.1 h.1 Z,fl0s_holds Z hf.2 h.2⟩
theorem fl1_holds {s:SV} {v:Value} (hs:fl1 s=true) (h:holds g w s v) (Z:Nat→Prop):holds ⟨Z,g.A,g.mu,g.ka⟩ w s v:=by
 cases s with
 | agg cs=>obtain ⟨vs,e,h⟩:=h;exact ⟨vs,e,fl0s_holds Z hs h⟩
 | _=>refine fl0_holds ?_ h Z;exact hs
theorem fl1s_holds (Z:Nat→Prop):∀ {cs:List SV} {vs:List Value},cs.all fl1=true→agL g w cs vs→agL ⟨Z,g.A,g.mu,g.ka⟩ w cs vs
 | [],[],_,_=>trivial
 | c :: cs,v :: vs,hf,h=>by
   simp only [List.all_cons,Bool.and_eq_true] at hf
   exact ⟨fl1_holds hf.1 h.1 Z,fl1s_holds Z hf.2 h.2⟩
theorem fl_holds {s:SV} {v:Value} (hs:fl s=true) (h:holds g w s v) (Z:Nat→Prop):holds ⟨Z,g.A,g.mu,g.ka⟩ w s v:=by
 cases s with
 | tup cs=>obtain ⟨vs,e,h⟩:=h;exact ⟨vs,e,fl1s_holds Z hs h⟩
 | _=>refine fl1_holds ?_ h Z;exact hs
theorem ren1_fl {d u:Nat} {s:SV} (h:fl1 s=true):fl1 (ren1 d u s)=true:=by
 cases s with
 | own t ver n k=>show fl1 (if t=2000 then _ else _)=true;split <;> rfl
 | ptr t ver o=>show fl1 (if t=2000 then _ else _)=true;split <;> rfl
 | _=>exact h
theorem ren_fl {d u:Nat} {s:SV} (h:fl s=true):fl (ren d u s)=true:=by
 cases s with
 | tup cs=>
   show (cs.map (ren1 d u)).all fl1=true
   rw [List.all_map]
   exact List.all_eq_true.2 fun x hx=>ren1_fl (List.all_eq_true.1 h x hx)
 | own t ver n k=>show fl (if t=2000 then _ else _)=true;split <;> rfl
 | ptr t ver o=>show fl (if t=2000 then _ else _)=true;split <;> rfl
 | _=>exact h
def frees (r:SV) (rows:List Row):Bool:=fl r && rows.all fun q=>q.cs.all fl0
def fzA (fs fz:List Nat) (r:SV) (rows:List Row):List Nat:=if frees r rows then fz else fs ++ fz
theorem rnR_mem {nx:Nat}:∀ {L:List Nat} {rows:List Row} {q:Row},q ∈ rnR nx L rows→∃ p ∈ rows,q.cs=p.cs
 | [],p :: _,q,h=>by
   simp only [rnR,List.mem_singleton] at h
   exact ⟨p,List.mem_cons_self ..,by rw [h]⟩
 | _ :: L,p :: rs,q,h=>by
   simp only [rnR,List.mem_cons] at h
   rcases h with rfl | h
   ·exact ⟨q,List.mem_cons_self ..,rfl⟩
   ·obtain ⟨p',a,b⟩:=rnR_mem h
    exact ⟨p',List.mem_cons_of_mem _ a,b⟩
 | [],[],q,h=>by simp [rnR] at h
 | _ :: _,[],q,h=>by simp [rnR] at h
theorem rnR_same {nx:Nat}:∀ {L M:List Nat} {rows:List Row},L.length=M.length→rnR nx L rows=rnR nx M rows
 | [],[],_,_=>rfl
 | _ :: L,_ :: M,[],_=>rfl
 | _ :: L,_ :: M,r :: rs,h=>by simp only [rnR];rw [rnR_same (by simpa using h)]
theorem rnR_get {d nx:Nat}:∀ {L:List Nat} {rows:List Row},(rows.length=L.length∨rows.length=L.length + 1)→(wl d L rows).length=(rnR nx L rows).length∧∀ (i:Nat) (t:Nat) (q:Row),(wl d L rows)[i]?=some t→(rnR nx L rows)[i]?=some q→(L[i]?=some t∧rows[i]?=some q)∨(rows.length=L.length + 1∧t=d∧q.ver=nx∧q ∈ rnR nx L rows∧L[i]?=none)
 | [],[],_=>⟨rfl,fun i t q h=>by simp [wl] at h⟩
 | [],[p],_=>⟨rfl,fun i t q h k=>by
  cases i with
  | zero=>simp [wl,rnR] at h k;subst k;exact .inr ⟨rfl,h.symm,rfl,by simp [rnR],rfl⟩
  | succ i=>simp [wl] at h⟩
 | [],_ :: _ :: _,h=>by simp at h
 | _ :: _,[],h=>by simp at h
 | s :: L,p :: rs,h=>by
   obtain ⟨h1,h2⟩:= @rnR_get d nx L rs (by simpa using h)
   refine ⟨by simpa [wl,rnR] using h1,fun i t q a b=>?_⟩
   cases i with
   | zero=>simp [wl,rnR] at a b;subst a b;exact .inl ⟨rfl,rfl⟩
   | succ i=>
     simp only [wl,rnR,List.getElem?_cons_succ] at a b
     rcases h2 i t q a b with h3 | ⟨h3,h4,h5,h6,h7⟩
     ·exact .inl (by simpa using h3)
     ·exact .inr ⟨by simpa using h3,h4,h5,List.mem_cons_of_mem _ h6,by simpa using h7⟩
def calH (hp:List (Nat × Row)) (H:Nat→Option Row) (L:List Nat) (rows:List Row) (t:Nat):Option Row:=if L.contains t=true then lookR (putRs hp L rows) t else H t
def VA (V:Nat→Prop) (L:List Nat) (rows:List Row) (nx:Nat) (u:Nat):Prop:=V u∨(rows.length=L.length + 1∧u=nx)
theorem Inv.call {hp:List (Nat × Row)} {nx:Nat} (d:Nat) (h:Inv X e g w H V fz) (hVn:∀ u,V u→u < nx) {f:FuncId} {args:List SV} {vals:List Value} {C:SV→List Row→Prop} (fs L:List Nat) (hac:AC P X f (args.map (arg hp fs L)) (lnt hp fs L) C) (hv:agL g w args vals) (hL:lntOk hp fz fs L) (hfs:∀ s,fs.contains s=true→lookR hp s=H s) (hLs:∀ s ∈ L,lookR hp s=H s):
 CV P f vals.toArray w fun en w'=>∃ (v:Value) (r:SV) (rows':List Row) (g':Cx),en=.returned v∧C r rows'∧(rows'.length=L.length∨rows'.length=L.length + 1)∧holds g' w' (ren d nx r) v∧g.le g'∧(∀ b,g.Z b→w'.heap[b]?=w.heap[b]?)∧((rows'.length=L.length + 1→L.contains d=false)→Inv X e g' w' (calH hp H (wl d L rows') (rnR nx L rows')) (VA V L rows' nx) (fzA fs fz r rows')):=by
 have hrow:∀ (i:Nat) (r:Row),(lnt hp fs L)[i]?=some r→∃ s q,L[i]?=some s∧H s=some q∧r=⟨q.ver,q.T,q.k,q.cs.map (cv (frzH hp fs) 6)⟩∧fz.contains s=false∧fs.contains s=false:=fun i r hi=>by
  unfold lnt at hi
  rw [List.getElem?_map] at hi
  cases hs:L[i]? with
  | none=>rw [hs] at hi;cases hi
  | some s=>
    rw [hs] at hi
    obtain ⟨⟨q,hq⟩,h1,h2⟩:=hL.get i s hs
    simp only [Option.map_some,hq,lnR,Option.some.injEq] at hi
    exact ⟨s,q,rfl,(hLs s (List.mem_of_getElem? hs)) ▸ hq,hi.symm,h1,h2⟩
 have hzlt:∀ b,Zf g hp fs b→b < w.heap.size:=fun b hb=>by
  rcases hb with hb | ⟨s,r,hs,hk,rfl⟩
  ·exact h.zlt b hb
  ·exact h.blk _ (h.frz fs hfs s r hs).1.1 hk
 have hout:∀ s q,H s=some q→fz.contains s=false→fs.contains s=false→g.ka q.ver≠0→¬ Zf g hp fs (g.mu q.ver):=fun s q hq h1 h2 hk hb=>by
  rcases hb with hb | ⟨t,r,ht,hk',e'⟩
  ·exact h.free s q hq h1 hk hb
  ·obtain ⟨a1,a2,a3⟩:=frzH_some ht
   have:s≠t:=fun e=>by subst e;rw [h2] at a1;cases a1
   exact h.apart s t q r hq ((hfs t a1) ▸ a3) this hk hk' e'
 refine (hac.out ⟨Zf g hp fs,g.A,g.mu,g.ka⟩ w vals nx h.env hzlt (fun u hu=>hVn u (h.ver u hu)) h.blk (hv.map (arg_holds h fs hfs L)) (fun r hr=>?_) (fun i j r q hr hq hij ha hb=>?_)).mono ?_
 ·obtain ⟨i,hi⟩:=List.mem_iff_getElem?.1 hr
  obtain ⟨s,q,hs,hq,rfl,h1,h2⟩:=hrow i r hi
  obtain ⟨hA,hrw⟩:=h.row s q hq
  have hmap:∀ vs,agL g w q.cs vs→agL ⟨Zf g hp fs,g.A,g.mu,g.ka⟩ w (q.cs.map (cv (frzH hp fs) 6)) vs:=fun vs hv=>agL.up (g:=⟨Zf g hp fs,g.A,g.mu,g.ka⟩) (hv.map (cv_holds (g':=⟨Zf g hp fs,g.A,g.mu,g.ka⟩) (fun b hb=>.inl hb) (h.frz fs hfs) 6))
  refine ⟨⟨hA,hrw.imp (fun h0=>⟨h0.1,by rw [h0.2];rfl⟩) fun ⟨arr,a1,a2,a3,a4⟩=>⟨arr,a1,a2,by simpa using a3,by rw [List.length_map];exact hmap _ a4⟩⟩,fun hk=>⟨hout s q hq h1 h2 hk,?_⟩⟩
  intro hd
  rcases h.mine s q hq hk with hge | ⟨_,u,hu,eu,hku⟩
  ·have h1:g.mu q.ver < e.w0.heap.size:=h.nd.1 _ hd
   omega
  ·exact h.nd.2 u hu hku (eu ▸ hd)
 ·obtain ⟨s,r0,hs,hr0,rfl,_⟩:=hrow i r hr
  obtain ⟨t,q0,ht,hq0,rfl,_⟩:=hrow j q hq
  exact h.apart s t r0 q0 hr0 hq0 (fun e=>hij (hL.inj i j s hs (e ▸ ht))) ha hb
 ·rintro en w' ⟨v,r,rows',G,e1,hC,hh,hGle,hzn,hlen,hver,hrows,hGA,hsz,hkeep,hio,hE⟩
  have hll:(lnt hp fs L).length=L.length:=by simp [lnt]
  rw [hll] at hlen hGA
  have hrows:∀ q ∈ rnR nx L rows',rowIn G w' q:=fun q hq=>hrows q (by rwa [rnR_same (M:=L) (by simp [lnt])])
  let Zn:Nat→Prop:=fun b=>if frees r rows'=true then g.Z b else G.Z b
  have hZnG:∀ b,Zn b→G.Z b:=fun b hb=>by
   by_cases hc:frees r rows'=true
   ·simp only [Zn,hc,if_true] at hb;exact hGle.z b (.inl hb)
   ·simp only [Zn,hc] at hb;exact hb
  have hgZn:∀ b,g.Z b→Zn b:=fun b hb=>by
   by_cases hc:frees r rows'=true
   ·simp only [Zn,hc,if_true];exact hb
   ·simp only [Zn,hc];exact hGle.z b (.inl hb)
  have hGa:∀ u,g.A u→G.A u∧G.mu u=g.mu u∧G.ka u=g.ka u:=fun u hu=>hGle.a u hu
  have hle:g.le ⟨Zn,G.A,G.mu,G.ka⟩:=⟨hgZn,hGa⟩
  have hother:∀ t q,H t=some q→t ∉ L→g.ka q.ver≠0→w'.heap[g.mu q.ver]?=w.heap[g.mu q.ver]?:=fun t q hq ht hk=>by
   refine hkeep _ (h.blk _ (h.row t q hq).1 hk) fun r' hr' hk' e'=>?_
   obtain ⟨i,hi⟩:=List.mem_iff_getElem?.1 hr'
   obtain ⟨s,q',hs,hq',rfl,_⟩:=hrow i r' hi
   exact h.apart t s q q' hq hq' (fun e=>ht (e ▸ List.mem_of_getElem? hs)) hk hk' e'
  have hZ:∀ b,g.Z b→w'.heap[b]?=w.heap[b]?:=fun b hb=>hkeep b (h.zlt b hb) fun r' hr' hk' e'=>by
   obtain ⟨i,hi⟩:=List.mem_iff_getElem?.1 hr'
   obtain ⟨s,q',hs,hq',rfl,h1,h2⟩:=hrow i r' hi
   exact h.free s q' hq' h1 hk' (e' ▸ hb)
  have hh':holds ⟨Zn,G.A,G.mu,G.ka⟩ w' (ren d nx r) v:=by
   have hh:=holds_ren (d':=d) r v hh
   by_cases hc:frees r rows'=true
   ·have hf:fl r=true:=by unfold frees at hc;rw [Bool.and_eq_true] at hc;exact hc.1
    exact fl_holds (ren_fl hf) hh Zn
   ·have:Zn=G.Z:=by funext b;simp only [Zn,hc];rfl
    rw [this];exact hh
  have hrows':∀ q ∈ rnR nx L rows',rowIn ⟨Zn,G.A,G.mu,G.ka⟩ w' q:=fun q hq=>by
   have h0:=hrows q hq
   by_cases hc:frees r rows'=true
   ·have hf:q.cs.all fl0=true:=by
     unfold frees at hc;rw [Bool.and_eq_true] at hc
     obtain ⟨p,hp1,hp2⟩:=rnR_mem hq
     rw [hp2];exact List.all_eq_true.1 hc.2 p hp1
    exact ⟨h0.1,h0.2.imp id fun ⟨arr,a1,a2,a3,a4⟩=>⟨arr,a1,a2,a3,fl0s_holds Zn hf a4⟩⟩
   ·have:Zn=G.Z:=by funext b;simp only [Zn,hc];rfl
    rw [this];exact h0
  refine ⟨v,r,rows',⟨Zn,G.A,G.mu,G.ka⟩,e1,hC,hlen,hh',hle,hZ,fun hd=>?_⟩
  obtain ⟨hwl,hget⟩:= @rnR_get d nx L rows' hlen
  have hnew:∀ t q,calH hp H (wl d L rows') (rnR nx L rows') t=some q→(∃ q0,H t=some q0∧q.ver=q0.ver∧t ∈ L∧q ∈ rnR nx L rows'∧fz.contains t=false∧fs.contains t=false)∨(rows'.length=L.length + 1∧t=d∧q.ver=nx∧q ∈ rnR nx L rows')∨(t ∉ wl d L rows'∧H t=some q):=fun t q hq=>by
   unfold calH at hq
   by_cases htL:(wl d L rows').contains t=true
   case neg=>rw [if_neg htL] at hq;exact .inr (.inr ⟨by simpa using htL,hq⟩)
   rw [if_pos htL] at hq
   rcases lookR_putRs (wl d L rows') (rnR nx L rows') hp t q hq with ⟨i,h1,h2⟩ | ⟨h1,h2⟩
   ·rcases hget i t q h1 h2 with ⟨h3,h4⟩ | ⟨h3,h4,h5,h6,_⟩
    ·left
     obtain ⟨⟨q0,hq0⟩,h5,h6⟩:=hL.get i t h3
     refine ⟨q0,(hLs t (List.mem_of_getElem? h3)) ▸ hq0,?_,List.mem_of_getElem? h3,List.mem_of_getElem? h2,h5,h6⟩
     exact hver i ⟨q0.ver,q0.T,q0.k,q0.cs.map (cv (frzH hp fs) 6)⟩ q (by simp [lnt,h3,hq0,lnR]) h4
    ·exact .inr (.inl ⟨h3,h4,h5,h6⟩)
   ·exact absurd (by simpa using htL) (h1.resolve_right (by omega))
  have hLwl:∀ t,t ∈ L→t ∈ wl d L rows':=by
   have key:∀ (L:List Nat) (rows:List Row) (t:Nat),t ∈ L→t ∈ wl d L rows:=by
    intro L
    induction L with
    | nil=>intro rows t ht;cases ht
    | cons s L ih=>
      intro rows t ht
      cases rows with
      | nil=>exact ht
      | cons r rs=>
        rcases List.mem_cons.1 ht with rfl | ht
        ·exact List.mem_cons_self ..
        ·exact List.mem_cons_of_mem _ (ih rs t ht)
   exact key L rows'
  have hdwl:rows'.length=L.length + 1→d ∈ wl d L rows':=by
   have key:∀ (L:List Nat) (rows:List Row),rows.length=L.length + 1→d ∈ wl d L rows:=by
    intro L
    induction L with
    | nil=>
      intro rows hr
      cases rows with
      | nil=>simp at hr
      | cons r rs=>exact List.mem_singleton.2 rfl
    | cons s L ih=>
      intro rows hr
      cases rows with
      | nil=>simp at hr
      | cons r rs=>exact List.mem_cons_of_mem _ (ih rs (by simpa using hr))
   exact key L rows'
  have hold:∀ t q,calH hp H (wl d L rows') (rnR nx L rows') t=some q→(∃ q0,H t=some q0∧q.ver=q0.ver∧(t=d→rows'.length≠L.length + 1)∧G.mu q.ver=g.mu q0.ver∧G.ka q.ver=g.ka q0.ver)∨(rows'.length=L.length + 1∧t=d∧q.ver=nx∧(G.ka nx≠0→w.heap.size≤G.mu nx∧G.mu nx < w'.heap.size∧¬ G.Z (G.mu nx))):=fun t q hq=>by
   rcases hnew t q hq with ⟨q0,h1,h2,h3,_⟩ | ⟨h1,h2,h3,h4⟩ | ⟨h1,h2⟩
   ·have:=hGa _ (h.row t q0 h1).1
    refine .inl ⟨q0,h1,h2,fun e hn=>?_,by rw [h2];exact this.2.1,by rw [h2];exact this.2.2⟩
    have:=hd hn
    subst e
    simp at this
    exact this h3
   ·refine .inr ⟨h1,h2,h3,?_⟩
    have hA:G.A nx:=h3 ▸ (hrows q h4).1
    rcases hGA nx hA with ho | ⟨_,_,ho⟩
    ·exact absurd (hVn nx (h.ver nx ho)) (Nat.lt_irrefl _)
    ·exact ho
   ·have:=hGa _ (h.row t q h2).1
    exact .inl ⟨q,h2,rfl,fun e hn=>h1 (e ▸ hdwl hn),this.2⟩
  refine ⟨h.le.trans hle,fun t q hq=>?_,fun t u q p hq hp' htu ha hb=>?_,fun t q hq hz hk hb=>?_,fun t q hq hk=>?_,fun u hu=>?_,fun u hu hk=>?_,fun b hb=>?_,fun b hb=>?_,fun b hb hl=>?_,Nat.le_trans h.size hsz,⟨hio.1.trans h.io.1,hio.2.1.trans h.io.2.1,hio.2.2.trans h.io.2.2⟩,hE,h.nd⟩
  ·rcases hnew t q hq with ⟨q0,h1,h2,h3,h4,_⟩ | ⟨_,_,_,h4⟩ | ⟨h0,h1⟩
   ·exact hrows' q h4
   ·exact hrows' q h4
   ·exact (h.row t q h1).mono hle hZ fun hk=>hother t q h1 (fun hl=>h0 (hLwl t hl)) hk
  ·rcases hold t q hq with ⟨q0,h1,_,h2,h3,h4⟩ | ⟨n1,rfl,n3,n4⟩ <;> rcases hold u p hp' with ⟨p0,k1,_,k2,k3,k4⟩ | ⟨m1,rfl,m3,m4⟩
   ·rw [h4] at ha
    rw [k4] at hb
    rw [h3,k3]
    exact h.apart t u q0 p0 h1 k1 htu ha hb
   ·rw [h4] at ha
    rw [m3] at hb
    rw [h3,m3]
    have:=h.blk _ (h.row t q0 h1).1 ha
    have:=(m4 hb).1
    show g.mu q0.ver≠G.mu nx
    omega
   ·rw [n3] at ha
    rw [k4] at hb
    rw [n3,k3]
    have:=h.blk _ (h.row u p0 k1).1 hb
    have:=(n4 ha).1
    show G.mu nx≠g.mu p0.ver
    omega
   ·exact absurd rfl htu
  ·rcases hold t q hq with ⟨q0,h1,_,h2,h3,h4⟩ | ⟨n1,rfl,n3,n4⟩
   ·simp only [h3] at hb
    simp only [h4] at hk
    by_cases hc:frees r rows'=true
    ·simp only [Zn,hc,if_true] at hb
     simp only [fzA,hc,if_true] at hz
     exact h.free t q0 h1 hz hk hb
    ·simp only [Zn,hc] at hb
     simp only [fzA,hc] at hz
     have hz1:fz.contains t=false∧fs.contains t=false:=by
      simp only [List.contains_eq_mem,List.mem_append,decide_eq_false_iff_not,not_or] at hz ⊢
      simp at hz ⊢
      exact ⟨hz.2,hz.1⟩
     rcases hzn _ hb with hb | hb
     ·exact hout t q0 h1 hz1.1 hz1.2 hk hb
     ·have:=h.blk _ (h.row t q0 h1).1 hk;omega
   ·simp only [n3] at hk hb
    exact (n4 hk).2.2 (hZnG _ hb)
  ·rcases hold t q hq with ⟨q0,h1,_,h2,h3,h4⟩ | ⟨n1,rfl,n3,n4⟩
   ·simp only [h3]
    simp only [h4] at hk
    exact h.mine t q0 h1 hk
   ·simp only [n3] at hk ⊢
    exact .inl (Nat.le_trans h.size (n4 hk).1)
  ·rcases hGA u hu with ho | ⟨ho,hn,_⟩
   ·exact .inl (h.ver u ho)
   ·exact .inr ⟨ho,hn⟩
  ·rcases hGA u hu with ho | ⟨ho,rfl,hn⟩
   ·have:=(hGa u ho).2
    simp only [this.2] at hk
    simp only [this.1]
    exact Nat.lt_of_lt_of_le (h.blk u ho hk) hsz
   ·exact (hn hk).2.1
  ·rcases hzn b (hZnG b hb) with hb | hb
   ·exact Nat.lt_of_lt_of_le (hzlt b hb) hsz
   ·exact hb.2
  ·rcases hzn b (hZnG b hb) with (hb | ⟨s,r0,hs,hk,rfl⟩) | hb
   ·exact h.znew b hb
   ·obtain ⟨a1,a2,a3⟩:=frzH_some hs
    rcases h.mine s r0 ((hfs s a1) ▸ a3) hk with hge | ⟨h10,_⟩
    ·exact .inr hge
    ·omega
   ·exact .inr (Nat.le_trans h.size hb.1)
  ·refine (hkeep b (Nat.lt_of_lt_of_le hb h.size) fun r' hr' hk' e'=>?_).trans (h.keep b hb hl)
   obtain ⟨i,hi⟩:=List.mem_iff_getElem?.1 hr'
   obtain ⟨s,q',hs,hq',rfl,_⟩:=hrow i r' hi
   rcases h.mine s q' hq' hk' with hge | ⟨_,u,hu,eu,hku⟩
   ·have e':b=g.mu q'.ver:=e'
    omega
   ·exact hl u hu hku (e'.trans eu)
end
end Am
end Go.Proofs.YtkgbjoepjcenlaaDoor
