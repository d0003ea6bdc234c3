/- Joined texts. -/
import Derived.Test.YtkgbjoepjcenlaaDoorKAX
import Derived.Scope
set_option linter.unusedVariables false
set_option linter.unusedSimpArgs false
namespace Go.Proofs.YtkgbjoepjcenlaaDoor
namespace Am
def gsv (fr:List (Nat × SV)):Option Tmp→SV
 | some d=>look fr d
 | none=>.v undef
def gst (b:Bool) (T E:Prop):SV→Prop
 | .v (.bool c)=>(c=b→T)∧(c= !b→E)
 | .v (.tuple _)=>E
 | _=>False
def AS.up (σ:AS) (dst:Option Tmp) (R:Rs):AS:=⟨putF σ.fr R.r dst,putW σ.hp R.wr,nxW σ.nx R.wr,σ.fz,σ.N⟩
def nxA (nx:Nat):List Nat→List Row→Nat
 | [],_ :: _=>nx + 1
 | _ :: L,_ :: rs=>nxA nx L rs
 | _,[]=>nx
theorem nxA_eq {nx:Nat}:∀ {L:List Nat} {rows:List Row},(rows.length=L.length∨rows.length=L.length + 1)→(rows.length=L.length∧nxA nx L rows=nx)∨(rows.length=L.length + 1∧nxA nx L rows=nx + 1)
 | [],[],_=>.inl ⟨rfl,rfl⟩
 | [],[_],_=>.inr ⟨rfl,rfl⟩
 | [],_ :: _ :: _,h=>by simp at h
 | _ :: _,[],h=>by simp at h
 | _ :: L,_ :: rs,h=>by simpa [nxA] using @nxA_eq nx L rs (by simpa using h)
def AS.called (σ:AS) (dst:Option Tmp) (fs L:List Nat) (r:SV) (rows:List Row):AS:=⟨putF σ.fr (ren (dst.getD 0) σ.nx r) dst,putRs σ.hp (wl (dst.getD 0) L rows) (rnR σ.nx L rows),nxA σ.nx L rows,fzA fs σ.fz r rows,σ.N⟩
def nob (ck:List Nat→List Nat→Prop) (d:Nat) (fs L0:List Nat):List Nat→List Row→Prop
 | [],_ :: _=>L0.contains d=false∧ck fs (L0 ++ [d])
 | _ :: L,_ :: rs=>nob ck d fs L0 L rs
 | _,[]=>True
theorem nob.get {ck:List Nat→List Nat→Prop} {d:Nat} {fs L0:List Nat}:∀ {L:List Nat} {rows:List Row},nob ck d fs L0 L rows→rows.length=L.length + 1→(L0.contains d=false∧ck fs (L0 ++ [d]))∧wl d L rows=L ++ [d]
 | [],[],_,hl=>by simp at hl
 | [],[_],h,_=>⟨h,rfl⟩
 | [],_ :: _ :: _,_,hl=>by simp at hl
 | _ :: _,[],_,hl=>by simp at hl
 | s :: L,_ :: rs,h,hl=>by
   have:=nob.get (L:=L) (rows:=rs) h (by simpa using hl)
   exact ⟨this.1,by simp [wl,this.2]⟩
theorem wl_same {d:Nat}:∀ {L:List Nat} {rows:List Row},rows.length=L.length→wl d L rows=L
 | [],[],_=>rfl
 | [],_ :: _,h=>by simp at h
 | _ :: _,[],h=>by simp at h
 | s :: L,_ :: rs,h=>by simp only [wl];rw [wl_same (by simpa using h)]
def fnOf:SV→Option FuncId
 | .v (.func (.func f) fi ca)=>if fi=#[]∧ca=#[] then some f else none
 | _=>none
def cal (P:Program) (X:Ev) (ck:List Nat→List Nat→Prop) (K:AS→List Nat→List Nat→Prop) (dst:Option Tmp) (σ:AS) (args:List SV):Option FuncId→Prop
 | some f=>dOk σ.N dst∧∃ (fs L:List Nat) (C:SV→List Row→Prop),AC P X f (args.map (arg σ.hp fs L)) (lnt σ.hp fs L) C∧lntOk σ.hp σ.fz fs L∧ck fs L∧∀ r rows,C r rows→(rows.length=L.length∨rows.length=L.length + 1)→nob ck (dst.getD 0) fs L L rows∧K (σ.called dst fs L r rows) fs (wl (dst.getD 0) L rows)
 | none=>False
def wrs:Option (Nat × Row)→List Nat
 | some (s,_)=>[s]
 | none=>[]
def one (P:Program) (X:Ev) (ck:List Nat→List Nat→Prop) (K:AS→List Nat→List Nat→Prop) (dst:Option Tmp) (σ:AS):Op→Prop
 | .call ⟨.value f,args,_⟩=>cal P X ck K dst σ (args.toList.map (ev σ.fr)) (fnOf (ev σ.fr f))
 | op=>(exec P (dst.getD 0) σ.fz (ev σ.fr) (lookR σ.hp) σ.nx op).p∧dOk σ.N dst∧ck (exec P (dst.getD 0) σ.fz (ev σ.fr) (lookR σ.hp) σ.nx op).rd (wrs (exec P (dst.getD 0) σ.fz (ev σ.fr) (lookR σ.hp) σ.nx op).wr)∧K (σ.up dst (exec P (dst.getD 0) σ.fz (ev σ.fr) (lookR σ.hp) σ.nx op)) (exec P (dst.getD 0) σ.fz (ev σ.fr) (lookR σ.hp) σ.nx op).rd (wrs (exec P (dst.getD 0) σ.fz (ev σ.fr) (lookR σ.hp) σ.nx op).wr)
def noCk (_ _:List Nat):Prop:=True
def fvO (P:Program) (T U:TypeId):SV→Option ((Value→Prop)→Prop)
 | .v (.float k n)=>some fun K=>∃ C:Value→Prop,(∀ W:World,∃ v W',(convert T U (.float k n)).run P W=.ok v W'∧(W'=W∨W'=W.drew)∧C v)∧∀ v,C v→K v
 | _=>none
def nlO (P:Program) (T:TypeId):BinOp→SV→SV→Option ((Value→Prop)→Prop)
 | .eql,.sl _ _ cs,.v (.slice none 0 0)=>some fun K=>(elT (P.underlying T)).isSome=true∧∀ b:Bool,(cs.length≠0→b=false)→K (.bool b)
 | .neq,.sl _ _ cs,.v (.slice none 0 0)=>some fun K=>(elT (P.underlying T)).isSome=true∧∀ b:Bool,(cs.length≠0→b=true)→K (.bool b)
 | _,_,_=>none
def opn (P:Program) (e:Operand→SV):Op→Option ((Value→Prop)→Prop)
 | .convert T U x=>fvO P T U (e x)
 | .binOp op T x y _=>nlO P T op (e x) (e y)
 | _=>none
def onO (K:AS→List Nat→List Nat→Prop) (dst:Option Tmp) (σ:AS) (p:Prop):Option ((Value→Prop)→Prop)→Prop
 | some f=>dOk σ.N dst∧f fun v=>K ⟨putF σ.fr (.v v) dst,σ.hp,σ.nx,σ.fz,σ.N⟩ [] []
 | none=>p
def oneO (P:Program) (X:Ev) (K:AS→List Nat→List Nat→Prop) (dst:Option Tmp) (σ:AS) (op:Op):Prop:=onO K dst σ (one P X noCk K dst σ op) (opn P (ev σ.fr) op)
def chain (P:Program) (X:Ev) (ops:Array Oper) (K:AS→Prop):List Oper→AS→List Nat→List Nat→Prop
 | [],σ,_,_=>K σ
 | o :: os,σ,_,_=>match o.guard with
   | none=>oneO P X (chain P X ops K os) o.dst σ o.op
   | some (j,b)=>gst b (oneO P X (chain P X ops K os) o.dst σ o.op) (dOk σ.N o.dst∧chain P X ops K os ⟨putF σ.fr (.v undef) o.dst,σ.hp,σ.nx,σ.fz,σ.N⟩ [] []) (gsv σ.fr ((ops[j]?).bind (·.dst)))
section
variable {P:Program} {X:Ev} {e:En}
theorem frame_mono {g g':Cx} {w w':World} {fr:List (Nat × SV)} {a:Act} (h:∀ d,holds g w (look fr d) (a.tmps.getD d undef)) (hg:g.le g') (hZ:∀ b,g.Z b→w'.heap[b]?=w.heap[b]?):∀ d,holds g' w' (look fr d) (a.tmps.getD d undef):=
 fun d=>holds.mono hg hZ _ _ (h d)
theorem det_wp {g:Cx} {w:World} {o:Oper} {a:Act} {d nx:Nat} {sv:Operand→SV} {H H':Nat→Option Row} {V V':Nat→Prop} {fz fz':List Nat} {Q:Exit→Act→World→Prop} {next:Act→World→Prop} (hops:∀ x ∈ o.op.operands,holds g w (sv x) (a.eval x)) (hI:Inv X e g w H V fz) {R:Rs} (hR:exec P d fz' sv H' nx o.op=R) (hp:R.p)
 (hH:∀ u,(u ∈ R.rd∨∃ r',R.wr=some (u,r'))→H' u=H u) (hz:∀ u r',R.wr=some (u,r')→fz'.contains u=false→fz.contains u=false) (hn:R.wr≠none→¬ g.A nx) (hV:∀ u,V u→V' u) (hVn:R.wr≠none→V' nx)
 (hk:∀ v w' g',holds g' w' R.r v→Inv X e g' w' (putH H R.wr) V' fz→g.le g'→(∀ b,g.Z b→w'.heap[b]?=w.heap[b]?)→next (a.put o.dst v) w'):o.wp P a w next Q:=by
 subst hR
 have:=exec_eff (P:=P) (o:=o) (ρ:=a.eval) (d:=d) hops hn hI.zlt (hI.rows _ hH hz) hp
 obtain ⟨v,w',g',h1,h2,h3,h4,h5⟩:=hI.step this (fun u r' h=>hH u (.inr ⟨r',h⟩)) hz hV hVn
 have:=hk v w' g' h2 h3 h4 h5
 unfold Oper.wp
 rcases h1 with h1 | ⟨h1,rfl⟩
 ·rw [h1];exact this
 ·rw [h1];exact this
theorem fnOf_val {s:SV} {n:FuncId} {g:Cx} {w:World} {v:Value} (h:fnOf s=some n) (hv:holds g w s v):v=.func (.func n) #[] #[]:=by
 unfold fnOf at h
 split at h
 ·split at h
  ·rename_i hc
   cases h
   rw [hc.1,hc.2] at hv
   exact hv
  ·cases h
 ·cases h
theorem cal_wp {g:Cx} {w:World} {o:Oper} {a:Act} {sv:Operand→SV} {hp:List (Nat × Row)} {H:Nat→Option Row} {V:Nat→Prop} {fz fs L:List Nat} {nx:Nat} {Q:Exit→Act→World→Prop} {next:Act→World→Prop} {f:Operand} {args:Array Operand} {ts:Array TypeId} {n:FuncId} {C:SV→List Row→Prop} (ho:o.op=.call ⟨.value f,args,ts⟩) (hops:∀ x ∈ o.op.operands,holds g w (sv x) (a.eval x)) (hI:Inv X e g w H V fz) (hf:fnOf (sv f)=some n) (hac:AC P X n ((args.toList.map sv).map (arg hp fs L)) (lnt hp fs L) C) (hL:lntOk hp fz fs L)
 (hfs:∀ s,fs.contains s=true→lookR hp s=H s) (hLs:∀ s ∈ L,lookR hp s=H s) (hVn:∀ u,V u→u < nx) (d:Nat) (hk:∀ v w' g' r rows,C r rows→(rows.length=L.length∨rows.length=L.length + 1)→holds g' w' (ren d nx r) v→((rows.length=L.length + 1→L.contains d=false)→Inv X e g' w' (calH hp H (wl d L rows) (rnR nx L rows)) (VA V L rows nx) (fzA fs fz r rows))→g.le g'→(∀ b,g.Z b→w'.heap[b]?=w.heap[b]?)→next (a.put o.dst v) w'):o.wp P a w next Q:=by
 have hfv:a.eval f=.func (.func n) #[] #[]:=fnOf_val hf (hops f (by rw [ho];simp [Op.operands,Call.operands]))
 have hvals:agL g w (args.toList.map sv) (args.toList.map a.eval):=by
  have hm:∀ x ∈ args.toList,holds g w (sv x) (a.eval x):=fun x hx=>hops x (by rw [ho];simp [Op.operands,Call.operands];right;simpa using hx)
  generalize args.toList=l at hm
  induction l with
  | nil=>trivial
  | cons x l ih=>exact ⟨hm x (List.mem_cons_self ..),ih fun y hy=>hm y (List.mem_cons_of_mem _ hy)⟩
 have hr:∀ {nx W'},(callFunc n (args.toList.map a.eval).toArray).run P w=.ok nx W'→(execOp a.eval o).run P w=.ok nx W':=fun {nx W'} h=>by
  have hmap:args.map a.eval=(args.toList.map a.eval).toArray:=by rw [← Array.toList_inj];simp
  simp only [execOp,ho,resolve,hfv,Deferred.ofValue,Sem.run_bind,Sem.run_pure,Result.andThen_ok,invoke,hmap]
  simpa using h
 unfold Oper.wp
 rcases hI.call d hVn fs L hac hvals hL hfs hLs with ⟨hgo,hc⟩ | ⟨v,w',hgo,v',r,rows',g',e1,hC,hlen,hh,hle,hZ,hI'⟩
 ·rw [hr hgo]
  refine Calls.mono hc ?_
  rintro en w' ⟨v,r,rows',g',rfl,hC,hlen,hh,hle,hZ,hI'⟩
  exact hk v w' g' r rows' hC hlen hh hI' hle hZ
 ·rw [hr hgo]
  cases e1
  exact hk v w' g' r rows' hC hlen hh hI' hle hZ
theorem calH_seq {hp:List (Nat × Row)} {L:List Nat} {rows:List Row} (hlen:rows.length=L.length):calH hp (lookR hp) L rows=lookR (putRs hp L rows):=by
 funext t
 unfold calH
 split
 ·rfl
 ·rename_i h
  have key:∀ (L:List Nat) (rows:List Row) (hp:List (Nat × Row)),t ∉ L→lookR (putRs hp L rows) t=lookR hp t:=by
   intro L
   induction L with
   | nil=>intro rows hp _;cases rows <;> rfl
   | cons s L ih=>
     intro rows hp ht
     cases rows with
     | nil=>rfl
     | cons r rs=>
       simp only [List.mem_cons,not_or] at ht
       simp only [putRs,ih rs _ ht.2,lookR_putR,Ne.symm ht.1,if_false]
  exact (key L rows hp (by simpa using h)).symm
theorem one_wp {ck:List Nat→List Nat→Prop} {K:AS→List Nat→List Nat→Prop} {o:Oper} {σ:AS} {a:Act} {w:World} {Q:Exit→Act→World→Prop} {next:Act→World→Prop} (h:one P X ck K o.dst σ o.op) (hr:Rel X e σ a w) (hn:∀ σ' rd wr a' w',K σ' rd wr→Rel X e σ' a' w'→next a' w'):o.wp P a w next Q:=by
 obtain ⟨hd,hs,g,hf,hI⟩:=hr
 have key:∀ (R:Rs),exec P (o.dst.getD 0) σ.fz (ev σ.fr) (lookR σ.hp) σ.nx o.op=R→R.p→dOk σ.N o.dst→K (σ.up o.dst R) R.rd (wrs R.wr)→o.wp P a w next Q:=fun R e1 hp hk hK=>by
  refine det_wp (V':=(· < nxW σ.nx R.wr)) (fun x _=>Rel.ev hf x) hI e1 hp (fun _ _=>rfl) (fun _ _ _ h=>h) (fun _ hA=>Nat.lt_irrefl _ (hI.ver _ hA)) (fun u hu=>?_) (fun hw=>?_) fun v w' g' h2 h3 h4 h5=>?_
  ·show u < nxW σ.nx R.wr
   cases R.wr with
   | none=>exact hu
   | some x=>exact Nat.lt_succ_of_lt hu
  ·show σ.nx < nxW σ.nx R.wr
   cases hw':R.wr with
   | none=>exact absurd hw' hw
   | some x=>exact Nat.lt_succ_self _
  ·have hput:=put_rel (frame_mono hf h4 h5) hs hk h2
   exact hn _ _ _ _ _ hK ⟨hput.1.trans hd,hput.2.1,g',hput.2.2,by
    show Inv X e g' w' (lookR (putW σ.hp _)) _ _
    rw [lookR_putW];exact h3⟩
 have hcall:∀ f args ts,o.op=.call ⟨.value f,args,ts⟩→cal P X ck K o.dst σ (args.toList.map (ev σ.fr)) (fnOf (ev σ.fr f))→o.wp P a w next Q:=fun f args ts ho h=>by
  cases hfn:fnOf (ev σ.fr f) with
  | none=>rw [hfn] at h;exact h.elim
  | some n=>
    rw [hfn] at h
    obtain ⟨hk,fs,L,C,hac,hL,_,hK⟩:=h
    refine cal_wp ho (fun x _=>Rel.ev hf x) hI hfn hac hL (fun _ _=>rfl) (fun _ _=>rfl) (fun _ h=>h) (o.dst.getD 0) fun v w' g' r rows hC hlen hh hI' hle hZ=>?_
    have hput:=put_rel (frame_mono hf hle hZ) hs hk hh
    obtain ⟨hN,hK'⟩:=hK r rows hC hlen
    have hI2:=hI' fun hl=>(hN.get hl).1.1
    refine hn _ _ _ _ _ hK' ⟨hput.1.trans hd,hput.2.1,g',hput.2.2,?_⟩
    rw [calH_seq (rnR_get hlen).1.symm] at hI2
    refine { hI2 with ver:=fun u hu=>?_ }
    show u < nxA σ.nx L rows
    rcases nxA_eq (nx:=σ.nx) hlen with ⟨_,h1⟩ | ⟨_,h1⟩ <;> rcases hI2.ver u hu with h2 | ⟨h2,h3⟩ <;> rw [h1] <;> omega
 cases hop:o.op with
 | call c=>
   rw [hop] at h
   obtain ⟨callee,args,ts⟩:=c
   cases callee with
   | value f=>exact hcall f args ts hop h
   | invoke r m=>exact key _ (by rw [hop]) h.1 h.2.1 h.2.2.2
   | builtin b=>exact key _ (by rw [hop]) h.1 h.2.1 h.2.2.2
 | _=>rw [hop] at h;exact key _ (by rw [hop]) h.1 h.2.1 h.2.2.2
theorem Rel.drew {σ:AS} {a:Act} {w:World} (h:Rel X e σ a w):Rel X e σ a w.drew:=by
 obtain ⟨hd,hs,g,hf,hI⟩:=h
 have hle:=Cx.le.refl g
 refine ⟨hd,hs,g,fun d=>holds.mono (w:=w) (w':=w.drew) hle (fun _ _=>rfl) _ _ (hf d),⟨hI.le,fun s r hs=>rowIn.mono (w:=w) (w':=w.drew) hle (fun _ _=>rfl) (hI.row s r hs) fun _=>rfl,hI.apart,hI.free,hI.mine,hI.ver,hI.blk,hI.zlt,hI.znew,hI.keep,hI.size,hI.io,X.st w w.drew (Nat.le_refl w.heap.size) hI.env fun _ _=>rfl,hI.nd⟩⟩
theorem run_equal_nil {T t:TypeId} (hT:P.underlying T=some (.slice t)) (a:Option Addr) (n c:Nat) (W:World):(Op.equal T (.slice a n c) (.slice none 0 0)).run P W=.ok a.isNone W:=by
 unfold Op.equal
 rw [show Op.maxDepth=9999 + 1 from rfl]
 unfold Op.equalIn
 cases a <;> simp only [Sem.run_bind,run_und,hT,Result.andThen_ok,Sem.run_pure] <;> rfl
theorem put_wp {σ:AS} {o:Oper} {a:Act} {w w':World} {v:Value} {K:AS→List Nat→List Nat→Prop} {Q:Exit→Act→World→Prop} {next:Act→World→Prop} (hr:Rel X e σ a w') (hd:dOk σ.N o.dst) (hx:(execOp a.eval o).run P w=.ok (.value v) w') (hK:K ⟨putF σ.fr (.v v) o.dst,σ.hp,σ.nx,σ.fz,σ.N⟩ [] []) (hn:∀ σ' rd wr a' w',K σ' rd wr→Rel X e σ' a' w'→next a' w'):o.wp P a w next Q:=by
 unfold Oper.wp
 rw [hx]
 obtain ⟨hdf,hs,g,hf,hI⟩:=hr
 have hput:=put_rel hf hs hd (show holds g w' (.v v) v from rfl)
 exact hn _ _ _ _ _ hK ⟨hput.1.trans hdf,hput.2.1,g,hput.2.2,hI⟩
theorem oneO_wp {K:AS→List Nat→List Nat→Prop} {o:Oper} {σ:AS} {a:Act} {w:World} {Q:Exit→Act→World→Prop} {next:Act→World→Prop} (h:oneO P X K o.dst σ o.op) (hr:Rel X e σ a w) (hn:∀ σ' rd wr a' w',K σ' rd wr→Rel X e σ' a' w'→next a' w'):o.wp P a w next Q:=by
 unfold oneO at h
 cases ho:opn P (ev σ.fr) o.op with
 | none=>rw [ho] at h;exact one_wp h hr hn
 | some f=>
   rw [ho] at h
   have h2:dOk σ.N o.dst∧f fun v=>K ⟨putF σ.fr (.v v) o.dst,σ.hp,σ.nx,σ.fz,σ.N⟩ [] []:=h
   clear h
   obtain ⟨hd,h⟩:=h2
   have hev:∀ x,∃ g,holds g w (ev σ.fr x) (a.eval x):=fun x=>by
    obtain ⟨_,_,g,hf,_⟩:=hr
    exact ⟨g,Rel.ev hf x⟩
   unfold opn at ho
   split at ho
   ·rename_i T U x hop
    obtain ⟨g,hx⟩:=hev x
    unfold fvO at ho
    split at ho
    ·rename_i k n he
     cases ho
     rw [he] at hx
     have hx:a.eval x=.float k n:=hx
     obtain ⟨C,h1,h2⟩:=h
     obtain ⟨v,W',h3,h4,h5⟩:=h1 w
     have hr':Rel X e σ a W':=by rcases h4 with rfl | rfl;exact hr;exact hr.drew
     exact put_wp hr' hd (by simp only [execOp,hop,hx,Sem.run_bind,h3,Result.andThen_ok,Sem.run_pure]) (h2 v h5) hn
    ·cases ho
   ·rename_i op T x y U hop
    obtain ⟨g,hx⟩:=hev x
    obtain ⟨g',hy⟩:=hev y
    have key:∀ n k cs,ev σ.fr x=.sl n k cs→ev σ.fr y=.v (.slice none 0 0)→(elT (P.underlying T)).isSome=true→∃ b:Bool,(cs.length≠0→b=false)∧(Op.equal T (a.eval x) (a.eval y)).run P w=.ok b w∧a.eval y=.slice none 0 0∧∃ ad n c,a.eval x=.slice ad n c:=fun n k cs e1 e2 hT=>by
     rw [e1] at hx
     rw [e2] at hy
     have hy:a.eval y=.slice none 0 0:=hy
     obtain ⟨ad,c,e3,_,_,hc⟩:=hx
     obtain ⟨t,ht⟩:∃ t,P.underlying T=some (.slice t):=by
      cases hu:P.underlying T with
      | none=>rw [hu] at hT;cases hT
      | some d=>rw [hu] at hT;cases d <;> first | exact ⟨_,rfl⟩ | cases hT
     refine ⟨ad.isNone,fun hne=>?_,by rw [e3,hy];exact run_equal_nil ht _ _ _ _,hy,ad,n,c,e3⟩
     rcases hc with hc | ⟨b,off,rfl,_⟩
     ·exact absurd hc hne
     ·rfl
    unfold nlO at ho
    split at ho
    ·rename_i n k cs e1 e2
     cases ho
     obtain ⟨b,h1,h2,h3,ad,n',c',h4⟩:=key n k cs e1 e2 h.1
     rw [h3,h4] at h2
     exact put_wp hr hd (by simp [execOp,hop,h3,h4,eqGuard,binOp,h2]) (h.2 b h1) hn
    ·rename_i n k cs e1 e2
     cases ho
     obtain ⟨b,h1,h2,h3,ad,n',c',h4⟩:=key n k cs e1 e2 h.1
     rw [h3,h4] at h2
     exact put_wp hr hd (by simp [execOp,hop,h3,h4,eqGuard,binOp,h2]) (h.2 (!b) fun hne=>by rw [h1 hne];rfl) hn
    ·cases ho
   ·cases ho
theorem gst_elim {b:Bool} {T E:Prop} {ops:Array Oper} {j:Nat} {o:Oper} {g:Cx} {w:World} {fr:List (Nat × SV)} {a:Act} (ho:o.guard=some (j,b)) (hf:∀ d,holds g w (look fr d) (a.tmps.getD d undef)) (h:gst b T E (gsv fr ((ops[j]?).bind (·.dst)))):
 (Region.wanted o (yielded ops a.tmps)=true∧T)∨(Region.wanted o (yielded ops a.tmps)=false∧E):=by
 have hw:Region.wanted o (yielded ops a.tmps)=(yielded ops a.tmps j==some b):=by simp [Region.wanted,ho]
 rw [hw]
 unfold yielded
 cases hj:(ops[j]?).bind (·.dst) with
 | none=>
   rw [hj] at h
   right
   exact ⟨by simp,h⟩
 | some d=>
   rw [hj] at h
   have h1:=hf d
   rw [Array.getD_eq_getD_getElem?] at h1
   simp only [gsv] at h
   simp only [Option.bind_some]
   generalize look fr d=s at h h1
   have key:∀ v,holds g w s v→((∃ c,v=.bool c∧(c=b→T)∧(c= !b→E))∨((∀ c,v≠.bool c)∧E)):=fun v hv=>by
    unfold gst at h
    split at h
    ·rename_i c;have hv:v=.bool c:=hv;exact .inl ⟨c,hv,h⟩
    ·rename_i vs;have hv:v=.tuple vs:=hv;subst hv;exact .inr ⟨fun c hc=>(by cases hc),h⟩
    ·exact h.elim
   cases htd:a.tmps[d]? with
   | none=>
     rw [htd] at h1
     rcases key _ h1 with ⟨c,hc,_⟩ | ⟨_,h2⟩
     ·cases hc
     ·exact .inr ⟨rfl,h2⟩
   | some v=>
     rw [htd] at h1
     rcases key v h1 with ⟨c,rfl,h2,h3⟩ | ⟨h2,h3⟩
     ·by_cases hc:c=b
      ·subst hc;exact .inl ⟨by simp,h2 rfl⟩
      ·have hc2:c= !b:=by cases c <;> cases b <;> simp_all
       exact .inr ⟨by simp [hc],h3 hc2⟩
     ·refine .inr ⟨?_,h3⟩
      cases v <;> first | rfl | exact absurd rfl (h2 _)
theorem chain_wp {ops:Array Oper} {K:AS→Prop} {Q:Exit→Act→World→Prop} (hq:∀ σ a w,K σ→Rel X e σ a w→Q .normal a w):∀ (os:List Oper) (σ:AS) (rd wr:List Nat) (a:Act) (w:World),chain P X ops K os σ rd wr→Rel X e σ a w→wpList P ops Q os a w
 | [],σ,_,_,a,w,h,hr=>hq σ a w h hr
 | o :: os,σ,_,_,a,w,h,hr=>by
   have ih:=chain_wp (ops:=ops) (Q:=Q) hq os
   unfold chain at h
   unfold wpList
   cases hg:o.guard with
   | none=>
     rw [hg] at h
     rw [if_pos (by simp [Region.wanted,hg])]
     exact .inl (oneO_wp h hr fun σ' rd wr a' w' hK hr'=>ih σ' rd wr a' w' hK hr')
   | some jb=>
     obtain ⟨j,b⟩:=jb
     rw [hg] at h
     have hr2:=hr
     obtain ⟨hd,hs,g,hf,hI⟩:=hr
     rcases gst_elim hg hf h with ⟨hw,h⟩ | ⟨hw,h⟩
     ·rw [if_pos hw]
      exact .inl (oneO_wp h hr2 fun σ' rd wr a' w' hK hr'=>ih σ' rd wr a' w' hK hr')
     ·rw [if_neg (by simp [hw])]
      have hput:=put_rel hf hs h.1 (show holds g w (.v undef) undef from rfl)
      exact ih _ _ _ _ _ h.2 ⟨hput.1.trans hd,hput.2.1,g,hput.2.2,hI⟩
def Th (next:AS→Prop) (Q:Exit→AS→Prop):Exit→AS→Prop
 | .normal,σ=>next σ
 | .exit i,σ=>Q (.exit i) σ
 | .goto i,σ=>Q (.goto i) σ
 | .ret,σ=>Q .ret σ
 | .panic c,σ=>Q (.panic c) σ
 | .outgrown,σ=>Q .outgrown σ
def InB (id:Nat) (Q:Exit→AS→Prop):Exit→AS→Prop
 | .exit i,σ=>if i=id then Q .normal σ else Q (.exit i) σ
 | .normal,σ=>Q .normal σ
 | .goto i,σ=>Q (.goto i) σ
 | .ret,σ=>Q .ret σ
 | .panic c,σ=>Q (.panic c) σ
 | .outgrown,σ=>Q .outgrown σ
def cnd (T E:AS→Prop) (σ:AS):SV→Prop
 | .v (.bool b)=>(b=true→T σ)∧(b=false→E σ)
 | _=>False
def AW (P:Program) (X:Ev) (e:En) (c:Code) (Q:Exit→AS→Prop) (σ:AS):Prop:=
 ∀ a w,Rel X e σ a w→c.wp P (fun x a w=>∃ σ',Q x σ'∧Rel X e σ' a w) a w
def rgn (P:Program) (X:Ev) (e:En) (id:Nat) (ops:Array Oper) (K:AS→Prop) (σ:AS) (Q:Exit→AS→Prop):Bool→Prop
 | false=>chain P X ops K ops.toList σ [] []
 | true=>AW P X e (.region id ops true) Q σ
def aw (P:Program) (X:Ev) (e:En):Code→(Exit→AS→Prop)→AS→Prop
 | .skip,Q,σ=>Q .normal σ
 | .region id ops d,Q,σ=>rgn P X e id ops (Q .normal) σ Q d
 | .seq a b,Q,σ=>aw P X e a (Th (aw P X e b Q) Q) σ
 | .cond c t f,Q,σ=>cnd (aw P X e t Q) (aw P X e f Q) σ (ev σ.fr c)
 | .block id b,Q,σ=>aw P X e b (InB id Q) σ
 | .loop b,Q,σ=>AW P X e (.loop b) Q σ
 | .exit id,Q,σ=>Q (.exit id) σ
 | .ret,Q,σ=>Q .ret σ
 | _,_,_=>False
theorem AW.mono {c:Code} {Q Q':Exit→AS→Prop} {σ:AS} (h:AW P X e c Q σ) (hq:∀ x σ,Q x σ→Q' x σ):AW P X e c Q' σ:=
 fun a w hr=>wp_mono (h a w hr) fun _ _ _ ⟨σ',h1,h2⟩=>⟨σ',hq _ _ h1,h2⟩
theorem aw_sound:∀ (c:Code) (Q:Exit→AS→Prop) (σ:AS),aw P X e c Q σ→AW P X e c Q σ
 | .skip,Q,σ,h=>fun a w hr=>wp_skip ⟨σ,h,hr⟩
 | .region id ops true,Q,σ,h=>h
 | .region id ops false,Q,σ,h=>fun a w hr=>wp_region_list (chain_wp (K:=Q .normal) (fun σ a w hK hr=>⟨σ,hK,hr⟩) ops.toList σ [] [] a w h hr)
 | .seq x y,Q,σ,h=>fun a w hr=>by
   have h1:=aw_sound x _ σ h a w hr
   refine wp_seq (wp_mono h1 fun en a w ⟨σ',hq,hr'⟩=>?_)
   cases en with
   | normal=>exact aw_sound y Q σ' hq a w hr'
   | _=>exact ⟨σ',hq,hr'⟩
 | .cond c t f,Q,σ,h=>fun a w hr=>by
   have h0:=hr
   obtain ⟨hd,hs,g,hf,hI⟩:=hr
   have hc:=Rel.ev hf c
   have h:cnd (aw P X e t Q) (aw P X e f Q) σ (ev σ.fr c):=h
   generalize ev σ.fr c=s at h hc
   unfold cnd at h
   split at h
   ·rename_i b
    have hc:a.eval c=.bool b:=hc
    exact wp_cond_split hc (fun hb=>aw_sound t Q σ (h.1 hb) a w h0) (fun hb=>aw_sound f Q σ (h.2 hb) a w h0)
   ·exact h.elim
 | .block id b,Q,σ,h=>fun a w hr=>by
   refine wp_block (wp_mono (aw_sound b _ σ h a w hr) fun en a w ⟨σ',hq,hr'⟩=>?_)
   cases en with
   | exit i=>
     simp only [InB,Exit.inBlock] at hq ⊢
     by_cases hi:i=id
     ·simp only [hi,if_true] at hq ⊢;exact ⟨σ',hq,hr'⟩
     ·simp only [hi,if_false] at hq ⊢;exact ⟨σ',hq,hr'⟩
   | _=>exact ⟨σ',hq,hr'⟩
 | .loop b,Q,σ,h=>h
 | .exit id,Q,σ,h=>fun a w hr=>wp_exit ⟨σ,h,hr⟩
 | .ret,Q,σ,h=>fun a w hr=>wp_ret ⟨σ,h,hr⟩
 | .rangeFunc ..,_,_,h=>h.elim
 | .scope _,_,_,h=>h.elim
 | .label _,_,_,h=>h.elim
 | .goto _,_,_,h=>h.elim
 | .refuse _,_,_,h=>h.elim
theorem least_ex {p:Nat→Prop} (h:∃ n,p n):∃ n,p n∧∀ m,p m→n≤m:=by
 obtain ⟨n,hn⟩:=h
 induction n using Nat.strongRecOn with
 | _ n ih=>
   by_cases hm:∃ m,m < n∧p m
   ·obtain ⟨m,hlt,hp⟩:=hm
    exact ih m hlt hp
   ·exact ⟨n,hn,fun m hp=>Nat.le_of_not_lt fun hlt=>hm ⟨m,hlt,hp⟩⟩
theorem AW.loop {α:Type} (I:α→AS) (μ:α→Nat) {b:Code} {Q:Exit→AS→Prop} {σ:AS} (x0:α) (h0:∀ a w,Rel X e σ a w→Rel X e (I x0) a w) (hr:∀ x,AW P X e b (Th (fun τ=>∃ y,μ y < μ x∧∀ a w,Rel X e τ a w→Rel X e (I y) a w) Q) (I x)):AW P X e (.loop b) Q σ:=fun a w hrel=>by
 classical
 let p:Act→World→Nat→Prop:=fun a w n=>∃ x,μ x=n∧Rel X e (I x) a w
 let ν:Act→World→Nat:=fun a w=>if h:∃ n,p a w n then (least_ex h).choose else 0
 refine wp_loop (fun a w=>∃ x,Rel X e (I x) a w) ν ⟨x0,h0 a w hrel⟩ fun a w hx=>?_
 obtain ⟨x,hx⟩:=hx
 have hex:∃ n,p a w n:=⟨_,x,rfl,hx⟩
 have hs:=(least_ex hex).choose_spec
 have hν:ν a w=(least_ex hex).choose:=by simp only [ν,dif_pos hex]
 obtain ⟨⟨x1,e1,hx1⟩,hmin⟩:=hs
 refine wp_mono (hr x1 a w hx1) fun en a' w' ⟨σ',hq,hr'⟩=>?_
 cases en with
 | normal=>
   obtain ⟨y,hlt,hy⟩:=hq
   have hy:=hy a' w' hr'
   refine ⟨⟨y,hy⟩,?_⟩
   have hex':∃ n,p a' w' n:=⟨_,y,rfl,hy⟩
   have h2:=(least_ex hex').choose_spec.2 (μ y) ⟨y,rfl,hy⟩
   have hν':ν a' w'=(least_ex hex').choose:=by simp only [ν,dif_pos hex']
   rw [hν,hν']
   omega
 | _=>exact ⟨σ',hq,hr'⟩
end
end Am
end Go.Proofs.YtkgbjoepjcenlaaDoor
namespace Go.Proofs.YtkgbjoepjcenlaaDoor
namespace Am
def retH (hp:List (Nat × Row)) (s:Nat):Option Row:=if s < 1000 then lookR hp s else none
def resS (P:Program) (σ:AS):ResultVar→Prop × SV
 | .tmp t=>(True,look σ.fr t)
 | .cell a T=>((ldV (agT P T) (szT P T) (lookR σ.hp) σ.nx (look σ.fr a)).p,(ldV (agT P T) (szT P T) (lookR σ.hp) σ.nx (look σ.fr a)).r)
def retS:List SV→SV
 | [s]=>s
 | l=>.tup l
def lentC (hp:List (Nat × Row)):List Nat→Nat→Prop
 | [],_=>True
 | v :: l,i=>(lookR hp i).map (·.ver)=some v∧lentC hp l (i + 1)
def lentR (H:Nat→Option Row) (hp:List (Nat × Row)):List Nat→Nat→List Row
 | [],_=>[]
 | _ :: l,i=>lnR H (lookR hp i) :: lentR H hp l (i + 1)
def resP:List (Prop × SV)→Prop
 | []=>True
 | x :: l=>x.1∧resP l
def endK (C:SV→List Row→Prop) (vers:List Nat) (σ:AS) (rs:List (Prop × SV)):Prop:=
 resP rs∧lentC σ.hp vers 1000∧C (cv (retH σ.hp) 6 (retS (rs.map (·.2)))) (lentR (retH σ.hp) σ.hp vers 1000)
def retX (hp:List (Nat × Row)) (s0 s:Nat):Option Row:=if s=s0 then none else retH hp s
def out1 (H:Nat→Option Row) (s0 v0:Nat):SV→SV
 | .own t v n k=>if t=s0∧v=v0 then .own 2000 0 n k else cv H 6 (.own t v n k)
 | .ptr t v o=>if t=s0∧v=v0 then .ptr 2000 0 o else cv H 6 (.ptr t v o)
 | x=>cv H 6 x
def outS (H:Nat→Option Row) (s0 v0:Nat):SV→SV
 | .tup cs=>.tup (cs.map (out1 H s0 v0))
 | x=>out1 H s0 v0 x
def outC (C:SV→List Row→Prop) (H:Nat→Option Row) (s0:Nat) (r:SV) (rows:List Row):Option Row→Prop
 | some q=>C (outS H s0 q.ver r) (rows ++ [⟨0,q.T,q.k,q.cs.map (cv H 6)⟩])
 | none=>False
def endO (C:SV→List Row→Prop) (vers:List Nat) (s0:Nat) (σ:AS) (rs:List (Prop × SV)):Prop:=
 resP rs∧lentC σ.hp vers 1000∧σ.fz.contains s0=false∧outC C (retX σ.hp s0) s0 (retS (rs.map (·.2))) (lentR (retX σ.hp s0) σ.hp vers 1000) (if s0 < 1000 then lookR σ.hp s0 else none)
def endA (C:SV→List Row→Prop) (vers:List Nat) (σ:AS) (rs:List (Prop × SV)):Option Nat→Prop
 | none=>endK C vers σ rs
 | some s0=>endO C vers s0 σ rs
def oS1:SV→Option Nat
 | .own s _ _ _ | .ptr s _ _=>if s < 1000 then some s else none
 | _=>none
def oS (oo:Bool) (r:SV):Option Nat:=match oo,r with
 | false,_=>none
 | true,.tup cs=>cs.findSome? oS1
 | true,r=>oS1 r
def fin (P:Program) (res:List ResultVar) (C:SV→List Row→Prop) (vers:List Nat) (oo:Bool):Exit→AS→Prop
 | .normal,σ=>endA C vers σ (res.map (resS P σ)) (oS oo (retS ((res.map (resS P σ)).map (·.2))))
 | .ret,σ=>endA C vers σ (res.map (resS P σ)) (oS oo (retS ((res.map (resS P σ)).map (·.2))))
 | _,_=>False
def num {α:Type}:Nat→List α→List (Nat × α)
 | _,[]=>[]
 | i,x :: l=>(i,x) :: num (i + 1) l
section
variable {P:Program} {X:Ev} {e:En} {g:Cx} {w:World}
theorem look_num:∀ (l:List SV) (i d:Nat),look (num i l) d=if i≤d then l.getD (d - i) .any else .any
 | [],i,d=>by simp [num,look]
 | s :: l,i,d=>by
   simp only [num,look,look_num l (i + 1) d]
   by_cases h:i=d
   ·subst h;simp
   ·rw [if_neg h]
    by_cases h2:i + 1≤d
    ·rw [if_pos h2,if_pos (by omega),show d - i=(d - (i + 1)) + 1 by omega];rfl
    ·rw [if_neg h2,if_neg (by omega)]
theorem lookR_num:∀ (l:List Row) (i d:Nat) (r:Row),lookR (num i l) d=some r→i≤d∧l[d - i]?=some r
 | [],i,d,r,h=>by cases h
 | s :: l,i,d,r,h=>by
   simp only [num,lookR] at h
   by_cases hi:i=d
   ·subst hi;simp at h;subst h;simp
   ·rw [if_neg hi] at h
    have:=lookR_num l (i + 1) d r h
    refine ⟨by omega,?_⟩
    rw [show d - i=(d - (i + 1)) + 1 by omega]
    simpa using this.2
theorem run_load_of {T:TypeId} {ad:Addr} {v:Value} {w':World} {x:Operand} {ρ:Operand→Value} {dst:Option Tmp} {ty:TypeId} {pos:String} {af:Array Edge} {gd:Option (Nat × Bool)} (hx:ρ x=.pointer (some ad)) (h:(execOp ρ ⟨dst,.load T x,ty,pos,af,gd⟩).run P w=.ok (.value v) w'):(loadVar T ad).run P w=.ok v w':=by
 simp only [execOp,Instr.loadAt,hx,Instr.sureAddr,Sem.run_bind,Sem.run_pure,Result.andThen_ok] at h
 cases hl:(loadVar T ad).run P w with
 | ok u u'=>rw [hl] at h;simp at h;rw [h.1,h.2]
 | halt u u'=>rw [hl] at h;cases h
def rvRun (tmps:Array Value):ResultVar→Sem Value
 | .tmp t=>pure (tmps.getD t undef)
 | .cell b t=>do loadVar t (← asAddr (tmps.getD b undef))
theorem results_eq (fn:Func) (tmps:Array Value):results fn tmps=(do
 let vs ← fn.results.mapM (rvRun tmps)
 pure (if h:vs.size=1 then vs[0] else .tuple vs)):=by
 unfold results
 congr 1
theorem run_res {σ:AS} {a:Act} (hf:∀ d,holds g w (look σ.fr d) (a.tmps.getD d undef)) (hI:Inv X e g w (lookR σ.hp) (· < σ.nx) σ.fz) (rv:ResultVar) (hp:(resS P σ rv).1):
 ∃ v,(rvRun a.tmps rv).run P w=.ok v w∧holds g w (resS P σ rv).2 v:=by
 cases rv with
 | tmp t=>exact ⟨_,rfl,hf t⟩
 | cell b T=>
   have hp:(ldV (agT P T) (szT P T) (lookR σ.hp) σ.nx (look σ.fr b)).p:=hp
   have h:=q_ld (P:=P) (o:=⟨none,.load T (.const (a.tmps.getD b undef)),0, "",#[],none⟩) (ρ:=a.eval) rfl (hf b) (fun u _ r hr=>hI.row u r hr) hp
   obtain ⟨v,h1,h2⟩:=h
   have hptr:∃ ad,a.tmps.getD b undef=.pointer (some ad):=by
    have h3:=hf b
    revert hp h3
    cases look σ.fr b with
    | ptr s v o=>intro _ h3;exact ⟨_,h3.2⟩
    | rp cs=>intro _ h3;obtain ⟨b',o,e,_⟩:=h3;exact ⟨_,e⟩
    | _=>intro hp _;exact hp.elim
   obtain ⟨ad,had⟩:=hptr
   have h4:=run_load_of (x:=.const (a.tmps.getD b undef)) (ρ:=a.eval) had h1
   refine ⟨v,?_,h2⟩
   simp only [rvRun,had,asAddr,Sem.run_bind,Sem.run_pure,Result.andThen_ok,h4]
theorem run_ress {σ:AS} {a:Act} (hf:∀ d,holds g w (look σ.fr d) (a.tmps.getD d undef)) (hI:Inv X e g w (lookR σ.hp) (· < σ.nx) σ.fz):∀ (l:List ResultVar),resP (l.map (resS P σ))→
 ∃ vs:List Value,(l.mapM (rvRun a.tmps)).run P w=.ok vs w∧agL g w ((l.map (resS P σ)).map (·.2)) vs
 | [],_=>⟨[],by simp,trivial⟩
 | rv :: l,h=>by
   obtain ⟨v,h1,h2⟩:=run_res hf hI rv h.1
   obtain ⟨vs,h3,h4⟩:=run_ress hf hI l h.2
   refine ⟨v :: vs,?_,h2,h4⟩
   rw [List.mapM_cons]
   simp only [Sem.run_bind,h1,h3,Result.andThen_ok,Sem.run_pure]
theorem run_results {fn:Func} {σ:AS} {a:Act} (hf:∀ d,holds g w (look σ.fr d) (a.tmps.getD d undef)) (hI:Inv X e g w (lookR σ.hp) (· < σ.nx) σ.fz) (hp:resP (fn.results.toList.map (resS P σ))):
 ∃ v,(results fn a.tmps).run P w=.ok v w∧holds g w (retS ((fn.results.toList.map (resS P σ)).map (·.2))) v:=by
 obtain ⟨vs,h1,h2⟩:=run_ress hf hI fn.results.toList hp
 have hm:(fn.results.mapM (rvRun a.tmps)).run P w=.ok vs.toArray w:=by
  rw [Array.mapM_eq_mapM_toList]
  show Sem.run P (List.toArray <$> _) w=_
  rw [map_eq_pure_bind,Sem.run_bind,h1]
  rfl
 rw [results_eq,Sem.run_bind,hm]
 simp only [Result.andThen_ok,Sem.run_pure]
 generalize (fn.results.toList.map (resS P σ)).map (·.2)=ss at h2
 match ss,vs,h2 with
 | [],[],h=>exact ⟨_,rfl,[],rfl,trivial⟩
 | [s],[v],h=>exact ⟨_,rfl,h.1⟩
 | s :: t :: l,v :: u :: vs,h=>exact ⟨_,by simp,_,rfl,h⟩
theorem lentC.get {hp:List (Nat × Row)} {H:Nat→Option Row}:∀ {vers:List Nat} {i:Nat},lentC hp vers i→∀ (j v:Nat),vers[j]?=some v→∃ r,lookR hp (i + j)=some r∧r.ver=v∧(lentR H hp vers i)[j]?=some (lnR H (some r))
 | x :: l,i,h,0,v,e=>by
   simp at e;subst e
   obtain ⟨r,hr,hv⟩:=Option.map_eq_some_iff.1 h.1
   exact ⟨r,hr,hv,by simp [lentR,hr]⟩
 | x :: l,i,h,j + 1,v,e=>by
   obtain ⟨r,h1,h2,h3⟩:=lentC.get h.2 j v (by simpa using e)
   exact ⟨r,by rw [show i + (j + 1)=i + 1 + j by omega];exact h1,h2,by simpa [lentR] using h3⟩
 | [],_,_,_,_,e=>by simp at e
theorem lentR.vers {hp:List (Nat × Row)} {H:Nat→Option Row}:∀ {vers:List Nat} {i:Nat},lentC hp vers i→(lentR H hp vers i).map (·.ver)=vers
 | [],_,_=>rfl
 | x :: l,i,h=>by
   obtain ⟨r,hr,hv⟩:=Option.map_eq_some_iff.1 h.1
   simp only [lentR,List.map_cons,lentR.vers h.2,hr,lnR,hv]
theorem lentR.mem {hp:List (Nat × Row)} {H:Nat→Option Row}:∀ {vers:List Nat} {i:Nat},lentC hp vers i→∀ q ∈ lentR H hp vers i,∃ s r,1000≤i→1000≤s∧lookR hp s=some r∧q=lnR H (some r)
 | x :: l,i,h,q,hq=>by
   obtain ⟨r,hr,hv⟩:=Option.map_eq_some_iff.1 h.1
   simp only [lentR,List.mem_cons] at hq
   rcases hq with rfl | hq
   ·exact ⟨i,r,fun hi=>⟨hi,hr,by rw [hr]⟩⟩
   ·obtain ⟨s,r,h⟩:=lentR.mem h.2 q hq
    exact ⟨s,r,fun hi=>h (by omega)⟩
 | [],_,_,_,hq=>by simp [lentR] at hq
def sites:Nat→List SV→List SV
 | n,.ptr _ v o :: l=>.ptr n v o :: sites (n + 1) l
 | n,x :: l=>x :: sites n l
 | _,[]=>[]
theorem agL.sites:∀ {args:List SV} {vals:List Value} (n:Nat),agL g w args vals→agL g w (sites n args) vals
 | [],[],_,_=>trivial
 | x :: l,v :: vs,n,h=>by
   cases x with
   | ptr s u o=>exact ⟨h.1,agL.sites (n + 1) h.2⟩
   | _=>exact ⟨h.1,agL.sites n h.2⟩
 | [],_ :: _,_,h=>h.elim
 | _ :: _,[],_,h=>h.elim
theorem ren1_cv {H:Nat→Option Row} {n d u:Nat}:∀ (s:SV),ren1 d u (cv H n s)=cv H n s:=fun s=>by
 cases n with
 | zero=>rfl
 | succ n=>
   cases s with
   | own t v m k=>
     unfold cv
     cases H t with
     | none=>rfl
     | some r=>simp only;split <;> rfl
   | ptr t v o=>
     unfold cv
     cases H t with
     | none=>rfl
     | some r=>simp only;split <;> rfl
   | _=>rfl
theorem ren_cv {H:Nat→Option Row} {n d u:Nat}:∀ (s:SV),ren d u (cv H n s)=cv H n s:=fun s=>by
 cases n with
 | zero=>rfl
 | succ n=>
   cases s with
   | own t v m k=>
     unfold cv
     cases H t with
     | none=>rfl
     | some r=>simp only;split <;> rfl
   | ptr t v o=>
     unfold cv
     cases H t with
     | none=>rfl
     | some r=>simp only;split <;> rfl
   | tup cs=>
     show SV.tup ((cs.map (cv H n)).map (ren1 d u))=SV.tup (cs.map (cv H n))
     rw [List.map_map]
     congr 1
     exact List.map_congr_left fun x _=>ren1_cv x
   | _=>rfl
theorem rnR_id {nx:Nat}:∀ {L:List Nat} {rows:List Row},rows.length=L.length→rnR nx L rows=rows
 | [],[],_=>rfl
 | [],_ :: _,h=>by simp at h
 | _ :: _,[],h=>by simp at h
 | _ :: L,r :: rs,h=>by simp only [rnR];rw [rnR_id (by simpa using h)]
theorem rnR_app {nx:Nat} {p q:Row}:∀ {L:List Nat} {rows:List Row},rows.length=L.length→q ∈ rnR nx L (rows ++ [p])→q ∈ rows∨q=⟨nx,p.T,p.k,p.cs⟩
 | [],[],_,h=>by simp [rnR] at h;exact .inr h
 | [],_ :: _,h,_=>by simp at h
 | _ :: _,[],h,_=>by simp at h
 | _ :: L,r :: rs,h,hq=>by
   simp only [List.cons_append,rnR,List.mem_cons] at hq
   rcases hq with rfl | hq
   ·exact .inl (List.mem_cons_self ..)
   ·exact (rnR_app (by simpa using h) hq).imp (List.mem_cons_of_mem _) id
theorem AC.bodyA (ob:Bool) {f:FuncId} {fn:Func} {c:Code} {args:List SV} {rows:List Row} {C:SV→List Row→Prop} {N:Nat} (hf:P.funcs[f]?=some fn) (hb:fn.body=some c) (hgo:∀ vals w,(callFunc f vals).run P w=.ok (.enter f vals) w) (hN:fn.ntmps=N) (hlen:args.length≤N)
 (h:∀ (e:En) (nx:Nat),AW P X e c (fin P fn.results.toList C (rows.map (·.ver)) ob) ⟨num 0 (Am.sites 1000 args),num 1000 rows,nx,[],N⟩):AC P X f args rows C:=⟨fun g w vals nx hE hz hv hblk ha hrows hap=>.inl ⟨hgo _ _,by
 let e:En:=⟨w,g,rows.map (·.ver)⟩
 have hl:=ha.len
 refine calls_of_wp hf hb ?_
 have hrel:Rel X e ⟨num 0 (Am.sites 1000 args),num 1000 rows,nx,[],N⟩ { tmps:=vals.toArray ++ Array.replicate (fn.ntmps - vals.toArray.size) undef,defers:=[] } w:=by
  refine ⟨rfl,by simp;omega,g,fun d=>?_,⟨.refl g,fun s r hs=>?_,fun s t r q hs ht hst=>?_,fun s r hs _ hk=>?_,fun s r hs hk=>?_,hv,hblk,hz,fun b hb=>.inl hb,fun b _ _=>rfl,Nat.le_refl _,⟨rfl,rfl,rfl⟩,hE,fun b hb=>X.lt w b hE hb,fun u hu hk=>?_⟩⟩
  ·show holds g w (look (num 0 (Am.sites 1000 args)) d) _
   have h0:=ha.sites 1000
   generalize Am.sites 1000 args=args0 at h0 ⊢
   rw [look_num,if_pos (Nat.zero_le _),Nat.sub_zero]
   rcases Nat.lt_or_ge d args0.length with hd | hd
   ·obtain ⟨v,hv1,hv2⟩:=h0.get d args0[d] (List.getElem?_eq_getElem hd)
    have hvl:d < vals.length:=(List.getElem?_eq_some_iff.1 hv1).1
    have e1:args0.getD d .any=args0[d]:=by simp [List.getD_eq_getElem?_getD,hd]
    have e2:(vals.toArray ++ Array.replicate (fn.ntmps - vals.toArray.size) undef).getD d undef=v:=by
     rw [Array.getD_eq_getD_getElem?,Array.getElem?_append_left (by simpa using hvl)]
     simp [hv1]
    rw [e1,e2];exact hv2
   ·have e1:args0.getD d .any=.any:=by simp [List.getD_eq_getElem?_getD,hd]
    rw [e1];trivial
  ·exact (hrows r (List.mem_of_getElem? (lookR_num rows 1000 s r hs).2)).1
  ·have h1:=lookR_num rows 1000 s r hs
   have h2:=lookR_num rows 1000 t q ht
   exact hap _ _ r q h1.2 h2.2 (by omega)
  ·exact ((hrows r (List.mem_of_getElem? (lookR_num rows 1000 s r hs).2)).2 hk).1
  ·have h1:=lookR_num rows 1000 s r hs
   exact .inr ⟨h1.1,r.ver,List.mem_map.2 ⟨r,List.mem_of_getElem? h1.2,rfl⟩,rfl,hk⟩
  ·obtain ⟨r,hr,rfl⟩:=List.mem_map.1 hu
   exact ((hrows r hr).2 hk).2
 have hlentrow:∀ (G:Cx) (w':World) (σ':AS) (g':Cx) (H:Nat→Option Row),Inv X e g' w' (lookR σ'.hp) (· < σ'.nx) σ'.fz→lentC σ'.hp (rows.map (·.ver)) 1000→(∀ s v,holds g' w' s v→holds G w' (cv H 6 s) v)→(∀ u,g.A u→G.A u∧G.mu u=g.mu u∧G.ka u=g.ka u)→∀ q ∈ lentR H σ'.hp (rows.map (·.ver)) 1000,rowIn G w' q:=fun G w' σ' g' H hI k2 hcv hG q hq=>by
  obtain ⟨s,r,hsr⟩:=lentR.mem k2 q hq
  obtain ⟨_,hs,rfl⟩:=hsr (Nat.le_refl _)
  obtain ⟨i,hi⟩:=List.mem_iff_getElem?.1 hq
  have hver:=congrArg (fun l=>l[i]?) (lentR.vers (H:=H) k2)
  simp only [List.getElem?_map,hi,Option.map_some] at hver
  have hold:g.A r.ver:=by
   cases hr0:rows[i]? with
   | none=>rw [hr0] at hver;cases hver
   | some r0=>
     rw [hr0] at hver
     simp only [Option.map_some,Option.some.injEq,lnR] at hver
     rw [hver]
     exact (hrows r0 (List.mem_of_getElem? hr0)).1.1
  have hsame:=(hI.le.a r.ver hold).2
  have hGv:=hG r.ver hold
  obtain ⟨_,hrw⟩:=hI.row s r hs
  refine ⟨hGv.1,?_⟩
  have hka:g'.ka r.ver=G.ka r.ver:=by rw [hGv.2.2];exact hsame.2
  have hmu:g'.mu r.ver=G.mu r.ver:=by rw [hGv.2.1];exact hsame.1
  rw [hka,hmu] at hrw
  refine hrw.imp (fun h0=>⟨h0.1,by show r.cs.map _=[];rw [h0.2];rfl⟩) fun ⟨arr,a1,a2,a3,a4⟩=>⟨arr,a1,a2,by simpa [lnR] using a3,?_⟩
  show agL _ w' (r.cs.map _) (arr.toList.take (r.cs.map _).length)
  rw [List.length_map]
  exact a4.map hcv
 have hvers:∀ (σ':AS) (H:Nat→Option Row),lentC σ'.hp (rows.map (·.ver)) 1000→(lentR H σ'.hp (rows.map (·.ver)) 1000).length=rows.length∧∀ (i:Nat) (r q:Row),rows[i]?=some r→(lentR H σ'.hp (rows.map (·.ver)) 1000)[i]?=some q→q.ver=r.ver:=fun σ' H k2=>by
  have h0:=lentR.vers (H:=H) k2
  refine ⟨by simpa using congrArg List.length h0,fun i r q hr hq=>?_⟩
  have:=congrArg (fun l=>l[i]?) h0
  simp only [List.getElem?_map,hr,hq,Option.map_some,Option.some.injEq] at this
  exact this
 have hend:∀ (oo:Option Nat) (a':Act) (w':World) (σ':AS),endA C (rows.map (·.ver)) σ' (fn.results.toList.map (resS P σ')) oo→Rel X e σ' a' w'→a'.defers=[]∧∃ v,(results fn a'.tmps).run P w'=.ok v w'∧∃ (v':Value) (r:SV) (rows':List Row) (g':Cx),Ending.returned v=.returned v'∧C r rows'∧holds g' w' (ren 0 nx r) v'∧g.le g'∧(∀ b,g'.Z b→g.Z b∨(w.heap.size≤b∧b < w'.heap.size))∧
  (rows'.length=rows.length∨rows'.length=rows.length + 1)∧(∀ (i:Nat) (r q:Row),rows[i]?=some r→rows'[i]?=some q→q.ver=r.ver)∧(∀ q ∈ rnR nx (rows.map (·.ver)) rows',rowIn g' w' q)∧(∀ u,g'.A u→g.A u∨(rows'.length=rows.length + 1∧u=nx∧(g'.ka nx≠0→w.heap.size≤g'.mu nx∧g'.mu nx < w'.heap.size∧¬ g'.Z (g'.mu nx))))∧w.heap.size≤w'.heap.size∧(∀ b,b < w.heap.size→(∀ r ∈ rows,g.ka r.ver≠0→b≠g.mu r.ver)→w'.heap[b]?=w.heap[b]?)∧(w'.os=w.os∧w'.tape=w.tape∧w'.output=w.output)∧X.E w':=fun oo a' w' σ' hK hR=>by
  have hkeep:∀ (g':Cx),Inv X e g' w' (lookR σ'.hp) (· < σ'.nx) σ'.fz→∀ b,b < w.heap.size→(∀ r ∈ rows,g.ka r.ver≠0→b≠g.mu r.ver)→w'.heap[b]?=w.heap[b]?:=fun g' hI b hb hl=>hI.keep b hb fun u hu hk=>by
   obtain ⟨r,hr,rfl⟩:=List.mem_map.1 hu
   exact hl r hr hk
  obtain ⟨hd,hs,g',hf',hI⟩:=hR
  cases oo with
  | none=>
    obtain ⟨k1,k2,k3⟩:=hK
    obtain ⟨v,hv1,hv2⟩:=run_results hf' hI k1
    let Z':Nat→Prop:=fun b=>g.Z b∨(w.heap.size≤b∧b < w'.heap.size)
    have hzz:∀ b,g'.Z b→Z' b:=fun b hb=>(hI.znew b hb).imp id fun hb'=>⟨hb',hI.zlt b hb⟩
    have hrz:∀ s r,retH σ'.hp s=some r→rowIn g' w' r∧(g'.ka r.ver≠0→(⟨Z',g'.A,g'.mu,g'.ka⟩:Cx).Z (g'.mu r.ver)):=fun s r hs=>by
     unfold retH at hs
     split at hs
     ·rename_i hlt
      refine ⟨hI.row s r hs,fun hk=>?_⟩
      rcases hI.mine s r hs hk with hge | ⟨h10,_⟩
      ·exact .inr ⟨hge,hI.blk _ (hI.row s r hs).1 hk⟩
      ·omega
     ·cases hs
    have hcv0:=cv_holds (g:=g') (g':=⟨Z',g'.A,g'.mu,g'.ka⟩) hzz hrz 6
    have hle:(⟨Z',fun _=>False,g'.mu,g'.ka⟩:Cx).le ⟨Z',g.A,g.mu,g.ka⟩:=⟨fun _ h=>h,fun _ h=>h.elim⟩
    have hcv:∀ s v,holds g' w' s v→holds ⟨Z',g.A,g.mu,g.ka⟩ w' (cv (retH σ'.hp) 6 s) v:=fun s v h=>holds.mono hle (fun _ _=>rfl) _ _ (hcv0 s v h)
    obtain ⟨hv3,hv4⟩:=hvers σ' (retH σ'.hp) k2
    refine ⟨hd,v,hv1,v,_,_,⟨Z',g.A,g.mu,g.ka⟩,rfl,k3,?_,⟨fun b hb=>.inl hb,fun u hu=>⟨hu,rfl,rfl⟩⟩,fun b hb=>hb,.inl hv3,hv4,fun q hq=>?_,fun u hu=>.inl hu,hI.size,hkeep g' hI,hI.io,hI.env⟩
    ·rw [ren_cv];exact hcv _ _ hv2
    ·rw [rnR_id (by simpa using hv3)] at hq
     exact hlentrow ⟨Z',g.A,g.mu,g.ka⟩ w' σ' g' _ hI k2 hcv (fun u hu=>⟨hu,rfl,rfl⟩) q hq
  | some s0=>
    obtain ⟨k1,k2,k4,k3⟩:=hK
    obtain ⟨v,hv1,hv2⟩:=run_results hf' hI k1
    by_cases hs0:s0 < 1000
    case neg=>rw [if_neg hs0] at k3;exact k3.elim
    rw [if_pos hs0] at k3
    cases hq0:lookR σ'.hp s0 with
    | none=>rw [hq0] at k3;exact k3.elim
    | some q0=>
    rw [hq0] at k3
    have k3:C (outS (retX σ'.hp s0) s0 q0.ver _) (_ ++ [⟨0,q0.T,q0.k,q0.cs.map (cv (retX σ'.hp s0) 6)⟩]):=k3
    let Z':Nat→Prop:=fun b=>(g.Z b∨(w.heap.size≤b∧b < w'.heap.size))∧¬ (g'.ka q0.ver≠0∧b=g'.mu q0.ver)
    have hzz:∀ b,g'.Z b→Z' b:=fun b hb=>⟨(hI.znew b hb).imp id fun hb'=>⟨hb',hI.zlt b hb⟩,fun ⟨c1,c2⟩=>hI.free s0 q0 hq0 k4 c1 (c2 ▸ hb)⟩
    have hrz:∀ s r,retX σ'.hp s0 s=some r→rowIn g' w' r∧(g'.ka r.ver≠0→(⟨Z',g'.A,g'.mu,g'.ka⟩:Cx).Z (g'.mu r.ver)):=fun s r hs=>by
     unfold retX at hs
     split at hs
     ·cases hs
     ·rename_i hne
      unfold retH at hs
      split at hs
      ·rename_i hlt
       refine ⟨hI.row s r hs,fun hk=>⟨?_,fun ⟨c1,c2⟩=>hI.apart s s0 r q0 hs hq0 hne hk c1 c2⟩⟩
       rcases hI.mine s r hs hk with hge | ⟨h10,_⟩
       ·exact .inr ⟨hge,hI.blk _ (hI.row s r hs).1 hk⟩
       ·omega
      ·cases hs
    have hcv0:=cv_holds (g:=g') (g':=⟨Z',g'.A,g'.mu,g'.ka⟩) hzz hrz 6
    let G:Cx:=⟨Z',fun u=>g.A u∨u=nx,fun u=>if u=nx then g'.mu q0.ver else g.mu u,fun u=>if u=nx then g'.ka q0.ver else g.ka u⟩
    have hle:(⟨Z',fun _=>False,g'.mu,g'.ka⟩:Cx).le G:=⟨fun _ h=>h,fun _ h=>h.elim⟩
    have hgG:∀ u,g.A u→G.A u∧G.mu u=g.mu u∧G.ka u=g.ka u:=fun u hu=>by
     have:u≠nx:=Nat.ne_of_lt (hv u hu)
     exact ⟨.inl hu,if_neg this,if_neg this⟩
    have hmuN:G.mu nx=g'.mu q0.ver:=if_pos rfl
    have hkaN:G.ka nx=g'.ka q0.ver:=if_pos rfl
    have hcv:∀ s v,holds g' w' s v→holds G w' (cv (retX σ'.hp s0) 6 s) v:=fun s v h=>holds.mono hle (fun _ _=>rfl) _ _ (hcv0 s v h)
    have hout:∀ s v,holds g' w' s v→holds G w' (ren 0 nx (out1 (retX σ'.hp s0) s0 q0.ver s)) v∧holds G w' (ren1 0 nx (out1 (retX σ'.hp s0) s0 q0.ver s)) v:=fun s v h=>by
     have hc:∀ s,holds g' w' s v→holds G w' (ren 0 nx (cv (retX σ'.hp s0) 6 s)) v∧holds G w' (ren1 0 nx (cv (retX σ'.hp s0) 6 s)) v:=fun s h=>by rw [ren_cv,ren1_cv];exact ⟨hcv _ _ h,hcv _ _ h⟩
     cases s with
     | own t ver n k=>
       rw [show out1 (retX σ'.hp s0) s0 q0.ver (.own t ver n k)=if t=s0∧ver=q0.ver then .own 2000 0 n k else cv (retX σ'.hp s0) 6 (.own t ver n k) from rfl]
       split
       ·rename_i hc'
        obtain ⟨h1,h2,h3⟩:=h
        rw [hc'.2] at h1 h2 h3
        have:holds G w' (.own 0 nx n k) v:=⟨.inr rfl,by rw [hkaN];exact h2,by rw [hkaN,hmuN];exact h3⟩
        exact ⟨this,this⟩
       ·exact hc _ h
     | ptr t ver o=>
       rw [show out1 (retX σ'.hp s0) s0 q0.ver (.ptr t ver o)=if t=s0∧ver=q0.ver then .ptr 2000 0 o else cv (retX σ'.hp s0) 6 (.ptr t ver o) from rfl]
       split
       ·rename_i hc'
        obtain ⟨h1,h2⟩:=h
        rw [hc'.2] at h1 h2
        have:holds G w' (.ptr 0 nx o) v:=⟨.inr rfl,by rw [hmuN];exact h2⟩
        exact ⟨this,this⟩
       ·exact hc _ h
     | _=>exact hc _ h
    have houts:∀ (cs:List SV) (vs:List Value),agL g' w' cs vs→agL G w' ((cs.map (out1 (retX σ'.hp s0) s0 q0.ver)).map (ren1 0 nx)) vs:=by
     intro cs
     induction cs with
     | nil=>intro vs h;cases vs with | nil=>trivial | cons _ _=>exact h
     | cons c cs ih=>
       intro vs h
       cases vs with
       | nil=>exact h
       | cons v vs=>exact ⟨(hout c v h.1).2,ih vs h.2⟩
    obtain ⟨hv3,hv4⟩:=hvers σ' (retX σ'.hp s0) k2
    refine ⟨hd,v,hv1,v,_,_,G,rfl,k3,?_,⟨fun b hb=>⟨.inl hb,fun ⟨c1,c2⟩=>?_⟩,hgG⟩,fun b hb=>hb.1,.inr (by simp [hv3]),fun i r q hr hq=>?_,fun q hq=>?_,fun u hu=>hu.imp id fun hu=>⟨by simp [hv3],hu,fun hk=>?_⟩,hI.size,hkeep g' hI,hI.io,hI.env⟩
    ·generalize retS ((fn.results.toList.map (resS P σ')).map (·.2))=rr at hv2
     cases rr with
     | tup cs=>obtain ⟨vs,e1,e2⟩:=hv2;exact ⟨vs,e1,houts cs vs e2⟩
     | _=>exact (hout _ _ hv2).1
    ·
     rcases hI.mine s0 q0 hq0 c1 with hge | ⟨h10,_⟩
     ·have:=hz b hb
      have hge:w.heap.size≤g'.mu q0.ver:=hge
      omega
     ·omega
    ·have hi:i < rows.length:=(List.getElem?_eq_some_iff.1 hr).1
     rw [List.getElem?_append_left (by omega)] at hq
     exact hv4 i r q hr hq
    ·rcases rnR_app (by simpa using hv3) hq with hq | rfl
     ·exact hlentrow G w' σ' g' _ hI k2 hcv hgG q hq
     ·obtain ⟨_,hrw⟩:=hI.row s0 q0 hq0
      refine ⟨.inr rfl,?_⟩
      show (G.ka nx=0∧_)∨_
      rw [hkaN,hmuN]
      refine hrw.imp (fun h0=>⟨h0.1,by show q0.cs.map _=[];rw [h0.2];rfl⟩) fun ⟨arr,a1,a2,a3,a4⟩=>⟨arr,a1,a2,by simpa using a3,?_⟩
      show agL _ w' (q0.cs.map _) (arr.toList.take (q0.cs.map _).length)
      rw [List.length_map]
      exact a4.map hcv
    ·rw [hkaN] at hk
     rw [hmuN]
     rcases hI.mine s0 q0 hq0 hk with hge | ⟨h10,_⟩
     ·exact ⟨hge,hI.blk _ (hI.row s0 q0 hq0).1 hk,fun hb=>hb.2 ⟨hk,rfl⟩⟩
     ·omega
 refine wp_mono (h e nx _ w hrel) fun en a' w' ⟨σ',hq,hr'⟩=>?_
 cases en with
 | normal=>exact hend _ a' w' σ' hq hr'
 | ret=>exact hend _ a' w' σ' hq hr'
 | _=>exact hq.elim⟩⟩
theorem AC.body {f:FuncId} {fn:Func} {c:Code} {args:List SV} {rows:List Row} {C:SV→List Row→Prop} {N:Nat} (hf:P.funcs[f]?=some fn) (hb:fn.body=some c) (hgo:∀ vals w,(callFunc f vals).run P w=.ok (.enter f vals) w) (hN:fn.ntmps=N) (hlen:args.length≤N)
 (h:∀ (e:En) (nx:Nat),aw P X e c (fin P fn.results.toList C (rows.map (·.ver)) false) ⟨num 0 (Am.sites 1000 args),num 1000 rows,nx,[],N⟩):AC P X f args rows C:=AC.bodyA false hf hb hgo hN hlen fun e nx=>aw_sound _ _ _ (h e nx)
end
end Am
end Go.Proofs.YtkgbjoepjcenlaaDoor
