/- Joined texts. -/
import Derived.Test.YtkgbjoepjcenlaaDoorKBB
import Derived.Test.YtkgbjoepjcenlaaDoorKAA
import Derived.Test.YtkgbjoepjcenlaaDoorKAC
import Derived.Test.YtkgbjoepjcenlaaDoorKAE
import Derived.Test.YtkgbjoepjcenlaaDoorKAD
import Derived.Test.YtkgbjoepjcenlaaDoorKAF
set_option linter.unusedVariables false
set_option linter.unusedSimpArgs false
namespace Go.Proofs.YtkgbjoepjcenlaaDoor
namespace Am
def subF (fr:List (Nat × SV)):List (Nat × SV)→Prop
 | []=>True
 | (d,s) :: l=>look fr d=s∧subF fr l
def subR (hp:List (Nat × Row)) (fz fz':List Nat):List (Nat × Row)→Prop
 | []=>True
 | (s,r) :: l=>lookR hp s=some r∧(fz.contains s=true→fz'.contains s=true)∧subR hp fz fz' l
def Fits (σ τ:AS):Prop:=τ.N=σ.N∧σ.nx≤τ.nx∧subF σ.fr τ.fr∧subR σ.hp σ.fz τ.fz τ.hp
def dropR (s:Nat):List (Nat × Row)→List (Nat × Row)
 | []=>[]
 | (k,v) :: l=>if k=s then dropR s l else (k,v) :: dropR s l
def mvR (σ:AS) (d t v n k s:Nat):Option Row→Prop × AS
 | some r=>(s < 1000∧t < 1000∧σ.fz.contains s=false∧(lookR (dropR s σ.hp) t).isNone=true,⟨(d,.own t v n k) :: σ.fr,(t,r) :: dropR s σ.hp,σ.nx,σ.fz.filter (· !=t),σ.N⟩)
 | none=>(False,σ)
def mvS (σ:AS) (d t T k:Nat):SV→Prop × AS
 | .own s v n k=>mvR σ d t v n k s (lookR σ.hp s)
 | .v (.slice none 0 0)=>(t < 1000∧(lookR σ.hp t).isNone=true,⟨(d,.own t σ.nx 0 k) :: σ.fr,(t,⟨σ.nx,T,k,[]⟩) :: σ.hp,σ.nx + 1,σ.fz.filter (· !=t),σ.N⟩)
 | _=>(False,σ)
def mvs:List (Nat × Nat × Nat × Nat)→AS→(AS→Prop)→Prop
 | [],σ,K=>K σ
 | (d,t,T,k) :: l,σ,K=>(mvS σ d t T k (look σ.fr d)).1∧mvs l (mvS σ d t T k (look σ.fr d)).2 K
section
variable {P:Program} {X:Ev} {e:En}
theorem subF.get {fr:List (Nat × SV)}:∀ {l:List (Nat × SV)},subF fr l→∀ d,look l d=look fr d∨look l d=.any
 | [],_,d=>.inr rfl
 | (k,s) :: l,h,d=>by
   rw [show look ((k,s) :: l) d=if k=d then s else look l d from rfl]
   by_cases hk:k=d
   ·subst hk;rw [if_pos rfl];exact .inl h.1.symm
   ·rw [if_neg hk];exact subF.get h.2 d
theorem subR.get {hp:List (Nat × Row)} {fz fz':List Nat}:∀ {l:List (Nat × Row)},subR hp fz fz' l→∀ s r,lookR l s=some r→lookR hp s=some r∧(fz.contains s=true→fz'.contains s=true)
 | [],_,s,r,e=>by cases e
 | (k,q) :: l,h,s,r,e=>by
   unfold lookR at e
   by_cases hk:k=s
   ·subst hk;rw [if_pos rfl] at e;cases e;exact ⟨h.1,h.2.1⟩
   ·rw [if_neg hk] at e;exact subR.get h.2.2 s r e
theorem Rel.fits {σ τ:AS} (h:Fits σ τ) {a:Act} {w:World} (hr:Rel X e σ a w):Rel X e τ a w:=by
 obtain ⟨hN,hn,hF,hR⟩:=h
 obtain ⟨hd,hs,g,hf,hI⟩:=hr
 refine ⟨hd,hs.trans hN.symm,g,fun d=>?_,⟨hI.le,fun s r hs=>hI.row s r (hR.get s r hs).1,fun s t r q hs ht=>hI.apart s t r q (hR.get s r hs).1 (hR.get t q ht).1,fun s r hs hz=>?_,fun s r hs=>hI.mine s r (hR.get s r hs).1,fun u hu=>Nat.lt_of_lt_of_le (hI.ver u hu) hn,hI.blk,hI.zlt,hI.znew,hI.keep,hI.size,hI.io,hI.env,hI.nd⟩⟩
 ·rcases hF.get d with h | h
  ·rw [h];exact hf d
  ·rw [h];trivial
 ·obtain ⟨h1,h2⟩:=hR.get s r hs
  refine hI.free s r h1 ?_
  cases h3:σ.fz.contains s with
  | false=>rfl
  | true=>rw [h2 h3] at hz;cases hz
theorem AW.fits {c:Code} {Q:Exit→AS→Prop} {σ τ:AS} (h:Fits σ τ) (k:AW P X e c Q τ):AW P X e c Q σ:=fun a w hr=>k a w (hr.fits h)
theorem lookR_dropR:∀ (l:List (Nat × Row)) (s t:Nat) (r:Row),lookR (dropR s l) t=some r→t≠s∧lookR l t=some r
 | [],s,t,r,h=>by cases h
 | (k,v) :: l,s,t,r,h=>by
   unfold dropR at h
   by_cases hk:k=s
   ·rw [if_pos hk] at h
    have:=lookR_dropR l s t r h
    refine ⟨this.1,?_⟩
    unfold lookR
    rw [if_neg (by omega)]
    exact this.2
   ·rw [if_neg hk] at h
    unfold lookR at h ⊢
    by_cases ht:k=t
    ·rw [if_pos ht] at h ⊢
     exact ⟨by omega,h⟩
    ·rw [if_neg ht] at h ⊢
     exact lookR_dropR l s t r h
theorem fz_filter {fz:List Nat} {s t:Nat} (h:s≠t) (hc:(fz.filter (· !=t)).contains s=false):fz.contains s=false:=by
 simp only [List.contains_eq_mem,List.mem_filter,decide_eq_false_iff_not,bne_iff_ne,ne_eq,not_and] at hc ⊢
 exact fun hm=>hc hm h
theorem Rel.mvS {σ:AS} {a:Act} {w:World} (hr:Rel X e σ a w) {d t T k:Nat} (h:(Am.mvS σ d t T k (look σ.fr d)).1):Rel X e (Am.mvS σ d t T k (look σ.fr d)).2 a w:=by
 obtain ⟨hd,hs,g,hf,hI⟩:=hr
 have hslot:=hf d
 generalize look σ.fr d=sv at h hslot ⊢
 unfold Am.mvS at h ⊢
 split at h
 ·rename_i s v n k'
  unfold mvR at h ⊢
  cases hq:lookR σ.hp s with
  | none=>rw [hq] at h;exact h.elim
  | some r=>
    rw [hq] at h
    obtain ⟨h1,h2,h3,h4⟩:=h
    have key:∀ u q,lookR ((t,r) :: dropR s σ.hp) u=some q→(u=t∧q=r)∨(u≠t∧u≠s∧lookR σ.hp u=some q):=fun u q hu=>by
     unfold lookR at hu
     by_cases ht:t=u
     ·rw [if_pos ht] at hu;cases hu;exact .inl ⟨ht.symm,rfl⟩
     ·rw [if_neg ht] at hu
      have:=lookR_dropR _ _ _ _ hu
      exact .inr ⟨Ne.symm ht,this⟩
    refine ⟨hd,hs,g,fun d'=>?_,⟨hI.le,fun u q hu=>?_,fun u u' q q' hu hu' hne=>?_,fun u q hu hz=>?_,fun u q hu hk=>?_,hI.ver,hI.blk,hI.zlt,hI.znew,hI.keep,hI.size,hI.io,hI.env,hI.nd⟩⟩
    ·show holds g w (look ((d,.own t v n k') :: σ.fr) d') _
     rw [show look ((d,.own t v n k') :: σ.fr) d'=if d=d' then .own t v n k' else look σ.fr d' from rfl]
     by_cases hdd:d=d'
     ·subst hdd;rw [if_pos rfl];exact hslot
     ·rw [if_neg hdd];exact hf d'
    ·rcases key u q hu with ⟨rfl,rfl⟩ | ⟨_,_,h5⟩
     ·exact hI.row s q hq
     ·exact hI.row u q h5
    ·rcases key u q hu with ⟨rfl,rfl⟩ | ⟨a1,a2,h5⟩ <;> rcases key u' q' hu' with ⟨rfl,rfl⟩ | ⟨b1,b2,h6⟩
     ·exact absurd rfl hne
     ·exact hI.apart s u' q q' hq h6 (Ne.symm b2)
     ·exact hI.apart u s q q' h5 hq a2
     ·exact hI.apart u u' q q' h5 h6 hne
    ·rcases key u q hu with ⟨rfl,rfl⟩ | ⟨a1,a2,h5⟩
     ·exact hI.free s q hq h3
     ·exact hI.free u q h5 (fz_filter a1 hz)
    ·rcases key u q hu with ⟨rfl,rfl⟩ | ⟨a1,a2,h5⟩
     ·rcases hI.mine s q hq hk with h6 | ⟨h6,_⟩
      ·exact .inl h6
      ·omega
     ·exact hI.mine u q h5 hk
 ·obtain ⟨h1,h2⟩:=h
  have hnil:a.tmps.getD d undef=.slice none 0 0:=hslot
  have hn:¬ g.A σ.nx:=fun hA=>Nat.lt_irrefl _ (hI.ver _ hA)
  let g':Cx:=⟨g.Z,fun u=>g.A u∨u=σ.nx,g.mu,fun u=>if u=σ.nx then 0 else g.ka u⟩
  have hka:∀ u,g.A u→g'.ka u=g.ka u:=fun u (hu:g.A u)=>by
   show (if u=σ.nx then 0 else g.ka u)=g.ka u
   have hne:u≠σ.nx:=fun e=>hn (e ▸ hu)
   exact if_neg hne
  have hle:g.le g':=⟨fun _ h=>h,fun u hu=>⟨.inl hu,rfl,hka u hu⟩⟩
  have hk0:g'.ka σ.nx=0:=if_pos rfl
  have key:∀ u q,lookR ((t,(⟨σ.nx,T,k,[]⟩:Row)) :: σ.hp) u=some q→(u=t∧q=⟨σ.nx,T,k,[]⟩)∨(u≠t∧lookR σ.hp u=some q):=fun u q hu=>by
   unfold lookR at hu
   by_cases ht:t=u
   ·rw [if_pos ht] at hu;cases hu;exact .inl ⟨ht.symm,rfl⟩
   ·rw [if_neg ht] at hu;exact .inr ⟨Ne.symm ht,hu⟩
  have hka':∀ u q,lookR σ.hp u=some q→g'.ka q.ver=g.ka q.ver:=fun u q hu=>hka _ (hI.row u q hu).1
  refine ⟨hd,hs,g',fun d'=>?_,⟨hI.le.trans hle,fun u q hu=>?_,fun u u' q q' hu hu' hne ha hb=>?_,fun u q hu hz hk=>?_,fun u q hu hk=>?_,fun u hu=>?_,fun u hu hk=>?_,hI.zlt,hI.znew,hI.keep,hI.size,hI.io,hI.env,hI.nd⟩⟩
  ·show holds g' w (look ((d,.own t σ.nx 0 k) :: σ.fr) d') _
   rw [show look ((d,.own t σ.nx 0 k) :: σ.fr) d'=if d=d' then .own t σ.nx 0 k else look σ.fr d' from rfl]
   by_cases hdd:d=d'
   ·subst hdd;rw [if_pos rfl]
    exact ⟨.inr rfl,by rw [hk0];omega,.inr ⟨hk0,hnil⟩⟩
   ·rw [if_neg hdd];exact holds.mono hle (fun _ _=>rfl) _ _ (hf d')
  ·rcases key u q hu with ⟨rfl,rfl⟩ | ⟨_,h5⟩
   ·exact ⟨.inr rfl,.inl ⟨hk0,rfl⟩⟩
   ·exact (hI.row u q h5).mono hle (fun _ _=>rfl) fun _=>rfl
  ·rcases key u q hu with ⟨rfl,rfl⟩ | ⟨a1,h5⟩
   ·exact absurd hk0 ha
   ·rcases key u' q' hu' with ⟨rfl,rfl⟩ | ⟨b1,h6⟩
    ·exact absurd hk0 hb
    ·rw [hka' u q h5] at ha
     rw [hka' u' q' h6] at hb
     exact hI.apart u u' q q' h5 h6 hne ha hb
  ·rcases key u q hu with ⟨rfl,rfl⟩ | ⟨a1,h5⟩
   ·exact absurd hk0 hk
   ·rw [hka' u q h5] at hk
    exact hI.free u q h5 (fz_filter a1 hz) hk
  ·rcases key u q hu with ⟨rfl,rfl⟩ | ⟨a1,h5⟩
   ·exact absurd hk0 hk
   ·rw [hka' u q h5] at hk
    exact hI.mine u q h5 hk
  ·rcases hu with hu | hu
   ·exact Nat.lt_succ_of_lt (hI.ver u hu)
   ·show u < σ.nx + 1;omega
  ·rcases hu with hu | rfl
   ·rw [hka u hu] at hk;exact hI.blk u hu hk
   ·exact absurd hk0 hk
 ·exact h.elim
theorem Rel.mvs {a:Act} {w:World} {K:AS→Prop}:∀ {l:List (Nat × Nat × Nat × Nat)} {σ:AS},Am.mvs l σ K→Rel X e σ a w→∃ τ,K τ∧Rel X e τ a w
 | [],σ,h,hr=>⟨σ,h,hr⟩
 | (d,t,T,k) :: l,σ,h,hr=>Rel.mvs h.2 (hr.mvS h.1)
theorem gw {c:Code} {Q:Exit→AS→Prop} {σ:AS} (h:aw P X e c Q σ):AW P X e c Q σ:=aw_sound c Q σ h
theorem sqc {a b:Code} {Q:Exit→AS→Prop} {σ:AS} (h:aw P X e a (Th (AW P X e b Q) Q) σ):AW P X e (.seq a b) Q σ:=fun ac w hr=>by
 refine wp_seq (wp_mono (aw_sound a _ σ h ac w hr) fun en a w ⟨σ',hq,hr'⟩=>?_)
 cases en with
 | normal=>exact hq a w hr'
 | _=>exact ⟨σ',hq,hr'⟩
theorem blk {id:Nat} {b:Code} {Q:Exit→AS→Prop} {σ:AS} (h:AW P X e b (InB id Q) σ):AW P X e (.block id b) Q σ:=fun ac w hr=>by
 refine wp_block (wp_mono (h ac w hr) fun en a w ⟨σ',hq,hr'⟩=>?_)
 cases en with
 | exit i=>
   simp only [InB,Exit.inBlock] at hq ⊢
   by_cases hi:i=id
   ·simp only [hi,if_true] at hq ⊢;exact ⟨σ',hq,hr'⟩
   ·simp only [hi,if_false] at hq ⊢;exact ⟨σ',hq,hr'⟩
 | _=>exact ⟨σ',hq,hr'⟩
theorem ct {α:Type} (p:α→Prop) (J:α→AS) (mv:List (Nat × Nat × Nat × Nat)) {a b:Code} {Q:Exit→AS→Prop} {σ:AS} (h:AW P X e a (Th (fun τ=>Am.mvs mv τ fun τ=>∃ y,p y∧Fits τ (J y)) Q) σ) (k:∀ y,p y→AW P X e b Q (J y)):AW P X e (.seq a b) Q σ:=fun ac w hr=>by
 refine wp_seq (wp_mono (h ac w hr) fun en a w ⟨σ',hq,hr'⟩=>?_)
 cases en with
 | normal=>
   obtain ⟨τ,⟨y,hy,hf⟩,hr2⟩:=Rel.mvs hq hr'
   exact k y hy a w (hr2.fits hf)
 | _=>exact ⟨σ',hq,hr'⟩
theorem lp {α:Type} (p:α→Prop) (I:α→AS) (μ:α→Nat) (mv mv':List (Nat × Nat × Nat × Nat)) (x0:α) {b:Code} {Q:Exit→AS→Prop} {σ:AS} (h0:Am.mvs mv σ fun τ=>p x0∧Fits τ (I x0)) (hr:∀ x,p x→AW P X e b (Th (fun τ=>Am.mvs mv' τ fun τ=>∃ y,p y∧μ y < μ x∧Fits τ (I y)) Q) (I x)):AW P X e (.loop b) Q σ:=fun a w hrel=>by
 obtain ⟨τ0,⟨hp0,hf0⟩,hr0⟩:=Rel.mvs h0 hrel
 refine AW.loop (α:={ x // p x }) (fun x=>I x.1) (fun x=>μ x.1) (σ:=τ0) ⟨x0,hp0⟩ (fun _ _ h=>h.fits hf0) (fun x a w hrx=>?_) a w hr0
 refine wp_mono (hr x.1 x.2 a w hrx) fun en a w ⟨σ',hq,hr'⟩=>?_
 cases en with
 | normal=>
   obtain ⟨τ,⟨y,hy,hm,hf⟩,hr2⟩:=Rel.mvs hq hr'
   exact ⟨τ,⟨⟨y,hy⟩,hm,fun _ _ h=>h.fits hf⟩,hr2⟩
 | _=>exact ⟨σ',hq,hr'⟩
end
section
variable (σ:AS) (fr fr':List (Nat × SV)) (hp hp':List (Nat × Row)) (d nx nx' N N':Nat) (fz fz':List Nat) (s:SV) (r:Row)
@[go_sem] theorem mvs_nil (K):mvs [] σ K=K σ:=rfl
@[go_sem] theorem mvs_cons (t T k l K):mvs ((d,t,T,k) :: l) σ K=((mvS σ d t T k (look σ.fr d)).1∧mvs l (mvS σ d t T k (look σ.fr d)).2 K):=rfl
@[go_sem] theorem mvS_own (t T k s v n k'):mvS σ d t T k (.own s v n k')=mvR σ d t v n k' s (lookR σ.hp s):=rfl
@[go_sem] theorem mvS_nil (t T k):mvS ⟨fr,hp,nx,fz,N⟩ d t T k (.v (.slice none 0 0))=(t < 1000∧(lookR hp t).isNone=true,⟨(d,.own t nx 0 k) :: fr,(t,⟨nx,T,k,[]⟩) :: hp,nx + 1,fz.filter (· !=t),N⟩):=rfl
@[go_sem] theorem mvR_eq (t v n k s):mvR ⟨fr,hp,nx,fz,N⟩ d t v n k s (some r)=(s < 1000∧t < 1000∧fz.contains s=false∧(lookR (dropR s hp) t).isNone=true,⟨(d,.own t v n k) :: fr,(t,r) :: dropR s hp,nx,fz.filter (· !=t),N⟩):=rfl
@[go_sem] theorem dropR_nil:dropR d []=[]:=rfl
@[go_sem] theorem dropR_cons (k l):dropR d ((k,r) :: l)=if k=d then dropR d l else (k,r) :: dropR d l:=rfl
@[go_sem] theorem Fits_eq:Fits ⟨fr,hp,nx,fz,N⟩ ⟨fr',hp',nx',fz',N'⟩=(N'=N∧nx≤nx'∧subF fr fr'∧subR hp fz fz' hp'):=rfl
@[go_sem] theorem subF_nil:subF fr []=True:=rfl
@[go_sem] theorem subF_cons (l):subF fr ((d,s) :: l)=(look fr d=s∧subF fr l):=rfl
@[go_sem] theorem subR_nil:subR hp fz fz' []=True:=rfl
@[go_sem] theorem subR_cons (l):subR hp fz fz' ((d,r) :: l)=(lookR hp d=some r∧(fz.contains d=true→fz'.contains d=true)∧subR hp fz fz' l):=rfl
end
section
variable {P:Program} {X:Ev}
theorem AC.bodyW (ob:Bool) {f:FuncId} {fn:Func} {c:Code} {args:List SV} {rows:List Row} {C:SV→List Row→Prop} {N:Nat} (hf:P.funcs[f]?=some fn) (hb:fn.body=some c) (hgo:∀ vals w,(callFunc f vals).run P w=.ok (.enter f vals) w) (hN:fn.ntmps=N) (hlen:args.length≤N)
 (h:∀ (e:En) (nx:Nat),AW P X e c (fin P fn.results.toList C (rows.map (·.ver)) ob) ⟨num 0 (Am.sites 1000 args),num 1000 rows,nx,[],N⟩):AC P X f args rows C:=AC.bodyA ob hf hb hgo hN hlen h
end
end Am
end Go.Proofs.YtkgbjoepjcenlaaDoor
namespace Go.Proofs.YtkgbjoepjcenlaaDoor
namespace Am
theorem agL_v {g:Cx} {w:World}:∀ {l vs:List Value},agL g w (l.map .v) vs→vs=l
 | [],[],_=>rfl
 | x :: l,v :: vs,h=>by
   have h1:v=x:=h.1
   rw [h1,agL_v h.2]
 | [],_ :: _,h=>h.elim
 | _ :: _,[],h=>h.elim
theorem AC.pure {P:Program} {X:Ev} {f:FuncId} {v:Value} {r:SV} (vals:List Value) (hgo:∀ vals w,(callFunc f vals).run P w=.ok (.enter f vals) w) (hc:∀ w,Calls P f vals.toArray w fun en w'=>en=.returned v∧w=w') (hr:∀ g w,holds g w (ren 0 0 r) v) (hn:∀ u,ren 0 u r=ren 0 0 r):AC P X f (vals.map .v) [] fun r' rows=>r'=r∧rows=[]:=
 ⟨fun g w vs nx hE hz hA hb ha hrow hap=>by
  rw [agL_v ha]
  refine .inl ⟨hgo _ _,(hc w).mono ?_⟩
  rintro en w' ⟨rfl,rfl⟩
  exact ⟨v,r,[],g,rfl,⟨rfl,rfl⟩,by rw [hn];exact hr g w,.refl g,fun b hb=>.inl hb,.inl rfl,fun i r q h=>by simp at h,fun q hq=>by simp [rnR] at hq,fun u hu=>.inl hu,Nat.le_refl _,fun _ _ _=>rfl,⟨rfl,rfl,rfl⟩,hE⟩⟩
theorem AC.ext {P:Program} {X:Ev} {f:FuncId} {v:Value} (vals:List Value) (hx:∀ w,(callFunc f vals.toArray).run P w=.ok (.value v) w):AC P X f (vals.map .v) [] fun r rows=>r=.v v∧rows=[]:=
 ⟨fun g w vs nx hE hz hA hb ha hrow hap=>by
  rw [agL_v ha]
  exact .inr ⟨v,w,hx w,v,.v v,[],g,rfl,⟨rfl,rfl⟩,rfl,.refl g,fun b hb=>.inl hb,.inl rfl,fun i r q h=>by simp at h,fun q hq=>by simp [rnR] at hq,fun u hu=>.inl hu,Nat.le_refl _,fun _ _ _=>rfl,⟨rfl,rfl,rfl⟩,hE⟩⟩
theorem AC.pure1 {P:Program} {X:Ev} {f:FuncId} {v:Value} (vals:List Value) (hgo:∀ vals w,(callFunc f vals).run P w=.ok (.enter f vals) w) (hc:∀ w,Calls P f vals.toArray w fun en w'=>en=.returned v∧w=w'):AC P X f (vals.map .v) [] fun r' rows=>r'=.v v∧rows=[]:=
 AC.pure vals hgo hc (fun _ _=>rfl) fun _=>rfl
end Am
end Go.Proofs.YtkgbjoepjcenlaaDoor
namespace Go.Proofs.YtkgbjoepjcenlaaDoor
namespace Am
mutual
def tmC:Tm→List SV
 | .mk o n ks=>[iv o,iv n,.sl ks.length 3 (tmL ks)]
def tmL:List Tm→List SV
 | []=>[]
 | x :: xs=>tmC x ++ tmL xs
end
abbrev tsl (l:List Tm):SV:=.sl l.length 3 (tmL l)
abbrev tmc (x:Tm):List SV:=[iv x.op,iv x.num,tsl x.kids]
abbrev tmS (x:Tm):SV:=.agg (tmc x)
section
variable (o n:Int) (ks:List Tm)
@[go_sem] theorem op_mk:Tm.op (.mk o n ks)=o:=rfl
@[go_sem] theorem num_mk:Tm.num (.mk o n ks)=n:=rfl
@[go_sem] theorem kids_mk:Tm.kids (.mk o n ks)=ks:=rfl
end
theorem tmC_eq (x:Tm):tmC x=tmc x:=by cases x;simp [tmC,Tm.op,Tm.num,Tm.kids]
section
variable (l m:List Tm) (x:Tm) (n i:Nat)
@[go_sem] theorem tmL_nil:tmL []=[]:=by simp [tmL]
theorem tmL_cons:tmL (x :: l)=tmc x ++ tmL l:=by rw [← tmC_eq];simp [tmL]
@[go_sem] theorem tmL_len:(tmL l).length=l.length * 3:=by
 induction l with
 | nil=>simp [tmL]
 | cons x l ih=>rw [tmL_cons,List.length_append,ih];simp;omega
@[go_sem] theorem tmL_app:tmL l ++ tmc x=tmL (l ++ [x]):=by
 induction l with
 | nil=>simp [tmL_cons,tmL_nil]
 | cons y l ih=>rw [List.cons_append,tmL_cons,tmL_cons,List.append_assoc,ih]
theorem tmL_app2:tmL l ++ tmL m=tmL (l ++ m):=by
 induction l with
 | nil=>simp [tmL]
 | cons y l ih=>rw [List.cons_append,tmL_cons,tmL_cons,List.append_assoc,ih]
@[go_sem] theorem tmL_flat:(tmL l).all flat=true:=by
 induction l with
 | nil=>simp [tmL]
 | cons y l ih=>rw [tmL_cons,List.all_append,ih];rfl
@[go_sem] theorem tmL_cv (H):(tmL l).map (cv H (n + 1))=tmL l:=by
 induction l with
 | nil=>simp [tmL]
 | cons y l ih=>rw [tmL_cons,List.map_append,ih];rfl
theorem tmL_drop (h:i < l.length):(tmL l).drop (i * 3)=tmc l[i] ++ tmL (l.drop (i + 1)):=by
 induction l generalizing i with
 | nil=>simp at h
 | cons y l ih=>
   rw [tmL_cons]
   cases i with
   | zero=>simp
   | succ i=>
     have e:(i + 1) * 3=(tmc y).length + i * 3:=by simp;omega
     rw [e,List.drop_append,List.drop_eq_nil_of_le (by simp),List.nil_append]
     simpa using ih i (by simpa using h)
@[go_sem] theorem tmL_sub (h:i < l.length):sub (tmL l) i 3=tmc l[i]:=by
 unfold sub
 rw [tmL_drop l i h]
 rfl
theorem tmL_take:(tmL l).take (n * 3)=tmL (l.take n):=by
 induction l generalizing n with
 | nil=>simp [tmL_nil]
 | cons y l ih=>
   cases n with
   | zero=>simp [tmL_nil]
   | succ n=>
     have e:(n + 1) * 3=(tmc y).length + n * 3:=by simp;omega
     rw [tmL_cons,e,List.take_length_add_append,ih,List.take_succ_cons,tmL_cons]
theorem tmL_drops:(tmL l).drop (n * 3)=tmL (l.drop n):=by
 induction l generalizing n with
 | nil=>simp [tmL_nil]
 | cons y l ih=>
   cases n with
   | zero=>simp
   | succ n=>
     have e:(n + 1) * 3=(tmc y).length + n * 3:=by simp;omega
     rw [tmL_cons,e,List.drop_append,List.drop_eq_nil_of_le (by simp),List.nil_append]
     simpa using ih n
end
end Am
open Am
theorem atL_app {g:Cx} {w:World}:∀ {cs ds:List SV} {b o:Nat},atL g w cs b o→atL g w ds b (o + cs.length)→atL g w (cs ++ ds) b o
 | [],_,_,_,_,h=>h
 | c :: cs,ds,b,o,h,k=>⟨h.1,atL_app h.2 (by rw [show o + 1 + cs.length=o + (cs.length + 1) by omega];exact k)⟩
mutual
theorem ht_ag {ok:Nat→Prop} {w:World}:∀ (x:Tm) (a:Option Addr) (n c:Nat) (g:Cx),(∀ b,ok b→b < w.heap.size→g.Z b)→n≤c→TR ok w x a n→agL g w (tmC x) [.int .i64 x.op,.int .i64 x.num,.slice a n c]
 | .mk o m ks,a,n,c,g,hg,hc,h=>by
   unfold TR at h
   unfold tmC
   obtain ⟨rfl,h2,h3⟩:=h
   refine ⟨rfl,rfl,⟨a,c,rfl,⟨hc,Nat.zero_le _⟩,tmL_len ks,?_⟩,trivial⟩
   cases ks with
   | nil=>exact .inl rfl
   | cons y l=>
     obtain ⟨b,o,ea,hb,hlt,h4⟩:=ht_at (y :: l) a 0 g.pure hg h3 (by simp)
     rw [Nat.zero_mul,Nat.add_zero] at h4
     exact .inr ⟨b,o,ea,hg b hb hlt,h4⟩
theorem ht_at {ok:Nat→Prop} {w:World}:∀ (l:List Tm) (a:Option Addr) (i:Nat) (g:Cx),(∀ b,ok b→b < w.heap.size→g.Z b)→KR ok w l a i→l≠[]→∃ b o,a=some ⟨b,o,none⟩∧ok b∧b < w.heap.size∧atL g w (tmL l) b (o + i * 3)
 | [],_,_,_,_,_,h=>(h rfl).elim
 | x :: l,a,i,g,hg,h,_=>by
   unfold KR at h
   obtain ⟨⟨b,o,an,nn,cc,rfl,⟨hb,hcc⟩,c0,c1,c2,hI⟩,hl⟩:=h
   have h1:=ht_ag x an nn cc g hg hcc hI
   have h2:atL g w (tmC x) b (o + i * 3):=by
    refine atL.of h1 fun j v hj=>?_
    match j,hj with
    | 0,hj=>cases hj;exact c0
    | 1,hj=>cases hj;exact c1
    | 2,hj=>cases hj;exact c2
   refine ⟨b,o,rfl,hb,lt_of_cell c0,?_⟩
   unfold tmL
   refine atL_app h2 ?_
   rw [tmC_eq]
   by_cases h0:l=[]
   ·subst h0;unfold tmL;trivial
   ·obtain ⟨b',o',e,_,_,h4⟩:=ht_at l (some ⟨b,o,none⟩) (i + 1) g hg hl h0
    cases e
    rw [show o + i * 3 + (tmc x).length=o + (i + 1) * 3 by simp;omega];exact h4
end
theorem ht_of {ok:Nat→Prop} {w:World} {x:Tm} {a:Option Addr} {n c:Nat} {g:Cx} (hg:∀ b,ok b→b < w.heap.size→g.Z b) (hc:n≤c) (h:TR ok w x a n):holds g w (tmS x) (.agg #[.int .i64 x.op,.int .i64 x.num,.slice a n c]):=
 ⟨_,rfl,by rw [← tmC_eq];exact ht_ag x a n c g hg hc h⟩
theorem hts_of {ok:Nat→Prop} {w:World} {l:List Tm} {a:Option Addr} {n c:Nat} {g:Cx} (hg:∀ b,ok b→b < w.heap.size→g.Z b) (hc:n≤c) (h:TL ok w l a n):holds g w (tsl l) (.slice a n c):=by
 obtain ⟨rfl,h2,h3⟩:=h
 refine ⟨a,c,rfl,⟨hc,Nat.zero_le _⟩,tmL_len l,?_⟩
 cases l with
 | nil=>exact .inl (by simp [tmL])
 | cons y l=>
   obtain ⟨b,o,ea,hb,hlt,h4⟩:=ht_at (y :: l) a 0 g.pure hg ((KR_iff (y :: l) 0).2 fun j h=>by rw [Nat.zero_add];exact h3 j h) (by simp)
   rw [Nat.zero_mul,Nat.add_zero] at h4
   exact .inr ⟨b,o,ea,hg b hb hlt,h4⟩
end Go.Proofs.YtkgbjoepjcenlaaDoor
namespace Go.Proofs.YtkgbjoepjcenlaaDoor
namespace Am
abbrev nop:Oper:=⟨none,.assign (.const undef),0, "",#[],none⟩
def tnO (π:List Nat) (o:Oper):Oper:={ o with after:=o.after.map fun e=>{ e with on:=π.idxOf e.on },guard:=o.guard.map fun x=>(π.idxOf x.1,x.2) }
def osP (π:List Nat) (ops:Array Oper):List Oper:=π.map fun i=>(ops[i]?).getD nop
def prm (π:List Nat) (ops:Array Oper):Array Oper:=((osP π ops).map (tnO π)).toArray
def ndB:List Nat→Bool
 | []=>true
 | x :: l=> !(l.contains x) && ndB l
def depB:Nat→List Oper→Bool
 | _,[]=>true
 | i,o :: os=>(dpsO o).all (fun j=>decide (j < i)) && depB (i + 1) os
def okP (π:List Nat) (ops:Array Oper):Bool:=π.all (fun i=>decide (i < ops.size)) && ndB π && (List.range ops.size).all (fun i=>π.contains i) && depB 0 ops.toList
theorem ndB_nd:∀ {l:List Nat},ndB l=true→l.Nodup
 | [],_=>List.nodup_nil
 | x :: l,h=>by
   simp only [ndB,Bool.and_eq_true,Bool.not_eq_true',List.contains_eq_mem,decide_eq_false_iff_not] at h
   exact List.nodup_cons.2 ⟨h.1,ndB_nd h.2⟩
theorem depB_lt:∀ {os:List Oper} {i:Nat},depB i os=true→∀ (k:Nat) (o:Oper),os[k]?=some o→∀ j ∈ dpsO o,j < i + k
 | o :: os,i,h,0,o',e,j,hj=>by
   simp only [depB,Bool.and_eq_true] at h
   simp at e;subst e
   simpa using List.all_eq_true.1 h.1 j hj
 | o :: os,i,h,k + 1,o',e,j,hj=>by
   simp only [depB,Bool.and_eq_true] at h
   have:=depB_lt h.2 k o' (by simpa using e) j hj
   omega
 | [],_,_,_,_,e,_,_=>by simp at e
section
variable {P:Program} {X:Ev} {e:En} {ops:Array Oper} {π:List Nat}
structure OkP (π:List Nat) (ops:Array Oper):Prop where
 lt:∀ i ∈ π,i < ops.size
 nd:π.Nodup
 all:∀ i,i < ops.size→i ∈ π
 dep:∀ (k:Nat) (o:Oper),ops[k]?=some o→∀ j ∈ dpsO o,j < k
theorem okP_of (h:okP π ops=true):OkP π ops:=by
 simp only [okP,Bool.and_eq_true] at h
 obtain ⟨⟨⟨h1,h2⟩,h3⟩,h4⟩:=h
 refine ⟨fun i hi=>by simpa using List.all_eq_true.1 h1 i hi,ndB_nd h2,fun i hi=>by simpa using List.all_eq_true.1 h3 i (List.mem_range.2 hi),fun k o ho j hj=>?_⟩
 have:=depB_lt h4 k o (by simpa using ho) j hj
 omega
theorem idx_get (h:OkP π ops) {i:Nat} (hi:i ∈ π):π[π.idxOf i]?=some i:=by
 have hl:=List.idxOf_lt_length_of_mem hi
 rw [List.getElem?_eq_getElem hl,List.getElem_idxOf hl]
theorem get_idx (h:OkP π ops) {p i:Nat} (hp:π[p]?=some i):π.idxOf i=p:=by
 obtain ⟨hl,rfl⟩:=List.getElem?_eq_some_iff.1 hp
 exact List.Nodup.idxOf_getElem h.nd p hl
theorem prm_get (h:OkP π ops) {p i:Nat} {o:Oper} (hp:π[p]?=some i) (ho:ops[i]?=some o):(prm π ops)[p]?=some (tnO π o):=by
 simp [prm,osP,hp,ho]
theorem prm_dst (h:OkP π ops) (j:Nat):((prm π ops)[π.idxOf j]?).bind (·.dst)=(ops[j]?).bind (·.dst):=by
 by_cases hj:j ∈ π
 ·have hl:=h.lt j hj
  have ho:ops[j]?=some (ops[j]'hl):=Array.getElem?_eq_getElem hl
  rw [prm_get h (idx_get h hj) ho,ho]
  rfl
 ·have h1:π.idxOf j=π.length:=List.idxOf_eq_length hj
  have h2:ops[j]?=none:=by
   refine Array.getElem?_eq_none (Nat.le_of_not_lt fun hl=>hj (h.all j hl))
  rw [h1,h2]
  simp [prm,osP]
theorem dps_tn (o:Oper):dpsO (tnO π o)=(dpsO o).map π.idxOf:=by
 unfold dpsO tnO
 simp only [Array.toList_map,List.filter_map,List.map_map]
 congr 1
theorem wanted_tn (h:OkP π ops) (o:Oper) (tmps:Array Value):Region.wanted (tnO π o) (yielded (prm π ops) tmps)=Region.wanted o (yielded ops tmps):=by
 unfold Region.wanted tnO
 cases hg:o.guard with
 | none=>rfl
 | some jb=>
   obtain ⟨j,b⟩:=jb
   simp only [Option.map_some]
   unfold yielded
   rw [prm_dst h]
theorem wp_tn (o:Oper) (a:Act) (w:World) (K:Act→World→Prop) (Q:Exit→Act→World→Prop):(tnO π o).wp P a w K Q=o.wp P a w K Q:=by cases o;rfl
theorem dch_tn (h:OkP π ops) {t:List Nat} {K:AS→Prop}:∀ os:List Oper,dch P X ops t K os=dch P X (prm π ops) t K (os.map (tnO π))
 | []=>by funext i lg σ rd wr;rfl
 | o :: os=>by
   funext i lg σ rd wr
   rw [List.map_cons]
   unfold dch
   rw [dch_tn h os]
   cases hg:o.guard with
   | none=>simp only [tnO,hg,Option.map_none]
   | some jb=>
     obtain ⟨j,b⟩:=jb
     simp only [tnO,hg,Option.map_some,prm_dst h]
theorem drawnP {rid:Nat} {Q:Exit→AS→Prop} {σ:AS} (hm:P.follows .mixedOrders=true) (π:List Nat) (hp:okP π ops=true) (t:List Nat) (hb:drB (prm π ops) t=true) (h:dch P X ops t (Q .normal) (osP π ops) 0 [] σ [] []):AW P X e (.region rid ops true) Q σ:=fun a w hr=>by
 have hO:=okP_of hp
 rw [dch_tn hO (osP π ops)] at h
 have h:dch P X (prm π ops) t (Q .normal) (prm π ops).toList 0 [] σ [] []:=h
 let πS:(Nat→Bool)→Nat→Bool:=fun S p=>match π[p]? with | some i=>S i | none=>false
 have hsz:(prm π ops).size=π.length:=by simp [prm,osP]
 obtain ⟨hd,hs,g,hf,hI⟩:=hr
 let T0:Tr:=⟨fun _=>σ,fun _=>.any,fun _=>[],fun _=>[]⟩
 obtain ⟨T,m,q1,q2,q3,q4,q5,q6⟩:=advance (P:=P) (X:=X) (ops:=prm π ops) (t:=t) (K:=Q .normal) _ 0 T0 rfl ⟨Nat.zero_le _,fun i hi=>by omega,fun i j _ hj=>by omega⟩ ⟨[],[],[],by simpa using h,fun j hj=>by omega⟩
 have h0:T.s 0=σ:=q4 0 (Nat.le_refl _)
 have hS0:πS (fun _=>false)=fun _=>false:=by funext p;show (match π[p]? with | some _=>false | none=>false)=false;split <;> rfl
 refine any_inv hm (fun S a w=>∃ T m g,DJ P X e (prm π ops) t (Q .normal) σ (πS S) a w T m g) (fun i hi j hj=>?_) ⟨T,m,g,h0,q2,q3,fun i hi=>?_,fun i o hi=>?_,fun i o hi ho=>.inl (q6 i o (Nat.zero_le _) hi ho),hd,hs,fun d=>?_,?_⟩ (fun S a w i o hJ ho hi hdp=>?_) fun S a w hall hJ=>?_
 ·have ho:ops[i]?=some (ops[i]'hi):=Array.getElem?_eq_getElem hi
  rw [dps_of ho] at hj
  exact hO.dep i _ ho j hj
 ·rw [hS0] at hi;cases hi
 ·rw [hS0] at hi;cases hi
 ·rw [hS0]
  have:FS (prm π ops) T (fun _=>false) m d=look σ.fr d:=by
   rw [show FS (prm π ops) T (fun _=>false) m d=_ from ovr_le (i:=0) m d (Nat.zero_le _) fun _ _ _ _=>rfl]
   show look (T.s 0).fr d=_
   rw [h0]
  rw [this]
  exact @holds.mono g g w { w with drawn:=w.drawn + 1 } (.refl g) (fun _ _=>rfl) _ _ (hf d)
 ·rw [hS0]
  have hH:HS T (fun _=>false) m=lookR σ.hp:=by
   funext u
   rw [show HS T (fun _=>false) m u=_ from ovr_le (i:=0) m u (Nat.zero_le _) fun _ _ _ _=>rfl]
   show lookR (T.s 0).hp u=_
   rw [h0]
  have hfz:(T.s m).fz=σ.fz:=by rw [fz_same q2 m (Nat.zero_le _) (Nat.le_refl _) fun j o _ hj ho=>q6 j o (Nat.zero_le _) hj ho,h0]
  rw [hH,hfz]
  exact ⟨hI.le,fun s r hs=> @rowIn.mono g g w { w with drawn:=w.drawn + 1 } (.refl g) (fun _ _=>rfl) r (hI.row s r hs) fun _=>rfl,hI.apart,hI.free,hI.mine,fun u hu=>.inl (by rw [h0];exact hI.ver u hu),hI.blk,hI.zlt,hI.znew,hI.keep,hI.size,hI.io,X.st w _ (Nat.le_refl w.heap.size) hI.env fun _ _=>rfl,hI.nd⟩
 ·obtain ⟨T,m,g,hJ⟩:=hJ
  have hil:=(Array.getElem?_eq_some_iff.1 ho).1
  have hmem:=hO.all i hil
  obtain ⟨p,hpp⟩:∃ p,p=π.idxOf i:=⟨_,rfl⟩
  have hpi:π[p]?=some i:=hpp ▸ idx_get hO hmem
  have hop:=prm_get hO hpi ho
  have hSp:πS S p=false:=by simp only [πS,hpi];exact hi
  have hdp':∀ j ∈ dpsO (tnO π o),πS S j=true:=fun j hj=>by
   rw [dps_tn] at hj
   obtain ⟨j',hj',rfl⟩:=List.mem_map.1 hj
   have hlt:=hO.dep i o ho j' hj'
   have:=idx_get hO (hO.all j' (by omega))
   simp only [πS,this]
   exact hdp j' hj'
  have hSad:πS (fun k=>S k || k==i)=Sad (πS S) p:=by
   funext p'
   simp only [πS,Sad]
   cases hp':π[p']? with
   | none=>
     have:(p'==p)=false:=by
      simp only [beq_eq_false_iff_ne,ne_eq]
      rintro rfl
      rw [hpi] at hp';cases hp'
     simp [this]
   | some i'=>
     simp only
     congr 1
     by_cases hii:i'=i
     ·subst hii
      have:=get_idx hO hp'
      simp [← this,hpp]
     ·have:p'≠p:=fun e=>by subst e;rw [hpi] at hp';cases hp';exact hii rfl
      rw [beq_eq_false_iff_ne.2 hii,beq_eq_false_iff_ne.2 this]
  have key:∀ (Q':Exit→Act→World→Prop) (nx':Act→World→Prop),wpOp P (prm π ops) Q' p nx' a w→wpOp P ops Q' i nx' a w:=fun Q' nx' hw=>by
   unfold wpOp at hw ⊢
   rw [hop] at hw
   rw [ho]
   simp only [wanted_tn hO,wp_tn] at hw
   exact hw
  refine key _ _ ?_
  rw [hSad]
  rcases Nat.lt_trichotomy p m with hlt | rfl | hgt
  ·exact hJ.det hb hop hlt hSp hdp' fun a' w' g' h=>⟨T,m,g',h⟩
  ·exact hJ.call hb hop hdp' fun a' w' T' m' g' h=>⟨T',m',g',h⟩
  ·exfalso
   have hi':=(Array.getElem?_eq_some_iff.1 hop).1
   rcases hJ.stop with ⟨h1,_⟩ | ⟨o',f,args,ts,n,fs,L,C,ho',hop',_⟩
   ·omega
   ·have:=(lk hb ho').cal (by rw [hop'];rfl) p hgt hi'
    have:=anc_in hb hJ.cl (p + 1) p (tnO π o) (by omega) hop hdp' m this
    have:=hJ.lt m this
    omega
 ·obtain ⟨T,m,g,hJ⟩:=hJ
  have hall:∀ p,p < (prm π ops).size→πS S p=true:=fun p hp=>by
   rw [hsz] at hp
   have:=List.getElem?_eq_getElem hp
   simp only [πS,this]
   exact hall _ (hO.lt _ (List.getElem_mem hp))
  have hm':m=(prm π ops).size:=by
   rcases Nat.lt_or_ge m (prm π ops).size with hlt | hge
   ·have:=hJ.lt m (hall m hlt);omega
   ·have:=hJ.pre.le;omega
  subst hm'
  rcases hJ.stop with ⟨_,hK⟩ | ⟨o',f,args,ts,n,fs,L,C,ho',_⟩
  ·refine ⟨T.s (prm π ops).size,hK,hJ.df,hJ.sz.trans ?_,g,fun d=>?_,?_⟩
   ·rw [N_eq hJ.pre _ (Nat.le_refl _),hJ.s0]
   ·have:=hJ.fr d
    rwa [show FS (prm π ops) T (πS S) (prm π ops).size d=look (T.s (prm π ops).size).fr d from (ovr_sq _ d fun j hj _=>hall j hj).trans (seqF hJ.pre d _ (Nat.le_refl _))] at this
   ·have hH:HS T (πS S) (prm π ops).size=lookR (T.s (prm π ops).size).hp:=funext fun u=>(ovr_sq _ u fun j hj _=>hall j hj).trans (seqH hJ.pre u _ (Nat.le_refl _))
    have hI:=hJ.inv
    rw [hH] at hI
    refine { hI with ver:=fun u hu=>?_ }
    rcases hI.ver u hu with hu | ⟨j,j1,j2,j3,j4⟩
    ·exact Nat.lt_of_lt_of_le hu (nx_le hJ.pre (i:=0) _ (Nat.zero_le _) (Nat.le_refl _))
    ·have:=nx_le hJ.pre (i:=j + 1) _ j1 (Nat.le_refl _);show u < _;omega
  ·have:=(Array.getElem?_eq_some_iff.1 ho').1;omega
theorem rgp {σ:AS} {id:Nat} {K:AS→Prop} {Q:Exit→AS→Prop} (π:List Nat) (hm:P.follows .mixedOrders=true) (hb:(okP π ops && drB (prm π ops) (tab (prm π ops)))=true) (h:dch P X ops (tab (prm π ops)) (Q .normal) (osP π ops) 0 [] σ [] []):rgn P X e id ops K σ Q true:=by
 rw [Bool.and_eq_true] at hb
 exact drawnP hm π hb.1 _ hb.2 h
@[go_sem] theorem osP_eq:osP π ops=π.map fun i=>(ops[i]?).getD nop:=rfl
end
end Am
end Go.Proofs.YtkgbjoepjcenlaaDoor
namespace Go.Proofs.YtkgbjoepjcenlaaDoor
open Am Go.RowKit
set_option maxRecDepth 100000
theorem hmx:Tryd.prog.follows .mixedOrders=true:=by kernel_rfl
theorem cmp_c (X:Ev) (a b:Int):AC Tryd.prog X 41 [iv a,iv b] [] fun r rows=>r=iv (Tm.cmpI a b)∧rows=[]:=
 AC.pure1 [.int .i64 a,.int .i64 b] Tryd.call41 fun w=>cmp_any a b w
theorem Tm.sizes_mem {l:List Tm} {x:Tm} (h:x ∈ l):x.size≤Tm.sizes l:=by
 induction l with
 | nil=>simp at h
 | cons y l ih=>
   simp only [Tm.sizes]
   rcases List.mem_cons.1 h with rfl | h
   ·omega
   ·have:=ih h;omega
theorem Tm.kid_lt {t:Tm} {j:Nat} (h:j < t.kids.length):t.kids[j].size < t.size:=by
 have:=Tm.size_kids t
 have:=Tm.sizes_mem (List.getElem_mem h)
 omega
theorem Tm.kids_le (t:Tm):t.kids.length < t.size:=by
 have:=Tm.size_kids t
 have:=Tm.length_le_sizes t.kids
 omega
set_option maxHeartbeats 4000000 in
theorem rcomp_c (X:Ev) (d:Nat):∀ t u:Tm,t.size≤d→t.size≤1000000000→u.size≤1000000000→AC Tryd.prog X 22 [tmS t,tmS u] [] fun r rows=>r=iv (Tm.compare t u)∧rows=[]:=by
 induction d with
 | zero=>intro t u h;have:=Tm.size_pos t;omega
 | succ d ih=>
   intro t u hd ht hu
   have IH:=Lib.hid ih
   clear ih
   have k1:=Tm.kids_le t
   have k2:=Tm.kids_le u
   have HK1:=Lib.hid (fun j (h:j < t.kids.length)=>Tm.kid_lt h)
   have HK2:=Lib.hid (fun j (h:j < u.kids.length)=>Tm.kid_lt h)
   have HC:=Lib.hid (Tm.compare_cs t u)
   have HS:=Lib.hid (fun j (h1:j < t.kids.length) (h2:j < u.kids.length)=>Tm.compares_step (l:=t.kids) (m:=u.kids) h1 h2)
   have HE:=Lib.hid (fun j (h1:t.kids.length≤j)=>Tm.compares_end (l:=t.kids) (m:=u.kids) h1)
   have e0:Tm.cs t u 0=Tm.cmpI t.op u.op:=rfl
   have e1:Tm.cs t u 1=Tm.cmpI t.num u.num:=rfl
   have e2:Tm.cs t u 2=Tm.cmpI t.kids.length u.kids.length:=rfl
   rw [e0,e1,e2] at HC
   clear e0 e1 e2
   show AC Tryd.prog X 22 [.agg [iv t.op,iv t.num,tsl t.kids],.agg [iv u.op,iv u.num,tsl u.kids]] [] _
   generalize Tm.compare t u=R at *
   generalize t.op=tp at *
   generalize t.num=tn at *
   generalize u.op=uo at *
   generalize u.num=un at *
   generalize t.kids=tk at *
   generalize u.kids=uk at *
   refine AC.bodyW false Tryd.func22 rfl Tryd.call22 Tryd.ntmps22 (by simp) fun e nx=>?_
   go_simp
   refine sqc ?_;go_simp
   refine sqc ?_;go_simp
   refine cl [] [] (cmp_c X tp uo) (by go_simp) ?_
   rintro r rows ⟨rfl,rfl⟩
   go_simp
   refine ifn (fun h=>?_) (fun h=>?_) <;> go_simp
   ·rw [HC.out,if_pos h]
   rw [if_neg (by simpa using h)] at HC
   clear h
   refine sqc ?_;go_simp
   refine cl [] [] (cmp_c X tn un) (by go_simp) ?_
   rintro r rows ⟨rfl,rfl⟩
   go_simp
   refine ifn (fun h=>?_) (fun h=>?_) <;> go_simp
   ·rw [HC.out,if_pos h]
   rw [if_neg (by simpa using h)] at HC
   clear h
   refine sqc ?_;go_simp
   refine cl [] [] (cmp_c X tk.length uk.length) (by go_simp) ?_
   rintro r rows ⟨rfl,rfl⟩
   go_simp
   refine ifn (fun h=>?_) (fun h=>?_) <;> go_simp
   ·rw [HC.out,if_pos h]
   rw [if_neg (by simpa using h)] at HC
   have hl:tk.length=uk.length:=by
    have:=Tm.cmpI_zero.1 (by simpa using h:Tm.cmpI (tk.length:Int) uk.length=0)
    omega
   clear h
   refine sqc ?_;go_simp
   have HL:=Lib.hid hl
   clear hl
   refine lp (α:=Nat × Nat) (fun x=>x.2≤tk.length∧R=Tm.compares (tk.drop x.2) (uk.drop x.2)) (fun x=>⟨[(2,.ptr 2 nx 0),(3,.ptr 3 (nx + 1) 0),(38,iv tk.length),(39,iv x.2)],[(2,⟨nx,28,3,[iv tp,iv tn,tsl tk]⟩),(3,⟨nx + 1,28,3,[iv uo,iv un,tsl uk]⟩)],x.1,[],57⟩) (fun x=>tk.length - x.2) [] [] (nx + 1 + 1,0) ?_ ?_
   ·dsimp only
    go_simp
    exact ⟨by rw [HC.out],by rw [HL.out]⟩
   rintro ⟨v,i⟩ ⟨hi,hR⟩
   replace hi:i≤tk.length:=hi
   have HR:=Lib.hid hR
   clear hR
   dsimp only
   refine gw ?_
   go_simp
   refine ifd (fun h=>?_) (fun h=>?_) <;> go_simp
   ·have hj1:i < tk.length:=by omega
    have hj2:i < uk.length:=by rw [← HL.out];omega
    have hst:=HS.out i hj1 hj2
    have hih:=IH.out tk[i] uk[i] (by have:=HK1.out i hj1;omega) (by have:=HK1.out i hj1;omega) (by have:=HK2.out i hj2;omega)
    rw [← HR.out] at hst
    refine rg hmx (by kernel_rfl) ?_
    go_simp
    have HST:=Lib.hid hst
    clear hst HR
    generalize tk[i]=x at *
    generalize uk[i]=y at *
    go_simp
    refine cl [] [] hih (by go_simp) ?_
    rintro r rows ⟨rfl,rfl⟩
    go_simp
    refine ifn (fun h=>?_) (fun h=>?_) <;> go_simp
    go_bits
    exact ⟨_,i + 1,⟨by omega,rfl⟩,by omega,Nat.le_refl _,by omega⟩
   ·refine gw ?_;go_simp
    rw [HR.out,HE.out i (by omega)]
end Go.Proofs.YtkgbjoepjcenlaaDoor
namespace Go.Proofs.YtkgbjoepjcenlaaDoor
open Am Go.RowKit
set_option maxRecDepth 100000
theorem Am.atL.app {g:Cx} {w:World}:∀ {cs ds:List SV} {b o:Nat},atL g w (cs ++ ds) b o→atL g w cs b o∧atL g w ds b (o + cs.length)
 | [],_,_,_,h=>⟨trivial,h⟩
 | c :: cs,ds,b,o,h=>by
   have:=Am.atL.app (cs:=cs) (ds:=ds) h.2
   exact ⟨⟨h.1,this.1⟩,by rw [List.length_cons,show o + (cs.length + 1)=o + 1 + cs.length by omega];exact this.2⟩
theorem tmC_len (x:Tm):(tmC x).length=3:=by rw [tmC_eq];rfl
mutual
theorem tr_ag {g:Cx} {w:World}:∀ (x:Tm) {vs:List Value},x.size≤1000000000→agL g w (tmC x) vs→∃ (a:Option Addr) (n c:Nat),vs=[.int .i64 x.op,.int .i64 x.num,.slice a n c]∧n≤c∧TR g.Z w x a n
 | .mk o n ks,vs,hs,h=>by
   unfold tmC at h
   match vs,h with
   | [v1,v2,v3],h=>
     obtain ⟨h1,h2,h3,_⟩:=h
     have h1:v1=.int .i64 o:=h1
     have h2:v2=.int .i64 n:=h2
     obtain ⟨a,c,rfl,hc,hl2,h4⟩:=h3
     have hsz:1 + Tm.sizes ks≤1000000000:=by simpa [Tm.size] using hs
     have hle:=Tm.length_le_sizes ks
     refine ⟨a,ks.length,c,by rw [h1,h2];rfl,hc.1,?_⟩
     unfold TR
     refine ⟨rfl,by omega,?_⟩
     rcases h4 with h4 | ⟨b2,o2,rfl,hz,h4⟩
     ·rw [tmL_len] at h4
      cases ks with
      | nil=>unfold KR;trivial
      | cons y l=>simp at h4
     ·exact tkr_at (g:=g.pure) ks (i:=0) (by omega) hz (by rwa [Nat.zero_mul,Nat.add_zero])
theorem tkr_at {g:Cx} {w:World}:∀ (l:List Tm) {b o i:Nat},Tm.sizes l≤1000000000→g.Z b→atL g w (tmL l) b (o + i * 3)→KR g.Z w l (some ⟨b,o,none⟩) i
 | [],_,_,_,_,_,_=>by unfold KR;trivial
 | x :: l,b,o,i,hs,hz,h=>by
   have hss:x.size + Tm.sizes l≤1000000000:=by simpa [Tm.sizes] using hs
   have h2:atL g w (tmC x ++ tmL l) b (o + i * 3):=by unfold tmL at h;exact h
   obtain ⟨h3,h4⟩:=h2.app
   rw [tmC_len] at h4
   obtain ⟨vs,h5,h6⟩:=h3.vals
   obtain ⟨an,nn,cc,rfl,hcc,hI⟩:=tr_ag x (by omega) h5
   unfold KR
   rw [tmC_len] at h6
   have cell:∀ j v,[Value.int .i64 x.op,.int .i64 x.num,.slice an nn cc][j]?=some v→j < 3→w.cell? ⟨b,o + i * 3 + j,none⟩=some v:=fun j v hj hlt=>by
    obtain ⟨u,e1,e2⟩:=h6 j hlt
    rw [hj] at e1;cases e1;exact e2
   exact ⟨⟨b,o,an,nn,cc,rfl,⟨hz,hcc⟩,cell 0 _ rfl (by omega),cell 1 _ rfl (by omega),cell 2 _ rfl (by omega),hI⟩,tkr_at l (by omega) hz (by rw [show o + (i + 1) * 3=o + i * 3 + 3 by omega];exact h4)⟩
end
theorem tr_of {g:Cx} {w:World} {x:Tm} {v:Value} (hs:x.size≤1000000000) (h:holds g w (tmS x) v):∃ (a:Option Addr) (n c:Nat),v=.agg #[.int .i64 x.op,.int .i64 x.num,.slice a n c]∧n≤c∧TR g.Z w x a n:=by
 obtain ⟨vs,e,h⟩:=h
 obtain ⟨a,n,c,rfl,hc,hI⟩:=tr_ag x hs (by rw [tmC_eq];exact h)
 exact ⟨a,n,c,e,hc,hI⟩
theorem tl_of {g:Cx} {w:World} {l:List Tm} {v:Value} (hs:Tm.sizes l≤1000000000) (h:holds g w (tsl l) v):∃ (a:Option Addr) (c:Nat),v=.slice a l.length c∧l.length≤c∧TL g.Z w l a l.length:=by
 obtain ⟨a,c,rfl,hc,hl2,h4⟩:=h
 have hle:=Tm.length_le_sizes l
 refine ⟨a,c,rfl,hc.1,rfl,by omega,fun j hj=>?_⟩
 rcases h4 with h4 | ⟨b2,o2,rfl,hz,h4⟩
 ·rw [tmL_len] at h4;omega
 ·have:=(KR_iff l 0).1 (tkr_at (g:=g.pure) l (i:=0) hs hz (by rwa [Nat.zero_mul,Nat.add_zero])) j hj
  rwa [Nat.zero_add] at this
theorem AC.freshV {P:Program} {X:Ev} {f:FuncId} {C:SV→Prop} {args:List SV} (hgo:∀ vals w,(callFunc f vals).run P w=.ok (.enter f vals) w) (hc:∀ g w vals,X.E w→(∀ b,g.Z b→b < w.heap.size)→agL g w args vals→Calls P f vals.toArray w fun e w'=>∃ v r,e=.returned v∧C r∧(∀ g':Cx,(∀ b,w.heap.size≤b→b < w'.heap.size→g'.Z b)→∀ nx,holds g' w' (ren 0 nx r) v)∧Below w.heap.size w w'):AC P X f args [] fun r rows=>C r∧rows=[]:=
 ⟨fun g w vals nx hE hz hv hb ha hrow hap=>.inl ⟨hgo _ _,(hc g w vals hE hz ha).mono fun e w' ⟨v,r,he,hC,hh,hW⟩=>by
  exact ⟨v,r,[],⟨fun b=>g.Z b∨(w.heap.size≤b∧b < w'.heap.size),g.A,g.mu,g.ka⟩,he,⟨hC,rfl⟩,hh _ (fun b h1 h2=>Or.inr ⟨h1,h2⟩) nx,⟨fun b hb=>.inl hb,fun u hu=>⟨hu,rfl,rfl⟩⟩,fun b hb=>hb,.inl rfl,fun i r q h=>by simp at h,fun q hq=>by simp [rnR] at hq,fun u hu=>.inl hu,hW.size,fun b hb _=>hW.block b hb,⟨hW.os,hW.tape,hW.output⟩,X.st w w' hW.size hE fun b hb=>hW.block b (X.lt w b hE hb)⟩⟩⟩
section
variable (X:Ev)
theorem rvalid_c (t:Tm) (hs:t.size≤1000000000):AC Tryd.prog X 19 [tmS t] [] fun r rows=>r=bov (Tm.valid t)∧rows=[]:=
 AC.freshV Tryd.call19 fun g w vals hE hz ha=>by
  match vals,ha with
  | [v],ha=>
    obtain ⟨a,n,c,rfl,hc,hT⟩:=tr_of hs ha.1
    exact (validR_any t a n c w g.Z hT hs).mono fun e w' ⟨he,hB⟩=>⟨_,bov (Tm.valid t),he,rfl,fun g' hg nx=>rfl,hB⟩
theorem rnormal_c (t:Tm) (hs:t.size≤1000000) (hw:Tm.wf t=true):AC Tryd.prog X 38 [tmS t] [] fun r rows=>r=tmS (Tm.normal t)∧rows=[]:=
 AC.freshV Tryd.call38 fun g w vals hE hz ha=>by
  match vals,ha with
  | [v],ha=>
    obtain ⟨a,n,c,rfl,hc,hT⟩:=tr_of (by omega) ha.1
    exact (normalR_any _ t a n c w g.Z (Nat.le_refl _) hT (by omega) hw).mono fun e w' ⟨a',n',c',he,⟨hT',hc'⟩,hB⟩=>⟨_,tmS (Tm.normal t),he,rfl,fun g' hg nx=>ht_of (fun b hb hl=>hg b hb hl) hc' hT',hB⟩
theorem rwithin_c (l:List Tm) (t:Tm) (hl:Tm.sizes l≤1000000000) (hs:t.size≤1000000000):AC Tryd.prog X 68 [tsl l,tmS t] [] fun r rows=>r=bov (Tm.within l t)∧rows=[]:=
 AC.freshV Tryd.call68 fun g w vals hE hz ha=>by
  match vals,ha with
  | [v1,v2],ha=>
    obtain ⟨a,c,rfl,hc,hL⟩:=tl_of hl ha.1
    obtain ⟨a',n',c',rfl,hc',hT⟩:=tr_of hs ha.2.1
    exact (rwithin_any l t a l.length c a' n' c' w g.Z g.Z hL hT).mono fun e w' ⟨he,hB⟩=>⟨_,bov (Tm.within l t),he,rfl,fun g' hg nx=>rfl,hB⟩
end
end Go.Proofs.YtkgbjoepjcenlaaDoor
namespace Go.Proofs.YtkgbjoepjcenlaaDoor
open Am Go.RowKit
set_option maxRecDepth 100000
theorem within_dec (l:List Tm) (t:Tm):Tm.within l t=decide (t ∈ l):=by
 rw [Bool.eq_iff_iff,decide_eq_true_iff]
 simp [Tm.within,Tm.compare_iff]
section
variable (X:Ev)
theorem rpub_c (t:Tm):AC Tryd.prog X 53 [tmS t] [] fun r rows=>r=tmS (Tm.pub t)∧rows=[]:=by
 refine AC.bodyW false Tryd.func53 rfl Tryd.call53 Tryd.ntmps53 (by simp) fun e nx=>gw ?_
 go_simp
 exact ⟨rfl,rfl,rfl,by show _=tmL [t];rw [tmL_cons];simp [tmL_nil]⟩
theorem Tm.wf_mem {l:List Tm} (h:Tm.wfs l=true) {x:Tm} (hx:x ∈ l):Tm.wf x=true:=(Tm.wfs_iff l).1 h x hx
theorem Tm.okN_two {n:Int} {l:Nat} (h:Tm.okN 7 n l=true):l=2:=by
 have:=Tm.okN_len h
 simp [Tm.arity] at this
 omega
set_option maxHeartbeats 4000000 in
theorem rbuilds_c (l:List Tm) (hl:Tm.sizes l≤1000000000) (d:Nat):∀ t:Tm,t.size≤d→t.size≤1000000→Tm.wf t=true→AC Tryd.prog X 64 [tsl l,tmS t] [] fun r rows=>r=bov (Tm.builds l t)∧rows=[]:=by
 induction d with
 | zero=>intro t h;have:=Tm.size_pos t;omega
 | succ d ih=>
   intro t hd ht hw
   have hwi:=rwithin_c X l t hl (by omega)
   rw [within_dec] at hwi
   have hwk:=Tm.wf_kids hw
   have hksz:∀ j (h:j < t.kids.length),t.kids[j].size < t.size:=fun j h=>Tm.kid_lt h
   have hklen:=Tm.kids_le t
   obtain ⟨o,n,ks⟩:=t
   have HB:=Lib.hid (show Tm.builds l (.mk o n ks)=_ from Tm.builds.eq_1 l o n ks)
   rw [kids_mk] at hksz hklen hwk
   rw [op_mk,num_mk] at hwk
   have IH:∀ (j:Nat) (h:j < ks.length),AC Tryd.prog X 64 [tsl l,tmS ks[j]] [] fun r rows=>r=bov (Tm.builds l ks[j])∧rows=[]:=fun j h=>ih _ (by have:=hksz j h;omega) (by have:=hksz j h;omega) (Tm.wf_mem hwk.2 (List.getElem_mem h))
   have IP:∀ (j:Nat) (h:j < ks.length),AC Tryd.prog X 68 [tsl l,tmS (Tm.pub ks[j])] [] fun r rows=>r=bov (decide (Tm.pub ks[j] ∈ l))∧rows=[]:=fun j h=>by
    have:=rwithin_c X l (Tm.pub ks[j]) hl (by have:=hksz j h;simp [Tm.pub,Tm.size,Tm.sizes];omega)
    rwa [within_dec] at this
   have IH:=Lib.hid IH
   have IP:=Lib.hid IP
   have HW:=Lib.hid hwk.1
   have HL:Hid (ks.length≤1000000):=by show _≤_;omega
   clear ih hksz hwk hw hd ht hklen
   generalize Tm.builds l (.mk o n ks)=R at *
   refine AC.bodyW false Tryd.func64 rfl Tryd.call64 Tryd.ntmps64 (by simp) fun e nx=>?_
   go_simp
   refine sqc ?_;go_simp
   refine sqc ?_;go_simp
   refine cl [] [] hwi (by go_simp) ?_
   rintro r rows ⟨rfl,rfl⟩
   go_simp
   refine gdd (fun h=>?_) (fun h=>?_)
   ·go_simp
    rw [HB.out,decide_eq_true h];rfl
   rw [decide_eq_false h,Bool.false_or] at HB
   clear hwi
   go_simp
   clear h
   refine gdd (fun h=>?_) (fun h=>?_)
   ·rw [if_pos h] at HB
    go_simp
    refine ifd (fun h2=>?_) (fun h2=>?_) <;> go_simp
    ·rw [HB.out,decide_eq_true h2]
    ·refine sqc ?_;go_simp
     rw [HB.out,decide_eq_false h2]
   rw [if_neg h] at HB
   go_simp
   refine sqc ?_;go_simp
   refine ifd (fun h3=>?_) (fun h3=>?_)
   ·subst h3
    obtain ⟨x,y,rfl⟩:∃ x y,ks=[x,y]:=by
     have h2:=Tm.okN_two HW.out
     match ks,h2 with
     | [x,y],_=>exact ⟨x,y,rfl⟩
    ·have a0:=IH.out 0 (by simp)
     have a1:=IH.out 1 (by simp)
     have b0:=IP.out 0 (by simp)
     have b1:=IP.out 1 (by simp)
     simp only [List.getElem_cons_zero,List.getElem_cons_succ] at a0 a1 b0 b1
     rw [if_pos rfl] at HB
     have HB2:Hid (R=((Tm.builds l x && (Tm.builds l y || decide (Tm.pub y ∈ l))) || (Tm.builds l y && decide (Tm.pub x ∈ l)))):=HB.out
     clear HB IH IP HW
     generalize Tm.builds l x=ba at *
     generalize Tm.builds l y=bb at *
     generalize decide (Tm.pub x ∈ l)=pa at *
     generalize decide (Tm.pub y ∈ l)=pb at *
     go_simp
     refine rgp [0,1,2,3,4,6,7,8,9,10,5,11,12,13] hmx (by kernel_rfl) ?_
     go_simp
     refine cl [] [] a0 (by go_simp) ?_
     rintro r rows ⟨rfl,rfl⟩
     go_simp
     refine cl [] [] a1 (by go_simp) ?_
     rintro r rows ⟨rfl,rfl⟩
     go_simp
     have py:=rpub_c X y
     have px:=rpub_c X x
     cases ba <;> cases bb <;> go_simp
     ·rw [HB2.out];rfl
     ·refine cl [] [] px (by go_simp) ?_
      rintro r rows ⟨rfl,rfl⟩
      go_simp
      refine cl [] [] b0 (by go_simp) ?_
      rintro r rows ⟨rfl,rfl⟩
      go_simp
      rw [HB2.out];simp
     ·refine cl [] [] py (by go_simp) ?_
      rintro r rows ⟨rfl,rfl⟩
      go_simp
      refine cl [] [] b1 (by go_simp) ?_
      rintro r rows ⟨rfl,rfl⟩
      go_simp
      cases pb <;> go_simp
      ·rw [HB2.out];rfl
      ·rw [HB2.out];rfl
     ·rw [HB2.out];rfl
   ·rw [if_neg h3] at HB
    go_simp
    refine sqc ?_;go_simp
    have HA:Hid (∀ j,j < ks.length→((Tm.buildsL l ks).drop j).all id=(Tm.builds l (ks.getD j (.mk 0 0 [])) && ((Tm.buildsL l ks).drop (j + 1)).all id)):=fun j hj=>by
     rw [Tm.buildsL_map,List.drop_eq_getElem_cons (by simpa using hj)]
     simp [hj]
    have HB2:Hid (R=((Tm.buildsL l ks).drop 0).all id):=HB.out
    have HE:Hid (((Tm.buildsL l ks).drop ks.length).all id=true):=by
     show _=_
     rw [List.drop_eq_nil_of_le (by rw [Tm.buildsL_map];simp)];rfl
    clear HB IP HW
    generalize Tm.buildsL l ks=bl at *
    clear h h3
    refine lp (α:=Nat × Nat) (fun x=>x.2≤ks.length∧R=(bl.drop x.2).all id) (fun x=>⟨[(0,tsl l),(69,tsl ks),(70,iv ks.length),(71,iv x.2)],[],x.1,[],80⟩) (fun x=>ks.length - x.2) [] [] (nx + 1,0) ?_ ?_
    ·dsimp only
     go_simp
     exact HB2.out
    rintro ⟨v,i⟩ ⟨hi,hR⟩
    replace hi:i≤ks.length:=hi
    have HR:=Lib.hid hR
    clear hR
    dsimp only
    refine gw ?_
    go_simp
    refine ifd (fun h=>?_) (fun h=>?_) <;> go_simp
    ·have hj1:i < ks.length:=by omega
     have hst:=HA.out i hj1
     have hih:=IH.out i hj1
     rw [List.getD_eq_getElem?_getD,List.getElem?_eq_getElem hj1,Option.getD_some,show Tm.builds l ks[i]=Tm.builds l ks[i] from rfl] at hst
     rw [← HR.out] at hst
     have HST:=Lib.hid hst
     clear hst HR
     generalize ks[i]=x at *
     generalize Tm.builds l x=bx at *
     go_simp
     refine cl [] [] hih (by go_simp) ?_
     rintro r rows ⟨rfl,rfl⟩
     go_simp
     refine ifk (fun h=>?_) (fun h=>?_) <;> go_simp
     ·rw [HST.out,show bx=false by simpa using h];rfl
     ·have:=HL.out
      go_bits
      exact ⟨_,i + 1,⟨by omega,by rw [HST.out,show bx=true by simpa using h,Bool.true_and]⟩,by omega,Nat.le_refl _,by omega⟩
    ·refine gw ?_;go_simp
     rw [HR.out,show i=ks.length by omega,HE.out]
theorem Tm.okN_ge4 {n:Int} {l:Nat} (h:Tm.okN 4 n l=true):l=4:=by
 have:=Tm.okN_len h
 simp [Tm.arity] at this
 omega
theorem Tm.okN_2 {n:Int} {l:Nat} (h:Tm.okN 5 n l=true):l=2:=by
 have:=Tm.okN_len h
 simp [Tm.arity] at this
 omega
set_option maxHeartbeats 4000000 in
theorem rapart_c (l:List Tm) (hl:Tm.sizes l≤1000000000) (t:Tm) (ht:t.size≤1000000) (hw:Tm.wf t=true):AC Tryd.prog X 67 [tsl l,tmS t] [] fun r rows=>r=tsl (Tm.parts l t)∧rows=[]:=by
 have hwk:=Tm.wf_kids hw
 have hksz:∀ j (h:j < t.kids.length),t.kids[j].size < t.size:=fun j h=>Tm.kid_lt h
 have hklen:=Tm.kids_le t
 obtain ⟨o,n,ks⟩:=t
 have HP:=Lib.hid (show Tm.parts l (.mk o n ks)=_ from Tm.parts.eq_1 l o n ks)
 rw [kids_mk] at hksz hklen hwk
 rw [op_mk,num_mk] at hwk
 have IH:∀ (j:Nat) (h:j < ks.length),AC Tryd.prog X 64 [tsl l,tmS ks[j]] [] fun r rows=>r=bov (Tm.builds l ks[j])∧rows=[]:=fun j h=>rbuilds_c X l hl ks[j].size ks[j] (Nat.le_refl _) (by have:=hksz j h;omega) (Tm.wf_mem hwk.2 (List.getElem_mem h))
 have IH:=Lib.hid IH
 have HW:=Lib.hid hwk.1
 have HL:Hid (ks.length≤1000000):=by show _≤_;omega
 clear hksz hwk hw ht hklen
 generalize Tm.parts l (.mk o n ks)=R at *
 refine AC.weak (C:=fun r rows=>(r=tsl R∨(R=[]∧r=.v (.slice none 0 0)))∧rows=[]) ?_ ?_
 ·refine AC.bodyW false Tryd.func67 rfl Tryd.call67 Tryd.ntmps67 (by simp) fun e nx=>?_
  go_simp
  refine sqc ?_;go_simp
  refine sqc ?_;go_simp
  refine ifd (fun h=>?_) (fun h=>?_) <;> go_simp
  ·rw [if_pos h] at HP
   rw [HP.out]
   exact ⟨rfl,rfl⟩
  rw [if_neg h] at HP
  refine ifd (fun h2=>?_) (fun h2=>?_) <;> go_simp
  ·rw [if_pos h2] at HP
   subst h2
   have:=Tm.okN_2 HW.out
   rw [HP.out,List.length_drop,← tmL_drops]
   refine ⟨by omega,rfl,?_⟩
   rw [List.take_of_length_le (by rw [List.length_drop,tmL_len];omega)]
  rw [if_neg h2] at HP
  refine gdd (fun h3=>?_) (fun h3=>?_)
  ·rw [if_pos h3] at HP
   rw [h3] at HW
   obtain ⟨x,y,z,u,rfl⟩:∃ x y z u,ks=[x,y,z,u]:=by
    have h2:=Tm.okN_ge4 HW.out
    match ks,h2 with
    | [x,y,z,u],_=>exact ⟨x,y,z,u,rfl⟩
   have a0:=IH.out 0 (by simp)
   simp only [List.getElem_cons_zero] at a0
   simp only [List.head?_cons,Option.map_some,Option.getD_some] at HP
   obtain ⟨bx,hbx⟩:∃ bx,Tm.builds l x=bx:=⟨_,rfl⟩
   rw [hbx] at a0
   have HP2:Hid (R=if bx=true then [u] else []):=by show _=_;rw [HP.out];cases bx <;> simp [hbx]
   clear HP hbx IH HW
   go_simp
   refine cl [] [] a0 (by go_simp) ?_
   rintro r rows ⟨rfl,rfl⟩
   cases bx <;> go_simp
   ·refine gw ?_;go_simp
    rw [HP2.out];simp
   ·rw [HP2.out]
    simp [tmL_cons,tmL_nil]
  ·rw [if_neg h3] at HP
   go_simp
   refine gw ?_;go_simp
   rw [HP.out]
 ·rintro r rows ⟨rfl | ⟨rfl,rfl⟩,rfl⟩
  ·exact ⟨_,⟨rfl,rfl⟩,fun _ _ _ _ h=>h⟩
  ·exact ⟨_,⟨rfl,rfl⟩,fun g w v nx h=>⟨none,0,h,⟨by simp,Nat.zero_le _⟩,rfl,.inl rfl⟩⟩
end
end Go.Proofs.YtkgbjoepjcenlaaDoor
