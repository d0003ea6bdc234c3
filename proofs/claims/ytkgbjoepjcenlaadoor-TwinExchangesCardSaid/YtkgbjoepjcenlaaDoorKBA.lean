/- Joined texts. -/
import Derived.Test.YtkgbjoepjcenlaaDoorKAZ
set_option linter.unusedVariables false
set_option linter.unusedSimpArgs false
namespace Go.Proofs.YtkgbjoepjcenlaaDoor
namespace Am
section
variable {P:Program} {X:Ev} {e:En} {ops:Array Oper} {t:List Nat} {K:AS→Prop} {σ:AS} {S:Nat→Bool} {a:Act} {w:World} {T:Tr} {m:Nat} {g:Cx}
abbrev Sad (S:Nat→Bool) (i:Nat):Nat→Bool:=fun k=>S k || k==i
theorem dps_of {i:Nat} {o:Oper} (ho:ops[i]?=some o):dps ops i=dpsO o:=by simp [dps,ho]
theorem Sad_closed {i:Nat} {o:Oper} (hS:Closed ops S) (ho:ops[i]?=some o) (hd:∀ j ∈ dpsO o,S j=true):Closed ops (Sad S i):=fun k o' hk hok j hj=>by
 simp only [Sad,Bool.or_eq_true,beq_iff_eq] at hk ⊢
 rcases hk with hk | rfl
 ·exact .inl (hS k o' hk hok j hj)
 ·rw [ho] at hok;cases hok
  exact .inl (hd j hj)
theorem DJ.want (h:DJ P X e ops t K σ S a w T m g) (hb:drB ops t=true) {i:Nat} {o:Oper} (ho:ops[i]?=some o) (him:i≤m) (hi:S i=false) (hd:∀ j ∈ dpsO o,S j=true):(Am.want ops (T.s i) o→Region.wanted o (yielded ops a.tmps)=true)∧(wantNo ops (T.s i) o→Region.wanted o (yielded ops a.tmps)=false):=by
 have key:∀ j b,o.guard=some (j,b)→∃ d,dsT ops j=some d∧holds g w (look (T.s i).fr d) (a.tmps.getD d undef)∧gsv (T.s i).fr ((ops[j]?).bind (·.dst))=look (T.s i).fr d:=fun j b hg=>by
  obtain ⟨h1,d,h2⟩:=(lk hb ho).guard j b hg
  refine ⟨d,h2,?_,by show gsv _ (dsT ops j)=_;rw [h2];rfl⟩
  have:=h.fr d
  rwa [h.fs hb ho him hi hd fun k hk=>by
   have hok:∃ ok,ops[k]?=some ok∧ok.dst=some d:=by
    unfold dsT at hk
    cases hk':ops[k]? with
    | none=>simp [hk'] at hk
    | some ok=>exact ⟨ok,rfl,by simpa [hk'] using hk⟩
   obtain ⟨ok,hok,hkd⟩:=hok
   have:=(lk hb hok).uniq j d h2 hkd
   subst this
   exact .inr (.inl h1)] at this
 have hy:∀ j d,dsT ops j=some d→yielded ops a.tmps j=match a.tmps[d]? with | some (.bool b)=>some b | _=>none:=fun j d hj=>by
  unfold yielded
  rw [show ((ops[j]?).bind (·.dst))=some d from hj]
  rfl
 constructor
 ·intro hw
  unfold Am.want at hw
  cases hg:o.guard with
  | none=>simp [Region.wanted,hg]
  | some jb=>
    obtain ⟨j,b⟩:=jb
    rw [hg] at hw
    obtain ⟨d,h1,h2,h3⟩:=key j b hg
    have hw:gsv (T.s i).fr ((ops[j]?).bind (·.dst))=.v (.bool b):=hw
    rw [h3] at hw
    rw [hw] at h2
    have h2:a.tmps.getD d undef=.bool b:=h2
    have:a.tmps[d]?=some (.bool b):=by
     rw [Array.getD_eq_getD_getElem?] at h2
     cases hx:a.tmps[d]? with
     | none=>rw [hx] at h2;cases h2
     | some x=>rw [hx] at h2;exact congrArg some h2
    simp [Region.wanted,hg,hy j d h1,this]
 ·rintro ⟨j,b,hg,hv⟩
  obtain ⟨d,h1,h2,h3⟩:=key j b hg
  rw [h3] at hv
  have:∀ c,a.tmps[d]?=some (.bool c)→c= !b:=fun c hc=>by
   rw [Array.getD_eq_getD_getElem?,hc] at h2
   rcases hv with hv | ⟨vs,hv⟩
   ·rw [hv] at h2
    have h2:Value.bool c=.bool (!b):=h2
    cases h2;rfl
   ·rw [hv] at h2
    have h2:Value.bool c=.tuple vs:=h2
    cases h2
  simp only [Region.wanted,hg,hy j d h1]
  split
  ·rename_i c hc
   have:=this c hc
   subst this
   cases b <;> rfl
  ·rfl
theorem DJ.det_next (h:DJ P X e ops t K σ S a w T m g) (hb:drB ops t=true) {i:Nat} {o:Oper} (ho:ops[i]?=some o) (him:i < m) (hi:S i=false) (hd:∀ j ∈ dpsO o,S j=true) {v:Value} {w':World} {g':Cx} (hv:holds g' w' (T.r i) v) (hle:g.le g') (hZ:∀ b,g.Z b→w'.heap[b]?=w.heap[b]?)
 (hI:Inv X e g' w' (fun u=>if (T.wr i).contains u=true then lookR (T.s (i + 1)).hp u else HS T S m u) (VS T (Sad S i) m) (T.s m).fz):DJ P X e ops t K σ (Sad S i) (a.put o.dst v) w' T m g':=by
 have hst:=h.pre.st i him
 obtain ⟨o',ho',hs⟩:=hst
 rw [ho] at ho';cases ho'
 have L:=lk hb ho
 have hdk:=(step_of hs).2.2.2.2.1
 have hN:=N_eq h.pre i (by omega)
 rw [h.s0] at hN
 have hlater:∀ j,i < j→(t.getD j 0).testBit i=true→j < m→S j=false:=fun j hj hm hjm=>by
  cases hSj:S j with
  | false=>rfl
  | true=>
    obtain ⟨oj,hoj,_⟩:=h.pre.st j hjm
    have:=h.anc hb hoj hSj hm
    rw [hi] at this;cases this
 refine ⟨h.s0,h.pre,h.stop,fun k hk=>?_,Sad_closed h.cl ho hd,fun k o' hk hok=>(h.all k o' hk hok).imp id fun hS=>by simp [Sad,hS],?_,?_,fun d=>?_,?_⟩
 ·simp only [Sad,Bool.or_eq_true,beq_iff_eq] at hk
  rcases hk with hk | rfl
  ·exact h.lt k hk
  ·exact him
 ·cases hd':o.dst <;> simp [Act.put,h.df]
 ·cases hd':o.dst <;> simp [Act.put,h.sz]
 ·have hf:FS ops T (Sad S i) m d=if i < m∧wF ops i d=true then T.r i else FS ops T S m d:=ovr_add hi m d fun hw j hj hjm hwj=>by
   have h1:dsT ops j=some d:=by simpa [wF] using hwj
   have h2:o.dst=some d:=by
    have:dsT ops i=some d:=by simpa [wF] using hw
    simpa [dsT,ho] using this
   have:=L.uniq j d h1 h2
   omega
  rw [hf]
  have hwi:wF ops i d=(o.dst==some d):=by simp [wF,dsT,ho]
  have hold:=holds.mono hle hZ _ _ (h.fr d)
  cases hdst:o.dst with
  | none=>
    rw [hwi,hdst]
    simpa [Act.put] using hold
  | some x=>
    rw [hwi,hdst]
    rw [hdst] at hdk
    have hx:x < σ.N:=by rw [← hN];exact hdk
    by_cases hxd:x=d
    ·subst hxd
     rw [if_pos ⟨him,by simp⟩]
     simp only [Act.put,Array.getD_eq_getD_getElem?]
     simp [h.sz,hx]
     exact hv
    ·rw [if_neg (by simp [hxd])]
     simp only [Act.put]
     rw [Array.getD_eq_getD_getElem?] at hold ⊢
     rwa [Array.getElem?_setIfInBounds_ne hxd]
 ·have:HS T (Sad S i) m=fun u=>if (T.wr i).contains u=true then lookR (T.s (i + 1)).hp u else HS T S m u:=by
   funext u
   have:=ovr_add (z:=lookR (T.s 0).hp) (wt:=wH T) (nw:=fun j u=>lookR (T.s (j + 1)).hp u) hi m u fun hw j hj hjm hwj=>hlater j hj (h.pre.cf i j hj hjm (clash_wr (by simpa [wH] using hw) (.inl (by simpa [wH] using hwj)))) hjm
   rw [show HS T (Sad S i) m u=ovr (lookR (T.s 0).hp) (fun j=>S j || j==i) (wH T) (fun j u=>lookR (T.s (j + 1)).hp u) m u from rfl,this]
   by_cases hw:(T.wr i).contains u=true
   ·rw [if_pos ⟨him,hw⟩,if_pos hw]
   ·rw [if_neg fun h=>hw h.2,if_neg hw]
  rw [this]
  exact hI
theorem VS_mono {i:Nat} {u:Nat} (h:VS T S m u):VS T (Sad S i) m u:=h.imp id fun ⟨j,a,b,c⟩=>⟨j,a,by simp [Sad,b],c⟩
theorem DJ.det (h:DJ P X e ops t K σ S a w T m g) (hb:drB ops t=true) {i:Nat} {o:Oper} (ho:ops[i]?=some o) (him:i < m) (hi:S i=false) (hd:∀ j ∈ dpsO o,S j=true) {Q:Exit→Act→World→Prop} {next:Act→World→Prop} (hn:∀ a' w' g',DJ P X e ops t K σ (Sad S i) a' w' T m g'→next a' w'):wpOp P ops Q i next a w:=by
 have hst:=(h.all i o him ho).resolve_right (by simp [hi])
 have hst0:=hst
 have L:=lk hb ho
 have hwant:=h.want hb ho (Nat.le_of_lt him) hi hd
 have hops:∀ x ∈ o.op.operands,holds g w (ev (T.s i).fr x) (a.eval x):=fun x hx=>by
  cases x with
  | tmp d=>
    have:=h.fr d
    rwa [h.fs hb ho (Nat.le_of_lt him) hi hd fun j hj=>L.read j d hj (by
     unfold rdsT
     rw [Array.any_eq_true]
     obtain ⟨k,hk,e'⟩:=Array.mem_iff_getElem.1 hx
     exact ⟨k,hk,by rw [e'];simp⟩)] at this
  | const v=>rfl
  | global i=>rfl
  | func f=>rfl
 have hrows:∀ u,(u ∈ T.rd i∨u ∈ T.wr i)→lookR (T.s i).hp u=HS T S m u:=fun u hu=>h.hs hb ho (Nat.le_of_lt him) hi hd (fun j hj hw=>h.pre.cf j i hj him (clash_wr hw (hu.symm))) fun j hj hjm hw=>h.pre.cf i j hj hjm (by
  rcases hu with hu | hu
  ·exact clash_rd hu hw
  ·exact clash_wr hu (.inl hw))
 unfold wpOp
 rw [ho]
 cases hst with
 | det R hw hc hR hp hdk h1 h2 h3 h4=>
   simp only
   rw [if_pos (hwant.1 hw)]
   left
   have hwr:∀ u,(∃ r',R.wr=some (u,r'))→u ∈ T.wr i:=fun u ⟨r',e'⟩=>by rw [h4,e'];simp [wrs]
   have hnx:R.wr≠none→(T.s (i + 1)).nx=(T.s i).nx + 1:=fun hne=>by
    rw [h1]
    show nxW _ R.wr=_
    cases hx:R.wr with
    | none=>exact absurd hx hne
    | some x=>rfl
   refine det_wp (V':=VS T (Sad S i) m) hops h.inv hR hp (fun u hu=>hrows u (hu.imp (fun hu=>by rw [h3];exact hu) (hwr u))) (fun u r' e' hz=>?_) (fun hne hA=>?_) (fun u hu=>VS_mono hu) (fun hne=>.inr ⟨i,him,by simp [Sad],rfl,by rw [hnx hne];omega⟩) fun v w' g' k1 k2 k3 k4=>?_
   ·cases hz':(T.s m).fz.contains u with
    | false=>rfl
    | true=>
      rcases fz_in h.pre (i:=i) m (Nat.le_of_lt him) (Nat.le_refl _) hz' with hz2 | ⟨j,oj,j1,j2,j3,j4,j5⟩
      ·rw [hz] at hz2;cases hz2
      ·have hSj:=(h.all j oj j2 j3).resolve_left j5
       rcases Nat.lt_or_ge i j with hlt | hge
       ·have:=h.anc hb j3 hSj (h.pre.cf i j hlt j2 (clash_wr (hwr u ⟨r',e'⟩) (.inr j4)))
        rw [hi] at this;cases this
       ·obtain rfl:j=i:=by omega
        rw [hi] at hSj;cases hSj
   ·have hx:=hnx hne
    rcases h.inv.ver _ hA with hlt | ⟨j,j1,j2,j3,j4⟩
    ·have:=nx_le h.pre (i:=0) i (Nat.zero_le _) (Nat.le_of_lt him)
     omega
    ·rcases Nat.lt_trichotomy j i with hlt | rfl | hgt
     ·have:=nx_le h.pre (i:=j + 1) i hlt (Nat.le_of_lt him);omega
     ·rw [hi] at j2;cases j2
     ·have:=nx_le h.pre (i:=i + 1) j hgt (Nat.le_of_lt j1);omega
   ·refine hn _ _ g' (h.det_next hb ho him hi hd (by rw [h2];exact k1) k3 k4 ?_)
    have:(fun u=>if (T.wr i).contains u=true then lookR (T.s (i + 1)).hp u else HS T S m u)=putH (HS T S m) R.wr:=by
     funext u
     rw [h1,h4]
     show (if _ then lookR (putW _ _) u else _)=_
     rw [lookR_putW]
     cases R.wr with
     | none=>rfl
     | some x=>
       obtain ⟨s,r⟩:=x
       by_cases hsu:s=u
       ·subst hsu;simp [wrs,putH]
       ·simp [wrs,putH,hsu,Ne.symm hsu]
    rw [this]
    exact k2
 | skip hw hdk h1 h2 h3 h4=>
   simp only
   rw [if_neg (by rw [hwant.2 hw];simp)]
   refine hn _ _ g (h.det_next hb ho him hi hd (by rw [h2];rfl) (.refl g) (fun _ _=>rfl) ?_)
   have:(fun u=>if (T.wr i).contains u=true then lookR (T.s (i + 1)).hp u else HS T S m u)=HS T S m:=by
    funext u;rw [h4];simp
   rw [this]
   exact { h.inv with ver:=fun u hu=>VS_mono (h.inv.ver u hu) }
theorem ovr_ext {α:Type} {z:Nat→α} {S S':Nat→Bool} {wt wt':Nat→Nat→Bool} {nw nw':Nat→Nat→α} {u:Nat}:∀ k,(∀ j,j < k→S j=S' j∧wt j u=wt' j u∧nw j u=nw' j u)→ovr z S wt nw k u=ovr z S' wt' nw' k u
 | 0,_=>rfl
 | k + 1,h=>by
   obtain ⟨h1,h2,h3⟩:=h k (by omega)
   unfold ovr
   rw [h1,h2,h3,ovr_ext k fun j hj=>h j (by omega)]
theorem fz_same {T:Tr} {m':Nat} (h:Pre P ops t m' T) {i:Nat}:∀ k,i≤k→k≤m'→(∀ j o,i≤j→j < k→ops[j]?=some o→StD P ops T j o)→(T.s k).fz=(T.s i).fz
 | 0,h1,_,_=>by obtain rfl:i=0:=by omega
                rfl
 | k + 1,h1,h2,h3=>by
   rcases Nat.lt_or_ge k i with hlt | hge
   ·obtain rfl:i=k + 1:=by omega
    rfl
   ·obtain ⟨o,ho,_⟩:=h.st k (by omega)
    have:=fz_same h k hge (by omega) fun j o hj hj'=>h3 j o hj (by omega)
    rw [← this]
    cases h3 k o hge (by omega) ho with
    | det R _ _ _ _ _ h1 _ _ _=>rw [h1];rfl
    | skip _ _ h1 _ _ _=>rw [h1]
theorem DJ.call (h:DJ P X e ops t K σ S a w T m g) (hb:drB ops t=true) {o:Oper} (ho:ops[m]?=some o) (hd:∀ j ∈ dpsO o,S j=true) {Q:Exit→Act→World→Prop} {next:Act→World→Prop} (hn:∀ a' w' T' m' g',DJ P X e ops t K σ (Sad S m) a' w' T' m' g'→next a' w'):wpOp P ops Q m next a w:=by
 have hm:=(Array.getElem?_eq_some_iff.1 ho).1
 have hi:S m=false:=by
  cases hS:S m with
  | false=>rfl
  | true=>have:=h.lt m hS;omega
 rcases h.stop with ⟨h1,_⟩ | ⟨o',f,args,ts,n,fs,L,C,ho',hop,hw,hfn,hdk,hac,hL,hcf,hK⟩
 ·omega
 rw [ho] at ho';cases ho'
 have hwant:=h.want hb ho (Nat.le_refl _) hi hd
 have Lk:=lk hb ho
 have hops:∀ x ∈ o.op.operands,holds g w (ev (T.s m).fr x) (a.eval x):=fun x hx=>by
  cases x with
  | tmp d=>
    have:=h.fr d
    rwa [h.fs hb ho (Nat.le_refl _) hi hd fun j hj=>Lk.read j d hj (by
     unfold rdsT
     rw [Array.any_eq_true]
     obtain ⟨k,hk,e'⟩:=Array.mem_iff_getElem.1 hx
     exact ⟨k,hk,by rw [e'];simp⟩)] at this
  | const v=>rfl
  | global i=>rfl
  | func f=>rfl
 have hrows:∀ u,(u ∈ fs∨u ∈ L)→lookR (T.s m).hp u=HS T S m u:=fun u hu=>h.hs hb ho (Nat.le_refl _) hi hd (fun j hj hw=>hcf j hj (clash_wr hw hu.symm)) fun j hj hjm _=>by omega
 unfold wpOp
 rw [ho]
 simp only
 rw [if_pos (hwant.1 hw)]
 left
 refine cal_wp (nx:=(T.s m).nx) hop hops h.inv hfn hac hL (fun s hs=>hrows s (.inl (by simpa using hs))) (fun s hs=>hrows s (.inr hs)) (fun u hu=>?_) (o.dst.getD 0) fun v w' g' r0 rows hC hlen hh hI' hle hZ=>?_
 ·rcases hu with hu | ⟨j,j1,j2,j3,j4⟩
  ·have:=nx_le h.pre (i:=0) m (Nat.zero_le _) (Nat.le_refl _);omega
  ·have:=nx_le h.pre (i:=j + 1) m j1 (Nat.le_refl _);omega
 ·obtain ⟨hno0,hcf',hL'⟩:=hK r0 rows hC hlen
  have hI':=hI' hno0
  obtain ⟨r,hr⟩:∃ r,r=ren (o.dst.getD 0) (T.s m).nx r0:=⟨_,rfl⟩
  obtain ⟨W,hW⟩:∃ W,W=wl (o.dst.getD 0) L rows:=⟨_,rfl⟩
  obtain ⟨σ1,hσ1⟩:∃ σ1,σ1=(T.s m).called o.dst fs L r0 rows:=⟨_,rfl⟩
  have hσhp:σ1.hp=putRs (T.s m).hp W (rnR (T.s m).nx L rows):=by rw [hσ1,hW];rfl
  have hσfz:σ1.fz=fzA fs (T.s m).fz r0 rows:=by rw [hσ1];rfl
  have hσnx:(rows.length=L.length + 1→σ1.nx=(T.s m).nx + 1):=fun hl=>by
   rw [hσ1]
   show nxA _ _ _=_
   rcases nxA_eq (nx:=(T.s m).nx) hlen with ⟨e0,_⟩ | ⟨_,e⟩
   ·omega
   ·exact e
  rw [← hr,← hW,← hσ1] at hL'
  rw [← hW] at hcf' hI'
  rw [← hr] at hh
  have hpre:=h.pre.ext (σ':=σ1) (r:=r) (rd:=fs) (wr:=W) ho (.inr ⟨by rw [hop];rfl,L,r0,rows,hlen,by rw [(T.ext_new m _ r fs W).1];exact hdk,by
   obtain ⟨e1,e2,e3,e4,e5⟩:=T.ext_new m σ1 r fs W
   rw [e1,e2,e4];exact hσ1,by
   obtain ⟨e1,e2,e3,e4,e5⟩:=T.ext_new m σ1 r fs W
   rw [e1,e3];exact hr,by
   obtain ⟨e1,e2,e3,e4,e5⟩:=T.ext_new m σ1 r fs W
   rw [e5];exact hW⟩) hcf'
  obtain ⟨T',m',q1,q2,q3,q4,q5,q6⟩:=advance _ (m + 1) _ rfl hpre hL'
  obtain ⟨e1,e2,e3,e4,e5⟩:=T.ext_new m σ1 r fs W
  have hold:∀ j,j < m→T'.s j=T.s j∧T'.s (j + 1)=T.s (j + 1)∧T'.r j=T.r j∧T'.rd j=T.rd j∧T'.wr j=T.wr j:=fun j hj=>by
   obtain ⟨f1,f2,f3,f4,f5⟩:=T.ext_old σ1 r fs W hj
   obtain ⟨g3,g4,g5⟩:=q5 j (by omega)
   exact ⟨(q4 j (by omega)).trans f1,(q4 (j + 1) (by omega)).trans f2,g3.trans f3,g4.trans f4,g5.trans f5⟩
  have hm0:T'.s m=T.s m:=(q4 m (by omega)).trans e1
  have hm1:T'.s (m + 1)=σ1:=(q4 (m + 1) (Nat.le_refl _)).trans e2
  obtain ⟨g3,g4,g5⟩:=q5 m (by omega)
  have h00:T'.s 0=T.s 0:=by
   rcases Nat.eq_zero_or_pos m with hz | hz
   ·rw [← hz];exact hm0
   ·exact (hold 0 hz).1
  have hfzm:(T'.s m').fz=fzA fs (T.s m).fz r0 rows:=by
   rw [fz_same q2 m' q1 (Nat.le_refl _) fun j o hj hj' ho'=>q6 j o hj hj' ho',hm1]
   exact hσfz
  have hno:∀ j,m + 1≤j→Sad S m j=false:=fun j hj=>by
   cases hS:S j with
   | true=>have:=h.lt j hS;omega
   | false=>
     have:(j==m)=false:=by simp;omega
     simp [Sad,hS,this]
  refine hn _ _ T' m' g' ⟨h00.trans h.s0,q2,q3,fun k hk=>?_,Sad_closed h.cl ho hd,fun k o' hk hok=>?_,?_,?_,fun d=>?_,?_⟩
  ·simp only [Sad,Bool.or_eq_true,beq_iff_eq] at hk
   rcases hk with hk | rfl
   ·have:=h.lt k hk;omega
   ·omega
  ·rcases Nat.lt_trichotomy k m with hlt | rfl | hgt
   ·refine (h.all k o' hlt hok).imp (fun hst=>?_) fun hS=>by simp [Sad,hS]
    obtain ⟨f1,f2,f3,f4,f5⟩:=hold k hlt
    exact hst.congr f1 f2 f3 f4 f5
   ·exact .inr (by simp [Sad])
   ·exact .inl (q6 k o' hgt hk hok)
  ·cases hd':o.dst <;> simp [Act.put,h.df]
  ·cases hd':o.dst <;> simp [Act.put,h.sz]
  ·have hf:FS ops T' (Sad S m) m' d=if wF ops m d=true then r else FS ops T S m d:=by
    have c1:FS ops T' (Sad S m) m' d=ovr (look (T'.s 0).fr) (Sad S m) (wF ops) (fun j _=>T'.r j) (m + 1) d:=ovr_le m' d q1 fun j hj _ _=>hno j hj
    rw [c1,h00]
    show (if (Sad S m m && wF ops m d)=true then T'.r m else ovr _ (Sad S m) (wF ops) _ m d)=_
    have hSm:Sad S m m=true:=by simp [Sad]
    rw [hSm,Bool.true_and,g3,e3]
    congr 1
    exact ovr_ext m fun j hj=>⟨by have:(j==m)=false:=by simp;omega
                                  simp [Sad,this],rfl,(hold j hj).2.2.1⟩
   rw [hf]
   have hold':=holds.mono hle hZ _ _ (h.fr d)
   have hwi:wF ops m d=(o.dst==some d):=by simp [wF,dsT,ho]
   have hN:=N_eq h.pre m (Nat.le_refl _)
   rw [h.s0] at hN
   cases hdst:o.dst with
   | none=>rw [hwi,hdst];simpa [Act.put] using hold'
   | some x=>
     rw [hwi,hdst]
     rw [hdst] at hdk
     have hx:x < σ.N:=by rw [← hN];exact hdk
     by_cases hxd:x=d
     ·subst hxd
      rw [if_pos (by simp)]
      simp only [Act.put,Array.getD_eq_getD_getElem?]
      simp [h.sz,hx]
      exact hh
     ·rw [if_neg (by simp [hxd])]
      simp only [Act.put]
      rw [Array.getD_eq_getD_getElem?] at hold' ⊢
      rwa [Array.getElem?_setIfInBounds_ne hxd]
  ·have hH:HS T' (Sad S m) m'=calH (T.s m).hp (HS T S m) W (rnR (T.s m).nx L rows):=by
    funext u
    have c1:HS T' (Sad S m) m' u=ovr (lookR (T'.s 0).hp) (Sad S m) (wH T') (fun j u=>lookR (T'.s (j + 1)).hp u) (m + 1) u:=ovr_le m' u q1 fun j hj _ _=>hno j hj
    rw [c1,h00]
    show (if (Sad S m m && wH T' m u)=true then lookR (T'.s (m + 1)).hp u else ovr _ (Sad S m) (wH T') _ m u)=_
    have hSm:Sad S m m=true:=by simp [Sad]
    have hwm:wH T' m u=W.contains u:=by unfold wH;rw [g5,e5]
    rw [hSm,Bool.true_and,hwm,hm1,hσhp]
    unfold calH
    congr 1
    exact ovr_ext m fun j hj=>by
     obtain ⟨_,f2,_,_,f5⟩:=hold j hj
     refine ⟨?_,by unfold wH;rw [f5],by rw [f2]⟩
     have:(j==m)=false:=by simp;omega
     simp [Sad,this]
   rw [hH,hfzm]
   refine { hI' with ver:=fun u hu=>?_ }
   rcases hI'.ver u hu with (hu | ⟨j,j1,j2,j3,j4⟩) | ⟨hl,hu⟩
   rotate_left 2
   ·exact .inr ⟨m,by omega,by simp [Sad],by rw [hm0];exact hu,by rw [hm0,hm1,hσnx hl];omega⟩
   ·exact .inl (by rw [h00];exact hu)
   ·obtain ⟨f1,f2,_⟩:=hold j j1
    exact .inr ⟨j,by omega,by simp [Sad,j2],by rw [f1];exact j3,by rw [f1,f2];exact j4⟩
theorem drawn {rid:Nat} {Q:Exit→AS→Prop} (hm:P.follows .mixedOrders=true) (t:List Nat) (hb:drB ops t=true) (h:dch P X ops t (Q .normal) ops.toList 0 [] σ [] []):AW P X e (.region rid ops true) Q σ:=fun a w hr=>by
 obtain ⟨hd,hs,g,hf,hI⟩:=hr
 let T0:Tr:=⟨fun _=>σ,fun _=>.any,fun _=>[],fun _=>[]⟩
 obtain ⟨T,m,q1,q2,q3,q4,q5,q6⟩:=advance (P:=P) (X:=X) (ops:=ops) (t:=t) (K:=Q .normal) _ 0 T0 rfl ⟨Nat.zero_le _,fun i hi=>by omega,fun i j _ hj=>by omega⟩ ⟨[],[],[],by simpa using h,fun j hj=>by omega⟩
 have h0:T.s 0=σ:=q4 0 (Nat.le_refl _)
 refine any_inv hm (fun S a w=>∃ T m g,DJ P X e ops t (Q .normal) σ S a w T m g) (fun i hi j hj=>?_) ⟨T,m,g,h0,q2,q3,fun i hi=>(by cases hi),fun i o hi=>(by cases hi),fun i o hi ho=>.inl (q6 i o (Nat.zero_le _) hi ho),hd,hs,fun d=>?_,?_⟩ (fun S a w i o hJ ho hi hdp=>?_) fun S a w hall hJ=>?_
 ·have ho:ops[i]?=some ops[i]:=Array.getElem?_eq_getElem hi
  rw [dps_of ho] at hj
  exact (lk hb ho).before j hj
 ·have:FS ops T (fun _=>false) m d=look σ.fr d:=by
   rw [show FS ops T (fun _=>false) m d=_ from ovr_le (i:=0) m d (Nat.zero_le _) fun _ _ _ _=>rfl]
   show look (T.s 0).fr d=_
   rw [h0]
  rw [this]
  exact @holds.mono g g w { w with drawn:=w.drawn + 1 } (.refl g) (fun _ _=>rfl) _ _ (hf d)
 ·have hH:HS T (fun _=>false) m=lookR σ.hp:=by
   funext u
   rw [show HS T (fun _=>false) m u=_ from ovr_le (i:=0) m u (Nat.zero_le _) fun _ _ _ _=>rfl]
   show lookR (T.s 0).hp u=_
   rw [h0]
  have hfz:(T.s m).fz=σ.fz:=by rw [fz_same q2 m (Nat.zero_le _) (Nat.le_refl _) fun j o _ hj ho=>q6 j o (Nat.zero_le _) hj ho,h0]
  rw [hH,hfz]
  exact ⟨hI.le,fun s r hs=> @rowIn.mono g g w { w with drawn:=w.drawn + 1 } (.refl g) (fun _ _=>rfl) r (hI.row s r hs) fun _=>rfl,hI.apart,hI.free,hI.mine,fun u hu=>.inl (by rw [h0];exact hI.ver u hu),hI.blk,hI.zlt,hI.znew,hI.keep,hI.size,hI.io,X.st w _ (Nat.le_refl w.heap.size) hI.env fun _ _=>rfl,hI.nd⟩
 ·obtain ⟨T,m,g,hJ⟩:=hJ
  rcases Nat.lt_trichotomy i m with hlt | rfl | hgt
  ·exact hJ.det hb ho hlt hi hdp fun a' w' g' h=>⟨T,m,g',h⟩
  ·exact hJ.call hb ho hdp fun a' w' T' m' g' h=>⟨T',m',g',h⟩
  ·exfalso
   have hi':=(Array.getElem?_eq_some_iff.1 ho).1
   rcases hJ.stop with ⟨h1,_⟩ | ⟨o',f,args,ts,n,fs,L,C,ho',hop,_⟩
   ·omega
   ·have:=(lk hb ho').cal (by rw [hop];rfl) i hgt hi'
    have:=anc_in hb hJ.cl (i + 1) i o (by omega) ho hdp m this
    have:=hJ.lt m this
    omega
 ·obtain ⟨T,m,g,hJ⟩:=hJ
  have hm':m=ops.size:=by
   rcases Nat.lt_or_ge m ops.size with hlt | hge
   ·have:=hJ.lt m (hall m hlt);omega
   ·have:=hJ.pre.le;omega
  subst hm'
  rcases hJ.stop with ⟨_,hK⟩ | ⟨o',f,args,ts,n,fs,L,C,ho',_⟩
  ·refine ⟨T.s ops.size,hK,hJ.df,hJ.sz.trans ?_,g,fun d=>?_,?_⟩
   ·rw [N_eq hJ.pre _ (Nat.le_refl _),hJ.s0]
   ·have:=hJ.fr d
    rwa [show FS ops T S ops.size d=look (T.s ops.size).fr d from (ovr_sq _ d fun j hj _=>hall j hj).trans (seqF hJ.pre d _ (Nat.le_refl _))] at this
   ·have hH:HS T S ops.size=lookR (T.s ops.size).hp:=funext fun u=>(ovr_sq _ u fun j hj _=>hall j hj).trans (seqH hJ.pre u _ (Nat.le_refl _))
    have hI:=hJ.inv
    rw [hH] at hI
    refine { hI with ver:=fun u hu=>?_ }
    rcases hI.ver u hu with hu | ⟨j,j1,j2,j3,j4⟩
    ·exact Nat.lt_of_lt_of_le hu (nx_le hJ.pre (i:=0) _ (Nat.zero_le _) (Nat.le_refl _))
    ·have:=nx_le hJ.pre (i:=j + 1) _ j1 (Nat.le_refl _);show u < _;omega
  ·have:=(Array.getElem?_eq_some_iff.1 ho').1;omega
end
end Am
end Go.Proofs.YtkgbjoepjcenlaaDoor
