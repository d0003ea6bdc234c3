/- Joined texts. -/
import Derived.Test.YtkgbjoepjcenlaaDoorKBC
import Derived.Test.YtkgbjoepjcenlaaDoorKAS
import Derived.Test.YtkgbjoepjcenlaaDoorKAT
import Derived.Test.YtkgbjoepjcenlaaDoorKAU
import Derived.Test.YtkgbjoepjcenlaaDoorKAQ
set_option linter.unusedVariables false
set_option linter.unusedSimpArgs false
namespace Go.Proofs.YtkgbjoepjcenlaaDoor
open Am Go.RowKit
set_option maxRecDepth 100000
namespace Tm
def ins:List Tm→Tm→List Tm
 | [],t=>[t]
 | x :: l,t=>if compare x t < 0 then x :: ins l t else if compare x t=0 then x :: l else t :: x :: l
theorem ins_mem {l:List Tm} {t x:Tm}:x ∈ ins l t↔x ∈ l∨x=t:=by
 induction l with
 | nil=>simp [ins]
 | cons y l ih=>
   unfold ins
   split
   ·simp [ih,or_assoc]
   ·split
    ·rename_i h1 h2
     have:=compare_iff.1 h2
     subst this
     simp only [List.mem_cons]
     exact ⟨.inl,fun h=>h.elim id .inl⟩
    ·simp only [List.mem_cons]
     exact ⟨fun h=>h.elim .inr .inl,fun h=>h.elim .inr .inl⟩
theorem ins_len (l:List Tm) (t:Tm):(ins l t).length≤l.length + 1:=by
 induction l with
 | nil=>simp [ins]
 | cons y l ih=>
   unfold ins
   split
   ·simp;omega
   ·split <;> simp
end Tm
@[go_sem] theorem Am.tmL_tail (l:List Tm) (i:Nat):List.take ((l.length - i) * 3) (List.drop (i * 3) (tmL l))=tmL (l.drop i):=by
 rw [tmL_drops,List.take_of_length_le (by rw [tmL_len,List.length_drop];omega)]
@[go_sem] theorem Am.tmL_init (l:List Tm) (i:Nat):List.take (i * 3) (tmL l)=tmL (l.take i):=tmL_take l i
@[go_sem] theorem Am.flat_tm (l:List Tm) (x:SV) (h:x ∈ tmL l):flat x=true:=List.all_eq_true.1 (tmL_flat l) x h
theorem holds_nil {g:Cx} {w:World} {v:Value} (h:holds g w (.v (.slice none 0 0)) v) (k:Nat):holds g w (.sl 0 k []) v:=⟨none,0,h,⟨by simp,Nat.zero_le _⟩,by simp,.inl rfl⟩
theorem Am.nsl {P:Program} {X:Ev} {e:En} {c:Code} {Q:Exit→AS→Prop} {σ:AS} (d k:Nat) (h:look σ.fr d=.v (.slice none 0 0)) (K:AW P X e c Q ⟨(d,.sl 0 k []) :: σ.fr,σ.hp,σ.nx,σ.fz,σ.N⟩):AW P X e c Q σ:=fun a w ⟨hd,hs,g,hf,hI⟩=>K a w ⟨hd,hs,g,fun d'=>by
 show holds g w (if d=d' then .sl 0 k [] else look σ.fr d') _
 by_cases e:d=d'
 ·subst e
  rw [if_pos rfl]
  have:=hf d
  rw [h] at this
  exact holds_nil this k
 ·rw [if_neg e];exact hf d',hI⟩
section
variable (X:Ev)
theorem rcompare_c (t u:Tm) (ht:t.size≤1000000000) (hu:u.size≤1000000000):AC Tryd.prog X 22 [tmS t,tmS u] [] fun r rows=>r=iv (Tm.compare t u)∧rows=[]:=rcomp_c X t.size t u (Nat.le_refl _) ht hu
set_option maxHeartbeats 4000000 in
theorem rinsert_c (l:List Tm) (t:Tm) (hl:Tm.sizes l≤1000000000) (ht:t.size≤1000000000):AC Tryd.prog X 66 [tsl l,tmS t] [] fun r rows=>r=tsl (Tm.ins l t)∧rows=[]:=by
 have hlen:=Tm.length_le_sizes l
 have IH:∀ (j:Nat) (h:j < l.length),AC Tryd.prog X 22 [tmS l[j],tmS t] [] fun r rows=>r=iv (Tm.compare l[j] t)∧rows=[]:=fun j h=>rcompare_c X l[j] t (by have:=Tm.sizes_mem (List.getElem_mem h);omega) ht
 have HS:Hid (∀ (j:Nat) (h:j < l.length),Tm.ins (l.drop j) t=if Tm.compare l[j] t < 0 then l[j] :: Tm.ins (l.drop (j + 1)) t else if Tm.compare l[j] t=0 then l.drop j else t :: l.drop j):=fun j h=>by
  rw [List.drop_eq_getElem_cons h];rfl
 have IH:=Lib.hid IH
 have HL:Hid (l.length≤1000000000):=by show _≤_;omega
 have H0:Hid (Tm.ins l t=l.take 0 ++ Tm.ins (l.drop 0) t):=by show _=_;simp
 clear hl ht hlen
 show AC Tryd.prog X 66 [tsl l,.agg (tmc t)] [] _
 have HT:=Lib.hid (show tmc t=[iv t.op,iv t.num,tsl t.kids] from rfl)
 generalize Tm.ins l t=R at *
 refine AC.bodyW false Tryd.func66 rfl Tryd.call66 Tryd.ntmps66 (by simp) fun e nx=>?_
 go_simp
 refine sqc ?_;go_simp
 refine sqc ?_;go_simp
 refine ct (α:=Nat × Nat) (fun x=>x.2≤l.length∧R=l.take x.2 ++ Tm.ins (l.drop x.2) t∧∀ h:x.2 < l.length,¬ Tm.compare l[x.2] t < 0) (fun x=>⟨[(0,tsl l),(3,.ptr 3 nx 0),(5,iv x.2)],[(3,⟨nx,28,3,tmc t⟩)],x.1,[],49⟩) [] (blk ?_) ?_
 ·refine lp (α:=Nat × Nat) (fun x=>x.2≤l.length∧R=l.take x.2 ++ Tm.ins (l.drop x.2) t) (fun x=>⟨[(0,tsl l),(3,.ptr 3 nx 0),(5,iv x.2)],[(3,⟨nx,28,3,tmc t⟩)],x.1,[],49⟩) (fun x=>l.length - x.2) [] [] (nx + 1,0) ?_ ?_
  ·dsimp only
   go_simp
   exact H0.out
  rintro ⟨v,i⟩ ⟨hi,hR⟩
  replace hi:i≤l.length:=hi
  have HR:=Lib.hid hR
  clear hR
  dsimp only
  refine gw ?_
  go_simp
  refine rg hmx (by kernel_rfl) ?_
  go_simp
  refine gdd (fun h=>?_) (fun h=>?_)
  ·have hi1:i < l.length:=by omega
   have hc:=IH.out i hi1
   have hst:=Lib.hid (HS.out i hi1)
   go_simp
   refine cl [] [] hc (by go_simp) ?_
   rintro r rows ⟨rfl,rfl⟩
   go_simp
   refine ifd (fun h2=>?_) (fun h2=>?_) <;> go_simp
   ·have:=HL.out
    go_bits
    refine ⟨_,i + 1,⟨by omega,?_⟩,by omega,Nat.le_refl _,by omega⟩
    rw [HR.out,hst.out,if_pos h2,List.take_succ_eq_append_getElem hi1,List.append_assoc];rfl
   ·exact ⟨v,i,⟨hi,HR.out,fun _=>by omega⟩,Nat.le_refl _,rfl⟩
  ·go_simp
   exact ⟨v,i,⟨hi,HR.out,fun h2=>absurd h2 (by omega)⟩,Nat.le_refl _,rfl⟩
 ·rintro ⟨v,i⟩ ⟨hi,hR,hC⟩
  replace hi:i≤l.length:=hi
  replace hC:∀ h:i < l.length,¬ Tm.compare l[i] t < 0:=hC
  have HR:=Lib.hid hR
  clear hR
  dsimp only
  refine ct (α:=Unit) (fun _=>R=l.take i ++ t :: l.drop i) (fun _=>⟨[(0,tsl l),(3,.ptr 3 nx 0),(5,iv i)],[(3,⟨nx,28,3,tmc t⟩)],v,[],49⟩) [] (gw ?_) ?_
  ·go_simp
   refine rg hmx (by kernel_rfl) ?_
   go_simp
   refine gdd (fun h=>?_) (fun h=>?_)
   ·have hi1:i < l.length:=by omega
    have hc:=IH.out i hi1
    have hst:=Lib.hid (HS.out i hi1)
    have hlt:=Lib.hid (hC hi1)
    clear hC
    go_simp
    refine cl [] [] hc (by go_simp) ?_
    rintro r rows ⟨rfl,rfl⟩
    go_simp
    refine ifd (fun h2=>?_) (fun h2=>?_) <;> go_simp
    ·have e:R=l:=by rw [HR.out,hst.out,if_neg hlt.out,if_pos h2,List.take_append_drop]
     rw [e];exact ⟨rfl,rfl⟩
    ·rw [HR.out,hst.out,if_neg hlt.out,if_neg h2]
   ·clear hC
    go_simp
    rw [HR.out,List.drop_eq_nil_of_le (by omega)];rfl
  rintro ⟨⟩ hR2
  have HR2:Hid (R=l.take i ++ t :: l.drop i):=hR2
  clear hR2 HR hC
  have:=HL.out
  refine sqc ?_
  go_simp
  have hby:Tryd.t28.bytes=40:=rfl
  refine ⟨⟨by rw [hby];omega,by omega⟩,gw ?_⟩
  go_simp
  refine rg hmx (by kernel_rfl) ?_
  go_simp
  refine ⟨⟨by omega,by omega⟩,⟨by omega,by omega⟩,by kernel_rfl,⟨by omega,by omega⟩,by kernel_rfl,?_⟩
  rw [if_pos (by omega),HR2.out,tmL_app2,List.take_of_length_le (by rw [tmL_len];simp;omega),List.take_of_length_le (l:=l.drop i) (by simp)]
  simp
  omega
end
end Go.Proofs.YtkgbjoepjcenlaaDoor
namespace Go.Proofs.YtkgbjoepjcenlaaDoor
open Am Go.RowKit
set_option maxRecDepth 100000
namespace Tm
structure Gr (K L:List Tm):Prop where
 least:∀ Q:Tm→Prop,(∀ t ∈ K,Q (normal t))→(∀ D:List Tm,(∀ x ∈ D,Q x)→∀ t ∈ D,∀ p ∈ parts D t,Q p)→∀ x ∈ L,Q x
 bd:L.length + rem (accN K) L≤K.length + (accN K).length
theorem Gr.acc {l C:List Tm} (h:Gr l C):∀ x ∈ C,x ∈ accN l:=h.least (fun x=>x ∈ accN l) (fun t ht=>accN_self ht) fun D hD t ht p hp=>accN_parts hD ht hp
theorem least_ok {l C:List Tm} (h:∀ Q:Tm→Prop,(∀ t ∈ l,Q (normal t))→(∀ D:List Tm,(∀ x ∈ D,Q x)→∀ t ∈ D,∀ p ∈ parts D t,Q p)→∀ x ∈ C,Q x) (hl:∀ t ∈ l,valid t=true):∀ x ∈ C,wf x=true∧x.size≤2000:=
 h (fun x=>wf x=true∧x.size≤2000) (fun t ht=>by
  have hv:=valid_normal (hl t ht)
  exact ⟨valid_wf hv,by simp [valid] at hv;exact hv.1⟩) fun D hD t ht p hp=>by
  have h1:=hD t ht
  have hk:=parts_kids hp
  have hw:wf p=true:=by
   obtain ⟨o,n,ks⟩:=t
   have:=h1.1
   simp only [wf,Bool.and_eq_true] at this
   exact (wfs_iff ks).1 this.2 p hk
  exact ⟨hw,by have:=kid_size hk;omega⟩
theorem parts_len (C:List Tm) (t:Tm):(parts C t).length≤t.kids.length:=by
 obtain ⟨o,n,ks⟩:=t
 rw [parts.eq_1]
 show _≤ks.length
 by_cases h1:o=2
 ·rw [if_pos h1];exact Nat.le_refl _
 rw [if_neg h1]
 by_cases h2:o=5
 ·rw [if_pos h2];simp
 rw [if_neg h2]
 by_cases h3:o=4
 ·rw [if_pos h3];split <;> simp
 ·rw [if_neg h3];simp
theorem sizes_le {l:List Tm} {n:Nat} (h:∀ x ∈ l,x.size≤n):sizes l≤l.length * n:=by
 induction l with
 | nil=>simp [sizes]
 | cons x l ih=>
   have h1:=h x (by simp)
   have h2:=ih fun y hy=>h y (by simp [hy])
   simp only [sizes,List.length_cons,Nat.succ_mul];omega
theorem Gr.len {K L:List Tm} (h:Gr K L) (hb:K.length + (accN K).length≤400):L.length≤400:=by have:=h.bd;omega
theorem Gr.add {K L D:List Tm} (h:Gr K L) (hD:∀ x ∈ D,x ∈ L) {t p:Tm} (ht:t ∈ D) (hp:p ∈ parts D t) (hn:p ∉ L):Gr K (ins L p)∧rem (accN K) (ins L p) < rem (accN K) L:=by
 have hl:∀ Q:Tm→Prop,(∀ t ∈ K,Q (normal t))→(∀ D:List Tm,(∀ x ∈ D,Q x)→∀ t ∈ D,∀ p ∈ parts D t,Q p)→∀ x ∈ ins L p,Q x:=fun Q h1 h2 x hx=>by
  rcases ins_mem.1 hx with hx | rfl
  ·exact h.least Q h1 h2 x hx
  ·exact h2 D (fun y hy=>h.least Q h1 h2 y (hD y hy)) t ht x hp
 have hr:rem (accN K) (ins L p) < rem (accN K) L:=rem_lt (fun x hx=>ins_mem.2 (.inl hx)) (hl _ (fun t ht=>accN_self ht) (fun D hD t ht p hp=>accN_parts hD ht hp) p (ins_mem.2 (.inr rfl))) hn (ins_mem.2 (.inr rfl))
 exact ⟨⟨hl,by have:=h.bd;have:=ins_len L p;omega⟩,hr⟩
structure Gi (K L:List Tm) (i:Nat):Prop where
 least:∀ Q:Tm→Prop,(∀ t ∈ K,Q (normal t))→(∀ D:List Tm,(∀ x ∈ D,Q x)→∀ t ∈ D,∀ p ∈ parts D t,Q p)→∀ x ∈ L,Q x
 len:L.length≤i
 has:∀ t ∈ K.take i,normal t ∈ L
theorem Gi.nil (K:List Tm):Gi K [] 0:=⟨by simp,by simp,by simp⟩
theorem Gi.add {K L:List Tm} {i:Nat} (h:Gi K L i) (hi:i < K.length):Gi K (ins L (normal K[i])) (i + 1):=
 ⟨fun Q h1 h2 x hx=>by
  rcases ins_mem.1 hx with hx | rfl
  ·exact h.least Q h1 h2 x hx
  ·exact h1 _ (List.getElem_mem hi),by have:=ins_len L (normal K[i]);have:=h.len;omega,fun t ht=>by
  rw [List.take_succ_eq_append_getElem hi] at ht
  rcases List.mem_append.1 ht with ht | ht
  ·exact ins_mem.2 (.inl (h.has t ht))
  ·rw [List.mem_singleton.1 ht];exact ins_mem.2 (.inr rfl)⟩
theorem Gi.gr {K L:List Tm} (h:Gi K L K.length):Gr K L:=⟨h.least,by have:=h.len;have:=rem_le (accN K) L;omega⟩
end Tm
def AnC (K:List Tm) (r:SV) (rows:List Row):Prop:=∃ L,Tm.IsCl K L∧(∀ x ∈ L,Tm.wf x=true∧x.size≤2000)∧L.length≤400∧r=.tup [tsl L,iv 0]∧rows=[]
section
variable (X:Ev)
set_option maxHeartbeats 8000000 in
theorem ranalyze_c (K:List Tm) (hv:∀ t ∈ K,Tm.valid t=true) (hK:K.length≤60) (hA:K.length + (Tm.accN K).length≤400):AC Tryd.prog X 63 [tsl K] [] (AnC K):=by
 have V:Hid (∀ (j:Nat) (h:j < K.length),AC Tryd.prog X 19 [tmS K[j]] [] fun r rows=>r=bov true∧rows=[]):=fun j h=>by
  have hj:=hv _ (List.getElem_mem h)
  have:=rvalid_c X K[j] (by simp [Tm.valid] at hj;omega)
  rwa [hj] at this
 have HV:=Lib.hid hv
 have HA:=Lib.hid hA
 clear hv hA
 refine AC.bodyW false Tryd.func63 rfl Tryd.call63 Tryd.ntmps63 (by simp) fun e nx=>?_
 go_simp
 refine sqc ?_;go_simp
 refine sqc ?_;go_simp
 refine lp (α:=Nat × Nat) (fun x=>x.2≤K.length) (fun x=>⟨[(0,tsl K),(14,tsl K),(15,iv K.length),(16,iv x.2)],[],x.1,[],66⟩) (fun x=>K.length - x.2) [] [] (nx,0) ?_ ?_
 ·dsimp only
  go_simp
 ·rintro ⟨v,i⟩ hi
  replace hi:i≤K.length:=hi
  dsimp only
  refine gw ?_
  go_simp
  refine ifd (fun h=>?_) (fun h=>?_) <;> go_simp
  ·have hj:i < K.length:=by omega
   have hc:=V.out i hj
   generalize K[i]=x at *
   go_simp
   refine cl [] [] hc (by go_simp) ?_
   rintro r rows ⟨rfl,rfl⟩
   go_simp
   go_bits
   exact ⟨_,i + 1,by omega,by omega,Nat.le_refl _,by omega⟩
  clear h hi
  refine sqc ?_;go_simp
  refine ifd (fun h=>?_) (fun h=>?_) <;> go_simp
  ·omega
  clear h
  refine sqc ?_;go_simp
  refine sqc ?_;go_simp
  refine nsl 6 3 rfl ?_
  refine lp (α:=Nat × Nat × List Tm) (fun x=>x.2.1≤K.length∧Tm.Gi K x.2.2 x.2.1) (fun x=>⟨[(27,tsl K),(28,iv K.length),(29,iv x.2.1),(6,tsl x.2.2)],[],x.1,[],66⟩) (fun x=>K.length - x.2.1) [] [] (v,0,[]) ?_ ?_
  ·dsimp only
   go_simp
   exact Tm.Gi.nil K
  rintro ⟨v,i,L⟩ ⟨hi,hG⟩
  replace hi:i≤K.length:=hi
  have HG:Hid (Tm.Gi K L i):=hG
  clear hG
  dsimp only
  refine gw ?_
  go_simp
  refine ifd (fun h=>?_) (fun h=>?_) <;> go_simp
  ·have hj:i < K.length:=by omega
   have hvx:=HV.out K[i] (List.getElem_mem hj)
   have hsx:K[i].size≤2000:=by simp [Tm.valid] at hvx;exact hvx.1
   have hn:=rnormal_c X K[i] (by omega) (Tm.valid_wf hvx)
   have hok:=Tm.least_ok HG.out.least HV.out
   have hsl:=Tm.sizes_le fun x hx=>(hok x hx).2
   have hll:=HG.out.len
   have hc:=rinsert_c X L (Tm.normal K[i]) (by omega) (by rw [Tm.size_normal];omega)
   have HN:=Lib.hid (HG.out.add hj)
   clear hvx hsx hok hsl hll HG
   generalize Tm.normal K[i]=y at *
   generalize K[i]=x at *
   generalize Tm.ins L y=L2 at *
   go_simp
   refine cl [] [] hn (by go_simp) ?_
   rintro r rows ⟨rfl,rfl⟩
   go_simp
   refine cl [] [] hc (by go_simp) ?_
   rintro r rows ⟨rfl,rfl⟩
   go_simp
   go_bits
   exact ⟨_,i + 1,L2,⟨by omega,HN.out⟩,by omega,Nat.le_refl _,by omega,rfl,rfl⟩
  have hi2:i=K.length:=by omega
  subst hi2
  clear h hi
  have HH:Hid (∀ t ∈ K,Tm.normal t ∈ L):=by have:=HG.out.has;rwa [List.take_length] at this
  have HR:=Lib.hid HG.out.gr
  clear HG
  have HB:Hid (∀ L,Tm.Gr K L→(∀ x ∈ L,Tm.wf x=true∧x.size≤2000)∧Tm.sizes L≤800000∧L.length≤400):=fun L h=>by
   have h1:=Tm.least_ok h.least HV.out
   have h2:=Tm.sizes_le fun x hx=>(h1 x hx).2
   have h3:=h.len HA.out
   exact ⟨h1,by omega,h3⟩
  refine sqc ?_;go_simp
  refine lp (α:=Nat × Bool × List Tm) (fun x=>Tm.Gr K x.2.2∧(∀ t ∈ K,Tm.normal t ∈ x.2.2)∧(x.2.1=false→Tm.Closed x.2.2)) (fun x=>⟨[(6,tsl x.2.2),(9,bov x.2.1)],[],x.1,[],66⟩) (fun x=>2 * Tm.rem (Tm.accN K) x.2.2 + if x.2.1=true then 1 else 0) [] [] (v,true,L) ?_ ?_
  ·dsimp only
   go_simp
   exact ⟨HR.out,HH.out⟩
  clear HR HH
  rintro ⟨v,b,L0⟩ ⟨hR,hH,hC⟩
  have HR:Hid (Tm.Gr K L0):=hR
  have HH:Hid (∀ t ∈ K,Tm.normal t ∈ L0):=hH
  have HC:Hid (b=false→Tm.Closed L0):=hC
  clear hR hH hC
  dsimp only
  refine sqc ?_
  go_simp
  refine ifk (fun hb=>?_) (fun hb=>?_) <;> go_simp
  ·subst hb
   have hL0:=(HB.out L0 HR.out).2.2
   refine blk ?_
   refine sqc ?_;go_simp
   refine sqc ?_;go_simp
   refine lp (α:=Nat × Nat × List Tm × Bool) (fun x=>x.2.1≤L0.length∧Tm.Gr K x.2.2.1∧(∀ y ∈ L0,y ∈ x.2.2.1)∧(x.2.2.2=false→x.2.2.1=L0∧∀ j (h:j < L0.length),j < x.2.1→∀ p ∈ Tm.parts L0 L0[j],p ∈ L0)∧(x.2.2.2=true→Tm.rem (Tm.accN K) x.2.2.1 < Tm.rem (Tm.accN K) L0)) (fun x=>⟨[(39,tsl L0),(40,iv L0.length),(41,iv x.2.1),(6,tsl x.2.2.1),(9,bov x.2.2.2)],[],x.1,[],66⟩) (fun x=>L0.length - x.2.1) [] [] (v,0,L0,false) ?_ ?_
   ·dsimp only
    go_simp
    exact HR.out
   rintro ⟨v,i,L,b⟩ ⟨hi,hG,hS,hF,hT⟩
   replace hi:i≤L0.length:=hi
   have HG:Hid (Tm.Gr K L):=hG
   have HS:Hid (∀ y ∈ L0,y ∈ L):=hS
   have HF:Hid (b=false→L=L0∧∀ j (h:j < L0.length),j < i→∀ p ∈ Tm.parts L0 L0[j],p ∈ L0):=hF
   have HT:Hid (b=true→Tm.rem (Tm.accN K) L < Tm.rem (Tm.accN K) L0):=hT
   clear hG hS hF hT
   dsimp only
   refine gw ?_
   go_simp
   refine ifd (fun h=>?_) (fun h=>?_) <;> go_simp
   ·have hj:i < L0.length:=by omega
    obtain ⟨hok,hsz,hlen⟩:=HB.out L HG.out
    have hok:=Lib.hid hok
    have hxm:L0[i] ∈ L:=HS.out _ (List.getElem_mem hj)
    have hx:=hok.out _ hxm
    have hp:=rapart_c X L (by omega) L0[i] (by omega) hx.1
    have HM:=Lib.hid hxm
    clear hxm hx
    have HPP:Hid (∀ p ∈ Tm.parts L L0[i],p.size≤2000∧p ∈ Tm.parts L L0[i]):=fun p hpp=>⟨by have:=(hok.out _ HM.out).2;have:=Tm.kid_size (Tm.parts_kids hpp);omega,hpp⟩
    have hpl:(Tm.parts L L0[i]).length≤2000:=by have:=Tm.parts_len L L0[i];have:=Tm.kids_le L0[i];have:=(hok.out _ HM.out).2;omega
    obtain ⟨ps,hps⟩:∃ ps,ps=Tm.parts L L0[i]:=⟨_,rfl⟩
    rw [← hps] at hp HPP hpl
    have HPS:=Lib.hid hps
    clear hps
    go_simp
    refine cl [] [] hp (by go_simp) ?_
    rintro r rows ⟨rfl,rfl⟩
    go_simp
    refine lp (α:=Nat × Nat × List Tm × Bool) (fun x=>x.2.1≤ps.length∧Tm.Gr K x.2.2.1∧(∀ y ∈ L,y ∈ x.2.2.1)∧(x.2.2.2=false→b=false∧x.2.2.1=L∧∀ p ∈ ps.take x.2.1,p ∈ L)∧(x.2.2.2=true→Tm.rem (Tm.accN K) x.2.2.1 < Tm.rem (Tm.accN K) L0)) (fun x=>⟨[(39,tsl L0),(40,iv L0.length),(41,iv i),(47,tsl ps),(48,iv ps.length),(49,iv x.2.1),(6,tsl x.2.2.1),(9,bov x.2.2.2)],[],x.1,[],66⟩) (fun x=>ps.length - x.2.1) [] [] (v + 1 + 1,0,L,b) ?_ ?_
    ·dsimp only
     go_simp
     exact ⟨HG.out,HT.out⟩
    rintro ⟨v,m,L2,b2⟩ ⟨hm,hG2,hS2,hF2,hT2⟩
    replace hm:m≤ps.length:=hm
    have HG2:Hid (Tm.Gr K L2):=hG2
    have HS2:Hid (∀ y ∈ L,y ∈ L2):=hS2
    have HF2:Hid (b2=false→b=false∧L2=L∧∀ p ∈ ps.take m,p ∈ L):=hF2
    have HT2:Hid (b2=true→Tm.rem (Tm.accN K) L2 < Tm.rem (Tm.accN K) L0):=hT2
    clear hG2 hS2 hF2 hT2
    dsimp only
    refine gw ?_
    go_simp
    refine ifd (fun h3=>?_) (fun h3=>?_) <;> go_simp
    ·have hmj:m < ps.length:=by omega
     obtain ⟨hok2,hsz2,hlen2⟩:=HB.out L2 HG2.out
     have hpm:=HPP.out _ (List.getElem_mem hmj)
     have hwi:=rwithin_c X L2 ps[m] (by omega) (by omega)
     have hin:=rinsert_c X L2 ps[m] (by omega) (by omega)
     rw [within_dec] at hwi
     have HTK:Hid (ps.take (m + 1)=ps.take m ++ [ps[m]]):=List.take_succ_eq_append_getElem hmj
     have HAD:Hid (ps[m] ∉ L2→Tm.Gr K (Tm.ins L2 ps[m])∧Tm.rem (Tm.accN K) (Tm.ins L2 ps[m]) < Tm.rem (Tm.accN K) L2):=fun hn=>HG2.out.add HS2.out HM.out (HPS.out ▸ hpm.2) hn
     clear hok2 hpm
     generalize ps[m]=q at *
     go_simp
     refine cl [] [] hwi (by go_simp) ?_
     rintro r rows ⟨rfl,rfl⟩
     go_simp
     refine ifn (fun h4=>?_) (fun h4=>?_) <;> go_simp
     ·refine cl [] [] hin (by go_simp) ?_
      rintro r rows ⟨rfl,rfl⟩
      go_simp
      go_bits
      have ha:=HAD.out h4
      refine ⟨_,m + 1,Tm.ins L2 q,⟨by omega,ha.1,fun y hy=>Tm.ins_mem.2 (.inl (HS2.out y hy)),?_⟩,by omega,Nat.le_refl _,by omega,rfl,rfl⟩
      cases b2 with
      | true=>have:=HT2.out rfl;omega
      | false=>
        obtain ⟨hb,hL,_⟩:=HF2.out rfl
        obtain ⟨hLL,_⟩:=HF.out hb
        rw [hL,hLL] at ha
        rw [hL,hLL]
        exact ha.2
     ·go_bits
      cases b2 with
      | true=>exact ⟨_,m + 1,L2,.inr ⟨⟨by omega,HG2.out,HS2.out,HT2.out rfl⟩,by omega,Nat.le_refl _,by omega,⟨rfl,rfl⟩,rfl⟩⟩
      | false=>
        obtain ⟨hb,hL,hall⟩:=HF2.out rfl
        refine ⟨_,m + 1,L2,.inl ⟨⟨by omega,HG2.out,HS2.out,hb,hL,fun p hp=>?_⟩,by omega,Nat.le_refl _,by omega,⟨rfl,rfl⟩,rfl⟩⟩
        rw [HTK.out] at hp
        rcases List.mem_append.1 hp with hp | hp
        ·exact hall p hp
        ·rw [List.mem_singleton.1 hp,← hL];exact h4
    ·have hm2:m=ps.length:=by omega
     subst hm2
     go_bits
     have hpl:∀ p ∈ ps.take ps.length,p ∈ ps:=fun p h=>List.mem_of_mem_take h
     rw [List.take_length] at HF2
     cases b2 with
     | true=>exact ⟨v,i + 1,L2,.inr ⟨⟨by omega,HG2.out,fun y hy=>HS2.out y (HS.out y hy),HT2.out rfl⟩,by omega,Nat.le_refl _,by omega,⟨rfl,rfl⟩,rfl⟩⟩
     | false=>
       obtain ⟨hb,hL,hall⟩:=HF2.out rfl
       obtain ⟨hLL,hold⟩:=HF.out hb
       refine ⟨v,i + 1,L2,.inl ⟨⟨by omega,HG2.out,fun y hy=>HS2.out y (HS.out y hy),hL.trans hLL,fun j hj' hji p hpp=>?_⟩,by omega,Nat.le_refl _,by omega,⟨rfl,rfl⟩,rfl⟩⟩
       by_cases hji2:j < i
       ·exact hold j hj' hji2 p hpp
       ·obtain rfl:j=i:=by omega
        have:=hall p (by rw [HPS.out,hLL];exact hpp)
        rwa [hLL] at this
   ·have hi2:i=L0.length:=by omega
    subst hi2
    have hlL:=(HB.out L HG.out).2.2
    refine sqc ?_;go_simp
    refine gw ?_;go_simp
    refine ifd (fun h9=>?_) (fun h9=>?_) <;> go_simp
    ·omega
    cases b with
    | true=>exact ⟨v,.inr ⟨L,⟨HG.out,fun t ht=>HS.out _ (HH.out t ht)⟩,HT.out rfl,Nat.le_refl _,⟨rfl,rfl⟩,rfl⟩⟩
    | false=>
      obtain ⟨hLL,hall⟩:=HF.out rfl
      refine ⟨v,.inl ⟨L,⟨HG.out,fun t ht=>HS.out _ (HH.out t ht),fun t ht p hp=>?_⟩,by rw [hLL];omega,Nat.le_refl _,⟨rfl,rfl⟩,rfl⟩⟩
      rw [hLL] at ht hp ⊢
      obtain ⟨j,hj,rfl⟩:=List.getElem_of_mem ht
      exact hall j hj hj p hp
  ·refine sqc ?_;go_simp
   refine gw ?_;go_simp
   exact ⟨L0,⟨HH.out,HC.out hb,HR.out.least⟩,(HB.out L0 HR.out).1,(HB.out L0 HR.out).2.2,rfl,rfl⟩
end
end Go.Proofs.YtkgbjoepjcenlaaDoor
namespace Go.Proofs.YtkgbjoepjcenlaaDoor
open Am Go.RowKit
set_option maxRecDepth 100000
def DeC (K:List Tm) (g:Tm) (r:SV) (rows:List Row):Prop:=∃ C,Tm.IsCl K C∧r=.tup [bov (Tm.builds C (Tm.normal g)),iv 0]∧rows=[]
section
variable (X:Ev)
set_option maxHeartbeats 4000000 in
theorem rderives_c (K:List Tm) (g:Tm) (hv:∀ t ∈ K,Tm.valid t=true) (hg:Tm.valid g=true) (hK:K.length≤60) (hA:K.length + (Tm.accN K).length≤400):AC Tryd.prog X 56 [tsl K,tmS g] [] (DeC K g):=by
 have hz:g.size≤2000:=by simp [Tm.valid] at hg;exact hg.1
 have A1:=rvalid_c X g (by omega)
 have A2:=ranalyze_c X K hv hK hA
 have A3:=rnormal_c X g (by omega) (Tm.valid_wf hg)
 have A4:Hid (∀ L:List Tm,(∀ x ∈ L,Tm.wf x=true∧x.size≤2000)→L.length≤400→AC Tryd.prog X 64 [tsl L,tmS (Tm.normal g)] [] fun r rows=>r=bov (Tm.builds L (Tm.normal g))∧rows=[]):=fun L h1 h2=>by
  have h3:=Tm.sizes_le fun x hx=>(h1 x hx).2
  exact rbuilds_c X L (by omega) _ _ (Nat.le_refl _) (by rw [Tm.size_normal];omega) (Tm.valid_wf (Tm.valid_normal hg))
 rw [hg] at A1
 clear hv hg hz hK hA
 show AC Tryd.prog X 56 [tsl K,.agg (tmc g)] [] (DeC K g)
 have HD:Hid (∀ C,Tm.IsCl K C→DeC K g (.tup [bov (Tm.builds C (Tm.normal g)),iv 0]) []):=fun C h=>⟨C,h,rfl,rfl⟩
 generalize DeC K g=Q at *
 generalize Tm.normal g=y at *
 refine AC.bodyW false Tryd.func56 rfl Tryd.call56 Tryd.ntmps56 (by simp) fun e nx=>gw ?_
 go_simp
 refine cl [] [] A1 (by go_simp) ?_
 rintro r rows ⟨rfl,rfl⟩
 go_simp
 refine cl [] [] A2 (by go_simp) ?_
 rintro r rows ⟨L,hC,hok,hlen,rfl,rfl⟩
 have hb:=A4.out L hok hlen
 have HC:=HD.out L hC
 clear HD A4 hC hok
 generalize Tm.builds L y=b at *
 go_simp
 refine cl [] [] A3 (by go_simp) ?_
 rintro r rows ⟨rfl,rfl⟩
 go_simp
 refine cl [] [] hb (by go_simp) ?_
 rintro r rows ⟨rfl,rfl⟩
 go_simp
 exact HC
end
theorem AC.freshR {P:Program} {X:Ev} {f:FuncId} {C:SV→List Row→Prop} {args:List SV} (hgo:∀ vals w,(callFunc f vals).run P w=.ok (.enter f vals) w) (hc:∀ g w vals,X.E w→(∀ b,g.Z b→b < w.heap.size)→agL g w args vals→Calls P f vals.toArray w fun e w'=>∃ v r T k cs G cap cur,e=.returned v∧C r [⟨0,T,k,cs⟩]∧w.heap.size≤G∧G < w'.heap.size∧w'.heap[G]?=some (.cells cur T (0,0))∧cur.size=cap * k∧cs.length≤cur.size∧
 (∀ (g':Cx) (nx:Nat),(∀ b,w.heap.size≤b→b < w'.heap.size→b≠G→g'.Z b)→g'.A nx→g'.mu nx=G→g'.ka nx=cap→holds g' w' (ren 0 nx r) v∧agL g' w' cs (cur.toList.take cs.length))∧Below w.heap.size w w'):AC P X f args [] C:=
 ⟨fun g w vals nx hE hz hA hb ha hrow hap=>.inl ⟨hgo _ _,(hc g w vals hE hz ha).mono fun e w' ⟨v,r,T,k,cs,G,cap,cur,he,hC,h1,h2,h3,h4,h5,h6,hW⟩=>by
  have hnA:∀ u,g.A u→u≠nx:=fun u hu e=>Nat.lt_irrefl _ (e ▸ hA u hu)
  obtain ⟨h7,h8⟩:=h6 ⟨fun b=>g.Z b∨(w.heap.size≤b∧b < w'.heap.size∧b≠G),fun u=>g.A u∨u=nx,fun u=>if u=nx then G else g.mu u,fun u=>if u=nx then cap else g.ka u⟩ nx (fun b h1 h2 h3=>.inr ⟨h1,h2,h3⟩) (.inr rfl) (if_pos rfl) (if_pos rfl)
  refine ⟨v,r,[⟨0,T,k,cs⟩],_,he,hC,h7,⟨fun b hb=>.inl hb,fun u hu=>⟨.inl hu,if_neg (hnA u hu),if_neg (hnA u hu)⟩⟩,fun b hb=>hb.imp id fun h=>⟨h.1,h.2.1⟩,.inr rfl,fun i r q h=>by simp at h,fun q hq=>?_,fun u hu=>hu.imp id fun hu=>⟨rfl,hu,fun _=>⟨by simp;exact h1,by simp;exact h2,by simp;exact fun hz'=>absurd (hz G hz') (by omega)⟩⟩,hW.size,fun b hb _=>hW.block b hb,⟨hW.os,hW.tape,hW.output⟩,X.st w w' hW.size hE fun b hb=>hW.block b (X.lt w b hE hb)⟩
  have hq':q=⟨nx,T,k,cs⟩:=by simpa [rnR] using hq
  subst hq'
  exact ⟨.inr rfl,.inr ⟨cur,by simp;exact h3,by simp;exact h4,h5,h8⟩⟩⟩⟩
end Go.Proofs.YtkgbjoepjcenlaaDoor
namespace Go.Proofs.YtkgbjoepjcenlaaDoor
open Am Go.RowKit
set_option maxRecDepth 100000
theorem agL_out {lo X:Nat} {v:Value} {W:World} {g:Cx} (hg:∀ b,okV lo X v b→b < W.heap.size→g.Z b):∀ (es:List Elem) (ts:List Tm),es.length=ts.length→(∀ i (h:i < es.length) (h':i < ts.length),es[i].op=ts[i].op∧(es[i].num=ts[i].num∧es[i].nn≤es[i].cc)∧TR (okV lo X v) W ts[i] es[i].an es[i].nn)→agL g W (tmL ts) (es.flatMap Elem.cells)
 | [],[],_,_=>by rw [tmL_nil];trivial
 | e :: es,t :: ts,hl,h=>by
   rw [tmL_cons,List.flatMap_cons]
   obtain ⟨h1,⟨h2,h3⟩,h4⟩:=h 0 (by simp) (by simp)
   simp only [List.getElem_cons_zero] at h1 h2 h3 h4
   have h5:=ht_ag t e.an e.nn e.cc g hg h3 h4
   rw [← h1,← h2,tmC_eq] at h5
   exact agL.append h5 (agL_out hg es ts (by simpa using hl) fun i a b=>h (i + 1) (by simpa using a) (by simpa using b))
 | [],_ :: _,hl,_=>by simp at hl
 | _ :: _,[],hl,_=>by simp at hl
abbrev isl (l:List Int):SV:=.sl l.length 1 (l.map iv)
@[go_sem] theorem isl_sub (l:List Int) (i:Nat) (h:i < l.length):sub (l.map iv) i 1=[iv l[i]]:=by
 unfold sub
 rw [Nat.mul_one,List.drop_eq_getElem_cons (by simpa using h),List.take_succ_cons]
 simp
namespace Tm
def leakF (ld:List Int) (a:Int):List Tm:=(ld.filter fun q=>decide (q=a)).map nm
def leakG (ld:List Int) (j:Nat):List Tm:=(List.range j).flatMap fun (i:Nat)=>leakF ld (100 + (i:Int))
theorem leakG_zero (ld:List Int):leakG ld 0=[]:=rfl
theorem leakG_succ (ld:List Int) (j:Nat):leakG ld (j + 1)=leakG ld j ++ leakF ld (100 + j):=by
 simp [leakG,List.range_succ,List.flatMap_append]
theorem leakG_four (ld:List Int):leakG ld 4=leakF ld 100 ++ (leakF ld 101 ++ (leakF ld 102 ++ leakF ld 103)):=by
 rw [leakG_succ,leakG_succ,leakG_succ,leakG_succ,leakG_zero]
 simp
theorem leakF_take (ld:List Int) (a:Int) (m:Nat) (h:m < ld.length):leakF (ld.take (m + 1)) a=leakF (ld.take m) a ++ if ld[m]=a then [nm a] else []:=by
 rw [leakF,List.take_succ_eq_append_getElem h,List.filter_append,List.map_append,← leakF]
 by_cases e:ld[m]=a
 ·simp [e]
 ·simp [e]
theorem leakF_len (ld:List Int) (a:Int):(leakF ld a).length≤ld.length:=by simp [leakF];exact List.length_filter_le _ _
theorem leakG_len (ld:List Int):(leakG ld 4).length≤ld.length:=by
 rw [leakG_four]
 induction ld with
 | nil=>simp [leakF]
 | cons q ld ih=>
   simp only [leakF,List.length_append,List.length_map,List.filter_cons,List.length_cons] at ih ⊢
   by_cases h0:q=100
   ·subst h0;simp;omega
   by_cases h1:q=101
   ·subst h1;simp;omega
   by_cases h2:q=102
   ·subst h2;simp;omega
   by_cases h3:q=103
   ·subst h3;simp;omega
   simp [h0,h1,h2,h3];omega
theorem leakG_step (ld:List Int) (j:Nat):(leakG ld j).length≤(leakG ld (j + 1)).length:=by rw [leakG_succ,List.length_append];omega
theorem leakG_le (ld:List Int) (j:Nat) (hj:j≤4):(leakG ld j).length≤ld.length:=by
 have h0:(leakG ld 0).length≤(leakG ld 1).length:=leakG_step ld 0
 have h1:(leakG ld 1).length≤(leakG ld 2).length:=leakG_step ld 1
 have h2:(leakG ld 2).length≤(leakG ld 3).length:=leakG_step ld 2
 have h3:(leakG ld 3).length≤(leakG ld 4).length:=leakG_step ld 3
 have h4:=leakG_len ld
 rcases (show j=0∨j=1∨j=2∨j=3∨j=4 by omega) with rfl | rfl | rfl | rfl | rfl <;> omega
theorem leakF_mem {ld:List Int} {a:Int} {t:Tm}:t ∈ leakF ld a↔a ∈ ld∧t=nm a:=by
 simp only [leakF,List.mem_map,List.mem_filter,decide_eq_true_eq]
 constructor
 ·rintro ⟨q,⟨h1,rfl⟩,rfl⟩;exact ⟨h1,rfl⟩
 ·rintro ⟨h,rfl⟩;exact ⟨a,⟨h,rfl⟩,rfl⟩
theorem leak_mem (k:Nat) (ld:List Int) (t:Tm):t ∈ msgs k ++ leakG ld 4↔t ∈ leaks (decide (100 ∈ ld)) (decide (101 ∈ ld)) (decide (102 ∈ ld)) (decide (103 ∈ ld)) ++ msgs k:=by
 rw [leakG_four]
 simp only [List.mem_append,leakF_mem,leaks]
 have key:∀ a:Int,(t ∈ if decide (a ∈ ld)=true then [nm a] else [])↔(a ∈ ld∧t=nm a):=fun a=>by
  by_cases h:a ∈ ld <;> simp [h]
 rw [key,key,key,key]
 constructor
 ·rintro (h | h | h | h | h)
  ·exact .inr h
  ·exact .inl (.inl (.inl (.inl h)))
  ·exact .inl (.inl (.inl (.inr h)))
  ·exact .inl (.inl (.inr h))
  ·exact .inl (.inr h)
 ·rintro ((((h | h) | h) | h) | h)
  ·exact .inr (.inl h)
  ·exact .inr (.inr (.inl h))
  ·exact .inr (.inr (.inr (.inl h)))
  ·exact .inr (.inr (.inr (.inr h)))
  ·exact .inl h
theorem leak_valid (k:Nat) (hk:k < 4) (ld:List Int):∀ t ∈ msgs k ++ leakG ld 4,valid t=true:=fun t ht=>by
 rw [leakG_four] at ht
 simp only [List.mem_append,leakF_mem] at ht
 rcases ht with h | ⟨_,rfl⟩ | ⟨_,rfl⟩ | ⟨_,rfl⟩ | ⟨_,rfl⟩
 ·exact List.all_eq_true.1 (msgs_valid k hk).1 t h
 all_goals decide +kernel
theorem accN_app (l m:List Tm):accN (l ++ m)=accN l ++ accN m:=by
 unfold accN
 rw [List.map_append,accF_append]
theorem accN_names:∀ us:List Tm,(∀ t ∈ us,∃ n,t=nm n)→(accN us).length=us.length
 | [],_=>rfl
 | u :: us,hu=>by
   obtain ⟨n,rfl⟩:=hu u (by simp)
   have:=accN_names us fun t ht=>hu t (by simp [ht])
   unfold accN at *
   simp only [List.map_cons,accF,List.length_append,this,List.length_cons]
   have:(acc (normal (nm n))).length=1:=rfl
   omega
theorem leak_acc (k:Nat) (hk:k < 4) (ld:List Int) (hl:ld.length≤20):(msgs k ++ leakG ld 4).length≤24∧(msgs k ++ leakG ld 4).length + (accN (msgs k ++ leakG ld 4)).length≤400:=by
 have h1:=leakG_len ld
 have h2:=msgs_acc k hk
 have h3:(msgs k).length=4:=rfl
 have h4:(accN (leakG ld 4)).length=(leakG ld 4).length:=accN_names _ fun t ht=>by
  rw [leakG_four] at ht
  simp only [List.mem_append,leakF_mem] at ht
  rcases ht with ⟨_,rfl⟩ | ⟨_,rfl⟩ | ⟨_,rfl⟩ | ⟨_,rfl⟩ <;> exact ⟨_,rfl⟩
 rw [accN_app,List.length_append,List.length_append]
 omega
end Tm
def secP (k:Nat) (ld:List Int):Bool × Int:=if k < 4 then (if ∀ q ∈ ld,100≤q∧q≤103 then (Tm.wantB k (decide (100 ∈ ld)) (decide (101 ∈ ld)) (decide (102 ∈ ld)) (decide (103 ∈ ld)),0) else (false,1)) else (false,30)
section
variable (X:Ev)
theorem rexch_c (k:Nat) (hk:k < 4):AC Tryd.prog X 31 [iv k,iv 100,iv 101,iv 102,iv 103] [] fun r rows=>r=.tup [.own 2000 0 4 3,tmS (Tm.resOf k),iv 0]∧rows=[⟨0,28,3,tmL (Tm.msgs k)⟩]:=
 AC.freshR Tryd.call31 fun g w vals hE hz ha=>by
  have hv:=agL_v (l:=[.int .i64 k,.int .i64 100,.int .i64 101,.int .i64 102,.int .i64 103]) ha
  subst hv
  refine (rexch_row (k:Int) 100 101 102 103 (by omega) (by omega) (by omega) (by omega) (by omega) (by omega) (by omega) (by omega) (by omega) rfl rfl rfl rfl rfl rfl w (k % 2==1) (decide (2≤k)) (by rcases (show k=0∨k=1∨k=2∨k=3 by omega) with rfl | rfl | rfl | rfl <;> rfl) (by rcases (show k=0∨k=1∨k=2∨k=3 by omega) with rfl | rfl | rfl | rfl <;> rfl)).mono ?_
  rintro e w' ⟨a,c,a',n',c',rfl,hc,_,hT,hnc,hB,es,base,hO,hbase⟩
  obtain ⟨hlen,hrow⟩:=hO.row
  rcases hrow with ⟨h1,h2⟩ | ⟨G,cap,cur,hv,hbG,hG,hn,hm,hcs,htk⟩
  ·simp at h2
  injection hv with hv1 hv2 hv3
  subst hv1 hv3
  have hGl:G < w'.heap.size:=lt_of_block hG
  have hl12:(tmL (Tm.msgs k)).length=12:=by rw [tmL_len];rfl
  refine ⟨_,.tup [.own 2000 0 4 3,tmS (Tm.resOf k),iv 0],28,3,tmL (Tm.msgs k),G,c,cur,rfl,⟨rfl,rfl⟩,by omega,hGl,hG,hcs,by rw [hl12];omega,fun g' nx hZ hA hmu hka=>⟨?_,?_⟩,hB⟩
  ·refine ⟨_,rfl,⟨hA,by rw [hka];unfold maxLen at hm;omega,.inl (by rw [hmu,hka])⟩,?_,rfl,trivial⟩
   exact ht_of (fun b hb hl=>hZ b hb.1 hl (fun e=>hb.2 (by rw [e];rfl))) hnc hT
  ·rw [hl12]
   have:cur.toList.take 12=es.flatMap Elem.cells:=htk
   rw [this]
   exact agL_out (fun b hb hl=>hZ b (by have:=hb.1;omega) hl (fun e=>hb.2.2 (by rw [e];rfl))) es _ hO.len hO.each
theorem rname_c (n:Int):AC Tryd.prog X 52 [iv n] [] fun r rows=>r=tmS (Tm.nm n)∧rows=[]:=by
 refine AC.weak (C:=fun r rows=>r=.agg [iv 1,iv n,.v (.slice none 0 0)]∧rows=[]) ?_ ?_
 ·refine AC.bodyW false Tryd.func52 rfl Tryd.call52 Tryd.ntmps52 (by simp) fun e nx=>gw ?_
  go_simp
 ·rintro r rows ⟨rfl,rfl⟩
  refine ⟨_,⟨rfl,rfl⟩,fun g w v nx h=>?_⟩
  obtain ⟨vs,e,h⟩:=h
  match vs,h with
  | [a,b,c],h=>
    obtain ⟨h1,h2,h3,_⟩:=h
    exact ⟨_,e,h1,h2,by have:=holds_nil h3 3;exact this,trivial⟩
set_option maxHeartbeats 4000000 in
theorem rsecret_c (k:Nat) (hk:k < 4) (ld:List Int) (hl:ld.length≤20):AC Tryd.prog X 33 [iv k,isl ld] [] fun r rows=>r=.tup [bov (secP k ld).1,iv (secP k ld).2]∧rows=[]:=by
 have HS:Hid (secP k ld=if ∀ q ∈ ld,100≤q∧q≤103 then (Tm.wantB k (decide (100 ∈ ld)) (decide (101 ∈ ld)) (decide (102 ∈ ld)) (decide (103 ∈ ld)),0) else (false,1)):=if_pos hk
 have A:=rexch_c X k hk
 have HD:=Lib.hid (rderives_c X (Tm.msgs k ++ Tm.leakG ld 4) (Tm.resOf k) (Tm.leak_valid k hk ld) (Tm.msgs_valid k hk).2 (by have:=(Tm.leak_acc k hk ld hl).1;omega) (Tm.leak_acc k hk ld hl).2)
 have HW:Hid (∀ C,Tm.IsCl (Tm.msgs k ++ Tm.leakG ld 4) C→Tm.builds C (Tm.normal (Tm.resOf k))= !Tm.wantB k (decide (100 ∈ ld)) (decide (101 ∈ ld)) (decide (102 ∈ ld)) (decide (103 ∈ ld))):=fun C hC=>Tm.sec_builds hk _ _ _ _ (hC.of_mem (Tm.leak_mem k ld))
 have hm4:Hid ((Tm.msgs k).length=4):=rfl
 generalize secP k ld=S at *
 generalize Tm.wantB k (decide (100 ∈ ld)) (decide (101 ∈ ld)) (decide (102 ∈ ld)) (decide (103 ∈ ld))=want at *
 generalize Tm.msgs k=ms at *
 generalize Tm.resOf k=rs at *
 refine AC.bodyW false Tryd.func33 rfl Tryd.call33 Tryd.ntmps33 (by simp) fun e nx=>?_
 go_simp
 refine sqc ?_;go_simp
 refine sqc ?_;go_simp
 refine cl [] [] A (by go_simp) ?_
 rintro r rows ⟨rfl,rfl⟩
 go_simp
 refine sqc ?_;go_simp
 refine sqc ?_;go_simp
 refine lp (α:=Nat × Nat) (fun x=>x.2≤ld.length∧∀ q ∈ ld.take x.2,100≤q∧q≤103) (fun x=>⟨[(1,isl ld),(6,.own 17 nx 4 3),(7,.ptr 7 (nx + 1) 0),(24,isl ld),(25,iv ld.length),(26,iv x.2)],[(17,⟨nx,28,3,tmL ms⟩),(7,⟨nx + 1,28,3,tmc rs⟩)],x.1,[],67⟩) (fun x=>ld.length - x.2) [] [] (nx + 1 + 1 + 1,0) ?_ ?_
 ·dsimp only
  go_simp
 rintro ⟨v,i⟩ ⟨hi,hG⟩
 replace hi:i≤ld.length:=hi
 have HG:Hid (∀ q ∈ ld.take i,100≤q∧q≤103):=hG
 clear hG
 dsimp only
 refine gw ?_
 go_simp
 refine ifd (fun h=>?_) (fun h=>?_) <;> go_simp
 ·have hj:i < ld.length:=by omega
  have HT:Hid (ld.take (i + 1)=ld.take i ++ [ld[i]]):=List.take_succ_eq_append_getElem hj
  have HM:Hid (ld[i] ∈ ld):=List.getElem_mem hj
  generalize ld[i]=q at *
  go_simp
  refine gdd (fun h1=>?_) (fun h1=>?_)
  ·go_simp
   rw [HS.out,if_neg (fun hall=>by have:=(hall q HM.out).1;omega)]
   exact ⟨rfl,rfl⟩
  go_simp
  refine ifd (fun h2=>?_) (fun h2=>?_) <;> go_simp
  ·rw [HS.out,if_neg (fun hall=>by have:=(hall q HM.out).2;omega)]
   exact ⟨rfl,rfl⟩
  go_bits
  refine ⟨_,i + 1,⟨by omega,fun p hp=>?_⟩,by omega,Nat.le_refl _,by omega⟩
  rw [HT.out] at hp
  rcases List.mem_append.1 hp with hp | hp
  ·exact HG.out p hp
  ·rw [List.mem_singleton.1 hp];omega
 have hi2:i=ld.length:=by omega
 subst hi2
 rw [List.take_length] at HG
 rw [if_pos HG.out] at HS
 clear h hi
 refine sqc ?_;go_simp
 refine lp (α:=Nat × Nat × Nat × List Tm) (fun x=>x.2.1≤4∧x.2.2.2=ms ++ Tm.leakG ld x.2.1) (fun x=>⟨[(1,isl ld),(6,.own 900 x.2.2.1 x.2.2.2.length 3),(7,.ptr 7 (nx + 1) 0),(11,iv (100 + x.2.1))],[(900,⟨x.2.2.1,28,3,tmL x.2.2.2⟩),(7,⟨nx + 1,28,3,tmc rs⟩)],x.1,[],67⟩) (fun x=>4 - x.2.1) [(6,900,28,3)] [(6,900,28,3)] (v,0,nx,ms) ?_ ?_
 ·dsimp only
  go_simp
  exact ⟨rfl,hm4.out.symm⟩
 rintro ⟨v,j,u,L⟩ ⟨hj,hL⟩
 replace hj:j≤4:=hj
 have HL:Hid (L=ms ++ Tm.leakG ld j):=hL
 clear hL
 have HJ:=Lib.hid (Tm.leakG_le ld j hj)
 dsimp only
 refine sqc ?_
 go_simp
 refine ifd (fun h=>?_) (fun h=>?_) <;> go_simp
 ·refine sqc ?_;go_simp
  refine lp (α:=Nat × Nat × Nat × List Tm) (fun x=>x.2.1≤ld.length∧x.2.2.2=L ++ Tm.leakF (ld.take x.2.1) (100 + j)) (fun x=>⟨[(1,isl ld),(6,.own 900 x.2.2.1 x.2.2.2.length 3),(7,.ptr 7 (nx + 1) 0),(11,iv (100 + j)),(41,isl ld),(42,iv ld.length),(43,iv x.2.1)],[(900,⟨x.2.2.1,28,3,tmL x.2.2.2⟩),(7,⟨nx + 1,28,3,tmc rs⟩)],x.1,[],67⟩) (fun x=>ld.length - x.2.1) [(6,900,28,3)] [(6,900,28,3)] (v,0,u,L) ?_ ?_
  ·dsimp only
   go_simp
   simp [Tm.leakF]
  rintro ⟨v,m,u,L2⟩ ⟨hm,hL2⟩
  replace hm:m≤ld.length:=hm
  have HL2:Hid (L2=L ++ Tm.leakF (ld.take m) (100 + j)):=hL2
  clear hL2
  dsimp only
  refine gw ?_
  go_simp
  refine ifd (fun h=>?_) (fun h=>?_) <;> go_simp
  ·have hmj:m < ld.length:=by omega
   have HT:=Lib.hid (Tm.leakF_take ld (100 + j) m hmj)
   have hn:=rname_c X (100 + j)
   generalize ld[m]=q at *
   go_simp
   refine ifd (fun h2=>?_) (fun h2=>?_) <;> go_simp
   ·refine cl [] [] hn (by go_simp) ?_
    rintro r rows ⟨rfl,rfl⟩
    go_simp
    have hLl:L2.length≤44:=by
     have h1:=congrArg List.length HL.out
     have h2:=congrArg List.length HL2.out
     have h3:=HJ.out
     have h4:=Tm.leakF_len (ld.take m) (100 + j)
     have h5:=hm4.out
     rw [List.length_append] at h1 h2
     rw [List.length_take] at h4
     omega
    refine ⟨⟨by rw [show Tryd.t28.bytes=40 from rfl];omega,by omega⟩,?_⟩
    go_bits
    refine ⟨_,m + 1,_,L2 ++ [Tm.nm (100 + j)],⟨by omega,?_⟩,by omega,Nat.le_refl _,⟨⟨rfl,by simp⟩,by omega⟩,rfl,rfl⟩
    rw [HT.out,if_pos h2,HL2.out,List.append_assoc]
   ·go_bits
    refine ⟨_,m + 1,_,L2,⟨by omega,?_⟩,by omega,Nat.le_refl _,⟨⟨rfl,rfl⟩,by omega⟩,rfl,rfl⟩
    rw [HT.out,if_neg h2,HL2.out,List.append_nil]
  ·have hm2:m=ld.length:=by omega
   subst hm2
   have hL3:Hid (L2=ms ++ Tm.leakG ld (j + 1)):=by show _=_;rw [HL2.out,HL.out,Tm.leakG_succ,List.take_length,List.append_assoc]
   refine gw ?_;go_simp
   go_bits
   exact ⟨v,j + 1,u,L2,⟨by omega,hL3.out⟩,by omega,Nat.le_refl _,⟨⟨rfl,rfl⟩,by omega⟩,rfl,rfl⟩
 ·have hj2:j=4:=by omega
  subst hj2
  have hd:=HD.out
  rw [← HL.out] at hd
  refine sqc ?_;go_simp
  refine cl (C:=DeC L rs) [900] [] (by simp [arg,cv,frzH,go_sem];exact hd) (by go_simp) ?_
  rintro r rows ⟨C,hC,rfl,rfl⟩
  have hw:=HW.out C (HL.out ▸ hC)
  go_simp
  refine sqc ?_;go_simp
  refine gw ?_;go_simp
  rw [HS.out]
  exact ⟨rfl,rfl⟩
end
end Go.Proofs.YtkgbjoepjcenlaaDoor
namespace Go.Proofs.YtkgbjoepjcenlaaDoor
open Am Go.RowKit
set_option maxRecDepth 100000
theorem AC.below {P:Program} {X:Ev} {f:FuncId} {v:Value} {args:List SV} (hgo:∀ vals w,(callFunc f vals).run P w=.ok (.enter f vals) w) (hc:∀ g w vals,X.E w→agL g w args vals→Calls P f vals.toArray w fun e w'=>e=.returned v∧Below w.heap.size w w'):AC P X f args [] fun r rows=>r=.v v∧rows=[]:=
 ⟨fun g w vals nx hE hz hv hb ha hrow hap=>.inl ⟨hgo _ _,(hc g w vals hE ha).mono fun e w' ⟨he,hB⟩=>⟨v,.v v,[],g,he,⟨rfl,rfl⟩,rfl,.refl g,fun b hb=>.inl hb,.inl rfl,fun i r q h=>by simp at h,fun q hq=>by simp [rnR] at hq,fun u hu=>.inl hu,hB.size,fun b hb _=>hB.block b hb,⟨hB.os,hB.tape,hB.output⟩,X.st w w' hB.size hE fun b hb=>hB.block b (X.lt w b hE hb)⟩⟩⟩
theorem Env.zero {w:World} (h:Env w):0 < w.heap.size:=by
 unfold Env Lib.TabIs World.var? at h
 rw [show Tryd.prog.globalNamed tabN=some 0 by kernel_rfl] at h
 simp only [Option.bind_some] at h
 rcases Nat.eq_zero_or_pos w.heap.size with h' | h'
 ·rw [Array.getElem?_eq_none (by omega)] at h;cases h
 ·exact h'
def XE:Ev:=⟨Env,fun b=>b=0,fun w w' _ h k=>by
 unfold Env Lib.TabIs World.var? at h ⊢
 rw [show Tryd.prog.globalNamed tabN=some 0 by kernel_rfl] at h ⊢
 simp only [Option.bind_some] at h ⊢
 rw [k 0 rfl];exact h,fun w b h hb=>by rw [hb];exact h.zero⟩
open Classical in
noncomputable def exP (m x y i r:Int):List Tm × Tm × Int:=
 if 0≤m∧m≤3 then
  if Gd [x,y,i,r] 4 then
   ([Tm.normal (Tm.em1 m x),Tm.normal (Tm.em2 (m==1 || m==3) m x y r),Tm.normal (Tm.em3 (m==1 || m==3) (m==2 || m==3) m x y i r),Tm.normal (Tm.em4 (m==1 || m==3) (m==2 || m==3) m x y i r)],Tm.normal (Tm.eres (m==1 || m==3) (m==2 || m==3) m x y i r),0)
  else ([],.mk 0 0 [],1)
 else ([],.mk 0 0 [],30)
theorem Gd.out {x y i r:Int} (h:Gd [x,y,i,r] 4):((100≤x∧x≤1000)∧(100≤y∧y≤1000)∧(100≤i∧i≤1000)∧(100≤r∧r≤1000))∧x≠y∧x≠i∧y≠i∧x≠r∧y≠r∧i≠r:=by
 have h0:=h 0 (by simp) (by omega)
 have h1:=h 1 (by simp) (by omega)
 have h2:=h 2 (by simp) (by omega)
 have h3:=h 3 (by simp) (by omega)
 have a:=h1.2 0 (by simp) (by omega)
 have b:=h2.2 0 (by simp) (by omega)
 have c:=h2.2 1 (by simp) (by omega)
 have d:=h3.2 0 (by simp) (by omega)
 have e:=h3.2 1 (by simp) (by omega)
 have f:=h3.2 2 (by simp) (by omega)
 simp only [List.getElem_cons_zero,List.getElem_cons_succ] at h0 h1 h2 h3 a b c d e f
 exact ⟨⟨h0.1,h1.1,h2.1,h3.1⟩,Ne.symm a,Ne.symm b,Ne.symm c,Ne.symm d,Ne.symm e,Ne.symm f⟩
section
variable (X:Ev)
theorem holds_tup3 {g:Cx} {w:World} {a b c:SV} {u v x:Value} (h1:holds g w a u) (h2:holds g w b v) (h3:holds g w c x):holds g w (.tup [a,b,c]) (.tuple #[u,v,x]):=⟨[u,v,x],rfl,h1,h2,h3,trivial⟩
theorem exAC (f:FuncId) (hgo:∀ vals w,(callFunc f vals).run Tryd.prog w=.ok (.enter f vals) w) (m x y i r:Int)
 (h1:∀ w,(m < 0∨(0≤m∧3 < m))→Calls Tryd.prog f #[.int .i64 m,.int .i64 x,.int .i64 y,.int .i64 i,.int .i64 r] w fun e w'=>ErPost 30 w e w')
 (h2:∀ w,0≤m→m≤3→¬ Gd [x,y,i,r] 4→Calls Tryd.prog f #[.int .i64 m,.int .i64 x,.int .i64 y,.int .i64 i,.int .i64 r] w fun e w'=>ErPost 1 w e w')
 (h3:∀ w,0≤m→m≤3→Gd [x,y,i,r] 4→Calls Tryd.prog f #[.int .i64 m,.int .i64 x,.int .i64 y,.int .i64 i,.int .i64 r] w fun e w'=>ExPost (m==1 || m==3) (m==2 || m==3) m x y i r w e w'):
 AC Tryd.prog X f [iv m,iv x,iv y,iv i,iv r] [] fun r' rows=>r'=.tup [tsl (exP m x y i r).1,tmS (exP m x y i r).2.1,iv (exP m x y i r).2.2]∧rows=[]:=
 AC.freshV hgo fun g w vals hE hz ha=>by
  have hv:=agL_v (l:=[.int .i64 m,.int .i64 x,.int .i64 y,.int .i64 i,.int .i64 r]) ha
  subst hv
  have bad:∀ c:Int,Calls Tryd.prog f #[.int .i64 m,.int .i64 x,.int .i64 y,.int .i64 i,.int .i64 r] w (fun e w'=>ErPost c w e w')→exP m x y i r=([],.mk 0 0 [],c)→Calls Tryd.prog f #[.int .i64 m,.int .i64 x,.int .i64 y,.int .i64 i,.int .i64 r] w fun e w'=>∃ v r',e=.returned v∧r'=.tup [tsl (exP m x y i r).1,tmS (exP m x y i r).2.1,iv (exP m x y i r).2.2]∧(∀ g':Cx,(∀ b,w.heap.size≤b→b < w'.heap.size→g'.Z b)→∀ nx,holds g' w' (ren 0 nx r') v)∧Below w.heap.size w w':=fun c hc he=>hc.mono fun e w' ⟨h4,h5⟩=>by
   refine ⟨_,_,h4,rfl,fun g' hg nx=>?_,h5⟩
   rw [he]
   exact holds_tup3 (by show holds g' w' (tsl []) _;unfold tsl;rw [tmL_nil];exact holds_nil rfl 3) ⟨_,rfl,rfl,rfl,by show holds g' w' (tsl []) _;unfold tsl;rw [tmL_nil];exact holds_nil rfl 3,trivial⟩ rfl
  by_cases hm:0≤m∧m≤3
  ·by_cases hG:Gd [x,y,i,r] 4
   ·refine (h3 w hm.1 hm.2 hG).mono fun e w' ⟨a,c,a',n',c',h4,h5,h6,h7,h8,h9⟩=>⟨_,_,h4,rfl,fun g' hg nx=>?_,h9⟩
    rw [show exP m x y i r=_ from (if_pos hm).trans (if_pos hG)]
    exact holds_tup3 (hts_of (n:=4) (fun b hb hl=>hg b hb hl) h5 h6) (ht_of (fun b hb hl=>hg b hb hl) h8 h7) rfl
   ·exact bad 1 (h2 w hm.1 hm.2 hG) ((if_pos hm).trans (if_neg hG))
  ·exact bad 30 (h1 w (by omega)) (if_neg hm)
theorem exch_c (m x y i r:Int):AC Tryd.prog X 30 [iv m,iv x,iv y,iv i,iv r] [] fun r' rows=>r'=.tup [tsl (exP m x y i r).1,tmS (exP m x y i r).2.1,iv (exP m x y i r).2.2]∧rows=[]:=
 exAC X 30 Tryd.call30 m x y i r (fun w h=>exch_badm m x y i r h w) (fun w h1 h2 h3=>exch_bad m x y i r h1 h2 h3 w) fun w h1 h2 h3=>by
  obtain ⟨⟨a,b,c,d⟩,n1,n2,n3,n4,n5,n6⟩:=h3.out
  exact exch_good m x y i r (by omega) a.1 a.2 b.1 b.2 c.1 c.2 d.1 d.2 (by simpa using n1) (by simpa using n2) (by simpa using n3) (by simpa using n4) (by simpa using n5) (by simpa using n6) w _ _ rfl rfl
theorem rexchA_c (m x y i r:Int):AC Tryd.prog X 31 [iv m,iv x,iv y,iv i,iv r] [] fun r' rows=>r'=.tup [tsl (exP m x y i r).1,tmS (exP m x y i r).2.1,iv (exP m x y i r).2.2]∧rows=[]:=
 exAC X 31 Tryd.call31 m x y i r (fun w h=>rexch_badm m x y i r h w) (fun w h1 h2 h3=>rexch_bad m x y i r h1 h2 h3 w) fun w h1 h2 h3=>by
  obtain ⟨⟨a,b,c,d⟩,n1,n2,n3,n4,n5,n6⟩:=h3.out
  exact rexch_good m x y i r (by omega) a.1 a.2 b.1 b.2 c.1 c.2 d.1 d.2 (by simpa using Ne.symm n1) (by simpa using Ne.symm n2) (by simpa using Ne.symm n3) (by simpa using Ne.symm n4) (by simpa using Ne.symm n5) (by simpa using Ne.symm n6) w _ _ rfl rfl
theorem exP_ok (m x y i r:Int):Tm.sizes (exP m x y i r).1≤1000000000∧(exP m x y i r).2.1.size≤1000000000:=by
 unfold exP
 by_cases hm:0≤m∧m≤3
 ·rw [if_pos hm]
  by_cases hG:Gd [x,y,i,r] 4
  ·rw [if_pos hG]
   obtain ⟨⟨a,b,c,d⟩,_⟩:=hG.out
   obtain ⟨h1,h2,h3,h4,h5⟩:=em_valid' (m:=m) (R:=(m==1 || m==3)) (I:=(m==2 || m==3)) (by omega) rfl rfl (x:=x) (y:=y) (i:=i) (r:=r) (by omega) (by omega) (by omega) (by omega)
   simp only [Tm.valid,Bool.and_eq_true,decide_eq_true_eq] at h1 h2 h3 h4 h5
   simp only [Tm.sizes,Tm.size_normal]
   omega
  ·rw [if_neg hG];simp [Tm.sizes,Tm.size]
 ·rw [if_neg hm];simp [Tm.sizes,Tm.size]
theorem rsame_c (l:List Tm) (hl:Tm.sizes l≤1000000000):AC Tryd.prog X 32 [tsl l,tsl l] [] fun r rows=>r=bov true∧rows=[]:=
 AC.below Tryd.call32 fun g w vals hE ha=>by
  match vals,ha with
  | [v,u],ha=>
    obtain ⟨a,c,rfl,hc,hT⟩:=tl_of hl ha.1
    obtain ⟨a',c',rfl,hc',hT'⟩:=tl_of hl ha.2.1
    exact rsame_any l a l.length c a' l.length c' w _ _ hT hT'
theorem awake_c:AC Tryd.prog XE 11 [] [] fun r rows=>r=bov true∧rows=[]:=
 AC.below Tryd.call11 fun g w vals hE ha=>by
  match vals,ha with
  | [],_=>exact awake_any w hE
theorem mod_c (a n:Int) (h1:1≤n) (h2:n≤9223372036854775807):AC Tryd.prog X 28 [iv a,iv n] [] fun r rows=>r=iv (a % n)∧rows=[]:=
 AC.pure1 [.int .i64 a,.int .i64 n] Tryd.call28 fun w=>mod_any a n w h1 h2
theorem is_of {g:Cx} {w:World} {l:List Int} {v:Value} (h:holds g w (isl l) v) (hl:l.length≤1000000) (hb:∀ q ∈ l,-9223372036854775808≤q∧q≤9223372036854775807):∃ a c,v=.slice a l.length c∧Is w a l.length l:=by
 obtain ⟨a,c,e,hn,_,hc⟩:=h
 refine ⟨a,c,e,rfl,by omega,fun i hi=>?_⟩
 rcases hc with hc | ⟨b,o,ea,hz,hat⟩
 ·rw [List.length_map] at hc;omega
 ·obtain ⟨vs,h1,h2⟩:=hat.vals
  obtain ⟨x,h3,h4⟩:=h2 i (by rw [List.length_map];exact hi)
  obtain ⟨y,h5,h6⟩:=h1.get i (iv l[i]) (by simp [hi])
  rw [h3] at h5;cases h5
  have e:l.getD i 0=l[i]:=by simp [hi]
  rw [e]
  exact ⟨b,o,ea,by rw [h4,show x=.int .i64 l[i] from h6],hb _ (List.getElem_mem hi)⟩
theorem first_bad (ld:List Int) (h:¬ ∀ q ∈ ld,100≤q∧q≤103):∃ j,j < ld.length∧(∀ i,i < j→100≤ld.getD i 0∧ld.getD i 0≤103)∧¬ (100≤ld.getD j 0∧ld.getD j 0≤103):=by
 induction ld with
 | nil=>exact absurd (by simp) h
 | cons q ld ih=>
   by_cases hq:100≤q∧q≤103
   ·obtain ⟨j,h1,h2,h3⟩:=ih fun hall=>h fun p hp=>by
     rcases List.mem_cons.1 hp with rfl | hp
     ·exact hq
     ·exact hall p hp
    refine ⟨j + 1,by simpa using h1,fun i hi=>?_,by simpa using h3⟩
    cases i with
    | zero=>simpa using hq
    | succ i=>simpa using h2 i (by omega)
   ·exact ⟨0,by simp,fun i hi=>by omega,by simpa using hq⟩
theorem secret_c (k:Nat) (ld:List Int) (hl:ld.length≤20) (hb:∀ q ∈ ld,-9223372036854775808≤q∧q≤9223372036854775807):AC Tryd.prog XE 29 [iv k,isl ld] [] fun r rows=>r=.tup [bov (secP k ld).1,iv (secP k ld).2]∧rows=[]:=by
 refine AC.weak (C:=fun r rows=>r=.v (.tuple #[.bool (secP k ld).1,.int .i64 (secP k ld).2])∧rows=[]) ?_ ?_
 ·refine AC.below Tryd.call29 fun g w vals hE ha=>?_
  match vals,ha with
  | [v,u],ha=>
    have h1:v=.int .i64 k:=ha.1
    subst h1
    obtain ⟨a,c,rfl,hI⟩:=is_of ha.2.1 (by omega) hb
    by_cases hk:k < 4
    ·by_cases hall:∀ q ∈ ld,100≤q∧q≤103
     ·rw [show secP k ld=_ from (if_pos hk).trans (if_pos hall)]
      exact secret_good k hk ld a ld.length c w hI hall hE
     ·rw [show secP k ld=_ from (if_pos hk).trans (if_neg hall)]
      obtain ⟨j,h1,h2,h3⟩:=first_bad ld hall
      exact secret_bad k hk ld a ld.length c w hI j h1 h2 h3
    ·rw [show secP k ld=_ from if_neg hk]
     exact (secret_badm k (by omega) a ld.length c w).mono fun e w' ⟨h1,h2⟩=>⟨h1,h2 ▸ Below.refl _ _⟩
 ·rintro r rows ⟨rfl,rfl⟩
  exact ⟨_,⟨rfl,rfl⟩,fun g w v nx h=>⟨[.bool (secP k ld).1,.int .i64 (secP k ld).2],h,rfl,rfl,trivial⟩⟩
theorem rsecretA_c (k:Nat) (ld:List Int) (hl:ld.length≤20):AC Tryd.prog X 33 [iv k,isl ld] [] fun r rows=>r=.tup [bov (secP k ld).1,iv (secP k ld).2]∧rows=[]:=by
 by_cases hk:k < 4
 ·exact rsecret_c X k hk ld hl
 ·rw [show secP k ld=_ from if_neg hk]
  have A:=rexchA_c X k 100 101 102 103
  rw [show exP k 100 101 102 103=_ from if_neg (by omega)] at A
  refine AC.bodyW false Tryd.func33 rfl Tryd.call33 Tryd.ntmps33 (by simp) fun e nx=>?_
  go_simp
  refine sqc ?_;go_simp
  refine sqc ?_;go_simp
  refine cl [] [] A (by go_simp) ?_
  rintro r rows ⟨rfl,rfl⟩
  go_simp
  refine gw ?_;go_simp
end
end Go.Proofs.YtkgbjoepjcenlaaDoor
