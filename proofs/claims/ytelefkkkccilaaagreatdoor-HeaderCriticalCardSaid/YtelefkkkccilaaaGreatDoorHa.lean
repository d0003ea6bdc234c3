/- Headers: which are valid, plainly, as the program and as the reference look at them. -/
import Derived.Test.YtelefkkkccilaaaGreatDoorPo
set_option linter.all false
namespace Go.Proofs.YtelefkkkccilaaaGreatDoor
namespace It
def int (n:Int):It:=if n < 0 then mk 1 (-1 - n).toNat [] [] else mk 0 n.toNat [] []
def numb (x:It):Bool:=(decide (x.kind=0) || decide (x.kind=1)) && decide (x.num≤65535)
def permit (q:KV):Bool:=
 if q.1.kind=3 then true
 else if numb q.1=false then false
 else if q.1.kind=1 then true
 else if q.1.num=1 then numb q.2 && (decide (q.2.kind=1) || decide (q.2.num≠0))
 else if q.1.num=4∨q.1.num=5∨q.1.num=6∨q.1.num=12 then decide (q.2.kind=2)
 else true
def hasK (l:List It) (q:It):Bool:=(look l q).isSome
def find2 (p u:It) (n:Int):Option It:=match look p.kids (int n) with
 | some x=>some x
 | .none=>look u.kids (int n)
def mapOk (m:It):Bool:=decide (m.kind=5) && valid m && (pairsK m.kids).all permit
def critOk (p:It):Bool:=match look p.kids (int 2) with
 | .none=>true
 | some c=>c.kids.all (hasK p.kids) && decide (c.kind=4) && decide (0 < c.kids.length)
def hvalid (p u:It):Bool:=mapOk p && mapOk u && (pairsK p.kids).all (fun q=> !hasK u.kids q.1) && !hasK u.kids (int 2) && !((find2 p u 5).isSome && (find2 p u 6).isSome) && critOk p
def labR (x:It):Bool:=decide (x.kind=3) || numb x
def valR (key v:It) (l:List It):Bool:=
 if same key (int 1)=true then (decide (v.kind=0) && decide (0 < v.num) || decide (v.kind=1)) && decide (v.num≤65535)
 else if same key (int 2)=true then (if v.kind≠4∨v.kids.length=0 then false else v.kids.all (hasK l))
 else if same key (int 4)=true∨same key (int 5)=true∨same key (int 6)=true∨same key (int 12)=true then decide (v.kind=2)
 else true
def parR (m:It):Bool:=(pairsK m.kids).all fun q=>labR q.1 && valR q.1 q.2 m.kids
def hvalidR (p u:It):Bool:=decide (p.kind=5) && decide (u.kind=5) && valid p && valid u && parR p && parR u && (pairsK u.kids).all (fun q=> !(hasK p.kids q.1 || same q.1 (int 2))) && (!(find2 p u 5).isSome || !(find2 p u 6).isSome)
theorem wf_plain {d:Nat} {k:It} (h:wf d k=true) (hk:k.kind=0∨k.kind=1):k=mk k.kind k.num [] []:=by
 cases k with
 | mk kd n b ks=>
   have hk:kd=0∨kd=1:=hk;unfold wf at h;rw [if_pos hk] at h;simp only [Bool.and_eq_true,List.isEmpty_iff] at h;obtain ⟨_,rfl,rfl⟩:=h
   rfl
theorem valid_wf8 {x:It} (h:valid x=true):wf 8 x=true:=by
 unfold valid at h;simp only [Bool.and_eq_true] at h;exact h.1.1
theorem same_int {k:It} (hv:valid k=true) (n:Nat):same k (int n)=true↔k.kind=0∧k.num=n:=by
 have e:int n=mk 0 n [] []:=by unfold int;rw [if_neg (by omega)];rfl
 rw [same_iff,e];constructor
 ·intro h;subst h;exact ⟨rfl,rfl⟩
 ·rintro ⟨h1,h2⟩
  have h:=wf_plain (valid_wf8 hv) (.inl h1);rw [h1,h2] at h;exact h
theorem permit_eq {k v:It} (hv:valid k=true) (h2:¬ same k (int 2)=true) (l:List It):permit (k,v)=(labR k && valR k v l):=by
 have e1:=same_int hv 1;have e2:=same_int hv 2;have e4:=same_int hv 4;have e5:=same_int hv 5;have e6:=same_int hv 6;have e12:=same_int hv 12;simp only [Int.cast_ofNat_Int] at e1 e2 e4 e5 e6 e12;unfold permit labR valR;simp only [e1,e2,e4,e5,e6,e12] at h2 ⊢;by_cases h3:k.kind=3
 ·rw [if_pos h3,if_neg (by omega),if_neg (by omega),if_neg (by omega)]
  simp [h3]
 rw [if_neg h3];by_cases hn:numb k=false
 ·rw [if_pos hn,hn];simp [h3]
 rw [if_neg hn];have hn:numb k=true:=by simpa using hn
 rw [hn,Bool.or_true,Bool.true_and];have hk:(k.kind=0∨k.kind=1)∧k.num≤65535:=by unfold numb at hn;simpa using hn
 by_cases h1:k.kind=1
 ·rw [if_pos h1,if_neg (by omega),if_neg (by omega),if_neg (by omega)]
 rw [if_neg h1];by_cases h11:k.num=1
 ·rw [if_pos h11,if_pos (by omega)]
  unfold numb;rw [Bool.eq_iff_iff];simp only [Bool.and_eq_true,Bool.or_eq_true,decide_eq_true_eq];omega
 rw [if_neg h11,if_neg (show ¬ (k.kind=0∧k.num=1) by omega),if_neg (show ¬ (k.kind=0∧k.num=2) by omega)];by_cases h4:k.num=4∨k.num=5∨k.num=6∨k.num=12
 ·rw [if_pos h4,if_pos (by omega)]
 ·rw [if_neg h4,if_neg (by omega)]
theorem look_some {l:List It} {q v:It} (h:look l q=some v):(q,v) ∈ pairsK l:=by
 induction l using pairsK.induct with
 | case1 k v' l ih=>
   unfold look at h;unfold pairsK
   split at h
   ·rename_i e
    rw [same_iff] at e;cases h;subst e;simp
   ·exact List.mem_cons_of_mem _ (ih h)
 | case2 l hl=>
   unfold look at h
   split at h
   ·exact absurd rfl (hl _ _ _)
   ·cases h
theorem hasK_iff:∀ {l:List KV} {q:It},hasK (flatK l) q=true↔∃ p ∈ l,p.1=q
 | [],q=>by simp [hasK,flatK,look]
 | p :: l,q=>by
   have ih:=hasK_iff (l:=l) (q:=q);unfold hasK at ih ⊢;unfold flatK look;by_cases e:same p.1 q=true
   ·rw [if_pos e]
    rw [same_iff] at e;simp [e]
   ·rw [if_neg e,ih]
    rw [same_iff] at e;simp [e]
theorem hasK_pairs {l:List It} (h:l.length % 2=0) {q:It}:hasK l q=true↔∃ p ∈ pairsK l,p.1=q:=by
 conv=>lhs;rw [← flat_pairs l h]
 exact hasK_iff
theorem map_nodup {x:It} (h:valid x=true) (hk:x.kind=5):((pairsK x.kids).map key).Nodup:=by
 have he:=(mev h hk).1;have hw:=valid_wf8 h;cases x with
 | mk k n b ks=>
   have hk:k=5:=hk;subst hk;unfold wf at hw;rw [if_neg (by decide),if_neg (by decide),if_neg (by decide),if_neg (by decide),if_neg (by decide),if_pos (by decide),if_neg (by decide),if_pos rfl] at hw;simp only [Bool.and_eq_true,decide_eq_true_eq] at hw;have ha:=hw.2.1.2.2
   show ((pairsK ks).map key).Nodup
   have he:ks.length % 2=0:=he;rw [← flat_pairs ks he] at ha;exact klt_nodup ((asc_none _).1 ha)
theorem pair_valid {x:It} (h:valid x=true) (hk:x.kind=5) {q:KV} (hq:q ∈ pairsK x.kids):valid q.1=true∧valid q.2=true:=by
 have he:=(mev h hk).1;have h1:q.1 ∈ flatK (pairsK x.kids):=flatK_mem.2 ⟨q,hq,.inl rfl⟩;have h2:q.2 ∈ flatK (pairsK x.kids):=flatK_mem.2 ⟨q,hq,.inr rfl⟩;rw [flat_pairs _ he] at h1 h2;exact ⟨valid_kid h h1,valid_kid h h2⟩
theorem look_pair {x:It} (h:valid x=true) (hk:x.kind=5) {q:KV} (hq:q ∈ pairsK x.kids):look x.kids q.1=some q.2:=by
 have h1:=look_flat (map_nodup h hk) hq;rwa [flat_pairs _ (mev h hk).1] at h1
theorem valid_int2:valid (int 2)=true:=by decide
theorem parR_eq {p:It} (hv:valid p=true) (hk:p.kind=5):parR p=((pairsK p.kids).all permit && critOk p):=by
 rw [Bool.eq_iff_iff,Bool.and_eq_true];unfold parR;rw [List.all_eq_true,List.all_eq_true];have e2:valR (int 2)=fun v l=>if v.kind≠4∨v.kids.length=0 then false else v.kids.all (hasK l):=by
  funext v l
  unfold valR;rw [if_neg (by decide),if_pos (by decide)]
 have hp2:∀ v,permit (int 2,v)=true:=fun v=>rfl
 have hl2:labR (int 2)=true:=rfl;constructor
 ·intro h
  refine ⟨fun q hq=>?_,?_⟩
  ·have hq1:=h q hq
   by_cases e:same q.1 (int 2)=true
   ·rw [same_iff] at e
    have:q=(int 2,q.2):=Prod.ext e rfl;rw [this];exact hp2 _
   ·have:=permit_eq (k:=q.1) (v:=q.2) (pair_valid hv hk hq).1 e p.kids
    rw [show permit q=permit (q.1,q.2) from rfl,this];exact hq1
  ·unfold critOk
   cases hl:look p.kids (int 2) with
   | none=>rfl
   | some c=>
     have h1:=h _ (look_some hl);simp only [hl2,e2,Bool.true_and] at h1
     split at h1
     ·cases h1
     ·rename_i h3
      simp only [h1,Bool.true_and,Bool.and_eq_true,decide_eq_true_eq];omega
 ·rintro ⟨h1,h2⟩ q hq
  by_cases e:same q.1 (int 2)=true
  ·rw [same_iff] at e
   have hl:=look_pair hv hk hq;rw [e] at hl;unfold critOk at h2;rw [hl] at h2;simp only [Bool.and_eq_true,decide_eq_true_eq] at h2;rw [e,hl2,e2,Bool.true_and];simp only;rw [if_neg (by omega)];exact h2.1.1
  ·have:=permit_eq (k:=q.1) (v:=q.2) (pair_valid hv hk hq).1 e p.kids
   rw [← this];exact h1 q hq
theorem hvalid_eq (p u:It):hvalid p u=hvalidR p u:=by
 unfold hvalid hvalidR mapOk;by_cases hp:p.kind=5
 case neg=>simp [hp]
 by_cases hu:u.kind=5
 case neg=>simp [hu]
 cases hvp:valid p with
 | false=>simp
 | true=>
   cases hvu:valid u with
   | false=>simp
   | true=>
     rw [parR_eq hvp hp,parR_eq hvu hu];have hep:=(mev hvp hp).1;have heu:=(mev hvu hu).1;have hdis:(pairsK p.kids).all (fun q=> !hasK u.kids q.1)=(pairsK u.kids).all (fun q=> !hasK p.kids q.1):=by
      rw [Bool.eq_iff_iff,List.all_eq_true,List.all_eq_true];constructor
      ·intro h q hq
       rw [Bool.not_eq_true',Bool.eq_false_iff];intro h1;obtain ⟨r,hr,er⟩:=(hasK_pairs hep).1 h1;have h2:=h r hr;rw [(hasK_pairs heu).2 ⟨q,hq,er.symm⟩] at h2;cases h2
      ·intro h q hq
       rw [Bool.not_eq_true',Bool.eq_false_iff];intro h1;obtain ⟨r,hr,er⟩:=(hasK_pairs heu).1 h1;have h2:=h r hr;rw [(hasK_pairs hep).2 ⟨q,hq,er.symm⟩] at h2;cases h2
     have hsp:(pairsK u.kids).all (fun q=> !(hasK p.kids q.1 || same q.1 (int 2)))=((pairsK u.kids).all (fun q=> !hasK p.kids q.1) && !hasK u.kids (int 2)):=by
      rw [Bool.eq_iff_iff,Bool.and_eq_true,List.all_eq_true,List.all_eq_true];constructor
      ·intro h
       refine ⟨fun q hq=>?_,?_⟩
       ·have:=h q hq
        simp only [Bool.not_or,Bool.and_eq_true] at this;exact this.1
       ·rw [Bool.not_eq_true',Bool.eq_false_iff]
        intro h1;obtain ⟨r,hr,er⟩:=(hasK_pairs heu).1 h1;have:=h r hr;simp only [Bool.not_or,Bool.and_eq_true] at this;rw [same_iff.2 er] at this;exact absurd this.2 (by simp)
      ·rintro ⟨h1,h2⟩ q hq
       rw [Bool.not_or,Bool.and_eq_true];refine ⟨h1 q hq,?_⟩;rw [Bool.not_eq_true',Bool.eq_false_iff];intro h3;rw [same_iff] at h3;rw [(hasK_pairs heu).2 ⟨q,hq,h3⟩] at h2;cases h2
     rw [hdis,hsp];have hcu:hasK u.kids (int 2)=false→critOk u=true:=by
      intro h;unfold hasK at h;unfold critOk;cases hl:look u.kids (int 2) with
      | none=>rfl
      | some c=>rw [hl] at h;cases h
     cases hh:hasK u.kids (int 2) with
     | true=>simp
     | false=>
       rw [hcu hh];simp only [hp,hu,decide_true,Bool.true_and,Bool.and_true,Bool.not_false];cases (pairsK p.kids).all permit <;> cases (pairsK u.kids).all permit <;> cases critOk p <;> cases (pairsK u.kids).all (fun q=> !hasK p.kids q.1) <;> cases (find2 p u 5).isSome <;> cases (find2 p u 6).isSome <;> rfl
end It
