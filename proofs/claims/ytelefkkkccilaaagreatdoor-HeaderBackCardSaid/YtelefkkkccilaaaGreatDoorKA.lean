/- Reading, a step at a time. -/
import Derived.Test.YtelefkkkccilaaaGreatDoorLA
set_option linter.all false
namespace Go.Proofs.YtelefkkkccilaaaGreatDoor
namespace It
def pre (l:List It) (r:PR (List It)):PR (List It):=r.map (l ++ ·)
theorem pre_nil (r:PR (List It)):pre [] r=r:=by cases r <;> simp [pre,PR.map]
theorem pre_cons (l:List It) (y:It) (r:PR (List It)):pre l (r.map (y :: ·))=pre (l ++ [y]) r:=by cases r <;> simp [pre,PR.map]
theorem seqN_zero (it:Nat→List UInt8→PR It) (f:Nat) (s:List UInt8) (l:List It):pre l (seqN it 0 f s)=.ok l f s:=by simp [pre,seqN,PR.map]
theorem seqN_err {it:Nat→List UInt8→PR It} {n f:Nat} {s:List UInt8} {e:Nat} (h:it f s=.err e) (l:List It):pre l (seqN it (n + 1) f s)=.err e:=by
 unfold seqN;rw [h];rfl
theorem seqN_ok {it:Nat→List UInt8→PR It} {n f f1:Nat} {s s1:List UInt8} {y:It} (h:it f s=.ok y f1 s1) (l:List It):pre l (seqN it (n + 1) f s)=pre (l ++ [y]) (seqN it n f1 s1):=by
 conv=>lhs;unfold seqN
 rw [h];exact pre_cons _ _ _
def prsO (it:Nat→List UInt8→PR It) (key:List UInt8) (n f:Nat) (s:List UInt8):PR (List It):=match it f s with
 | .err e=>.err e
 | .ok v f2 s2=>(prsN it (some key) n f2 s2).map (v :: ·)
theorem prsN_zero (it:Nat→List UInt8→PR It) (last:Option (List UInt8)) (f:Nat) (s:List UInt8) (l:List It):pre l (prsN it last 0 f s)=.ok l f s:=by simp [pre,prsN,PR.map]
theorem prsN_err {it:Nat→List UInt8→PR It} {last:Option (List UInt8)} {n f:Nat} {s:List UInt8} {e:Nat} (h:it f s=.err e) (l:List It):pre l (prsN it last (n + 1) f s)=.err e:=by
 unfold prsN;rw [h];rfl
theorem prsN_ok {it:Nat→List UInt8→PR It} {last:Option (List UInt8)} {n f f1:Nat} {s s1:List UInt8} {k:It} (h:it f s=.ok k f1 s1) (l:List It):pre l (prsN it last (n + 1) f s)=
 if keyC last (s.take (s.length - s1.length))=0 then .err 7 else if keyC last (s.take (s.length - s1.length)) < 0 then .err 6 else pre (l ++ [k]) (prsO it (s.take (s.length - s1.length)) n f1 s1):=by
 conv=>lhs;unfold prsN
 rw [h];simp only
 split
 ·rfl
 split
 ·rfl
 unfold prsO;cases h2:it f1 s1 with
 | err e=>simp [pre,PR.map]
 | ok v f2 s2=>
   simp only;have h3:(prsN it (some (s.take (s.length - s1.length))) n f2 s2).map (fun x=>k :: v :: x)=((prsN it (some (s.take (s.length - s1.length))) n f2 s2).map (v :: ·)).map (k :: ·):=by
    cases prsN it (some (s.take (s.length - s1.length))) n f2 s2 <;> simp [PR.map]
   rw [h3];exact pre_cons _ _ _
theorem prsO_err {it:Nat→List UInt8→PR It} {key:List UInt8} {n f:Nat} {s:List UInt8} {e:Nat} (h:it f s=.err e) (l:List It):pre l (prsO it key n f s)=.err e:=by
 unfold prsO;rw [h];rfl
theorem prsO_ok {it:Nat→List UInt8→PR It} {key:List UInt8} {n f f1:Nat} {s s1:List UInt8} {v:It} (h:it f s=.ok v f1 s1) (l:List It):pre l (prsO it key n f s)=pre (l ++ [v]) (prsN it (some key) n f1 s1):=by
 unfold prsO;rw [h];exact pre_cons _ _ _
theorem item_takes {d f f1:Nat} {s s1:List UInt8} {x:It} (h:item d f s=.ok x f1 s1):s=enc x ++ s1∧f1 + 1≤f∧s1.length < s.length∧s.take (s.length - s1.length)=enc x∧s1=s.drop (s.length - s1.length):=by
 obtain ⟨h1,h2,h3⟩:=item_sound d f s x f1 s1 h;have h4:=nodes_pos x;have h5:=enc_pos x;have h6:s.length=(enc x).length + s1.length:=by rw [h1,List.length_append]
 have h7:s.length - s1.length=(enc x).length:=by omega
 refine ⟨h1,by omega,by omega,?_,?_⟩
 ·rw [h7];conv=>lhs;rw [h1]
  simp
 ·rw [h7];conv=>rhs;rw [h1]
  simp
def Errs (it:Nat→List UInt8→PR It):Prop:=∀ f s e,it f s=.err e→e≠0
theorem readHead_errs {s:List UInt8} {e:Nat} (h:readHead s=.err e):e≠0:=by
 unfold readHead at h
 split at h
 ·cases h;decide
 ·split at h
  ·cases h;decide
  split at h
  ·cases h
  split at h
  ·cases h;decide
  split at h
  ·cases h;decide
  ·cases h
theorem seqN_errs {it:Nat→List UInt8→PR It} (hi:Errs it):∀ n f s e,seqN it n f s=.err e→e≠0
 | 0,f,s,e,h=>by unfold seqN at h;cases h
 | n + 1,f,s,e,h=>by
   unfold seqN at h
   split at h
   ·rename_i e' h'
    cases h;exact hi _ _ _ h'
   ·rename_i y f1 s1 h'
    cases h2:seqN it n f1 s1 with
    | err e2=>rw [h2] at h;simp only [PR.map] at h;cases h;exact seqN_errs hi n _ _ _ h2
    | ok y2 f2 s2=>rw [h2] at h;simp only [PR.map] at h;cases h
theorem prsN_errs {it:Nat→List UInt8→PR It} (hi:Errs it):∀ last n f s e,prsN it last n f s=.err e→e≠0
 | last,0,f,s,e,h=>by unfold prsN at h;cases h
 | last,n + 1,f,s,e,h=>by
   unfold prsN at h
   split at h
   ·rename_i e' h'
    cases h;exact hi _ _ _ h'
   ·simp only at h
    split at h
    ·cases h;decide
    split at h
    ·cases h;decide
    split at h
    ·rename_i e' h'
     cases h;exact hi _ _ _ h'
    ·rename_i y f1 s1 h' v f2 s2 h''
     revert h
     generalize hk:some _=K;intro h
     first
      | (cases h2:prsN it K n f2 s2 with
        | err e2=>rw [h2] at h;simp only [PR.map] at h;cases h;exact prsN_errs hi K n _ _ _ h2
        | ok y2 f2 s2=>rw [h2] at h;simp only [PR.map] at h;cases h)
theorem map_err {α β:Type} {f:α→β} {r:PR α} {e:Nat} (h:r.map f=.err e):r=.err e:=by
 cases r with
 | err e'=>simp only [PR.map] at h;cases h;rfl
 | ok y f1 s1=>simp only [PR.map] at h;cases h
theorem step_errs {sub:Option (Nat→List UInt8→PR It)} (hs:∀ it,sub=some it→Errs it):Errs (step sub):=by
 intro f s e h;cases f with
 | zero=>unfold step at h;cases h;decide
 | succ f=>
   unfold step at h;cases hr:readHead s with
   | err er=>simp only [hr] at h;cases h;exact readHead_errs hr
   | ok c n r=>
     simp only [hr] at h
     split at h
     ·cases h
     split at h
     ·split at h
      ·cases h;decide
      split at h
      ·cases h;decide
      ·cases h
     split at h
     ·split at h
      ·cases h
      ·cases h;decide
     split at h
     ·cases h;decide
     ·rename_i it
      have hi:=hs it rfl
      split at h
      ·exact prsN_errs hi _ _ _ _ _ (map_err h)
      split at h
      ·exact hi _ _ _ (map_err h)
      ·exact seqN_errs hi _ _ _ _ (map_err h)
theorem item_errs:∀ d,Errs (item d)
 | 0=>by unfold item;exact step_errs fun it h=>by cases h
 | d + 1=>by unfold item;exact step_errs fun it h=>by cases h;exact item_errs d
end It
namespace It
theorem flatK_mem:∀ {l:List KV} {y:It},y ∈ flatK l↔∃ p ∈ l,y=p.1∨y=p.2
 | [],y=>by simp [flatK]
 | p :: l,y=>by
   simp only [flatK,List.mem_cons,flatK_mem (l:=l)];constructor
   ·rintro (h | h | ⟨q,hq,h⟩)
    ·exact ⟨p,.inl rfl,.inl h⟩
    ·exact ⟨p,.inl rfl,.inr h⟩
    ·exact ⟨q,.inr hq,h⟩
   ·rintro ⟨q,rfl | hq,h⟩
    ·rcases h with h | h
     ·exact .inl h
     ·exact .inr (.inl h)
    ·exact .inr (.inr ⟨q,hq,h⟩)
theorem flatK_perm {l m:List KV} (h:l.Perm m):(flatK l).Perm (flatK m):=by
 induction h with
 | nil=>exact List.Perm.refl _
 | cons p _ ih=>exact (ih.cons _).cons _
 | swap p q l=>
   simp only [flatK];have h1:(q.1 :: q.2 :: p.1 :: p.2 :: flatK l).Perm ([q.1,q.2] ++ ([p.1,p.2] ++ flatK l)):=List.Perm.refl _;have h2:([q.1,q.2] ++ ([p.1,p.2] ++ flatK l)).Perm ([p.1,p.2] ++ ([q.1,q.2] ++ flatK l)):=by
    rw [← List.append_assoc,← List.append_assoc];exact List.perm_append_comm.append_right _
   exact h1.trans h2
 | trans _ _ ih1 ih2=>exact ih1.trans ih2
theorem nodesL_perm {l m:List It} (h:l.Perm m):nodesL l=nodesL m:=by
 induction h with
 | nil=>rfl
 | cons p _ ih=>simp only [nodesL,ih]
 | swap p q l=>simp only [nodesL];omega
 | trans _ _ ih1 ih2=>exact ih1.trans ih2
theorem encs_perm {l m:List It} (h:l.Perm m):(encs l).length=(encs m).length:=by
 induction h with
 | nil=>rfl
 | cons p _ ih=>simp only [encs,List.length_append,ih]
 | swap p q l=>simp only [encs,List.length_append];omega
 | trans _ _ ih1 ih2=>exact ih1.trans ih2
theorem wfs_iff {d:Nat}:∀ {l:List It},wfs d l=true↔∀ y ∈ l,wf d y=true
 | []=>by simp [wfs]
 | k :: ks=>by simp [wfs,wfs_iff (l:=ks)]
def mN:Nat→Nat
 | 0=>1
 | d + 1=>1 + 6 * mN d
def mS:Nat→Nat
 | 0=>39
 | d + 1=>9 + 6 * mS d
def Sm (d:Nat) (x:It):Prop:=wf d x=true∧nodes x≤mN d∧(enc x).length≤mS d
theorem mN_up:∀ d,1≤mN d
 | 0=>Nat.le_refl _
 | d + 1=>by unfold mN;omega
theorem mS_up:∀ d,39≤mS d
 | 0=>Nat.le_refl _
 | d + 1=>by have:=mS_up d;unfold mS;omega
theorem Sm.flat {d:Nat} {k:Int} {n:Nat} {b:List UInt8} (h:wf d (mk k n b [])=true) (hb:b.length≤30):Sm d (mk k n b []):=by
 have h1:=enc_le k n b [];have h2:=mS_up d;have h3:=mN_up d;have h4:(encs ([]:List It)).length=0:=rfl;exact ⟨h,by show 1 + 0≤_;omega,by omega⟩
theorem sm_sums {d:Nat}:∀ {l:List It},(∀ y ∈ l,Sm d y)→nodesL l≤l.length * mN d∧(encs l).length≤l.length * mS d∧wfs d l=true
 | [],_=>by simp [nodesL,encs,wfs]
 | k :: ks,h=>by
   have h1:=h k List.mem_cons_self;have h2:=sm_sums (l:=ks) fun y hy=>h y (List.mem_cons_of_mem _ hy)
   have h3:nodesL (k :: ks)=nodes k + nodesL ks:=rfl;have h4:(encs (k :: ks)).length=(enc k).length + (encs ks).length:=by simp [encs]
   have h5:wfs d (k :: ks)=(wf d k && wfs d ks):=rfl;have h6:(ks.length + 1) * mN d=ks.length * mN d + mN d:=Nat.succ_mul _ _;have h7:(ks.length + 1) * mS d=ks.length * mS d + mS d:=Nat.succ_mul _ _;rw [h3,h4,h5,h1.1,h2.2.2,List.length_cons,h6,h7];exact ⟨by have:=h1.2.1;have:=h2.1;omega,by have:=h1.2.2;have:=h2.2.1;omega,rfl⟩
theorem Sm.of {d:Nat} {k:Int} {n:Nat} {ks:List It} (hw:wfs d ks=true→wf (d + 1) (mk k n [] ks)=true) (h:∀ y ∈ ks,Sm d y) (hl:ks.length≤6):Sm (d + 1) (mk k n [] ks):=by
 obtain ⟨h1,h2,h3⟩:=sm_sums h;have h4:=enc_le k n [] ks;have h5:ks.length * mN d≤6 * mN d:=Nat.mul_le_mul_right _ hl;have h6:ks.length * mS d≤6 * mS d:=Nat.mul_le_mul_right _ hl;refine ⟨hw h3,?_,?_⟩
 ·show 1 + nodesL ks≤1 + 6 * mN d;omega
 ·show _≤9 + 6 * mS d
  simp only [List.length_nil] at h4;omega
theorem Sm.zero (d:Nat):Sm d (mk 0 0 [] []):=Sm.flat (by simp [wf]) (by simp)
theorem Sm.tag {d m:Nat} {y:It} (hm:m < 18446744073709551616) (h:Sm d y):Sm (d + 1) (mk 6 m [] [y]):=by
 refine Sm.of (fun hw=>?_) (fun z hz=>by simp only [List.mem_singleton] at hz;subst hz;exact h) (by simp);unfold wf;rw [if_neg (by decide),if_neg (by decide),if_neg (by decide),if_neg (by decide),if_neg (by decide),if_pos (by decide),if_pos rfl,if_neg (by decide)];simp only [Bool.and_eq_true,decide_eq_true_eq,Nat.add_sub_cancel];exact ⟨hm,⟨⟨⟨rfl,by omega⟩,rfl⟩,trivial⟩,hw⟩
theorem Sm.list {d:Nat} {l:List It} (h:∀ y ∈ l,Sm d y) (hl:l.length≤6):Sm (d + 1) (mk 4 0 [] l):=by
 refine Sm.of (fun hw=>?_) h hl;unfold wf;rw [if_neg (by decide),if_neg (by decide),if_neg (by decide),if_neg (by decide),if_neg (by decide),if_pos (by decide),if_neg (by decide),if_neg (by decide)];simp only [Bool.and_eq_true,decide_eq_true_eq,Nat.add_sub_cancel];exact ⟨by omega,⟨⟨⟨rfl,by omega⟩,trivial⟩,trivial⟩,hw⟩
theorem Sm.map0 (d:Nat):Sm (d + 1) (mk 5 0 [] []):=by
 refine Sm.of (fun hw=>?_) (fun y hy=>by simp at hy) (by simp);unfold wf;rw [if_neg (by decide),if_neg (by decide),if_neg (by decide),if_neg (by decide),if_neg (by decide),if_pos (by decide),if_neg (by decide),if_pos rfl];simp only [Bool.and_eq_true,decide_eq_true_eq,Nat.add_sub_cancel];exact ⟨by omega,⟨⟨⟨rfl,by omega⟩,trivial⟩,rfl,rfl⟩,hw⟩
theorem Sm.build {d:Nat} {ps:List It} {x:It} (hb:buildP ps=.ok x) (h:∀ y ∈ ps,Sm d y) (hl:ps.length≤6):Sm (d + 1) x:=by
 unfold buildP at hb
 split at hb
 ·cases hb
 rename_i h0
 split at hb
 ·cases hb
 split at hb
 ·cases hb
 rename_i h1
 split at hb
 ·cases hb
 cases hb
 have hp:=flatK_perm (sortK_perm (pairsK ps));rw [flat_pairs ps (by omega)] at hp;refine Sm.of (fun hw=>?_) (fun y hy=>h y (hp.mem_iff.1 hy)) (by rw [hp.length_eq];exact hl);unfold wf;rw [if_neg (by decide),if_neg (by decide),if_neg (by decide),if_neg (by decide),if_neg (by decide),if_pos (by decide),if_neg (by decide),if_pos rfl];simp only [Bool.and_eq_true,decide_eq_true_eq,Nat.add_sub_cancel];refine ⟨by omega,⟨⟨⟨rfl,by omega⟩,trivial⟩,?_,by simpa using h1⟩,hw⟩;rw [hp.length_eq];omega
theorem look_flat:∀ {M:List KV} {p:KV},(M.map key).Nodup→p ∈ M→look (flatK M) p.1=some p.2
 | q :: M,p,hn,hp=>by
   simp only [List.map_cons,List.nodup_cons] at hn;unfold flatK look;by_cases e:same q.1 p.1=true
   ·rw [if_pos e]
    rw [same_iff] at e;rcases List.mem_cons.1 hp with rfl | hp
    ·rfl
    ·exact absurd (List.mem_map.2 ⟨p,hp,by unfold key;rw [e]⟩) hn.1
   ·rw [if_neg e]
    rcases List.mem_cons.1 hp with rfl | hp
    ·exact absurd (same_self _) e
    ·exact look_flat hn.2 hp
theorem pairsK_flat:∀ l:List KV,pairsK (flatK l)=l
 | []=>rfl
 | p :: l=>by unfold flatK pairsK;rw [pairsK_flat l]
theorem prsN_far {it:Nat→List UInt8→PR It} (hi:∀ f s y f1 s1,it f s=.ok y f1 s1→f1 + 1≤f):∀ (f n m:Nat) (last:Option (List UInt8)) (s:List UInt8),f < 2 * n→f < 2 * m→prsN it last n f s=prsN it last m f s:=by
 intro f
 induction f using Nat.strongRecOn with
 | _ f ih=>
   intro n m last s hn hm;obtain ⟨n,rfl⟩:∃ k,n=k + 1:=⟨n - 1,by omega⟩;obtain ⟨m,rfl⟩:∃ k,m=k + 1:=⟨m - 1,by omega⟩;unfold prsN;cases h1:it f s with
   | err e=>rfl
   | ok k f1 s1=>
     simp only
     split
     ·rfl
     split
     ·rfl
     have h2:=hi _ _ _ _ _ h1;cases h3:it f1 s1 with
     | err e=>rfl
     | ok v f2 s2=>
       simp only;have h4:=hi _ _ _ _ _ h3;rw [ih f2 (by omega) n m _ _ (by omega) (by omega)]
end It
namespace It
def int (n:Int):It:=if n < 0 then mk 1 (-1 - n).toNat [] [] else mk 0 n.toNat [] []
def numb (x:It):Bool:=(decide (x.kind=0) || decide (x.kind=1)) && decide (x.num≤65535)
def permit (q:KV):Bool:=
 if q.1.kind=3 then true
 else if numb q.1=false then false
 else if q.1.kind=1 then true
 else if q.1.num=1 then numb q.2 && (decide (q.2.kind=1) || decide (q.2.num≠0))
 else if q.1.num=4∨q.1.num=5∨q.1.num=6∨q.1.num=12 then decide (q.2.kind=2)
 else true
def hasK (l:List It) (q:It):Bool:=(look l q).isSome
def find2 (p u:It) (n:Int):Option It:=match look p.kids (int n) with
 | some x=>some x
 | .none=>look u.kids (int n)
def mapOk (m:It):Bool:=decide (m.kind=5) && valid m && (pairsK m.kids).all permit
def critOk (p:It):Bool:=match look p.kids (int 2) with
 | .none=>true
 | some c=>c.kids.all (hasK p.kids) && decide (c.kind=4) && decide (0 < c.kids.length)
def hvalid (p u:It):Bool:=mapOk p && mapOk u && (pairsK p.kids).all (fun q=> !hasK u.kids q.1) && !hasK u.kids (int 2) && !((find2 p u 5).isSome && (find2 p u 6).isSome) && critOk p
def labR (x:It):Bool:=decide (x.kind=3) || numb x
def valR (key v:It) (l:List It):Bool:=
 if same key (int 1)=true then (decide (v.kind=0) && decide (0 < v.num) || decide (v.kind=1)) && decide (v.num≤65535)
 else if same key (int 2)=true then (if v.kind≠4∨v.kids.length=0 then false else v.kids.all (hasK l))
 else if same key (int 4)=true∨same key (int 5)=true∨same key (int 6)=true∨same key (int 12)=true then decide (v.kind=2)
 else true
def parR (m:It):Bool:=(pairsK m.kids).all fun q=>labR q.1 && valR q.1 q.2 m.kids
def hvalidR (p u:It):Bool:=decide (p.kind=5) && decide (u.kind=5) && valid p && valid u && parR p && parR u && (pairsK u.kids).all (fun q=> !(hasK p.kids q.1 || same q.1 (int 2))) && (!(find2 p u 5).isSome || !(find2 p u 6).isSome)
theorem wf_plain {d:Nat} {k:It} (h:wf d k=true) (hk:k.kind=0∨k.kind=1):k=mk k.kind k.num [] []:=by
 cases k with
 | mk kd n b ks=>
   have hk:kd=0∨kd=1:=hk;unfold wf at h;rw [if_pos hk] at h;simp only [Bool.and_eq_true,List.isEmpty_iff] at h;obtain ⟨_,rfl,rfl⟩:=h
   rfl
theorem valid_wf8 {x:It} (h:valid x=true):wf 8 x=true:=by
 unfold valid at h;simp only [Bool.and_eq_true] at h;exact h.1.1
theorem same_int {k:It} (hv:valid k=true) (n:Nat):same k (int n)=true↔k.kind=0∧k.num=n:=by
 have e:int n=mk 0 n [] []:=by unfold int;rw [if_neg (by omega)];rfl
 rw [same_iff,e];constructor
 ·intro h;subst h;exact ⟨rfl,rfl⟩
 ·rintro ⟨h1,h2⟩
  have h:=wf_plain (valid_wf8 hv) (.inl h1);rw [h1,h2] at h;exact h
theorem permit_eq {k v:It} (hv:valid k=true) (h2:¬ same k (int 2)=true) (l:List It):permit (k,v)=(labR k && valR k v l):=by
 have e1:=same_int hv 1;have e2:=same_int hv 2;have e4:=same_int hv 4;have e5:=same_int hv 5;have e6:=same_int hv 6;have e12:=same_int hv 12;simp only [Int.cast_ofNat_Int] at e1 e2 e4 e5 e6 e12;unfold permit labR valR;simp only [e1,e2,e4,e5,e6,e12] at h2 ⊢;by_cases h3:k.kind=3
 ·rw [if_pos h3,if_neg (by omega),if_neg (by omega),if_neg (by omega)]
  simp [h3]
 rw [if_neg h3];by_cases hn:numb k=false
 ·rw [if_pos hn,hn];simp [h3]
 rw [if_neg hn];have hn:numb k=true:=by simpa using hn
 rw [hn,Bool.or_true,Bool.true_and];have hk:(k.kind=0∨k.kind=1)∧k.num≤65535:=by unfold numb at hn;simpa using hn
 by_cases h1:k.kind=1
 ·rw [if_pos h1,if_neg (by omega),if_neg (by omega),if_neg (by omega)]
 rw [if_neg h1];by_cases h11:k.num=1
 ·rw [if_pos h11,if_pos (by omega)]
  unfold numb;rw [Bool.eq_iff_iff];simp only [Bool.and_eq_true,Bool.or_eq_true,decide_eq_true_eq];omega
 rw [if_neg h11,if_neg (show ¬ (k.kind=0∧k.num=1) by omega),if_neg (show ¬ (k.kind=0∧k.num=2) by omega)];by_cases h4:k.num=4∨k.num=5∨k.num=6∨k.num=12
 ·rw [if_pos h4,if_pos (by omega)]
 ·rw [if_neg h4,if_neg (by omega)]
theorem look_some {l:List It} {q v:It} (h:look l q=some v):(q,v) ∈ pairsK l:=by
 induction l using pairsK.induct with
 | case1 k v' l ih=>
   unfold look at h;unfold pairsK
   split at h
   ·rename_i e
    rw [same_iff] at e;cases h;subst e;simp
   ·exact List.mem_cons_of_mem _ (ih h)
 | case2 l hl=>
   unfold look at h
   split at h
   ·exact absurd rfl (hl _ _ _)
   ·cases h
theorem hasK_iff:∀ {l:List KV} {q:It},hasK (flatK l) q=true↔∃ p ∈ l,p.1=q
 | [],q=>by simp [hasK,flatK,look]
 | p :: l,q=>by
   have ih:=hasK_iff (l:=l) (q:=q);unfold hasK at ih ⊢;unfold flatK look;by_cases e:same p.1 q=true
   ·rw [if_pos e]
    rw [same_iff] at e;simp [e]
   ·rw [if_neg e,ih]
    rw [same_iff] at e;simp [e]
theorem hasK_pairs {l:List It} (h:l.length % 2=0) {q:It}:hasK l q=true↔∃ p ∈ pairsK l,p.1=q:=by
 conv=>lhs;rw [← flat_pairs l h]
 exact hasK_iff
theorem map_nodup {x:It} (h:valid x=true) (hk:x.kind=5):((pairsK x.kids).map key).Nodup:=by
 have he:=(mev h hk).1;have hw:=valid_wf8 h;cases x with
 | mk k n b ks=>
   have hk:k=5:=hk;subst hk;unfold wf at hw;rw [if_neg (by decide),if_neg (by decide),if_neg (by decide),if_neg (by decide),if_neg (by decide),if_pos (by decide),if_neg (by decide),if_pos rfl] at hw;simp only [Bool.and_eq_true,decide_eq_true_eq] at hw;have ha:=hw.2.1.2.2
   show ((pairsK ks).map key).Nodup
   have he:ks.length % 2=0:=he;rw [← flat_pairs ks he] at ha;exact klt_nodup ((asc_none _).1 ha)
theorem pair_valid {x:It} (h:valid x=true) (hk:x.kind=5) {q:KV} (hq:q ∈ pairsK x.kids):valid q.1=true∧valid q.2=true:=by
 have he:=(mev h hk).1;have h1:q.1 ∈ flatK (pairsK x.kids):=flatK_mem.2 ⟨q,hq,.inl rfl⟩;have h2:q.2 ∈ flatK (pairsK x.kids):=flatK_mem.2 ⟨q,hq,.inr rfl⟩;rw [flat_pairs _ he] at h1 h2;exact ⟨valid_kid h h1,valid_kid h h2⟩
theorem look_pair {x:It} (h:valid x=true) (hk:x.kind=5) {q:KV} (hq:q ∈ pairsK x.kids):look x.kids q.1=some q.2:=by
 have h1:=look_flat (map_nodup h hk) hq;rwa [flat_pairs _ (mev h hk).1] at h1
theorem parR_eq {p:It} (hv:valid p=true) (hk:p.kind=5):parR p=((pairsK p.kids).all permit && critOk p):=by
 rw [Bool.eq_iff_iff,Bool.and_eq_true];unfold parR;rw [List.all_eq_true,List.all_eq_true];have e2:valR (int 2)=fun v l=>if v.kind≠4∨v.kids.length=0 then false else v.kids.all (hasK l):=by
  funext v l
  unfold valR;rw [if_neg (by decide),if_pos (by decide)]
 have hp2:∀ v,permit (int 2,v)=true:=fun v=>rfl
 have hl2:labR (int 2)=true:=rfl;constructor
 ·intro h
  refine ⟨fun q hq=>?_,?_⟩
  ·have hq1:=h q hq
   by_cases e:same q.1 (int 2)=true
   ·rw [same_iff] at e
    have:q=(int 2,q.2):=Prod.ext e rfl;rw [this];exact hp2 _
   ·have:=permit_eq (k:=q.1) (v:=q.2) (pair_valid hv hk hq).1 e p.kids
    rw [show permit q=permit (q.1,q.2) from rfl,this];exact hq1
  ·unfold critOk
   cases hl:look p.kids (int 2) with
   | none=>rfl
   | some c=>
     have h1:=h _ (look_some hl);simp only [hl2,e2,Bool.true_and] at h1
     split at h1
     ·cases h1
     ·rename_i h3
      simp only [h1,Bool.true_and,Bool.and_eq_true,decide_eq_true_eq];omega
 ·rintro ⟨h1,h2⟩ q hq
  by_cases e:same q.1 (int 2)=true
  ·rw [same_iff] at e
   have hl:=look_pair hv hk hq;rw [e] at hl;unfold critOk at h2;rw [hl] at h2;simp only [Bool.and_eq_true,decide_eq_true_eq] at h2;rw [e,hl2,e2,Bool.true_and];simp only;rw [if_neg (by omega)];exact h2.1.1
  ·have:=permit_eq (k:=q.1) (v:=q.2) (pair_valid hv hk hq).1 e p.kids
   rw [← this];exact h1 q hq
theorem hvalid_eq (p u:It):hvalid p u=hvalidR p u:=by
 unfold hvalid hvalidR mapOk;by_cases hp:p.kind=5
 case neg=>simp [hp]
 by_cases hu:u.kind=5
 case neg=>simp [hu]
 cases hvp:valid p with
 | false=>simp
 | true=>
   cases hvu:valid u with
   | false=>simp
   | true=>
     rw [parR_eq hvp hp,parR_eq hvu hu];have hep:=(mev hvp hp).1;have heu:=(mev hvu hu).1;have hdis:(pairsK p.kids).all (fun q=> !hasK u.kids q.1)=(pairsK u.kids).all (fun q=> !hasK p.kids q.1):=by
      rw [Bool.eq_iff_iff,List.all_eq_true,List.all_eq_true];constructor
      ·intro h q hq
       rw [Bool.not_eq_true',Bool.eq_false_iff];intro h1;obtain ⟨r,hr,er⟩:=(hasK_pairs hep).1 h1;have h2:=h r hr;rw [(hasK_pairs heu).2 ⟨q,hq,er.symm⟩] at h2;cases h2
      ·intro h q hq
       rw [Bool.not_eq_true',Bool.eq_false_iff];intro h1;obtain ⟨r,hr,er⟩:=(hasK_pairs heu).1 h1;have h2:=h r hr;rw [(hasK_pairs hep).2 ⟨q,hq,er.symm⟩] at h2;cases h2
     have hsp:(pairsK u.kids).all (fun q=> !(hasK p.kids q.1 || same q.1 (int 2)))=((pairsK u.kids).all (fun q=> !hasK p.kids q.1) && !hasK u.kids (int 2)):=by
      rw [Bool.eq_iff_iff,Bool.and_eq_true,List.all_eq_true,List.all_eq_true];constructor
      ·intro h
       refine ⟨fun q hq=>?_,?_⟩
       ·have:=h q hq
        simp only [Bool.not_or,Bool.and_eq_true] at this;exact this.1
       ·rw [Bool.not_eq_true',Bool.eq_false_iff]
        intro h1;obtain ⟨r,hr,er⟩:=(hasK_pairs heu).1 h1;have:=h r hr;simp only [Bool.not_or,Bool.and_eq_true] at this;rw [same_iff.2 er] at this;exact absurd this.2 (by simp)
      ·rintro ⟨h1,h2⟩ q hq
       rw [Bool.not_or,Bool.and_eq_true];refine ⟨h1 q hq,?_⟩;rw [Bool.not_eq_true',Bool.eq_false_iff];intro h3;rw [same_iff] at h3;rw [(hasK_pairs heu).2 ⟨q,hq,h3⟩] at h2;cases h2
     rw [hdis,hsp];have hcu:hasK u.kids (int 2)=false→critOk u=true:=by
      intro h;unfold hasK at h;unfold critOk;cases hl:look u.kids (int 2) with
      | none=>rfl
      | some c=>rw [hl] at h;cases h
     cases hh:hasK u.kids (int 2) with
     | true=>simp
     | false=>
       rw [hcu hh];simp only [hp,hu,decide_true,Bool.true_and,Bool.and_true,Bool.not_false];cases (pairsK p.kids).all permit <;> cases (pairsK u.kids).all permit <;> cases critOk p <;> cases (pairsK u.kids).all (fun q=> !hasK p.kids q.1) <;> cases (find2 p u 5).isSome <;> cases (find2 p u 6).isSome <;> rfl
end It
namespace It
theorem map_form {x:It} (h:valid x=true) (hk:x.kind=5):x=mk 5 0 [] x.kids∧(pairsK x.kids).Pairwise klt:=by
 have he:=(mev h hk).1;have hw:=valid_wf8 h;cases x with
 | mk k n b ks=>
   have hk:k=5:=hk;subst hk;unfold wf at hw;rw [if_neg (by decide),if_neg (by decide),if_neg (by decide),if_neg (by decide),if_neg (by decide),if_pos (by decide),if_neg (by decide),if_pos rfl] at hw;simp only [Bool.and_eq_true,decide_eq_true_eq,if_neg (show ¬ (5:Int)=6 by decide)] at hw;obtain ⟨_,⟨⟨⟨hb,_⟩,hn⟩,_,ha⟩,_⟩:=hw;have he:ks.length % 2=0:=he;have ha:asc .none ks=true:=ha;rw [← flat_pairs ks he] at ha;have hb:b=[]:=List.isEmpty_iff.1 hb;have hn:n=0:=by simpa using hn
   subst hb;subst hn;exact ⟨rfl,(asc_none _).1 ha⟩
theorem build_same {x:It} (h:valid x=true) (hk:x.kind=5):buildP x.kids=.ok x:=by
 obtain ⟨e,ha⟩:=map_form h hk;have he:=(mev h hk).1;have hs:sortK (pairsK x.kids)=pairsK x.kids:=(sort_uniq (List.Perm.refl _) ha).symm;have hv:x.kids.all valid=true:=List.all_eq_true.2 fun y hy=>valid_kid h hy
 unfold buildP;rw [if_neg (by omega),if_neg (by rw [hv];decide),hs,(asc_none _).2 ha,flat_pairs _ he,if_neg (by decide),← e,if_neg (by rw [h];decide)]
inductive PH where
 | err (e:Nat)
 | ok (p u:It)
def getP (p u:It) (n:Int):Option It:=if hvalid p u=true then find2 p u n else .none
def putP (p u:It) (b:Bool) (n:Int) (v:It):PH:=
 if hvalid p u=false∨valid v=false then .err 1
 else if (find2 p u n).isSome=true then .err 7
 else match buildP ((if b=true then p else u).kids ++ [int n,v]) with
  | .err _=>.err 4
  | .ok m=>if hvalid (if b=true then m else p) (if b=true then u else m)=true then .ok (if b=true then m else p) (if b=true then u else m) else .err 4
def algP (p u:It):Int:=match getP p u 1 with
 | .none=>0
 | some x=>if x.kind=1 then -1 - (x.num:Int) else x.num
theorem int_form (n:Int):int n=mk (int n).kind (int n).num [] []:=by
 unfold int;split <;> rfl
theorem hvalid_maps {p u:It} (h:hvalid p u=true):(valid p=true∧p.kind=5)∧valid u=true∧u.kind=5:=by
 unfold hvalid mapOk at h;simp only [Bool.and_eq_true,decide_eq_true_eq] at h;exact ⟨⟨h.1.1.1.1.1.1.2,h.1.1.1.1.1.1.1⟩,h.1.1.1.1.2.1.2,h.1.1.1.1.2.1.1⟩
end It
namespace It
theorem look_iff {l:List KV} (hn:(l.map key).Nodup) {q v:It}:look (flatK l) q=some v↔(q,v) ∈ l:=by
 constructor
 ·intro h
  have:=look_some h;rwa [pairsK_flat] at this
 ·intro h
  exact look_flat hn h
theorem look_perm {l m:List KV} (hp:l.Perm m) (hn:(l.map key).Nodup) (q:It):look (flatK l) q=look (flatK m) q:=by
 have hm:(m.map key).Nodup:=(hp.map key).nodup_iff.1 hn;apply Option.ext
 intro v;rw [look_iff hn,look_iff hm,hp.mem_iff]
theorem pairsK_append:∀ {l m:List It},l.length % 2=0→pairsK (l ++ m)=pairsK l ++ pairsK m
 | [],m,_=>by rfl
 | [_],m,h=>by simp at h
 | k :: v :: l,m,h=>by
   have:=pairsK_append (l:=l) (m:=m) (by simp at h;omega)
   show (k,v) :: pairsK (l ++ m)=(k,v) :: pairsK l ++ pairsK m
   rw [this];rfl
theorem valid_int {n:Int} (h0: -9223372036854775808≤n) (h1:n≤9223372036854775807):wf 0 (int n)=true∧valid (int n)=true∧nodes (int n)=1∧(enc (int n)).length≤9:=by
 have hw:∀ (k:Int) (m d:Nat),k=0∨k=1→m < 18446744073709551616→wf d (mk k m [] [])=true:=fun k m d hk hm=>by
  unfold wf;rw [if_pos hk];simp [hm]
 have he:∀ (k:Int) (m:Nat),(enc (mk k m [] [])).length≤9:=fun k m=>by
  have:=enc_le k m [] [];have h4:(encs ([]:List It)).length=0:=rfl;simp only [List.length_nil] at this;omega
 have hv:∀ (k:Int) (m:Nat),k=0∨k=1→m < 18446744073709551616→valid (mk k m [] [])=true:=fun k m hk hm=>by
  have h9:=he k m;unfold valid;rw [hw k m 8 hk hm];simp only [Bool.true_and,Bool.and_eq_true,decide_eq_true_eq];exact ⟨by show 1 + 0≤256;omega,by omega⟩
 unfold int
 split
 ·exact ⟨hw _ _ _ (.inr rfl) (by omega),hv _ _ (.inr rfl) (by omega),rfl,he _ _⟩
 ·exact ⟨hw _ _ _ (.inl rfl) (by omega),hv _ _ (.inl rfl) (by omega),rfl,he _ _⟩
theorem build_put {m q v x:It} (hm:valid m=true) (hk:m.kind=5) (hb:buildP (m.kids ++ [q,v])=.ok x):
 valid x=true∧x.kind=5∧(pairsK x.kids).Perm ((q,v) :: pairsK m.kids)∧((pairsK x.kids).map key).Nodup:=by
 have he:=(mev hm hk).1;unfold buildP at hb
 split at hb
 ·cases hb
 split at hb
 ·cases hb
 split at hb
 ·cases hb
 rename_i h1
 split at hb
 ·cases hb
 rename_i h2
 cases hb
 rw [pairsK_append he] at h1 h2 ⊢;have h1:asc .none (flatK (sortK (pairsK m.kids ++ pairsK [q,v])))=true:=by simpa using h1
 refine ⟨by simpa using h2,rfl,?_,?_⟩
 ·show (pairsK (flatK (sortK (pairsK m.kids ++ pairsK [q,v])))).Perm _
  rw [pairsK_flat];exact (sortK_perm _).trans List.perm_append_comm
 ·show ((pairsK (flatK (sortK (pairsK m.kids ++ pairsK [q,v])))).map key).Nodup
  rw [pairsK_flat];exact (((sortK_perm _).map key).nodup_iff).2 ((asc_sort _).1 h1)
theorem look_put {m q v x:It} (hm:valid m=true) (hk:m.kind=5) (hb:buildP (m.kids ++ [q,v])=.ok x) (r:It):
 look x.kids r=if same q r=true then some v else look m.kids r:=by
 obtain ⟨hx,hkx,hp,hn⟩:=build_put hm hk hb;rw [← flat_pairs x.kids (mev hx hkx).1,look_perm hp hn]
 show look (q :: v :: flatK (pairsK m.kids)) r=_
 rw [flat_pairs m.kids (mev hm hk).1,look]
theorem build_room {m q v:It} (hm:valid m=true) (hk:m.kind=5) (hq:valid q=true) (hv:valid v=true) (hwq:wf 7 q=true) (hwv:wf 7 v=true) (hno:look m.kids q=.none) (hN:nodesL m.kids + nodes q + nodes v≤255) (hS:(encs m.kids).length + (enc q).length + (enc v).length≤4087):∃ x,buildP (m.kids ++ [q,v])=.ok x:=by
 obtain ⟨e,ha⟩:=map_form hm hk;have he:=(mev hm hk).1;have hwm:=valid_wf8 hm;have hks:wfs 7 m.kids=true:=by
  rw [e] at hwm;unfold wf at hwm;rw [if_neg (by decide),if_neg (by decide),if_neg (by decide),if_neg (by decide),if_neg (by decide),if_pos (by decide),if_neg (by decide),if_pos rfl] at hwm;simp only [Bool.and_eq_true] at hwm;exact hwm.2.2
 have hnd:((pairsK (m.kids ++ [q,v])).map key).Nodup:=by
  rw [pairsK_append he,List.map_append,List.nodup_append];refine ⟨map_nodup hm hk,by simp [pairsK],?_⟩;intro a ha b hb hab;have hb:b=key (q,v):=by simpa [pairsK] using hb
  obtain ⟨p,hp,rfl⟩:=List.mem_map.1 ha;have h1:=enc_inj (pair_valid hm hk hp).1 hq (hab.trans hb);have h2:=look_pair hm hk hp;rw [h1,hno] at h2;cases h2
 have hev:(m.kids ++ [q,v]).length % 2=0:=by rw [List.length_append];simp;omega
 have hall:∀ y ∈ m.kids ++ [q,v],valid y=true∧wf 7 y=true:=fun y hy=>by
  rcases List.mem_append.1 hy with h | h
  ·exact ⟨valid_kid hm h,wfs_mem hks h⟩
  ·simp only [List.mem_cons,List.not_mem_nil,or_false] at h
   rcases h with rfl | rfl
   ·exact ⟨hq,hwq⟩
   ·exact ⟨hv,hwv⟩
 have hp:=flatK_perm (sortK_perm (pairsK (m.kids ++ [q,v])));rw [flat_pairs _ hev] at hp;have h1:=(asc_sort _).2 hnd;have e1:=nodesL_perm hp;have e2:=encs_perm hp;have e3:nodesL (m.kids ++ [q,v])=nodesL m.kids + (nodes q + nodes v):=by
  rw [nodesL_append];simp [nodesL]
 have e4:(encs (m.kids ++ [q,v])).length=(encs m.kids).length + ((enc q).length + (enc v).length):=by
  rw [encs_append,List.length_append];simp [encs]
 unfold buildP;rw [if_neg (by omega),if_neg (by rw [Bool.not_eq_false,List.all_eq_true];exact fun y hy=>(hall y hy).1),if_neg (by rw [h1];decide),if_neg]
 ·exact ⟨_,rfl⟩
 rw [Bool.not_eq_false];have h4:=enc_le 5 0 [] (flatK (sortK (pairsK (m.kids ++ [q,v]))));simp only [List.length_nil] at h4;unfold valid;simp only [Bool.and_eq_true,decide_eq_true_eq];refine ⟨⟨?_,?_⟩,by omega⟩
 ·unfold wf
  rw [if_neg (by decide),if_neg (by decide),if_neg (by decide),if_neg (by decide),if_neg (by decide),if_pos (by decide),if_neg (by decide),if_pos rfl];simp only [Bool.and_eq_true,decide_eq_true_eq];refine ⟨by omega,⟨⟨⟨rfl,by omega⟩,trivial⟩,?_,h1⟩,wfs_iff.2 fun y hy=>(hall y (hp.mem_iff.1 hy)).2⟩;rw [hp.length_eq];exact hev
 ·show 1 + nodesL _≤256;omega
theorem find2_none {p u:It} {n:Int} (h:find2 p u n=.none):look p.kids (int n)=.none∧look u.kids (int n)=.none:=by
 unfold find2 at h;cases hl:look p.kids (int n) with
 | some x=>rw [hl] at h;cases h
 | none=>rw [hl] at h;exact ⟨rfl,h⟩
theorem int_inj {n k:Int} (h:int n=int k) (hn:0≤n) (hk:0≤k):n=k:=by
 unfold int at h;rw [if_neg (by omega),if_neg (by omega)] at h;simp only [mk.injEq] at h;omega
theorem permit_big {n:Int} {v:It} (h:100≤n) (h2:n≤65535):permit (int n,v)=true:=by
 have e:int n=mk 0 n.toNat [] []:=by unfold int;rw [if_neg (by omega)]
 have hnu:numb (int n)=true:=by
  rw [e];unfold numb;simp [kind,num];omega
 have hk:(int n).kind=0:=by rw [e];rfl
 have hm:(int n).num=n.toNat:=by rw [e];rfl
 unfold permit;simp only;rw [if_neg (show ¬ (int n).kind=3 by omega),if_neg (show ¬ numb (int n)=false by rw [hnu];decide),if_neg (show ¬ (int n).kind=1 by omega),if_neg (show ¬ (int n).num=1 by omega),if_neg (show ¬ ((int n).num=4∨(int n).num=5∨(int n).num=6∨(int n).num=12) by omega)]
theorem hasK_look {l:List It} {q:It}:hasK l q=(look l q).isSome:=rfl
theorem hvalid_put {p u v x:It} {b:Bool} {n:Int} (hv:hvalid p u=true) (h0:100≤n) (h1:n≤65535) (hf:find2 p u n=.none) (hb:buildP ((if b=true then p else u).kids ++ [int n,v])=.ok x):
 hvalid (if b=true then x else p) (if b=true then u else x)=true:=by
 obtain ⟨⟨hp,kp⟩,hu,ku⟩:=hvalid_maps hv;obtain ⟨fp,fu⟩:=find2_none hf;have hv0:=hv;unfold hvalid mapOk at hv0;simp only [Bool.and_eq_true,decide_eq_true_eq,Bool.not_eq_true',List.all_eq_true] at hv0;obtain ⟨⟨⟨⟨⟨⟨_,pp⟩,⟨_,pu⟩⟩,hd⟩,hc⟩,hiv⟩,hcr⟩:=hv0;have hs:∀ k:Int,0≤k→k < 100→same (int n) (int k)=false:=fun k hk hk2=>by
  rw [Bool.eq_false_iff];intro h;have:=int_inj (same_iff.1 h) (by omega) hk;omega
 cases b with
 | true=>
   simp only [if_true] at hb ⊢;obtain ⟨hx,kx,hperm,hnd⟩:=build_put hp kp hb;have hl:=look_put hp kp hb;have hl2:∀ k:Int,0≤k→k < 100→look x.kids (int k)=look p.kids (int k):=fun k hk hk2=>by rw [hl,if_neg (by rw [hs k hk hk2];decide)]
   have hf2:∀ k:Int,0≤k→k < 100→find2 x u k=find2 p u k:=fun k hk hk2=>by unfold find2;rw [hl2 k hk hk2]
   unfold hvalid mapOk;simp only [Bool.and_eq_true,decide_eq_true_eq,Bool.not_eq_true',List.all_eq_true];refine ⟨⟨⟨⟨⟨⟨⟨kx,hx⟩,fun q hq=>?_⟩,⟨ku,hu⟩,pu⟩,fun q hq=>?_⟩,hc⟩,?_⟩,?_⟩
   ·rcases List.mem_cons.1 (hperm.mem_iff.1 hq) with rfl | hq
    ·exact permit_big h0 h1
    ·exact pp q hq
   ·rcases List.mem_cons.1 (hperm.mem_iff.1 hq) with rfl | hq
    ·rw [hasK_look,fu];rfl
    ·exact hd q hq
   ·rw [hf2 5 (dd rfl) (by decide),hf2 6 (dd rfl) (by decide)];exact hiv
   ·unfold critOk at hcr ⊢
    rw [hl2 2 (dd rfl) (by decide)];cases hq:look p.kids (int 2) with
    | none=>rfl
    | some c=>
      rw [hq] at hcr;simp only [Bool.and_eq_true,decide_eq_true_eq,List.all_eq_true] at hcr ⊢;refine ⟨⟨fun y hy=>?_,hcr.1.2⟩,hcr.2⟩;have:=hcr.1.1 y hy;rw [hasK_look] at this ⊢;rw [hl]
      split
      ·rfl
      ·exact this
 | false=>
   simp only [Bool.false_eq_true,if_false] at hb ⊢;obtain ⟨hx,kx,hperm,hnd⟩:=build_put hu ku hb;have hl:=look_put hu ku hb;have hl2:∀ k:Int,0≤k→k < 100→look x.kids (int k)=look u.kids (int k):=fun k hk hk2=>by rw [hl,if_neg (by rw [hs k hk hk2];decide)]
   have hf2:∀ k:Int,0≤k→k < 100→find2 p x k=find2 p u k:=fun k hk hk2=>by unfold find2;rw [hl2 k hk hk2]
   unfold hvalid mapOk;simp only [Bool.and_eq_true,decide_eq_true_eq,Bool.not_eq_true',List.all_eq_true];refine ⟨⟨⟨⟨⟨⟨⟨kp,hp⟩,pp⟩,⟨kx,hx⟩,fun q hq=>?_⟩,fun q hq=>?_⟩,?_⟩,?_⟩,hcr⟩
   ·rcases List.mem_cons.1 (hperm.mem_iff.1 hq) with rfl | hq
    ·exact permit_big h0 h1
    ·exact pu q hq
   ·have h3:=hd q hq
    rw [hasK_look] at h3 ⊢;rw [hl]
    split
    ·rename_i e
     rw [same_iff] at e;have:=look_pair hp kp hq;rw [← e,fp] at this;cases this
    ·exact h3
   ·rw [hasK_look,hl2 2 (dd rfl) (by decide)];exact hc
   ·rw [hf2 5 (dd rfl) (by decide),hf2 6 (dd rfl) (by decide)];exact hiv
theorem put_room {p u v:It} {b:Bool} {n:Int} (hv:hvalid p u=true) (h0:100≤n) (h1:n≤65535) (hf:find2 p u n=.none) (hvv:valid v=true) (hwv:wf 7 v=true)
 (hN:nodesL (if b=true then p else u).kids + 1 + nodes v≤255) (hS:(encs (if b=true then p else u).kids).length + 9 + (enc v).length≤4087):
 ∃ x,buildP ((if b=true then p else u).kids ++ [int n,v])=.ok x∧putP p u b n v=.ok (if b=true then x else p) (if b=true then u else x):=by
 obtain ⟨⟨hp,kp⟩,hu,ku⟩:=hvalid_maps hv;obtain ⟨fp,fu⟩:=find2_none hf;obtain ⟨i0,i1,i2,i3⟩:=valid_int (n:=n) (by omega) (by omega);have hm:valid (if b=true then p else u)=true∧(if b=true then p else u).kind=5∧look (if b=true then p else u).kids (int n)=.none:=by
  cases b with
  | true=>exact ⟨hp,kp,fp⟩
  | false=>exact ⟨hu,ku,fu⟩
 obtain ⟨x,hx⟩:=build_room hm.1 hm.2.1 i1 hvv (wf_up (Nat.zero_le _) i0) hwv hm.2.2 (by rw [i2];exact hN) (by omega);refine ⟨x,hx,?_⟩;unfold putP;rw [if_neg (by rw [hv,hvv];decide),if_neg (by rw [hf];decide),hx];simp only;rw [if_pos (hvalid_put hv h0 h1 hf hx)]
end It
end Go.Proofs.YtelefkkkccilaaaGreatDoor
namespace Go.Proofs.YtelefkkkccilaaaGreatDoor
open Go.RowKit
namespace It
def HDk (k:Nat) (p u:It):Prop:=hvalid p u=true∧(∀ n:Int,100≤n→n≤65535→find2 p u n=.none)∧nodesL p.kids + nodesL u.kids≤k * 8∧(encs p.kids).length + (encs u.kids).length≤k * 252
theorem HDk.up {k m:Nat} {p u:It} (h:HDk k p u) (hk:k≤m):HDk m p u:=
 ⟨h.1,h.2.1,Nat.le_trans h.2.2.1 (Nat.mul_le_mul_right _ hk),Nat.le_trans h.2.2.2 (Nat.mul_le_mul_right _ hk)⟩
theorem putP_ok {p u p' u' v:It} {b:Bool} {n:Int} (h:putP p u b n v=.ok p' u'):hvalid p u=true∧valid v=true∧find2 p u n=.none∧hvalid p' u'=true∧∃ x,buildP ((if b=true then p else u).kids ++ [int n,v])=.ok x∧p'=(if b=true then x else p)∧u'=(if b=true then u else x):=by
 unfold putP at h;by_cases h1:hvalid p u=false∨valid v=false
 ·rw [if_pos h1] at h;cases h
 rw [if_neg h1] at h;by_cases h2:(find2 p u n).isSome=true
 ·rw [if_pos h2] at h;cases h
 rw [if_neg h2] at h;cases hx:buildP ((if b=true then p else u).kids ++ [int n,v]) with
 | err e=>rw [hx] at h;cases h
 | ok x=>
   rw [hx] at h;simp only at h;by_cases h3:hvalid (if b=true then x else p) (if b=true then u else x)=true
   ·rw [if_pos h3] at h
    simp only [PH.ok.injEq] at h;simp only [not_or,Bool.not_eq_false] at h1;obtain ⟨rfl,rfl⟩:=h;exact ⟨h1.1,h1.2,by simpa using h2,h3,x,rfl,rfl,rfl⟩
   ·rw [if_neg h3] at h;cases h
theorem putP_err {p u v:It} {b:Bool} {n:Int} {e:Nat} (h:putP p u b n v=.err e):e≠0:=by
 unfold putP at h;by_cases h1:hvalid p u=false∨valid v=false
 ·rw [if_pos h1] at h;cases h;decide
 rw [if_neg h1] at h;by_cases h2:(find2 p u n).isSome=true
 ·rw [if_pos h2] at h;cases h;decide
 rw [if_neg h2] at h;cases hx:buildP ((if b=true then p else u).kids ++ [int n,v]) with
 | err e=>rw [hx] at h;cases h;decide
 | ok x=>
   rw [hx] at h;simp only at h;by_cases h3:hvalid (if b=true then x else p) (if b=true then u else x)=true
   ·rw [if_pos h3] at h;cases h
   ·rw [if_neg h3] at h;cases h;decide
theorem buildP_err {l:List It} {e:Nat} (h:buildP l=.err e):e≠0:=by
 unfold buildP at h
 split at h
 ·cases h;decide
 split at h
 ·cases h;decide
 split at h
 ·cases h;decide
 split at h
 ·cases h;decide
 ·cases h
theorem hdk_zero:HDk 0 (mk 5 0 [] []) (mk 5 0 [] []):=by
 refine ⟨by decide,fun n h0 h1=>?_,by decide,by decide⟩
 rfl
theorem hdk_put {k:Nat} {p u p' u' v:It} {b:Bool} {n:Int} (h:HDk k p u) (hv:Sm 1 v) (h0: -9223372036854775808≤n) (h1:n < 100) (hp:putP p u b n v=.ok p' u'):HDk (k + 1) p' u':=by
 obtain ⟨g1,g2,g3,hv',x,hx,rfl,rfl⟩:=putP_ok hp;obtain ⟨i0,i1,i2,i3⟩:=valid_int h0 (show n≤9223372036854775807 by omega);obtain ⟨⟨m1,m2⟩,m3,m4⟩:=hvalid_maps h.1;have s2:nodes v≤7:=hv.2.1;have s3:(enc v).length≤243:=hv.2.2;have key:∀ m:It,valid m=true→m.kind=5→buildP (m.kids ++ [int n,v])=.ok x→nodesL x.kids≤nodesL m.kids + 8∧(encs x.kids).length≤(encs m.kids).length + 252∧∀ r:Int,100≤r→r≤65535→look x.kids (int r)=look m.kids (int r):=fun m hm hk hb=>by
  obtain ⟨hx1,hx2,hpm,_⟩:=build_put hm hk hb;have hf:=flatK_perm hpm;rw [flat_pairs x.kids (mev hx1 hx2).1] at hf;have e:flatK ((int n,v) :: pairsK m.kids)=int n :: v :: m.kids:=by
   show int n :: v :: flatK (pairsK m.kids)=_
   rw [flat_pairs m.kids (mev hm hk).1]
  rw [e] at hf;refine ⟨?_,?_,fun r hr0 hr1=>?_⟩
  ·rw [nodesL_perm hf]
   show nodes (int n) + (nodes v + nodesL m.kids)≤_
   omega
  ·rw [encs_perm hf]
   simp only [encs,List.length_append];omega
  ·rw [look_put hm hk hb]
   rw [if_neg];intro hs;have:=same_iff.1 hs;unfold int at this;rw [if_neg (show ¬ r < 0 by omega)] at this
   split at this
   ·simp at this
   ·simp only [mk.injEq] at this;omega
 refine ⟨hv',fun r hr0 hr1=>?_,?_,?_⟩
 ·have hno:=find2_none (h.2.1 r hr0 hr1)
  cases b with
  | true=>
    simp only [if_true] at hx ⊢;have:=(key p m1 m2 hx).2.2 r hr0 hr1;unfold find2;rw [this,hno.1];exact hno.2
  | false=>
    simp only [Bool.false_eq_true,if_false] at hx ⊢;have:=(key u m3 m4 hx).2.2 r hr0 hr1;unfold find2;rw [hno.1];simp only;rw [this,hno.2]
 ·have hb:=h.2.2.1
  cases b with
  | true=>
    simp only [if_true] at hx ⊢;have:=(key p m1 m2 hx).1;omega
  | false=>
    simp only [Bool.false_eq_true,if_false] at hx ⊢;have:=(key u m3 m4 hx).1;omega
 ·have hb:=h.2.2.2
  cases b with
  | true=>
    simp only [if_true] at hx ⊢;have:=(key p m1 m2 hx).2.1;omega
  | false=>
    simp only [Bool.false_eq_true,if_false] at hx ⊢;have:=(key u m3 m4 hx).2.1;omega
end It
