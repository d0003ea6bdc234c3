/- Maps that are built of pairs in any order, plainly. -/
import Derived.Test.YtelefkkkccilaaaGreatDoorPi
set_option linter.all false
namespace Go.Proofs.YtelefkkkccilaaaGreatDoor
namespace It
theorem flatK_mem:∀ {l:List KV} {y:It},y ∈ flatK l↔∃ p ∈ l,y=p.1∨y=p.2
 | [],y=>by simp [flatK]
 | p :: l,y=>by
   simp only [flatK,List.mem_cons,flatK_mem (l:=l)];constructor
   ·rintro (h | h | ⟨q,hq,h⟩)
    ·exact ⟨p,.inl rfl,.inl h⟩
    ·exact ⟨p,.inl rfl,.inr h⟩
    ·exact ⟨q,.inr hq,h⟩
   ·rintro ⟨q,rfl | hq,h⟩
    ·rcases h with h | h
     ·exact .inl h
     ·exact .inr (.inl h)
    ·exact .inr (.inr ⟨q,hq,h⟩)
theorem flatK_perm {l m:List KV} (h:l.Perm m):(flatK l).Perm (flatK m):=by
 induction h with
 | nil=>exact List.Perm.refl _
 | cons p _ ih=>exact (ih.cons _).cons _
 | swap p q l=>
   simp only [flatK];have h1:(q.1 :: q.2 :: p.1 :: p.2 :: flatK l).Perm ([q.1,q.2] ++ ([p.1,p.2] ++ flatK l)):=List.Perm.refl _;have h2:([q.1,q.2] ++ ([p.1,p.2] ++ flatK l)).Perm ([p.1,p.2] ++ ([q.1,q.2] ++ flatK l)):=by
    rw [← List.append_assoc,← List.append_assoc];exact List.perm_append_comm.append_right _
   exact h1.trans h2
 | trans _ _ ih1 ih2=>exact ih1.trans ih2
theorem nodesL_perm {l m:List It} (h:l.Perm m):nodesL l=nodesL m:=by
 induction h with
 | nil=>rfl
 | cons p _ ih=>simp only [nodesL,ih]
 | swap p q l=>simp only [nodesL];omega
 | trans _ _ ih1 ih2=>exact ih1.trans ih2
theorem encs_perm {l m:List It} (h:l.Perm m):(encs l).length=(encs m).length:=by
 induction h with
 | nil=>rfl
 | cons p _ ih=>simp only [encs,List.length_append,ih]
 | swap p q l=>simp only [encs,List.length_append];omega
 | trans _ _ ih1 ih2=>exact ih1.trans ih2
def mN:Nat→Nat
 | 0=>1
 | d + 1=>1 + 6 * mN d
def mS:Nat→Nat
 | 0=>39
 | d + 1=>9 + 6 * mS d
def Sm (d:Nat) (x:It):Prop:=wf d x=true∧nodes x≤mN d∧(enc x).length≤mS d
theorem mN_up:∀ d,1≤mN d
 | 0=>Nat.le_refl _
 | d + 1=>by unfold mN;omega
theorem mS_up:∀ d,39≤mS d
 | 0=>Nat.le_refl _
 | d + 1=>by have:=mS_up d;unfold mS;omega
theorem Sm.flat {d:Nat} {k:Int} {n:Nat} {b:List UInt8} (h:wf d (mk k n b [])=true) (hb:b.length≤30):Sm d (mk k n b []):=by
 have h1:=enc_le k n b [];have h2:=mS_up d;have h3:=mN_up d;have h4:(encs ([]:List It)).length=0:=rfl;exact ⟨h,by show 1 + 0≤_;omega,by omega⟩
theorem sm_sums {d:Nat}:∀ {l:List It},(∀ y ∈ l,Sm d y)→nodesL l≤l.length * mN d∧(encs l).length≤l.length * mS d∧wfs d l=true
 | [],_=>by simp [nodesL,encs,wfs]
 | k :: ks,h=>by
   have h1:=h k List.mem_cons_self;have h2:=sm_sums (l:=ks) fun y hy=>h y (List.mem_cons_of_mem _ hy)
   have h3:nodesL (k :: ks)=nodes k + nodesL ks:=rfl;have h4:(encs (k :: ks)).length=(enc k).length + (encs ks).length:=by simp [encs]
   have h5:wfs d (k :: ks)=(wf d k && wfs d ks):=rfl;have h6:(ks.length + 1) * mN d=ks.length * mN d + mN d:=Nat.succ_mul _ _;have h7:(ks.length + 1) * mS d=ks.length * mS d + mS d:=Nat.succ_mul _ _;rw [h3,h4,h5,h1.1,h2.2.2,List.length_cons,h6,h7];exact ⟨by have:=h1.2.1;have:=h2.1;omega,by have:=h1.2.2;have:=h2.2.1;omega,rfl⟩
theorem Sm.of {d:Nat} {k:Int} {n:Nat} {ks:List It} (hw:wfs d ks=true→wf (d + 1) (mk k n [] ks)=true) (h:∀ y ∈ ks,Sm d y) (hl:ks.length≤6):Sm (d + 1) (mk k n [] ks):=by
 obtain ⟨h1,h2,h3⟩:=sm_sums h;have h4:=enc_le k n [] ks;have h5:ks.length * mN d≤6 * mN d:=Nat.mul_le_mul_right _ hl;have h6:ks.length * mS d≤6 * mS d:=Nat.mul_le_mul_right _ hl;refine ⟨hw h3,?_,?_⟩
 ·show 1 + nodesL ks≤1 + 6 * mN d;omega
 ·show _≤9 + 6 * mS d
  simp only [List.length_nil] at h4;omega
theorem Sm.zero (d:Nat):Sm d (mk 0 0 [] []):=Sm.flat (by simp [wf]) (by simp)
theorem Sm.tag {d m:Nat} {y:It} (hm:m < 18446744073709551616) (h:Sm d y):Sm (d + 1) (mk 6 m [] [y]):=by
 refine Sm.of (fun hw=>?_) (fun z hz=>by simp only [List.mem_singleton] at hz;subst hz;exact h) (by simp);unfold wf;rw [if_neg (by decide),if_neg (by decide),if_neg (by decide),if_neg (by decide),if_neg (by decide),if_pos (by decide),if_pos rfl,if_neg (by decide)];simp only [Bool.and_eq_true,decide_eq_true_eq,Nat.add_sub_cancel];exact ⟨hm,⟨⟨⟨rfl,by omega⟩,rfl⟩,trivial⟩,hw⟩
theorem Sm.list {d:Nat} {l:List It} (h:∀ y ∈ l,Sm d y) (hl:l.length≤6):Sm (d + 1) (mk 4 0 [] l):=by
 refine Sm.of (fun hw=>?_) h hl;unfold wf;rw [if_neg (by decide),if_neg (by decide),if_neg (by decide),if_neg (by decide),if_neg (by decide),if_pos (by decide),if_neg (by decide),if_neg (by decide)];simp only [Bool.and_eq_true,decide_eq_true_eq,Nat.add_sub_cancel];exact ⟨by omega,⟨⟨⟨rfl,by omega⟩,trivial⟩,trivial⟩,hw⟩
theorem Sm.map0 (d:Nat):Sm (d + 1) (mk 5 0 [] []):=by
 refine Sm.of (fun hw=>?_) (fun y hy=>by simp at hy) (by simp);unfold wf;rw [if_neg (by decide),if_neg (by decide),if_neg (by decide),if_neg (by decide),if_neg (by decide),if_pos (by decide),if_neg (by decide),if_pos rfl];simp only [Bool.and_eq_true,decide_eq_true_eq,Nat.add_sub_cancel];exact ⟨by omega,⟨⟨⟨rfl,by omega⟩,trivial⟩,rfl,rfl⟩,hw⟩
theorem Sm.build {d:Nat} {ps:List It} {x:It} (hb:buildP ps=.ok x) (h:∀ y ∈ ps,Sm d y) (hl:ps.length≤6):Sm (d + 1) x:=by
 unfold buildP at hb
 split at hb
 ·cases hb
 rename_i h0
 split at hb
 ·cases hb
 split at hb
 ·cases hb
 rename_i h1
 split at hb
 ·cases hb
 cases hb
 have hp:=flatK_perm (sortK_perm (pairsK ps));rw [flat_pairs ps (by omega)] at hp;refine Sm.of (fun hw=>?_) (fun y hy=>h y (hp.mem_iff.1 hy)) (by rw [hp.length_eq];exact hl);unfold wf;rw [if_neg (by decide),if_neg (by decide),if_neg (by decide),if_neg (by decide),if_neg (by decide),if_pos (by decide),if_neg (by decide),if_pos rfl];simp only [Bool.and_eq_true,decide_eq_true_eq,Nat.add_sub_cancel];refine ⟨by omega,⟨⟨⟨rfl,by omega⟩,trivial⟩,?_,by simpa using h1⟩,hw⟩;rw [hp.length_eq];omega
theorem look_flat:∀ {M:List KV} {p:KV},(M.map key).Nodup→p ∈ M→look (flatK M) p.1=some p.2
 | q :: M,p,hn,hp=>by
   simp only [List.map_cons,List.nodup_cons] at hn;unfold flatK look;by_cases e:same q.1 p.1=true
   ·rw [if_pos e]
    rw [same_iff] at e;rcases List.mem_cons.1 hp with rfl | hp
    ·rfl
    ·exact absurd (List.mem_map.2 ⟨p,hp,by unfold key;rw [e]⟩) hn.1
   ·rw [if_neg e]
    rcases List.mem_cons.1 hp with rfl | hp
    ·exact absurd (same_self _) e
    ·exact look_flat hn.2 hp
theorem pairsK_flat:∀ l:List KV,pairsK (flatK l)=l
 | []=>rfl
 | p :: l=>by unfold flatK pairsK;rw [pairsK_flat l]
end It
