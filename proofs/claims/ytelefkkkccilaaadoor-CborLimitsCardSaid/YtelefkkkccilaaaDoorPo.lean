/- Maps that are built of pairs in any order, plainly. -/
import Derived.Test.YtelefkkkccilaaaDoorLA
import Derived.Test.YtelefkkkccilaaaDoorPi
set_option linter.unusedVariables false
set_option linter.unusedSimpArgs false
namespace Go.Proofs.YtelefkkkccilaaaDoor
namespace It
def mN:Nat→Nat
 | 0=>1
 | d + 1=>1 + 6 * mN d
def mS:Nat→Nat
 | 0=>39
 | d + 1=>9 + 6 * mS d
def Sm (d:Nat) (x:It):Prop:=wf d x=true∧nodes x≤mN d∧(enc x).length≤mS d
theorem mN_up:∀ d,1≤mN d
 | 0=>Nat.le_refl _
 | d + 1=>by unfold mN;omega
theorem mS_up:∀ d,39≤mS d
 | 0=>Nat.le_refl _
 | d + 1=>by have:=mS_up d;unfold mS;omega
theorem Sm.flat {d:Nat} {k:Int} {n:Nat} {b:List UInt8} (h:wf d (mk k n b [])=true) (hb:b.length≤30):Sm d (mk k n b []):=by
 have h1:=enc_le k n b [];have h2:=mS_up d;have h3:=mN_up d;have h4:(encs ([]:List It)).length=0:=rfl;exact ⟨h,by show 1 + 0≤_;omega,by omega⟩
theorem sm_sums {d:Nat}:∀ {l:List It},(∀ y ∈ l,Sm d y)→nodesL l≤l.length * mN d∧(encs l).length≤l.length * mS d∧wfs d l=true
 | [],_=>by simp [nodesL,encs,wfs]
 | k :: ks,h=>by
  have h1:=h k List.mem_cons_self;have h2:=sm_sums (l:=ks) fun y hy=>h y (List.mem_cons_of_mem _ hy)
  have h3:nodesL (k :: ks)=nodes k + nodesL ks:=rfl;have h4:(encs (k :: ks)).length=(enc k).length + (encs ks).length:=by simp [encs]
  have h5:wfs d (k :: ks)=(wf d k && wfs d ks):=rfl;have h6:(ks.length + 1) * mN d=ks.length * mN d + mN d:=Nat.succ_mul _ _;have h7:(ks.length + 1) * mS d=ks.length * mS d + mS d:=Nat.succ_mul _ _;rw [h3,h4,h5,h1.1,h2.2.2,List.length_cons,h6,h7];exact ⟨by have:=h1.2.1;have:=h2.1;omega,by have:=h1.2.2;have:=h2.2.1;omega,rfl⟩
theorem Sm.of {d:Nat} {k:Int} {n:Nat} {ks:List It} (hw:wfs d ks=true→wf (d + 1) (mk k n [] ks)=true) (h:∀ y ∈ ks,Sm d y) (hl:ks.length≤6):Sm (d + 1) (mk k n [] ks):=by
 obtain ⟨h1,h2,h3⟩:=sm_sums h;have h4:=enc_le k n [] ks;have h5:ks.length * mN d≤6 * mN d:=Nat.mul_le_mul_right _ hl;have h6:ks.length * mS d≤6 * mS d:=Nat.mul_le_mul_right _ hl;refine ⟨hw h3,?_,?_⟩
 ·show 1 + nodesL ks≤1 + 6 * mN d;omega
 ·show _≤9 + 6 * mS d
  simp only [List.length_nil] at h4;omega
theorem Sm.zero (d:Nat):Sm d (mk 0 0 [] []):=Sm.flat (by simp [wf]) (by simp)
theorem Sm.tag {d m:Nat} {y:It} (hm:m < 18446744073709551616) (h:Sm d y):Sm (d + 1) (mk 6 m [] [y]):=by
 refine Sm.of (fun hw=>?_) (fun z hz=>by simp only [List.mem_singleton] at hz;subst hz;exact h) (by simp);unfold wf;rw [if_neg (by decide),if_neg (by decide),if_neg (by decide),if_neg (by decide),if_neg (by decide),if_pos (by decide),if_pos rfl,if_neg (by decide)];simp only [Bool.and_eq_true,decide_eq_true_eq,Nat.add_sub_cancel];exact ⟨hm,⟨⟨⟨rfl,by omega⟩,rfl⟩,trivial⟩,hw⟩
theorem Sm.list {d:Nat} {l:List It} (h:∀ y ∈ l,Sm d y) (hl:l.length≤6):Sm (d + 1) (mk 4 0 [] l):=by
 refine Sm.of (fun hw=>?_) h hl;unfold wf;rw [if_neg (by decide),if_neg (by decide),if_neg (by decide),if_neg (by decide),if_neg (by decide),if_pos (by decide),if_neg (by decide),if_neg (by decide)];simp only [Bool.and_eq_true,decide_eq_true_eq,Nat.add_sub_cancel];exact ⟨by omega,⟨⟨⟨rfl,by omega⟩,trivial⟩,trivial⟩,hw⟩
theorem prsN_far {it:Nat→List UInt8→PR It} (hi:∀ f s y f1 s1,it f s=.ok y f1 s1→f1 + 1≤f):∀ (f n m:Nat) (last:Option (List UInt8)) (s:List UInt8),f < 2 * n→f < 2 * m→prsN it last n f s=prsN it last m f s:=by
 intro f
 induction f using Nat.strongRecOn with
 | _ f ih=>
  intro n m last s hn hm;obtain ⟨n,rfl⟩:∃ k,n=k + 1:=⟨n - 1,by omega⟩;obtain ⟨m,rfl⟩:∃ k,m=k + 1:=⟨m - 1,by omega⟩;unfold prsN;cases h1:it f s with
  | err e=>rfl
  | ok k f1 s1=>
   simp only
   split
   ·rfl
   split
   ·rfl
   have h2:=hi _ _ _ _ _ h1;cases h3:it f1 s1 with
   | err e=>rfl
   | ok v f2 s2=>
    simp only;have h4:=hi _ _ _ _ _ h3;rw [ih f2 (by omega) n m _ _ (by omega) (by omega)]
end It
end Go.Proofs.YtelefkkkccilaaaDoor
