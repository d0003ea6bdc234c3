/- How great the headers of a deck can be. -/
import Derived.Test.YtelefkkkccilaaaGreatDoorHc
set_option linter.all false
namespace Go.Proofs.YtelefkkkccilaaaGreatDoor
open Go.RowKit
namespace It
def HDk (k:Nat) (p u:It):Prop:=hvalid p u=true∧(∀ n:Int,100≤n→n≤65535→find2 p u n=.none)∧nodesL p.kids + nodesL u.kids≤k * 8∧(encs p.kids).length + (encs u.kids).length≤k * 252
theorem HDk.up {k m:Nat} {p u:It} (h:HDk k p u) (hk:k≤m):HDk m p u:=
 ⟨h.1,h.2.1,Nat.le_trans h.2.2.1 (Nat.mul_le_mul_right _ hk),Nat.le_trans h.2.2.2 (Nat.mul_le_mul_right _ hk)⟩
theorem putP_ok {p u p' u' v:It} {b:Bool} {n:Int} (h:putP p u b n v=.ok p' u'):hvalid p u=true∧valid v=true∧find2 p u n=.none∧hvalid p' u'=true∧∃ x,buildP ((if b=true then p else u).kids ++ [int n,v])=.ok x∧p'=(if b=true then x else p)∧u'=(if b=true then u else x):=by
 unfold putP at h;by_cases h1:hvalid p u=false∨valid v=false
 ·rw [if_pos h1] at h;cases h
 rw [if_neg h1] at h;by_cases h2:(find2 p u n).isSome=true
 ·rw [if_pos h2] at h;cases h
 rw [if_neg h2] at h;cases hx:buildP ((if b=true then p else u).kids ++ [int n,v]) with
 | err e=>rw [hx] at h;cases h
 | ok x=>
   rw [hx] at h;simp only at h;by_cases h3:hvalid (if b=true then x else p) (if b=true then u else x)=true
   ·rw [if_pos h3] at h
    simp only [PH.ok.injEq] at h;simp only [not_or,Bool.not_eq_false] at h1;obtain ⟨rfl,rfl⟩:=h;exact ⟨h1.1,h1.2,by simpa using h2,h3,x,rfl,rfl,rfl⟩
   ·rw [if_neg h3] at h;cases h
theorem putP_err {p u v:It} {b:Bool} {n:Int} {e:Nat} (h:putP p u b n v=.err e):e≠0:=by
 unfold putP at h;by_cases h1:hvalid p u=false∨valid v=false
 ·rw [if_pos h1] at h;cases h;decide
 rw [if_neg h1] at h;by_cases h2:(find2 p u n).isSome=true
 ·rw [if_pos h2] at h;cases h;decide
 rw [if_neg h2] at h;cases hx:buildP ((if b=true then p else u).kids ++ [int n,v]) with
 | err e=>rw [hx] at h;cases h;decide
 | ok x=>
   rw [hx] at h;simp only at h;by_cases h3:hvalid (if b=true then x else p) (if b=true then u else x)=true
   ·rw [if_pos h3] at h;cases h
   ·rw [if_neg h3] at h;cases h;decide
theorem buildP_err {l:List It} {e:Nat} (h:buildP l=.err e):e≠0:=by
 unfold buildP at h
 split at h
 ·cases h;decide
 split at h
 ·cases h;decide
 split at h
 ·cases h;decide
 split at h
 ·cases h;decide
 ·cases h
theorem hdk_zero:HDk 0 (mk 5 0 [] []) (mk 5 0 [] []):=by
 refine ⟨by decide,fun n h0 h1=>?_,by decide,by decide⟩
 rfl
theorem hdk_put {k:Nat} {p u p' u' v:It} {b:Bool} {n:Int} (h:HDk k p u) (hv:Sm 1 v) (h0: -9223372036854775808≤n) (h1:n < 100) (hp:putP p u b n v=.ok p' u'):HDk (k + 1) p' u':=by
 obtain ⟨g1,g2,g3,hv',x,hx,rfl,rfl⟩:=putP_ok hp;obtain ⟨i0,i1,i2,i3⟩:=valid_int h0 (show n≤9223372036854775807 by omega);obtain ⟨⟨m1,m2⟩,m3,m4⟩:=hvalid_maps h.1;have s2:nodes v≤7:=hv.2.1;have s3:(enc v).length≤243:=hv.2.2;have key:∀ m:It,valid m=true→m.kind=5→buildP (m.kids ++ [int n,v])=.ok x→nodesL x.kids≤nodesL m.kids + 8∧(encs x.kids).length≤(encs m.kids).length + 252∧∀ r:Int,100≤r→r≤65535→look x.kids (int r)=look m.kids (int r):=fun m hm hk hb=>by
  obtain ⟨hx1,hx2,hpm,_⟩:=build_put hm hk hb;have hf:=flatK_perm hpm;rw [flat_pairs x.kids (mev hx1 hx2).1] at hf;have e:flatK ((int n,v) :: pairsK m.kids)=int n :: v :: m.kids:=by
   show int n :: v :: flatK (pairsK m.kids)=_
   rw [flat_pairs m.kids (mev hm hk).1]
  rw [e] at hf;refine ⟨?_,?_,fun r hr0 hr1=>?_⟩
  ·rw [nodesL_perm hf]
   show nodes (int n) + (nodes v + nodesL m.kids)≤_
   omega
  ·rw [encs_perm hf]
   simp only [encs,List.length_append];omega
  ·rw [look_put hm hk hb]
   rw [if_neg];intro hs;have:=same_iff.1 hs;unfold int at this;rw [if_neg (show ¬ r < 0 by omega)] at this
   split at this
   ·simp at this
   ·simp only [mk.injEq] at this;omega
 refine ⟨hv',fun r hr0 hr1=>?_,?_,?_⟩
 ·have hno:=find2_none (h.2.1 r hr0 hr1)
  cases b with
  | true=>
    simp only [if_true] at hx ⊢;have:=(key p m1 m2 hx).2.2 r hr0 hr1;unfold find2;rw [this,hno.1];exact hno.2
  | false=>
    simp only [Bool.false_eq_true,if_false] at hx ⊢;have:=(key u m3 m4 hx).2.2 r hr0 hr1;unfold find2;rw [hno.1];simp only;rw [this,hno.2]
 ·have hb:=h.2.2.1
  cases b with
  | true=>
    simp only [if_true] at hx ⊢;have:=(key p m1 m2 hx).1;omega
  | false=>
    simp only [Bool.false_eq_true,if_false] at hx ⊢;have:=(key u m3 m4 hx).1;omega
 ·have hb:=h.2.2.2
  cases b with
  | true=>
    simp only [if_true] at hx ⊢;have:=(key p m1 m2 hx).2.1;omega
  | false=>
    simp only [Bool.false_eq_true,if_false] at hx ⊢;have:=(key u m3 m4 hx).2.1;omega
end It
