/- Joined texts. -/
import Derived.Lib.Hide
import Derived.Test.YtkgbjoepjcenlaaDoorRows
import Derived.WalkKit
import Derived.WalkSpells
import Derived.WalkLawsBesides
import Derived.Deep.QuietTactic
import Derived.BigQuiet
import Derived.Deep.RegionHeld3
import Derived.Deep.DeepMust
import Derived.Deep.DeepCutAuto
import Derived.Maps.AppendAt
set_option linter.unusedVariables false
set_option linter.unusedSimpArgs false
namespace Go.Proofs.YtkgbjoepjcenlaaDoor
inductive Tm where
 | mk (op num:Int) (kids:List Tm)
namespace Tm
def op:Tm→Int | mk o _ _=>o
def num:Tm→Int | mk _ n _=>n
def kids:Tm→List Tm | mk _ _ ks=>ks
mutual
def size:Tm→Nat | mk _ _ ks=>1 + sizes ks
def sizes:List Tm→Nat | []=>0 | k :: ks=>size k + sizes ks
end
mutual
def beq:Tm→Tm→Bool | mk o n ks,mk o' n' ks'=>o==o' && n==n' && beqs ks ks'
def beqs:List Tm→List Tm→Bool | [],[]=>true | k :: ks,k' :: ks'=>beq k k' && beqs ks ks' | [],_ :: _=>false | _ :: _,[]=>false
end
mutual
theorem beq_iff:∀ t u:Tm,beq t u=true↔t=u
 | mk o n ks,mk o' n' ks'=>by simp [beq,beqs_iff ks ks',and_assoc]
theorem beqs_iff:∀ l m:List Tm,beqs l m=true↔l=m
 | [],[]=>by simp [beqs]
 | [],_ :: _=>by simp [beqs]
 | _ :: _,[]=>by simp [beqs]
 | k :: ks,k' :: ks'=>by simp [beqs,beq_iff k k',beqs_iff ks ks']
end
instance:DecidableEq Tm:=fun t u=>decidable_of_iff _ (beq_iff t u)
def arity (o:Int):Int:=if o=1 then 0 else if o=3 then 1 else if o=6 then 1 else if o=2 then 2 else if o=5 then 2 else if o=7 then 2 else if o=8 then 2 else if o=4 then 4 else -1
def okN (o n:Int) (l:Nat):Bool:=(l:Int)==arity o && if o==1 then decide (0≤n) && decide (n≤1000) else n==0
mutual
def shaped:Tm→Nat→Bool
 | mk _ _ _,0=>false
 | mk o n ks,l + 1=>okN o n ks.length && shapedL ks l
def shapedL:List Tm→Nat→Bool
 | [],_=>true
 | k :: ks,l=>shaped k l && shapedL ks l
end
def valid (t:Tm):Bool:=decide (t.size≤2000) && shaped t 40
mutual
def formed:Tm→Int→Int→Bool × Int
 | mk o n ks,left,level=>if left - 1 < 0 then (false,left - 1) else if 40 < level then (false,left - 1) else if (ks.length:Int)≠arity o then (false,left - 1) else
   if o=1 then (decide (0≤n) && decide (n≤1000),left - 1) else if n≠0 then (false,left - 1) else formedL ks (left - 1) (level + 1)
def formedL:List Tm→Int→Int→Bool × Int
 | [],left,_=>(true,left)
 | k :: ks,left,level=>if (formed k left level).1 then formedL ks (formed k left level).2 level else (false,(formed k left level).2)
end
theorem size_pos (t:Tm):1≤t.size:=by cases t;simp [size]
mutual
theorem formed_iff:∀ (t:Tm) (left:Int) (lv:Nat),0≤left→lv≤40→
 ((formed t left (41 - lv)).1=true↔(t.size:Int)≤left∧shaped t lv=true)∧((formed t left (41 - lv)).1=true→(formed t left (41 - lv)).2=left - t.size)
 | mk o n ks,left,lv,h0,hl=>by
   cases lv with
   | zero=>
     simp only [formed,shaped,size]
     by_cases h1:left - 1 < 0
     ·simp [h1]
     ·simp [h1]
   | succ l=>
     have hlv:¬ (40:Int) < 41 - ((l + 1:Nat):Int):=by omega
     have e1:(41 - ((l + 1:Nat):Int)) + 1=41 - (l:Int):=by omega
     simp only [formed,shaped,size,okN]
     by_cases h1:left - 1 < 0
     ·simp only [h1,if_true]
      simp
      intro h;omega
     ·simp only [h1,if_false,hlv,e1]
      by_cases h2:(ks.length:Int)=arity o
      ·by_cases h3:o=1
       ·subst h3
        have hk:ks=[]:=by
         have:arity 1=0:=rfl
         rw [this] at h2
         exact List.length_eq_zero_iff.1 (by omega)
        subst hk
        simp [arity,sizes,shapedL]
        omega
       ·by_cases h4:n=0
        ·subst h4
         have ih:=formedL_iff ks (left - 1) l (by omega) (by omega)
         simp [h2,h3]
         constructor
         ·rw [ih.1];constructor
          ·rintro ⟨a,b⟩;exact ⟨by omega,b⟩
          ·rintro ⟨a,b⟩;exact ⟨by omega,b⟩
         ·intro h;rw [ih.2 h];omega
        ·simp [h2,h3,h4]
      ·simp [h2]
theorem formedL_iff:∀ (ks:List Tm) (left:Int) (lv:Nat),0≤left→lv≤40→
 ((formedL ks left (41 - lv)).1=true↔(sizes ks:Int)≤left∧shapedL ks lv=true)∧((formedL ks left (41 - lv)).1=true→(formedL ks left (41 - lv)).2=left - sizes ks)
 | [],left,lv,h0,hl=>by simp [formedL,sizes,shapedL];omega
 | k :: ks,left,lv,h0,hl=>by
   have ih:=formed_iff k left lv h0 hl
   simp only [formedL,sizes,shapedL]
   cases hf:(formed k left (41 - lv)).1
   ·simp [hf] at ih ⊢
    intro h1 h2
    have:=ih (by omega)
    simp [this] at h2
   ·have h2:=ih.1.1 hf
    have h3:=ih.2 hf
    have ih2:=formedL_iff ks (formed k left (41 - lv)).2 lv (by omega) hl
    rw [h3] at ih2 ⊢
    simp [h2.2]
    constructor
    ·rw [ih2.1];constructor
     ·rintro ⟨a,b⟩;exact ⟨by omega,b⟩
     ·rintro ⟨a,b⟩;exact ⟨by omega,b⟩
    ·intro h;rw [ih2.2 h];omega
end
theorem formed_valid (t:Tm):(formed t 2000 1).1=valid t:=by
 have h:=(formed_iff t 2000 40 (by omega) (by omega)).1
 have e:(41 - ((40:Nat):Int))=1:=by omega
 rw [e] at h
 unfold valid
 rw [Bool.eq_iff_iff,h]
 simp
 omega
def cmpI (a b:Int):Int:=if a < b then -1 else if b < a then 1 else 0
theorem cmpI_zero {a b:Int}:cmpI a b=0↔a=b:=by
 unfold cmpI
 by_cases h1:a < b
 ·rw [if_pos h1];omega
 ·rw [if_neg h1]
  by_cases h2:b < a
  ·rw [if_pos h2];omega
  ·rw [if_neg h2];omega
theorem cmpI_self (a:Int):cmpI a a=0:=by simp [cmpI]
mutual
def compare:Tm→Tm→Int
 | mk o n ks,mk o' n' ks'=>if cmpI o o'≠0 then cmpI o o' else if cmpI n n'≠0 then cmpI n n' else if cmpI ks.length ks'.length≠0 then cmpI ks.length ks'.length else compares ks ks'
def compares:List Tm→List Tm→Int
 | k :: ks,k' :: ks'=>if compare k k'≠0 then compare k k' else compares ks ks'
 | [],_=>0
 | _ :: _,[]=>0
end
mutual
theorem compare_self:∀ t:Tm,compare t t=0
 | mk o n ks=>by simp [compare,cmpI_self,compares_self ks]
theorem compares_self:∀ l:List Tm,compares l l=0
 | []=>by simp [compares]
 | k :: ks=>by simp [compares,compare_self k,compares_self ks]
end
mutual
theorem compare_eq:∀ t u:Tm,compare t u=0→t=u
 | mk o n ks,mk o' n' ks'=>by
   intro h
   simp only [compare] at h
   by_cases h1:cmpI o o'=0
   ·by_cases h2:cmpI n n'=0
    ·by_cases h3:cmpI (ks.length:Int) (ks'.length:Int)=0
     ·simp [h1,h2,h3] at h
      have hl:=cmpI_zero.1 h3
      rw [cmpI_zero.1 h1,cmpI_zero.1 h2,compares_eq ks ks' (by omega) h]
     ·simp [h1,h2,h3] at h
    ·simp [h1,h2] at h
   ·simp [h1] at h
theorem compares_eq:∀ l m:List Tm,l.length=m.length→compares l m=0→l=m
 | [],[],_,_=>rfl
 | [],_ :: _,h,_=>by simp at h
 | _ :: _,[],h,_=>by simp at h
 | k :: ks,k' :: ks',h,hc=>by
   simp only [compares] at hc
   by_cases h1:compare k k'=0
   ·simp [h1] at hc
    rw [compare_eq k k' h1,compares_eq ks ks' (by simpa using h) hc]
   ·simp [h1] at hc
end
theorem compare_iff {t u:Tm}:compare t u=0↔t=u:=⟨compare_eq t u,fun h=>h ▸ compare_self t⟩
def swap (o:Int) (l:List Tm):List Tm:=if o=7 then (match l with | [a,b]=>if 0 < compare a b then [b,a] else [a,b] | _=>l) else l
theorem swap_length (o:Int) (l:List Tm):(swap o l).length=l.length:=by
 unfold swap;split
 ·split
  ·split <;> rfl
  ·rfl
 ·rfl
mutual
def normal:Tm→Tm | mk o n ks=>mk o n (swap o (normals ks))
def normals:List Tm→List Tm | []=>[] | k :: ks=>normal k :: normals ks
end
theorem normals_map:∀ l:List Tm,normals l=l.map normal
 | []=>by simp [normals]
 | k :: ks=>by simp [normals,normals_map ks]
mutual
def contains:Tm→Tm→Bool
 | mk o n ks,p=>compare (mk o n ks) p==0 || containsL ks p
def containsL:List Tm→Tm→Bool
 | [],_=>false
 | k :: ks,p=>contains k p || containsL ks p
end
end Tm
end Go.Proofs.YtkgbjoepjcenlaaDoor
namespace Go.Proofs.YtkgbjoepjcenlaaDoor
namespace Tm
mutual
def wf:Tm→Bool | mk o n ks=>okN o n ks.length && wfs ks
def wfs:List Tm→Bool | []=>true | k :: ks=>wf k && wfs ks
end
mutual
theorem shaped_wf:∀ (t:Tm) (l:Nat),shaped t l=true→wf t=true
 | mk o n ks,0,h=>by simp [shaped] at h
 | mk o n ks,l + 1,h=>by
   simp [shaped] at h
   simp [wf,h.1,shapedL_wf ks l h.2]
theorem shapedL_wf:∀ (ks:List Tm) (l:Nat),shapedL ks l=true→wfs ks=true
 | [],_,_=>by simp [wfs]
 | k :: ks,l,h=>by
   simp [shapedL] at h
   simp [wfs,shaped_wf k l h.1,shapedL_wf ks l h.2]
end
theorem valid_wf {t:Tm} (h:valid t=true):wf t=true:=by
 simp [valid] at h;exact shaped_wf t 40 h.2
theorem wfs_iff:∀ l:List Tm,wfs l=true↔∀ t ∈ l,wf t=true
 | []=>by simp [wfs]
 | k :: ks=>by simp [wfs,wfs_iff ks]
theorem shapedL_iff (n:Nat):∀ l:List Tm,shapedL l n=true↔∀ t ∈ l,shaped t n=true
 | []=>by simp [shapedL]
 | k :: ks=>by simp [shapedL,shapedL_iff n ks]
theorem okN_len {o n:Int} {l:Nat} (h:okN o n l=true):(l:Int)=arity o:=by simp [okN] at h;exact h.1
theorem okN_op {o n:Int} {l:Nat} (h:okN o n l=true):o=1∨o=2∨o=3∨o=4∨o=5∨o=6∨o=7∨o=8:=by
 have h1:=okN_len h
 unfold arity at h1
 by_cases a1:o=1;· omega
 by_cases a2:o=2;· omega
 by_cases a3:o=3;· omega
 by_cases a4:o=4;· omega
 by_cases a5:o=5;· omega
 by_cases a6:o=6;· omega
 by_cases a7:o=7;· omega
 by_cases a8:o=8;· omega
 simp [a1,a2,a3,a4,a5,a6,a7,a8] at h1
theorem okN_name {n:Int} {l:Nat} (h:okN 1 n l=true):l=0∧0≤n∧n≤1000:=by
 simp [okN,arity] at h;exact ⟨h.1,h.2.1,h.2.2⟩
theorem okN_num {o n:Int} {l:Nat} (h:okN o n l=true) (ho:o≠1):n=0:=by
 simp [okN,ho] at h;exact h.2
theorem swap_mem {o:Int} {l:List Tm} {t:Tm}:t ∈ swap o l↔t ∈ l:=by
 unfold swap
 split
 ·split
  ·split
   ·simp;constructor <;> (intro h;rcases h with h | h <;> simp [h])
   ·rfl
  ·rfl
 ·rfl
theorem sizes_swap (o:Int) (l:List Tm):sizes (swap o l)=sizes l:=by
 unfold swap
 split
 ·split
  ·split
   ·simp [sizes];omega
   ·rfl
  ·rfl
 ·rfl
theorem normals_length:∀ l:List Tm,(normals l).length=l.length:=fun l=>by rw [normals_map];simp
mutual
theorem size_normal:∀ t:Tm,(normal t).size=t.size
 | mk o n ks=>by simp [normal,size,sizes_swap,sizes_normals ks]
theorem sizes_normals:∀ l:List Tm,sizes (normals l)=sizes l
 | []=>by simp [normals]
 | k :: ks=>by simp [normals,sizes,size_normal k,sizes_normals ks]
end
mutual
theorem shaped_normal:∀ (t:Tm) (l:Nat),shaped t l=true→shaped (normal t) l=true
 | mk o n ks,0,h=>by simp [shaped] at h
 | mk o n ks,l + 1,h=>by
   simp only [shaped,Bool.and_eq_true] at h
   simp only [normal,shaped,Bool.and_eq_true,swap_length,normals_length]
   refine ⟨h.1,?_⟩
   have ih:=shapedL_normals ks l h.2
   rw [shapedL_iff] at ih ⊢
   intro t ht
   exact ih t (swap_mem.1 ht)
theorem shapedL_normals:∀ (ks:List Tm) (l:Nat),shapedL ks l=true→shapedL (normals ks) l=true
 | [],_,_=>by simp [normals,shapedL]
 | k :: ks,l,h=>by
   simp [shapedL] at h
   simp [normals,shapedL,shaped_normal k l h.1,shapedL_normals ks l h.2]
end
theorem valid_normal {t:Tm} (h:valid t=true):valid (normal t)=true:=by
 simp [valid] at h ⊢
 exact ⟨by rw [size_normal];exact h.1,shaped_normal t 40 h.2⟩
def decF:Nat→Nat→List UInt8
 | 0,n=>[UInt8.ofNat (48 + n)]
 | f + 1,n=>if n < 10 then [UInt8.ofNat (48 + n)] else decF f (n / 10) ++ [UInt8.ofNat (48 + n % 10)]
def dec (n:Nat):List UInt8:=decF 4 n
def isD (c:UInt8):Bool:=decide (48≤c.toNat) && decide (c.toNat≤57)
def val (l:List UInt8):Nat:=l.foldl (fun a c=>10 * a + (c.toNat - 48)) 0
theorem dec_facts:∀ n,n < 1001→(dec n).all isD=true∧val (dec n)=n∧(dec n).length≤4:=by decide +kernel
def nd (l:List UInt8):Prop:=∀ c r,l=c :: r→isD c=false
theorem nd_nil:nd []:=fun c r h=>by cases h
theorem nd_cons {c:UInt8} (h:isD c=false) (r:List UInt8):nd (c :: r):=fun c' r' e=>by cases e;exact h
theorem take_digits (d r:List UInt8) (hd:d.all isD=true) (hr:nd r):(d ++ r).takeWhile isD=d:=by
 induction d with
 | nil=>
   cases r with
   | nil=>rfl
   | cons c r=>simp [hr c r rfl]
 | cons x d ih=>
   simp only [List.all_cons,Bool.and_eq_true] at hd
   simp [hd.1,ih hd.2]
theorem dec_inj {n m:Nat} (hn:n < 1001) (hm:m < 1001) {r s:List UInt8} (hr:nd r) (hs:nd s) (h:dec n ++ r=dec m ++ s):n=m∧r=s:=by
 have a:=dec_facts n hn
 have b:=dec_facts m hm
 have e:dec n=dec m:=by rw [← take_digits (dec n) r a.1 hr,h,take_digits (dec m) s b.1 hs]
 refine ⟨by rw [← a.2.1,e,b.2.1],?_⟩
 rw [e] at h
 exact List.append_cancel_left h
def opName (o:Int):List UInt8:=if o=2 then [112,97,105,114] else if o=3 then [104,97,115,104] else if o=4 then [115,101,97,108] else if o=5 then [115,105,103,110] else if o=6 then [112,117,98] else if o=7 then [115,104,97,114,101] else if o=8 then [107,100,102] else []
mutual
def text:Tm→List UInt8 | mk o n ks=>if o=1 then 110 :: dec n.toNat else opName o ++ 40 :: (joined ks ++ [41])
def joined:List Tm→List UInt8 | []=>[] | k :: ks=>text k ++ trail ks
def trail:List Tm→List UInt8 | []=>[] | k :: ks=>44 :: 32 :: (text k ++ trail ks)
end
theorem op_inj {o o':Int} (h:o=2∨o=3∨o=4∨o=5∨o=6∨o=7∨o=8) (h':o'=2∨o'=3∨o'=4∨o'=5∨o'=6∨o'=7∨o'=8) {r s:List UInt8} (e:opName o ++ 40 :: r=opName o' ++ 40 :: s):o=o'∧r=s:=by
 rcases h with rfl | rfl | rfl | rfl | rfl | rfl | rfl <;> rcases h' with rfl | rfl | rfl | rfl | rfl | rfl | rfl <;> simp [opName] at e <;> simp [e]
theorem op_not_name {o:Int} (h:o=2∨o=3∨o=4∨o=5∨o=6∨o=7∨o=8) {r s:List UInt8}:opName o ++ 40 :: r≠110 :: s:=by
 rcases h with rfl | rfl | rfl | rfl | rfl | rfl | rfl <;> simp [opName]
theorem nd_trail (ks:List Tm) (r:List UInt8):nd (trail ks ++ 41 :: r):=by
 cases ks with
 | nil=>simp only [trail,List.nil_append];exact nd_cons rfl _
 | cons k ks=>simp only [trail,List.cons_append];exact nd_cons rfl _
mutual
theorem text_inj:∀ (t u:Tm) (r s:List UInt8),wf t=true→wf u=true→nd r→nd s→text t ++ r=text u ++ s→t=u∧r=s
 | mk o n ks,mk o' n' ks',r,s,ht,hu,hr,hs,h=>by
   simp only [wf,Bool.and_eq_true] at ht hu
   have ho:=okN_op ht.1
   have ho':=okN_op hu.1
   simp only [text] at h
   by_cases h1:o=1
   ·subst h1
    obtain ⟨a1,a2,a3⟩:=okN_name ht.1
    by_cases h2:o'=1
    ·subst h2
     obtain ⟨b1,b2,b3⟩:=okN_name hu.1
     simp only [if_true,List.cons_append,List.cons.injEq,true_and] at h
     obtain ⟨e1,e2⟩:=dec_inj (by omega) (by omega) hr hs h
     have e3:n=n':=by omega
     rw [List.length_eq_zero_iff.1 a1,List.length_eq_zero_iff.1 b1,e3]
     exact ⟨rfl,e2⟩
    ·rw [if_pos rfl,if_neg h2] at h
     simp only [List.append_assoc,List.cons_append] at h
     exact absurd h.symm (op_not_name (by omega))
   ·by_cases h2:o'=1
    ·subst h2
     rw [if_neg h1,if_pos rfl] at h
     simp only [List.append_assoc,List.cons_append] at h
     exact absurd h (op_not_name (by omega))
    ·rw [if_neg h1,if_neg h2] at h
     simp only [List.append_assoc,List.cons_append] at h
     obtain ⟨rfl,h⟩:=op_inj (by omega) (by omega) h
     have hl:ks.length=ks'.length:=by have:=okN_len ht.1;have:=okN_len hu.1;omega
     have hn:n=n':=(okN_num ht.1 h1).trans (okN_num hu.1 h1).symm
     have:=joined_inj ks ks' r s hl ht.2 hu.2 (by simpa using h)
     rw [hn,this.1]
     exact ⟨rfl,this.2⟩
theorem joined_inj:∀ (l m:List Tm) (r s:List UInt8),l.length=m.length→wfs l=true→wfs m=true→joined l ++ 41 :: r=joined m ++ 41 :: s→l=m∧r=s
 | [],[],r,s,_,_,_,h=>by simp [joined] at h;exact ⟨rfl,h⟩
 | [],_ :: _,_,_,hl,_,_,_=>by simp at hl
 | _ :: _,[],_,_,hl,_,_,_=>by simp at hl
 | k :: ks,k' :: ks',r,s,hl,h1,h2,h=>by
   simp only [wfs,Bool.and_eq_true] at h1 h2
   simp only [joined,List.append_assoc] at h
   obtain ⟨e1,e2⟩:=text_inj k k' _ _ h1.1 h2.1 (nd_trail _ _) (nd_trail _ _) h
   obtain ⟨e3,e4⟩:=trail_inj ks ks' r s (by simpa using hl) h1.2 h2.2 e2
   exact ⟨by rw [e1,e3],e4⟩
theorem trail_inj:∀ (l m:List Tm) (r s:List UInt8),l.length=m.length→wfs l=true→wfs m=true→trail l ++ 41 :: r=trail m ++ 41 :: s→l=m∧r=s
 | [],[],r,s,_,_,_,h=>by simp [trail] at h;exact ⟨rfl,h⟩
 | [],_ :: _,_,_,hl,_,_,_=>by simp at hl
 | _ :: _,[],_,_,hl,_,_,_=>by simp at hl
 | k :: ks,k' :: ks',r,s,hl,h1,h2,h=>by
   simp only [wfs,Bool.and_eq_true] at h1 h2
   simp only [trail,List.append_assoc,List.cons_append,List.cons.injEq,true_and] at h
   obtain ⟨e1,e2⟩:=text_inj k k' _ _ h1.1 h2.1 (nd_trail _ _) (nd_trail _ _) h
   obtain ⟨e3,e4⟩:=trail_inj ks ks' r s (by simpa using hl) h1.2 h2.2 e2
   exact ⟨by rw [e1,e3],e4⟩
end
theorem text_eq {t u:Tm} (ht:wf t=true) (hu:wf u=true) (h:text t=text u):t=u:=
 (text_inj t u [] [] ht hu nd_nil nd_nil (by rw [h])).1
theorem joined_snoc (l:List Tm) (k:Tm):joined (l ++ [k])=joined l ++ ((if l=[] then [] else [44,32]) ++ text k):=by
 cases l with
 | nil=>simp [joined,trail]
 | cons a l=>
   have:∀ m:List Tm,trail (m ++ [k])=trail m ++ (44 :: 32 :: text k):=fun m=>by
    induction m with
    | nil=>simp [trail]
    | cons b m ih=>simp [trail,ih]
   simp [joined,this]
mutual
theorem text_len:∀ t:Tm,wf t=true→(text t).length + 2≤12 * t.size
 | mk o n ks,h=>by
   simp only [wf,Bool.and_eq_true] at h
   simp only [text,size]
   by_cases h1:o=1
   ·subst h1
    obtain ⟨a1,a2,a3⟩:=okN_name h.1
    have:=(dec_facts n.toNat (by omega)).2.2
    simp;omega
   ·rw [if_neg h1]
    have hj:=joined_len ks h.2
    have ho:(opName o).length≤5:=by
     rcases okN_op h.1 with rfl | rfl | rfl | rfl | rfl | rfl | rfl | rfl <;> simp [opName]
    simp;omega
theorem joined_len:∀ l:List Tm,wfs l=true→(joined l).length≤12 * sizes l
 | [],_=>by simp [joined,sizes]
 | k :: ks,h=>by
   simp only [wfs,Bool.and_eq_true] at h
   have h1:=text_len k h.1
   have h2:=trail_len ks h.2
   simp [joined,sizes];omega
theorem trail_len:∀ l:List Tm,wfs l=true→(trail l).length≤12 * sizes l
 | [],_=>by simp [trail,sizes]
 | k :: ks,h=>by
   simp only [wfs,Bool.and_eq_true] at h
   have h1:=text_len k h.1
   have h2:=trail_len ks h.2
   have h3:=size_pos k
   simp [trail,sizes];omega
end
end Tm
end Go.Proofs.YtkgbjoepjcenlaaDoor
namespace Go.Proofs.YtkgbjoepjcenlaaDoor
namespace Tm
def pub (t:Tm):Tm:=mk 6 0 [t]
def shareB (C:List Tm) (bs:List Bool) (ks:List Tm):Bool:=match bs,ks with
 | [a,b],[x,y]=>(a && (b || decide (pub y ∈ C))) || (b && decide (pub x ∈ C))
 | _,_=>false
mutual
def builds (C:List Tm):Tm→Bool
 | mk o n ks=>decide (mk o n ks ∈ C) || (if o=1 then decide (n < 100) else if o=7 then shareB C (buildsL C ks) ks else (buildsL C ks).all id)
def buildsL (C:List Tm):List Tm→List Bool
 | []=>[]
 | k :: ks=>builds C k :: buildsL C ks
end
theorem buildsL_map (C:List Tm):∀ l:List Tm,buildsL C l=l.map (builds C)
 | []=>by simp [buildsL]
 | k :: ks=>by simp [buildsL,buildsL_map C ks]
def parts (C:List Tm):Tm→List Tm
 | mk o _ ks=>if o=2 then ks else if o=5 then ks.drop 1 else if o=4 then (if ((ks.head?).map (builds C)).getD false then ks.drop 3 else []) else []
theorem builds_mem {C:List Tm} {t:Tm} (h:t ∈ C):builds C t=true:=by
 cases t;simp [builds,h]
theorem builds_cut {C D:List Tm} (h:∀ x ∈ D,builds C x=true):∀ t:Tm,builds D t=true→builds C t=true:=by
 have pubs:∀ y:Tm,pub y ∈ D→builds C y=true∨pub y ∈ C:=fun y hy=>by
  have:=h _ hy
  simp only [pub,builds,Bool.or_eq_true,decide_eq_true_eq] at this
  rcases this with h1 | h1
  ·exact .inr h1
  ·left
   simp [buildsL] at h1;exact h1
 intro t
 refine Tm.rec (motive_1:=fun t=>builds D t=true→builds C t=true) (motive_2:=fun l=>∀ t ∈ l,builds D t=true→builds C t=true) ?_ ?_ ?_ t
 ·intro o n ks ih hb
  by_cases hm:mk o n ks ∈ D
  ·exact h _ hm
  ·simp only [builds,hm,decide_false,Bool.false_or] at hb
   simp only [builds,Bool.or_eq_true]
   right
   by_cases h1:o=1
   ·rw [if_pos h1] at hb ⊢;exact hb
   ·rw [if_neg h1] at hb ⊢
    by_cases h7:o=7
    ·rw [if_pos h7] at hb ⊢
     rw [buildsL_map] at hb ⊢
     match ks,ih,hb with
     | [x,y],ih,hb=>
       have ix:=ih x (by simp)
       have iy:=ih y (by simp)
       simp only [List.map_cons,List.map_nil,shareB,Bool.or_eq_true,Bool.and_eq_true,decide_eq_true_eq] at hb ⊢
       rcases hb with ⟨ha,hb | hb⟩ | ⟨hb,ha⟩
       ·exact .inl ⟨ix ha,.inl (iy hb)⟩
       ·rcases pubs y hb with h2 | h2
        ·exact .inl ⟨ix ha,.inl h2⟩
        ·exact .inl ⟨ix ha,.inr h2⟩
       ·rcases pubs x ha with h2 | h2
        ·exact .inl ⟨h2,.inl (iy hb)⟩
        ·exact .inr ⟨iy hb,h2⟩
     | [],_,hb=>simp [shareB] at hb
     | [_],_,hb=>simp [shareB] at hb
     | _ :: _ :: _ :: _,_,hb=>simp [shareB] at hb
    ·rw [if_neg h7] at hb ⊢
     rw [buildsL_map] at hb ⊢
     simp only [List.all_eq_true,List.mem_map,forall_exists_index,and_imp,forall_apply_eq_imp_iff₂,id] at hb ⊢
     exact fun k hk=>ih k hk (hb k hk)
 ·intro t ht;simp at ht
 ·intro k ks h1 h2 t ht
  rcases List.mem_cons.1 ht with rfl | ht
  ·exact h1
  ·exact h2 t ht
theorem builds_mono {C D:List Tm} (h:∀ x ∈ D,x ∈ C) {t:Tm}:builds D t=true→builds C t=true:=builds_cut (fun x hx=>builds_mem (h x hx)) t
theorem parts_cut {C D:List Tm} (h:∀ x ∈ D,builds C x=true) {t p:Tm} (hp:p ∈ parts D t):p ∈ parts C t:=by
 obtain ⟨o,n,ks⟩:=t
 simp only [parts] at hp ⊢
 by_cases h2:o=2
 ·rw [if_pos h2] at hp ⊢;exact hp
 ·rw [if_neg h2] at hp ⊢
  by_cases h5:o=5
  ·rw [if_pos h5] at hp ⊢;exact hp
  ·rw [if_neg h5] at hp ⊢
   by_cases h4:o=4
   ·rw [if_pos h4] at hp ⊢
    cases ks with
    | nil=>simp at hp
    | cons k ks=>
      have hD:((List.head? (k :: ks)).map (builds D)).getD false=builds D k:=rfl
      have hC:((List.head? (k :: ks)).map (builds C)).getD false=builds C k:=rfl
      by_cases hb:builds D k=true
      ·rw [if_pos (hD.trans hb)] at hp
       rw [if_pos (hC.trans (builds_cut h k hb))]
       exact hp
      ·rw [if_neg (by rw [hD];exact hb)] at hp;simp at hp
   ·rw [if_neg h4] at hp;simp at hp
theorem parts_mono {C D:List Tm} (h:∀ x ∈ D,x ∈ C) {t p:Tm} (hp:p ∈ parts D t):p ∈ parts C t:=parts_cut (fun x hx=>builds_mem (h x hx)) hp
theorem parts_kids {C:List Tm} {t p:Tm} (hp:p ∈ parts C t):p ∈ t.kids:=by
 obtain ⟨o,n,ks⟩:=t
 simp only [parts] at hp
 show p ∈ ks
 split at hp
 ·exact hp
 ·split at hp
  ·exact List.mem_of_mem_drop hp
  ·split at hp
   ·split at hp
    ·exact List.mem_of_mem_drop hp
    ·simp at hp
   ·simp at hp
def Closed (C:List Tm):Prop:=∀ t ∈ C,∀ p ∈ parts C t,p ∈ C
structure IsCl (l C:List Tm):Prop where
 has:∀ t ∈ l,normal t ∈ C
 closed:Closed C
 least:∀ Q:Tm→Prop,(∀ t ∈ l,Q (normal t))→(∀ D:List Tm,(∀ x ∈ D,Q x)→∀ t ∈ D,∀ p ∈ parts D t,Q p)→∀ x ∈ C,Q x
theorem IsCl.sub {l C D:List Tm} (hC:IsCl l C) (hD:IsCl l D):∀ x ∈ C,x ∈ D:=
 hC.least (fun x=>x ∈ D) hD.has fun E hE t ht p hp=>hD.closed t (hE t ht) p (parts_mono hE hp)
theorem IsCl.builds_eq {l C D:List Tm} (hC:IsCl l C) (hD:IsCl l D) (g:Tm):builds C g=builds D g:=by
 rw [Bool.eq_iff_iff]
 exact ⟨builds_mono (hC.sub hD),builds_mono (hD.sub hC)⟩
theorem IsCl.of_mem {l m C:List Tm} (h:IsCl l C) (e:∀ t,t ∈ l↔t ∈ m):IsCl m C:=
 ⟨fun t ht=>h.has t ((e t).2 ht),h.closed,fun Q h1 h2=>h.least Q (fun t ht=>h1 t ((e t).1 ht)) h2⟩
mutual
def acc:Tm→List Tm | mk o n ks=>mk o n ks :: (if o=2 then accF 0 ks else if o=5 then accF 1 ks else if o=4 then accF 3 ks else [])
def accF:Nat→List Tm→List Tm
 | _,[]=>[]
 | 0,k :: ks=>acc k ++ accF 0 ks
 | n + 1,_ :: ks=>accF n ks
end
theorem acc_self (t:Tm):t ∈ acc t:=by cases t;simp [acc]
theorem accF_mem:∀ (n:Nat) (l:List Tm) (x:Tm),x ∈ accF n l↔∃ k ∈ l.drop n,x ∈ acc k
 | n,[],x=>by cases n <;> simp [accF]
 | 0,k :: ks,x=>by
   have ih:=accF_mem 0 ks x
   simp only [List.drop_zero] at ih
   simp [accF,ih]
 | n + 1,k :: ks,x=>by
   have ih:=accF_mem n ks x
   simp [accF,ih]
theorem acc_parts (C:List Tm) {t p:Tm} (hp:p ∈ parts C t):∀ x ∈ acc p,x ∈ acc t:=by
 obtain ⟨o,n,ks⟩:=t
 intro x hx
 simp only [parts] at hp
 unfold acc
 refine List.mem_cons_of_mem _ ?_
 by_cases h2:o=2
 ·rw [if_pos h2] at hp ⊢;exact (accF_mem 0 ks x).2 ⟨p,by simpa using hp,hx⟩
 ·rw [if_neg h2] at hp ⊢
  by_cases h5:o=5
  ·rw [if_pos h5] at hp ⊢;exact (accF_mem 1 ks x).2 ⟨p,hp,hx⟩
  ·rw [if_neg h5] at hp ⊢
   by_cases h4:o=4
   ·rw [if_pos h4] at hp ⊢
    split at hp
    ·exact (accF_mem 3 ks x).2 ⟨p,hp,hx⟩
    ·simp at hp
   ·rw [if_neg h4] at hp;simp at hp
theorem acc_trans:∀ t:Tm,∀ x ∈ acc t,∀ y ∈ acc x,y ∈ acc t:=by
 intro t
 refine Tm.rec (motive_1:=fun t=>∀ x ∈ acc t,∀ y ∈ acc x,y ∈ acc t) (motive_2:=fun l=>∀ t ∈ l,∀ x ∈ acc t,∀ y ∈ acc x,y ∈ acc t) ?_ ?_ ?_ t
 ·intro o n ks ih x hx y hy
  unfold acc at hx
  rcases List.mem_cons.1 hx with rfl | hx
  ·exact hy
  ·unfold acc
   refine List.mem_cons_of_mem _ ?_
   have go:∀ m,x ∈ accF m ks→y ∈ accF m ks:=fun m h=>by
    obtain ⟨k,hk,hxk⟩:=(accF_mem m ks x).1 h
    exact (accF_mem m ks y).2 ⟨k,hk,ih k (List.mem_of_mem_drop hk) x hxk y hy⟩
   split at hx
   ·rename_i h;rw [if_pos h];exact go _ hx
   ·rename_i h;rw [if_neg h]
    split at hx
    ·rename_i h;rw [if_pos h];exact go _ hx
    ·rename_i h;rw [if_neg h]
     split at hx
     ·rename_i h;rw [if_pos h];exact go _ hx
     ·simp at hx
 ·intro t ht;simp at ht
 ·intro k ks h1 h2 t ht
  rcases List.mem_cons.1 ht with rfl | ht
  ·exact h1
  ·exact h2 t ht
def accN (l:List Tm):List Tm:=accF 0 (l.map normal)
theorem accN_self {l:List Tm} {t:Tm} (h:t ∈ l):normal t ∈ accN l:=(accF_mem 0 _ _).2 ⟨normal t,by simpa using ⟨t,h,rfl⟩,acc_self _⟩
theorem accN_parts {l D:List Tm} (hD:∀ x ∈ D,x ∈ accN l) {t:Tm} (ht:t ∈ D) {C:List Tm} {p:Tm} (hp:p ∈ parts C t):p ∈ accN l:=by
 obtain ⟨k,hk,hx⟩:=(accF_mem 0 _ _).1 (hD t ht)
 exact (accF_mem 0 _ _).2 ⟨k,hk,acc_trans k t hx p (acc_parts C hp p (acc_self p))⟩
theorem nodup_le {l D:List Tm} (hn:D.Nodup) (h:∀ x ∈ D,x ∈ l):D.length≤l.length:=by
 induction D generalizing l with
 | nil=>simp
 | cons x D ih=>
   have hx:=h x (by simp)
   simp only [List.nodup_cons] at hn
   have:=ih (l:=l.erase x) hn.2 fun y hy=>(List.mem_erase_of_ne (fun (e:y=x)=>hn.1 (e ▸ hy))).2 (h y (by simp [hy]))
   rw [List.length_erase_of_mem hx] at this
   have:=List.length_pos_of_mem hx
   simp;omega
theorem accF_append (l m:List Tm):accF 0 (l ++ m)=accF 0 l ++ accF 0 m:=by
 induction l with
 | nil=>simp [accF]
 | cons k l ih=>simp [accF,ih]
end Tm
end Go.Proofs.YtkgbjoepjcenlaaDoor
namespace Go.Proofs.YtkgbjoepjcenlaaDoor
namespace Tm
def put (C:List Tm) (t:Tm):List Tm:=if t ∈ C then C else C ++ [t]
theorem put_mem {C:List Tm} {t x:Tm}:x ∈ put C t↔x ∈ C∨x=t:=by
 unfold put;split
 ·rename_i h;constructor
  ·exact .inl
  ·rintro (h1 | rfl)
   ·exact h1
   ·exact h
 ·simp
structure Inv (l C:List Tm):Prop where
 nodup:C.Nodup
 least:∀ Q:Tm→Prop,(∀ t ∈ l,Q (normal t))→(∀ D:List Tm,(∀ x ∈ D,Q x)→∀ t ∈ D,∀ p ∈ parts D t,Q p)→∀ x ∈ C,Q x
theorem put_nodup {C:List Tm} {t:Tm} (h:C.Nodup):(put C t).Nodup:=by
 unfold put;split
 ·exact h
 ·rename_i hn
  rw [List.nodup_append]
  refine ⟨h,by simp,fun a ha b hb=>?_⟩
  simp at hb
  rintro rfl
  exact hn (hb ▸ ha)
theorem Inv.nil (l:List Tm):Inv l []:=⟨by simp,fun Q _ _ x hx=>by simp at hx⟩
theorem Inv.addN {l C:List Tm} (h:Inv l C) {t:Tm} (ht:t ∈ l):Inv l (put C (normal t)):=
 ⟨put_nodup h.nodup,fun Q h1 h2 x hx=>by
  rcases put_mem.1 hx with hx | rfl
  ·exact h.least Q h1 h2 x hx
  ·exact h1 t ht⟩
theorem Inv.addP {l C D:List Tm} (h:Inv l C) (hD:∀ x ∈ D,x ∈ C) {t p:Tm} (ht:t ∈ D) (hp:p ∈ parts D t):Inv l (put C p):=
 ⟨put_nodup h.nodup,fun Q h1 h2 x hx=>by
  rcases put_mem.1 hx with hx | rfl
  ·exact h.least Q h1 h2 x hx
  ·exact h2 D (fun y hy=>h.least Q h1 h2 y (hD y hy)) t ht x hp⟩
theorem Inv.acc {l C:List Tm} (h:Inv l C):∀ x ∈ C,x ∈ accN l:=h.least (fun x=>x ∈ accN l) (fun t ht=>accN_self ht) fun D hD t ht p hp=>accN_parts hD ht hp
theorem Inv.len {l C:List Tm} (h:Inv l C):C.length≤(accN l).length:=nodup_le h.nodup h.acc
theorem kid_size {t p:Tm} (h:p ∈ t.kids):p.size≤t.size:=by
 obtain ⟨o,n,ks⟩:=t
 have:∀ l:List Tm,p ∈ l→p.size≤sizes l:=by
  intro l
  induction l with
  | nil=>intro h;simp at h
  | cons k l ih=>
    intro h
    rcases List.mem_cons.1 h with rfl | h
    ·simp [sizes]
    ·have:=ih h;simp [sizes];omega
 have h1:=this ks h
 simp [size];omega
theorem Inv.ok {l C:List Tm} (h:Inv l C) (hl:∀ t ∈ l,valid t=true):∀ x ∈ C,wf x=true∧x.size≤2000:=
 h.least (fun x=>wf x=true∧x.size≤2000) (fun t ht=>by
  have hv:=valid_normal (hl t ht)
  exact ⟨valid_wf hv,by simp [valid] at hv;exact hv.1⟩) fun D hD t ht p hp=>by
  have h1:=hD t ht
  have hk:=parts_kids hp
  have hw:wf p=true:=by
   obtain ⟨o,n,ks⟩:=t
   have:=h1.1
   simp only [wf,Bool.and_eq_true] at this
   exact (wfs_iff ks).1 this.2 p hk
  exact ⟨hw,by have:=kid_size hk;omega⟩
def rem (A C:List Tm):Nat:=(A.filter (fun x=>decide (x ∉ C))).length
theorem rem_le (A C:List Tm):rem A C≤A.length:=List.length_filter_le _ _
theorem rem_mono (A:List Tm) {C D:List Tm} (h:∀ x ∈ C,x ∈ D):rem A D≤rem A C:=by
 unfold rem
 induction A with
 | nil=>simp
 | cons a A ih=>
   simp only [List.filter_cons]
   by_cases h1:a ∈ D
   ·by_cases h2:a ∈ C
    ·simpa [h1,h2] using ih
    ·simp [h1,h2] at ih ⊢;omega
   ·have h2:a ∉ C:=fun h2=>h1 (h a h2)
    simpa [h1,h2] using ih
theorem rem_lt {A C D:List Tm} (h:∀ x ∈ C,x ∈ D) {y:Tm} (hy:y ∈ A) (h1:y ∉ C) (h2:y ∈ D):rem A D < rem A C:=by
 induction A with
 | nil=>simp at hy
 | cons a A ih=>
   have hm:=rem_mono A h
   by_cases e:y=a
   ·subst e
    unfold rem at hm ⊢
    simp only [List.filter_cons]
    simp [h1,h2] at hm ⊢;omega
   ·have hy':y ∈ A:=by
     rcases List.mem_cons.1 hy with rfl | hy
     ·exact absurd rfl e
     ·exact hy
    have:=ih hy'
    unfold rem at this ⊢
    simp only [List.filter_cons]
    by_cases g1:a ∈ D
    ·by_cases g2:a ∈ C
     ·simpa [g1,g2] using this
     ·simp [g1,g2] at this ⊢;omega
    ·have g2:a ∉ C:=fun g2=>g1 (h a g2)
     simpa [g1,g2] using this
theorem put_take {C:List Tm} {t:Tm} {i:Nat} (h:i < C.length):∃ h':i < (put C t).length,(put C t)[i]=C[i]:=by
 unfold put
 split
 ·exact ⟨h,rfl⟩
 ·exact ⟨by simp;omega,List.getElem_append_left h⟩
end Tm
end Go.Proofs.YtkgbjoepjcenlaaDoor
namespace Go.Proofs.YtkgbjoepjcenlaaDoor
open Go.RowKit
theorem ret_int {k:IntKind} {a b:Int} (h:a=b):Ending.returned (.int k a)=.returned (.int k b):=by rw [h]
theorem below_drewN {B:Nat} {a w:World} (h:Below B a w) (n:Nat):Below B a (w.drewN n):=⟨h.os,h.tape,h.output,h.size,h.block⟩
theorem lt_of_block {w:World} {b:Nat} {o:Obj} (h:w.heap[b]?=some o):b < w.heap.size:=by
 rcases Nat.lt_or_ge b w.heap.size with h1 | h1
 ·exact h1
 ·simp [Array.getElem?_eq_none h1] at h
theorem lt_of_cell {w:World} {b o:Nat} {v:Value} (h:w.cell? ⟨b,o,none⟩=some v):b < w.heap.size:=by
 unfold World.cell? at h
 split at h
 ·rename_i hb;exact lt_of_block hb
 ·cases h
theorem Below.keep {B k:Nat} {w w':World} {o:Obj} (h:Below B w w') (hk:w.heap[k]?=some o) (hb:k < B):w'.heap[k]?=some o:=(h.block k hb).trans hk
theorem alloc_new (w:World) (o:Obj):(w.alloc o).heap[w.heap.size]?=some o:=by
 show (w.heap.push o)[w.heap.size]?=_
 simp
theorem alloc_new' (w:World) (o:Obj) (b:Nat) (h:b=w.heap.size):(w.alloc o).heap[b]?=some o:=by subst h;exact alloc_new w o
theorem alloc_keep {w:World} {k:Nat} {o o':Obj} (h:w.heap[k]?=some o):(w.alloc o').heap[k]?=some o:=(Below.heap_alloc _ _ _ (lt_of_block h)).trans h
theorem pure_trans {a b c:World} (h:Below a.heap.size a b) (k:Below b.heap.size b c):Below a.heap.size a c:=h.trans (k.mono h.size)
theorem pure_alloc (w:World) (o:Obj):Below w.heap.size w (w.alloc o):=(Below.refl _ _).alloc (Nat.le_refl _) o
theorem quiet_at {P:Program} {f:FuncId} {args:Array Value} {W:World} {v:Value} {C:World→Prop}
 (h:Calls P f args W fun e w'=>e=.returned v∧W=w') (hC:C W):Calls P f args W fun e w''=>e=.returned v∧C w'':=
 h.mono fun _ _ ⟨he,hm⟩=>⟨he,hm ▸ hC⟩
theorem cell_of_arr {w:World} {g:Nat} {A:Array Value} {e:TypeId} {f:Nat × Nat} (h:w.heap[g]?=some (.cells A e f)) (k:Nat):w.cell? ⟨g,k,none⟩=A[k]?:=by
 simp [World.cell?,h]
theorem frozen_of_arr {w:World} {g:Nat} {A:Array Value} {e:TypeId} (h:w.heap[g]?=some (.cells A e (0,0))) (k:Nat):w.frozen? ⟨g,k,none⟩=false:=by
 simp [World.frozen?,h]
theorem set_arr {w:World} {g:Nat} {A:Array Value} {e:TypeId} {f:Nat × Nat} (h:w.heap[g]?=some (.cells A e f)) (k:Nat) (v:Value):(w.setCell ⟨g,k,none⟩ v).heap[g]?=some (.cells (A.setIfInBounds k v) e f):=by
 simp [World.setCell,Array.getElem?_modify,h]
theorem cell_block {w w':World} {b o:Nat} (h:w'.heap[b]?=w.heap[b]?):w'.cell? ⟨b,o,none⟩=w.cell? ⟨b,o,none⟩:=by unfold World.cell?;rw [h]
theorem own_lt {w:World} {base e size:Nat} {v:Value} {n:Nat} {xs:List Value} (h:w.ownsRow base e size v n xs) {g:Nat} (hg:v.ownBlock=some g):g < w.heap.size∧base≤g∧∃ cur,w.heap[g]?=some (.cells cur e (0,0)):=by
 rcases h.2 with ⟨rfl,_⟩ | ⟨g',cap,cur,rfl,hb,hh,_⟩
 ·cases hg
 ·simp only [Value.ownBlock,Option.some.injEq] at hg
  subst hg
  exact ⟨lt_of_block hh,hb,cur,hh⟩
theorem own_keep {w w':World} {base e size:Nat} {v:Value} {n:Nat} {xs:List Value} (h:w.ownsRow base e size v n xs) (k:∀ g,v.ownBlock=some g→w'.heap[g]?=w.heap[g]?):w'.ownsRow base e size v n xs:=by
 obtain ⟨h1,h2⟩:=h
 refine ⟨h1,?_⟩
 rcases h2 with h2 | ⟨g,cap,cur,rfl,hb,hh,r⟩
 ·exact .inl h2
 ·exact .inr ⟨g,cap,cur,rfl,hb,(k g rfl).trans hh,r⟩
theorem own_pure {w w':World} {base e size:Nat} {v:Value} {n:Nat} {xs:List Value} (h:w.ownsRow base e size v n xs) (k:Below w.heap.size w w'):w'.ownsRow base e size v n xs:=
 own_keep h fun g hg=>k.block g (own_lt h hg).1
theorem wp_app {P:Program} {w w':World} {o:Oper} {a:Act} {K:Act→World→Prop} {Q:Exit→Act→World→Prop} (s x:Operand) (t:TypeId) (ho:o.op=.call { callee:=.builtin .append,args:=#[s,x],argTypes:=#[t,t] })
 {vs vx v':Value} (hs:a.eval s=vs) (hx:a.eval x=vx) (hrun:(Builtin.append_ #[t,t] o.type #[vs,vx]).run P w=.ok v' w') (h:K (a.put o.dst v') w'):o.wp P a w K Q:=by
 unfold Oper.wp execOp
 simp only [ho,resolve,invoke,builtin,Sem.run_bind,Sem.run_pure,Result.andThen_ok,List.map_toArray,List.map_cons,List.map_nil,hs,hx,hrun]
 exact h
theorem wpList_app {P:Program} {w w':World} {ops:Array Oper} {rest:List Oper} {o:Oper} {a:Act} {Q:Exit→Act→World→Prop} (hgd:o.guard=none) (s x:Operand) (t:TypeId) (ho:o.op=.call { callee:=.builtin .append,args:=#[s,x],argTypes:=#[t,t] })
 {vs vx v':Value} (hs:a.eval s=vs) (hx:a.eval x=vx) (hrun:(Builtin.append_ #[t,t] o.type #[vs,vx]).run P w=.ok v' w') (h:wpList P ops Q rest (a.put o.dst v') w'):wpList P ops Q (o :: rest) a w:=
 wpList_plain hgd fun _ hK=>wp_app s x t ho hs hx hrun (hK _ _ h)
theorem own_form {w:World} {base e size:Nat} {v:Value} {n:Nat} {xs:List Value} (h:w.ownsRow base e size v n xs):∃ a c,v=.slice a n c:=by
 rcases h.2 with ⟨rfl,rfl⟩ | ⟨g,cap,cur,rfl,_⟩
 ·exact ⟨none,0,rfl⟩
 ·exact ⟨_,cap,rfl⟩
mutual
def TR (ok:Nat→Prop) (w:World):Tm→Option Addr→Nat→Prop
 | .mk _ _ ks,a,n=>n=ks.length∧n≤9223372036854775807∧KR ok w ks a 0
def KR (ok:Nat→Prop) (w:World):List Tm→Option Addr→Nat→Prop
 | [],_,_=>True
 | k :: ks,a,i=>(∃ b o an nn cc,a=some ⟨b,o,none⟩∧(ok b∧nn≤cc)∧w.cell? ⟨b,o + i * 3,none⟩=some (.int .i64 k.op)∧w.cell? ⟨b,o + i * 3 + 1,none⟩=some (.int .i64 k.num)∧w.cell? ⟨b,o + i * 3 + 2,none⟩=some (.slice an nn cc)∧TR ok w k an nn)∧KR ok w ks a (i + 1)
end
def EL (ok:Nat→Prop) (w:World) (k:Tm) (a:Option Addr) (i:Nat):Prop:=∃ b o an nn cc,a=some ⟨b,o,none⟩∧(ok b∧nn≤cc)∧w.cell? ⟨b,o + i * 3,none⟩=some (.int .i64 k.op)∧w.cell? ⟨b,o + i * 3 + 1,none⟩=some (.int .i64 k.num)∧w.cell? ⟨b,o + i * 3 + 2,none⟩=some (.slice an nn cc)∧TR ok w k an nn
theorem KR_iff {ok:Nat→Prop} {w:World} {a:Option Addr}:∀ (l:List Tm) (i:Nat),KR ok w l a i↔∀ j (h:j < l.length),EL ok w l[j] a (i + j)
 | [],i=>by simp [KR]
 | k :: ks,i=>by
   have ih:=KR_iff (ok:=ok) (w:=w) (a:=a) ks (i + 1)
   constructor
   ·intro h j hj
    unfold KR at h
    cases j with
    | zero=>exact h.1
    | succ j=>
      have:=ih.1 h.2 j (by simpa using hj)
      have e:i + 1 + j=i + (j + 1):=by omega
      rw [e] at this
      exact this
   ·intro h
    unfold KR
    refine ⟨h 0 (by simp),ih.2 fun j hj=>?_⟩
    have:=h (j + 1) (by simpa using hj)
    have e:i + 1 + j=i + (j + 1):=by omega
    rw [e];exact this
def TL (ok:Nat→Prop) (w:World) (l:List Tm) (a:Option Addr) (n:Nat):Prop:=n=l.length∧n≤9223372036854775807∧∀ j (h:j < l.length),EL ok w l[j] a j
theorem TR_iff {ok:Nat→Prop} {w:World} {t:Tm} {a:Option Addr} {n:Nat}:TR ok w t a n↔TL ok w t.kids a n:=by
 cases t with
 | mk o m ks=>
   unfold TR TL
   rw [KR_iff]
   simp only [Tm.kids,Nat.zero_add]
theorem TL.nil (ok:Nat→Prop) (w:World) (a:Option Addr):TL ok w [] a 0:=⟨rfl,by omega,fun j h=>by simp at h⟩
theorem TR.keep {ok ok':Nat→Prop} {w w':World} (hk:∀ b,ok b→b < w.heap.size→w'.heap[b]?=w.heap[b]?∧ok' b) {t:Tm}:∀ {a:Option Addr} {n:Nat},TR ok w t a n→TR ok' w' t a n:=by
 refine Tm.rec (motive_1:=fun t=>∀ {a:Option Addr} {n:Nat},TR ok w t a n→TR ok' w' t a n) (motive_2:=fun l=>∀ t ∈ l,∀ {a:Option Addr} {n:Nat},TR ok w t a n→TR ok' w' t a n) ?_ ?_ ?_ t
 ·intro o m ks ih a n h
  rw [TR_iff] at h ⊢
  refine ⟨h.1,h.2.1,fun j hj=>?_⟩
  obtain ⟨b,o,an,nn,cc,e,hb,c0,c1,c2,ht⟩:=h.2.2 j hj
  obtain ⟨hw,hb'⟩:=hk b hb.1 (lt_of_cell c0)
  refine ⟨b,o,an,nn,cc,e,⟨hb',hb.2⟩,?_,?_,?_,ih _ (List.getElem_mem hj) ht⟩
  ·rw [cell_block hw];exact c0
  ·rw [cell_block hw];exact c1
  ·rw [cell_block hw];exact c2
 ·intro t ht;simp at ht
 ·intro k ks h1 h2 t ht
  rcases List.mem_cons.1 ht with rfl | ht
  ·exact h1
  ·exact h2 t ht
theorem TR.below {ok:Nat→Prop} {w w':World} {t:Tm} {a:Option Addr} {n:Nat} (h:TR ok w t a n) (k:Below w.heap.size w w'):TR ok w' t a n:=h.keep fun b hb hl=>⟨k.block b hl,hb⟩
theorem TR.imp {ok ok':Nat→Prop} {w:World} {t:Tm} {a:Option Addr} {n:Nat} (h:TR ok w t a n) (k:∀ b,ok b→b < w.heap.size→ok' b):TR ok' w t a n:=h.keep fun b hb hl=>⟨rfl,k b hb hl⟩
theorem EL.keep {ok ok':Nat→Prop} {w w':World} (hk:∀ b,ok b→b < w.heap.size→w'.heap[b]?=w.heap[b]?∧ok' b) {k:Tm} {a:Option Addr} {i:Nat} (h:EL ok w k a i):EL ok' w' k a i:=by
 obtain ⟨b,o,an,nn,cc,e,hb,c0,c1,c2,ht⟩:=h
 obtain ⟨hw,hb'⟩:=hk b hb.1 (lt_of_cell c0)
 exact ⟨b,o,an,nn,cc,e,⟨hb',hb.2⟩,(cell_block hw).trans c0,(cell_block hw).trans c1,(cell_block hw).trans c2,ht.keep hk⟩
theorem TL.keep {ok ok':Nat→Prop} {w w':World} {l:List Tm} {a:Option Addr} {n:Nat} (h:TL ok w l a n) (hk:∀ b,ok b→b < w.heap.size→w'.heap[b]?=w.heap[b]?∧ok' b):TL ok' w' l a n:=⟨h.1,h.2.1,fun j hj=>(h.2.2 j hj).keep hk⟩
theorem TL.below {ok:Nat→Prop} {w w':World} {l:List Tm} {a:Option Addr} {n:Nat} (h:TL ok w l a n) (k:Below w.heap.size w w'):TL ok w' l a n:=h.keep fun b hb hl=>⟨k.block b hl,hb⟩
theorem TL.imp {ok ok':Nat→Prop} {w:World} {l:List Tm} {a:Option Addr} {n:Nat} (h:TL ok w l a n) (k:∀ b,ok b→b < w.heap.size→ok' b):TL ok' w l a n:=h.keep fun b hb hl=>⟨rfl,k b hb hl⟩
theorem TL.drop {ok:Nat→Prop} {w:World} {l:List Tm} {b o n:Nat} (h:TL ok w l (some ⟨b,o,none⟩) n) (k:Nat):TL ok w (l.drop k) (some ⟨b,o + k * 3,none⟩) (n - k):=by
 refine ⟨by rw [List.length_drop,h.1],by have:=h.2.1;omega,fun j hj=>?_⟩
 rw [List.length_drop] at hj
 obtain ⟨b',o',an,nn,cc,e,hb,c0,c1,c2,ht⟩:=h.2.2 (k + j) (by omega)
 cases e
 have e1:o + k * 3 + j * 3=o + (k + j) * 3:=by rw [Nat.add_mul];omega
 refine ⟨b,o + k * 3,an,nn,cc,rfl,hb,?_,?_,?_,?_⟩
 ·rw [e1,List.getElem_drop];exact c0
 ·rw [e1,List.getElem_drop];exact c1
 ·rw [e1];exact c2
 ·rw [List.getElem_drop];exact ht
end Go.Proofs.YtkgbjoepjcenlaaDoor
