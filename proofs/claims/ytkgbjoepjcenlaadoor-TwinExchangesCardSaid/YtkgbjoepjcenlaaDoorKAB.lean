/- Joined texts. -/
import Derived.Test.YtkgbjoepjcenlaaDoorKAA
set_option linter.unusedVariables false
set_option linter.unusedSimpArgs false
namespace Go.Proofs.YtkgbjoepjcenlaaDoor
open Go.RowKit
set_option maxHeartbeats 400000 in
theorem kids_any (o:Int) (w:World):Calls Tryd.prog 59 #[.int .i64 o] w fun e w'=>e=.returned (.int .i64 (Tm.arity o))∧w=w':=by
 by_cases h1:o=1;· (subst h1;go_enter Tryd.func59,Tryd.ntmps59;go_wp2;go_ret;exact ⟨rfl,rfl⟩)
 by_cases h3:o=3;· (subst h3;go_enter Tryd.func59,Tryd.ntmps59;go_wp2;go_ret;exact ⟨rfl,rfl⟩)
 by_cases h6:o=6;· (subst h6;go_enter Tryd.func59,Tryd.ntmps59;go_wp2;go_ret;exact ⟨rfl,rfl⟩)
 by_cases h2:o=2;· (subst h2;go_enter Tryd.func59,Tryd.ntmps59;go_wp2;go_ret;exact ⟨rfl,rfl⟩)
 by_cases h5:o=5;· (subst h5;go_enter Tryd.func59,Tryd.ntmps59;go_wp2;go_ret;exact ⟨rfl,rfl⟩)
 by_cases h7:o=7;· (subst h7;go_enter Tryd.func59,Tryd.ntmps59;go_wp2;go_ret;exact ⟨rfl,rfl⟩)
 by_cases h8:o=8;· (subst h8;go_enter Tryd.func59,Tryd.ntmps59;go_wp2;go_ret;exact ⟨rfl,rfl⟩)
 by_cases h4:o=4;· (subst h4;go_enter Tryd.func59,Tryd.ntmps59;go_wp2;go_ret;exact ⟨rfl,rfl⟩)
 have e:Hid (Tm.arity o= -1):=by show _=_;simp [Tm.arity,h1,h3,h6,h2,h5,h7,h8,h4]
 have b1:(o==1)=false:=by simpa using h1
 have b3:(o==3)=false:=by simpa using h3
 have b6:(o==6)=false:=by simpa using h6
 have b2:(o==2)=false:=by simpa using h2
 have b5:(o==5)=false:=by simpa using h5
 have b7:(o==7)=false:=by simpa using h7
 have b8:(o==8)=false:=by simpa using h8
 have b4:(o==4)=false:=by simpa using h4
 clear h1 h2 h3 h4 h5 h6 h7 h8
 go_enter Tryd.func59,Tryd.ntmps59
 go_wp2
 go_ret
 exact ⟨ret_int e.out.symm,rfl⟩
set_option maxHeartbeats 400000 in
theorem arity_any (o:Int) (w:World):Calls Tryd.prog 60 #[.int .i64 o] w fun e w'=>e=.returned (.int .i64 (Tm.arity o))∧w=w':=by
 by_cases h1:o=1;· (subst h1;go_enter Tryd.func60,Tryd.ntmps60;go_wp2;go_ret;exact ⟨rfl,rfl⟩)
 by_cases h3:o=3;· (subst h3;go_enter Tryd.func60,Tryd.ntmps60;go_wp2;go_ret;exact ⟨rfl,rfl⟩)
 by_cases h6:o=6;· (subst h6;go_enter Tryd.func60,Tryd.ntmps60;go_wp2;go_ret;exact ⟨rfl,rfl⟩)
 by_cases h2:o=2;· (subst h2;go_enter Tryd.func60,Tryd.ntmps60;go_wp2;go_ret;exact ⟨rfl,rfl⟩)
 by_cases h5:o=5;· (subst h5;go_enter Tryd.func60,Tryd.ntmps60;go_wp2;go_ret;exact ⟨rfl,rfl⟩)
 by_cases h7:o=7;· (subst h7;go_enter Tryd.func60,Tryd.ntmps60;go_wp2;go_ret;exact ⟨rfl,rfl⟩)
 by_cases h8:o=8;· (subst h8;go_enter Tryd.func60,Tryd.ntmps60;go_wp2;go_ret;exact ⟨rfl,rfl⟩)
 by_cases h4:o=4;· (subst h4;go_enter Tryd.func60,Tryd.ntmps60;go_wp2;go_ret;exact ⟨rfl,rfl⟩)
 have e:Hid (Tm.arity o= -1):=by show _=_;simp [Tm.arity,h1,h3,h6,h2,h5,h7,h8,h4]
 have b1:(o==1)=false:=by simpa using h1
 have b3:(o==3)=false:=by simpa using h3
 have b6:(o==6)=false:=by simpa using h6
 have b2:(o==2)=false:=by simpa using h2
 have b5:(o==5)=false:=by simpa using h5
 have b7:(o==7)=false:=by simpa using h7
 have b8:(o==8)=false:=by simpa using h8
 have b4:(o==4)=false:=by simpa using h4
 clear h1 h2 h3 h4 h5 h6 h7 h8
 go_enter Tryd.func60,Tryd.ntmps60
 go_wp2
 go_ret
 exact ⟨ret_int e.out.symm,rfl⟩
theorem order_any (a b:Int) (w:World):Calls Tryd.prog 44 #[.int .i64 a,.int .i64 b] w fun e w'=>e=.returned (.int .i64 (Tm.cmpI a b))∧w=w':=by
 by_cases h1:a < b
 ·have e:Hid (Tm.cmpI a b= -1):=by show _=_;simp [Tm.cmpI,h1]
  go_enter Tryd.func44,Tryd.ntmps44
  go_wp2
  go_ret
  exact ⟨ret_int e.out.symm,rfl⟩
 ·by_cases h2:b < a
  ·have e:Hid (Tm.cmpI a b=1):=by show _=_;simp [Tm.cmpI,h1,h2]
   go_enter Tryd.func44,Tryd.ntmps44
   go_wp2
   go_ret
   exact ⟨ret_int e.out.symm,rfl⟩
  ·have e:Hid (Tm.cmpI a b=0):=by show _=_;simp [Tm.cmpI,h1,h2]
   go_enter Tryd.func44,Tryd.ntmps44
   go_wp2
   go_ret
   exact ⟨ret_int e.out.symm,rfl⟩
theorem cmp_any (a b:Int) (w:World):Calls Tryd.prog 41 #[.int .i64 a,.int .i64 b] w fun e w'=>e=.returned (.int .i64 (Tm.cmpI a b))∧w=w':=by
 by_cases h1:a < b
 ·have e:Hid (Tm.cmpI a b= -1):=by show _=_;simp [Tm.cmpI,h1]
  go_enter Tryd.func41,Tryd.ntmps41
  go_wp2
  go_ret
  exact ⟨ret_int e.out.symm,rfl⟩
 ·by_cases h2:b < a
  ·have e:Hid (Tm.cmpI a b=1):=by show _=_;simp [Tm.cmpI,h1,h2]
   go_enter Tryd.func41,Tryd.ntmps41
   go_wp2
   go_ret
   exact ⟨ret_int e.out.symm,rfl⟩
  ·have e:Hid (Tm.cmpI a b=0):=by show _=_;simp [Tm.cmpI,h1,h2]
   go_enter Tryd.func41,Tryd.ntmps41
   go_wp2
   go_ret
   exact ⟨ret_int e.out.symm,rfl⟩
theorem tmod_lt (a n:Int) (hn:1≤n) (h:a.tmod n < 0):a.tmod n + n=a % n:=by
 have h0:a < 0:=by
  rcases Int.lt_or_le a 0 with h' | h'
  ·exact h'
  ·have:=Int.tmod_nonneg n h';omega
 have:=Int.tmod_eq_emod (a:=a) (b:=n)
 split at this <;> omega
theorem tmod_ge (a n:Int) (hn:1≤n) (h:0≤a.tmod n):a.tmod n=a % n:=by
 have:=Int.tmod_eq_emod (a:=a) (b:=n)
 have h3:=Int.emod_lt_of_pos a (show 0 < n by omega)
 split at this <;> omega
set_option maxHeartbeats 400000 in
theorem mod_any (a n:Int) (w:World) (hn:1≤n) (hn':n≤9223372036854775807):
 Calls Tryd.prog 28 #[.int .i64 a,.int .i64 n] w fun e w'=>e=.returned (.int .i64 (a % n))∧w=w':=by
 have h3:=Int.emod_lt_of_pos a (show 0 < n by omega)
 have h4:=Int.emod_nonneg a (show n≠0 by omega)
 have h5:=Int.tmod_lt_of_pos a (show 0 < n by omega)
 have h6:=Int.lt_tmod_of_pos a (show 0 < n by omega)
 go_enter Tryd.func28,Tryd.ntmps28
 go_wp2
 ·have h:a.tmod n < 0:=by assumption
  go_ret
  exact ⟨ret_int (tmod_lt a n hn h),rfl⟩
 ·have h:0≤a.tmod n:=by assumption
  go_ret
  exact ⟨ret_int (tmod_ge a n hn h),rfl⟩
def Is (w:World) (a:Option Addr) (n:Nat) (es:List Int):Prop:=
 es.length=n∧n≤9223372036854775807∧∀ i,i < n→∃ b o,a=some ⟨b,o,none⟩∧w.cell? ⟨b,o + i,none⟩=some (.int .i64 (es.getD i 0))∧-9223372036854775808≤es.getD i 0∧es.getD i 0≤9223372036854775807
structure But (b:Nat) (w w':World):Prop where
 os:w'.os=w.os
 tape:w'.tape=w.tape
 output:w'.output=w.output
 size:w.heap.size≤w'.heap.size
 block:∀ k,k < w.heap.size→k≠b→w'.heap[k]?=w.heap[k]?
theorem But.refl (b:Nat) (w:World):But b w w:=⟨rfl,rfl,rfl,Nat.le_refl _,fun _ _ _=>rfl⟩
theorem But.trans {b:Nat} {u v w:World} (h:But b u v) (k:But b v w):But b u w:=
 ⟨k.os.trans h.os,k.tape.trans h.tape,k.output.trans h.output,Nat.le_trans h.size k.size,fun i hi hb=>(k.block i (Nat.lt_of_lt_of_le hi h.size) hb).trans (h.block i hi hb)⟩
theorem But.of_below {b:Nat} {w w':World} (h:Below w.heap.size w w'):But b w w':=⟨h.os,h.tape,h.output,h.size,fun k hk _=>h.block k hk⟩
theorem But.drewN {b:Nat} {u w:World} (h:But b u w) (n:Nat):But b u (w.drewN n):=⟨h.os,h.tape,h.output,h.size,h.block⟩
theorem But.alloc {b:Nat} {u w:World} (h:But b u w) (o:Obj):But b u (w.alloc o):=
 h.trans (But.of_below ((Below.refl _ _).alloc (Nat.le_refl _) o))
theorem But.setCell {b:Nat} {u w:World} (h:But b u w) {p:Addr} (hp:p.block=b) (v:Value):But b u (w.setCell p v):=
 h.trans ⟨rfl,rfl,rfl,by simp [World.setCell],fun k _ hk=>Below.heap_setCell _ _ _ _ (by omega)⟩
theorem But.below {b:Nat} {w w':World} {B:Nat} (h:But b w w') (hB:B≤b) (hs:B≤w.heap.size):Below B w w':=
 ⟨h.os,h.tape,h.output,h.size,fun k hk=>h.block k (by omega) (by omega)⟩
theorem But.cell {b:Nat} {w w':World} (h:But b w w') {p:Addr} (hp:p.block < w.heap.size) (hb:p.block≠b):w'.cell? p=w.cell? p:=World.cell?_of_block (w:=w) (h.block p.block hp hb)
theorem But.frozen {b:Nat} {w w':World} (h:But b w w') {p:Addr} (hp:p.block < w.heap.size) (hb:p.block≠b):w'.frozen? p=w.frozen? p:=World.frozen?_of_block (w:=w) (h.block p.block hp hb)
def Deck (w:World) (b:Nat):Prop:=
 ∃ (la:Option Addr) (len cap i:Nat),w.heap[b]?=some (.cells #[.slice la len cap,.int .i64 i] 57 (0,0))∧i≤len∧len≤9223372036854775807∧
  ∀ j,j < len→∃ bl ol x,la=some ⟨bl,ol,none⟩∧bl < b∧w.cell? ⟨bl,ol + j,none⟩=some (.int .i64 x)
theorem Deck.lt {w:World} {b:Nat} (h:Deck w b):b < w.heap.size:=by
 obtain ⟨_,_,_,_,h,_⟩:=h;exact lt_of_block h
theorem Deck.keep {w w':World} {b:Nat} (h:Deck w b) (k:∀ j,j≤b→w'.heap[j]?=w.heap[j]?):Deck w' b:=by
 obtain ⟨la,len,cap,i,h1,h2,h3,h4⟩:=h
 refine ⟨la,len,cap,i,(k b (Nat.le_refl _)).trans h1,h2,h3,fun j hj=>?_⟩
 obtain ⟨bl,ol,x,e1,e2,e3⟩:=h4 j hj
 exact ⟨bl,ol,x,e1,e2,(World.cell?_of_block (w:=w) (k bl (Nat.le_of_lt e2))).trans e3⟩
theorem Deck.below {w w':World} {b:Nat} (h:Deck w b) (k:Below w.heap.size w w'):Deck w' b:=
 h.keep fun j hj=>k.block j (Nat.lt_of_le_of_lt hj h.lt)
theorem Deck.alloc {w:World} {b:Nat} (h:Deck w b) (o:Obj):Deck (w.alloc o) b:=h.below ((Below.refl _ _).alloc (Nat.le_refl _) o)
theorem Deck.drewN {w:World} {b:Nat} (h:Deck w b) (n:Nat):Deck (w.drewN n) b:=h.keep fun _ _=>rfl
theorem Deck.step {w:World} {b:Nat} {la:Option Addr} {len cap i:Nat} (hd:Deck w b) (h:w.heap[b]?=some (.cells #[.slice la len cap,.int .i64 i] 57 (0,0))) (hi:i < len) {n:Nat}:
 Deck ((w.drewN n).setCell ⟨b,1,none⟩ (.int .i64 ((i:Int) + 1))) b:=by
 obtain ⟨la',len',cap',i',h1,h2,h3,h4⟩:=hd
 have hb:(w.drewN n).heap[b]?=some (.cells #[.slice la len cap,.int .i64 i] 57 (0,0)):=h
 rw [h] at h1
 simp only [Option.some.injEq,Obj.cells.injEq,Array.mk.injEq,List.cons.injEq,Value.slice.injEq,Value.int.injEq,true_and,and_true] at h1
 obtain ⟨⟨rfl,rfl,rfl⟩,_⟩:=h1
 refine ⟨la,len,cap,i + 1,?_,hi,h3,fun j hj=>?_⟩
 ·simp only [World.setCell,Array.getElem?_modify,hb,if_true]
  rfl
 ·obtain ⟨bl,ol,x,e1,e2,e3⟩:=h4 j hj
  exact ⟨bl,ol,x,e1,e2,(World.cell?_of_block (w:=w) (Below.heap_setCell _ _ _ bl (by show bl≠b;omega))).trans e3⟩
end Go.Proofs.YtkgbjoepjcenlaaDoor
namespace Go.Proofs.YtkgbjoepjcenlaaDoor
open Go.RowKit
namespace Tm
theorem sizes_append:∀ l m:List Tm,sizes (l ++ m)=sizes l + sizes m
 | [],m=>by simp [sizes]
 | k :: ks,m=>by simp [sizes,sizes_append ks m];omega
theorem sizes_take_succ {l:List Tm} {j:Nat} (h:j < l.length):sizes (l.take (j + 1))=sizes (l.take j) + size l[j]:=by
 rw [List.take_succ_eq_append_getElem h,sizes_append];simp [sizes]
theorem sizes_take_le (l:List Tm) (j:Nat):sizes (l.take j)≤sizes l:=by
 conv=>rhs;rw [← List.take_append_drop j l,sizes_append]
 omega
theorem size_kids (t:Tm):t.size=1 + sizes t.kids:=by cases t;simp [size,kids]
theorem size_get {l:List Tm} {j:Nat} (h:j < l.length):size l[j]≤sizes l:=by
 have h1:=sizes_take_succ h
 have h2:=sizes_take_le l (j + 1)
 omega
end Tm
set_option maxHeartbeats 800000 in
theorem sizeR_any (m:Nat):∀ (t:Tm) (a:Option Addr) (n c:Nat) (w:World) (ok:Nat→Prop),t.size≤m→TR ok w t a n→t.size≤1000000000→
 Calls Tryd.prog 21 #[.agg #[.int .i64 t.op,.int .i64 t.num,.slice a n c]] w fun e w'=>e=.returned (.int .i64 (t.size:Nat))∧Below w.heap.size w w':=by
 induction m with
 | zero=>intro t a n c w ok h;have:=t.size_pos;omega
 | succ m ih=>
   intro t a n c w ok hm hT hs
   have hsz:=t.size_kids
   generalize t.size=s at *
   generalize t.op=q0 at *
   generalize t.num=q1 at *
   rw [TR_iff] at hT
   generalize t.kids=ks at *
   have P1:=pure_alloc w (.cells #[.int .i64 q0,.int .i64 q1,.slice a n c] 28)
   have N1:=alloc_new w (.cells #[.int .i64 q0,.int .i64 q1,.slice a n c] 28)
   have HT:=Lib.hid (hT.below P1)
   have hn:=hT.2.1
   have HSZ:=Lib.hid hsz
   have HLN:=Lib.hid hT.1
   have HIH:=Lib.hid ih
   clear hT hsz ih
   go_enter Tryd.func21,Tryd.ntmps21
   go_wp2_with fail
   generalize w.alloc (.cells #[.int .i64 q0,.int .i64 q1,.slice a n c] 28)=w1 at *
   have HP1:=Lib.hid P1
   clear P1 N1
   go_loopw [3,9] (fun x i W=>∃ j:Nat,i=.int .i64 j∧j≤n∧x=.int .i64 (1 + (Tm.sizes (ks.take j):Nat))∧Below w1.heap.size w1 W) (fun _ i _=>n - (intOf i).toNat)
   case atStart=>exact ⟨0,rfl,by omega,rfl,Below.refl _ _⟩
   case round=>
    obtain ⟨j,rfl,hj,rfl,hB⟩:=hrel
    by_cases hjn:j < n
    ·have hjl:j < ks.length:=by have:=HLN.out;omega
     obtain ⟨b,o,an,nn,cc,rfl,hb,c0,c1,c2,ht⟩:=(HT.out.below hB).2.2 j hjl
     have PA:=pure_alloc wr (.cells #[.int .i64 ks[j].op,.int .i64 ks[j].num,.slice an nn cc] 28)
     have HTK:=Lib.hid (ht.below PA)
     have HB:=Lib.hid (hB.trans (PA.mono hB.size))
     have h1:=Tm.sizes_take_succ hjl
     have h2:=Tm.sizes_take_le ks (j + 1)
     have h3:=HSZ.out
     have hk1:ks[j].size≤m:=by have:=Tm.size_get hjl;omega
     have hk2:ks[j].size≤1000000000:=by omega
     have h4:Tm.sizes (ks.take j) + ks[j].size≤1000000000:=by omega
     have H1:=Lib.hid h1
     clear h1 h2 h3 hB ht PA
     generalize hkj:ks[j]=k at *
     have hlt:(j:Int) < n:=by omega
     go_wp2_with fail
     refine (HIH.out k an nn cc _ ok hk1 HTK.out hk2).mono ?_
     rintro e w3 ⟨rfl,hw3⟩
     have HB3:=Lib.hid (HB.out.trans (hw3.mono HB.out.size))
     clear hw3 c0 c1 c2
     go_wp2_with fail
     go_roundw
     case rel=>exact ⟨j + 1,by go_num,by omega,by rw [H1.out];go_num,HB3.out⟩
     case measure=>simp [intOf];omega
    ·have hjn':¬ ((j:Int) < n):=by omega
     have HB:=Lib.hid (pure_trans HP1.out hB)
     clear hB
     go_wp2_with fail
     go_ret
     refine ⟨ret_int ?_,HB.out⟩
     have h1:=HSZ.out
     have h2:=HLN.out
     rw [List.take_of_length_le (by omega)]
     omega
end Go.Proofs.YtkgbjoepjcenlaaDoor
namespace Go.Proofs.YtkgbjoepjcenlaaDoor
open Go.RowKit
namespace Tm
def cs (t u:Tm) (k:Nat):Int:=if k=0 then cmpI t.op u.op else if k=1 then cmpI t.num u.num else cmpI t.kids.length u.kids.length
theorem compare_cs (t u:Tm):compare t u=if cs t u 0≠0 then cs t u 0 else if cs t u 1≠0 then cs t u 1 else if cs t u 2≠0 then cs t u 2 else compares t.kids u.kids:=by
 cases t;cases u;simp [compare,cs,op,num,kids]
theorem compare_at {t u:Tm} {k:Nat} (hk:k < 3) (h0:∀ j,j < k→cs t u j=0) (h:cs t u k≠0):compare t u=cs t u k:=by
 rw [compare_cs]
 rcases (show k=0∨k=1∨k=2 by omega) with rfl | rfl | rfl
 ·rw [if_pos h]
 ·rw [if_neg (by simp [h0 0 (by omega)]),if_pos h]
 ·rw [if_neg (by simp [h0 0 (by omega)]),if_neg (by simp [h0 1 (by omega)]),if_pos h]
theorem compare_rest {t u:Tm} (h0:∀ j,j < 3→cs t u j=0):compare t u=compares t.kids u.kids:=by
 rw [compare_cs,if_neg (by simp [h0 0 (by omega)]),if_neg (by simp [h0 1 (by omega)]),if_neg (by simp [h0 2 (by omega)])]
theorem compares_step {l m:List Tm} {j:Nat} (h1:j < l.length) (h2:j < m.length):compares (l.drop j) (m.drop j)=if compare l[j] m[j]≠0 then compare l[j] m[j] else compares (l.drop (j + 1)) (m.drop (j + 1)):=by
 rw [List.drop_eq_getElem_cons h1,List.drop_eq_getElem_cons h2];simp [compares]
theorem compares_end {l m:List Tm} {j:Nat} (h1:l.length≤j):compares (l.drop j) (m.drop j)=0:=by
 rw [List.drop_eq_nil_of_le h1];simp [compares]
end Tm
set_option maxHeartbeats 1600000 in
theorem compare_any (m:Nat):∀ (t u:Tm) (a:Option Addr) (n c:Nat) (a':Option Addr) (n' c':Nat) (w:World) (ok ok':Nat→Prop),t.size≤m→TR ok w t a n→TR ok' w u a' n'→
 Calls Tryd.prog 25 #[.agg #[.int .i64 t.op,.int .i64 t.num,.slice a n c],.agg #[.int .i64 u.op,.int .i64 u.num,.slice a' n' c']] w fun e w'=>e=.returned (.int .i64 (Tm.compare t u))∧Below w.heap.size w w':=by
 induction m with
 | zero=>intro t u a n c a' n' c' w ok ok' h;have:=t.size_pos;omega
 | succ m ih=>
   intro t u a n c a' n' c' w ok ok' hm hT hU
   rw [TR_iff] at hT hU
   have hsz:=t.size_kids
   have P1:Below w.heap.size w ((w.alloc (.cells #[.int .i64 t.op,.int .i64 t.num,.slice a n c] 28)).alloc (.cells #[.int .i64 u.op,.int .i64 u.num,.slice a' n' c'] 28)):=(pure_alloc _ _).alloc (by simp) _
   have N1:((w.alloc (.cells #[.int .i64 t.op,.int .i64 t.num,.slice a n c] 28)).alloc (.cells #[.int .i64 u.op,.int .i64 u.num,.slice a' n' c'] 28)).heap[w.heap.size]?=some (.cells #[.int .i64 t.op,.int .i64 t.num,.slice a n c] 28 (0,0)):=alloc_keep (alloc_new _ _)
   have N2:((w.alloc (.cells #[.int .i64 t.op,.int .i64 t.num,.slice a n c] 28)).alloc (.cells #[.int .i64 u.op,.int .i64 u.num,.slice a' n' c'] 28)).heap[w.heap.size + 1]?=some (.cells #[.int .i64 u.op,.int .i64 u.num,.slice a' n' c'] 28 (0,0)):=alloc_new' _ _ _ (by simp)
   have HT:=Lib.hid (hT.below P1)
   have HU:=Lib.hid (hU.below P1)
   have hn:=hT.2.1
   have hn':=hU.2.1
   have HLN:=Lib.hid hT.1
   have HLU:=Lib.hid hU.1
   have HIH:=Lib.hid ih
   have HSZ:Hid (Tm.sizes t.kids≤m):=by show _≤_;omega
   clear hT hU hsz ih hm
   go_enter Tryd.func25,Tryd.ntmps25
   go_upto_region 1 with fail
   generalize ((w.alloc (.cells #[.int .i64 t.op,.int .i64 t.num,.slice a n c] 28)).alloc (.cells #[.int .i64 u.op,.int .i64 u.num,.slice a' n' c'] 28))=w1 at *
   have HP1:=Lib.hid P1
   have HN1:=Lib.hid N1
   have HN2:=Lib.hid N2
   have hX:=lt_of_block N1
   have hY:=lt_of_block N2
   have x0:=cell_of_arr N1 0
   have x1:=cell_of_arr N1 1
   have x2:=cell_of_arr N1 2
   simp at x0 x1 x2
   have y0:=cell_of_arr N2 0
   have y1:=cell_of_arr N2 1
   have y2:=cell_of_arr N2 2
   simp at y0 y1 y2
   clear P1 N1 N2
   refine wp_region_held_drew (S:=(fun W=>((W.cell? ⟨w.heap.size,0,none⟩=some (.int .i64 t.op)∧W.cell? ⟨w.heap.size,1,none⟩=some (.int .i64 t.num)∧W.cell? ⟨w.heap.size,2,none⟩=some (.slice a n c))∧W.cell? ⟨w.heap.size + 1,0,none⟩=some (.int .i64 u.op)∧W.cell? ⟨w.heap.size + 1,1,none⟩=some (.int .i64 u.num)∧W.cell? ⟨w.heap.size + 1,2,none⟩=some (.slice a' n' c')))) (by kernel_rfl) ⟨⟨x0,x1,x2⟩,y0,y1,y2⟩ (fun hHeld=>?_)
   refine wpAnyH_take (i:=0) (v:=?_) rfl (by kernel_rfl) (by kernel_rfl) (by kernel_rfl) (fun _ _ _ h=>h) (Or.inl ⟨by rfl,?_⟩) hHeld ?_
   rotate_left
   ·(intro W hSw;(try dsimp only at hSw);go_simp;try with_reducible rfl)
   try simp only [Act.put,List.setIfInBounds_toArray,List.set_cons_zero,List.set_cons_succ,List.getElem_toArray,List.getElem_cons_succ,List.getElem_cons_zero]
   refine wpAnyH_take (i:=1) (v:=?_) rfl (by kernel_rfl) (by kernel_rfl) (by kernel_rfl) (fun _ _ _ h=>h) (Or.inl ⟨by rfl,?_⟩) hHeld ?_
   rotate_left
   ·(intro W hSw;(try dsimp only at hSw);go_simp;try with_reducible rfl)
   try simp only [Act.put,List.setIfInBounds_toArray,List.set_cons_zero,List.set_cons_succ,List.getElem_toArray,List.getElem_cons_succ,List.getElem_cons_zero]
   refine wpAnyH_take (i:=2) (v:=?_) rfl (by kernel_rfl) (by kernel_rfl) (by kernel_rfl) (fun _ _ _ h=>h) (Or.inl ⟨by rfl,?_⟩) hHeld ?_
   rotate_left
   ·(intro W hSw;(try dsimp only at hSw);go_simp;try with_reducible rfl)
   try simp only [Act.put,List.setIfInBounds_toArray,List.set_cons_zero,List.set_cons_succ,List.getElem_toArray,List.getElem_cons_succ,List.getElem_cons_zero]
   refine wpAnyH_take (i:=3) (v:=?_) rfl (by kernel_rfl) (by kernel_rfl) (by kernel_rfl) (fun _ _ _ h=>h) (Or.inl ⟨by rfl,?_⟩) hHeld ?_
   rotate_left
   ·(intro W hSw;(try dsimp only at hSw);go_simp;try with_reducible rfl)
   try simp only [Act.put,List.setIfInBounds_toArray,List.set_cons_zero,List.set_cons_succ,List.getElem_toArray,List.getElem_cons_succ,List.getElem_cons_zero]
   refine wpAnyH_take (i:=5) (v:=?_) rfl (by kernel_rfl) (by kernel_rfl) (by kernel_rfl) (fun _ _ _ h=>h) (Or.inl ⟨by rfl,?_⟩) hHeld ?_
   rotate_left
   ·(intro W hSw;(try dsimp only at hSw);go_simp;try with_reducible rfl)
   try simp only [Act.put,List.setIfInBounds_toArray,List.set_cons_zero,List.set_cons_succ,List.getElem_toArray,List.getElem_cons_succ,List.getElem_cons_zero]
   refine wpAnyH_take (i:=6) (v:=?_) rfl (by kernel_rfl) (by kernel_rfl) (by kernel_rfl) (fun _ _ _ h=>h) (Or.inl ⟨by rfl,?_⟩) hHeld ?_
   rotate_left
   ·(intro W hSw;(try dsimp only at hSw);go_simp;try with_reducible rfl)
   try simp only [Act.put,List.setIfInBounds_toArray,List.set_cons_zero,List.set_cons_succ,List.getElem_toArray,List.getElem_cons_succ,List.getElem_cons_zero]
   refine wpAnyH_take (i:=7) (v:=?_) rfl (by kernel_rfl) (by kernel_rfl) (by kernel_rfl) (fun _ _ _ h=>h) (Or.inl ⟨by rfl,?_⟩) hHeld ?_
   rotate_left
   ·(intro W hSw;(try dsimp only at hSw);go_simp;try with_reducible rfl)
   try simp only [Act.put,List.setIfInBounds_toArray,List.set_cons_zero,List.set_cons_succ,List.getElem_toArray,List.getElem_cons_succ,List.getElem_cons_zero]
   refine wpAnyH_take (i:=8) (v:=?_) rfl (by kernel_rfl) (by kernel_rfl) (by kernel_rfl) (fun _ _ _ h=>h) (Or.inl ⟨by rfl,?_⟩) hHeld ?_
   rotate_left
   ·(intro W hSw;(try dsimp only at hSw);go_simp;try with_reducible rfl)
   try simp only [Act.put,List.setIfInBounds_toArray,List.set_cons_zero,List.set_cons_succ,List.getElem_toArray,List.getElem_cons_succ,List.getElem_cons_zero]
   refine wpAnyH_take (i:=10) (v:=?_) rfl (by kernel_rfl) (by kernel_rfl) (by kernel_rfl) (fun _ _ _ h=>h) (Or.inl ⟨by rfl,?_⟩) hHeld ?_
   rotate_left
   ·(intro W hSw;(try dsimp only at hSw);go_simp;try with_reducible rfl)
   try simp only [Act.put,List.setIfInBounds_toArray,List.set_cons_zero,List.set_cons_succ,List.getElem_toArray,List.getElem_cons_succ,List.getElem_cons_zero]
   refine wpAnyH_take (i:=11) (v:=?_) rfl (by kernel_rfl) (by kernel_rfl) (by kernel_rfl) (fun _ _ _ h=>h) (Or.inl ⟨by rfl,?_⟩) hHeld ?_
   rotate_left
   ·(intro W hSw;(try dsimp only at hSw);go_simp;try with_reducible rfl)
   try simp only [Act.put,List.setIfInBounds_toArray,List.set_cons_zero,List.set_cons_succ,List.getElem_toArray,List.getElem_cons_succ,List.getElem_cons_zero]
   refine wpAnyH_take (i:=12) (v:=?_) rfl (by kernel_rfl) (by kernel_rfl) (by kernel_rfl) (fun _ _ _ h=>h) (Or.inl ⟨by rfl,?_⟩) hHeld ?_
   rotate_left
   ·(intro W hSw;(try dsimp only at hSw);go_simp;try with_reducible rfl)
   try simp only [Act.put,List.setIfInBounds_toArray,List.set_cons_zero,List.set_cons_succ,List.getElem_toArray,List.getElem_cons_succ,List.getElem_cons_zero]
   refine wpAnyH_take (i:=13) (v:=?_) rfl (by kernel_rfl) (by kernel_rfl) (by kernel_rfl) (fun _ _ _ h=>h) (Or.inl ⟨by rfl,?_⟩) hHeld ?_
   rotate_left
   ·(intro W hSw;(try dsimp only at hSw);go_simp;try with_reducible rfl)
   try simp only [Act.put,List.setIfInBounds_toArray,List.set_cons_zero,List.set_cons_succ,List.getElem_toArray,List.getElem_cons_succ,List.getElem_cons_zero]
   refine wpAnyH_take (i:=14) (v:=?_) rfl (by kernel_rfl) (by kernel_rfl) (by kernel_rfl) (fun _ _ _ h=>h) (Or.inl ⟨by rfl,?_⟩) hHeld ?_
   rotate_left
   ·(intro W hSw;(try dsimp only at hSw);go_simp;try with_reducible rfl)
   try simp only [Act.put,List.setIfInBounds_toArray,List.set_cons_zero,List.set_cons_succ,List.getElem_toArray,List.getElem_cons_succ,List.getElem_cons_zero]
   refine wpAnyH_take (i:=15) (v:=?_) rfl (by kernel_rfl) (by kernel_rfl) (by kernel_rfl) (fun _ _ _ h=>h) (Or.inl ⟨by rfl,?_⟩) hHeld ?_
   rotate_left
   ·(intro W hSw;(try dsimp only at hSw);go_simp;try with_reducible rfl)
   try simp only [Act.put,List.setIfInBounds_toArray,List.set_cons_zero,List.set_cons_succ,List.getElem_toArray,List.getElem_cons_succ,List.getElem_cons_zero]
   refine wpAnyH_take (i:=19) (v:=?_) rfl (by kernel_rfl) (by kernel_rfl) (by kernel_rfl) (fun _ _ _ h=>h) (Or.inl ⟨by rfl,?_⟩) hHeld ?_
   rotate_left
   ·(intro W hSw;(try dsimp only at hSw);go_simp;try with_reducible rfl)
   try simp only [Act.put,List.setIfInBounds_toArray,List.set_cons_zero,List.set_cons_succ,List.getElem_toArray,List.getElem_cons_succ,List.getElem_cons_zero]
   refine wpAnyH_ready (rs:=[4]) (by kernel_rfl) (by simp) ?_
   refine AllReadyH.cons rfl (fun K1 hK1=>?_) AllReadyH.nil
   go_simp
   refine (order_any _ _ _).mono ?_
   rintro e u ⟨rfl,rfl⟩
   refine hK1.out _ _ hHeld (fun hHeld=>?_)
   clear hK1
   try simp only [Act.put,List.setIfInBounds_toArray,List.set_cons_zero,List.set_cons_succ,List.getElem_toArray,List.getElem_cons_succ,List.getElem_cons_zero]
   refine wpAnyH_ready (rs:=[9]) (by kernel_rfl) (by simp) ?_
   refine AllReadyH.cons rfl (fun K1 hK1=>?_) AllReadyH.nil
   go_simp
   refine (order_any _ _ _).mono ?_
   rintro e u ⟨rfl,rfl⟩
   refine hK1.out _ _ hHeld (fun hHeld=>?_)
   clear hK1
   try simp only [Act.put,List.setIfInBounds_toArray,List.set_cons_zero,List.set_cons_succ,List.getElem_toArray,List.getElem_cons_succ,List.getElem_cons_zero]
   refine wpAnyH_ready (rs:=[16]) (by kernel_rfl) (by simp) ?_
   refine AllReadyH.cons rfl (fun K1 hK1=>?_) AllReadyH.nil
   go_simp
   refine (order_any _ _ _).mono ?_
   rintro e u ⟨rfl,rfl⟩
   refine hK1.out _ _ hHeld (fun hHeld=>?_)
   clear hK1
   try simp only [Act.put,List.setIfInBounds_toArray,List.set_cons_zero,List.set_cons_succ,List.getElem_toArray,List.getElem_cons_succ,List.getElem_cons_zero]
   refine wpAnyH_ready (rs:=[17]) (by kernel_rfl) (by simp) ?_
   refine AllReadyH.cons rfl (fun K1 hK1=>?_) AllReadyH.nil
   go_simp
   have NA:(w1.alloc (.cells #[.int .i64 (Tm.cmpI t.op u.op),.int .i64 (Tm.cmpI t.num u.num),.int .i64 (Tm.cmpI n n')] 3)).drew.heap[w1.heap.size]?=some _:=alloc_new w1 (.cells #[.int .i64 (Tm.cmpI t.op u.op),.int .i64 (Tm.cmpI t.num u.num),.int .i64 (Tm.cmpI n n')] 3)
   have PA':Below w1.heap.size w1 (w1.alloc (.cells #[.int .i64 (Tm.cmpI t.op u.op),.int .i64 (Tm.cmpI t.num u.num),.int .i64 (Tm.cmpI n n')] 3)).drew:=below_drewN (pure_alloc _ _) 1
   refine hK1.out _ _ ⟨⟨(PA'.cell (p:=⟨w.heap.size,0,none⟩) hX).trans x0,(PA'.cell (p:=⟨w.heap.size,1,none⟩) hX).trans x1,(PA'.cell (p:=⟨w.heap.size,2,none⟩) hX).trans x2⟩,(PA'.cell (p:=⟨w.heap.size + 1,0,none⟩) hY).trans y0,(PA'.cell (p:=⟨w.heap.size + 1,1,none⟩) hY).trans y1,(PA'.cell (p:=⟨w.heap.size + 1,2,none⟩) hY).trans y2⟩ (fun hHeld=>?_)
   clear hK1
   try simp only [Act.put,List.setIfInBounds_toArray,List.set_cons_zero,List.set_cons_succ,List.getElem_toArray,List.getElem_cons_succ,List.getElem_cons_zero]
   refine wpAnyH_take (i:=18) (v:=?_) rfl (by kernel_rfl) (by kernel_rfl) (by kernel_rfl) (fun _ _ _ h=>h) (Or.inl ⟨by rfl,?_⟩) hHeld ?_
   rotate_left
   ·(intro W hSw;(try dsimp only at hSw);go_simp;try with_reducible rfl)
   try simp only [Act.put,List.setIfInBounds_toArray,List.set_cons_zero,List.set_cons_succ,List.getElem_toArray,List.getElem_cons_succ,List.getElem_cons_zero]
   refine wpAnyH_done (by kernel_rfl) ?_ _
   try simp only [Act.put,List.setIfInBounds_toArray,List.set_cons_zero,List.set_cons_succ,List.getElem_toArray,List.getElem_cons_succ,List.getElem_cons_zero]
   have CE:Hid (∀ k,k < 3→(w1.alloc (.cells #[.int .i64 (Tm.cmpI t.op u.op),.int .i64 (Tm.cmpI t.num u.num),.int .i64 (Tm.cmpI n n')] 3)).drew.cell? ⟨w1.heap.size,k,none⟩=some (.int .i64 (Tm.cs t u k))):=by
    show ∀ k,k < 3→_
    intro k hk
    have e1:=HLN.out
    have e2:=HLU.out
    rcases (show k=0∨k=1∨k=2 by omega) with rfl | rfl | rfl
    ·exact (cell_of_arr NA 0)
    ·exact (cell_of_arr NA 1)
    ·refine (cell_of_arr NA 2).trans ?_
     rw [e1,e2];rfl
   clear hHeld x0 x1 x2 y0 y1 y2 NA
   generalize (w1.alloc (.cells #[.int .i64 (Tm.cmpI t.op u.op),.int .i64 (Tm.cmpI t.num u.num),.int .i64 (Tm.cmpI n n')] 3)).drew=w2 at *
   have HP2:=Lib.hid PA'
   clear PA'
   go_wp2_with fail
   go_loopw [28] (fun i W=>∃ k:Nat,i=.int .i64 k∧k≤3∧(∀ j,j < k→Tm.cs t u j=0)∧Below w2.heap.size w2 W) (fun i _=>3 - (intOf i).toNat)
   case atStart=>exact ⟨0,rfl,by omega,fun j h=>by omega,Below.refl _ _⟩
   case round=>
    obtain ⟨k,rfl,hk,hcz,hB⟩:=hrel
    by_cases hk3:k < 3
    ·have ck:=(hB.cell (p:=⟨w1.heap.size,k,none⟩) (lt_of_cell (CE.out k hk3))).trans (CE.out k hk3)
     have hk3':(k:Int) < 3:=by omega
     have HB:=Lib.hid (pure_trans HP2.out hB)
     have HBr:=Lib.hid hB
     by_cases hz:Tm.cs t u k=0
     ·have HCZ:Hid (∀ j,j < k + 1→Tm.cs t u j=0):=by
       show ∀ j,j < k + 1→_
       intro j hj
       by_cases e:j=k
       ·rw [e];exact hz
       ·exact hcz j (by omega)
      have hzb:(Tm.cs t u k !=0)=false:=by simpa using hz
      clear hcz hz hB
      generalize Tm.cs t u k=cv at *
      go_wp2_with fail
      go_roundw
      case rel=>exact ⟨k + 1,by go_num,by omega,HCZ.out,HBr.out⟩
      case measure=>simp [intOf];omega
     ·have HEQ:=Lib.hid (Tm.compare_at hk3 hcz hz)
      have hzb:(Tm.cs t u k !=0)=true:=by simpa using hz
      clear hcz hz hB
      generalize Tm.cs t u k=cv at *
      go_wp2_with fail
      go_ret
      exact ⟨ret_int HEQ.out.symm,pure_trans HP1.out HB.out⟩
    ·have hk3':¬ ((k:Int) < 3):=by omega
     have HRE:Hid (∀ j,j < 3→Tm.cs t u j=0):=by
      show ∀ j,j < 3→_
      exact fun j hj=>hcz j (by omega)
     have HP3:=Lib.hid (pure_trans HP2.out hB)
     clear hcz hB
     have HNN:Hid (n=n'):=by
      show n=n'
      have h:=Tm.cmpI_zero.1 (HRE.out 2 (by omega))
      have e1:=HLN.out
      have e2:=HLU.out
      omega
     have HEQ0:=Lib.hid (Tm.compare_rest HRE.out)
     have HTW:=Lib.hid (HT.out.below HP3.out)
     have HUW:=Lib.hid (HU.out.below HP3.out)
     have HN1W:=Lib.hid (Below.keep HP3.out HN1.out hX)
     have HN2W:=Lib.hid (Below.keep HP3.out HN2.out hY)
     have HP5:=Lib.hid (pure_trans HP1.out HP3.out)
     have N1:=HN1W.out
     have N2:=HN2W.out
     have x0:=cell_of_arr N1 0
     have x1:=cell_of_arr N1 1
     have x2:=cell_of_arr N1 2
     simp at x0 x1 x2
     have y0:=cell_of_arr N2 0
     have y1:=cell_of_arr N2 1
     have y2:=cell_of_arr N2 2
     simp at y0 y1 y2
     clear N1 N2 HRE
     go_wp2_with fail
     clear x0 x1 x2 y0 y1 y2
     obtain ⟨w4,rfl⟩:∃ w4:World,w4=wr:=⟨_,rfl⟩
     go_loopw [39] (fun i W=>∃ j:Nat,i=.int .i64 j∧j≤n∧Tm.compares t.kids u.kids=Tm.compares (t.kids.drop j) (u.kids.drop j)∧Below w4.heap.size w4 W) (fun i _=>n - (intOf i).toNat)
     case atStart=>exact ⟨0,rfl,by omega,rfl,Below.refl _ _⟩
     case round=>
      obtain ⟨j,rfl,hj,hcj,hB⟩:=hrel
      by_cases hjn:j < n
      ·have hjl:j < t.kids.length:=by have:=HLN.out;omega
       have hju:j < u.kids.length:=by have:=HLU.out;have:=HNN.out;omega
       obtain ⟨b,o,an,nn,cc,hea,hb,c0,c1,c2,ht⟩:=(HTW.out.below hB).2.2 j hjl
       obtain ⟨b',o',an',nn',cc',hea',hb',d0,d1,d2,hu⟩:=(HUW.out.below hB).2.2 j hju
       have hst:=Tm.compares_step hjl hju
       have HEQ:=Lib.hid (hcj.trans hst)
       have hk1:t.kids[j].size≤m:=Nat.le_trans (Tm.size_get hjl) HSZ.out
       have HCL:=Lib.hid (fun W (hW:Below wr.heap.size wr W)=>HIH.out t.kids[j] u.kids[j] an nn cc an' nn' cc' W ok ok' hk1 (ht.below hW) (hu.below hW))
       have N1:=Below.keep hB HN1W.out (lt_of_block HN1W.out)
       have N2:=Below.keep hB HN2W.out (lt_of_block HN2W.out)
       have HB:=Lib.hid hB
       clear hcj hst hB ht hu hk1
       generalize t.kids[j]=k at *
       generalize u.kids[j]=k' at *
       subst hea hea'
       have x0:=cell_of_arr N1 0
       have x1:=cell_of_arr N1 1
       have x2:=cell_of_arr N1 2
       simp at x0 x1 x2
       have y0:=cell_of_arr N2 0
       have y1:=cell_of_arr N2 1
       have y2:=cell_of_arr N2 2
       simp at y0 y1 y2
       clear N1 N2
       have hlt:(j:Int) < n:=by omega
       have hlt':(j:Int) < n':=by have:=HNN.out;omega
       have hlt2:(0:Int)≤j:=by omega
       go_upto_region 10 with fail
       refine wp_region_held_drew (S:=(fun W=>((W.cell? ⟨w.heap.size,0,none⟩=some (.int .i64 t.op)∧W.cell? ⟨w.heap.size,1,none⟩=some (.int .i64 t.num)∧W.cell? ⟨w.heap.size,2,none⟩=some (.slice (some ⟨b,o,none⟩) n c))∧W.cell? ⟨w.heap.size + 1,0,none⟩=some (.int .i64 u.op)∧W.cell? ⟨w.heap.size + 1,1,none⟩=some (.int .i64 u.num)∧W.cell? ⟨w.heap.size + 1,2,none⟩=some (.slice (some ⟨b',o',none⟩) n' c'))∧(W.cell? ⟨b,o + j * 3,none⟩=some (.int .i64 k.op)∧W.cell? ⟨b,o + j * 3 + 1,none⟩=some (.int .i64 k.num)∧W.cell? ⟨b,o + j * 3 + 2,none⟩=some (.slice an nn cc))∧W.cell? ⟨b',o' + j * 3,none⟩=some (.int .i64 k'.op)∧W.cell? ⟨b',o' + j * 3 + 1,none⟩=some (.int .i64 k'.num)∧W.cell? ⟨b',o' + j * 3 + 2,none⟩=some (.slice an' nn' cc'))) (by kernel_rfl) ⟨⟨⟨x0,x1,x2⟩,y0,y1,y2⟩,⟨c0,c1,c2⟩,d0,d1,d2⟩ (fun hHeld=>?_)
       refine wpAnyH_take (i:=0) (v:=?_) rfl (by kernel_rfl) (by kernel_rfl) (by kernel_rfl) (fun _ _ _ h=>h) (Or.inl ⟨by rfl,?_⟩) hHeld ?_
       rotate_left
       ·(intro W hSw;(try dsimp only at hSw);go_simp;try with_reducible rfl)
       try simp only [Act.put,List.setIfInBounds_toArray,List.set_cons_zero,List.set_cons_succ,List.getElem_toArray,List.getElem_cons_succ,List.getElem_cons_zero]
       refine wpAnyH_take (i:=1) (v:=?_) rfl (by kernel_rfl) (by kernel_rfl) (by kernel_rfl) (fun _ _ _ h=>h) (Or.inl ⟨by rfl,?_⟩) hHeld ?_
       rotate_left
       ·(intro W hSw;(try dsimp only at hSw);go_simp;try with_reducible rfl)
       try simp only [Act.put,List.setIfInBounds_toArray,List.set_cons_zero,List.set_cons_succ,List.getElem_toArray,List.getElem_cons_succ,List.getElem_cons_zero]
       refine wpAnyH_take (i:=2) (v:=?_) rfl (by kernel_rfl) (by kernel_rfl) (by kernel_rfl) (fun _ _ _ h=>h) (Or.inl ⟨by rfl,?_⟩) hHeld ?_
       rotate_left
       ·(intro W hSw;(try dsimp only at hSw);go_simp;try with_reducible rfl)
       try simp only [Act.put,List.setIfInBounds_toArray,List.set_cons_zero,List.set_cons_succ,List.getElem_toArray,List.getElem_cons_succ,List.getElem_cons_zero]
       refine wpAnyH_take (i:=3) (v:=?_) rfl (by kernel_rfl) (by kernel_rfl) (by kernel_rfl) (fun _ _ _ h=>h) (Or.inl ⟨by rfl,?_⟩) hHeld ?_
       rotate_left
       ·(intro W hSw;(try dsimp only at hSw);go_simp;try with_reducible rfl)
       try simp only [Act.put,List.setIfInBounds_toArray,List.set_cons_zero,List.set_cons_succ,List.getElem_toArray,List.getElem_cons_succ,List.getElem_cons_zero]
       refine wpAnyH_take (i:=4) (v:=?_) rfl (by kernel_rfl) (by kernel_rfl) (by kernel_rfl) (fun _ _ _ h=>h) (Or.inl ⟨by rfl,?_⟩) hHeld ?_
       rotate_left
       ·(intro W hSw;(try dsimp only at hSw);go_simp;try with_reducible rfl)
       try simp only [Act.put,List.setIfInBounds_toArray,List.set_cons_zero,List.set_cons_succ,List.getElem_toArray,List.getElem_cons_succ,List.getElem_cons_zero]
       refine wpAnyH_take (i:=5) (v:=?_) rfl (by kernel_rfl) (by kernel_rfl) (by kernel_rfl) (fun _ _ _ h=>h) (Or.inl ⟨by rfl,?_⟩) hHeld ?_
       rotate_left
       ·(intro W hSw;(try dsimp only at hSw);go_simp;try with_reducible rfl)
       try simp only [Act.put,List.setIfInBounds_toArray,List.set_cons_zero,List.set_cons_succ,List.getElem_toArray,List.getElem_cons_succ,List.getElem_cons_zero]
       refine wpAnyH_take (i:=6) (v:=?_) rfl (by kernel_rfl) (by kernel_rfl) (by kernel_rfl) (fun _ _ _ h=>h) (Or.inl ⟨by rfl,?_⟩) hHeld ?_
       rotate_left
       ·(intro W hSw;(try dsimp only at hSw);go_simp;try with_reducible rfl)
       try simp only [Act.put,List.setIfInBounds_toArray,List.set_cons_zero,List.set_cons_succ,List.getElem_toArray,List.getElem_cons_succ,List.getElem_cons_zero]
       refine wpAnyH_take (i:=7) (v:=?_) rfl (by kernel_rfl) (by kernel_rfl) (by kernel_rfl) (fun _ _ _ h=>h) (Or.inl ⟨by rfl,?_⟩) hHeld ?_
       rotate_left
       ·(intro W hSw;(try dsimp only at hSw);go_simp;try with_reducible rfl)
       try simp only [Act.put,List.setIfInBounds_toArray,List.set_cons_zero,List.set_cons_succ,List.getElem_toArray,List.getElem_cons_succ,List.getElem_cons_zero]
       refine wpAnyH_take (i:=8) (v:=?_) rfl (by kernel_rfl) (by kernel_rfl) (by kernel_rfl) (fun _ _ _ h=>h) (Or.inl ⟨by rfl,?_⟩) hHeld ?_
       rotate_left
       ·(intro W hSw;(try dsimp only at hSw);go_simp;try with_reducible rfl)
       try simp only [Act.put,List.setIfInBounds_toArray,List.set_cons_zero,List.set_cons_succ,List.getElem_toArray,List.getElem_cons_succ,List.getElem_cons_zero]
       refine wpAnyH_take (i:=9) (v:=?_) rfl (by kernel_rfl) (by kernel_rfl) (by kernel_rfl) (fun _ _ _ h=>h) (Or.inl ⟨by rfl,?_⟩) hHeld ?_
       rotate_left
       ·(intro W hSw;(try dsimp only at hSw);go_simp;try with_reducible rfl)
       try simp only [Act.put,List.setIfInBounds_toArray,List.set_cons_zero,List.set_cons_succ,List.getElem_toArray,List.getElem_cons_succ,List.getElem_cons_zero]
       refine wpAnyH_ready (rs:=[10]) (by kernel_rfl) (by simp) ?_
       refine AllReadyH.cons rfl (fun K1 hK1=>?_) AllReadyH.nil
       go_simp
       refine (HCL.out wr.drew (below_drewN (Below.refl _ _) 1)).mono ?_
       rintro e w5 ⟨rfl,hw5⟩
       have hw5':Below wr.heap.size wr w5:=(below_drewN (Below.refl _ _) 1:Below wr.heap.size wr wr.drew).trans hw5
       refine hK1.out _ _ ⟨⟨⟨(hw5'.cell (p:=⟨w.heap.size,0,none⟩) (lt_of_cell x0)).trans x0,(hw5'.cell (p:=⟨w.heap.size,1,none⟩) (lt_of_cell x1)).trans x1,(hw5'.cell (p:=⟨w.heap.size,2,none⟩) (lt_of_cell x2)).trans x2⟩,(hw5'.cell (p:=⟨w.heap.size + 1,0,none⟩) (lt_of_cell y0)).trans y0,(hw5'.cell (p:=⟨w.heap.size + 1,1,none⟩) (lt_of_cell y1)).trans y1,(hw5'.cell (p:=⟨w.heap.size + 1,2,none⟩) (lt_of_cell y2)).trans y2⟩,⟨(hw5'.cell (p:=⟨b,o + j * 3,none⟩) (lt_of_cell c0)).trans c0,(hw5'.cell (p:=⟨b,o + j * 3 + 1,none⟩) (lt_of_cell c1)).trans c1,(hw5'.cell (p:=⟨b,o + j * 3 + 2,none⟩) (lt_of_cell c2)).trans c2⟩,(hw5'.cell (p:=⟨b',o' + j * 3,none⟩) (lt_of_cell d0)).trans d0,(hw5'.cell (p:=⟨b',o' + j * 3 + 1,none⟩) (lt_of_cell d1)).trans d1,(hw5'.cell (p:=⟨b',o' + j * 3 + 2,none⟩) (lt_of_cell d2)).trans d2⟩ (fun hHeld=>?_)
       clear hK1
       try simp only [Act.put,List.setIfInBounds_toArray,List.set_cons_zero,List.set_cons_succ,List.getElem_toArray,List.getElem_cons_succ,List.getElem_cons_zero]
       refine wpAnyH_take (i:=11) (v:=?_) rfl (by kernel_rfl) (by kernel_rfl) (by kernel_rfl) (fun _ _ _ h=>h) (Or.inl ⟨by rfl,?_⟩) hHeld ?_
       rotate_left
       ·(intro W hSw;(try dsimp only at hSw);go_simp;try with_reducible rfl)
       try simp only [Act.put,List.setIfInBounds_toArray,List.set_cons_zero,List.set_cons_succ,List.getElem_toArray,List.getElem_cons_succ,List.getElem_cons_zero]
       refine wpAnyH_done (by kernel_rfl) ?_ _
       try simp only [Act.put,List.setIfInBounds_toArray,List.set_cons_zero,List.set_cons_succ,List.getElem_toArray,List.getElem_cons_succ,List.getElem_cons_zero]
       have HB5:=Lib.hid (HB.out.trans (hw5'.mono HB.out.size))
       clear hHeld hw5 hw5' x0 x1 x2 y0 y1 y2 c0 c1 c2 d0 d1 d2 HB HCL
       generalize hcv:Tm.compare k k'=cv at *
       have HCV:=Lib.hid hcv
       clear hcv
       by_cases hz:cv=0
       ·have hzb:(cv !=0)=false:=by simpa using hz
        have HEQ2:=Lib.hid (HEQ.out.trans (if_neg (by simpa using hz)))
        clear hz HEQ HCV
        go_wp2_with fail
        go_roundw
        case rel=>exact ⟨j + 1,by go_num,by omega,HEQ2.out,HB5.out⟩
        case measure=>simp [intOf];omega
       ·have hzb:(cv !=0)=true:=by simpa using hz
        have HEQ2:=Lib.hid (HEQ.out.trans (if_pos (by simpa using hz)))
        clear hz HEQ HCV
        go_wp2_with fail
        go_ret
        exact ⟨ret_int (HEQ0.out.trans HEQ2.out).symm,pure_trans HP5.out HB5.out⟩
      ·have hjn':¬ ((j:Int) < n):=by omega
       have HB:=Lib.hid (pure_trans HP5.out hB)
       have HEQ:=Lib.hid (hcj.trans (Tm.compares_end (by have:=HLN.out;omega)))
       clear hB hcj
       go_wp2_with fail
       go_ret
       exact ⟨ret_int (HEQ0.out.trans HEQ.out).symm,HB.out⟩
end Go.Proofs.YtkgbjoepjcenlaaDoor
