/- Joined texts. -/
import Derived.Test.YtkgbjoepjcenlaaDoorKAB
set_option linter.unusedVariables false
set_option linter.unusedSimpArgs false
namespace Go.Proofs.YtkgbjoepjcenlaaDoor
open Go.RowKit
set_option maxHeartbeats 1600000 in
theorem compareR_any (m:Nat):∀ (t u:Tm) (a:Option Addr) (n c:Nat) (a':Option Addr) (n' c':Nat) (w:World) (ok ok':Nat→Prop),t.size≤m→TR ok w t a n→TR ok' w u a' n'→
 Calls Tryd.prog 22 #[.agg #[.int .i64 t.op,.int .i64 t.num,.slice a n c],.agg #[.int .i64 u.op,.int .i64 u.num,.slice a' n' c']] w fun e w'=>e=.returned (.int .i64 (Tm.compare t u))∧Below w.heap.size w w':=by
 induction m with
 | zero=>intro t u a n c a' n' c' w ok ok' h;have:=t.size_pos;omega
 | succ m ih=>
   intro t u a n c a' n' c' w ok ok' hm hT hU
   rw [TR_iff] at hT hU
   have hsz:=t.size_kids
   have P1:Below w.heap.size w ((w.alloc (.cells #[.int .i64 t.op,.int .i64 t.num,.slice a n c] 28)).alloc (.cells #[.int .i64 u.op,.int .i64 u.num,.slice a' n' c'] 28)):=(pure_alloc _ _).alloc (by simp) _
   have N1:((w.alloc (.cells #[.int .i64 t.op,.int .i64 t.num,.slice a n c] 28)).alloc (.cells #[.int .i64 u.op,.int .i64 u.num,.slice a' n' c'] 28)).heap[w.heap.size]?=some (.cells #[.int .i64 t.op,.int .i64 t.num,.slice a n c] 28 (0,0)):=alloc_keep (alloc_new _ _)
   have N2:((w.alloc (.cells #[.int .i64 t.op,.int .i64 t.num,.slice a n c] 28)).alloc (.cells #[.int .i64 u.op,.int .i64 u.num,.slice a' n' c'] 28)).heap[w.heap.size + 1]?=some (.cells #[.int .i64 u.op,.int .i64 u.num,.slice a' n' c'] 28 (0,0)):=alloc_new' _ _ _ (by simp)
   have HT:=Lib.hid (hT.below P1)
   have HU:=Lib.hid (hU.below P1)
   have hn:=hT.2.1
   have hn':=hU.2.1
   have HLN:=Lib.hid hT.1
   have HLU:=Lib.hid hU.1
   have HIH:=Lib.hid ih
   have HSZ:Hid (Tm.sizes t.kids≤m):=by show _≤_;omega
   clear hT hU hsz ih hm
   go_enter Tryd.func22,Tryd.ntmps22
   go_upto_region 1 with fail
   generalize ((w.alloc (.cells #[.int .i64 t.op,.int .i64 t.num,.slice a n c] 28)).alloc (.cells #[.int .i64 u.op,.int .i64 u.num,.slice a' n' c'] 28))=w1 at *
   have HP1:=Lib.hid P1
   have HN1:=Lib.hid N1
   have HN2:=Lib.hid N2
   have hX:=lt_of_block N1
   have hY:=lt_of_block N2
   have x0:=cell_of_arr N1 0
   have x1:=cell_of_arr N1 1
   have x2:=cell_of_arr N1 2
   simp at x0 x1 x2
   have y0:=cell_of_arr N2 0
   have y1:=cell_of_arr N2 1
   have y2:=cell_of_arr N2 2
   simp at y0 y1 y2
   clear P1 N1 N2
   have HC0:Hid (Tm.cs t u 0=Tm.cmpI t.op u.op):=rfl
   have HC1:Hid (Tm.cs t u 1=Tm.cmpI t.num u.num):=rfl
   have HC2:Hid (Tm.cs t u 2=Tm.cmpI n n'):=by
    show _=_
    rw [HLN.out,HLU.out];rfl
   by_cases h0:Tm.cmpI t.op u.op=0
   rotate_left
   ·have HEQ:=Lib.hid (Tm.compare_at (t:=t) (u:=u) (k:=0) (by omega) (fun j h=>by omega) (by rw [HC0.out];exact h0))
    have hb:(Tm.cmpI t.op u.op !=0)=true:=by simpa using h0
    clear h0
    go_wp2_with (go_at_call 41;refine (cmp_any _ _ _).mono ?_;rintro e w2 ⟨rfl,rfl⟩)
    go_ret
    exact ⟨ret_int (HEQ.out.trans HC0.out).symm,HP1.out⟩
   have HZ0:=Lib.hid (HC0.out.trans h0)
   have hb0:(Tm.cmpI t.op u.op !=0)=false:=by simpa using h0
   by_cases h1:Tm.cmpI t.num u.num=0
   rotate_left
   ·have HEQ:=Lib.hid (Tm.compare_at (t:=t) (u:=u) (k:=1) (by omega) (fun j h=>(show j=0 by omega) ▸ HZ0.out) (by rw [HC1.out];exact h1))
    have hb:(Tm.cmpI t.num u.num !=0)=true:=by simpa using h1
    clear h0 h1
    go_wp2_with (go_at_call 41;refine (cmp_any _ _ _).mono ?_;rintro e w2 ⟨rfl,rfl⟩)
    go_ret
    exact ⟨ret_int (HEQ.out.trans HC1.out).symm,HP1.out⟩
   have HZ1:=Lib.hid (HC1.out.trans h1)
   have hb1:(Tm.cmpI t.num u.num !=0)=false:=by simpa using h1
   by_cases h2:Tm.cmpI n n'=0
   rotate_left
   ·have HEQ:=Lib.hid (Tm.compare_at (t:=t) (u:=u) (k:=2) (by omega) (fun j h=>by
     rcases (show j=0∨j=1 by omega) with rfl | rfl
     ·exact HZ0.out
     ·exact HZ1.out) (by rw [HC2.out];exact h2))
    have hb:(Tm.cmpI n n' !=0)=true:=by simpa using h2
    clear h0 h1 h2
    go_wp2_with (go_at_call 41;refine (cmp_any _ _ _).mono ?_;rintro e w2 ⟨rfl,rfl⟩)
    go_ret
    exact ⟨ret_int (HEQ.out.trans HC2.out).symm,HP1.out⟩
   have HZ2:=Lib.hid (HC2.out.trans h2)
   have hb2:(Tm.cmpI n n' !=0)=false:=by simpa using h2
   have HNN:Hid (n=n'):=by
    show n=n'
    have h:=Tm.cmpI_zero.1 h2
    omega
   have HEQ0:=Lib.hid (Tm.compare_rest (t:=t) (u:=u) fun j hj=>by
    rcases (show j=0∨j=1∨j=2 by omega) with rfl | rfl | rfl
    ·exact HZ0.out
    ·exact HZ1.out
    ·exact HZ2.out)
   clear h0 h1 h2
   have HTW:=HT
   have HUW:=HU
   have HN1W:=HN1
   have HN2W:=HN2
   have HP5:=HP1
   go_wp2_with (go_at_call 41;refine (cmp_any _ _ _).mono ?_;rintro e w2 ⟨rfl,rfl⟩)
   clear x0 x1 x2 y0 y1 y2 hb0 hb1 hb2
   go_loopw [39] (fun i W=>∃ j:Nat,i=.int .i64 j∧j≤n∧Tm.compares t.kids u.kids=Tm.compares (t.kids.drop j) (u.kids.drop j)∧Below w1.heap.size w1 W) (fun i _=>n - (intOf i).toNat)
   case atStart=>exact ⟨0,rfl,by omega,rfl,Below.refl _ _⟩
   case round=>
    obtain ⟨j,rfl,hj,hcj,hB⟩:=hrel
    by_cases hjn:j < n
    ·have hjl:j < t.kids.length:=by have:=HLN.out;omega
     have hju:j < u.kids.length:=by have:=HLU.out;have:=HNN.out;omega
     obtain ⟨b,o,an,nn,cc,hea,hb,c0,c1,c2,ht⟩:=(HTW.out.below hB).2.2 j hjl
     obtain ⟨b',o',an',nn',cc',hea',hb',d0,d1,d2,hu⟩:=(HUW.out.below hB).2.2 j hju
     have hst:=Tm.compares_step hjl hju
     have HEQ:=Lib.hid (hcj.trans hst)
     have hk1:t.kids[j].size≤m:=Nat.le_trans (Tm.size_get hjl) HSZ.out
     have HCL:=Lib.hid (fun W (hW:Below wr.heap.size wr W)=>HIH.out t.kids[j] u.kids[j] an nn cc an' nn' cc' W ok ok' hk1 (ht.below hW) (hu.below hW))
     have N1:=Below.keep hB HN1W.out (lt_of_block HN1W.out)
     have N2:=Below.keep hB HN2W.out (lt_of_block HN2W.out)
     have HB:=Lib.hid hB
     clear hcj hst hB ht hu hk1
     generalize t.kids[j]=k at *
     generalize u.kids[j]=k' at *
     subst hea hea'
     have x0:=cell_of_arr N1 0
     have x1:=cell_of_arr N1 1
     have x2:=cell_of_arr N1 2
     simp at x0 x1 x2
     have y0:=cell_of_arr N2 0
     have y1:=cell_of_arr N2 1
     have y2:=cell_of_arr N2 2
     simp at y0 y1 y2
     clear N1 N2
     have hlt:(j:Int) < n:=by omega
     have hlt':(j:Int) < n':=by have:=HNN.out;omega
     have hlt2:(0:Int)≤j:=by omega
     go_upto_region 13 with fail
     refine wp_region_held_drew (S:=(fun W=>((W.cell? ⟨w.heap.size,0,none⟩=some (.int .i64 t.op)∧W.cell? ⟨w.heap.size,1,none⟩=some (.int .i64 t.num)∧W.cell? ⟨w.heap.size,2,none⟩=some (.slice (some ⟨b,o,none⟩) n c))∧W.cell? ⟨w.heap.size + 1,0,none⟩=some (.int .i64 u.op)∧W.cell? ⟨w.heap.size + 1,1,none⟩=some (.int .i64 u.num)∧W.cell? ⟨w.heap.size + 1,2,none⟩=some (.slice (some ⟨b',o',none⟩) n' c'))∧(W.cell? ⟨b,o + j * 3,none⟩=some (.int .i64 k.op)∧W.cell? ⟨b,o + j * 3 + 1,none⟩=some (.int .i64 k.num)∧W.cell? ⟨b,o + j * 3 + 2,none⟩=some (.slice an nn cc))∧W.cell? ⟨b',o' + j * 3,none⟩=some (.int .i64 k'.op)∧W.cell? ⟨b',o' + j * 3 + 1,none⟩=some (.int .i64 k'.num)∧W.cell? ⟨b',o' + j * 3 + 2,none⟩=some (.slice an' nn' cc'))) (by kernel_rfl) ⟨⟨⟨x0,x1,x2⟩,y0,y1,y2⟩,⟨c0,c1,c2⟩,d0,d1,d2⟩ (fun hHeld=>?_)
     refine wpAnyH_take (i:=0) (v:=?_) rfl (by kernel_rfl) (by kernel_rfl) (by kernel_rfl) (fun _ _ _ h=>h) (Or.inl ⟨by rfl,?_⟩) hHeld ?_
     rotate_left
     ·(intro W hSw;(try dsimp only at hSw);go_simp;try with_reducible rfl)
     try simp only [Act.put,List.setIfInBounds_toArray,List.set_cons_zero,List.set_cons_succ,List.getElem_toArray,List.getElem_cons_succ,List.getElem_cons_zero]
     refine wpAnyH_take (i:=1) (v:=?_) rfl (by kernel_rfl) (by kernel_rfl) (by kernel_rfl) (fun _ _ _ h=>h) (Or.inl ⟨by rfl,?_⟩) hHeld ?_
     rotate_left
     ·(intro W hSw;(try dsimp only at hSw);go_simp;try with_reducible rfl)
     try simp only [Act.put,List.setIfInBounds_toArray,List.set_cons_zero,List.set_cons_succ,List.getElem_toArray,List.getElem_cons_succ,List.getElem_cons_zero]
     refine wpAnyH_take (i:=2) (v:=?_) rfl (by kernel_rfl) (by kernel_rfl) (by kernel_rfl) (fun _ _ _ h=>h) (Or.inl ⟨by rfl,?_⟩) hHeld ?_
     rotate_left
     ·(intro W hSw;(try dsimp only at hSw);go_simp;try with_reducible rfl)
     try simp only [Act.put,List.setIfInBounds_toArray,List.set_cons_zero,List.set_cons_succ,List.getElem_toArray,List.getElem_cons_succ,List.getElem_cons_zero]
     refine wpAnyH_take (i:=3) (v:=?_) rfl (by kernel_rfl) (by kernel_rfl) (by kernel_rfl) (fun _ _ _ h=>h) (Or.inl ⟨by rfl,?_⟩) hHeld ?_
     rotate_left
     ·(intro W hSw;(try dsimp only at hSw);go_simp;try with_reducible rfl)
     try simp only [Act.put,List.setIfInBounds_toArray,List.set_cons_zero,List.set_cons_succ,List.getElem_toArray,List.getElem_cons_succ,List.getElem_cons_zero]
     refine wpAnyH_take (i:=4) (v:=?_) rfl (by kernel_rfl) (by kernel_rfl) (by kernel_rfl) (fun _ _ _ h=>h) (Or.inl ⟨by rfl,?_⟩) hHeld ?_
     rotate_left
     ·(intro W hSw;(try dsimp only at hSw);go_simp;try with_reducible rfl)
     try simp only [Act.put,List.setIfInBounds_toArray,List.set_cons_zero,List.set_cons_succ,List.getElem_toArray,List.getElem_cons_succ,List.getElem_cons_zero]
     refine wpAnyH_take (i:=5) (v:=?_) rfl (by kernel_rfl) (by kernel_rfl) (by kernel_rfl) (fun _ _ _ h=>h) (Or.inl ⟨by rfl,?_⟩) hHeld ?_
     rotate_left
     ·(intro W hSw;(try dsimp only at hSw);go_simp;try with_reducible rfl)
     try simp only [Act.put,List.setIfInBounds_toArray,List.set_cons_zero,List.set_cons_succ,List.getElem_toArray,List.getElem_cons_succ,List.getElem_cons_zero]
     refine wpAnyH_take (i:=6) (v:=?_) rfl (by kernel_rfl) (by kernel_rfl) (by kernel_rfl) (fun _ _ _ h=>h) (Or.inl ⟨by rfl,?_⟩) hHeld ?_
     rotate_left
     ·(intro W hSw;(try dsimp only at hSw);go_simp;try with_reducible rfl)
     try simp only [Act.put,List.setIfInBounds_toArray,List.set_cons_zero,List.set_cons_succ,List.getElem_toArray,List.getElem_cons_succ,List.getElem_cons_zero]
     refine wpAnyH_take (i:=7) (v:=?_) rfl (by kernel_rfl) (by kernel_rfl) (by kernel_rfl) (fun _ _ _ h=>h) (Or.inl ⟨by rfl,?_⟩) hHeld ?_
     rotate_left
     ·(intro W hSw;(try dsimp only at hSw);go_simp;try with_reducible rfl)
     try simp only [Act.put,List.setIfInBounds_toArray,List.set_cons_zero,List.set_cons_succ,List.getElem_toArray,List.getElem_cons_succ,List.getElem_cons_zero]
     refine wpAnyH_take (i:=8) (v:=?_) rfl (by kernel_rfl) (by kernel_rfl) (by kernel_rfl) (fun _ _ _ h=>h) (Or.inl ⟨by rfl,?_⟩) hHeld ?_
     rotate_left
     ·(intro W hSw;(try dsimp only at hSw);go_simp;try with_reducible rfl)
     try simp only [Act.put,List.setIfInBounds_toArray,List.set_cons_zero,List.set_cons_succ,List.getElem_toArray,List.getElem_cons_succ,List.getElem_cons_zero]
     refine wpAnyH_take (i:=9) (v:=?_) rfl (by kernel_rfl) (by kernel_rfl) (by kernel_rfl) (fun _ _ _ h=>h) (Or.inl ⟨by rfl,?_⟩) hHeld ?_
     rotate_left
     ·(intro W hSw;(try dsimp only at hSw);go_simp;try with_reducible rfl)
     try simp only [Act.put,List.setIfInBounds_toArray,List.set_cons_zero,List.set_cons_succ,List.getElem_toArray,List.getElem_cons_succ,List.getElem_cons_zero]
     refine wpAnyH_ready (rs:=[10]) (by kernel_rfl) (by simp) ?_
     refine AllReadyH.cons rfl (fun K1 hK1=>?_) AllReadyH.nil
     go_simp
     refine (HCL.out wr.drew (below_drewN (Below.refl _ _) 1)).mono ?_
     rintro e w5 ⟨rfl,hw5⟩
     have hw5':Below wr.heap.size wr w5:=(below_drewN (Below.refl _ _) 1:Below wr.heap.size wr wr.drew).trans hw5
     refine hK1.out _ _ ⟨⟨⟨(hw5'.cell (p:=⟨w.heap.size,0,none⟩) (lt_of_cell x0)).trans x0,(hw5'.cell (p:=⟨w.heap.size,1,none⟩) (lt_of_cell x1)).trans x1,(hw5'.cell (p:=⟨w.heap.size,2,none⟩) (lt_of_cell x2)).trans x2⟩,(hw5'.cell (p:=⟨w.heap.size + 1,0,none⟩) (lt_of_cell y0)).trans y0,(hw5'.cell (p:=⟨w.heap.size + 1,1,none⟩) (lt_of_cell y1)).trans y1,(hw5'.cell (p:=⟨w.heap.size + 1,2,none⟩) (lt_of_cell y2)).trans y2⟩,⟨(hw5'.cell (p:=⟨b,o + j * 3,none⟩) (lt_of_cell c0)).trans c0,(hw5'.cell (p:=⟨b,o + j * 3 + 1,none⟩) (lt_of_cell c1)).trans c1,(hw5'.cell (p:=⟨b,o + j * 3 + 2,none⟩) (lt_of_cell c2)).trans c2⟩,(hw5'.cell (p:=⟨b',o' + j * 3,none⟩) (lt_of_cell d0)).trans d0,(hw5'.cell (p:=⟨b',o' + j * 3 + 1,none⟩) (lt_of_cell d1)).trans d1,(hw5'.cell (p:=⟨b',o' + j * 3 + 2,none⟩) (lt_of_cell d2)).trans d2⟩ (fun hHeld=>?_)
     clear hK1
     try simp only [Act.put,List.setIfInBounds_toArray,List.set_cons_zero,List.set_cons_succ,List.getElem_toArray,List.getElem_cons_succ,List.getElem_cons_zero]
     refine wpAnyH_take (i:=11) (v:=?_) rfl (by kernel_rfl) (by kernel_rfl) (by kernel_rfl) (fun _ _ _ h=>h) (Or.inl ⟨by rfl,?_⟩) hHeld ?_
     rotate_left
     ·(intro W hSw;(try dsimp only at hSw);go_simp;try with_reducible rfl)
     try simp only [Act.put,List.setIfInBounds_toArray,List.set_cons_zero,List.set_cons_succ,List.getElem_toArray,List.getElem_cons_succ,List.getElem_cons_zero]
     refine wpAnyH_done (by kernel_rfl) ?_ _
     try simp only [Act.put,List.setIfInBounds_toArray,List.set_cons_zero,List.set_cons_succ,List.getElem_toArray,List.getElem_cons_succ,List.getElem_cons_zero]
     have HB5:=Lib.hid (HB.out.trans (hw5'.mono HB.out.size))
     clear hHeld hw5 hw5' x0 x1 x2 y0 y1 y2 c0 c1 c2 d0 d1 d2 HB HCL
     generalize hcv:Tm.compare k k'=cv at *
     have HCV:=Lib.hid hcv
     clear hcv
     by_cases hz:cv=0
     ·have hzb:(cv !=0)=false:=by simpa using hz
      have HEQ2:=Lib.hid (HEQ.out.trans (if_neg (by simpa using hz)))
      clear hz HEQ HCV
      go_wp2_with fail
      go_roundw
      case rel=>exact ⟨j + 1,by go_num,by omega,HEQ2.out,HB5.out⟩
      case measure=>simp [intOf];omega
     ·have hzb:(cv !=0)=true:=by simpa using hz
      have HEQ2:=Lib.hid (HEQ.out.trans (if_pos (by simpa using hz)))
      clear hz HEQ HCV
      go_wp2_with fail
      go_ret
      exact ⟨ret_int (HEQ0.out.trans HEQ2.out).symm,pure_trans HP5.out HB5.out⟩
    ·have hjn':¬ ((j:Int) < n):=by omega
     have HB:=Lib.hid (pure_trans HP5.out hB)
     have HEQ:=Lib.hid (hcj.trans (Tm.compares_end (by have:=HLN.out;omega)))
     clear hB hcj
     go_wp2_with fail
     go_ret
     exact ⟨ret_int (HEQ0.out.trans HEQ.out).symm,HB.out⟩
end Go.Proofs.YtkgbjoepjcenlaaDoor
namespace Go.Proofs.YtkgbjoepjcenlaaDoor
open Go.RowKit
end Go.Proofs.YtkgbjoepjcenlaaDoor
namespace Go.Proofs.YtkgbjoepjcenlaaDoor
open Go.RowKit
namespace Tm
theorem formed_kids (t:Tm) (left level:Int):formed t left level=if left - 1 < 0 then (false,left - 1) else if 40 < level then (false,left - 1) else if (t.kids.length:Int)≠arity t.op then (false,left - 1) else
 if t.op=1 then (decide (0≤t.num) && decide (t.num≤1000),left - 1) else if t.num≠0 then (false,left - 1) else formedL t.kids (left - 1) (level + 1):=by
 cases t;rfl
theorem formedL_step {l:List Tm} {j:Nat} (h1:j < l.length) (x v:Int):formedL (l.drop j) x v=if (formed l[j] x v).1 then formedL (l.drop (j + 1)) (formed l[j] x v).2 v else (false,(formed l[j] x v).2):=by
 rw [List.drop_eq_getElem_cons h1];simp [formedL]
theorem formedL_end {l:List Tm} {j:Nat} (h1:l.length≤j) (x v:Int):formedL (l.drop j) x v=(true,x):=by
 rw [List.drop_eq_nil_of_le h1];simp [formedL]
mutual
theorem formed_bd:∀ (t:Tm) (l v:Int),0≤l→-1≤(formed t l v).2∧(formed t l v).2≤l∧((formed t l v).1=true→0≤(formed t l v).2)
 | mk o n ks,l,v,h=>by
   have ih:=fun hl=>formedL_bd ks (l - 1) (v + 1) hl
   simp only [formed]
   by_cases h1:l - 1 < 0
   ·rw [if_pos h1];simp;omega
   ·rw [if_neg h1]
    have ih:=ih (by omega)
    by_cases h2:40 < v
    ·rw [if_pos h2];simp;omega
    ·rw [if_neg h2]
     split
     ·simp;omega
     ·split
      ·simp;omega
      ·split
       ·simp;omega
       ·exact ⟨ih.1,by omega,ih.2.2⟩
theorem formedL_bd:∀ (ks:List Tm) (l v:Int),0≤l→-1≤(formedL ks l v).2∧(formedL ks l v).2≤l∧((formedL ks l v).1=true→0≤(formedL ks l v).2)
 | [],l,v,h=>by simp [formedL];omega
 | k :: ks,l,v,h=>by
   have h1:=formed_bd k l v h
   simp only [formedL]
   split
   ·rename_i hf
    have h2:=formedL_bd ks (formed k l v).2 v (h1.2.2 hf)
    exact ⟨h2.1,by omega,h2.2.2⟩
   ·exact ⟨h1.1,h1.2.1,fun h=>by cases h⟩
end
theorem shaped_kids (t:Tm) (l:Nat):shaped t l=(decide (l≠0) && okN t.op t.num t.kids.length && shapedL t.kids (l - 1)):=by
 cases t;cases l <;> simp [shaped,op,num,kids]
theorem shapedL_step {l:List Tm} {j:Nat} (h1:j < l.length) (v:Nat):shapedL (l.drop j) v=(shaped l[j] v && shapedL (l.drop (j + 1)) v):=by
 rw [List.drop_eq_getElem_cons h1];simp [shapedL]
theorem shapedL_end {l:List Tm} {j:Nat} (h1:l.length≤j) (v:Nat):shapedL (l.drop j) v=true:=by
 rw [List.drop_eq_nil_of_le h1];simp [shapedL]
end Tm
def FmPost (L:Nat) (r:Bool × Int) (w:World) (e:Ending) (w':World):Prop:=e=.returned (.bool r.1)∧w'.heap[L]?=some (.cells #[.int .i64 r.2] 3 (0,0))∧But L w w'
theorem one_set {w:World} {L:Nat} {x:Value} (h:w.heap[L]?=some (.cells #[x] 3 (0,0))) (y:Value):(w.setCell ⟨L,0,none⟩ y).heap[L]?=some (.cells #[y] 3 (0,0)):=by
 rw [set_arr h];rfl
set_option maxHeartbeats 1600000 in
theorem formed_any (m:Nat):∀ (t:Tm) (a:Option Addr) (n c L:Nat) (left level:Int) (w:World),t.size≤m→TR (fun b=>b≠L) w t a n→w.heap[L]?=some (.cells #[.int .i64 left] 3 (0,0))→0≤left→left≤100000→0≤level→level≤41→
 Calls Tryd.prog 39 #[.agg #[.int .i64 t.op,.int .i64 t.num,.slice a n c],.pointer (some ⟨L,0,none⟩),.int .i64 level] w (FmPost L (Tm.formed t left level) w):=by
 induction m with
 | zero=>intro t a n c L left level w h;have:=t.size_pos;omega
 | succ m ih=>
   intro t a n c L left level w hm hT hL hl0 hl1 hv0 hv1
   have hsz:=t.size_kids
   have HEQ0:=Lib.hid (t.formed_kids left level)
   rw [TR_iff] at hT
   have hLl:=lt_of_block hL
   have hn:=hT.2.1
   have HLN:=Lib.hid hT.1
   have HIH:=Lib.hid ih
   have HSZ:Hid (Tm.sizes t.kids≤m):=by show _≤_;omega
   have hne:w.heap.size≠L:=by omega
   have B1:But L w ((w.setCell ⟨L,0,none⟩ (.int .i64 (left - 1))).alloc (.cells #[.int .i64 t.op,.int .i64 t.num,.slice a n c] 28)):=But.alloc (But.setCell (b:=L) (But.refl L w) (p:=⟨L,0,none⟩) rfl _) _
   have N1:((w.setCell ⟨L,0,none⟩ (.int .i64 (left - 1))).alloc (.cells #[.int .i64 t.op,.int .i64 t.num,.slice a n c] 28)).heap[w.heap.size]?=some (.cells #[.int .i64 t.op,.int .i64 t.num,.slice a n c] 28 (0,0)):=alloc_new' _ _ _ (by simp [World.setCell])
   have L1:((w.setCell ⟨L,0,none⟩ (.int .i64 (left - 1))).alloc (.cells #[.int .i64 t.op,.int .i64 t.num,.slice a n c] 28)).heap[L]?=some (.cells #[.int .i64 (left - 1)] 3 (0,0)):=alloc_keep (one_set hL _)
   have l0:w.cell? ⟨L,0,none⟩=some (.int .i64 left):=cell_of_arr hL 0
   have l1:=frozen_of_arr hL 0
   have HT:=Lib.hid (hT.keep (ok':=fun b=>b≠L) fun b hb hl=>⟨B1.block b hl hb,hb⟩)
   clear hT hsz ih hL
   go_enter Tryd.func39,Tryd.ntmps39
   go_upto_region 2 with fail
   generalize ((w.setCell ⟨L,0,none⟩ (.int .i64 (left - 1))).alloc (.cells #[.int .i64 t.op,.int .i64 t.num,.slice a n c] 28))=w1 at *
   clear l0 l1
   have HB1:=Lib.hid B1
   have HN1:=Lib.hid N1
   have HL1:=Lib.hid L1
   have x0:=cell_of_arr N1 0
   have x1:=cell_of_arr N1 1
   have x2:=cell_of_arr N1 2
   simp at x0 x1 x2
   have l0:w1.cell? ⟨L,0,none⟩=some (.int .i64 (left - 1)):=cell_of_arr L1 0
   clear B1 N1 L1
   by_cases hA:left - 1 < 0
   ·have hb:decide (left - 1 < 0)=true:=by simpa using hA
    have HE:=Lib.hid (HEQ0.out.trans (if_pos hA))
    clear HEQ0
    go_quiet (fail)
    go_wp2_with fail
    go_ret
    rw [HE.out]
    exact ⟨rfl,HL1.out,HB1.out.drewN _⟩
   have HEQ1:=Lib.hid (HEQ0.out.trans (if_neg hA))
   have hAb:decide (left - 1 < 0)=false:=by simpa using hA
   clear HEQ0
   by_cases hV:40 < level
   ·have HE:=Lib.hid (HEQ1.out.trans (if_pos hV))
    clear HEQ1
    go_quiet (fail)
    go_wp2_with fail
    go_ret
    rw [HE.out]
    exact ⟨rfl,HL1.out,HB1.out.drewN _⟩
   have HEQ2:=Lib.hid (HEQ1.out.trans (if_neg hV))
   have hVb:decide (40 < level)=false:=by simpa using hV
   clear HEQ1
   by_cases hK:(n:Int)=Tm.arity t.op
   rotate_left
   ·have HE:=Lib.hid (HEQ2.out.trans (if_pos (by have:=HLN.out;rw [← this];exact hK)))
    have hKb:((n:Int) !=Tm.arity t.op)=true:=by simpa using hK
    clear HEQ2
    go_quiet ((go_at_call 59;go_must (exact quiet_at (kids_any t.op _) ⟨_,rfl⟩)))
    go_wp2_with fail
    go_ret
    rw [HE.out]
    exact ⟨rfl,HL1.out,HB1.out.drewN _⟩
   have HEQ3:=Lib.hid (HEQ2.out.trans (if_neg (by have:=HLN.out;rw [← this];simpa using hK)))
   have hKb:((n:Int) !=Tm.arity t.op)=false:=by simpa using hK
   clear HEQ2 hK
   go_quiet ((go_at_call 59;go_must (exact quiet_at (kids_any t.op _) ⟨_,rfl⟩)))
   have HB2:=Lib.hid (HB1.out.drewN nq)
   have HN2:Hid ((w1.drewN nq).heap[w.heap.size]?=some (.cells #[.int .i64 t.op,.int .i64 t.num,.slice a n c] 28 (0,0))):=HN1.out
   have HL2:Hid ((w1.drewN nq).heap[L]?=some (.cells #[.int .i64 (left - 1)] 3 (0,0))):=HL1.out
   have HT2:Hid (TL (fun b=>b≠L) (w1.drewN nq) t.kids a n):=HT.out.keep fun b hb _=>⟨rfl,hb⟩
   clear x0 x1 x2 l0 HB1 HN1 HL1 HT hKb
   generalize w1.drewN nq=w2 at *
   have N2:=HN2.out
   have x0:=cell_of_arr N2 0
   have x1:=cell_of_arr N2 1
   have x2:=cell_of_arr N2 2
   simp at x0 x1 x2
   clear N2
   by_cases h1:t.op=1
   ·have h1b:(t.op==1)=true:=by simpa using h1
    have HE:=Lib.hid (HEQ3.out.trans (if_pos h1))
    clear HEQ3 h1
    by_cases hp:0≤t.num
    ·go_wp2_with fail
     go_ret
     rw [HE.out]
     exact ⟨by simp [hp],HL2.out,HB2.out⟩
    ·have hpb:decide (0≤t.num)=false:=by simpa using hp
     go_wp2_with fail
     go_ret
     rw [HE.out]
     exact ⟨by simp [hpb],HL2.out,HB2.out⟩
   have h1b:(t.op==1)=false:=by simpa using h1
   have HEQ4:=Lib.hid (HEQ3.out.trans (if_neg h1))
   clear HEQ3 h1
   by_cases h0:t.num=0
   rotate_left
   ·have h0b:(t.num !=0)=true:=by simpa using h0
    have HE:=Lib.hid (HEQ4.out.trans (if_pos h0))
    clear HEQ4 h0
    go_wp2_with fail
    go_ret
    rw [HE.out]
    exact ⟨rfl,HL2.out,HB2.out⟩
   have h0b:(t.num !=0)=false:=by simpa using h0
   have HEQ5:=Lib.hid (HEQ4.out.trans (if_neg (by simpa using h0)))
   clear HEQ4 h0
   go_wp2_with fail
   clear x0 x1 x2 h1b h0b
   go_loopw [48] (fun i W=>∃ (j:Nat) (l:Int),i=.int .i64 j∧j≤n∧0≤l∧l≤100000∧W.heap[L]?=some (.cells #[.int .i64 l] 3 (0,0))∧Tm.formedL t.kids (left - 1) (level + 1)=Tm.formedL (t.kids.drop j) l (level + 1)∧But L w2 W) (fun i _=>n - (intOf i).toNat)
   case atStart=>exact ⟨0,left - 1,rfl,by omega,by omega,by omega,HL2.out,rfl,But.refl _ _⟩
   case round=>
    obtain ⟨j,l,rfl,hj,hl2,hl3,hLr,hcj,hB⟩:=hrel
    by_cases hjn:j < n
    ·have hjl:j < t.kids.length:=by have:=HLN.out;omega
     have hTr:TL (fun b=>b≠L) wr t.kids a n:=HT2.out.keep fun b hb hl=>⟨hB.block b hl hb,hb⟩
     obtain ⟨b,o,an,nn,cc,hea,hb,c0,c1,c2,ht⟩:=hTr.2.2 j hjl
     subst hea
     have PA:=pure_alloc wr (.cells #[.int .i64 t.kids[j].op,.int .i64 t.kids[j].num,.slice an nn cc] 28)
     have hk1:t.kids[j].size≤m:=Nat.le_trans (Tm.size_get hjl) HSZ.out
     have HCL:=Lib.hid (HIH.out t.kids[j] an nn cc L l (level + 1) _ hk1 (ht.below PA) (Below.keep PA hLr (lt_of_block hLr)) hl2 hl3 (by omega) (by omega))
     have HEQ:=Lib.hid (hcj.trans (Tm.formedL_step hjl l (level + 1)))
     have HBD:=Lib.hid (Tm.formed_bd t.kids[j] l (level + 1) hl2)
     have HB:=Lib.hid (hB.alloc (.cells #[.int .i64 t.kids[j].op,.int .i64 t.kids[j].num,.slice an nn cc] 28))
     clear hcj hB ht PA hTr hLr
     generalize t.kids[j]=k at *
     have hlt:(j:Int) < n:=by omega
     go_wp2_with fail
     refine HCL.out.mono ?_
     rintro e w3 ⟨rfl,hL3,hb3⟩
     have HB3:=Lib.hid (HB.out.trans hb3)
     have HL3:=Lib.hid hL3
     clear hb3 hL3 c0 c1 c2 HCL
     generalize Tm.formed k l (level + 1)=fr at *
     obtain ⟨r,l'⟩:=fr
     dsimp only at HEQ HBD HL3 ⊢
     cases r
     ·have HE:=Lib.hid (HEQ.out.trans (if_neg (by simp)))
      clear HEQ
      go_wp2_with fail
      go_ret
      rw [HEQ5.out,HE.out]
      exact ⟨rfl,HL3.out,HB2.out.trans HB3.out⟩
     ·have HE:=Lib.hid (HEQ.out.trans (if_pos rfl))
      clear HEQ
      go_wp2_with fail
      go_roundw
      case rel=>exact ⟨j + 1,l',by go_num,by omega,HBD.out.2.2 rfl,by have:=HBD.out.2.1;omega,HL3.out,HE.out,HB3.out⟩
      case measure=>simp [intOf];omega
    ·have hjn':¬ ((j:Int) < n):=by omega
     have HE:=Lib.hid (hcj.trans (Tm.formedL_end (by have:=HLN.out;omega) l (level + 1)))
     have HB:=Lib.hid (HB2.out.trans hB)
     have HL3:=Lib.hid hLr
     clear hB hcj hLr
     go_wp2_with fail
     go_ret
     rw [HEQ5.out,HE.out]
     exact ⟨rfl,HL3.out,HB.out⟩
end Go.Proofs.YtkgbjoepjcenlaaDoor
