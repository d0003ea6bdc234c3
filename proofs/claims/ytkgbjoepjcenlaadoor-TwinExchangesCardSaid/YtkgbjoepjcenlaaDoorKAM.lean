/- Joined texts. -/
import Derived.Test.YtkgbjoepjcenlaaDoorKAL
set_option linter.unusedVariables false
set_option linter.unusedSimpArgs false
namespace Go.Proofs.YtkgbjoepjcenlaaDoor
open Go.RowKit
theorem rname_any (q:Int) (w:World):Calls Tryd.prog 52 #[.int .i64 q] w fun e w'=>e=.returned (.agg #[.int .i64 1,.int .i64 q,.slice none 0 0])∧Below w.heap.size w w':=by
 have P1:=Lib.hid (pure_alloc w (.cells #[.int .i64 1,.int .i64 q,.slice none 0 0] 28))
 have N1:=alloc_new w (.cells #[.int .i64 1,.int .i64 q,.slice none 0 0] 28)
 go_enter Tryd.func52,Tryd.ntmps52
 go_wp2_with fail
 generalize w.alloc (.cells #[.int .i64 1,.int .i64 q,.slice none 0 0] 28)=w1 at *
 have p0:=cell_of_arr N1 0
 have p1:=cell_of_arr N1 1
 have p2:=cell_of_arr N1 2
 simp at p0 p1 p2
 refine bodyPost_ret (v:=.agg #[.int .i64 1,.int .i64 q,.slice none 0 0]) (by simp [results,Tryd.results52,go_sem,p0,p1,p2]) rfl ?_
 exact ⟨rfl,P1.out⟩
theorem rterm_any (o:Int) (a:Option Addr) (n c:Nat) (w:World):Calls Tryd.prog 54 #[.int .i64 o,.slice a n c] w fun e w'=>e=.returned (.agg #[.int .i64 o,.int .i64 0,.slice a n c])∧Below w.heap.size w w':=by
 have P1:=Lib.hid (pure_alloc w (.cells #[.int .i64 o,.int .i64 0,.slice a n c] 28))
 have N1:=alloc_new w (.cells #[.int .i64 o,.int .i64 0,.slice a n c] 28)
 go_enter Tryd.func54,Tryd.ntmps54
 go_wp2_with fail
 generalize w.alloc (.cells #[.int .i64 o,.int .i64 0,.slice a n c] 28)=w1 at *
 have p0:=cell_of_arr N1 0
 have p1:=cell_of_arr N1 1
 have p2:=cell_of_arr N1 2
 simp at p0 p1 p2
 refine bodyPost_ret (v:=.agg #[.int .i64 o,.int .i64 0,.slice a n c]) (by simp [results,Tryd.results54,go_sem,p0,p1,p2]) rfl ?_
 exact ⟨rfl,P1.out⟩
set_option maxHeartbeats 400000 in
theorem rpub_any (k:Tm) (a:Option Addr) (n c:Nat) (w:World) (ok:Nat→Prop) (hT:TR ok w k a n) (hnc:n≤c):
 Calls Tryd.prog 53 #[.agg #[.int .i64 k.op,.int .i64 k.num,.slice a n c]] w fun e w'=>∃ g,e=.returned (.agg #[.int .i64 6,.int .i64 0,.slice (some ⟨g,0,none⟩) 1 1])∧TR (fun b=>ok b∨w.heap.size≤b) w' (Tm.pub k) (some ⟨g,0,none⟩) 1∧Below w.heap.size w w':=by
 have HT:=Lib.hid hT
 clear hT
 go_enter Tryd.func53,Tryd.ntmps53
 go_wp2_with fail
 have W3:Hid (Below w.heap.size w (((w.alloc (.cells #[.int .i64 k.op,.int .i64 k.num,.slice a n c] 28)).alloc (.cells #[.int .i64 6,.int .i64 0,.slice (some ⟨w.heap.size + 1 + 1,0,none⟩) 1 1] 28)).alloc (.cells #[.int .i64 k.op,.int .i64 k.num,.slice a n c] 28))):=((pure_alloc _ _).alloc (by simp) _).alloc (by simp;omega) _
 have N2:(((w.alloc (.cells #[.int .i64 k.op,.int .i64 k.num,.slice a n c] 28)).alloc (.cells #[.int .i64 6,.int .i64 0,.slice (some ⟨w.heap.size + 1 + 1,0,none⟩) 1 1] 28)).alloc (.cells #[.int .i64 k.op,.int .i64 k.num,.slice a n c] 28)).heap[w.heap.size + 1 + 1]?=some (.cells #[.int .i64 k.op,.int .i64 k.num,.slice a n c] 28 (0,0)):=alloc_new' _ _ _ (by simp)
 have N1:(((w.alloc (.cells #[.int .i64 k.op,.int .i64 k.num,.slice a n c] 28)).alloc (.cells #[.int .i64 6,.int .i64 0,.slice (some ⟨w.heap.size + 1 + 1,0,none⟩) 1 1] 28)).alloc (.cells #[.int .i64 k.op,.int .i64 k.num,.slice a n c] 28)).heap[w.heap.size + 1]?=some (.cells #[.int .i64 6,.int .i64 0,.slice (some ⟨w.heap.size + 1 + 1,0,none⟩) 1 1] 28 (0,0)):=alloc_keep (alloc_new' _ _ _ (by simp))
 generalize (((w.alloc (.cells #[.int .i64 k.op,.int .i64 k.num,.slice a n c] 28)).alloc (.cells #[.int .i64 6,.int .i64 0,.slice (some ⟨w.heap.size + 1 + 1,0,none⟩) 1 1] 28)).alloc (.cells #[.int .i64 k.op,.int .i64 k.num,.slice a n c] 28))=w3 at *
 have p0:=cell_of_arr N1 0
 have p1:=cell_of_arr N1 1
 have p2:=cell_of_arr N1 2
 simp at p0 p1 p2
 refine bodyPost_ret (v:=.agg #[.int .i64 6,.int .i64 0,.slice (some ⟨w.heap.size + 1 + 1,0,none⟩) 1 1]) (by simp [results,Tryd.results53,go_sem,p0,p1,p2]) rfl ?_
 refine ⟨_,rfl,TR_iff.2 ⟨rfl,by omega,fun j hj=>?_⟩,W3.out⟩
 have e:j=0:=by simp [Tm.pub,Tm.kids] at hj;exact hj
 subst e
 refine ⟨w.heap.size + 1 + 1,0,a,n,c,rfl,⟨.inr (by omega),hnc⟩,cell_of_arr N2 0,cell_of_arr N2 1,cell_of_arr N2 2,(HT.out.below W3.out).imp fun b hb _=>.inl hb⟩
set_option maxHeartbeats 1600000 in
theorem rpairs_any (l:List Tm):∀ (x:Tm) (a:Option Addr) (n c:Nat) (w:World) (ok:Nat→Prop),TL ok w (x :: l) a n→n≤c→Calls Tryd.prog 51 #[.slice a n c] w (UPost ok (Tm.tup (x :: l)) w):=by
 induction l with
 | nil=>
   intro x a n c w ok hTL hc
   have hn1:n=1:=hTL.1
   subst hn1
   obtain ⟨b,o,an,nn,cc,hea,hb,c0,c1,c2,ht⟩:=hTL.2.2 0 (by simp)
   subst hea
   simp at c0 c1 c2
   have hbl:=lt_of_cell c0
   have P1:=pure_alloc w (.cells #[.int .i64 0,.int .i64 0,.slice none 0 0] 28)
   have HP1:=Lib.hid P1
   have HR:=Lib.hid (alloc_new w (.cells #[.int .i64 0,.int .i64 0,.slice none 0 0] 28))
   have HT:=Lib.hid (show TR ok w x an nn from ht)
   have d0:=(P1.cell (p:=⟨b,o,none⟩) hbl).trans c0
   have d1:=(P1.cell (p:=⟨b,o + 1,none⟩) hbl).trans c1
   have d2:=(P1.cell (p:=⟨b,o + 2,none⟩) hbl).trans c2
   clear hTL ht P1
   go_enter Tryd.func51,Tryd.ntmps51
   go_upto_region 1 with fail
   generalize w.alloc (.cells #[.int .i64 0,.int .i64 0,.slice none 0 0] 28)=w1 at *
   have R1:=HR.out
   have r0:=cell_of_arr R1 0
   have r1:=cell_of_arr R1 1
   have r2:=cell_of_arr R1 2
   simp at r0 r1 r2
   have f0:=frozen_of_arr R1 0
   have f1:=frozen_of_arr R1 1
   have f2:=frozen_of_arr R1 2
   clear R1 c0 c1 c2
   go_wp2_with fail
   obtain ⟨S1,S2,S3⟩:=put3 HR.out (.int .i64 x.op) (.int .i64 x.num) (.slice an nn cc) _ rfl
   have p0:=cell_of_arr S1 0
   have p1:=cell_of_arr S1 1
   have p2:=cell_of_arr S1 2
   simp at p0 p1 p2
   refine bodyPost_ret (v:=.agg #[.int .i64 x.op,.int .i64 x.num,.slice an nn cc]) (by simp [results,Tryd.results51,go_sem,p0,p1,p2]) rfl ?_
   exact ⟨an,nn,cc,rfl,⟨HT.out.keep fun k hk hl=>⟨(S2 k (by omega)).trans (HP1.out.block k hl),.inl hk⟩,hb.2⟩,S3 _ _ (Nat.le_refl _) HP1.out⟩
 | cons y l ih=>
   intro x a n c w ok hTL hc
   have hn2:n=l.length + 2:=hTL.1
   obtain ⟨b,o,an,nn,cc,hea,hb,c0,c1,c2,ht⟩:=hTL.2.2 0 (by simp)
   subst hea
   simp at c0 c1 c2
   have hbl:=lt_of_cell c0
   have hnn:=hTL.2.1
   have P1:=pure_alloc w (.cells #[.int .i64 0,.int .i64 0,.slice none 0 0] 28)
   have HP1:=Lib.hid P1
   have HR:=Lib.hid (alloc_new w (.cells #[.int .i64 0,.int .i64 0,.slice none 0 0] 28))
   have HT:=Lib.hid (((show TR ok w x an nn from ht).imp (ok':=(fun k=>ok k∧k < w.heap.size)) fun k hk hl=>⟨hk,hl⟩).below P1)
   have HTD:=((hTL.imp (ok':=(fun k=>ok k∧k < w.heap.size)) fun k hk hl=>⟨hk,hl⟩).below P1).drop 1
   have HIH:Hid (∀ W:World,Below (w.alloc (.cells #[.int .i64 0,.int .i64 0,.slice none 0 0] 28)).heap.size (w.alloc (.cells #[.int .i64 0,.int .i64 0,.slice none 0 0] 28)) W→Calls Tryd.prog 51 #[.slice (some ⟨b,o + 3,none⟩) (n - 1) (c - 1)] W (UPost (fun k=>ok k∧k < w.heap.size) (Tm.tup (y :: l)) W)):=by
    show ∀ W:World,_→_
    intro W hW
    have:=HTD.below hW
    exact ih y _ _ _ W (fun k=>ok k∧k < w.heap.size) this (by omega)
   have d0:=(P1.cell (p:=⟨b,o,none⟩) hbl).trans c0
   have d1:=(P1.cell (p:=⟨b,o + 1,none⟩) hbl).trans c1
   have d2:=(P1.cell (p:=⟨b,o + 2,none⟩) hbl).trans c2
   have hne1:((n:Int)==1)=false:=by simp;omega
   have hc1:¬ c=1:=by omega
   have hl0:(0:Int) < (n:Int):=by omega
   have hl1:(1:Int)≤(n:Int):=by omega
   have hl2:0 < n:=by omega
   have hl3:1≤n:=by omega
   clear hTL ht P1 HTD ih c0 c1 c2
   have c0:=d0
   have c1:=d1
   have c2:=d2
   clear d0 d1 d2
   go_enter Tryd.func51,Tryd.ntmps51
   go_upto_region 1 with fail
   generalize w.alloc (.cells #[.int .i64 0,.int .i64 0,.slice none 0 0] 28)=w1 at *
   clear hn2
   go_upto_region 3 with fail
   refine wp_region_held_drew (S:=(fun W=>W.cell? ⟨b,o,none⟩=some (.int .i64 x.op)∧W.cell? ⟨b,o + 1,none⟩=some (.int .i64 x.num)∧W.cell? ⟨b,o + 2,none⟩=some (.slice an nn cc))) (by kernel_rfl) ⟨c0,c1,c2⟩ (fun hHeld=>?_)
   refine wpAnyH_take (i:=0) (v:=?_) rfl (by kernel_rfl) (by kernel_rfl) (by kernel_rfl) (fun _ _ _ h=>h) (Or.inl ⟨by rfl,?_⟩) hHeld ?_
   rotate_left
   ·(intro W hSw;(try dsimp only at hSw);go_simp;try with_reducible rfl)
   try simp only [Act.put,List.setIfInBounds_toArray,List.set_cons_zero,List.set_cons_succ,List.getElem_toArray,List.getElem_cons_succ,List.getElem_cons_zero]
   refine wpAnyH_take (i:=1) (v:=?_) rfl (by kernel_rfl) (by kernel_rfl) (by kernel_rfl) (fun _ _ _ h=>h) (Or.inl ⟨by rfl,?_⟩) hHeld ?_
   rotate_left
   ·(intro W hSw;(try dsimp only at hSw);go_simp;try with_reducible rfl)
   try simp only [Act.put,List.setIfInBounds_toArray,List.set_cons_zero,List.set_cons_succ,List.getElem_toArray,List.getElem_cons_succ,List.getElem_cons_zero]
   refine wpAnyH_take (i:=2) (v:=?_) rfl (by kernel_rfl) (by kernel_rfl) (by kernel_rfl) (fun _ _ _ h=>h) (Or.inl ⟨by rfl,?_⟩) hHeld ?_
   rotate_left
   ·(intro W hSw;(try dsimp only at hSw);go_simp;try with_reducible rfl)
   try simp only [Act.put,List.setIfInBounds_toArray,List.set_cons_zero,List.set_cons_succ,List.getElem_toArray,List.getElem_cons_succ,List.getElem_cons_zero]
   refine wpAnyH_take (i:=3) (v:=?_) rfl (by kernel_rfl) (by kernel_rfl) (by kernel_rfl) (fun _ _ _ h=>h) (Or.inl ⟨by rfl,?_⟩) hHeld ?_
   rotate_left
   ·(intro W hSw;(try dsimp only at hSw);go_simp;try with_reducible rfl)
   try simp only [Act.put,List.setIfInBounds_toArray,List.set_cons_zero,List.set_cons_succ,List.getElem_toArray,List.getElem_cons_succ,List.getElem_cons_zero]
   refine wpAnyH_take (i:=4) (v:=?_) rfl (by kernel_rfl) (by kernel_rfl) (by kernel_rfl) (fun _ _ _ h=>h) (Or.inl ⟨by rfl,?_⟩) hHeld ?_
   rotate_left
   ·(intro W hSw;(try dsimp only at hSw);go_simp;try with_reducible rfl)
   try simp only [Act.put,List.setIfInBounds_toArray,List.set_cons_zero,List.set_cons_succ,List.getElem_toArray,List.getElem_cons_succ,List.getElem_cons_zero]
   refine wpAnyH_ready (rs:=[5]) (by kernel_rfl) (by simp) ?_
   refine AllReadyH.cons rfl (fun K1 hK1=>?_) AllReadyH.nil
   go_simp
   refine (HIH.out w1.drew (below_drewN (Below.refl _ _) 1)).mono ?_
   rintro e w2 ⟨ra,rn,rc,rfl,⟨hTR,hrc⟩,hw2⟩
   have hw2':Below w1.heap.size w1 w2:=(below_drewN (Below.refl _ _) 1:Below w1.heap.size w1 w1.drew).trans hw2
   have HT2:Hid (TR (fun k=>(ok k∧k < w.heap.size)∨w1.heap.size≤k) w2 (Tm.tup (y :: l)) ra rn):=hTR
   have HW2:=Lib.hid hw2'
   clear hTR hw2
   refine hK1.out _ _ ⟨(hw2'.cell (p:=⟨b,o,none⟩) (lt_of_cell c0)).trans c0,(hw2'.cell (p:=⟨b,o + 1,none⟩) (lt_of_cell c1)).trans c1,(hw2'.cell (p:=⟨b,o + 2,none⟩) (lt_of_cell c2)).trans c2⟩ (fun hHeld=>?_)
   clear hK1
   try simp only [Act.put,List.setIfInBounds_toArray,List.set_cons_zero,List.set_cons_succ,List.getElem_toArray,List.getElem_cons_succ,List.getElem_cons_zero]
   clear hw2'
   refine wpAnyH_ready (rs:=[6]) (by kernel_rfl) (by simp) ?_
   refine AllReadyH.cons rfl (fun K1 hK1=>?_) AllReadyH.nil
   go_simp
   have PB:=pure_alloc w2 (.cells #[.int .i64 x.op,.int .i64 x.num,.slice an nn cc,.int .i64 (Tm.tup (y :: l)).op,.int .i64 (Tm.tup (y :: l)).num,.slice ra rn rc] 28)
   have HN3:=Lib.hid (alloc_new w2 (.cells #[.int .i64 x.op,.int .i64 x.num,.slice an nn cc,.int .i64 (Tm.tup (y :: l)).op,.int .i64 (Tm.tup (y :: l)).num,.slice ra rn rc] 28))
   have HW3:=Lib.hid (pure_trans HW2.out PB)
   have HT3:=Lib.hid (HT2.out.below PB)
   refine hK1.out _ _ ⟨(HW3.out.cell (p:=⟨b,o,none⟩) (lt_of_cell c0)).trans c0,(HW3.out.cell (p:=⟨b,o + 1,none⟩) (lt_of_cell c1)).trans c1,(HW3.out.cell (p:=⟨b,o + 2,none⟩) (lt_of_cell c2)).trans c2⟩ (fun hHeld=>?_)
   clear hK1
   try simp only [Act.put,List.setIfInBounds_toArray,List.set_cons_zero,List.set_cons_succ,List.getElem_toArray,List.getElem_cons_succ,List.getElem_cons_zero]
   clear PB
   generalize w2.alloc (.cells #[.int .i64 x.op,.int .i64 x.num,.slice an nn cc,.int .i64 (Tm.tup (y :: l)).op,.int .i64 (Tm.tup (y :: l)).num,.slice ra rn rc] 28)=w3 at *
   refine wpAnyH_ready (rs:=[7]) (by kernel_rfl) (by simp) ?_
   refine AllReadyH.cons rfl (fun K1 hK1=>?_) AllReadyH.nil
   go_simp
   refine (rterm_any 2 _ _ _ w3).mono ?_
   rintro e w4 ⟨rfl,hw4⟩
   have HW4:=Lib.hid (pure_trans HW3.out hw4)
   have HT4:=Lib.hid (HT3.out.below hw4)
   have HN4:=Lib.hid (Below.keep hw4 HN3.out (lt_of_block HN3.out))
   have R4:=Below.keep HW4.out HR.out (lt_of_block HR.out)
   have r0:=cell_of_arr R4 0
   have r1:=cell_of_arr R4 1
   have r2:=cell_of_arr R4 2
   simp at r0 r1 r2
   have f0:=frozen_of_arr R4 0
   have f1:=frozen_of_arr R4 1
   have f2:=frozen_of_arr R4 2
   have HR4:=Lib.hid R4
   clear hw4 R4
   refine hK1.out _ _ ⟨(HW4.out.cell (p:=⟨b,o,none⟩) (lt_of_cell c0)).trans c0,(HW4.out.cell (p:=⟨b,o + 1,none⟩) (lt_of_cell c1)).trans c1,(HW4.out.cell (p:=⟨b,o + 2,none⟩) (lt_of_cell c2)).trans c2⟩ (fun hHeld=>?_)
   clear hK1
   try simp only [Act.put,List.setIfInBounds_toArray,List.set_cons_zero,List.set_cons_succ,List.getElem_toArray,List.getElem_cons_succ,List.getElem_cons_zero]
   refine wpAnyH_ready (rs:=[8]) (by kernel_rfl) (by simp) ?_
   refine AllReadyH.cons rfl (fun K1 hK1=>?_) AllReadyH.nil
   have hbR:w.heap.size≠b:=by have:=hbl;omega
   go_simp
   refine hK1.out _ _ ⟨by simpa [World.cell?_setCell_far,hbR] using (HW4.out.cell (p:=⟨b,o,none⟩) (lt_of_cell c0)).trans c0,by simpa [World.cell?_setCell_far,hbR] using (HW4.out.cell (p:=⟨b,o + 1,none⟩) (lt_of_cell c1)).trans c1,by simpa [World.cell?_setCell_far,hbR] using (HW4.out.cell (p:=⟨b,o + 2,none⟩) (lt_of_cell c2)).trans c2⟩ (fun hHeld=>?_)
   clear hK1
   try simp only [Act.put,List.setIfInBounds_toArray,List.set_cons_zero,List.set_cons_succ,List.getElem_toArray,List.getElem_cons_succ,List.getElem_cons_zero]
   refine wpAnyH_done (by kernel_rfl) ?_ _
   try simp only [Act.put,List.setIfInBounds_toArray,List.set_cons_zero,List.set_cons_succ,List.getElem_toArray,List.getElem_cons_succ,List.getElem_cons_zero]
   have HW5:=Lib.hid (pure_trans HP1.out HW4.out)
   obtain ⟨S1,S2,S3⟩:=put3 HR4.out (.int .i64 2) (.int .i64 0) (.slice (some ⟨w2.heap.size,0,none⟩) 2 2) _ rfl
   have hs12:=HW2.out.size
   have hs1:=lt_of_block HR.out
   have hN:=HN4.out
   have HTT:=HT4.out
   have HTX:=HT.out.below HW4.out
   have HPS:Hid (UPost ok (Tm.tup (x :: y :: l)) w (.returned (.agg #[.int .i64 2,.int .i64 0,.slice (some ⟨w2.heap.size,0,none⟩) 2 2])) (((w4.setCell ⟨w.heap.size,0,none⟩ (.int .i64 2)).setCell ⟨w.heap.size,1,none⟩ (.int .i64 0)).setCell ⟨w.heap.size,2,none⟩ (.slice (some ⟨w2.heap.size,0,none⟩) 2 2))):=by
    refine ⟨_,_,_,rfl,⟨TR_iff.2 ⟨rfl,by omega,fun j hj=>?_⟩,Nat.le_refl _⟩,S3 _ _ (Nat.le_refl _) HW5.out⟩
    have hj2:j < 2:=hj
    have hN':=(S2 w2.heap.size (by omega)).trans hN
    rcases (show j=0∨j=1 by omega) with rfl | rfl
    ·exact ⟨w2.heap.size,0,an,nn,cc,rfl,⟨.inr (by omega),hb.2⟩,cell_of_arr hN' 0,cell_of_arr hN' 1,cell_of_arr hN' 2,HTX.keep fun k hk hl=>⟨S2 k (by have h2:ok k∧k < w.heap.size:=hk;omega),.inl hk.1⟩⟩
    ·exact ⟨w2.heap.size,0,ra,rn,rc,rfl,⟨.inr (by omega),hrc⟩,cell_of_arr hN' 3,cell_of_arr hN' 4,cell_of_arr hN' 5,HTT.keep fun k hk hl=>⟨S2 k (by have h2:(ok k∧k < w.heap.size)∨w1.heap.size≤k:=hk;rcases h2 with h2 | h2 <;> omega),by have h2:(ok k∧k < w.heap.size)∨w1.heap.size≤k:=hk;rcases h2 with h2 | h2;exact .inl h2.1;exact .inr (by omega)⟩⟩
   have p0:=cell_of_arr S1 0
   have p1:=cell_of_arr S1 1
   have p2:=cell_of_arr S1 2
   simp at p0 p1 p2
   clear hHeld
   go_wp2_with fail
   refine bodyPost_ret (v:=.agg #[.int .i64 2,.int .i64 0,.slice (some ⟨w2.heap.size,0,none⟩) 2 2]) (by simp [results,Tryd.results51,go_sem,p0,p1,p2]) rfl ?_
   exact HPS.out
section calls
variable {B:Nat} {L:List (Nat × Tm)}
theorem rname_ends {w:World} (hG:GM B L w) (q:Int):Calls Tryd.prog 52 #[.int .i64 q] w fun e w'=>∃ v,e=.returned v∧Ends B L w (Tm.nm q) v w':=
 (rname_any q w).mono fun e w' ⟨he,hb⟩=>⟨_,he,hb,hG.stable hb,rfl,none,0,0,rfl,TR_iff.2 (TL.nil _ _ _),Nat.le_refl _⟩
theorem rpub_ends {w:World} (hG:GM B L w) {t:Tm} {v:Value} (hv:(Fa.tm t).holds B L v w):Calls Tryd.prog 53 #[v] w fun e w'=>∃ v,e=.returned v∧Ends B L w (Tm.pub t) v w':=by
 obtain ⟨hz,a,n,c,rfl,hT,hn⟩:=hv
 exact (rpub_any t a n c w _ hT hn).mono fun e w' ⟨g,he,hT',hb⟩=>⟨_,he,hb,hG.stable hb,by simp [Tm.pub,Tm.nz,Tm.nzs,hz],_,_,_,rfl,hT'.imp fun k hk _=>hG.new hk,Nat.le_refl _⟩
theorem rtuple_ends {w:World} (hG:GM B L w) {l:List Tm} (hne:l≠[]) {v:Value} (hv:(Fa.tl l).holds B L v w):Calls Tryd.prog 51 #[v] w fun e w'=>∃ v,e=.returned v∧Ends B L w (Tm.tup l) v w':=by
 obtain ⟨hz,a,c,rfl,hT,hn⟩:=hv
 cases l with
 | nil=>exact absurd rfl hne
 | cons x l=>exact (rpairs_any l x a _ c w _ hT hn).mono fun e w' h=>Ends.of_u hG (tup_nz _ hne hz) h
theorem rnode_ends {w:World} (hG:GM B L w) (o:Int) (ho:(o !=0)=true) {l:List Tm} {v:Value} (hv:(Fa.tl l).holds B L v w):Calls Tryd.prog 54 #[.int .i64 o,v] w fun e w'=>∃ v,e=.returned v∧Ends B L w (.mk o 0 l) v w':=by
 obtain ⟨hz,a,c,rfl,hT,hn⟩:=hv
 exact (rterm_any o a _ c w).mono fun e w' ⟨he,hb⟩=>⟨_,he,hb,hG.stable hb,by unfold Tm.nz;rw [ho,hz];rfl,_,_,_,rfl,TR_iff.2 (hT.below hb),hn⟩
end calls
set_option maxHeartbeats 1000000 in
theorem rkdf_ends {B:Nat} {L:List (Nat × Tm)} {w:World} (hG:GM B L w) {k c:Tm} {vk vc:Value} (hk:(Fa.tm k).holds B L vk w) (hc:(Fa.tm c).holds B L vc w) (q:Int):Calls Tryd.prog 55 #[vk,.int .i64 q,vc] w fun e w'=>∃ v,e=.returned v∧Ends B L w (Tm.kdf k q c) v w':=by
 obtain ⟨zk,ak,nk,ck,rfl,Tk,lk⟩:=hk
 obtain ⟨zc,ac,nc,cc,rfl,Tc,lc⟩:=hc
 have G1:=hG.boxed zk Tk lk
 have C1:(Fa.tm c).holds B ((w.heap.size,k) :: L) (.agg #[.int .i64 c.op,.int .i64 c.num,.slice ac nc cc]) (w.alloc (.cells #[.int .i64 k.op,.int .i64 k.num,.slice ak nk ck] 28)):=Fa.boxed ⟨zc,ac,nc,cc,rfl,Tc,lc⟩ _
 have G2:GM B ((w.heap.size + 1,c) :: (w.heap.size,k) :: L) ((w.alloc (.cells #[.int .i64 k.op,.int .i64 k.num,.slice ak nk ck] 28)).alloc (.cells #[.int .i64 c.op,.int .i64 c.num,.slice ac nc cc] 28)):=by
  obtain ⟨z,a,n,cc',e,hT,hn⟩:=C1
  cases e
  have:=G1.boxed z hT hn
  simpa using this
 have N3:(((w.alloc (.cells #[.int .i64 k.op,.int .i64 k.num,.slice ak nk ck] 28)).alloc (.cells #[.int .i64 c.op,.int .i64 c.num,.slice ac nc cc] 28)).alloc (.cells #[.int .i64 0,.int .i64 0,.slice none 0 0] 28)).heap[w.heap.size + 1 + 1]?=some (.cells #[.int .i64 0,.int .i64 0,.slice none 0 0] 28 (0,0)):=alloc_new' _ _ _ (by simp)
 have HG0:=Lib.hid (G2.stable (pure_alloc _ (.cells #[.int .i64 0,.int .i64 0,.slice none 0 0] 28)))
 have HB0:Hid (Below w.heap.size w (((w.alloc (.cells #[.int .i64 k.op,.int .i64 k.num,.slice ak nk ck] 28)).alloc (.cells #[.int .i64 c.op,.int .i64 c.num,.slice ac nc cc] 28)).alloc (.cells #[.int .i64 0,.int .i64 0,.slice none 0 0] 28))):=((pure_alloc _ _).alloc (by simp) _).alloc (by simp;omega) _
 have HN0:=Lib.hid N3
 have HL:Hid (∀ p ∈ L,p.1 < w.heap.size):=hG.lt
 clear G1 C1 G2 N3 hG Tk Tc
 go_enter Tryd.func55,Tryd.ntmps55
 go_upto_region 1 with fail
 generalize (((w.alloc (.cells #[.int .i64 k.op,.int .i64 k.num,.slice ak nk ck] 28)).alloc (.cells #[.int .i64 c.op,.int .i64 c.num,.slice ac nc cc] 28)).alloc (.cells #[.int .i64 0,.int .i64 0,.slice none 0 0] 28))=w1 at *
 refine region_tm (M:=8) [.tm k,.eq (.int .i64 q),.tm (Tm.nm q),.tm c,.tl [Tm.nm q,c],.tm (Tm.tup [Tm.nm q,c]),.tl [k,Tm.tup [Tm.nm q,c]],.tm (Tm.mk 8 0 [k,Tm.tup [Tm.nm q,c]])] (by kernel_rfl) (by kernel_rfl) HG0.out ?_ ?_
 ·refine ⟨fun vs W hR hG hd=>?_,fun vs W hR hG hd=>?_,fun vs W hR hG hd=>?_,fun vs W hR hG hd=>?_,fun vs W hR hG hd=>?_,fun vs W hR hG hd=>?_,fun vs W hR hG hd=>?_,fun vs W hR hG hd=>?_,trivial⟩
  ·exact does_load hG (.tmp 3) w.heap.size k (by simp) rfl (by kernel_rfl)
  ·exact Rg.Does.move (.tmp 1) rfl ⟨RB.refl _,hG,show _=_ by kernel_rfl⟩
  ·have e1:vs 1=.int .i64 q:=hd 1 (by decide);exact does_call (vals:=#[vs 1]) 52 (.func 52) #[.tmp 8] _ rfl (by kernel_rfl) (by kernel_rfl) (cf 52 _ Tryd.func52 (by kernel_rfl) (by kernel_rfl) _) (by rw [e1];exact rname_ends hG q)
  ·exact does_load hG (.tmp 5) (w.heap.size + 1) c (by simp) rfl (by kernel_rfl)
  ·exact does_row2 hG (.tmp 9) (.tmp 10) (Tm.nm q) c rfl (hd 2 (by decide)) (hd 3 (by decide))
  ·exact does_call (vals:=#[vs 4]) 51 (.func 51) #[.tmp 11] _ rfl (by kernel_rfl) (by kernel_rfl) (cf 51 _ Tryd.func51 (by kernel_rfl) (by kernel_rfl) _) (rtuple_ends hG (by simp) (hd 4 (by decide)))
  ·exact does_row2 hG (.tmp 7) (.tmp 12) k (Tm.tup [Tm.nm q,c]) rfl (hd 0 (by decide)) (hd 5 (by decide))
  ·exact does_call (vals:=#[.int .i64 8,vs 6]) 54 (.func 54) #[.const (.int .i64 8),.tmp 13] _ rfl (by kernel_rfl) (by kernel_rfl) (cf 54 _ Tryd.func54 (by kernel_rfl) (by kernel_rfl) _) (rnode_ends hG 8 (by decide) (hd 6 (by decide)))
 ·intro vs W1 hR1 hG1 hf
  obtain ⟨z,a,n,c',ev,hT,hn⟩:=hf 7 (by decide)
  have HB1:=Lib.hid (HB0.out.trans (hR1.mono (HB0.out.size)))
  have N1:=Below.keep hR1 HN0.out (lt_of_block HN0.out)
  have HG1:=Lib.hid hG1
  have HT:=Lib.hid hT
  have HN1:=Lib.hid N1
  clear hf hR1 hG1 hT
  have r0:=cell_of_arr N1 0
  have r1:=cell_of_arr N1 1
  have r2:=cell_of_arr N1 2
  simp at r0 r1 r2
  have f0:=frozen_of_arr N1 0
  have f1:=frozen_of_arr N1 1
  have f2:=frozen_of_arr N1 2
  clear N1
  simp only [Rg.putAll,Rg.putFrom,List.take_succ_cons,List.take_zero,List.drop_succ_cons,List.drop_zero,Act.put,List.setIfInBounds_toArray,List.set_cons_zero,List.set_cons_succ,ev]
  clear ev
  obtain ⟨HS,HTT,HSS⟩:=GM.stored HG1.out HN1.out (by
   intro p hp e
   simp only [List.mem_cons] at hp
   rcases hp with rfl | rfl | hp
   ·simp at e <;> omega
   ·simp at e <;> omega
   ·have:=HL.out p hp;omega) z HT.out hn
  have HE:Hid (Ends B L w (Tm.kdf k q c) (.agg #[.int .i64 8,.int .i64 0,.slice a n c']) (((W1.setCell ⟨w.heap.size + 1 + 1,0,none⟩ (.int .i64 8)).setCell ⟨w.heap.size + 1 + 1,1,none⟩ (.int .i64 0)).setCell ⟨w.heap.size + 1 + 1,2,none⟩ (.slice a n c'))):=by
   refine ⟨RB.stored HB1.out (by omega) _ _ _,HS.fewer.fewer.fewer,z,a,n,c',rfl,HTT.fewer.fewer.fewer,hn⟩
  have p0:=cell_of_arr HSS 0
  have p1:=cell_of_arr HSS 1
  have p2:=cell_of_arr HSS 2
  simp [Tm.op,Tm.num] at p0 p1 p2
  simp only [Tm.op,Tm.num]
  clear HS HTT HSS
  go_wp2_with fail
  exact bodyPost_ret (v:=.agg #[.int .i64 8,.int .i64 0,.slice a n c']) (by simp [results,Tryd.results55,go_sem,p0,p1,p2]) rfl ⟨_,rfl,HE.out⟩
end Go.Proofs.YtkgbjoepjcenlaaDoor
namespace Go.Proofs.YtkgbjoepjcenlaaDoor
open Go.RowKit
def NmPost (r:Tm) (w:World) (e:Ending) (w':World):Prop:=∃ a n c,e=.returned (.tuple #[.agg #[.int .i64 r.op,.int .i64 r.num,.slice a n c],.int .i64 0])∧(TR (fun b=>w.heap.size≤b) w' r a n∧n≤c)∧Below w.heap.size w w'
set_option maxHeartbeats 1000000 in
theorem normT_any (t:Tm) (a:Option Addr) (n c:Nat) (w:World) (ok:Nat→Prop) (hT:TR ok w t a n) (hv:Tm.valid t=true):
 Calls Tryd.prog 16 #[.agg #[.int .i64 t.op,.int .i64 t.num,.slice a n c]] w (NmPost (Tm.normal t) w):=by
 have hsz:t.size≤1000000:=by
  unfold Tm.valid at hv
  rw [Bool.and_eq_true] at hv
  have:=hv.1
  simp at this;omega
 have P1:Below w.heap.size w ((w.alloc (.cells #[.int .i64 t.op,.int .i64 t.num,.slice a n c] 28)).alloc (.cells #[.int .i64 0,.int .i64 0,.slice none 0 0] 28)):=(pure_alloc _ _).alloc (by simp) _
 have N1:((w.alloc (.cells #[.int .i64 t.op,.int .i64 t.num,.slice a n c] 28)).alloc (.cells #[.int .i64 0,.int .i64 0,.slice none 0 0] 28)).heap[w.heap.size]?=some (.cells #[.int .i64 t.op,.int .i64 t.num,.slice a n c] 28 (0,0)):=alloc_keep (alloc_new _ _)
 have Z1:((w.alloc (.cells #[.int .i64 t.op,.int .i64 t.num,.slice a n c] 28)).alloc (.cells #[.int .i64 0,.int .i64 0,.slice none 0 0] 28)).heap[w.heap.size + 1]?=some (.cells #[.int .i64 0,.int .i64 0,.slice none 0 0] 28 (0,0)):=alloc_new' _ _ _ (by simp)
 have HT:=Lib.hid (hT.below P1)
 have HV:=Lib.hid hv
 clear hT hv
 go_enter Tryd.func16,Tryd.ntmps16
 go_upto_region 1 with fail
 generalize ((w.alloc (.cells #[.int .i64 t.op,.int .i64 t.num,.slice a n c] 28)).alloc (.cells #[.int .i64 0,.int .i64 0,.slice none 0 0] 28))=w1 at *
 have HP1:=Lib.hid P1
 have HN1:=Lib.hid N1
 have HZ1:=Lib.hid Z1
 have x0:=cell_of_arr N1 0
 have x1:=cell_of_arr N1 1
 have x2:=cell_of_arr N1 2
 simp at x0 x1 x2
 clear P1 N1 Z1
 go_wp2_with fail
 refine (valid_any t a n c w1 _ HT.out).mono ?_
 rintro e w2 ⟨rfl,hw2⟩
 rw [HV.out]
 have HP2:=Lib.hid (HP1.out.trans (hw2.mono HP1.out.size))
 have HT2:=Lib.hid (HT.out.below hw2)
 have N2:=Below.keep hw2 HN1.out (lt_of_block HN1.out)
 have HZ2:=Lib.hid (Below.keep hw2 HZ1.out (lt_of_block HZ1.out))
 clear hw2 x0 x1 x2 HP1 HT HN1 HZ1
 have x0:=cell_of_arr N2 0
 have x1:=cell_of_arr N2 1
 have x2:=cell_of_arr N2 2
 simp at x0 x1 x2
 clear N2
 go_wp2_with fail
 refine (normal_any t.size t a n c w2 _ (Nat.le_refl _) HT2.out (by omega)).mono ?_
 rintro e w3 ⟨ra,rn,rc,rfl,⟨hTR,hrc⟩,hw3⟩
 have HP3:=Lib.hid (HP2.out.trans (hw3.mono HP2.out.size))
 have Z3:=Below.keep hw3 HZ2.out (lt_of_block HZ2.out)
 have hs2:=lt_of_block HZ2.out
 have hT3:TR (fun b=>okW w.heap.size [] b∧b≠w.heap.size + 1) w3 (Tm.normal t) ra rn:=hTR.imp fun k hk _=>⟨⟨by omega,fun p hp=>by simp at hp⟩,by omega⟩
 have HT3:=Lib.hid hT3
 have HZ3:=Lib.hid Z3
 clear hw3 hTR hT3 HP2 HT2 HZ2 x0 x1 x2 hs2
 have r0:=cell_of_arr Z3 0
 have r1:=cell_of_arr Z3 1
 have r2:=cell_of_arr Z3 2
 simp at r0 r1 r2
 have f0:=frozen_of_arr Z3 0
 have f1:=frozen_of_arr Z3 1
 have f2:=frozen_of_arr Z3 2
 clear Z3
 obtain ⟨S1,S2,S3⟩:=put3 HZ3.out (.int .i64 (Tm.normal t).op) (.int .i64 (Tm.normal t).num) (.slice ra rn rc) _ rfl
 have HE:Hid (NmPost (Tm.normal t) w (.returned (.tuple #[.agg #[.int .i64 (Tm.normal t).op,.int .i64 (Tm.normal t).num,.slice ra rn rc],.int .i64 0])) (((w3.setCell ⟨w.heap.size + 1,0,none⟩ (.int .i64 (Tm.normal t).op)).setCell ⟨w.heap.size + 1,1,none⟩ (.int .i64 (Tm.normal t).num)).setCell ⟨w.heap.size + 1,2,none⟩ (.slice ra rn rc))):=
  ⟨ra,rn,rc,rfl,⟨HT3.out.keep fun k hk _=>⟨S2 k hk.2,hk.1.1⟩,hrc⟩,RB.stored HP3.out (by omega) _ _ _⟩
 have p0:=cell_of_arr S1 0
 have p1:=cell_of_arr S1 1
 have p2:=cell_of_arr S1 2
 simp at p0 p1 p2
 clear S1 S2 S3
 go_wp2_with fail
 exact bodyPost_ret (v:=.tuple #[.agg #[.int .i64 (Tm.normal t).op,.int .i64 (Tm.normal t).num,.slice ra rn rc],.int .i64 0]) (by simp [results,Tryd.results16,go_sem,p0,p1,p2]) rfl HE.out
end Go.Proofs.YtkgbjoepjcenlaaDoor
namespace Go.Proofs.YtkgbjoepjcenlaaDoor
open Go.RowKit
theorem does_slice44 {B:Nat} {L:List (Nat × Tm)} {o:Oper} {ρ:Operand→Value} {w:World} (hG:GM B L w) (x:Operand) (g cap:Nat) (hcap:5≤cap) (ho:o.op=.slice 23 x none (some (.const (.int .i64 4))) (some (.const (.int .i64 4)))) (hx:ρ x=.slice (some ⟨g,0,none⟩) 5 cap) (hc:ρ (.const (.int .i64 4))=.int .i64 4):Rg.Does Tryd.prog o ρ w fun v w'=>RB w w'∧GM B L w'∧(Fa.eq (.slice (some ⟨g,0,none⟩) 4 4)).holds B L v w':=by
 refine Rg.Does.value (v:=.slice (some ⟨g,0,none⟩) 4 4) (w':=w) ?_ ⟨RB.refl _,hG,rfl⟩
 have h1:(4:Int)≤(cap:Int):=by omega
 have h2:4≤cap:=by omega
 have h3:¬ cap < 4:=by omega
 simp only [execOp,ho,hx,hc,Option.map_some,Option.map_none]
 go_simp
theorem does_index4 {B:Nat} {L:List (Nat × Tm)} {o:Oper} {ρ:Operand→Value} {w:World} (hG:GM B L w) (x:Operand) (g cap:Nat) (ho:o.op=.indexAddr 23 x (.const (.int .i64 4))) (hx:ρ x=.slice (some ⟨g,0,none⟩) 5 cap) (hc:ρ (.const (.int .i64 4))=.int .i64 4):Rg.Does Tryd.prog o ρ w fun v w'=>RB w w'∧GM B L w'∧(Fa.eq (.pointer (some ⟨g,12,none⟩))).holds B L v w':=by
 refine Rg.Does.value (v:=.pointer (some ⟨g,12,none⟩)) (w':=w) ?_ ⟨RB.refl _,hG,rfl⟩
 simp only [execOp,ho,hx,hc]
 go_simp
theorem does_load12 {B:Nat} {L:List (Nat × Tm)} {o:Oper} {ρ:Operand→Value} {w:World} (hG:GM B L w) (x:Operand) (g:Nat) (a b:Int) (an:Option Addr) (nn cc:Nat) (ho:o.op=.load 28 x) (hx:ρ x=.pointer (some ⟨g,12,none⟩)) (c0:w.cell? ⟨g,12,none⟩=some (.int .i64 a)) (c1:w.cell? ⟨g,13,none⟩=some (.int .i64 b)) (c2:w.cell? ⟨g,14,none⟩=some (.slice an nn cc)):Rg.Does Tryd.prog o ρ w fun v w'=>RB w w'∧GM B L w'∧(Fa.eq (.agg #[.int .i64 a,.int .i64 b,.slice an nn cc])).holds B L v w':=by
 refine Rg.Does.value (v:=.agg #[.int .i64 a,.int .i64 b,.slice an nn cc]) (w':=w) ?_ ⟨RB.refl _,hG,rfl⟩
 simp only [execOp,ho,hx]
 go_simp
def XLoop (w:World) (ms:List Tm) (Z0:Nat) (ml:Option Addr) (k v:Value) (W:World):Prop:=∃ (j:Nat) (es:List Elem),j≤5∧k=.int .i64 j∧OutT W Z0 (w.heap.size + 1) w.heap.size v es ((ms.take j).map Tm.normal)∧TL (fun k=>w.heap.size < k∧k < Z0) W ms ml 5∧Below w.heap.size w W∧W.heap[w.heap.size]?=some (.cells #[.int .i64 0,.int .i64 0,.slice none 0 0] 28 (0,0))∧v.ownBlock≠some w.heap.size∧Z0≤W.heap.size
theorem XLoop.next {w wr w3:World} {ms:List Tm} {Z0 j:Nat} {ml:Option Addr} {es:List Elem} {v:Value} (hZl:w.heap.size < Z0) (hml:ms.length=5) (hj:j < 5) (hO:OutT wr Z0 (w.heap.size + 1) w.heap.size v es ((ms.take j).map Tm.normal)) (hTL:TL (fun k=>w.heap.size < k∧k < Z0) wr ms ml 5) (hB:Below w.heap.size w wr) (hZ:wr.heap[w.heap.size]?=some (.cells #[.int .i64 0,.int .i64 0,.slice none 0 0] 28 (0,0))) (hX:v.ownBlock≠some w.heap.size) (hZw:Z0≤wr.heap.size)
 (hw3:RB wr w3) {k:Tm} (hk:k=ms[j]'(by omega)) {ra:Option Addr} {rn rc:Nat} (hTR:TR (fun b=>wr.heap.size≤b) w3 (Tm.normal k) ra rn) (hrc:rn≤rc):
 ∃ v' w6,(Builtin.append_ #[23,23] 23 #[v,.slice (some ⟨(w3.alloc (.cells #[.int .i64 (Tm.normal k).op,.int .i64 (Tm.normal k).num,.slice ra rn rc] 28)).heap.size,0,none⟩) 1 1]).run Tryd.prog ((w3.alloc (.cells #[.int .i64 (Tm.normal k).op,.int .i64 (Tm.normal k).num,.slice ra rn rc] 28)).alloc (.cells #[.int .i64 (Tm.normal k).op,.int .i64 (Tm.normal k).num,.slice ra rn rc] 28))=.ok v' w6∧∀ i:Value,i=.int .i64 ((j + 1:Nat):Int)→XLoop w ms Z0 ml i v' w6:=by
 have hs:w.heap.size < wr.heap.size:=lt_of_block hZ
 have hw5:RB wr ((w3.alloc (.cells #[.int .i64 (Tm.normal k).op,.int .i64 (Tm.normal k).num,.slice ra rn rc] 28)).alloc (.cells #[.int .i64 (Tm.normal k).op,.int .i64 (Tm.normal k).num,.slice ra rn rc] 28)):=pure_trans (pure_trans hw3 (pure_alloc _ _)) (pure_alloc _ _)
 have hT5:=(hTR.below (pure_alloc w3 (.cells #[.int .i64 (Tm.normal k).op,.int .i64 (Tm.normal k).num,.slice ra rn rc] 28))).below (pure_alloc _ (.cells #[.int .i64 (Tm.normal k).op,.int .i64 (Tm.normal k).num,.slice ra rn rc] 28))
 have N5:=alloc_new (w3.alloc (.cells #[.int .i64 (Tm.normal k).op,.int .i64 (Tm.normal k).num,.slice ra rn rc] 28)) (.cells #[.int .i64 (Tm.normal k).op,.int .i64 (Tm.normal k).num,.slice ra rn rc] 28)
 have hO5:=hO.pure hw5
 obtain ⟨v',w6,hrun,hO6,hgr,hob,hoX⟩:=hO5.push (c:=1) (e:=⟨(Tm.normal k).op,(Tm.normal k).num,ra,rn,rc⟩) (t:=Tm.normal k) N5 rfl rfl hrc (hT5.imp fun b hb _=>⟨by have:wr.heap.size≤b:=hb;omega,by have:wr.heap.size≤b:=hb;omega,fun e=>by have h1:=(own_lt hO.row e).1;have:wr.heap.size≤b:=hb;omega⟩) (by simp;omega) (by have:=hw5.size;omega) hX (by have:=hw5.size;omega)
 have htk:(ms.take j).map Tm.normal ++ [Tm.normal k]=(ms.take (j + 1)).map Tm.normal:=by
  rw [List.take_succ_eq_append_getElem (by omega),List.map_append,hk];rfl
 rw [htk] at hO6
 have hg:∀ g,v.ownBlock=some g→Z0≤g:=fun g h=>(own_lt hO.row h).2.1
 refine ⟨v',w6,hrun,fun i hi=>⟨j + 1,_,by omega,hi,hO6,?_,?_,?_,hoX,?_⟩⟩
 ·refine hTL.keep fun b hb hl=>⟨?_,hb⟩
  refine (hgr.block b (by have:=hw5.size;omega) fun e=>?_).trans (hw5.block b hl)
  have:=hg b e.symm
  have:b < Z0:=hb.2
  omega
 ·have h1:=hB.trans (hw5.mono hB.size)
  refine ⟨hgr.os.trans h1.os,hgr.tape.trans h1.tape,hgr.output.trans h1.output,Nat.le_trans h1.size hgr.size,fun i hi=>(hgr.block i (by have:=h1.size;omega) fun e=>?_).trans (h1.block i hi)⟩
  have:=hg i e.symm
  omega
 ·refine (hgr.block _ (by have:=hw5.size;omega) fun e=>hX e.symm).trans ((hw5.block _ hs).trans hZ)
 ·have:=hw5.size;have:=hgr.size;omega
end Go.Proofs.YtkgbjoepjcenlaaDoor
