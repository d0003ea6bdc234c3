/- Joined texts. -/
import Derived.Test.YtkgbjoepjcenlaaDoorKAE
import Derived.Test.YtkgbjoepjcenlaaDoorKAC
set_option linter.unusedVariables false
set_option linter.unusedSimpArgs false
namespace Go.Proofs.YtkgbjoepjcenlaaDoor
open Go.RowKit
set_option maxHeartbeats 3200000 in
theorem normalR_any (m:Nat):∀ (t:Tm) (a:Option Addr) (n c:Nat) (w:World) (ok:Nat→Prop),t.size≤m→TR ok w t a n→t.size≤1000000→Tm.wf t=true→
 Calls Tryd.prog 38 #[.agg #[.int .i64 t.op,.int .i64 t.num,.slice a n c]] w (NPost (Tm.normal t) w):=by
 induction m with
 | zero=>intro t a n c w ok h;have:=t.size_pos;omega
 | succ m ih=>
   intro t a n c w ok hm hT hsz hwf
   have hs1:=t.size_kids
   have P1:Below w.heap.size w (((w.alloc (.cells #[.int .i64 t.op,.int .i64 t.num,.slice a n c] 28)).alloc (.cells #[.int .i64 0,.int .i64 0,.slice none 0 0] 28)).alloc (.cells #[.int .i64 t.op,.int .i64 t.num,.slice none 0 0] 28)):=((pure_alloc _ _).alloc (by simp) _).alloc (by simp;omega) _
   have N0:(((w.alloc (.cells #[.int .i64 t.op,.int .i64 t.num,.slice a n c] 28)).alloc (.cells #[.int .i64 0,.int .i64 0,.slice none 0 0] 28)).alloc (.cells #[.int .i64 t.op,.int .i64 t.num,.slice none 0 0] 28)).heap[w.heap.size]?=some (.cells #[.int .i64 t.op,.int .i64 t.num,.slice a n c] 28 (0,0)):=alloc_keep (alloc_keep (alloc_new _ _))
   have N1:(((w.alloc (.cells #[.int .i64 t.op,.int .i64 t.num,.slice a n c] 28)).alloc (.cells #[.int .i64 0,.int .i64 0,.slice none 0 0] 28)).alloc (.cells #[.int .i64 t.op,.int .i64 t.num,.slice none 0 0] 28)).heap[w.heap.size + 1]?=some (.cells #[.int .i64 0,.int .i64 0,.slice none 0 0] 28 (0,0)):=alloc_keep (alloc_new' _ _ _ (by simp))
   have N2:(((w.alloc (.cells #[.int .i64 t.op,.int .i64 t.num,.slice a n c] 28)).alloc (.cells #[.int .i64 0,.int .i64 0,.slice none 0 0] 28)).alloc (.cells #[.int .i64 t.op,.int .i64 t.num,.slice none 0 0] 28)).heap[w.heap.size + 1 + 1]?=some (.cells #[.int .i64 t.op,.int .i64 t.num,.slice none 0 0] 28 (0,0)):=alloc_new' _ _ _ (by simp)
   have hs2:(((w.alloc (.cells #[.int .i64 t.op,.int .i64 t.num,.slice a n c] 28)).alloc (.cells #[.int .i64 0,.int .i64 0,.slice none 0 0] 28)).alloc (.cells #[.int .i64 t.op,.int .i64 t.num,.slice none 0 0] 28)).heap.size=w.heap.size + 3:=by simp
   have HT:=Lib.hid (TR_iff.1 ((hT.imp (ok':=fun b=>b < w.heap.size) fun b _ hl=>hl).below P1))
   rw [TR_iff] at hT
   have hn:=hT.2.1
   have HLN:=Lib.hid hT.1
   have HIH:=Lib.hid ih
   have HSZ:Hid (Tm.sizes t.kids≤m∧Tm.sizes t.kids≤1000000):=by show _∧_;omega
   have HNK:Hid ((Tm.normal t).kids=Tm.swap t.op (Tm.normals t.kids)):=by show _=_;rw [t.normal_kids];rfl
   have HWF:=Lib.hid hwf
   clear hT ih hs1 hm hsz hwf
   go_enter Tryd.func38,Tryd.ntmps38
   go_wp2_with fail
   generalize (((w.alloc (.cells #[.int .i64 t.op,.int .i64 t.num,.slice a n c] 28)).alloc (.cells #[.int .i64 0,.int .i64 0,.slice none 0 0] 28)).alloc (.cells #[.int .i64 t.op,.int .i64 t.num,.slice none 0 0] 28))=w1 at *
   have HP1:=Lib.hid P1
   have HN0:=Lib.hid N0
   have HN1:=Lib.hid N1
   have HN2:=Lib.hid N2
   have HS1:=Lib.hid hs2
   clear P1 N0 N1 N2 hs2
   go_loopw [14] (fun i W=>∃ (j:Nat) (v:Value) (es:List Elem),i=.int .i64 j∧j≤n∧W.heap[w.heap.size + 1 + 1]?=some (.cells #[.int .i64 t.op,.int .i64 t.num,v] 28 (0,0))∧OutT W w1.heap.size w1.heap.size (w.heap.size + 1 + 1) v es (Tm.normals (t.kids.take j))∧But (w.heap.size + 1 + 1) w1 W) (fun i _=>n - (intOf i).toNat)
   case atStart=>exact ⟨0,_,[],rfl,by omega,HN2.out,OutT.nil _ _ _ _,But.refl _ _⟩
   case round=>
    obtain ⟨j,v,es,rfl,hj,hX,hO,hB⟩:=hrel
    have hXl:=lt_of_block hX
    have hw1:=HS1.out
    have hoX:v.ownBlock≠some (w.heap.size + 1 + 1):=fun e=>by have:=(own_lt hO.row e).2.1;omega
    by_cases hjn:j < n
    ·have hjl:j < t.kids.length:=by have:=HLN.out;omega
     obtain ⟨b,o,an,nn,cc,hea,hb,c0,c1,c2,ht⟩:=(hB.tl HT.out (ok':=fun b=>b < w.heap.size) fun b hb _=>⟨by omega,hb⟩).2.2 j hjl
     subst hea
     have PA:=pure_alloc wr (.cells #[.int .i64 t.kids[j].op,.int .i64 t.kids[j].num,.slice an nn cc] 28)
     have hk1:t.kids[j].size≤m:=Nat.le_trans (Tm.size_get hjl) HSZ.out.1
     have hk2:t.kids[j].size≤1000000:=Nat.le_trans (Tm.size_get hjl) HSZ.out.2
     have HCL:=Lib.hid (fun W (hW:Below (wr.alloc (.cells #[.int .i64 t.kids[j].op,.int .i64 t.kids[j].num,.slice an nn cc] 28)).heap.size (wr.alloc (.cells #[.int .i64 t.kids[j].op,.int .i64 t.kids[j].num,.slice an nn cc] 28)) W)=>HIH.out t.kids[j] an nn cc W (fun b=>b < w.heap.size) hk1 ((ht.below PA).below hW) hk2 (Tm.wf_kid HWF.out hjl))
     have HSN:=Lib.hid (Tm.normals_snoc hjl)
     have hlen:(Tm.normals (t.kids.take j)).length≤1000000:=by
      rw [Tm.normals_length]
      have h1:=Tm.length_le_sizes (t.kids.take j)
      have h2:=Tm.sizes_take_le t.kids j
      have h3:=HSZ.out.2
      omega
     have K0:=alloc_new wr (.cells #[.int .i64 t.kids[j].op,.int .i64 t.kids[j].num,.slice an nn cc] 28)
     have X0:=Below.keep PA hX hXl
     have O0:=hO.pure PA
     have B0:=hB.alloc (.cells #[.int .i64 t.kids[j].op,.int .i64 t.kids[j].num,.slice an nn cc] 28)
     have hoN:v.ownBlock≠some wr.heap.size:=fun e=>by have:=(own_lt hO.row e).1;omega
     have hoL:∀ g,v.ownBlock=some g→g < wr.heap.size:=fun g e=>(own_lt hO.row e).1
     have HOL:=Lib.hid hoL
     clear PA ht hk1 hk2 hX hO hB hoL
     generalize t.kids[j]=k at *
     have hlt:(j:Int) < n:=by omega
     go_upto_region 5 with fail
     have hsz1:(wr.alloc (.cells #[.int .i64 k.op,.int .i64 k.num,.slice an nn cc] 28)).heap.size=wr.heap.size + 1:=by simp
     generalize wr.alloc (.cells #[.int .i64 k.op,.int .i64 k.num,.slice an nn cc] 28)=w2 at *
     clear c0 c1 c2
     have HLE:=Lib.hid hlen
     have HZ1:=Lib.hid hsz1
     have hz1:wr.heap.size < w2.heap.size:=by omega
     have x2:=cell_of_arr X0 2
     simp at x2
     have k0:=cell_of_arr K0 0
     have k1:=cell_of_arr K0 1
     have k2:=cell_of_arr K0 2
     simp at k0 k1 k2
     have HK0:=Lib.hid K0
     have HX0:=Lib.hid X0
     have HO0:=Lib.hid O0
     have HB0:=Lib.hid B0
     clear K0 X0 O0 B0 hsz1 hlen
     have hX2:=lt_of_cell x2
     have hK2:=lt_of_cell k0
     refine wp_region_held_drew (S:=(fun W=>W.cell? ⟨wr.heap.size,0,none⟩=some (.int .i64 k.op)∧W.cell? ⟨wr.heap.size,1,none⟩=some (.int .i64 k.num)∧W.cell? ⟨wr.heap.size,2,none⟩=some (.slice an nn cc))) (by kernel_rfl) ⟨k0,k1,k2⟩ (fun hHeld=>?_)
     refine wpAnyH_take (i:=0) (v:=?_) rfl (by kernel_rfl) (by kernel_rfl) (by kernel_rfl) (fun _ _ _ h=>h) (Or.inl ⟨by rfl,?_⟩) hHeld ?_
     rotate_left
     ·(intro W hSw;(try dsimp only at hSw);go_simp;try with_reducible rfl)
     try simp only [Act.put,List.setIfInBounds_toArray,List.set_cons_zero,List.set_cons_succ,List.getElem_toArray,List.getElem_cons_succ,List.getElem_cons_zero]
     refine wpAnyH_take (i:=2) (v:=?_) rfl (by kernel_rfl) (by kernel_rfl) (by kernel_rfl) (fun _ _ _ h=>h) (Or.inl ⟨by rfl,?_⟩) hHeld ?_
     rotate_left
     ·(intro W hSw;(try dsimp only at hSw);go_simp;try with_reducible rfl)
     try simp only [Act.put,List.setIfInBounds_toArray,List.set_cons_zero,List.set_cons_succ,List.getElem_toArray,List.getElem_cons_succ,List.getElem_cons_zero]
     refine wpAnyH_ready (rs:=[1,3]) (by kernel_rfl) (by simp) ?_
     refine AllReadyH.cons rfl (fun K1 hK1=>?_) (AllReadyH.cons rfl (fun K1 hK1=>?_) AllReadyH.nil)
     ·go_simp
      refine hK1.out _ _ hHeld (fun hHeld=>?_)
      clear hK1
      try simp only [Act.put,List.setIfInBounds_toArray,List.set_cons_zero,List.set_cons_succ,List.getElem_toArray,List.getElem_cons_succ,List.getElem_cons_zero]
      refine wpAnyH_ready (rs:=[3]) (by kernel_rfl) (by simp) ?_
      refine AllReadyH.cons rfl (fun K1 hK1=>?_) AllReadyH.nil
      go_simp
      refine (HCL.out w2.drew (below_drewN (Below.refl _ _) 1)).mono ?_
      rintro e w5 ⟨ra,rn,rc,rfl,⟨hTR,hrc⟩,hw5⟩
      have hw5':Below w2.heap.size w2 w5:=(below_drewN (Below.refl _ _) 1:Below w2.heap.size w2 w2.drew).trans hw5
      have HTR:Hid (TR (fun b=>w2.heap.size≤b) w5 (Tm.normal k) ra rn):=hTR
      have x5:=(hw5'.cell (p:=⟨w.heap.size + 1 + 1,2,none⟩) hX2).trans x2
      have HW5:=Lib.hid hw5'
      clear hw5 hTR
      refine hK1.out _ _ ⟨(hw5'.cell (p:=⟨wr.heap.size,0,none⟩) hK2).trans k0,(hw5'.cell (p:=⟨wr.heap.size,1,none⟩) hK2).trans k1,(hw5'.cell (p:=⟨wr.heap.size,2,none⟩) hK2).trans k2⟩ (fun hHeld=>?_)
      clear hK1
      try simp only [Act.put,List.setIfInBounds_toArray,List.set_cons_zero,List.set_cons_succ,List.getElem_toArray,List.getElem_cons_succ,List.getElem_cons_zero]
      clear hw5'
      refine wpAnyH_ready (rs:=[4]) (by kernel_rfl) (by simp) ?_
      refine AllReadyH.cons rfl (fun K1 hK1=>?_) AllReadyH.nil
      go_simp
      have PB:=pure_alloc w5 (.cells #[.int .i64 (Tm.normal k).op,.int .i64 (Tm.normal k).num,.slice ra rn rc] 28)
      have HNB:=Lib.hid (alloc_new w5 (.cells #[.int .i64 (Tm.normal k).op,.int .i64 (Tm.normal k).num,.slice ra rn rc] 28))
      have PW:Below w2.heap.size w2 (w5.alloc (.cells #[.int .i64 (Tm.normal k).op,.int .i64 (Tm.normal k).num,.slice ra rn rc] 28)):=pure_trans HW5.out PB
      have x6:=(PW.cell (p:=⟨w.heap.size + 1 + 1,2,none⟩) hX2).trans x2
      have HTB:=Lib.hid (HTR.out.below PB)
      have hab:w5.heap.size < (w5.alloc (.cells #[.int .i64 (Tm.normal k).op,.int .i64 (Tm.normal k).num,.slice ra rn rc] 28)).heap.size:=by simp
      have hw25:=HW5.out.size
      refine hK1.out _ _ ⟨(PW.cell (p:=⟨wr.heap.size,0,none⟩) hK2).trans k0,(PW.cell (p:=⟨wr.heap.size,1,none⟩) hK2).trans k1,(PW.cell (p:=⟨wr.heap.size,2,none⟩) hK2).trans k2⟩ (fun hHeld=>?_)
      clear hK1
      try simp only [Act.put,List.setIfInBounds_toArray,List.set_cons_zero,List.set_cons_succ,List.getElem_toArray,List.getElem_cons_succ,List.getElem_cons_zero]
      have HPW:=Lib.hid PW
      clear PB PW
      generalize w5.alloc (.cells #[.int .i64 (Tm.normal k).op,.int .i64 (Tm.normal k).num,.slice ra rn rc] 28)=w6 at *
      refine wpAnyH_ready (rs:=[5]) (by kernel_rfl) (by simp) ?_
      refine AllReadyH.cons rfl (fun K1 hK1=>?_) AllReadyH.nil
      have O6:=HO0.out.pure HPW.out
      obtain ⟨v',w7,hrun,hO7,hgr,hob,hoX'⟩:=O6.push (c:=1) (e:=⟨(Tm.normal k).op,(Tm.normal k).num,ra,rn,rc⟩) (t:=Tm.normal k) HNB.out rfl rfl hrc (HTB.out.imp fun b hb _=>⟨by have h1:=HB0.out.size;have h2:w2.heap.size≤b:=hb;omega,by have h2:w2.heap.size≤b:=hb;omega,fun e=>by have h1:=HOL.out b e;have h2:w2.heap.size≤b:=hb;omega⟩) HLE.out (by have h1:=HB0.out.size;omega) hoX (by omega)
      obtain ⟨va,vn,vc,hv'⟩:∃ va vn vc,v'=Value.slice va vn vc:=by
       obtain ⟨a,c,h⟩:=own_form hO7.row
       exact ⟨a,_,c,h⟩
      subst hv'
      have X7:w7.heap[w.heap.size + 1 + 1]?=some (.cells #[.int .i64 t.op,.int .i64 t.num,v] 28 (0,0)):=(hgr.block _ (by omega) (fun e=>hoX e.symm)).trans (Below.keep HPW.out HX0.out hX2)
      have y2:=cell_of_arr X7 2
      have y2f:=frozen_of_arr X7 2
      simp at y2
      have K7:w7.heap[wr.heap.size]?=some (.cells #[.int .i64 k.op,.int .i64 k.num,.slice an nn cc] 28 (0,0)):=(hgr.block _ (by omega) (fun e=>hoN e.symm)).trans (Below.keep HPW.out HK0.out hK2)
      have m0:=cell_of_arr K7 0
      have m1:=cell_of_arr K7 1
      have m2:=cell_of_arr K7 2
      simp at m0 m1 m2
      have HB7:=Lib.hid ((HB0.out.trans (But.of_below HPW.out)).grown O6.row hgr)
      have HX7:=Lib.hid X7
      have HO7:=Lib.hid hO7
      clear O6 hO7 X7 K7 hob hgr
      rw [if_pos (by rfl)]
      refine wp_app _ _ 23 rfl rfl rfl hrun ?_
      refine hK1.out _ _ ⟨m0,m1,m2⟩ (fun hHeld=>?_)
      clear hK1
      try simp only [Act.put,List.setIfInBounds_toArray,List.set_cons_zero,List.set_cons_succ,List.getElem_toArray,List.getElem_cons_succ,List.getElem_cons_zero]
      clear hrun
      refine wpAnyH_take (i:=6) (v:=?_) rfl (by kernel_rfl) (by kernel_rfl) (by kernel_rfl) (fun _ _ _ h=>h) (Or.inl ⟨by rfl,?_⟩) hHeld ?_
      rotate_left
      ·(intro W hSw;(try dsimp only at hSw);go_simp;try with_reducible rfl)
      try simp only [Act.put,List.setIfInBounds_toArray,List.set_cons_zero,List.set_cons_succ,List.getElem_toArray,List.getElem_cons_succ,List.getElem_cons_zero]
      refine wpAnyH_ready (rs:=[7]) (by kernel_rfl) (by simp) ?_
      refine AllReadyH.cons rfl (fun K1 hK1=>?_) AllReadyH.nil
      have hne:w.heap.size + 1 + 1≠wr.heap.size:=by omega
      go_simp
      refine hK1.out _ _ ⟨by simpa [World.cell?_setCell_far,hne] using m0,by simpa [World.cell?_setCell_far,hne] using m1,by simpa [World.cell?_setCell_far,hne] using m2⟩ (fun hHeld=>?_)
      clear hK1
      try simp only [Act.put,List.setIfInBounds_toArray,List.set_cons_zero,List.set_cons_succ,List.getElem_toArray,List.getElem_cons_succ,List.getElem_cons_zero]
      refine wpAnyH_done (by kernel_rfl) ?_ _
      try simp only [Act.put,List.setIfInBounds_toArray,List.set_cons_zero,List.set_cons_succ,List.getElem_toArray,List.getElem_cons_succ,List.getElem_cons_zero]
      have HXE:=Lib.hid (store_var HX7.out (.slice va vn vc))
      have HBE:=Lib.hid (HB7.out.setCell (p:=⟨w.heap.size + 1 + 1,2,none⟩) rfl (.slice va vn vc))
      have HOE:=Lib.hid (HO7.out.var (W':=w7.setCell ⟨w.heap.size + 1 + 1,2,none⟩ (.slice va vn vc)) (fun b hb _=>Below.heap_setCell _ _ _ _ hb) hoX')
      clear hHeld m0 m1 m2 y2 y2f x2 x5 x6 k0 k1 k2
      generalize w7.setCell ⟨w.heap.size + 1 + 1,2,none⟩ (.slice va vn vc)=w8 at *
      go_wp2_with fail
      go_roundw
      case rel=>exact ⟨j + 1,(.slice va vn vc),_,by go_num,by omega,HXE.out,by rw [HSN.out];exact HOE.out,HBE.out⟩
      case measure=>simp [intOf];omega
     ·go_simp
      refine (HCL.out w2.drew (below_drewN (Below.refl _ _) 1)).mono ?_
      rintro e w5 ⟨ra,rn,rc,rfl,⟨hTR,hrc⟩,hw5⟩
      have hw5':Below w2.heap.size w2 w5:=(below_drewN (Below.refl _ _) 1:Below w2.heap.size w2 w2.drew).trans hw5
      have HTR:Hid (TR (fun b=>w2.heap.size≤b) w5 (Tm.normal k) ra rn):=hTR
      have x5:=(hw5'.cell (p:=⟨w.heap.size + 1 + 1,2,none⟩) hX2).trans x2
      have HW5:=Lib.hid hw5'
      clear hw5 hTR
      refine hK1.out _ _ ⟨(hw5'.cell (p:=⟨wr.heap.size,0,none⟩) hK2).trans k0,(hw5'.cell (p:=⟨wr.heap.size,1,none⟩) hK2).trans k1,(hw5'.cell (p:=⟨wr.heap.size,2,none⟩) hK2).trans k2⟩ (fun hHeld=>?_)
      clear hK1
      try simp only [Act.put,List.setIfInBounds_toArray,List.set_cons_zero,List.set_cons_succ,List.getElem_toArray,List.getElem_cons_succ,List.getElem_cons_zero]
      clear hw5'
      refine wpAnyH_ready (rs:=[1,4]) (by kernel_rfl) (by simp) ?_
      refine AllReadyH.cons rfl (fun K1 hK1=>?_) (AllReadyH.cons rfl (fun K1 hK1=>?_) AllReadyH.nil)
      ·go_simp
       refine hK1.out _ _ hHeld (fun hHeld=>?_)
       clear hK1
       try simp only [Act.put,List.setIfInBounds_toArray,List.set_cons_zero,List.set_cons_succ,List.getElem_toArray,List.getElem_cons_succ,List.getElem_cons_zero]
       refine wpAnyH_ready (rs:=[4]) (by kernel_rfl) (by simp) ?_
       refine AllReadyH.cons rfl (fun K1 hK1=>?_) AllReadyH.nil
       go_simp
       have PB:=pure_alloc w5 (.cells #[.int .i64 (Tm.normal k).op,.int .i64 (Tm.normal k).num,.slice ra rn rc] 28)
       have HNB:=Lib.hid (alloc_new w5 (.cells #[.int .i64 (Tm.normal k).op,.int .i64 (Tm.normal k).num,.slice ra rn rc] 28))
       have PW:Below w2.heap.size w2 (w5.alloc (.cells #[.int .i64 (Tm.normal k).op,.int .i64 (Tm.normal k).num,.slice ra rn rc] 28)):=pure_trans HW5.out PB
       have x6:=(PW.cell (p:=⟨w.heap.size + 1 + 1,2,none⟩) hX2).trans x2
       have HTB:=Lib.hid (HTR.out.below PB)
       have hab:w5.heap.size < (w5.alloc (.cells #[.int .i64 (Tm.normal k).op,.int .i64 (Tm.normal k).num,.slice ra rn rc] 28)).heap.size:=by simp
       have hw25:=HW5.out.size
       refine hK1.out _ _ ⟨(PW.cell (p:=⟨wr.heap.size,0,none⟩) hK2).trans k0,(PW.cell (p:=⟨wr.heap.size,1,none⟩) hK2).trans k1,(PW.cell (p:=⟨wr.heap.size,2,none⟩) hK2).trans k2⟩ (fun hHeld=>?_)
       clear hK1
       try simp only [Act.put,List.setIfInBounds_toArray,List.set_cons_zero,List.set_cons_succ,List.getElem_toArray,List.getElem_cons_succ,List.getElem_cons_zero]
       have HPW:=Lib.hid PW
       clear PB PW
       generalize w5.alloc (.cells #[.int .i64 (Tm.normal k).op,.int .i64 (Tm.normal k).num,.slice ra rn rc] 28)=w6 at *
       refine wpAnyH_ready (rs:=[5]) (by kernel_rfl) (by simp) ?_
       refine AllReadyH.cons rfl (fun K1 hK1=>?_) AllReadyH.nil
       have O6:=HO0.out.pure HPW.out
       obtain ⟨v',w7,hrun,hO7,hgr,hob,hoX'⟩:=O6.push (c:=1) (e:=⟨(Tm.normal k).op,(Tm.normal k).num,ra,rn,rc⟩) (t:=Tm.normal k) HNB.out rfl rfl hrc (HTB.out.imp fun b hb _=>⟨by have h1:=HB0.out.size;have h2:w2.heap.size≤b:=hb;omega,by have h2:w2.heap.size≤b:=hb;omega,fun e=>by have h1:=HOL.out b e;have h2:w2.heap.size≤b:=hb;omega⟩) HLE.out (by have h1:=HB0.out.size;omega) hoX (by omega)
       obtain ⟨va,vn,vc,hv'⟩:∃ va vn vc,v'=Value.slice va vn vc:=by
        obtain ⟨a,c,h⟩:=own_form hO7.row
        exact ⟨a,_,c,h⟩
       subst hv'
       have X7:w7.heap[w.heap.size + 1 + 1]?=some (.cells #[.int .i64 t.op,.int .i64 t.num,v] 28 (0,0)):=(hgr.block _ (by omega) (fun e=>hoX e.symm)).trans (Below.keep HPW.out HX0.out hX2)
       have y2:=cell_of_arr X7 2
       have y2f:=frozen_of_arr X7 2
       simp at y2
       have K7:w7.heap[wr.heap.size]?=some (.cells #[.int .i64 k.op,.int .i64 k.num,.slice an nn cc] 28 (0,0)):=(hgr.block _ (by omega) (fun e=>hoN e.symm)).trans (Below.keep HPW.out HK0.out hK2)
       have m0:=cell_of_arr K7 0
       have m1:=cell_of_arr K7 1
       have m2:=cell_of_arr K7 2
       simp at m0 m1 m2
       have HB7:=Lib.hid ((HB0.out.trans (But.of_below HPW.out)).grown O6.row hgr)
       have HX7:=Lib.hid X7
       have HO7:=Lib.hid hO7
       clear O6 hO7 X7 K7 hob hgr
       rw [if_pos (by rfl)]
       refine wp_app _ _ 23 rfl rfl rfl hrun ?_
       refine hK1.out _ _ ⟨m0,m1,m2⟩ (fun hHeld=>?_)
       clear hK1
       try simp only [Act.put,List.setIfInBounds_toArray,List.set_cons_zero,List.set_cons_succ,List.getElem_toArray,List.getElem_cons_succ,List.getElem_cons_zero]
       clear hrun
       refine wpAnyH_take (i:=6) (v:=?_) rfl (by kernel_rfl) (by kernel_rfl) (by kernel_rfl) (fun _ _ _ h=>h) (Or.inl ⟨by rfl,?_⟩) hHeld ?_
       rotate_left
       ·(intro W hSw;(try dsimp only at hSw);go_simp;try with_reducible rfl)
       try simp only [Act.put,List.setIfInBounds_toArray,List.set_cons_zero,List.set_cons_succ,List.getElem_toArray,List.getElem_cons_succ,List.getElem_cons_zero]
       refine wpAnyH_ready (rs:=[7]) (by kernel_rfl) (by simp) ?_
       refine AllReadyH.cons rfl (fun K1 hK1=>?_) AllReadyH.nil
       have hne:w.heap.size + 1 + 1≠wr.heap.size:=by omega
       go_simp
       refine hK1.out _ _ ⟨by simpa [World.cell?_setCell_far,hne] using m0,by simpa [World.cell?_setCell_far,hne] using m1,by simpa [World.cell?_setCell_far,hne] using m2⟩ (fun hHeld=>?_)
       clear hK1
       try simp only [Act.put,List.setIfInBounds_toArray,List.set_cons_zero,List.set_cons_succ,List.getElem_toArray,List.getElem_cons_succ,List.getElem_cons_zero]
       refine wpAnyH_done (by kernel_rfl) ?_ _
       try simp only [Act.put,List.setIfInBounds_toArray,List.set_cons_zero,List.set_cons_succ,List.getElem_toArray,List.getElem_cons_succ,List.getElem_cons_zero]
       have HXE:=Lib.hid (store_var HX7.out (.slice va vn vc))
       have HBE:=Lib.hid (HB7.out.setCell (p:=⟨w.heap.size + 1 + 1,2,none⟩) rfl (.slice va vn vc))
       have HOE:=Lib.hid (HO7.out.var (W':=w7.setCell ⟨w.heap.size + 1 + 1,2,none⟩ (.slice va vn vc)) (fun b hb _=>Below.heap_setCell _ _ _ _ hb) hoX')
       clear hHeld m0 m1 m2 y2 y2f x2 x5 x6 k0 k1 k2
       generalize w7.setCell ⟨w.heap.size + 1 + 1,2,none⟩ (.slice va vn vc)=w8 at *
       go_wp2_with fail
       go_roundw
       case rel=>exact ⟨j + 1,(.slice va vn vc),_,by go_num,by omega,HXE.out,by rw [HSN.out];exact HOE.out,HBE.out⟩
       case measure=>simp [intOf];omega
      ·go_simp
       have PB:=pure_alloc w5 (.cells #[.int .i64 (Tm.normal k).op,.int .i64 (Tm.normal k).num,.slice ra rn rc] 28)
       have HNB:=Lib.hid (alloc_new w5 (.cells #[.int .i64 (Tm.normal k).op,.int .i64 (Tm.normal k).num,.slice ra rn rc] 28))
       have PW:Below w2.heap.size w2 (w5.alloc (.cells #[.int .i64 (Tm.normal k).op,.int .i64 (Tm.normal k).num,.slice ra rn rc] 28)):=pure_trans HW5.out PB
       have x6:=(PW.cell (p:=⟨w.heap.size + 1 + 1,2,none⟩) hX2).trans x2
       have HTB:=Lib.hid (HTR.out.below PB)
       have hab:w5.heap.size < (w5.alloc (.cells #[.int .i64 (Tm.normal k).op,.int .i64 (Tm.normal k).num,.slice ra rn rc] 28)).heap.size:=by simp
       have hw25:=HW5.out.size
       refine hK1.out _ _ ⟨(PW.cell (p:=⟨wr.heap.size,0,none⟩) hK2).trans k0,(PW.cell (p:=⟨wr.heap.size,1,none⟩) hK2).trans k1,(PW.cell (p:=⟨wr.heap.size,2,none⟩) hK2).trans k2⟩ (fun hHeld=>?_)
       clear hK1
       try simp only [Act.put,List.setIfInBounds_toArray,List.set_cons_zero,List.set_cons_succ,List.getElem_toArray,List.getElem_cons_succ,List.getElem_cons_zero]
       have HPW:=Lib.hid PW
       clear PB PW
       generalize w5.alloc (.cells #[.int .i64 (Tm.normal k).op,.int .i64 (Tm.normal k).num,.slice ra rn rc] 28)=w6 at *
       refine wpAnyH_ready (rs:=[1]) (by kernel_rfl) (by simp) ?_
       refine AllReadyH.cons rfl (fun K1 hK1=>?_) AllReadyH.nil
       go_simp
       refine hK1.out _ _ hHeld (fun hHeld=>?_)
       clear hK1
       try simp only [Act.put,List.setIfInBounds_toArray,List.set_cons_zero,List.set_cons_succ,List.getElem_toArray,List.getElem_cons_succ,List.getElem_cons_zero]
       refine wpAnyH_ready (rs:=[5]) (by kernel_rfl) (by simp) ?_
       refine AllReadyH.cons rfl (fun K1 hK1=>?_) AllReadyH.nil
       have O6:=HO0.out.pure HPW.out
       obtain ⟨v',w7,hrun,hO7,hgr,hob,hoX'⟩:=O6.push (c:=1) (e:=⟨(Tm.normal k).op,(Tm.normal k).num,ra,rn,rc⟩) (t:=Tm.normal k) HNB.out rfl rfl hrc (HTB.out.imp fun b hb _=>⟨by have h1:=HB0.out.size;have h2:w2.heap.size≤b:=hb;omega,by have h2:w2.heap.size≤b:=hb;omega,fun e=>by have h1:=HOL.out b e;have h2:w2.heap.size≤b:=hb;omega⟩) HLE.out (by have h1:=HB0.out.size;omega) hoX (by omega)
       obtain ⟨va,vn,vc,hv'⟩:∃ va vn vc,v'=Value.slice va vn vc:=by
        obtain ⟨a,c,h⟩:=own_form hO7.row
        exact ⟨a,_,c,h⟩
       subst hv'
       have X7:w7.heap[w.heap.size + 1 + 1]?=some (.cells #[.int .i64 t.op,.int .i64 t.num,v] 28 (0,0)):=(hgr.block _ (by omega) (fun e=>hoX e.symm)).trans (Below.keep HPW.out HX0.out hX2)
       have y2:=cell_of_arr X7 2
       have y2f:=frozen_of_arr X7 2
       simp at y2
       have K7:w7.heap[wr.heap.size]?=some (.cells #[.int .i64 k.op,.int .i64 k.num,.slice an nn cc] 28 (0,0)):=(hgr.block _ (by omega) (fun e=>hoN e.symm)).trans (Below.keep HPW.out HK0.out hK2)
       have m0:=cell_of_arr K7 0
       have m1:=cell_of_arr K7 1
       have m2:=cell_of_arr K7 2
       simp at m0 m1 m2
       have HB7:=Lib.hid ((HB0.out.trans (But.of_below HPW.out)).grown O6.row hgr)
       have HX7:=Lib.hid X7
       have HO7:=Lib.hid hO7
       clear O6 hO7 X7 K7 hob hgr
       rw [if_pos (by rfl)]
       refine wp_app _ _ 23 rfl rfl rfl hrun ?_
       refine hK1.out _ _ ⟨m0,m1,m2⟩ (fun hHeld=>?_)
       clear hK1
       try simp only [Act.put,List.setIfInBounds_toArray,List.set_cons_zero,List.set_cons_succ,List.getElem_toArray,List.getElem_cons_succ,List.getElem_cons_zero]
       clear hrun
       refine wpAnyH_take (i:=6) (v:=?_) rfl (by kernel_rfl) (by kernel_rfl) (by kernel_rfl) (fun _ _ _ h=>h) (Or.inl ⟨by rfl,?_⟩) hHeld ?_
       rotate_left
       ·(intro W hSw;(try dsimp only at hSw);go_simp;try with_reducible rfl)
       try simp only [Act.put,List.setIfInBounds_toArray,List.set_cons_zero,List.set_cons_succ,List.getElem_toArray,List.getElem_cons_succ,List.getElem_cons_zero]
       refine wpAnyH_ready (rs:=[7]) (by kernel_rfl) (by simp) ?_
       refine AllReadyH.cons rfl (fun K1 hK1=>?_) AllReadyH.nil
       have hne:w.heap.size + 1 + 1≠wr.heap.size:=by omega
       go_simp
       refine hK1.out _ _ ⟨by simpa [World.cell?_setCell_far,hne] using m0,by simpa [World.cell?_setCell_far,hne] using m1,by simpa [World.cell?_setCell_far,hne] using m2⟩ (fun hHeld=>?_)
       clear hK1
       try simp only [Act.put,List.setIfInBounds_toArray,List.set_cons_zero,List.set_cons_succ,List.getElem_toArray,List.getElem_cons_succ,List.getElem_cons_zero]
       refine wpAnyH_done (by kernel_rfl) ?_ _
       try simp only [Act.put,List.setIfInBounds_toArray,List.set_cons_zero,List.set_cons_succ,List.getElem_toArray,List.getElem_cons_succ,List.getElem_cons_zero]
       have HXE:=Lib.hid (store_var HX7.out (.slice va vn vc))
       have HBE:=Lib.hid (HB7.out.setCell (p:=⟨w.heap.size + 1 + 1,2,none⟩) rfl (.slice va vn vc))
       have HOE:=Lib.hid (HO7.out.var (W':=w7.setCell ⟨w.heap.size + 1 + 1,2,none⟩ (.slice va vn vc)) (fun b hb _=>Below.heap_setCell _ _ _ _ hb) hoX')
       clear hHeld m0 m1 m2 y2 y2f x2 x5 x6 k0 k1 k2
       generalize w7.setCell ⟨w.heap.size + 1 + 1,2,none⟩ (.slice va vn vc)=w8 at *
       go_wp2_with fail
       go_roundw
       case rel=>exact ⟨j + 1,(.slice va vn vc),_,by go_num,by omega,HXE.out,by rw [HSN.out];exact HOE.out,HBE.out⟩
       case measure=>simp [intOf];omega
    ·have hjn':¬ ((j:Int) < n):=by omega
     have htk:t.kids.take j=t.kids:=List.take_of_length_le (by have:=HLN.out;omega)
     rw [htk] at hO
     clear htk
     have hnl:(Tm.normals t.kids).length≤1000000:=by
      rw [Tm.normals_length]
      have h1:=Tm.length_le_sizes t.kids
      have h3:=HSZ.out.2
      omega
     have N0:=(hB.block (w.heap.size) (by omega) (by omega)).trans HN0.out
     have N1:=(hB.block (w.heap.size + 1) (by omega) (by omega)).trans HN1.out
     have HBW:=Lib.hid (HP1.out.trans (hB.below (B:=w.heap.size) (by omega) (by omega)))
     have z0:=cell_of_arr N0 0
     have z1:=cell_of_arr N0 1
     have z2:=cell_of_arr N0 2
     simp at z0 z1 z2
     have HO:=Lib.hid hO
     have HX:=Lib.hid hX
     have HR:=Lib.hid N1
     have hnn:(Tm.normals t.kids).length=n:=by rw [Tm.normals_length];exact HLN.out.symm
     have HNN:=Lib.hid hnn
     clear hX hO hB N0 N1 hnn
     by_cases h7:t.op=7
     rotate_left
     ·have h7b:(t.op==7)=false:=by simpa using h7
      have HNE:Hid ((Tm.normal t).kids=Tm.normals t.kids):=by show _=_;rw [HNK.out,swap_no (.inl h7)]
      clear h7
      obtain ⟨a',c',hv,hTL,hcap⟩:=HO.out.tl (Nat.le_refl _) hnl
      subst hv
      have HTL:Hid (TL (fun b=>w1.heap.size≤b) wr (Tm.normal t).kids a' (Tm.normals t.kids).length):=by
       show TL _ _ _ _ _
       rw [HNE.out];exact hTL
      clear hTL
      generalize (Tm.normals t.kids).length=nl at *
      have x2:=cell_of_arr HX.out 2
      simp at x2
      go_upto_region 7 with fail
      go_quiet (fail)
      have HTL9:Hid (TL (fun b=>w1.heap.size≤b) (wr.drewN nq) (Tm.normal t).kids a' nl):=HTL.out.keep fun b hb _=>⟨rfl,hb⟩
      have HBW9:=Lib.hid (below_drewN HBW.out nq)
      have X3:(wr.drewN nq).heap[w.heap.size + 1 + 1]?=some (.cells #[.int .i64 t.op,.int .i64 t.num,.slice a' nl c'] 28 (0,0)):=HX.out
      have R3:(wr.drewN nq).heap[w.heap.size + 1]?=some (.cells #[.int .i64 0,.int .i64 0,.slice none 0 0] 28 (0,0)):=HR.out
      clear x2 z0 z1 z2
      generalize wr.drewN nq=w9 at *
      have x0:=cell_of_arr X3 0
      have x1:=cell_of_arr X3 1
      have x2:=cell_of_arr X3 2
      simp at x0 x1 x2
      have r0:=cell_of_arr R3 0
      have r1:=cell_of_arr R3 1
      have r2:=cell_of_arr R3 2
      simp at r0 r1 r2
      have f0:=frozen_of_arr R3 0
      have f1:=frozen_of_arr R3 1
      have f2:=frozen_of_arr R3 2
      have HR3:=Lib.hid R3
      clear X3 R3
      go_wp2_with fail
      obtain ⟨S1,S2,S3⟩:=put3 HR3.out (.int .i64 t.op) (.int .i64 t.num) (.slice a' nl c') _ rfl
      have p0:=cell_of_arr S1 0
      have p1:=cell_of_arr S1 1
      have p2:=cell_of_arr S1 2
      simp at p0 p1 p2
      refine bodyPost_ret (v:=.agg #[.int .i64 t.op,.int .i64 t.num,(.slice a' nl c')]) (by simp [results,Tryd.results38,go_sem,p0,p1,p2]) rfl ?_
      refine ⟨_,_,_,by rw [Tm.normal_op,Tm.normal_num],⟨TR_iff.2 ((HTL9.out).keep fun b hb _=>⟨S2 b (by have h2:w1.heap.size≤b:=hb;omega),by have h2:w1.heap.size≤b:=hb;show w.heap.size≤b;omega⟩),hcap⟩,S3 _ _ (by omega) HBW9.out⟩
     have hn2:n=2:=by
      have h1:=Tm.okN_len (Tm.wf_kids HWF.out).1
      rw [h7,← HLN.out] at h1
      have h2:Tm.arity 7=2:=rfl
      omega
     obtain ⟨x,y,hxy⟩:∃ x y,Tm.normals t.kids=[x,y]:=two_of_length (by have h1:=HNN.out;omega)
     have HO1:=HO.out
     have HNK1:Hid ((Tm.normal t).kids=if 0 < Tm.compare x y then [y,x] else [x,y]):=by show _=_;rw [HNK.out,hxy,swap_two h7]
     rw [hxy] at HO1
     obtain ⟨e0,e1,hes⟩:∃ e0 e1,es=[e0,e1]:=two_of_length HO1.len
     subst hes
     obtain ⟨g,cap,hv,⟨hbg,hcap⟩,⟨cur,hcur⟩,hc⟩:=HO1.get (by simp)
     obtain ⟨g0,g1,g2,tx,hc0⟩:=hc 0 (by simp) (by simp)
     obtain ⟨g3,g4,g5,ty,hc1⟩:=hc 1 (by simp) (by simp)
     have hcap:2≤cap:=hcap
     simp only [List.length_cons,List.length_nil] at hv
     have h11:(0 + 1 + 1:Nat)=2:=rfl
     rw [h11] at hv
     simp at g0 g1 g2 g3 g4 g5 tx ty hc0 hc1
     subst hv
     have HTX:=Lib.hid tx
     have HTY:=Lib.hid ty
     have HCUR:=Lib.hid hcur
     have hgX:g≠w.heap.size + 1 + 1:=by omega
     have x2:=cell_of_arr HX.out 2
     simp at x2
     clear hc tx ty hcur HO HO1 hxy HNN hnl HNK h11
     have hlt2:((2:Nat):Int)=2:=rfl
     have h7b:(t.op==7)=true:=by simpa using h7
     clear h7 hn2
     go_upto_region 7 with fail
     refine wp_region_held_drew (S:=(fun W=>W.cell? ⟨w.heap.size,0,none⟩=some (.int .i64 t.op)∧W.cell? ⟨w.heap.size + 1 + 1,2,none⟩=some (.slice (some ⟨g,0,none⟩) 2 cap)∧(W.cell? ⟨g,0,none⟩=some (.int .i64 x.op)∧W.cell? ⟨g,1,none⟩=some (.int .i64 x.num)∧W.cell? ⟨g,2,none⟩=some (.slice e0.an e0.nn e0.cc))∧W.cell? ⟨g,3,none⟩=some (.int .i64 y.op)∧W.cell? ⟨g,4,none⟩=some (.int .i64 y.num)∧W.cell? ⟨g,5,none⟩=some (.slice e1.an e1.nn e1.cc))) (by kernel_rfl) ⟨z0,x2,⟨g0,g1,g2⟩,g3,g4,g5⟩ (fun hHeld=>?_)
     refine wpAnyH_take (i:=0) (v:=?_) rfl (by kernel_rfl) (by kernel_rfl) (by kernel_rfl) (fun _ _ _ h=>h) (Or.inl ⟨by rfl,?_⟩) hHeld ?_
     rotate_left
     ·(intro W hSw;(try dsimp only at hSw);go_simp;try with_reducible rfl)
     try simp only [Act.put,List.setIfInBounds_toArray,List.set_cons_zero,List.set_cons_succ,List.getElem_toArray,List.getElem_cons_succ,List.getElem_cons_zero]
     refine wpAnyH_take (i:=1) (v:=?_) rfl (by kernel_rfl) (by kernel_rfl) (by kernel_rfl) (fun _ _ _ h=>h) (Or.inl ⟨by rfl,?_⟩) hHeld ?_
     rotate_left
     ·(intro W hSw;(try dsimp only at hSw);go_simp;try with_reducible rfl)
     try simp only [Act.put,List.setIfInBounds_toArray,List.set_cons_zero,List.set_cons_succ,List.getElem_toArray,List.getElem_cons_succ,List.getElem_cons_zero]
     refine wpAnyH_take (i:=2) (v:=?_) rfl (by kernel_rfl) (by kernel_rfl) (by kernel_rfl) (fun _ _ _ h=>h) (Or.inl ⟨by rfl,?_⟩) hHeld ?_
     rotate_left
     ·(intro W hSw;(try dsimp only at hSw);go_simp;try with_reducible rfl)
     try simp only [Act.put,List.setIfInBounds_toArray,List.set_cons_zero,List.set_cons_succ,List.getElem_toArray,List.getElem_cons_succ,List.getElem_cons_zero]
     refine wpAnyH_take (i:=3) (v:=?_) rfl (by kernel_rfl) (by kernel_rfl) (by kernel_rfl) (fun _ _ _ h=>h) (Or.inl ⟨by rfl,?_⟩) hHeld ?_
     rotate_left
     ·(intro W hSw;(try dsimp only at hSw);go_simp;try with_reducible rfl)
     try simp only [Act.put,List.setIfInBounds_toArray,List.set_cons_zero,List.set_cons_succ,List.getElem_toArray,List.getElem_cons_succ,List.getElem_cons_zero]
     refine wpAnyH_take (i:=4) (v:=?_) rfl (by kernel_rfl) (by kernel_rfl) (by kernel_rfl) (fun _ _ _ h=>h) (Or.inl ⟨by rfl,?_⟩) hHeld ?_
     rotate_left
     ·(intro W hSw;(try dsimp only at hSw);go_simp;try with_reducible rfl)
     try simp only [Act.put,List.setIfInBounds_toArray,List.set_cons_zero,List.set_cons_succ,List.getElem_toArray,List.getElem_cons_succ,List.getElem_cons_zero]
     refine wpAnyH_take (i:=5) (v:=?_) rfl (by kernel_rfl) (by kernel_rfl) (by kernel_rfl) (fun _ _ _ h=>h) (Or.inl ⟨by rfl,?_⟩) hHeld ?_
     rotate_left
     ·(intro W hSw;(try dsimp only at hSw);go_simp;try with_reducible rfl)
     try simp only [Act.put,List.setIfInBounds_toArray,List.set_cons_zero,List.set_cons_succ,List.getElem_toArray,List.getElem_cons_succ,List.getElem_cons_zero]
     refine wpAnyH_take (i:=6) (v:=?_) rfl (by kernel_rfl) (by kernel_rfl) (by kernel_rfl) (fun _ _ _ h=>h) (Or.inl ⟨by rfl,?_⟩) hHeld ?_
     rotate_left
     ·(intro W hSw;(try dsimp only at hSw);go_simp;try with_reducible rfl)
     try simp only [Act.put,List.setIfInBounds_toArray,List.set_cons_zero,List.set_cons_succ,List.getElem_toArray,List.getElem_cons_succ,List.getElem_cons_zero]
     refine wpAnyH_take (i:=7) (v:=?_) rfl (by kernel_rfl) (by kernel_rfl) (by kernel_rfl) (fun _ _ _ h=>h) (Or.inl ⟨by rfl,?_⟩) hHeld ?_
     rotate_left
     ·(intro W hSw;(try dsimp only at hSw);go_simp;try with_reducible rfl)
     try simp only [Act.put,List.setIfInBounds_toArray,List.set_cons_zero,List.set_cons_succ,List.getElem_toArray,List.getElem_cons_succ,List.getElem_cons_zero]
     refine wpAnyH_take (i:=8) (v:=?_) rfl (by kernel_rfl) (by kernel_rfl) (by kernel_rfl) (fun _ _ _ h=>h) (Or.inl ⟨by rfl,?_⟩) hHeld ?_
     rotate_left
     ·(intro W hSw;(try dsimp only at hSw);go_simp;try with_reducible rfl)
     try simp only [Act.put,List.setIfInBounds_toArray,List.set_cons_zero,List.set_cons_succ,List.getElem_toArray,List.getElem_cons_succ,List.getElem_cons_zero]
     refine wpAnyH_take (i:=9) (v:=?_) rfl (by kernel_rfl) (by kernel_rfl) (by kernel_rfl) (fun _ _ _ h=>h) (Or.inl ⟨by rfl,?_⟩) hHeld ?_
     rotate_left
     ·(intro W hSw;(try dsimp only at hSw);go_simp;try with_reducible rfl)
     try simp only [Act.put,List.setIfInBounds_toArray,List.set_cons_zero,List.set_cons_succ,List.getElem_toArray,List.getElem_cons_succ,List.getElem_cons_zero]
     refine wpAnyH_take (i:=10) (v:=?_) rfl (by kernel_rfl) (by kernel_rfl) (by kernel_rfl) (fun _ _ _ h=>h) (Or.inl ⟨by rfl,?_⟩) hHeld ?_
     rotate_left
     ·(intro W hSw;(try dsimp only at hSw);go_simp;try with_reducible rfl)
     try simp only [Act.put,List.setIfInBounds_toArray,List.set_cons_zero,List.set_cons_succ,List.getElem_toArray,List.getElem_cons_succ,List.getElem_cons_zero]
     refine wpAnyH_take (i:=11) (v:=?_) rfl (by kernel_rfl) (by kernel_rfl) (by kernel_rfl) (fun _ _ _ h=>h) (Or.inl ⟨by rfl,?_⟩) hHeld ?_
     rotate_left
     ·(intro W hSw;(try dsimp only at hSw);go_simp;try with_reducible rfl)
     try simp only [Act.put,List.setIfInBounds_toArray,List.set_cons_zero,List.set_cons_succ,List.getElem_toArray,List.getElem_cons_succ,List.getElem_cons_zero]
     refine wpAnyH_ready (rs:=[12]) (by kernel_rfl) (by simp) ?_
     refine AllReadyH.cons rfl (fun K1 hK1=>?_) AllReadyH.nil
     go_simp
     refine (compareR_any x.size x y e0.an e0.nn e0.cc e1.an e1.nn e1.cc wr.drew _ _ (Nat.le_refl _) (HTX.out.below (below_drewN (Below.refl _ _) 1)) (HTY.out.below (below_drewN (Below.refl _ _) 1))).mono ?_
     rintro e w10 ⟨rfl,hw10⟩
     have hw10':Below wr.heap.size wr w10:=(below_drewN (Below.refl _ _) 1:Below wr.heap.size wr wr.drew).trans hw10
     refine hK1.out _ _ ⟨(hw10'.cell (p:=⟨w.heap.size,0,none⟩) (lt_of_cell z0)).trans z0,(hw10'.cell (p:=⟨w.heap.size + 1 + 1,2,none⟩) (lt_of_cell x2)).trans x2,⟨(hw10'.cell (p:=⟨g,0,none⟩) (lt_of_cell g0)).trans g0,(hw10'.cell (p:=⟨g,1,none⟩) (lt_of_cell g1)).trans g1,(hw10'.cell (p:=⟨g,2,none⟩) (lt_of_cell g2)).trans g2⟩,(hw10'.cell (p:=⟨g,3,none⟩) (lt_of_cell g3)).trans g3,(hw10'.cell (p:=⟨g,4,none⟩) (lt_of_cell g4)).trans g4,(hw10'.cell (p:=⟨g,5,none⟩) (lt_of_cell g5)).trans g5⟩ (fun hHeld=>?_)
     clear hK1
     try simp only [Act.put,List.setIfInBounds_toArray,List.set_cons_zero,List.set_cons_succ,List.getElem_toArray,List.getElem_cons_succ,List.getElem_cons_zero]
     have HW10:=Lib.hid hw10'
     clear hw10 hw10'
     refine wpAnyH_take (i:=13) (v:=?_) rfl (by kernel_rfl) (by kernel_rfl) (by kernel_rfl) (fun _ _ _ h=>h) (Or.inl ⟨by rfl,?_⟩) hHeld ?_
     rotate_left
     ·(intro W hSw;(try dsimp only at hSw);go_simp;try with_reducible rfl)
     try simp only [Act.put,List.setIfInBounds_toArray,List.set_cons_zero,List.set_cons_succ,List.getElem_toArray,List.getElem_cons_succ,List.getElem_cons_zero]
     refine wpAnyH_take (i:=14) (v:=?_) rfl (by kernel_rfl) (by kernel_rfl) (by kernel_rfl) (fun _ _ _ h=>h) (Or.inl ⟨by rfl,?_⟩) hHeld ?_
     rotate_left
     ·(intro W hSw;(try dsimp only at hSw);go_simp;try with_reducible rfl)
     try simp only [Act.put,List.setIfInBounds_toArray,List.set_cons_zero,List.set_cons_succ,List.getElem_toArray,List.getElem_cons_succ,List.getElem_cons_zero]
     refine wpAnyH_done (by kernel_rfl) ?_ _
     try simp only [Act.put,List.setIfInBounds_toArray,List.set_cons_zero,List.set_cons_succ,List.getElem_toArray,List.getElem_cons_succ,List.getElem_cons_zero]
     have X10:=Below.keep HW10.out HX.out (lt_of_block HX.out)
     have R10:=Below.keep HW10.out HR.out (lt_of_block HR.out)
     have HBW10:=Lib.hid (HBW.out.trans (HW10.out.mono (by have:=HBW.out.size;omega)))
     have C10:=Below.keep HW10.out HCUR.out (lt_of_block HCUR.out)
     have HTX10:=Lib.hid (HTX.out.below HW10.out)
     have HTY10:=Lib.hid (HTY.out.below HW10.out)
     obtain ⟨h0,h2,⟨i0,i1,i2⟩,i3,i4,i5⟩:=hHeld
     clear HX HR HBW HCUR HTX HTY HW10 z0 z1 z2 x2 g0 g1 g2 g3 g4 g5 h0
     by_cases hgt:0 < Tm.compare x y
     rotate_left
     ·have hgtb:decide (0 < Tm.compare x y)=false:=by simpa using hgt
      have HNE:Hid ((Tm.normal t).kids=[x,y]):=by show _=_;rw [HNK1.out,if_neg hgt]
      have HTL:Hid (TL (fun b=>w1.heap.size≤b) w10 (Tm.normal t).kids (some ⟨g,0,none⟩) 2):=by
       show TL _ _ _ _ _
       rw [HNE.out]
       refine ⟨rfl,by omega,fun j hj=>?_⟩
       rcases (show j=0∨j=1 by simp at hj;omega) with rfl | rfl
       ·exact ⟨g,0,_,_,_,rfl,⟨hbg,hc0⟩,i0,i1,i2,HTX10.out.imp fun b hb _=>hb.1⟩
       ·exact ⟨g,0,_,_,_,rfl,⟨hbg,hc1⟩,i3,i4,i5,HTY10.out.imp fun b hb _=>hb.1⟩
      have X3:=X10
      have R3:=R10
      clear X10 R10 C10 HTX10 HTY10 h2 i0 i1 i2 i3 i4 i5 HNK1
      generalize Tm.compare x y=cv at *
      have x0:=cell_of_arr X3 0
      have x1:=cell_of_arr X3 1
      have x2:=cell_of_arr X3 2
      simp at x0 x1 x2
      have r0:=cell_of_arr R3 0
      have r1:=cell_of_arr R3 1
      have r2:=cell_of_arr R3 2
      simp at r0 r1 r2
      have f0:=frozen_of_arr R3 0
      have f1:=frozen_of_arr R3 1
      have f2:=frozen_of_arr R3 2
      have HR3:=Lib.hid R3
      clear X3 R3
      go_wp2_with fail
      obtain ⟨S1,S2,S3⟩:=put3 HR3.out (.int .i64 t.op) (.int .i64 t.num) (.slice (some ⟨g,0,none⟩) 2 cap) _ rfl
      have p0:=cell_of_arr S1 0
      have p1:=cell_of_arr S1 1
      have p2:=cell_of_arr S1 2
      simp at p0 p1 p2
      refine bodyPost_ret (v:=.agg #[.int .i64 t.op,.int .i64 t.num,(.slice (some ⟨g,0,none⟩) 2 cap)]) (by simp [results,Tryd.results38,go_sem,p0,p1,p2]) rfl ?_
      refine ⟨_,_,_,by rw [Tm.normal_op,Tm.normal_num],⟨TR_iff.2 ((HTL.out).keep fun b hb _=>⟨S2 b (by have h2:w1.heap.size≤b:=hb;omega),by have h2:w1.heap.size≤b:=hb;show w.heap.size≤b;omega⟩),hcap⟩,S3 _ _ (by omega) HBW10.out⟩
     have hgtb:decide (0 < Tm.compare x y)=true:=by simpa using hgt
     have HNE:Hid ((Tm.normal t).kids=[y,x]):=by show _=_;rw [HNK1.out,if_pos hgt]
     clear HNK1
     generalize Tm.compare x y=cv at *
     have fz:∀ k,w10.frozen? ⟨g,k,none⟩=false:=fun k=>frozen_of_arr C10 k
     have fz0:=fz 0
     have fz1:=fz 1
     have fz2:=fz 2
     have fz3:=fz 3
     have fz4:=fz 4
     have fz5:=fz 5
     have hcs:5 < cur.size:=by
      have:=cell_of_arr C10 5
      rw [i5] at this
      rcases Nat.lt_or_ge 5 cur.size with h | h
      ·exact h
      ·rw [Array.getElem?_eq_none h] at this;cases this
     have HX10:=Lib.hid X10
     have HR10:=Lib.hid R10
     have HC10:=Lib.hid C10
     clear fz X10 R10 C10
     go_upto_region 8 with fail
     go_region
     obtain ⟨⟨q0,q1,q2,q3,q4,q5⟩,T2,T3⟩:=put6 HC10.out hcs (.int .i64 y.op) (.int .i64 y.num) (.slice e1.an e1.nn e1.cc) (.int .i64 x.op) (.int .i64 x.num) (.slice e0.an e0.nn e0.cc) _ rfl
     generalize (((((w10.setCell ⟨g,0,none⟩ (.int .i64 y.op)).setCell ⟨g,1,none⟩ (.int .i64 y.num)).setCell ⟨g,2,none⟩ (.slice e1.an e1.nn e1.cc)).setCell ⟨g,3,none⟩ (.int .i64 x.op)).setCell ⟨g,4,none⟩ (.int .i64 x.num)).setCell ⟨g,5,none⟩ (.slice e0.an e0.nn e0.cc)=w11 at *
     have HTL:Hid (TL (fun b=>w1.heap.size≤b) w11.drew (Tm.normal t).kids (some ⟨g,0,none⟩) 2):=by
      show TL _ _ _ _ _
      rw [HNE.out]
      refine ⟨rfl,by omega,fun j hj=>?_⟩
      rcases (show j=0∨j=1 by simp at hj;omega) with rfl | rfl
      ·exact ⟨g,0,_,_,_,rfl,⟨hbg,hc1⟩,q0,q1,q2,HTY10.out.keep (w':=w11.drew) fun b hb _=>⟨T2 b (fun e=>hb.2.2 (by rw [e];rfl)),hb.1⟩⟩
      ·exact ⟨g,0,_,_,_,rfl,⟨hbg,hc0⟩,q3,q4,q5,HTX10.out.keep (w':=w11.drew) fun b hb _=>⟨T2 b (fun e=>hb.2.2 (by rw [e];rfl)),hb.1⟩⟩
     have X3:w11.drew.heap[w.heap.size + 1 + 1]?=some (.cells #[.int .i64 t.op,.int .i64 t.num,.slice (some ⟨g,0,none⟩) 2 cap] 28 (0,0)):=(T2 _ (by omega)).trans HX10.out
     have R3:w11.drew.heap[w.heap.size + 1]?=some (.cells #[.int .i64 0,.int .i64 0,.slice none 0 0] 28 (0,0)):=(T2 _ (by omega)).trans HR10.out
     have HBW11:=Lib.hid (below_drewN (T3 _ _ (by omega) HBW10.out) 1)
     have HBW12:Hid (Below w.heap.size w w11.drew):=HBW11.out
     clear HBW11 T2 T3 q0 q1 q2 q3 q4 q5 HTX10 HTY10 h2 i0 i1 i2 i3 i4 i5 fz0 fz1 fz2 fz3 fz4 fz5 HX10 HR10 HC10 hcs HBW10
     generalize w11.drew=w12 at *
     have x0:=cell_of_arr X3 0
     have x1:=cell_of_arr X3 1
     have x2:=cell_of_arr X3 2
     simp at x0 x1 x2
     have r0:=cell_of_arr R3 0
     have r1:=cell_of_arr R3 1
     have r2:=cell_of_arr R3 2
     simp at r0 r1 r2
     have f0:=frozen_of_arr R3 0
     have f1:=frozen_of_arr R3 1
     have f2:=frozen_of_arr R3 2
     have HR3:=Lib.hid R3
     clear X3 R3
     go_wp2_with fail
     obtain ⟨S1,S2,S3⟩:=put3 HR3.out (.int .i64 t.op) (.int .i64 t.num) (.slice (some ⟨g,0,none⟩) 2 cap) _ rfl
     have p0:=cell_of_arr S1 0
     have p1:=cell_of_arr S1 1
     have p2:=cell_of_arr S1 2
     simp at p0 p1 p2
     refine bodyPost_ret (v:=.agg #[.int .i64 t.op,.int .i64 t.num,(.slice (some ⟨g,0,none⟩) 2 cap)]) (by simp [results,Tryd.results38,go_sem,p0,p1,p2]) rfl ?_
     refine ⟨_,_,_,by rw [Tm.normal_op,Tm.normal_num],⟨TR_iff.2 ((HTL.out).keep fun b hb _=>⟨S2 b (by have h2:w1.heap.size≤b:=hb;omega),by have h2:w1.heap.size≤b:=hb;show w.heap.size≤b;omega⟩),hcap⟩,S3 _ _ (by omega) HBW12.out⟩
end Go.Proofs.YtkgbjoepjcenlaaDoor
namespace Go.Proofs.YtkgbjoepjcenlaaDoor
open Go.RowKit
def Tm.within (l:List Tm) (u:Tm):Bool:=l.any fun x=>Tm.compare x u==0
theorem Tm.within_step {l:List Tm} {j:Nat} (h:j < l.length) (u:Tm):Tm.within (l.drop j) u=(Tm.compare l[j] u==0 || Tm.within (l.drop (j + 1)) u):=by
 rw [List.drop_eq_getElem_cons h];rfl
theorem Tm.within_end {l:List Tm} {j:Nat} (h:l.length≤j) (u:Tm):Tm.within (l.drop j) u=false:=by
 rw [List.drop_eq_nil_of_le h];rfl
set_option maxHeartbeats 1600000 in
theorem rwithin_any (l:List Tm) (u:Tm) (a:Option Addr) (n c:Nat) (a':Option Addr) (n' c':Nat) (w:World) (ok ok':Nat→Prop) (hT:TL ok w l a n) (hU:TR ok' w u a' n'):
 Calls Tryd.prog 68 #[.slice a n c,.agg #[.int .i64 u.op,.int .i64 u.num,.slice a' n' c']] w fun e w'=>e=.returned (.bool (Tm.within l u))∧Below w.heap.size w w':=by
 have P1:Below w.heap.size w (w.alloc (.cells #[.int .i64 u.op,.int .i64 u.num,.slice a' n' c'] 28)):=pure_alloc _ _
 have N1:=alloc_new w (.cells #[.int .i64 u.op,.int .i64 u.num,.slice a' n' c'] 28)
 have hn:=hT.2.1
 have HLN:=Lib.hid hT.1
 have HT2:=Lib.hid (hT.below P1)
 have HU2:=Lib.hid (hU.below P1)
 clear hT hU
 go_enter Tryd.func68,Tryd.ntmps68
 go_upto_region 1 with fail
 generalize (w.alloc (.cells #[.int .i64 u.op,.int .i64 u.num,.slice a' n' c'] 28))=w2 at *
 have HP2:=Lib.hid P1
 have HN2W:=Lib.hid N1
 have hws:=lt_of_block N1
 clear P1 N1
 go_wp2_with fail
 go_loopw [9] (fun i W=>∃ j:Nat,i=.int .i64 j∧j≤n∧Tm.within l u=Tm.within (l.drop j) u∧Below w2.heap.size w2 W) (fun i _=>n - (intOf i).toNat)
 case atStart=>exact ⟨0,rfl,by omega,rfl,Below.refl _ _⟩
 case round=>
  obtain ⟨j,rfl,hj,hcj,hB⟩:=hrel
  by_cases hjn:j < n
  ·have hjl:j < l.length:=by have:=HLN.out;omega
   obtain ⟨b,o,an,nn,cc,hea,hb,c0,c1,c2,ht⟩:=(HT2.out.below hB).2.2 j hjl
   subst hea
   have PA:=pure_alloc wr (.cells #[.int .i64 l[j].op,.int .i64 l[j].num,.slice an nn cc] 28)
   have HEQ:=Lib.hid (hcj.trans (Tm.within_step hjl u))
   have HCL:=Lib.hid (compareR_any l[j].size l[j] u an nn cc a' n' c' _ ok ok' (Nat.le_refl _) (ht.below PA) ((HU2.out.below hB).below PA))
   have N2:=Below.keep hB HN2W.out (lt_of_block HN2W.out)
   have HB:=Lib.hid (hB.trans (PA.mono hB.size))
   clear hcj hB ht PA
   generalize l[j]=k at *
   have y0:=cell_of_arr N2 0
   have y1:=cell_of_arr N2 1
   have y2:=cell_of_arr N2 2
   simp at y0 y1 y2
   clear N2
   have hy:w.heap.size < wr.heap.size:=lt_of_cell y0
   have hlt:(j:Int) < n:=by omega
   go_wp2_with fail
   refine HCL.out.mono ?_
   rintro e w5 ⟨rfl,hw5⟩
   have HB5:=Lib.hid (HB.out.trans (hw5.mono HB.out.size))
   clear hw5 y0 y1 y2 c0 c1 c2 HB HCL
   generalize Tm.compare k u=cv at *
   by_cases hz:cv=0
   ·have hzb:(cv==0)=true:=by simpa using hz
    rw [hzb] at HEQ
    have HEQ2:=Lib.hid (HEQ.out.trans (Bool.true_or _))
    clear HEQ hz
    go_wp2_with fail
    go_ret
    rw [HEQ2.out]
    exact ⟨rfl,pure_trans HP2.out HB5.out⟩
   ·have hzb:(cv==0)=false:=by simpa using hz
    rw [hzb] at HEQ
    have HEQ2:=Lib.hid (HEQ.out.trans (Bool.false_or _))
    clear HEQ hz
    go_wp2_with fail
    go_roundw
    case rel=>exact ⟨j + 1,by go_num,by omega,HEQ2.out,HB5.out⟩
    case measure=>simp [intOf];omega
  ·have hjn':¬ ((j:Int) < n):=by omega
   have HB:=Lib.hid (pure_trans HP2.out hB)
   have HEQ:=Lib.hid (hcj.trans (Tm.within_end (by have:=HLN.out;omega) u))
   clear hB hcj
   go_wp2_with fail
   go_ret
   rw [HEQ.out]
   exact ⟨rfl,HB.out⟩
end Go.Proofs.YtkgbjoepjcenlaaDoor
