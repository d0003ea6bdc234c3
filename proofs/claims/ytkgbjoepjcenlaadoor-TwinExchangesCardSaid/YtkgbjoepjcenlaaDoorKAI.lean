/- Joined texts. -/
import Derived.Test.YtkgbjoepjcenlaaDoorKAH
set_option linter.unusedVariables false
set_option linter.unusedSimpArgs false
namespace Go.Proofs.YtkgbjoepjcenlaaDoor
open Go.RowKit Go.Maps
namespace Tm
theorem builds_eq (C:List Tm) (t:Tm):builds C t=(decide (t ∈ C) || (if t.op=1 then decide (t.num < 100) else if t.op=7 then shareB C (buildsL C t.kids) t.kids else (buildsL C t.kids).all id)):=by
 cases t;rfl
theorem all_step {C l:List Tm} {j:Nat} (h:j < l.length):(buildsL C (l.drop j)).all id=(builds C l[j] && (buildsL C (l.drop (j + 1))).all id):=by
 rw [List.drop_eq_getElem_cons h];simp [buildsL]
theorem all_end {C l:List Tm} {j:Nat} (h:l.length≤j):(buildsL C (l.drop j)).all id=true:=by
 rw [List.drop_eq_nil_of_le h];simp [buildsL]
theorem wf_pub {t:Tm} (h:wf t=true):wf (pub t)=true:=by simp [pub,wf,wfs,h,okN,arity]
theorem size_pub (t:Tm):(pub t).size=t.size + 1:=by simp [pub,size,sizes];omega
end Tm
set_option maxRecDepth 100000 in
set_option maxHeartbeats 3200000 in
theorem builds_any (K M:Nat) (C:List Tm) (m:Nat):∀ (t:Tm) (a:Option Addr) (n c:Nat) (w:World) (ok:Nat→Prop),t.size≤m→TR ok w t a n→Tm.wf t=true→Env w→KB w K M C→t.size≤99999→
 Calls Tryd.prog 35 #[.pointer (some ⟨K,0,none⟩),.agg #[.int .i64 t.op,.int .i64 t.num,.slice a n c]] w fun e w'=>e=.returned (.bool (Tm.builds C t))∧Below w.heap.size w w':=by
 induction m with
 | zero=>intro t a n c w ok h;have:=t.size_pos;omega
 | succ m ih=>
   intro t a n c w ok hm hT hwf hE hK hsz
   have hs1:=t.size_kids
   have P1:=pure_alloc w (.cells #[.int .i64 t.op,.int .i64 t.num,.slice a n c] 28)
   have N1:=alloc_new w (.cells #[.int .i64 t.op,.int .i64 t.num,.slice a n c] 28)
   have HTT:=Lib.hid (hT.below P1)
   have HLN:=Lib.hid (TR_iff.1 hT).1
   have hn:=(TR_iff.1 hT).2.1
   have HE:=Lib.hid (hE.below P1)
   have HK:=Lib.hid (hK.below P1)
   have HWF:=Lib.hid hwf
   have HIH:=Lib.hid ih
   have HSZ:Hid (Tm.sizes t.kids≤m∧Tm.sizes t.kids≤99998):=by show _∧_;omega
   have HSZ0:=Lib.hid hsz
   have HBE:=Lib.hid (Tm.builds_eq C t)
   clear hT ih hs1 hm hsz hE hK hwf
   go_enter Tryd.func35,Tryd.ntmps35
   go_upto_region 1 with fail
   generalize (w.alloc (.cells #[.int .i64 t.op,.int .i64 t.num,.slice a n c] 28))=w1 at *
   have HP1:=Lib.hid P1
   have HN1:=Lib.hid N1
   have x0:=cell_of_arr N1 0
   have x1:=cell_of_arr N1 1
   have x2:=cell_of_arr N1 2
   simp at x0 x1 x2
   clear P1 N1
   obtain ⟨⟨kv,hkv⟩,nm,D,hmap,hnm,hD⟩:=HK.out
   have k1:w1.cell? ⟨K,1,none⟩=some (.map (some M)):=cell_of_arr hkv 1
   have HMAP:=Lib.hid hmap
   have HD:=Lib.hid hD
   have HM1:=Lib.hid (Tm.text_len t HWF.out)
   clear hkv hmap hD
   refine wp_region_held_drew (S:=(fun W=>W.cell? ⟨K,1,none⟩=some (.map (some M))∧W.cell? ⟨w.heap.size,0,none⟩=some (.int .i64 t.op)∧W.cell? ⟨w.heap.size,1,none⟩=some (.int .i64 t.num)∧W.cell? ⟨w.heap.size,2,none⟩=some (.slice a n c))) (by kernel_rfl) ⟨k1,x0,x1,x2⟩ (fun hHeld=>?_)
   refine wpAnyH_take (i:=0) (v:=?_) rfl (by kernel_rfl) (by kernel_rfl) (by kernel_rfl) (fun _ _ _ h=>h) (Or.inl ⟨by rfl,?_⟩) hHeld ?_
   rotate_left
   ·(intro W hSw;(try dsimp only at hSw);go_simp;try with_reducible rfl)
   try simp only [Act.put,List.setIfInBounds_toArray,List.set_cons_zero,List.set_cons_succ,List.getElem_toArray,List.getElem_cons_succ,List.getElem_cons_zero]
   refine wpAnyH_take (i:=1) (v:=?_) rfl (by kernel_rfl) (by kernel_rfl) (by kernel_rfl) (fun _ _ _ h=>h) (Or.inl ⟨by rfl,?_⟩) hHeld ?_
   rotate_left
   ·(intro W hSw;(try dsimp only at hSw);go_simp;try with_reducible rfl)
   try simp only [Act.put,List.setIfInBounds_toArray,List.set_cons_zero,List.set_cons_succ,List.getElem_toArray,List.getElem_cons_succ,List.getElem_cons_zero]
   refine wpAnyH_take (i:=2) (v:=?_) rfl (by kernel_rfl) (by kernel_rfl) (by kernel_rfl) (fun _ _ _ h=>h) (Or.inl ⟨by rfl,?_⟩) hHeld ?_
   rotate_left
   ·(intro W hSw;(try dsimp only at hSw);go_simp;try with_reducible rfl)
   try simp only [Act.put,List.setIfInBounds_toArray,List.set_cons_zero,List.set_cons_succ,List.getElem_toArray,List.getElem_cons_succ,List.getElem_cons_zero]
   refine wpAnyH_take (i:=3) (v:=?_) rfl (by kernel_rfl) (by kernel_rfl) (by kernel_rfl) (fun _ _ _ h=>h) (Or.inl ⟨by rfl,?_⟩) hHeld ?_
   rotate_left
   ·(intro W hSw;(try dsimp only at hSw);go_simp;try with_reducible rfl)
   try simp only [Act.put,List.setIfInBounds_toArray,List.set_cons_zero,List.set_cons_succ,List.getElem_toArray,List.getElem_cons_succ,List.getElem_cons_zero]
   refine wpAnyH_take (i:=4) (v:=?_) rfl (by kernel_rfl) (by kernel_rfl) (by kernel_rfl) (fun _ _ _ h=>h) (Or.inl ⟨by rfl,?_⟩) hHeld ?_
   rotate_left
   ·(intro W hSw;(try dsimp only at hSw);go_simp;try with_reducible rfl)
   try simp only [Act.put,List.setIfInBounds_toArray,List.set_cons_zero,List.set_cons_succ,List.getElem_toArray,List.getElem_cons_succ,List.getElem_cons_zero]
   refine wpAnyH_ready (rs:=[5]) (by kernel_rfl) (by simp) ?_
   refine AllReadyH.cons rfl (fun K1 hK1=>?_) AllReadyH.nil
   go_simp
   refine (text_any t.size t a n c w1.drew ok (Nat.le_refl _) (HTT.out.below (below_drewN (Below.refl _ _) 1)) HWF.out (HE.out.below (below_drewN (Below.refl _ _) 1)) (by have:=HSZ0.out;omega)).mono ?_
   rintro e w2 ⟨rfl,hw2⟩
   simp only [Str]
   have hw2':Below w1.heap.size w1 w2:=(below_drewN (Below.refl _ _) 1:Below w1.heap.size w1 w1.drew).trans hw2
   have HW2:=Lib.hid hw2'
   have hz2:Hid ((zeroValue 4).run Tryd.prog w2=.ok (.bool false) w2):=by show _=_;kernel_rfl
   refine hK1.out _ _ ⟨(hw2'.cell (p:=⟨K,1,none⟩) (lt_of_cell k1)).trans k1,(hw2'.cell (p:=⟨w.heap.size,0,none⟩) (lt_of_cell x0)).trans x0,(hw2'.cell (p:=⟨w.heap.size,1,none⟩) (lt_of_cell x1)).trans x1,(hw2'.cell (p:=⟨w.heap.size,2,none⟩) (lt_of_cell x2)).trans x2⟩ (fun hHeld=>?_)
   clear hK1
   try simp only [Act.put,List.setIfInBounds_toArray,List.set_cons_zero,List.set_cons_succ,List.getElem_toArray,List.getElem_cons_succ,List.getElem_cons_zero]
   clear hw2 hw2'
   refine wpAnyH_ready (rs:=[6]) (by kernel_rfl) (by simp) ?_
   refine AllReadyH.cons rfl (fun K1 hK1=>?_) AllReadyH.nil
   rw [if_pos (by rfl)]
   refine wp_lookup_bool _ _ _ 73 rfl 9 4 (string_keyed Tryd.underlying9) Tryd.underlying73 Tryd.underlying4 hz2.out M nm D rfl (own_map_keep HMAP.out (HW2.out.block M (own_map_lt HMAP.out))) _ _ rfl (keyStr (Tm.text t) (by have h1:=HM1.out;have h2:=HSZ0.out;omega)) (decide (t ∈ C)) (HD.out t HWF.out) ?_
   refine hK1.out _ _ hHeld (fun hHeld=>?_)
   clear hK1
   try simp only [Act.put,List.setIfInBounds_toArray,List.set_cons_zero,List.set_cons_succ,List.getElem_toArray,List.getElem_cons_succ,List.getElem_cons_zero]
   refine wpAnyH_done (by kernel_rfl) ?_ _
   try simp only [Act.put,List.setIfInBounds_toArray,List.set_cons_zero,List.set_cons_succ,List.getElem_toArray,List.getElem_cons_succ,List.getElem_cons_zero]
   have HP2:=Lib.hid (pure_trans HP1.out HW2.out)
   have HT2:=Lib.hid (HTT.out.below HW2.out)
   have HE2:=Lib.hid (HE.out.below HW2.out)
   have HK2:=Lib.hid (HK.out.below HW2.out)
   have HN2:=Lib.hid (Below.keep HW2.out HN1.out (lt_of_block HN1.out))
   clear x0 x1 x2 k1 hHeld HMAP HD HW2 hz2 hnm
   have N2:=HN2.out
   have x0:=cell_of_arr N2 0
   have x1:=cell_of_arr N2 1
   have x2:=cell_of_arr N2 2
   simp at x0 x1 x2
   clear N2 HP1 HTT HE HK HN1 HM1
   by_cases hin:t ∈ C
   ·have hinb:decide (t ∈ C)=true:=by simpa using hin
    have HR:Hid (Tm.builds C t=true):=by show _=_;rw [HBE.out,hinb];rfl
    rw [hinb]
    clear hin hinb HBE
    go_wp2_with fail
    go_ret
    rw [HR.out]
    exact ⟨rfl,HP2.out⟩
   have hinb:decide (t ∈ C)=false:=by simpa using hin
   have HBE1:Hid (Tm.builds C t=if t.op=1 then decide (t.num < 100) else if t.op=7 then Tm.shareB C (Tm.buildsL C t.kids) t.kids else (Tm.buildsL C t.kids).all id):=by show _=_;rw [HBE.out,hinb];rfl
   rw [hinb]
   clear hin hinb HBE
   by_cases h1:t.op=1
   ·have h1b:(t.op==1)=true:=by simpa using h1
    have HR:Hid (Tm.builds C t=decide (t.num < 100)):=by show _=_;rw [HBE1.out,if_pos h1]
    clear h1 HBE1
    go_wp2_with fail
    go_ret
    rw [HR.out]
    exact ⟨rfl,HP2.out⟩
   have h1b:(t.op==1)=false:=by simpa using h1
   by_cases h7:t.op=7
   rotate_left
   ·have h7b:(t.op==7)=false:=by simpa using h7
    have HR:Hid (Tm.builds C t=(Tm.buildsL C t.kids).all id):=by show _=_;rw [HBE1.out,if_neg h1,if_neg h7]
    clear h1 h7 HBE1
    go_wp2_with fail
    clear x0 x1 x2 h1b h7b
    go_loopw [73] (fun i W=>∃ j:Nat,i=.int .i64 j∧j≤n∧(Tm.buildsL C t.kids).all id=(Tm.buildsL C (t.kids.drop j)).all id∧Below w2.heap.size w2 W) (fun i _=>n - (intOf i).toNat)
    case atStart=>exact ⟨0,rfl,by omega,rfl,Below.refl _ _⟩
    case round=>
     obtain ⟨j,rfl,hj,hcj,hB⟩:=hrel
     by_cases hjn:j < n
     ·have hjl:j < t.kids.length:=by have:=HLN.out;omega
      obtain ⟨b,o,an,nn,cc,hea,hb,c0,c1,c2,ht⟩:=((TR_iff.1 HT2.out).below hB).2.2 j hjl
      subst hea
      have PA:=pure_alloc wr (.cells #[.int .i64 t.kids[j].op,.int .i64 t.kids[j].num,.slice an nn cc] 28)
      have hk1:t.kids[j].size≤m:=Nat.le_trans (Tm.size_get hjl) HSZ.out.1
      have hk2:t.kids[j].size≤99999:=by have h1:=Tm.size_get hjl;have h2:=HSZ.out.2;omega
      have HCL:=Lib.hid (HIH.out t.kids[j] an nn cc _ ok hk1 (ht.below PA) (Tm.wf_kid HWF.out hjl) ((HE2.out.below hB).below PA) ((HK2.out.below hB).below PA) hk2)
      have HEQ:=Lib.hid (hcj.trans (Tm.all_step hjl))
      have HB:=Lib.hid (hB.trans (PA.mono hB.size))
      clear hcj hB ht PA hk1 hk2
      generalize t.kids[j]=k at *
      have hlt:(j:Int) < n:=by omega
      go_wp2_with fail
      refine HCL.out.mono ?_
      rintro e w3 ⟨rfl,hw3⟩
      have HB3:=Lib.hid (HB.out.trans (hw3.mono HB.out.size))
      clear hw3 c0 c1 c2 HCL HB
      cases hr:Tm.builds C k
      ·rw [hr] at HEQ
       have HE3:=Lib.hid (HR.out.trans (HEQ.out.trans (Bool.false_and _)))
       clear HEQ hr
       go_wp2_with fail
       go_ret
       rw [HE3.out]
       exact ⟨rfl,pure_trans HP2.out HB3.out⟩
      ·rw [hr] at HEQ
       have HE3:=Lib.hid (HEQ.out.trans (Bool.true_and _))
       clear HEQ hr
       go_wp2_with fail
       go_roundw
       case rel=>exact ⟨j + 1,by go_num,by omega,HE3.out,HB3.out⟩
       case measure=>simp [intOf];omega
     ·have hjn':¬ ((j:Int) < n):=by omega
      have HE3:=Lib.hid (HR.out.trans (hcj.trans (Tm.all_end (by have:=HLN.out;omega))))
      have HB:=Lib.hid (pure_trans HP2.out hB)
      clear hB hcj
      go_wp2_with fail
      go_ret
      rw [HE3.out]
      exact ⟨rfl,HB.out⟩
   have h7b:(t.op==7)=true:=by simpa using h7
   have hkk:t.kids.length=2:=by
    have h2:=Tm.okN_len (Tm.wf_kids HWF.out).1
    rw [h7] at h2
    have h3:Tm.arity 7=2:=rfl
    omega
   obtain ⟨x,y,hxy⟩:=two_of_length hkk
   have HR:Hid (Tm.builds C t=((Tm.builds C x && (Tm.builds C y || decide (Tm.pub y ∈ C))) || (Tm.builds C y && decide (Tm.pub x ∈ C)))):=by
    show _=_
    rw [HBE1.out,if_neg h1,if_pos h7,hxy];rfl
   have hn2:n=2:=by have:=HLN.out;omega
   have hTL:=TR_iff.1 HT2.out
   rw [hxy] at hTL
   obtain ⟨b,o,an,nn,cc,hea,hb,c0,c1,c2,htx⟩:=hTL.2.2 0 (by simp)
   obtain ⟨b',o',bn,mm,dd,hea',hb2,d0,d1,d2,hty⟩:=hTL.2.2 1 (by simp)
   subst hea
   simp only [Option.some.injEq,Addr.mk.injEq,and_true] at hea'
   obtain ⟨rfl,rfl⟩:=hea'
   simp at c0 c1 c2 d0 d1 d2 htx hty
   have hwx:Tm.wf x=true∧Tm.wf y=true:=by
    have h2:=(Tm.wf_kids HWF.out).2
    rw [hxy] at h2
    simpa [Tm.wfs] using h2
   have hsx:(x.size≤m∧x.size≤99998)∧y.size≤m∧y.size≤99998:=by
    have h2:=HSZ.out
    rw [hxy] at h2
    simp [Tm.sizes] at h2
    omega
   have HTX:=Lib.hid htx
   have HTY:=Lib.hid hty
   have HWX:=Lib.hid hwx
   have HSX:=Lib.hid hsx
   clear h1 h7 hkk hxy hTL htx hty hwx hsx HBE1
   have hlt0:(0:Int) < (n:Int):=by omega
   have hlt1:(1:Int) < (n:Int):=by omega
   obtain ⟨⟨kv,hkv⟩,nm,D,hmap,hnm,hD⟩:=HK2.out
   have k1:w2.cell? ⟨K,1,none⟩=some (.map (some M)):=cell_of_arr hkv 1
   have HMAP:=Lib.hid hmap
   have HD:=Lib.hid hD
   clear hkv hmap hD hnm
   go_upto_region 7 with fail
   refine wp_region_held_drew (S:=(fun W=>(W.cell? ⟨K,1,none⟩=some (.map (some M))∧W.cell? ⟨w.heap.size,0,none⟩=some (.int .i64 t.op)∧W.cell? ⟨w.heap.size,1,none⟩=some (.int .i64 t.num)∧W.cell? ⟨w.heap.size,2,none⟩=some (.slice (some ⟨b,o,none⟩) n c))∧(W.cell? ⟨b,o,none⟩=some (.int .i64 x.op)∧W.cell? ⟨b,o + 1,none⟩=some (.int .i64 x.num)∧W.cell? ⟨b,o + 2,none⟩=some (.slice an nn cc))∧W.cell? ⟨b,o + 3,none⟩=some (.int .i64 y.op)∧W.cell? ⟨b,o + 3 + 1,none⟩=some (.int .i64 y.num)∧W.cell? ⟨b,o + 3 + 2,none⟩=some (.slice bn mm dd))) (by kernel_rfl) ⟨⟨k1,x0,x1,x2⟩,⟨c0,c1,c2⟩,d0,d1,d2⟩ (fun hHeld=>?_)
   refine wpAnyH_take (i:=0) (v:=?_) rfl (by kernel_rfl) (by kernel_rfl) (by kernel_rfl) (fun _ _ _ h=>h) (Or.inl ⟨by rfl,?_⟩) hHeld ?_
   rotate_left
   ·(intro W hSw;(try dsimp only at hSw);go_simp;try with_reducible rfl)
   try simp only [Act.put,List.setIfInBounds_toArray,List.set_cons_zero,List.set_cons_succ,List.getElem_toArray,List.getElem_cons_succ,List.getElem_cons_zero]
   refine wpAnyH_take (i:=1) (v:=?_) rfl (by kernel_rfl) (by kernel_rfl) (by kernel_rfl) (fun _ _ _ h=>h) (Or.inl ⟨by rfl,?_⟩) hHeld ?_
   rotate_left
   ·(intro W hSw;(try dsimp only at hSw);go_simp;try with_reducible rfl)
   try simp only [Act.put,List.setIfInBounds_toArray,List.set_cons_zero,List.set_cons_succ,List.getElem_toArray,List.getElem_cons_succ,List.getElem_cons_zero]
   refine wpAnyH_take (i:=2) (v:=?_) rfl (by kernel_rfl) (by kernel_rfl) (by kernel_rfl) (fun _ _ _ h=>h) (Or.inl ⟨by rfl,?_⟩) hHeld ?_
   rotate_left
   ·(intro W hSw;(try dsimp only at hSw);go_simp;try with_reducible rfl)
   try simp only [Act.put,List.setIfInBounds_toArray,List.set_cons_zero,List.set_cons_succ,List.getElem_toArray,List.getElem_cons_succ,List.getElem_cons_zero]
   refine wpAnyH_take (i:=3) (v:=?_) rfl (by kernel_rfl) (by kernel_rfl) (by kernel_rfl) (fun _ _ _ h=>h) (Or.inl ⟨by rfl,?_⟩) hHeld ?_
   rotate_left
   ·(intro W hSw;(try dsimp only at hSw);go_simp;try with_reducible rfl)
   try simp only [Act.put,List.setIfInBounds_toArray,List.set_cons_zero,List.set_cons_succ,List.getElem_toArray,List.getElem_cons_succ,List.getElem_cons_zero]
   refine wpAnyH_take (i:=4) (v:=?_) rfl (by kernel_rfl) (by kernel_rfl) (by kernel_rfl) (fun _ _ _ h=>h) (Or.inl ⟨by rfl,?_⟩) hHeld ?_
   rotate_left
   ·(intro W hSw;(try dsimp only at hSw);go_simp;try with_reducible rfl)
   try simp only [Act.put,List.setIfInBounds_toArray,List.set_cons_zero,List.set_cons_succ,List.getElem_toArray,List.getElem_cons_succ,List.getElem_cons_zero]
   refine wpAnyH_take (i:=6) (v:=?_) rfl (by kernel_rfl) (by kernel_rfl) (by kernel_rfl) (fun _ _ _ h=>h) (Or.inl ⟨by rfl,?_⟩) hHeld ?_
   rotate_left
   ·(intro W hSw;(try dsimp only at hSw);go_simp;try with_reducible rfl)
   try simp only [Act.put,List.setIfInBounds_toArray,List.set_cons_zero,List.set_cons_succ,List.getElem_toArray,List.getElem_cons_succ,List.getElem_cons_zero]
   refine wpAnyH_take (i:=7) (v:=?_) rfl (by kernel_rfl) (by kernel_rfl) (by kernel_rfl) (fun _ _ _ h=>h) (Or.inl ⟨by rfl,?_⟩) hHeld ?_
   rotate_left
   ·(intro W hSw;(try dsimp only at hSw);go_simp;try with_reducible rfl)
   try simp only [Act.put,List.setIfInBounds_toArray,List.set_cons_zero,List.set_cons_succ,List.getElem_toArray,List.getElem_cons_succ,List.getElem_cons_zero]
   refine wpAnyH_take (i:=8) (v:=?_) rfl (by kernel_rfl) (by kernel_rfl) (by kernel_rfl) (fun _ _ _ h=>h) (Or.inl ⟨by rfl,?_⟩) hHeld ?_
   rotate_left
   ·(intro W hSw;(try dsimp only at hSw);go_simp;try with_reducible rfl)
   try simp only [Act.put,List.setIfInBounds_toArray,List.set_cons_zero,List.set_cons_succ,List.getElem_toArray,List.getElem_cons_succ,List.getElem_cons_zero]
   refine wpAnyH_take (i:=9) (v:=?_) rfl (by kernel_rfl) (by kernel_rfl) (by kernel_rfl) (fun _ _ _ h=>h) (Or.inl ⟨by rfl,?_⟩) hHeld ?_
   rotate_left
   ·(intro W hSw;(try dsimp only at hSw);go_simp;try with_reducible rfl)
   try simp only [Act.put,List.setIfInBounds_toArray,List.set_cons_zero,List.set_cons_succ,List.getElem_toArray,List.getElem_cons_succ,List.getElem_cons_zero]
   refine wpAnyH_take (i:=10) (v:=?_) rfl (by kernel_rfl) (by kernel_rfl) (by kernel_rfl) (fun _ _ _ h=>h) (Or.inl ⟨by rfl,?_⟩) hHeld ?_
   rotate_left
   ·(intro W hSw;(try dsimp only at hSw);go_simp;try with_reducible rfl)
   try simp only [Act.put,List.setIfInBounds_toArray,List.set_cons_zero,List.set_cons_succ,List.getElem_toArray,List.getElem_cons_succ,List.getElem_cons_zero]
   refine wpAnyH_ready (rs:=[5]) (by kernel_rfl) (by simp) ?_
   refine AllReadyH.cons rfl (fun K1 hK1=>?_) AllReadyH.nil
   go_simp
   refine (HIH.out x an nn cc w2.drew ok HSX.out.1.1 (HTX.out.below (below_drewN (Below.refl _ _) 1)) HWX.out.1 (HE2.out.below (below_drewN (Below.refl _ _) 1)) (HK2.out.below (below_drewN (Below.refl _ _) 1)) (by have:=HSX.out.1.2;omega)).mono ?_
   rintro e w4 ⟨rfl,hw4⟩
   have hw4':Below w2.heap.size w2 w4:=(below_drewN (Below.refl _ _) 1:Below w2.heap.size w2 w2.drew).trans hw4
   refine hK1.out _ _ ⟨⟨(hw4'.cell (p:=⟨K,1,none⟩) (lt_of_cell k1)).trans k1,(hw4'.cell (p:=⟨w.heap.size,0,none⟩) (lt_of_cell x0)).trans x0,(hw4'.cell (p:=⟨w.heap.size,1,none⟩) (lt_of_cell x1)).trans x1,(hw4'.cell (p:=⟨w.heap.size,2,none⟩) (lt_of_cell x2)).trans x2⟩,⟨(hw4'.cell (p:=⟨b,o,none⟩) (lt_of_cell c0)).trans c0,(hw4'.cell (p:=⟨b,o + 1,none⟩) (lt_of_cell c1)).trans c1,(hw4'.cell (p:=⟨b,o + 2,none⟩) (lt_of_cell c2)).trans c2⟩,(hw4'.cell (p:=⟨b,o + 3,none⟩) (lt_of_cell d0)).trans d0,(hw4'.cell (p:=⟨b,o + 3 + 1,none⟩) (lt_of_cell d1)).trans d1,(hw4'.cell (p:=⟨b,o + 3 + 2,none⟩) (lt_of_cell d2)).trans d2⟩ (fun hHeld=>?_)
   clear hK1
   try simp only [Act.put,List.setIfInBounds_toArray,List.set_cons_zero,List.set_cons_succ,List.getElem_toArray,List.getElem_cons_succ,List.getElem_cons_zero]
   have HW4:=Lib.hid hw4'
   clear hw4 hw4'
   refine wpAnyH_ready (rs:=[11]) (by kernel_rfl) (by simp) ?_
   refine AllReadyH.cons rfl (fun K1 hK1=>?_) AllReadyH.nil
   go_simp
   refine (HIH.out y bn mm dd w4 ok HSX.out.2.1 (HTY.out.below HW4.out) HWX.out.2 (HE2.out.below HW4.out) (HK2.out.below HW4.out) (by have:=HSX.out.2.2;omega)).mono ?_
   rintro e w5 ⟨rfl,hw5⟩
   have HW5:=Lib.hid (pure_trans HW4.out hw5)
   refine hK1.out _ _ ⟨⟨(HW5.out.cell (p:=⟨K,1,none⟩) (lt_of_cell k1)).trans k1,(HW5.out.cell (p:=⟨w.heap.size,0,none⟩) (lt_of_cell x0)).trans x0,(HW5.out.cell (p:=⟨w.heap.size,1,none⟩) (lt_of_cell x1)).trans x1,(HW5.out.cell (p:=⟨w.heap.size,2,none⟩) (lt_of_cell x2)).trans x2⟩,⟨(HW5.out.cell (p:=⟨b,o,none⟩) (lt_of_cell c0)).trans c0,(HW5.out.cell (p:=⟨b,o + 1,none⟩) (lt_of_cell c1)).trans c1,(HW5.out.cell (p:=⟨b,o + 2,none⟩) (lt_of_cell c2)).trans c2⟩,(HW5.out.cell (p:=⟨b,o + 3,none⟩) (lt_of_cell d0)).trans d0,(HW5.out.cell (p:=⟨b,o + 3 + 1,none⟩) (lt_of_cell d1)).trans d1,(HW5.out.cell (p:=⟨b,o + 3 + 2,none⟩) (lt_of_cell d2)).trans d2⟩ (fun hHeld=>?_)
   clear hK1
   try simp only [Act.put,List.setIfInBounds_toArray,List.set_cons_zero,List.set_cons_succ,List.getElem_toArray,List.getElem_cons_succ,List.getElem_cons_zero]
   clear hw5
   refine wpAnyH_take (i:=12) (v:=?_) rfl (by kernel_rfl) (by kernel_rfl) (by kernel_rfl) (fun _ _ _ h=>h) (Or.inl ⟨by rfl,?_⟩) hHeld ?_
   rotate_left
   ·(intro W hSw;(try dsimp only at hSw);go_simp;try with_reducible rfl)
   try simp only [Act.put,List.setIfInBounds_toArray,List.set_cons_zero,List.set_cons_succ,List.getElem_toArray,List.getElem_cons_succ,List.getElem_cons_zero]
   refine wpAnyH_take (i:=13) (v:=?_) rfl (by kernel_rfl) (by kernel_rfl) (by kernel_rfl) (fun _ _ _ h=>h) (Or.inl ⟨by rfl,?_⟩) hHeld ?_
   rotate_left
   ·(intro W hSw;(try dsimp only at hSw);go_simp;try with_reducible rfl)
   try simp only [Act.put,List.setIfInBounds_toArray,List.set_cons_zero,List.set_cons_succ,List.getElem_toArray,List.getElem_cons_succ,List.getElem_cons_zero]
   refine wpAnyH_done (by kernel_rfl) ?_ _
   try simp only [Act.put,List.setIfInBounds_toArray,List.set_cons_zero,List.set_cons_succ,List.getElem_toArray,List.getElem_cons_succ,List.getElem_cons_zero]
   have HP5:=Lib.hid (pure_trans HP2.out HW5.out)
   have HE5:=Lib.hid (HE2.out.below HW5.out)
   have HTX5:=Lib.hid (HTX.out.below HW5.out)
   have HTY5:=Lib.hid (HTY.out.below HW5.out)
   have HMAP5:=Lib.hid (own_map_keep HMAP.out (HW5.out.block M (own_map_lt HMAP.out)))
   obtain ⟨⟨k1',x0',x1',x2'⟩,⟨c0',c1',c2'⟩,d0',d1',d2'⟩:=hHeld
   clear k1 x0 x1 x2 c0 c1 c2 d0 d1 d2 HW4 HW5 HTX HTY HMAP HE2 HK2 HP2 HT2 HN2
   have k1:=k1'
   have x0:=x0'
   have x1:=x1'
   have x2:=x2'
   have c0:=c0'
   have c1:=c1'
   have c2:=c2'
   have d0:=d0'
   have d1:=d1'
   have d2:=d2'
   clear k1' x0' x1' x2' c0' c1' c2' d0' d1' d2'
   cases hbx:Tm.builds C x <;> cases hby:Tm.builds C y
   ·rw [hbx,hby] at HR
    go_upto_region 8 with fail
    refine wp_region_held_drew (S:=(fun W=>(W.cell? ⟨K,1,none⟩=some (.map (some M))∧W.cell? ⟨w.heap.size,0,none⟩=some (.int .i64 t.op)∧W.cell? ⟨w.heap.size,1,none⟩=some (.int .i64 t.num)∧W.cell? ⟨w.heap.size,2,none⟩=some (.slice (some ⟨b,o,none⟩) n c))∧(W.cell? ⟨b,o,none⟩=some (.int .i64 x.op)∧W.cell? ⟨b,o + 1,none⟩=some (.int .i64 x.num)∧W.cell? ⟨b,o + 2,none⟩=some (.slice an nn cc))∧W.cell? ⟨b,o + 3,none⟩=some (.int .i64 y.op)∧W.cell? ⟨b,o + 3 + 1,none⟩=some (.int .i64 y.num)∧W.cell? ⟨b,o + 3 + 2,none⟩=some (.slice bn mm dd))) (by kernel_rfl) ⟨⟨k1,x0,x1,x2⟩,⟨c0,c1,c2⟩,d0,d1,d2⟩ (fun hHeld=>?_)
    refine wpAnyH_take (i:=0) (v:=?_) rfl (by kernel_rfl) (by kernel_rfl) (by kernel_rfl) (fun _ _ _ h=>h) (Or.inl ⟨by rfl,?_⟩) hHeld ?_
    rotate_left
    ·(intro W hSw;(try dsimp only at hSw);go_simp;try with_reducible rfl)
    try simp only [Act.put,List.setIfInBounds_toArray,List.set_cons_zero,List.set_cons_succ,List.getElem_toArray,List.getElem_cons_succ,List.getElem_cons_zero]
    refine wpAnyH_take (i:=1) (v:=?_) rfl (by kernel_rfl) (by kernel_rfl) (by kernel_rfl) (fun _ _ _ h=>h) (Or.inl ⟨by rfl,?_⟩) hHeld ?_
    rotate_left
    ·(intro W hSw;(try dsimp only at hSw);go_simp;try with_reducible rfl)
    try simp only [Act.put,List.setIfInBounds_toArray,List.set_cons_zero,List.set_cons_succ,List.getElem_toArray,List.getElem_cons_succ,List.getElem_cons_zero]
    refine wpAnyH_take (i:=2) (v:=undef) rfl (by kernel_rfl) (by kernel_rfl) (by kernel_rfl) (fun _ _ _ h=>h) (Or.inr ⟨by rfl,rfl⟩) hHeld ?_
    try simp only [Act.put,List.setIfInBounds_toArray,List.set_cons_zero,List.set_cons_succ,List.getElem_toArray,List.getElem_cons_succ,List.getElem_cons_zero]
    refine wpAnyH_take (i:=3) (v:=undef) rfl (by kernel_rfl) (by kernel_rfl) (by kernel_rfl) (fun _ _ _ h=>h) (Or.inr ⟨by rfl,rfl⟩) hHeld ?_
    try simp only [Act.put,List.setIfInBounds_toArray,List.set_cons_zero,List.set_cons_succ,List.getElem_toArray,List.getElem_cons_succ,List.getElem_cons_zero]
    refine wpAnyH_take (i:=4) (v:=undef) rfl (by kernel_rfl) (by kernel_rfl) (by kernel_rfl) (fun _ _ _ h=>h) (Or.inr ⟨by rfl,rfl⟩) hHeld ?_
    try simp only [Act.put,List.setIfInBounds_toArray,List.set_cons_zero,List.set_cons_succ,List.getElem_toArray,List.getElem_cons_succ,List.getElem_cons_zero]
    refine wpAnyH_take (i:=5) (v:=undef) rfl (by kernel_rfl) (by kernel_rfl) (by kernel_rfl) (fun _ _ _ h=>h) (Or.inr ⟨by rfl,rfl⟩) hHeld ?_
    try simp only [Act.put,List.setIfInBounds_toArray,List.set_cons_zero,List.set_cons_succ,List.getElem_toArray,List.getElem_cons_succ,List.getElem_cons_zero]
    refine wpAnyH_take (i:=6) (v:=undef) rfl (by kernel_rfl) (by kernel_rfl) (by kernel_rfl) (fun _ _ _ h=>h) (Or.inr ⟨by rfl,rfl⟩) hHeld ?_
    try simp only [Act.put,List.setIfInBounds_toArray,List.set_cons_zero,List.set_cons_succ,List.getElem_toArray,List.getElem_cons_succ,List.getElem_cons_zero]
    refine wpAnyH_take (i:=7) (v:=undef) rfl (by kernel_rfl) (by kernel_rfl) (by kernel_rfl) (fun _ _ _ h=>h) (Or.inr ⟨by rfl,rfl⟩) hHeld ?_
    try simp only [Act.put,List.setIfInBounds_toArray,List.set_cons_zero,List.set_cons_succ,List.getElem_toArray,List.getElem_cons_succ,List.getElem_cons_zero]
    refine wpAnyH_take (i:=8) (v:=undef) rfl (by kernel_rfl) (by kernel_rfl) (by kernel_rfl) (fun _ _ _ h=>h) (Or.inr ⟨by rfl,rfl⟩) hHeld ?_
    try simp only [Act.put,List.setIfInBounds_toArray,List.set_cons_zero,List.set_cons_succ,List.getElem_toArray,List.getElem_cons_succ,List.getElem_cons_zero]
    refine wpAnyH_take (i:=9) (v:=undef) rfl (by kernel_rfl) (by kernel_rfl) (by kernel_rfl) (fun _ _ _ h=>h) (Or.inr ⟨by rfl,rfl⟩) hHeld ?_
    try simp only [Act.put,List.setIfInBounds_toArray,List.set_cons_zero,List.set_cons_succ,List.getElem_toArray,List.getElem_cons_succ,List.getElem_cons_zero]
    refine wpAnyH_take (i:=10) (v:=undef) rfl (by kernel_rfl) (by kernel_rfl) (by kernel_rfl) (fun _ _ _ h=>h) (Or.inr ⟨by rfl,rfl⟩) hHeld ?_
    try simp only [Act.put,List.setIfInBounds_toArray,List.set_cons_zero,List.set_cons_succ,List.getElem_toArray,List.getElem_cons_succ,List.getElem_cons_zero]
    refine wpAnyH_take (i:=11) (v:=undef) rfl (by kernel_rfl) (by kernel_rfl) (by kernel_rfl) (fun _ _ _ h=>h) (Or.inr ⟨by rfl,rfl⟩) hHeld ?_
    try simp only [Act.put,List.setIfInBounds_toArray,List.set_cons_zero,List.set_cons_succ,List.getElem_toArray,List.getElem_cons_succ,List.getElem_cons_zero]
    refine wpAnyH_take (i:=12) (v:=undef) rfl (by kernel_rfl) (by kernel_rfl) (by kernel_rfl) (fun _ _ _ h=>h) (Or.inr ⟨by rfl,rfl⟩) hHeld ?_
    try simp only [Act.put,List.setIfInBounds_toArray,List.set_cons_zero,List.set_cons_succ,List.getElem_toArray,List.getElem_cons_succ,List.getElem_cons_zero]
    refine wpAnyH_take (i:=13) (v:=undef) rfl (by kernel_rfl) (by kernel_rfl) (by kernel_rfl) (fun _ _ _ h=>h) (Or.inr ⟨by rfl,rfl⟩) hHeld ?_
    try simp only [Act.put,List.setIfInBounds_toArray,List.set_cons_zero,List.set_cons_succ,List.getElem_toArray,List.getElem_cons_succ,List.getElem_cons_zero]
    refine wpAnyH_take (i:=14) (v:=undef) rfl (by kernel_rfl) (by kernel_rfl) (by kernel_rfl) (fun _ _ _ h=>h) (Or.inr ⟨by rfl,rfl⟩) hHeld ?_
    try simp only [Act.put,List.setIfInBounds_toArray,List.set_cons_zero,List.set_cons_succ,List.getElem_toArray,List.getElem_cons_succ,List.getElem_cons_zero]
    refine wpAnyH_take (i:=15) (v:=undef) rfl (by kernel_rfl) (by kernel_rfl) (by kernel_rfl) (fun _ _ _ h=>h) (Or.inr ⟨by rfl,rfl⟩) hHeld ?_
    try simp only [Act.put,List.setIfInBounds_toArray,List.set_cons_zero,List.set_cons_succ,List.getElem_toArray,List.getElem_cons_succ,List.getElem_cons_zero]
    refine wpAnyH_take (i:=16) (v:=?_) rfl (by kernel_rfl) (by kernel_rfl) (by kernel_rfl) (fun _ _ _ h=>h) (Or.inl ⟨by rfl,?_⟩) hHeld ?_
    rotate_left
    ·(intro W hSw;(try dsimp only at hSw);go_simp;try with_reducible rfl)
    try simp only [Act.put,List.setIfInBounds_toArray,List.set_cons_zero,List.set_cons_succ,List.getElem_toArray,List.getElem_cons_succ,List.getElem_cons_zero]
    refine wpAnyH_take (i:=17) (v:=?_) rfl (by kernel_rfl) (by kernel_rfl) (by kernel_rfl) (fun _ _ _ h=>h) (Or.inl ⟨by rfl,?_⟩) hHeld ?_
    rotate_left
    ·(intro W hSw;(try dsimp only at hSw);go_simp;try with_reducible rfl)
    try simp only [Act.put,List.setIfInBounds_toArray,List.set_cons_zero,List.set_cons_succ,List.getElem_toArray,List.getElem_cons_succ,List.getElem_cons_zero]
    refine wpAnyH_take (i:=18) (v:=?_) rfl (by kernel_rfl) (by kernel_rfl) (by kernel_rfl) (fun _ _ _ h=>h) (Or.inl ⟨by rfl,?_⟩) hHeld ?_
    rotate_left
    ·(intro W hSw;(try dsimp only at hSw);go_simp;try with_reducible rfl)
    try simp only [Act.put,List.setIfInBounds_toArray,List.set_cons_zero,List.set_cons_succ,List.getElem_toArray,List.getElem_cons_succ,List.getElem_cons_zero]
    refine wpAnyH_take (i:=19) (v:=?_) rfl (by kernel_rfl) (by kernel_rfl) (by kernel_rfl) (fun _ _ _ h=>h) (Or.inl ⟨by rfl,?_⟩) hHeld ?_
    rotate_left
    ·(intro W hSw;(try dsimp only at hSw);go_simp;try with_reducible rfl)
    try simp only [Act.put,List.setIfInBounds_toArray,List.set_cons_zero,List.set_cons_succ,List.getElem_toArray,List.getElem_cons_succ,List.getElem_cons_zero]
    refine wpAnyH_take (i:=20) (v:=undef) rfl (by kernel_rfl) (by kernel_rfl) (by kernel_rfl) (fun _ _ _ h=>h) (Or.inr ⟨by rfl,rfl⟩) hHeld ?_
    try simp only [Act.put,List.setIfInBounds_toArray,List.set_cons_zero,List.set_cons_succ,List.getElem_toArray,List.getElem_cons_succ,List.getElem_cons_zero]
    refine wpAnyH_take (i:=21) (v:=undef) rfl (by kernel_rfl) (by kernel_rfl) (by kernel_rfl) (fun _ _ _ h=>h) (Or.inr ⟨by rfl,rfl⟩) hHeld ?_
    try simp only [Act.put,List.setIfInBounds_toArray,List.set_cons_zero,List.set_cons_succ,List.getElem_toArray,List.getElem_cons_succ,List.getElem_cons_zero]
    refine wpAnyH_take (i:=22) (v:=undef) rfl (by kernel_rfl) (by kernel_rfl) (by kernel_rfl) (fun _ _ _ h=>h) (Or.inr ⟨by rfl,rfl⟩) hHeld ?_
    try simp only [Act.put,List.setIfInBounds_toArray,List.set_cons_zero,List.set_cons_succ,List.getElem_toArray,List.getElem_cons_succ,List.getElem_cons_zero]
    refine wpAnyH_take (i:=23) (v:=undef) rfl (by kernel_rfl) (by kernel_rfl) (by kernel_rfl) (fun _ _ _ h=>h) (Or.inr ⟨by rfl,rfl⟩) hHeld ?_
    try simp only [Act.put,List.setIfInBounds_toArray,List.set_cons_zero,List.set_cons_succ,List.getElem_toArray,List.getElem_cons_succ,List.getElem_cons_zero]
    refine wpAnyH_take (i:=24) (v:=undef) rfl (by kernel_rfl) (by kernel_rfl) (by kernel_rfl) (fun _ _ _ h=>h) (Or.inr ⟨by rfl,rfl⟩) hHeld ?_
    try simp only [Act.put,List.setIfInBounds_toArray,List.set_cons_zero,List.set_cons_succ,List.getElem_toArray,List.getElem_cons_succ,List.getElem_cons_zero]
    refine wpAnyH_take (i:=25) (v:=undef) rfl (by kernel_rfl) (by kernel_rfl) (by kernel_rfl) (fun _ _ _ h=>h) (Or.inr ⟨by rfl,rfl⟩) hHeld ?_
    try simp only [Act.put,List.setIfInBounds_toArray,List.set_cons_zero,List.set_cons_succ,List.getElem_toArray,List.getElem_cons_succ,List.getElem_cons_zero]
    refine wpAnyH_take (i:=26) (v:=undef) rfl (by kernel_rfl) (by kernel_rfl) (by kernel_rfl) (fun _ _ _ h=>h) (Or.inr ⟨by rfl,rfl⟩) hHeld ?_
    try simp only [Act.put,List.setIfInBounds_toArray,List.set_cons_zero,List.set_cons_succ,List.getElem_toArray,List.getElem_cons_succ,List.getElem_cons_zero]
    refine wpAnyH_take (i:=27) (v:=undef) rfl (by kernel_rfl) (by kernel_rfl) (by kernel_rfl) (fun _ _ _ h=>h) (Or.inr ⟨by rfl,rfl⟩) hHeld ?_
    try simp only [Act.put,List.setIfInBounds_toArray,List.set_cons_zero,List.set_cons_succ,List.getElem_toArray,List.getElem_cons_succ,List.getElem_cons_zero]
    refine wpAnyH_take (i:=28) (v:=undef) rfl (by kernel_rfl) (by kernel_rfl) (by kernel_rfl) (fun _ _ _ h=>h) (Or.inr ⟨by rfl,rfl⟩) hHeld ?_
    try simp only [Act.put,List.setIfInBounds_toArray,List.set_cons_zero,List.set_cons_succ,List.getElem_toArray,List.getElem_cons_succ,List.getElem_cons_zero]
    refine wpAnyH_take (i:=29) (v:=undef) rfl (by kernel_rfl) (by kernel_rfl) (by kernel_rfl) (fun _ _ _ h=>h) (Or.inr ⟨by rfl,rfl⟩) hHeld ?_
    try simp only [Act.put,List.setIfInBounds_toArray,List.set_cons_zero,List.set_cons_succ,List.getElem_toArray,List.getElem_cons_succ,List.getElem_cons_zero]
    refine wpAnyH_take (i:=30) (v:=undef) rfl (by kernel_rfl) (by kernel_rfl) (by kernel_rfl) (fun _ _ _ h=>h) (Or.inr ⟨by rfl,rfl⟩) hHeld ?_
    try simp only [Act.put,List.setIfInBounds_toArray,List.set_cons_zero,List.set_cons_succ,List.getElem_toArray,List.getElem_cons_succ,List.getElem_cons_zero]
    refine wpAnyH_take (i:=31) (v:=?_) rfl (by kernel_rfl) (by kernel_rfl) (by kernel_rfl) (fun _ _ _ h=>h) (Or.inl ⟨by rfl,?_⟩) hHeld ?_
    rotate_left
    ·(intro W hSw;(try dsimp only at hSw);go_simp;try with_reducible rfl)
    try simp only [Act.put,List.setIfInBounds_toArray,List.set_cons_zero,List.set_cons_succ,List.getElem_toArray,List.getElem_cons_succ,List.getElem_cons_zero]
    refine wpAnyH_take (i:=32) (v:=?_) rfl (by kernel_rfl) (by kernel_rfl) (by kernel_rfl) (fun _ _ _ h=>h) (Or.inl ⟨by rfl,?_⟩) hHeld ?_
    rotate_left
    ·(intro W hSw;(try dsimp only at hSw);go_simp;try with_reducible rfl)
    try simp only [Act.put,List.setIfInBounds_toArray,List.set_cons_zero,List.set_cons_succ,List.getElem_toArray,List.getElem_cons_succ,List.getElem_cons_zero]
    refine wpAnyH_take (i:=33) (v:=?_) rfl (by kernel_rfl) (by kernel_rfl) (by kernel_rfl) (fun _ _ _ h=>h) (Or.inl ⟨by rfl,?_⟩) hHeld ?_
    rotate_left
    ·(intro W hSw;(try dsimp only at hSw);go_simp;try with_reducible rfl)
    try simp only [Act.put,List.setIfInBounds_toArray,List.set_cons_zero,List.set_cons_succ,List.getElem_toArray,List.getElem_cons_succ,List.getElem_cons_zero]
    refine wpAnyH_done (by kernel_rfl) ?_ _
    try simp only [Act.put,List.setIfInBounds_toArray,List.set_cons_zero,List.set_cons_succ,List.getElem_toArray,List.getElem_cons_succ,List.getElem_cons_zero]
    clear hHeld
    go_wp2_with fail
    go_ret
    exact ⟨by rw [HR.out];rfl,below_drewN HP5.out 1⟩
   ·rw [hbx,hby] at HR
    go_upto_region 8 with fail
    refine wp_region_held_drew (S:=(fun W=>(W.cell? ⟨K,1,none⟩=some (.map (some M))∧W.cell? ⟨w.heap.size,0,none⟩=some (.int .i64 t.op)∧W.cell? ⟨w.heap.size,1,none⟩=some (.int .i64 t.num)∧W.cell? ⟨w.heap.size,2,none⟩=some (.slice (some ⟨b,o,none⟩) n c))∧(W.cell? ⟨b,o,none⟩=some (.int .i64 x.op)∧W.cell? ⟨b,o + 1,none⟩=some (.int .i64 x.num)∧W.cell? ⟨b,o + 2,none⟩=some (.slice an nn cc))∧W.cell? ⟨b,o + 3,none⟩=some (.int .i64 y.op)∧W.cell? ⟨b,o + 3 + 1,none⟩=some (.int .i64 y.num)∧W.cell? ⟨b,o + 3 + 2,none⟩=some (.slice bn mm dd))) (by kernel_rfl) ⟨⟨k1,x0,x1,x2⟩,⟨c0,c1,c2⟩,d0,d1,d2⟩ (fun hHeld=>?_)
    refine wpAnyH_take (i:=0) (v:=?_) rfl (by kernel_rfl) (by kernel_rfl) (by kernel_rfl) (fun _ _ _ h=>h) (Or.inl ⟨by rfl,?_⟩) hHeld ?_
    rotate_left
    ·(intro W hSw;(try dsimp only at hSw);go_simp;try with_reducible rfl)
    try simp only [Act.put,List.setIfInBounds_toArray,List.set_cons_zero,List.set_cons_succ,List.getElem_toArray,List.getElem_cons_succ,List.getElem_cons_zero]
    refine wpAnyH_take (i:=1) (v:=?_) rfl (by kernel_rfl) (by kernel_rfl) (by kernel_rfl) (fun _ _ _ h=>h) (Or.inl ⟨by rfl,?_⟩) hHeld ?_
    rotate_left
    ·(intro W hSw;(try dsimp only at hSw);go_simp;try with_reducible rfl)
    try simp only [Act.put,List.setIfInBounds_toArray,List.set_cons_zero,List.set_cons_succ,List.getElem_toArray,List.getElem_cons_succ,List.getElem_cons_zero]
    refine wpAnyH_take (i:=2) (v:=undef) rfl (by kernel_rfl) (by kernel_rfl) (by kernel_rfl) (fun _ _ _ h=>h) (Or.inr ⟨by rfl,rfl⟩) hHeld ?_
    try simp only [Act.put,List.setIfInBounds_toArray,List.set_cons_zero,List.set_cons_succ,List.getElem_toArray,List.getElem_cons_succ,List.getElem_cons_zero]
    refine wpAnyH_take (i:=3) (v:=undef) rfl (by kernel_rfl) (by kernel_rfl) (by kernel_rfl) (fun _ _ _ h=>h) (Or.inr ⟨by rfl,rfl⟩) hHeld ?_
    try simp only [Act.put,List.setIfInBounds_toArray,List.set_cons_zero,List.set_cons_succ,List.getElem_toArray,List.getElem_cons_succ,List.getElem_cons_zero]
    refine wpAnyH_take (i:=4) (v:=undef) rfl (by kernel_rfl) (by kernel_rfl) (by kernel_rfl) (fun _ _ _ h=>h) (Or.inr ⟨by rfl,rfl⟩) hHeld ?_
    try simp only [Act.put,List.setIfInBounds_toArray,List.set_cons_zero,List.set_cons_succ,List.getElem_toArray,List.getElem_cons_succ,List.getElem_cons_zero]
    refine wpAnyH_take (i:=5) (v:=undef) rfl (by kernel_rfl) (by kernel_rfl) (by kernel_rfl) (fun _ _ _ h=>h) (Or.inr ⟨by rfl,rfl⟩) hHeld ?_
    try simp only [Act.put,List.setIfInBounds_toArray,List.set_cons_zero,List.set_cons_succ,List.getElem_toArray,List.getElem_cons_succ,List.getElem_cons_zero]
    refine wpAnyH_take (i:=6) (v:=undef) rfl (by kernel_rfl) (by kernel_rfl) (by kernel_rfl) (fun _ _ _ h=>h) (Or.inr ⟨by rfl,rfl⟩) hHeld ?_
    try simp only [Act.put,List.setIfInBounds_toArray,List.set_cons_zero,List.set_cons_succ,List.getElem_toArray,List.getElem_cons_succ,List.getElem_cons_zero]
    refine wpAnyH_take (i:=7) (v:=undef) rfl (by kernel_rfl) (by kernel_rfl) (by kernel_rfl) (fun _ _ _ h=>h) (Or.inr ⟨by rfl,rfl⟩) hHeld ?_
    try simp only [Act.put,List.setIfInBounds_toArray,List.set_cons_zero,List.set_cons_succ,List.getElem_toArray,List.getElem_cons_succ,List.getElem_cons_zero]
    refine wpAnyH_take (i:=8) (v:=undef) rfl (by kernel_rfl) (by kernel_rfl) (by kernel_rfl) (fun _ _ _ h=>h) (Or.inr ⟨by rfl,rfl⟩) hHeld ?_
    try simp only [Act.put,List.setIfInBounds_toArray,List.set_cons_zero,List.set_cons_succ,List.getElem_toArray,List.getElem_cons_succ,List.getElem_cons_zero]
    refine wpAnyH_take (i:=9) (v:=undef) rfl (by kernel_rfl) (by kernel_rfl) (by kernel_rfl) (fun _ _ _ h=>h) (Or.inr ⟨by rfl,rfl⟩) hHeld ?_
    try simp only [Act.put,List.setIfInBounds_toArray,List.set_cons_zero,List.set_cons_succ,List.getElem_toArray,List.getElem_cons_succ,List.getElem_cons_zero]
    refine wpAnyH_take (i:=10) (v:=undef) rfl (by kernel_rfl) (by kernel_rfl) (by kernel_rfl) (fun _ _ _ h=>h) (Or.inr ⟨by rfl,rfl⟩) hHeld ?_
    try simp only [Act.put,List.setIfInBounds_toArray,List.set_cons_zero,List.set_cons_succ,List.getElem_toArray,List.getElem_cons_succ,List.getElem_cons_zero]
    refine wpAnyH_take (i:=11) (v:=undef) rfl (by kernel_rfl) (by kernel_rfl) (by kernel_rfl) (fun _ _ _ h=>h) (Or.inr ⟨by rfl,rfl⟩) hHeld ?_
    try simp only [Act.put,List.setIfInBounds_toArray,List.set_cons_zero,List.set_cons_succ,List.getElem_toArray,List.getElem_cons_succ,List.getElem_cons_zero]
    refine wpAnyH_take (i:=12) (v:=undef) rfl (by kernel_rfl) (by kernel_rfl) (by kernel_rfl) (fun _ _ _ h=>h) (Or.inr ⟨by rfl,rfl⟩) hHeld ?_
    try simp only [Act.put,List.setIfInBounds_toArray,List.set_cons_zero,List.set_cons_succ,List.getElem_toArray,List.getElem_cons_succ,List.getElem_cons_zero]
    refine wpAnyH_take (i:=13) (v:=undef) rfl (by kernel_rfl) (by kernel_rfl) (by kernel_rfl) (fun _ _ _ h=>h) (Or.inr ⟨by rfl,rfl⟩) hHeld ?_
    try simp only [Act.put,List.setIfInBounds_toArray,List.set_cons_zero,List.set_cons_succ,List.getElem_toArray,List.getElem_cons_succ,List.getElem_cons_zero]
    refine wpAnyH_take (i:=14) (v:=undef) rfl (by kernel_rfl) (by kernel_rfl) (by kernel_rfl) (fun _ _ _ h=>h) (Or.inr ⟨by rfl,rfl⟩) hHeld ?_
    try simp only [Act.put,List.setIfInBounds_toArray,List.set_cons_zero,List.set_cons_succ,List.getElem_toArray,List.getElem_cons_succ,List.getElem_cons_zero]
    refine wpAnyH_take (i:=15) (v:=undef) rfl (by kernel_rfl) (by kernel_rfl) (by kernel_rfl) (fun _ _ _ h=>h) (Or.inr ⟨by rfl,rfl⟩) hHeld ?_
    try simp only [Act.put,List.setIfInBounds_toArray,List.set_cons_zero,List.set_cons_succ,List.getElem_toArray,List.getElem_cons_succ,List.getElem_cons_zero]
    refine wpAnyH_take (i:=16) (v:=?_) rfl (by kernel_rfl) (by kernel_rfl) (by kernel_rfl) (fun _ _ _ h=>h) (Or.inl ⟨by rfl,?_⟩) hHeld ?_
    rotate_left
    ·(intro W hSw;(try dsimp only at hSw);go_simp;try with_reducible rfl)
    try simp only [Act.put,List.setIfInBounds_toArray,List.set_cons_zero,List.set_cons_succ,List.getElem_toArray,List.getElem_cons_succ,List.getElem_cons_zero]
    refine wpAnyH_take (i:=17) (v:=?_) rfl (by kernel_rfl) (by kernel_rfl) (by kernel_rfl) (fun _ _ _ h=>h) (Or.inl ⟨by rfl,?_⟩) hHeld ?_
    rotate_left
    ·(intro W hSw;(try dsimp only at hSw);go_simp;try with_reducible rfl)
    try simp only [Act.put,List.setIfInBounds_toArray,List.set_cons_zero,List.set_cons_succ,List.getElem_toArray,List.getElem_cons_succ,List.getElem_cons_zero]
    refine wpAnyH_take (i:=18) (v:=?_) rfl (by kernel_rfl) (by kernel_rfl) (by kernel_rfl) (fun _ _ _ h=>h) (Or.inl ⟨by rfl,?_⟩) hHeld ?_
    rotate_left
    ·(intro W hSw;(try dsimp only at hSw);go_simp;try with_reducible rfl)
    try simp only [Act.put,List.setIfInBounds_toArray,List.set_cons_zero,List.set_cons_succ,List.getElem_toArray,List.getElem_cons_succ,List.getElem_cons_zero]
    refine wpAnyH_take (i:=19) (v:=?_) rfl (by kernel_rfl) (by kernel_rfl) (by kernel_rfl) (fun _ _ _ h=>h) (Or.inl ⟨by rfl,?_⟩) hHeld ?_
    rotate_left
    ·(intro W hSw;(try dsimp only at hSw);go_simp;try with_reducible rfl)
    try simp only [Act.put,List.setIfInBounds_toArray,List.set_cons_zero,List.set_cons_succ,List.getElem_toArray,List.getElem_cons_succ,List.getElem_cons_zero]
    refine wpAnyH_take (i:=20) (v:=?_) rfl (by kernel_rfl) (by kernel_rfl) (by kernel_rfl) (fun _ _ _ h=>h) (Or.inl ⟨by rfl,?_⟩) hHeld ?_
    rotate_left
    ·(intro W hSw;(try dsimp only at hSw);go_simp;try with_reducible rfl)
    try simp only [Act.put,List.setIfInBounds_toArray,List.set_cons_zero,List.set_cons_succ,List.getElem_toArray,List.getElem_cons_succ,List.getElem_cons_zero]
    refine wpAnyH_take (i:=21) (v:=?_) rfl (by kernel_rfl) (by kernel_rfl) (by kernel_rfl) (fun _ _ _ h=>h) (Or.inl ⟨by rfl,?_⟩) hHeld ?_
    rotate_left
    ·(intro W hSw;(try dsimp only at hSw);go_simp;try with_reducible rfl)
    try simp only [Act.put,List.setIfInBounds_toArray,List.set_cons_zero,List.set_cons_succ,List.getElem_toArray,List.getElem_cons_succ,List.getElem_cons_zero]
    refine wpAnyH_take (i:=22) (v:=?_) rfl (by kernel_rfl) (by kernel_rfl) (by kernel_rfl) (fun _ _ _ h=>h) (Or.inl ⟨by rfl,?_⟩) hHeld ?_
    rotate_left
    ·(intro W hSw;(try dsimp only at hSw);go_simp;try with_reducible rfl)
    try simp only [Act.put,List.setIfInBounds_toArray,List.set_cons_zero,List.set_cons_succ,List.getElem_toArray,List.getElem_cons_succ,List.getElem_cons_zero]
    refine wpAnyH_take (i:=23) (v:=?_) rfl (by kernel_rfl) (by kernel_rfl) (by kernel_rfl) (fun _ _ _ h=>h) (Or.inl ⟨by rfl,?_⟩) hHeld ?_
    rotate_left
    ·(intro W hSw;(try dsimp only at hSw);go_simp;try with_reducible rfl)
    try simp only [Act.put,List.setIfInBounds_toArray,List.set_cons_zero,List.set_cons_succ,List.getElem_toArray,List.getElem_cons_succ,List.getElem_cons_zero]
    refine wpAnyH_take (i:=24) (v:=?_) rfl (by kernel_rfl) (by kernel_rfl) (by kernel_rfl) (fun _ _ _ h=>h) (Or.inl ⟨by rfl,?_⟩) hHeld ?_
    rotate_left
    ·(intro W hSw;(try dsimp only at hSw);go_simp;try with_reducible rfl)
    try simp only [Act.put,List.setIfInBounds_toArray,List.set_cons_zero,List.set_cons_succ,List.getElem_toArray,List.getElem_cons_succ,List.getElem_cons_zero]
    refine wpAnyH_take (i:=25) (v:=?_) rfl (by kernel_rfl) (by kernel_rfl) (by kernel_rfl) (fun _ _ _ h=>h) (Or.inl ⟨by rfl,?_⟩) hHeld ?_
    rotate_left
    ·(intro W hSw;(try dsimp only at hSw);go_simp;try with_reducible rfl)
    try simp only [Act.put,List.setIfInBounds_toArray,List.set_cons_zero,List.set_cons_succ,List.getElem_toArray,List.getElem_cons_succ,List.getElem_cons_zero]
    refine wpAnyH_take (i:=26) (v:=?_) rfl (by kernel_rfl) (by kernel_rfl) (by kernel_rfl) (fun _ _ _ h=>h) (Or.inl ⟨by rfl,?_⟩) hHeld ?_
    rotate_left
    ·(intro W hSw;(try dsimp only at hSw);go_simp;try with_reducible rfl)
    try simp only [Act.put,List.setIfInBounds_toArray,List.set_cons_zero,List.set_cons_succ,List.getElem_toArray,List.getElem_cons_succ,List.getElem_cons_zero]
    refine wpAnyH_take (i:=27) (v:=?_) rfl (by kernel_rfl) (by kernel_rfl) (by kernel_rfl) (fun _ _ _ h=>h) (Or.inl ⟨by rfl,?_⟩) hHeld ?_
    rotate_left
    ·(intro W hSw;(try dsimp only at hSw);go_simp;try with_reducible rfl)
    try simp only [Act.put,List.setIfInBounds_toArray,List.set_cons_zero,List.set_cons_succ,List.getElem_toArray,List.getElem_cons_succ,List.getElem_cons_zero]
    refine wpAnyH_ready (rs:=[28]) (by kernel_rfl) (by simp) ?_
    refine AllReadyH.cons rfl (fun K1 hK1=>?_) AllReadyH.nil
    go_simp
    refine (pub_any x an nn cc w5.drew ok (HTX5.out.below (below_drewN (Below.refl _ _) 1)) hb.2).mono ?_
    rintro e w6 ⟨g,rfl,hTP,hw6⟩
    have hw6':Below w5.heap.size w5 w6:=(below_drewN (Below.refl _ _) 1:Below w5.heap.size w5 w5.drew).trans hw6
    have HTP:=Lib.hid hTP
    refine hK1.out _ _ ⟨⟨(hw6'.cell (p:=⟨K,1,none⟩) (lt_of_cell k1)).trans k1,(hw6'.cell (p:=⟨w.heap.size,0,none⟩) (lt_of_cell x0)).trans x0,(hw6'.cell (p:=⟨w.heap.size,1,none⟩) (lt_of_cell x1)).trans x1,(hw6'.cell (p:=⟨w.heap.size,2,none⟩) (lt_of_cell x2)).trans x2⟩,⟨(hw6'.cell (p:=⟨b,o,none⟩) (lt_of_cell c0)).trans c0,(hw6'.cell (p:=⟨b,o + 1,none⟩) (lt_of_cell c1)).trans c1,(hw6'.cell (p:=⟨b,o + 2,none⟩) (lt_of_cell c2)).trans c2⟩,(hw6'.cell (p:=⟨b,o + 3,none⟩) (lt_of_cell d0)).trans d0,(hw6'.cell (p:=⟨b,o + 3 + 1,none⟩) (lt_of_cell d1)).trans d1,(hw6'.cell (p:=⟨b,o + 3 + 2,none⟩) (lt_of_cell d2)).trans d2⟩ (fun hHeld=>?_)
    clear hK1
    try simp only [Act.put,List.setIfInBounds_toArray,List.set_cons_zero,List.set_cons_succ,List.getElem_toArray,List.getElem_cons_succ,List.getElem_cons_zero]
    have HW6:=Lib.hid hw6'
    clear hw6 hw6' hTP
    refine wpAnyH_ready (rs:=[29]) (by kernel_rfl) (by simp) ?_
    refine AllReadyH.cons rfl (fun K1 hK1=>?_) AllReadyH.nil
    go_simp
    refine (text_any (Tm.pub x).size (Tm.pub x) (some ⟨g,0,none⟩) 1 1 w6 _ (Nat.le_refl _) HTP.out (Tm.wf_pub HWX.out.1) (HE5.out.below HW6.out) (by rw [Tm.size_pub];have:=HSX.out.1.2;omega)).mono ?_
    rintro e w7 ⟨rfl,hw7⟩
    simp only [Str]
    have HW7:=Lib.hid (pure_trans HW6.out hw7)
    have hz7:Hid ((zeroValue 4).run Tryd.prog w7=.ok (.bool false) w7):=by show _=_;kernel_rfl
    refine hK1.out _ _ ⟨⟨(HW7.out.cell (p:=⟨K,1,none⟩) (lt_of_cell k1)).trans k1,(HW7.out.cell (p:=⟨w.heap.size,0,none⟩) (lt_of_cell x0)).trans x0,(HW7.out.cell (p:=⟨w.heap.size,1,none⟩) (lt_of_cell x1)).trans x1,(HW7.out.cell (p:=⟨w.heap.size,2,none⟩) (lt_of_cell x2)).trans x2⟩,⟨(HW7.out.cell (p:=⟨b,o,none⟩) (lt_of_cell c0)).trans c0,(HW7.out.cell (p:=⟨b,o + 1,none⟩) (lt_of_cell c1)).trans c1,(HW7.out.cell (p:=⟨b,o + 2,none⟩) (lt_of_cell c2)).trans c2⟩,(HW7.out.cell (p:=⟨b,o + 3,none⟩) (lt_of_cell d0)).trans d0,(HW7.out.cell (p:=⟨b,o + 3 + 1,none⟩) (lt_of_cell d1)).trans d1,(HW7.out.cell (p:=⟨b,o + 3 + 2,none⟩) (lt_of_cell d2)).trans d2⟩ (fun hHeld=>?_)
    clear hK1
    try simp only [Act.put,List.setIfInBounds_toArray,List.set_cons_zero,List.set_cons_succ,List.getElem_toArray,List.getElem_cons_succ,List.getElem_cons_zero]
    clear hw7
    refine wpAnyH_ready (rs:=[30]) (by kernel_rfl) (by simp) ?_
    refine AllReadyH.cons rfl (fun K1 hK1=>?_) AllReadyH.nil
    rw [if_pos (by rfl)]
    refine wp_lookup_bool _ _ _ 73 rfl 9 4 (string_keyed Tryd.underlying9) Tryd.underlying73 Tryd.underlying4 hz7.out M nm D rfl (own_map_keep HMAP5.out (HW7.out.block M (own_map_lt HMAP5.out))) _ _ rfl (keyStr (Tm.text (Tm.pub x)) (by have h1:=Tm.text_len _ (Tm.wf_pub HWX.out.1);rw [Tm.size_pub] at h1;have h2:=HSX.out.1.2;omega)) (decide (Tm.pub x ∈ C)) ((HD.out (Tm.pub x) (Tm.wf_pub HWX.out.1))) ?_
    refine hK1.out _ _ hHeld (fun hHeld=>?_)
    clear hK1
    try simp only [Act.put,List.setIfInBounds_toArray,List.set_cons_zero,List.set_cons_succ,List.getElem_toArray,List.getElem_cons_succ,List.getElem_cons_zero]
    refine wpAnyH_take (i:=31) (v:=?_) rfl (by kernel_rfl) (by kernel_rfl) (by kernel_rfl) (fun _ _ _ h=>h) (Or.inl ⟨by rfl,?_⟩) hHeld ?_
    rotate_left
    ·(intro W hSw;(try dsimp only at hSw);go_simp;try with_reducible rfl)
    try simp only [Act.put,List.setIfInBounds_toArray,List.set_cons_zero,List.set_cons_succ,List.getElem_toArray,List.getElem_cons_succ,List.getElem_cons_zero]
    refine wpAnyH_take (i:=32) (v:=?_) rfl (by kernel_rfl) (by kernel_rfl) (by kernel_rfl) (fun _ _ _ h=>h) (Or.inl ⟨by rfl,?_⟩) hHeld ?_
    rotate_left
    ·(intro W hSw;(try dsimp only at hSw);go_simp;try with_reducible rfl)
    try simp only [Act.put,List.setIfInBounds_toArray,List.set_cons_zero,List.set_cons_succ,List.getElem_toArray,List.getElem_cons_succ,List.getElem_cons_zero]
    refine wpAnyH_take (i:=33) (v:=?_) rfl (by kernel_rfl) (by kernel_rfl) (by kernel_rfl) (fun _ _ _ h=>h) (Or.inl ⟨by rfl,?_⟩) hHeld ?_
    rotate_left
    ·(intro W hSw;(try dsimp only at hSw);go_simp;try with_reducible rfl)
    try simp only [Act.put,List.setIfInBounds_toArray,List.set_cons_zero,List.set_cons_succ,List.getElem_toArray,List.getElem_cons_succ,List.getElem_cons_zero]
    refine wpAnyH_done (by kernel_rfl) ?_ _
    try simp only [Act.put,List.setIfInBounds_toArray,List.set_cons_zero,List.set_cons_succ,List.getElem_toArray,List.getElem_cons_succ,List.getElem_cons_zero]
    clear hHeld
    go_wp2_with fail
    go_ret
    exact ⟨by rw [HR.out];simp,pure_trans HP5.out HW7.out⟩
   ·rw [hbx,hby] at HR
    go_upto_region 8 with fail
    cases hpb:decide (Tm.pub y ∈ C)
    ·rw [hpb] at HR
     refine wp_region_held_drew (S:=(fun W=>(W.cell? ⟨K,1,none⟩=some (.map (some M))∧W.cell? ⟨w.heap.size,0,none⟩=some (.int .i64 t.op)∧W.cell? ⟨w.heap.size,1,none⟩=some (.int .i64 t.num)∧W.cell? ⟨w.heap.size,2,none⟩=some (.slice (some ⟨b,o,none⟩) n c))∧(W.cell? ⟨b,o,none⟩=some (.int .i64 x.op)∧W.cell? ⟨b,o + 1,none⟩=some (.int .i64 x.num)∧W.cell? ⟨b,o + 2,none⟩=some (.slice an nn cc))∧W.cell? ⟨b,o + 3,none⟩=some (.int .i64 y.op)∧W.cell? ⟨b,o + 3 + 1,none⟩=some (.int .i64 y.num)∧W.cell? ⟨b,o + 3 + 2,none⟩=some (.slice bn mm dd))) (by kernel_rfl) ⟨⟨k1,x0,x1,x2⟩,⟨c0,c1,c2⟩,d0,d1,d2⟩ (fun hHeld=>?_)
     refine wpAnyH_take (i:=0) (v:=?_) rfl (by kernel_rfl) (by kernel_rfl) (by kernel_rfl) (fun _ _ _ h=>h) (Or.inl ⟨by rfl,?_⟩) hHeld ?_
     rotate_left
     ·(intro W hSw;(try dsimp only at hSw);go_simp;try with_reducible rfl)
     try simp only [Act.put,List.setIfInBounds_toArray,List.set_cons_zero,List.set_cons_succ,List.getElem_toArray,List.getElem_cons_succ,List.getElem_cons_zero]
     refine wpAnyH_take (i:=1) (v:=?_) rfl (by kernel_rfl) (by kernel_rfl) (by kernel_rfl) (fun _ _ _ h=>h) (Or.inl ⟨by rfl,?_⟩) hHeld ?_
     rotate_left
     ·(intro W hSw;(try dsimp only at hSw);go_simp;try with_reducible rfl)
     try simp only [Act.put,List.setIfInBounds_toArray,List.set_cons_zero,List.set_cons_succ,List.getElem_toArray,List.getElem_cons_succ,List.getElem_cons_zero]
     refine wpAnyH_take (i:=2) (v:=?_) rfl (by kernel_rfl) (by kernel_rfl) (by kernel_rfl) (fun _ _ _ h=>h) (Or.inl ⟨by rfl,?_⟩) hHeld ?_
     rotate_left
     ·(intro W hSw;(try dsimp only at hSw);go_simp;try with_reducible rfl)
     try simp only [Act.put,List.setIfInBounds_toArray,List.set_cons_zero,List.set_cons_succ,List.getElem_toArray,List.getElem_cons_succ,List.getElem_cons_zero]
     refine wpAnyH_take (i:=3) (v:=?_) rfl (by kernel_rfl) (by kernel_rfl) (by kernel_rfl) (fun _ _ _ h=>h) (Or.inl ⟨by rfl,?_⟩) hHeld ?_
     rotate_left
     ·(intro W hSw;(try dsimp only at hSw);go_simp;try with_reducible rfl)
     try simp only [Act.put,List.setIfInBounds_toArray,List.set_cons_zero,List.set_cons_succ,List.getElem_toArray,List.getElem_cons_succ,List.getElem_cons_zero]
     refine wpAnyH_take (i:=4) (v:=?_) rfl (by kernel_rfl) (by kernel_rfl) (by kernel_rfl) (fun _ _ _ h=>h) (Or.inl ⟨by rfl,?_⟩) hHeld ?_
     rotate_left
     ·(intro W hSw;(try dsimp only at hSw);go_simp;try with_reducible rfl)
     try simp only [Act.put,List.setIfInBounds_toArray,List.set_cons_zero,List.set_cons_succ,List.getElem_toArray,List.getElem_cons_succ,List.getElem_cons_zero]
     refine wpAnyH_take (i:=5) (v:=?_) rfl (by kernel_rfl) (by kernel_rfl) (by kernel_rfl) (fun _ _ _ h=>h) (Or.inl ⟨by rfl,?_⟩) hHeld ?_
     rotate_left
     ·(intro W hSw;(try dsimp only at hSw);go_simp;try with_reducible rfl)
     try simp only [Act.put,List.setIfInBounds_toArray,List.set_cons_zero,List.set_cons_succ,List.getElem_toArray,List.getElem_cons_succ,List.getElem_cons_zero]
     refine wpAnyH_take (i:=6) (v:=?_) rfl (by kernel_rfl) (by kernel_rfl) (by kernel_rfl) (fun _ _ _ h=>h) (Or.inl ⟨by rfl,?_⟩) hHeld ?_
     rotate_left
     ·(intro W hSw;(try dsimp only at hSw);go_simp;try with_reducible rfl)
     try simp only [Act.put,List.setIfInBounds_toArray,List.set_cons_zero,List.set_cons_succ,List.getElem_toArray,List.getElem_cons_succ,List.getElem_cons_zero]
     refine wpAnyH_take (i:=7) (v:=?_) rfl (by kernel_rfl) (by kernel_rfl) (by kernel_rfl) (fun _ _ _ h=>h) (Or.inl ⟨by rfl,?_⟩) hHeld ?_
     rotate_left
     ·(intro W hSw;(try dsimp only at hSw);go_simp;try with_reducible rfl)
     try simp only [Act.put,List.setIfInBounds_toArray,List.set_cons_zero,List.set_cons_succ,List.getElem_toArray,List.getElem_cons_succ,List.getElem_cons_zero]
     refine wpAnyH_take (i:=8) (v:=?_) rfl (by kernel_rfl) (by kernel_rfl) (by kernel_rfl) (fun _ _ _ h=>h) (Or.inl ⟨by rfl,?_⟩) hHeld ?_
     rotate_left
     ·(intro W hSw;(try dsimp only at hSw);go_simp;try with_reducible rfl)
     try simp only [Act.put,List.setIfInBounds_toArray,List.set_cons_zero,List.set_cons_succ,List.getElem_toArray,List.getElem_cons_succ,List.getElem_cons_zero]
     refine wpAnyH_take (i:=9) (v:=?_) rfl (by kernel_rfl) (by kernel_rfl) (by kernel_rfl) (fun _ _ _ h=>h) (Or.inl ⟨by rfl,?_⟩) hHeld ?_
     rotate_left
     ·(intro W hSw;(try dsimp only at hSw);go_simp;try with_reducible rfl)
     try simp only [Act.put,List.setIfInBounds_toArray,List.set_cons_zero,List.set_cons_succ,List.getElem_toArray,List.getElem_cons_succ,List.getElem_cons_zero]
     refine wpAnyH_take (i:=10) (v:=?_) rfl (by kernel_rfl) (by kernel_rfl) (by kernel_rfl) (fun _ _ _ h=>h) (Or.inl ⟨by rfl,?_⟩) hHeld ?_
     rotate_left
     ·(intro W hSw;(try dsimp only at hSw);go_simp;try with_reducible rfl)
     try simp only [Act.put,List.setIfInBounds_toArray,List.set_cons_zero,List.set_cons_succ,List.getElem_toArray,List.getElem_cons_succ,List.getElem_cons_zero]
     refine wpAnyH_take (i:=11) (v:=?_) rfl (by kernel_rfl) (by kernel_rfl) (by kernel_rfl) (fun _ _ _ h=>h) (Or.inl ⟨by rfl,?_⟩) hHeld ?_
     rotate_left
     ·(intro W hSw;(try dsimp only at hSw);go_simp;try with_reducible rfl)
     try simp only [Act.put,List.setIfInBounds_toArray,List.set_cons_zero,List.set_cons_succ,List.getElem_toArray,List.getElem_cons_succ,List.getElem_cons_zero]
     refine wpAnyH_ready (rs:=[12]) (by kernel_rfl) (by simp) ?_
     refine AllReadyH.cons rfl (fun K1 hK1=>?_) AllReadyH.nil
     go_simp
     refine (pub_any y bn mm dd w5.drew ok (HTY5.out.below (below_drewN (Below.refl _ _) 1)) hb2.2).mono ?_
     rintro e w6 ⟨g,rfl,hTP,hw6⟩
     have hw6':Below w5.heap.size w5 w6:=(below_drewN (Below.refl _ _) 1:Below w5.heap.size w5 w5.drew).trans hw6
     have HTP:=Lib.hid hTP
     refine hK1.out _ _ ⟨⟨(hw6'.cell (p:=⟨K,1,none⟩) (lt_of_cell k1)).trans k1,(hw6'.cell (p:=⟨w.heap.size,0,none⟩) (lt_of_cell x0)).trans x0,(hw6'.cell (p:=⟨w.heap.size,1,none⟩) (lt_of_cell x1)).trans x1,(hw6'.cell (p:=⟨w.heap.size,2,none⟩) (lt_of_cell x2)).trans x2⟩,⟨(hw6'.cell (p:=⟨b,o,none⟩) (lt_of_cell c0)).trans c0,(hw6'.cell (p:=⟨b,o + 1,none⟩) (lt_of_cell c1)).trans c1,(hw6'.cell (p:=⟨b,o + 2,none⟩) (lt_of_cell c2)).trans c2⟩,(hw6'.cell (p:=⟨b,o + 3,none⟩) (lt_of_cell d0)).trans d0,(hw6'.cell (p:=⟨b,o + 3 + 1,none⟩) (lt_of_cell d1)).trans d1,(hw6'.cell (p:=⟨b,o + 3 + 2,none⟩) (lt_of_cell d2)).trans d2⟩ (fun hHeld=>?_)
     clear hK1
     try simp only [Act.put,List.setIfInBounds_toArray,List.set_cons_zero,List.set_cons_succ,List.getElem_toArray,List.getElem_cons_succ,List.getElem_cons_zero]
     have HW6:=Lib.hid hw6'
     clear hw6 hw6' hTP
     refine wpAnyH_ready (rs:=[13]) (by kernel_rfl) (by simp) ?_
     refine AllReadyH.cons rfl (fun K1 hK1=>?_) AllReadyH.nil
     go_simp
     refine (text_any (Tm.pub y).size (Tm.pub y) (some ⟨g,0,none⟩) 1 1 w6 _ (Nat.le_refl _) HTP.out (Tm.wf_pub HWX.out.2) (HE5.out.below HW6.out) (by rw [Tm.size_pub];have:=HSX.out.2.2;omega)).mono ?_
     rintro e w7 ⟨rfl,hw7⟩
     simp only [Str]
     have HW7:=Lib.hid (pure_trans HW6.out hw7)
     have hz7:Hid ((zeroValue 4).run Tryd.prog w7=.ok (.bool false) w7):=by show _=_;kernel_rfl
     refine hK1.out _ _ ⟨⟨(HW7.out.cell (p:=⟨K,1,none⟩) (lt_of_cell k1)).trans k1,(HW7.out.cell (p:=⟨w.heap.size,0,none⟩) (lt_of_cell x0)).trans x0,(HW7.out.cell (p:=⟨w.heap.size,1,none⟩) (lt_of_cell x1)).trans x1,(HW7.out.cell (p:=⟨w.heap.size,2,none⟩) (lt_of_cell x2)).trans x2⟩,⟨(HW7.out.cell (p:=⟨b,o,none⟩) (lt_of_cell c0)).trans c0,(HW7.out.cell (p:=⟨b,o + 1,none⟩) (lt_of_cell c1)).trans c1,(HW7.out.cell (p:=⟨b,o + 2,none⟩) (lt_of_cell c2)).trans c2⟩,(HW7.out.cell (p:=⟨b,o + 3,none⟩) (lt_of_cell d0)).trans d0,(HW7.out.cell (p:=⟨b,o + 3 + 1,none⟩) (lt_of_cell d1)).trans d1,(HW7.out.cell (p:=⟨b,o + 3 + 2,none⟩) (lt_of_cell d2)).trans d2⟩ (fun hHeld=>?_)
     clear hK1
     try simp only [Act.put,List.setIfInBounds_toArray,List.set_cons_zero,List.set_cons_succ,List.getElem_toArray,List.getElem_cons_succ,List.getElem_cons_zero]
     clear hw7
     refine wpAnyH_ready (rs:=[14]) (by kernel_rfl) (by simp) ?_
     refine AllReadyH.cons rfl (fun K1 hK1=>?_) AllReadyH.nil
     rw [if_pos (by rfl)]
     refine wp_lookup_bool _ _ _ 73 rfl 9 4 (string_keyed Tryd.underlying9) Tryd.underlying73 Tryd.underlying4 hz7.out M nm D rfl (own_map_keep HMAP5.out (HW7.out.block M (own_map_lt HMAP5.out))) _ _ rfl (keyStr (Tm.text (Tm.pub y)) (by have h1:=Tm.text_len _ (Tm.wf_pub HWX.out.2);rw [Tm.size_pub] at h1;have h2:=HSX.out.2.2;omega)) false ((HD.out (Tm.pub y) (Tm.wf_pub HWX.out.2)).trans (by rw [hpb])) ?_
     refine hK1.out _ _ hHeld (fun hHeld=>?_)
     clear hK1
     try simp only [Act.put,List.setIfInBounds_toArray,List.set_cons_zero,List.set_cons_succ,List.getElem_toArray,List.getElem_cons_succ,List.getElem_cons_zero]
     refine wpAnyH_take (i:=15) (v:=?_) rfl (by kernel_rfl) (by kernel_rfl) (by kernel_rfl) (fun _ _ _ h=>h) (Or.inl ⟨by rfl,?_⟩) hHeld ?_
     rotate_left
     ·(intro W hSw;(try dsimp only at hSw);go_simp;try with_reducible rfl)
     try simp only [Act.put,List.setIfInBounds_toArray,List.set_cons_zero,List.set_cons_succ,List.getElem_toArray,List.getElem_cons_succ,List.getElem_cons_zero]
     refine wpAnyH_take (i:=16) (v:=?_) rfl (by kernel_rfl) (by kernel_rfl) (by kernel_rfl) (fun _ _ _ h=>h) (Or.inl ⟨by rfl,?_⟩) hHeld ?_
     rotate_left
     ·(intro W hSw;(try dsimp only at hSw);go_simp;try with_reducible rfl)
     try simp only [Act.put,List.setIfInBounds_toArray,List.set_cons_zero,List.set_cons_succ,List.getElem_toArray,List.getElem_cons_succ,List.getElem_cons_zero]
     refine wpAnyH_take (i:=17) (v:=?_) rfl (by kernel_rfl) (by kernel_rfl) (by kernel_rfl) (fun _ _ _ h=>h) (Or.inl ⟨by rfl,?_⟩) hHeld ?_
     rotate_left
     ·(intro W hSw;(try dsimp only at hSw);go_simp;try with_reducible rfl)
     try simp only [Act.put,List.setIfInBounds_toArray,List.set_cons_zero,List.set_cons_succ,List.getElem_toArray,List.getElem_cons_succ,List.getElem_cons_zero]
     refine wpAnyH_take (i:=18) (v:=?_) rfl (by kernel_rfl) (by kernel_rfl) (by kernel_rfl) (fun _ _ _ h=>h) (Or.inl ⟨by rfl,?_⟩) hHeld ?_
     rotate_left
     ·(intro W hSw;(try dsimp only at hSw);go_simp;try with_reducible rfl)
     try simp only [Act.put,List.setIfInBounds_toArray,List.set_cons_zero,List.set_cons_succ,List.getElem_toArray,List.getElem_cons_succ,List.getElem_cons_zero]
     refine wpAnyH_take (i:=19) (v:=?_) rfl (by kernel_rfl) (by kernel_rfl) (by kernel_rfl) (fun _ _ _ h=>h) (Or.inl ⟨by rfl,?_⟩) hHeld ?_
     rotate_left
     ·(intro W hSw;(try dsimp only at hSw);go_simp;try with_reducible rfl)
     try simp only [Act.put,List.setIfInBounds_toArray,List.set_cons_zero,List.set_cons_succ,List.getElem_toArray,List.getElem_cons_succ,List.getElem_cons_zero]
     refine wpAnyH_take (i:=20) (v:=undef) rfl (by kernel_rfl) (by kernel_rfl) (by kernel_rfl) (fun _ _ _ h=>h) (Or.inr ⟨by rfl,rfl⟩) hHeld ?_
     try simp only [Act.put,List.setIfInBounds_toArray,List.set_cons_zero,List.set_cons_succ,List.getElem_toArray,List.getElem_cons_succ,List.getElem_cons_zero]
     refine wpAnyH_take (i:=21) (v:=undef) rfl (by kernel_rfl) (by kernel_rfl) (by kernel_rfl) (fun _ _ _ h=>h) (Or.inr ⟨by rfl,rfl⟩) hHeld ?_
     try simp only [Act.put,List.setIfInBounds_toArray,List.set_cons_zero,List.set_cons_succ,List.getElem_toArray,List.getElem_cons_succ,List.getElem_cons_zero]
     refine wpAnyH_take (i:=22) (v:=undef) rfl (by kernel_rfl) (by kernel_rfl) (by kernel_rfl) (fun _ _ _ h=>h) (Or.inr ⟨by rfl,rfl⟩) hHeld ?_
     try simp only [Act.put,List.setIfInBounds_toArray,List.set_cons_zero,List.set_cons_succ,List.getElem_toArray,List.getElem_cons_succ,List.getElem_cons_zero]
     refine wpAnyH_take (i:=23) (v:=undef) rfl (by kernel_rfl) (by kernel_rfl) (by kernel_rfl) (fun _ _ _ h=>h) (Or.inr ⟨by rfl,rfl⟩) hHeld ?_
     try simp only [Act.put,List.setIfInBounds_toArray,List.set_cons_zero,List.set_cons_succ,List.getElem_toArray,List.getElem_cons_succ,List.getElem_cons_zero]
     refine wpAnyH_take (i:=24) (v:=undef) rfl (by kernel_rfl) (by kernel_rfl) (by kernel_rfl) (fun _ _ _ h=>h) (Or.inr ⟨by rfl,rfl⟩) hHeld ?_
     try simp only [Act.put,List.setIfInBounds_toArray,List.set_cons_zero,List.set_cons_succ,List.getElem_toArray,List.getElem_cons_succ,List.getElem_cons_zero]
     refine wpAnyH_take (i:=25) (v:=undef) rfl (by kernel_rfl) (by kernel_rfl) (by kernel_rfl) (fun _ _ _ h=>h) (Or.inr ⟨by rfl,rfl⟩) hHeld ?_
     try simp only [Act.put,List.setIfInBounds_toArray,List.set_cons_zero,List.set_cons_succ,List.getElem_toArray,List.getElem_cons_succ,List.getElem_cons_zero]
     refine wpAnyH_take (i:=26) (v:=undef) rfl (by kernel_rfl) (by kernel_rfl) (by kernel_rfl) (fun _ _ _ h=>h) (Or.inr ⟨by rfl,rfl⟩) hHeld ?_
     try simp only [Act.put,List.setIfInBounds_toArray,List.set_cons_zero,List.set_cons_succ,List.getElem_toArray,List.getElem_cons_succ,List.getElem_cons_zero]
     refine wpAnyH_take (i:=27) (v:=undef) rfl (by kernel_rfl) (by kernel_rfl) (by kernel_rfl) (fun _ _ _ h=>h) (Or.inr ⟨by rfl,rfl⟩) hHeld ?_
     try simp only [Act.put,List.setIfInBounds_toArray,List.set_cons_zero,List.set_cons_succ,List.getElem_toArray,List.getElem_cons_succ,List.getElem_cons_zero]
     refine wpAnyH_take (i:=28) (v:=undef) rfl (by kernel_rfl) (by kernel_rfl) (by kernel_rfl) (fun _ _ _ h=>h) (Or.inr ⟨by rfl,rfl⟩) hHeld ?_
     try simp only [Act.put,List.setIfInBounds_toArray,List.set_cons_zero,List.set_cons_succ,List.getElem_toArray,List.getElem_cons_succ,List.getElem_cons_zero]
     refine wpAnyH_take (i:=29) (v:=undef) rfl (by kernel_rfl) (by kernel_rfl) (by kernel_rfl) (fun _ _ _ h=>h) (Or.inr ⟨by rfl,rfl⟩) hHeld ?_
     try simp only [Act.put,List.setIfInBounds_toArray,List.set_cons_zero,List.set_cons_succ,List.getElem_toArray,List.getElem_cons_succ,List.getElem_cons_zero]
     refine wpAnyH_take (i:=30) (v:=undef) rfl (by kernel_rfl) (by kernel_rfl) (by kernel_rfl) (fun _ _ _ h=>h) (Or.inr ⟨by rfl,rfl⟩) hHeld ?_
     try simp only [Act.put,List.setIfInBounds_toArray,List.set_cons_zero,List.set_cons_succ,List.getElem_toArray,List.getElem_cons_succ,List.getElem_cons_zero]
     refine wpAnyH_take (i:=31) (v:=?_) rfl (by kernel_rfl) (by kernel_rfl) (by kernel_rfl) (fun _ _ _ h=>h) (Or.inl ⟨by rfl,?_⟩) hHeld ?_
     rotate_left
     ·(intro W hSw;(try dsimp only at hSw);go_simp;try with_reducible rfl)
     try simp only [Act.put,List.setIfInBounds_toArray,List.set_cons_zero,List.set_cons_succ,List.getElem_toArray,List.getElem_cons_succ,List.getElem_cons_zero]
     refine wpAnyH_take (i:=32) (v:=?_) rfl (by kernel_rfl) (by kernel_rfl) (by kernel_rfl) (fun _ _ _ h=>h) (Or.inl ⟨by rfl,?_⟩) hHeld ?_
     rotate_left
     ·(intro W hSw;(try dsimp only at hSw);go_simp;try with_reducible rfl)
     try simp only [Act.put,List.setIfInBounds_toArray,List.set_cons_zero,List.set_cons_succ,List.getElem_toArray,List.getElem_cons_succ,List.getElem_cons_zero]
     refine wpAnyH_take (i:=33) (v:=?_) rfl (by kernel_rfl) (by kernel_rfl) (by kernel_rfl) (fun _ _ _ h=>h) (Or.inl ⟨by rfl,?_⟩) hHeld ?_
     rotate_left
     ·(intro W hSw;(try dsimp only at hSw);go_simp;try with_reducible rfl)
     try simp only [Act.put,List.setIfInBounds_toArray,List.set_cons_zero,List.set_cons_succ,List.getElem_toArray,List.getElem_cons_succ,List.getElem_cons_zero]
     refine wpAnyH_done (by kernel_rfl) ?_ _
     try simp only [Act.put,List.setIfInBounds_toArray,List.set_cons_zero,List.set_cons_succ,List.getElem_toArray,List.getElem_cons_succ,List.getElem_cons_zero]
     clear hHeld
     go_wp2_with fail
     go_ret
     exact ⟨by rw [HR.out];rfl,pure_trans HP5.out HW7.out⟩
    ·rw [hpb] at HR
     refine wp_region_held_drew (S:=(fun W=>(W.cell? ⟨K,1,none⟩=some (.map (some M))∧W.cell? ⟨w.heap.size,0,none⟩=some (.int .i64 t.op)∧W.cell? ⟨w.heap.size,1,none⟩=some (.int .i64 t.num)∧W.cell? ⟨w.heap.size,2,none⟩=some (.slice (some ⟨b,o,none⟩) n c))∧(W.cell? ⟨b,o,none⟩=some (.int .i64 x.op)∧W.cell? ⟨b,o + 1,none⟩=some (.int .i64 x.num)∧W.cell? ⟨b,o + 2,none⟩=some (.slice an nn cc))∧W.cell? ⟨b,o + 3,none⟩=some (.int .i64 y.op)∧W.cell? ⟨b,o + 3 + 1,none⟩=some (.int .i64 y.num)∧W.cell? ⟨b,o + 3 + 2,none⟩=some (.slice bn mm dd))) (by kernel_rfl) ⟨⟨k1,x0,x1,x2⟩,⟨c0,c1,c2⟩,d0,d1,d2⟩ (fun hHeld=>?_)
     refine wpAnyH_take (i:=0) (v:=?_) rfl (by kernel_rfl) (by kernel_rfl) (by kernel_rfl) (fun _ _ _ h=>h) (Or.inl ⟨by rfl,?_⟩) hHeld ?_
     rotate_left
     ·(intro W hSw;(try dsimp only at hSw);go_simp;try with_reducible rfl)
     try simp only [Act.put,List.setIfInBounds_toArray,List.set_cons_zero,List.set_cons_succ,List.getElem_toArray,List.getElem_cons_succ,List.getElem_cons_zero]
     refine wpAnyH_take (i:=1) (v:=?_) rfl (by kernel_rfl) (by kernel_rfl) (by kernel_rfl) (fun _ _ _ h=>h) (Or.inl ⟨by rfl,?_⟩) hHeld ?_
     rotate_left
     ·(intro W hSw;(try dsimp only at hSw);go_simp;try with_reducible rfl)
     try simp only [Act.put,List.setIfInBounds_toArray,List.set_cons_zero,List.set_cons_succ,List.getElem_toArray,List.getElem_cons_succ,List.getElem_cons_zero]
     refine wpAnyH_take (i:=2) (v:=?_) rfl (by kernel_rfl) (by kernel_rfl) (by kernel_rfl) (fun _ _ _ h=>h) (Or.inl ⟨by rfl,?_⟩) hHeld ?_
     rotate_left
     ·(intro W hSw;(try dsimp only at hSw);go_simp;try with_reducible rfl)
     try simp only [Act.put,List.setIfInBounds_toArray,List.set_cons_zero,List.set_cons_succ,List.getElem_toArray,List.getElem_cons_succ,List.getElem_cons_zero]
     refine wpAnyH_take (i:=3) (v:=?_) rfl (by kernel_rfl) (by kernel_rfl) (by kernel_rfl) (fun _ _ _ h=>h) (Or.inl ⟨by rfl,?_⟩) hHeld ?_
     rotate_left
     ·(intro W hSw;(try dsimp only at hSw);go_simp;try with_reducible rfl)
     try simp only [Act.put,List.setIfInBounds_toArray,List.set_cons_zero,List.set_cons_succ,List.getElem_toArray,List.getElem_cons_succ,List.getElem_cons_zero]
     refine wpAnyH_take (i:=4) (v:=?_) rfl (by kernel_rfl) (by kernel_rfl) (by kernel_rfl) (fun _ _ _ h=>h) (Or.inl ⟨by rfl,?_⟩) hHeld ?_
     rotate_left
     ·(intro W hSw;(try dsimp only at hSw);go_simp;try with_reducible rfl)
     try simp only [Act.put,List.setIfInBounds_toArray,List.set_cons_zero,List.set_cons_succ,List.getElem_toArray,List.getElem_cons_succ,List.getElem_cons_zero]
     refine wpAnyH_take (i:=5) (v:=?_) rfl (by kernel_rfl) (by kernel_rfl) (by kernel_rfl) (fun _ _ _ h=>h) (Or.inl ⟨by rfl,?_⟩) hHeld ?_
     rotate_left
     ·(intro W hSw;(try dsimp only at hSw);go_simp;try with_reducible rfl)
     try simp only [Act.put,List.setIfInBounds_toArray,List.set_cons_zero,List.set_cons_succ,List.getElem_toArray,List.getElem_cons_succ,List.getElem_cons_zero]
     refine wpAnyH_take (i:=6) (v:=?_) rfl (by kernel_rfl) (by kernel_rfl) (by kernel_rfl) (fun _ _ _ h=>h) (Or.inl ⟨by rfl,?_⟩) hHeld ?_
     rotate_left
     ·(intro W hSw;(try dsimp only at hSw);go_simp;try with_reducible rfl)
     try simp only [Act.put,List.setIfInBounds_toArray,List.set_cons_zero,List.set_cons_succ,List.getElem_toArray,List.getElem_cons_succ,List.getElem_cons_zero]
     refine wpAnyH_take (i:=7) (v:=?_) rfl (by kernel_rfl) (by kernel_rfl) (by kernel_rfl) (fun _ _ _ h=>h) (Or.inl ⟨by rfl,?_⟩) hHeld ?_
     rotate_left
     ·(intro W hSw;(try dsimp only at hSw);go_simp;try with_reducible rfl)
     try simp only [Act.put,List.setIfInBounds_toArray,List.set_cons_zero,List.set_cons_succ,List.getElem_toArray,List.getElem_cons_succ,List.getElem_cons_zero]
     refine wpAnyH_take (i:=8) (v:=?_) rfl (by kernel_rfl) (by kernel_rfl) (by kernel_rfl) (fun _ _ _ h=>h) (Or.inl ⟨by rfl,?_⟩) hHeld ?_
     rotate_left
     ·(intro W hSw;(try dsimp only at hSw);go_simp;try with_reducible rfl)
     try simp only [Act.put,List.setIfInBounds_toArray,List.set_cons_zero,List.set_cons_succ,List.getElem_toArray,List.getElem_cons_succ,List.getElem_cons_zero]
     refine wpAnyH_take (i:=9) (v:=?_) rfl (by kernel_rfl) (by kernel_rfl) (by kernel_rfl) (fun _ _ _ h=>h) (Or.inl ⟨by rfl,?_⟩) hHeld ?_
     rotate_left
     ·(intro W hSw;(try dsimp only at hSw);go_simp;try with_reducible rfl)
     try simp only [Act.put,List.setIfInBounds_toArray,List.set_cons_zero,List.set_cons_succ,List.getElem_toArray,List.getElem_cons_succ,List.getElem_cons_zero]
     refine wpAnyH_take (i:=10) (v:=?_) rfl (by kernel_rfl) (by kernel_rfl) (by kernel_rfl) (fun _ _ _ h=>h) (Or.inl ⟨by rfl,?_⟩) hHeld ?_
     rotate_left
     ·(intro W hSw;(try dsimp only at hSw);go_simp;try with_reducible rfl)
     try simp only [Act.put,List.setIfInBounds_toArray,List.set_cons_zero,List.set_cons_succ,List.getElem_toArray,List.getElem_cons_succ,List.getElem_cons_zero]
     refine wpAnyH_take (i:=11) (v:=?_) rfl (by kernel_rfl) (by kernel_rfl) (by kernel_rfl) (fun _ _ _ h=>h) (Or.inl ⟨by rfl,?_⟩) hHeld ?_
     rotate_left
     ·(intro W hSw;(try dsimp only at hSw);go_simp;try with_reducible rfl)
     try simp only [Act.put,List.setIfInBounds_toArray,List.set_cons_zero,List.set_cons_succ,List.getElem_toArray,List.getElem_cons_succ,List.getElem_cons_zero]
     refine wpAnyH_ready (rs:=[12]) (by kernel_rfl) (by simp) ?_
     refine AllReadyH.cons rfl (fun K1 hK1=>?_) AllReadyH.nil
     go_simp
     refine (pub_any y bn mm dd w5.drew ok (HTY5.out.below (below_drewN (Below.refl _ _) 1)) hb2.2).mono ?_
     rintro e w6 ⟨g,rfl,hTP,hw6⟩
     have hw6':Below w5.heap.size w5 w6:=(below_drewN (Below.refl _ _) 1:Below w5.heap.size w5 w5.drew).trans hw6
     have HTP:=Lib.hid hTP
     refine hK1.out _ _ ⟨⟨(hw6'.cell (p:=⟨K,1,none⟩) (lt_of_cell k1)).trans k1,(hw6'.cell (p:=⟨w.heap.size,0,none⟩) (lt_of_cell x0)).trans x0,(hw6'.cell (p:=⟨w.heap.size,1,none⟩) (lt_of_cell x1)).trans x1,(hw6'.cell (p:=⟨w.heap.size,2,none⟩) (lt_of_cell x2)).trans x2⟩,⟨(hw6'.cell (p:=⟨b,o,none⟩) (lt_of_cell c0)).trans c0,(hw6'.cell (p:=⟨b,o + 1,none⟩) (lt_of_cell c1)).trans c1,(hw6'.cell (p:=⟨b,o + 2,none⟩) (lt_of_cell c2)).trans c2⟩,(hw6'.cell (p:=⟨b,o + 3,none⟩) (lt_of_cell d0)).trans d0,(hw6'.cell (p:=⟨b,o + 3 + 1,none⟩) (lt_of_cell d1)).trans d1,(hw6'.cell (p:=⟨b,o + 3 + 2,none⟩) (lt_of_cell d2)).trans d2⟩ (fun hHeld=>?_)
     clear hK1
     try simp only [Act.put,List.setIfInBounds_toArray,List.set_cons_zero,List.set_cons_succ,List.getElem_toArray,List.getElem_cons_succ,List.getElem_cons_zero]
     have HW6:=Lib.hid hw6'
     clear hw6 hw6' hTP
     refine wpAnyH_ready (rs:=[13]) (by kernel_rfl) (by simp) ?_
     refine AllReadyH.cons rfl (fun K1 hK1=>?_) AllReadyH.nil
     go_simp
     refine (text_any (Tm.pub y).size (Tm.pub y) (some ⟨g,0,none⟩) 1 1 w6 _ (Nat.le_refl _) HTP.out (Tm.wf_pub HWX.out.2) (HE5.out.below HW6.out) (by rw [Tm.size_pub];have:=HSX.out.2.2;omega)).mono ?_
     rintro e w7 ⟨rfl,hw7⟩
     simp only [Str]
     have HW7:=Lib.hid (pure_trans HW6.out hw7)
     have hz7:Hid ((zeroValue 4).run Tryd.prog w7=.ok (.bool false) w7):=by show _=_;kernel_rfl
     refine hK1.out _ _ ⟨⟨(HW7.out.cell (p:=⟨K,1,none⟩) (lt_of_cell k1)).trans k1,(HW7.out.cell (p:=⟨w.heap.size,0,none⟩) (lt_of_cell x0)).trans x0,(HW7.out.cell (p:=⟨w.heap.size,1,none⟩) (lt_of_cell x1)).trans x1,(HW7.out.cell (p:=⟨w.heap.size,2,none⟩) (lt_of_cell x2)).trans x2⟩,⟨(HW7.out.cell (p:=⟨b,o,none⟩) (lt_of_cell c0)).trans c0,(HW7.out.cell (p:=⟨b,o + 1,none⟩) (lt_of_cell c1)).trans c1,(HW7.out.cell (p:=⟨b,o + 2,none⟩) (lt_of_cell c2)).trans c2⟩,(HW7.out.cell (p:=⟨b,o + 3,none⟩) (lt_of_cell d0)).trans d0,(HW7.out.cell (p:=⟨b,o + 3 + 1,none⟩) (lt_of_cell d1)).trans d1,(HW7.out.cell (p:=⟨b,o + 3 + 2,none⟩) (lt_of_cell d2)).trans d2⟩ (fun hHeld=>?_)
     clear hK1
     try simp only [Act.put,List.setIfInBounds_toArray,List.set_cons_zero,List.set_cons_succ,List.getElem_toArray,List.getElem_cons_succ,List.getElem_cons_zero]
     clear hw7
     refine wpAnyH_ready (rs:=[14]) (by kernel_rfl) (by simp) ?_
     refine AllReadyH.cons rfl (fun K1 hK1=>?_) AllReadyH.nil
     rw [if_pos (by rfl)]
     refine wp_lookup_bool _ _ _ 73 rfl 9 4 (string_keyed Tryd.underlying9) Tryd.underlying73 Tryd.underlying4 hz7.out M nm D rfl (own_map_keep HMAP5.out (HW7.out.block M (own_map_lt HMAP5.out))) _ _ rfl (keyStr (Tm.text (Tm.pub y)) (by have h1:=Tm.text_len _ (Tm.wf_pub HWX.out.2);rw [Tm.size_pub] at h1;have h2:=HSX.out.2.2;omega)) true ((HD.out (Tm.pub y) (Tm.wf_pub HWX.out.2)).trans (by rw [hpb])) ?_
     refine hK1.out _ _ hHeld (fun hHeld=>?_)
     clear hK1
     try simp only [Act.put,List.setIfInBounds_toArray,List.set_cons_zero,List.set_cons_succ,List.getElem_toArray,List.getElem_cons_succ,List.getElem_cons_zero]
     refine wpAnyH_take (i:=15) (v:=?_) rfl (by kernel_rfl) (by kernel_rfl) (by kernel_rfl) (fun _ _ _ h=>h) (Or.inl ⟨by rfl,?_⟩) hHeld ?_
     rotate_left
     ·(intro W hSw;(try dsimp only at hSw);go_simp;try with_reducible rfl)
     try simp only [Act.put,List.setIfInBounds_toArray,List.set_cons_zero,List.set_cons_succ,List.getElem_toArray,List.getElem_cons_succ,List.getElem_cons_zero]
     refine wpAnyH_take (i:=16) (v:=?_) rfl (by kernel_rfl) (by kernel_rfl) (by kernel_rfl) (fun _ _ _ h=>h) (Or.inl ⟨by rfl,?_⟩) hHeld ?_
     rotate_left
     ·(intro W hSw;(try dsimp only at hSw);go_simp;try with_reducible rfl)
     try simp only [Act.put,List.setIfInBounds_toArray,List.set_cons_zero,List.set_cons_succ,List.getElem_toArray,List.getElem_cons_succ,List.getElem_cons_zero]
     refine wpAnyH_take (i:=17) (v:=?_) rfl (by kernel_rfl) (by kernel_rfl) (by kernel_rfl) (fun _ _ _ h=>h) (Or.inl ⟨by rfl,?_⟩) hHeld ?_
     rotate_left
     ·(intro W hSw;(try dsimp only at hSw);go_simp;try with_reducible rfl)
     try simp only [Act.put,List.setIfInBounds_toArray,List.set_cons_zero,List.set_cons_succ,List.getElem_toArray,List.getElem_cons_succ,List.getElem_cons_zero]
     refine wpAnyH_take (i:=18) (v:=undef) rfl (by kernel_rfl) (by kernel_rfl) (by kernel_rfl) (fun _ _ _ h=>h) (Or.inr ⟨by rfl,rfl⟩) hHeld ?_
     try simp only [Act.put,List.setIfInBounds_toArray,List.set_cons_zero,List.set_cons_succ,List.getElem_toArray,List.getElem_cons_succ,List.getElem_cons_zero]
     refine wpAnyH_take (i:=19) (v:=undef) rfl (by kernel_rfl) (by kernel_rfl) (by kernel_rfl) (fun _ _ _ h=>h) (Or.inr ⟨by rfl,rfl⟩) hHeld ?_
     try simp only [Act.put,List.setIfInBounds_toArray,List.set_cons_zero,List.set_cons_succ,List.getElem_toArray,List.getElem_cons_succ,List.getElem_cons_zero]
     refine wpAnyH_take (i:=20) (v:=undef) rfl (by kernel_rfl) (by kernel_rfl) (by kernel_rfl) (fun _ _ _ h=>h) (Or.inr ⟨by rfl,rfl⟩) hHeld ?_
     try simp only [Act.put,List.setIfInBounds_toArray,List.set_cons_zero,List.set_cons_succ,List.getElem_toArray,List.getElem_cons_succ,List.getElem_cons_zero]
     refine wpAnyH_take (i:=21) (v:=undef) rfl (by kernel_rfl) (by kernel_rfl) (by kernel_rfl) (fun _ _ _ h=>h) (Or.inr ⟨by rfl,rfl⟩) hHeld ?_
     try simp only [Act.put,List.setIfInBounds_toArray,List.set_cons_zero,List.set_cons_succ,List.getElem_toArray,List.getElem_cons_succ,List.getElem_cons_zero]
     refine wpAnyH_take (i:=22) (v:=undef) rfl (by kernel_rfl) (by kernel_rfl) (by kernel_rfl) (fun _ _ _ h=>h) (Or.inr ⟨by rfl,rfl⟩) hHeld ?_
     try simp only [Act.put,List.setIfInBounds_toArray,List.set_cons_zero,List.set_cons_succ,List.getElem_toArray,List.getElem_cons_succ,List.getElem_cons_zero]
     refine wpAnyH_take (i:=23) (v:=undef) rfl (by kernel_rfl) (by kernel_rfl) (by kernel_rfl) (fun _ _ _ h=>h) (Or.inr ⟨by rfl,rfl⟩) hHeld ?_
     try simp only [Act.put,List.setIfInBounds_toArray,List.set_cons_zero,List.set_cons_succ,List.getElem_toArray,List.getElem_cons_succ,List.getElem_cons_zero]
     refine wpAnyH_take (i:=24) (v:=undef) rfl (by kernel_rfl) (by kernel_rfl) (by kernel_rfl) (fun _ _ _ h=>h) (Or.inr ⟨by rfl,rfl⟩) hHeld ?_
     try simp only [Act.put,List.setIfInBounds_toArray,List.set_cons_zero,List.set_cons_succ,List.getElem_toArray,List.getElem_cons_succ,List.getElem_cons_zero]
     refine wpAnyH_take (i:=25) (v:=undef) rfl (by kernel_rfl) (by kernel_rfl) (by kernel_rfl) (fun _ _ _ h=>h) (Or.inr ⟨by rfl,rfl⟩) hHeld ?_
     try simp only [Act.put,List.setIfInBounds_toArray,List.set_cons_zero,List.set_cons_succ,List.getElem_toArray,List.getElem_cons_succ,List.getElem_cons_zero]
     refine wpAnyH_take (i:=26) (v:=undef) rfl (by kernel_rfl) (by kernel_rfl) (by kernel_rfl) (fun _ _ _ h=>h) (Or.inr ⟨by rfl,rfl⟩) hHeld ?_
     try simp only [Act.put,List.setIfInBounds_toArray,List.set_cons_zero,List.set_cons_succ,List.getElem_toArray,List.getElem_cons_succ,List.getElem_cons_zero]
     refine wpAnyH_take (i:=27) (v:=undef) rfl (by kernel_rfl) (by kernel_rfl) (by kernel_rfl) (fun _ _ _ h=>h) (Or.inr ⟨by rfl,rfl⟩) hHeld ?_
     try simp only [Act.put,List.setIfInBounds_toArray,List.set_cons_zero,List.set_cons_succ,List.getElem_toArray,List.getElem_cons_succ,List.getElem_cons_zero]
     refine wpAnyH_take (i:=28) (v:=undef) rfl (by kernel_rfl) (by kernel_rfl) (by kernel_rfl) (fun _ _ _ h=>h) (Or.inr ⟨by rfl,rfl⟩) hHeld ?_
     try simp only [Act.put,List.setIfInBounds_toArray,List.set_cons_zero,List.set_cons_succ,List.getElem_toArray,List.getElem_cons_succ,List.getElem_cons_zero]
     refine wpAnyH_take (i:=29) (v:=undef) rfl (by kernel_rfl) (by kernel_rfl) (by kernel_rfl) (fun _ _ _ h=>h) (Or.inr ⟨by rfl,rfl⟩) hHeld ?_
     try simp only [Act.put,List.setIfInBounds_toArray,List.set_cons_zero,List.set_cons_succ,List.getElem_toArray,List.getElem_cons_succ,List.getElem_cons_zero]
     refine wpAnyH_take (i:=30) (v:=undef) rfl (by kernel_rfl) (by kernel_rfl) (by kernel_rfl) (fun _ _ _ h=>h) (Or.inr ⟨by rfl,rfl⟩) hHeld ?_
     try simp only [Act.put,List.setIfInBounds_toArray,List.set_cons_zero,List.set_cons_succ,List.getElem_toArray,List.getElem_cons_succ,List.getElem_cons_zero]
     refine wpAnyH_take (i:=31) (v:=undef) rfl (by kernel_rfl) (by kernel_rfl) (by kernel_rfl) (fun _ _ _ h=>h) (Or.inr ⟨by rfl,rfl⟩) hHeld ?_
     try simp only [Act.put,List.setIfInBounds_toArray,List.set_cons_zero,List.set_cons_succ,List.getElem_toArray,List.getElem_cons_succ,List.getElem_cons_zero]
     refine wpAnyH_take (i:=32) (v:=?_) rfl (by kernel_rfl) (by kernel_rfl) (by kernel_rfl) (fun _ _ _ h=>h) (Or.inl ⟨by rfl,?_⟩) hHeld ?_
     rotate_left
     ·(intro W hSw;(try dsimp only at hSw);go_simp;try with_reducible rfl)
     try simp only [Act.put,List.setIfInBounds_toArray,List.set_cons_zero,List.set_cons_succ,List.getElem_toArray,List.getElem_cons_succ,List.getElem_cons_zero]
     refine wpAnyH_take (i:=33) (v:=?_) rfl (by kernel_rfl) (by kernel_rfl) (by kernel_rfl) (fun _ _ _ h=>h) (Or.inl ⟨by rfl,?_⟩) hHeld ?_
     rotate_left
     ·(intro W hSw;(try dsimp only at hSw);go_simp;try with_reducible rfl)
     try simp only [Act.put,List.setIfInBounds_toArray,List.set_cons_zero,List.set_cons_succ,List.getElem_toArray,List.getElem_cons_succ,List.getElem_cons_zero]
     refine wpAnyH_done (by kernel_rfl) ?_ _
     try simp only [Act.put,List.setIfInBounds_toArray,List.set_cons_zero,List.set_cons_succ,List.getElem_toArray,List.getElem_cons_succ,List.getElem_cons_zero]
     clear hHeld
     go_wp2_with fail
     go_ret
     exact ⟨by rw [HR.out];rfl,pure_trans HP5.out HW7.out⟩
   ·rw [hbx,hby] at HR
    go_upto_region 8 with fail
    refine wp_region_held_drew (S:=(fun W=>(W.cell? ⟨K,1,none⟩=some (.map (some M))∧W.cell? ⟨w.heap.size,0,none⟩=some (.int .i64 t.op)∧W.cell? ⟨w.heap.size,1,none⟩=some (.int .i64 t.num)∧W.cell? ⟨w.heap.size,2,none⟩=some (.slice (some ⟨b,o,none⟩) n c))∧(W.cell? ⟨b,o,none⟩=some (.int .i64 x.op)∧W.cell? ⟨b,o + 1,none⟩=some (.int .i64 x.num)∧W.cell? ⟨b,o + 2,none⟩=some (.slice an nn cc))∧W.cell? ⟨b,o + 3,none⟩=some (.int .i64 y.op)∧W.cell? ⟨b,o + 3 + 1,none⟩=some (.int .i64 y.num)∧W.cell? ⟨b,o + 3 + 2,none⟩=some (.slice bn mm dd))) (by kernel_rfl) ⟨⟨k1,x0,x1,x2⟩,⟨c0,c1,c2⟩,d0,d1,d2⟩ (fun hHeld=>?_)
    refine wpAnyH_take (i:=0) (v:=?_) rfl (by kernel_rfl) (by kernel_rfl) (by kernel_rfl) (fun _ _ _ h=>h) (Or.inl ⟨by rfl,?_⟩) hHeld ?_
    rotate_left
    ·(intro W hSw;(try dsimp only at hSw);go_simp;try with_reducible rfl)
    try simp only [Act.put,List.setIfInBounds_toArray,List.set_cons_zero,List.set_cons_succ,List.getElem_toArray,List.getElem_cons_succ,List.getElem_cons_zero]
    refine wpAnyH_take (i:=1) (v:=?_) rfl (by kernel_rfl) (by kernel_rfl) (by kernel_rfl) (fun _ _ _ h=>h) (Or.inl ⟨by rfl,?_⟩) hHeld ?_
    rotate_left
    ·(intro W hSw;(try dsimp only at hSw);go_simp;try with_reducible rfl)
    try simp only [Act.put,List.setIfInBounds_toArray,List.set_cons_zero,List.set_cons_succ,List.getElem_toArray,List.getElem_cons_succ,List.getElem_cons_zero]
    refine wpAnyH_take (i:=2) (v:=?_) rfl (by kernel_rfl) (by kernel_rfl) (by kernel_rfl) (fun _ _ _ h=>h) (Or.inl ⟨by rfl,?_⟩) hHeld ?_
    rotate_left
    ·(intro W hSw;(try dsimp only at hSw);go_simp;try with_reducible rfl)
    try simp only [Act.put,List.setIfInBounds_toArray,List.set_cons_zero,List.set_cons_succ,List.getElem_toArray,List.getElem_cons_succ,List.getElem_cons_zero]
    refine wpAnyH_take (i:=3) (v:=?_) rfl (by kernel_rfl) (by kernel_rfl) (by kernel_rfl) (fun _ _ _ h=>h) (Or.inl ⟨by rfl,?_⟩) hHeld ?_
    rotate_left
    ·(intro W hSw;(try dsimp only at hSw);go_simp;try with_reducible rfl)
    try simp only [Act.put,List.setIfInBounds_toArray,List.set_cons_zero,List.set_cons_succ,List.getElem_toArray,List.getElem_cons_succ,List.getElem_cons_zero]
    refine wpAnyH_take (i:=4) (v:=undef) rfl (by kernel_rfl) (by kernel_rfl) (by kernel_rfl) (fun _ _ _ h=>h) (Or.inr ⟨by rfl,rfl⟩) hHeld ?_
    try simp only [Act.put,List.setIfInBounds_toArray,List.set_cons_zero,List.set_cons_succ,List.getElem_toArray,List.getElem_cons_succ,List.getElem_cons_zero]
    refine wpAnyH_take (i:=5) (v:=undef) rfl (by kernel_rfl) (by kernel_rfl) (by kernel_rfl) (fun _ _ _ h=>h) (Or.inr ⟨by rfl,rfl⟩) hHeld ?_
    try simp only [Act.put,List.setIfInBounds_toArray,List.set_cons_zero,List.set_cons_succ,List.getElem_toArray,List.getElem_cons_succ,List.getElem_cons_zero]
    refine wpAnyH_take (i:=6) (v:=undef) rfl (by kernel_rfl) (by kernel_rfl) (by kernel_rfl) (fun _ _ _ h=>h) (Or.inr ⟨by rfl,rfl⟩) hHeld ?_
    try simp only [Act.put,List.setIfInBounds_toArray,List.set_cons_zero,List.set_cons_succ,List.getElem_toArray,List.getElem_cons_succ,List.getElem_cons_zero]
    refine wpAnyH_take (i:=7) (v:=undef) rfl (by kernel_rfl) (by kernel_rfl) (by kernel_rfl) (fun _ _ _ h=>h) (Or.inr ⟨by rfl,rfl⟩) hHeld ?_
    try simp only [Act.put,List.setIfInBounds_toArray,List.set_cons_zero,List.set_cons_succ,List.getElem_toArray,List.getElem_cons_succ,List.getElem_cons_zero]
    refine wpAnyH_take (i:=8) (v:=undef) rfl (by kernel_rfl) (by kernel_rfl) (by kernel_rfl) (fun _ _ _ h=>h) (Or.inr ⟨by rfl,rfl⟩) hHeld ?_
    try simp only [Act.put,List.setIfInBounds_toArray,List.set_cons_zero,List.set_cons_succ,List.getElem_toArray,List.getElem_cons_succ,List.getElem_cons_zero]
    refine wpAnyH_take (i:=9) (v:=undef) rfl (by kernel_rfl) (by kernel_rfl) (by kernel_rfl) (fun _ _ _ h=>h) (Or.inr ⟨by rfl,rfl⟩) hHeld ?_
    try simp only [Act.put,List.setIfInBounds_toArray,List.set_cons_zero,List.set_cons_succ,List.getElem_toArray,List.getElem_cons_succ,List.getElem_cons_zero]
    refine wpAnyH_take (i:=10) (v:=undef) rfl (by kernel_rfl) (by kernel_rfl) (by kernel_rfl) (fun _ _ _ h=>h) (Or.inr ⟨by rfl,rfl⟩) hHeld ?_
    try simp only [Act.put,List.setIfInBounds_toArray,List.set_cons_zero,List.set_cons_succ,List.getElem_toArray,List.getElem_cons_succ,List.getElem_cons_zero]
    refine wpAnyH_take (i:=11) (v:=undef) rfl (by kernel_rfl) (by kernel_rfl) (by kernel_rfl) (fun _ _ _ h=>h) (Or.inr ⟨by rfl,rfl⟩) hHeld ?_
    try simp only [Act.put,List.setIfInBounds_toArray,List.set_cons_zero,List.set_cons_succ,List.getElem_toArray,List.getElem_cons_succ,List.getElem_cons_zero]
    refine wpAnyH_take (i:=12) (v:=undef) rfl (by kernel_rfl) (by kernel_rfl) (by kernel_rfl) (fun _ _ _ h=>h) (Or.inr ⟨by rfl,rfl⟩) hHeld ?_
    try simp only [Act.put,List.setIfInBounds_toArray,List.set_cons_zero,List.set_cons_succ,List.getElem_toArray,List.getElem_cons_succ,List.getElem_cons_zero]
    refine wpAnyH_take (i:=13) (v:=undef) rfl (by kernel_rfl) (by kernel_rfl) (by kernel_rfl) (fun _ _ _ h=>h) (Or.inr ⟨by rfl,rfl⟩) hHeld ?_
    try simp only [Act.put,List.setIfInBounds_toArray,List.set_cons_zero,List.set_cons_succ,List.getElem_toArray,List.getElem_cons_succ,List.getElem_cons_zero]
    refine wpAnyH_take (i:=14) (v:=undef) rfl (by kernel_rfl) (by kernel_rfl) (by kernel_rfl) (fun _ _ _ h=>h) (Or.inr ⟨by rfl,rfl⟩) hHeld ?_
    try simp only [Act.put,List.setIfInBounds_toArray,List.set_cons_zero,List.set_cons_succ,List.getElem_toArray,List.getElem_cons_succ,List.getElem_cons_zero]
    refine wpAnyH_take (i:=15) (v:=?_) rfl (by kernel_rfl) (by kernel_rfl) (by kernel_rfl) (fun _ _ _ h=>h) (Or.inl ⟨by rfl,?_⟩) hHeld ?_
    rotate_left
    ·(intro W hSw;(try dsimp only at hSw);go_simp;try with_reducible rfl)
    try simp only [Act.put,List.setIfInBounds_toArray,List.set_cons_zero,List.set_cons_succ,List.getElem_toArray,List.getElem_cons_succ,List.getElem_cons_zero]
    refine wpAnyH_take (i:=16) (v:=?_) rfl (by kernel_rfl) (by kernel_rfl) (by kernel_rfl) (fun _ _ _ h=>h) (Or.inl ⟨by rfl,?_⟩) hHeld ?_
    rotate_left
    ·(intro W hSw;(try dsimp only at hSw);go_simp;try with_reducible rfl)
    try simp only [Act.put,List.setIfInBounds_toArray,List.set_cons_zero,List.set_cons_succ,List.getElem_toArray,List.getElem_cons_succ,List.getElem_cons_zero]
    refine wpAnyH_take (i:=17) (v:=?_) rfl (by kernel_rfl) (by kernel_rfl) (by kernel_rfl) (fun _ _ _ h=>h) (Or.inl ⟨by rfl,?_⟩) hHeld ?_
    rotate_left
    ·(intro W hSw;(try dsimp only at hSw);go_simp;try with_reducible rfl)
    try simp only [Act.put,List.setIfInBounds_toArray,List.set_cons_zero,List.set_cons_succ,List.getElem_toArray,List.getElem_cons_succ,List.getElem_cons_zero]
    refine wpAnyH_take (i:=18) (v:=undef) rfl (by kernel_rfl) (by kernel_rfl) (by kernel_rfl) (fun _ _ _ h=>h) (Or.inr ⟨by rfl,rfl⟩) hHeld ?_
    try simp only [Act.put,List.setIfInBounds_toArray,List.set_cons_zero,List.set_cons_succ,List.getElem_toArray,List.getElem_cons_succ,List.getElem_cons_zero]
    refine wpAnyH_take (i:=19) (v:=undef) rfl (by kernel_rfl) (by kernel_rfl) (by kernel_rfl) (fun _ _ _ h=>h) (Or.inr ⟨by rfl,rfl⟩) hHeld ?_
    try simp only [Act.put,List.setIfInBounds_toArray,List.set_cons_zero,List.set_cons_succ,List.getElem_toArray,List.getElem_cons_succ,List.getElem_cons_zero]
    refine wpAnyH_take (i:=20) (v:=undef) rfl (by kernel_rfl) (by kernel_rfl) (by kernel_rfl) (fun _ _ _ h=>h) (Or.inr ⟨by rfl,rfl⟩) hHeld ?_
    try simp only [Act.put,List.setIfInBounds_toArray,List.set_cons_zero,List.set_cons_succ,List.getElem_toArray,List.getElem_cons_succ,List.getElem_cons_zero]
    refine wpAnyH_take (i:=21) (v:=undef) rfl (by kernel_rfl) (by kernel_rfl) (by kernel_rfl) (fun _ _ _ h=>h) (Or.inr ⟨by rfl,rfl⟩) hHeld ?_
    try simp only [Act.put,List.setIfInBounds_toArray,List.set_cons_zero,List.set_cons_succ,List.getElem_toArray,List.getElem_cons_succ,List.getElem_cons_zero]
    refine wpAnyH_take (i:=22) (v:=undef) rfl (by kernel_rfl) (by kernel_rfl) (by kernel_rfl) (fun _ _ _ h=>h) (Or.inr ⟨by rfl,rfl⟩) hHeld ?_
    try simp only [Act.put,List.setIfInBounds_toArray,List.set_cons_zero,List.set_cons_succ,List.getElem_toArray,List.getElem_cons_succ,List.getElem_cons_zero]
    refine wpAnyH_take (i:=23) (v:=undef) rfl (by kernel_rfl) (by kernel_rfl) (by kernel_rfl) (fun _ _ _ h=>h) (Or.inr ⟨by rfl,rfl⟩) hHeld ?_
    try simp only [Act.put,List.setIfInBounds_toArray,List.set_cons_zero,List.set_cons_succ,List.getElem_toArray,List.getElem_cons_succ,List.getElem_cons_zero]
    refine wpAnyH_take (i:=24) (v:=undef) rfl (by kernel_rfl) (by kernel_rfl) (by kernel_rfl) (fun _ _ _ h=>h) (Or.inr ⟨by rfl,rfl⟩) hHeld ?_
    try simp only [Act.put,List.setIfInBounds_toArray,List.set_cons_zero,List.set_cons_succ,List.getElem_toArray,List.getElem_cons_succ,List.getElem_cons_zero]
    refine wpAnyH_take (i:=25) (v:=undef) rfl (by kernel_rfl) (by kernel_rfl) (by kernel_rfl) (fun _ _ _ h=>h) (Or.inr ⟨by rfl,rfl⟩) hHeld ?_
    try simp only [Act.put,List.setIfInBounds_toArray,List.set_cons_zero,List.set_cons_succ,List.getElem_toArray,List.getElem_cons_succ,List.getElem_cons_zero]
    refine wpAnyH_take (i:=26) (v:=undef) rfl (by kernel_rfl) (by kernel_rfl) (by kernel_rfl) (fun _ _ _ h=>h) (Or.inr ⟨by rfl,rfl⟩) hHeld ?_
    try simp only [Act.put,List.setIfInBounds_toArray,List.set_cons_zero,List.set_cons_succ,List.getElem_toArray,List.getElem_cons_succ,List.getElem_cons_zero]
    refine wpAnyH_take (i:=27) (v:=undef) rfl (by kernel_rfl) (by kernel_rfl) (by kernel_rfl) (fun _ _ _ h=>h) (Or.inr ⟨by rfl,rfl⟩) hHeld ?_
    try simp only [Act.put,List.setIfInBounds_toArray,List.set_cons_zero,List.set_cons_succ,List.getElem_toArray,List.getElem_cons_succ,List.getElem_cons_zero]
    refine wpAnyH_take (i:=28) (v:=undef) rfl (by kernel_rfl) (by kernel_rfl) (by kernel_rfl) (fun _ _ _ h=>h) (Or.inr ⟨by rfl,rfl⟩) hHeld ?_
    try simp only [Act.put,List.setIfInBounds_toArray,List.set_cons_zero,List.set_cons_succ,List.getElem_toArray,List.getElem_cons_succ,List.getElem_cons_zero]
    refine wpAnyH_take (i:=29) (v:=undef) rfl (by kernel_rfl) (by kernel_rfl) (by kernel_rfl) (fun _ _ _ h=>h) (Or.inr ⟨by rfl,rfl⟩) hHeld ?_
    try simp only [Act.put,List.setIfInBounds_toArray,List.set_cons_zero,List.set_cons_succ,List.getElem_toArray,List.getElem_cons_succ,List.getElem_cons_zero]
    refine wpAnyH_take (i:=30) (v:=undef) rfl (by kernel_rfl) (by kernel_rfl) (by kernel_rfl) (fun _ _ _ h=>h) (Or.inr ⟨by rfl,rfl⟩) hHeld ?_
    try simp only [Act.put,List.setIfInBounds_toArray,List.set_cons_zero,List.set_cons_succ,List.getElem_toArray,List.getElem_cons_succ,List.getElem_cons_zero]
    refine wpAnyH_take (i:=31) (v:=undef) rfl (by kernel_rfl) (by kernel_rfl) (by kernel_rfl) (fun _ _ _ h=>h) (Or.inr ⟨by rfl,rfl⟩) hHeld ?_
    try simp only [Act.put,List.setIfInBounds_toArray,List.set_cons_zero,List.set_cons_succ,List.getElem_toArray,List.getElem_cons_succ,List.getElem_cons_zero]
    refine wpAnyH_take (i:=32) (v:=?_) rfl (by kernel_rfl) (by kernel_rfl) (by kernel_rfl) (fun _ _ _ h=>h) (Or.inl ⟨by rfl,?_⟩) hHeld ?_
    rotate_left
    ·(intro W hSw;(try dsimp only at hSw);go_simp;try with_reducible rfl)
    try simp only [Act.put,List.setIfInBounds_toArray,List.set_cons_zero,List.set_cons_succ,List.getElem_toArray,List.getElem_cons_succ,List.getElem_cons_zero]
    refine wpAnyH_take (i:=33) (v:=?_) rfl (by kernel_rfl) (by kernel_rfl) (by kernel_rfl) (fun _ _ _ h=>h) (Or.inl ⟨by rfl,?_⟩) hHeld ?_
    rotate_left
    ·(intro W hSw;(try dsimp only at hSw);go_simp;try with_reducible rfl)
    try simp only [Act.put,List.setIfInBounds_toArray,List.set_cons_zero,List.set_cons_succ,List.getElem_toArray,List.getElem_cons_succ,List.getElem_cons_zero]
    refine wpAnyH_done (by kernel_rfl) ?_ _
    try simp only [Act.put,List.setIfInBounds_toArray,List.set_cons_zero,List.set_cons_succ,List.getElem_toArray,List.getElem_cons_succ,List.getElem_cons_zero]
    clear hHeld
    go_wp2_with fail
    go_ret
    exact ⟨by rw [HR.out];rfl,below_drewN HP5.out 1⟩
end Go.Proofs.YtkgbjoepjcenlaaDoor
