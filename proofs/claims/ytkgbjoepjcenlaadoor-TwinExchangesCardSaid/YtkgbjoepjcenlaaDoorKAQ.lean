/- Joined texts. -/
import Derived.Test.YtkgbjoepjcenlaaDoorKAK
import Derived.Test.YtkgbjoepjcenlaaDoorKAP
set_option linter.unusedVariables false
set_option linter.unusedSimpArgs false
namespace Go.Proofs.YtkgbjoepjcenlaaDoor
open Go.RowKit Go.Maps
namespace Tm
def aw:Tm:=seal4 (nm 100) (nm 0) (nm 0) (nm 101)
def awL (l:List Tm):List Tm:=closeP 5 (addsP [] (l.map normal))
theorem aw_facts:closedB (awL [aw,nm 100])=true∧builds (awL [aw,nm 100]) (normal (nm 101))=true∧closedB (awL [aw])=true∧builds (awL [aw]) (normal (nm 101))=false∧valid aw=true∧valid (nm 100)=true∧valid (nm 101)=true∧(accN [aw,nm 100]).length≤400∧(accN [aw]).length≤400:=by decide +kernel
theorem aw_text:text aw=[115,101,97,108,40,110,49,48,48,44,32,110,48,44,32,110,48,44,32,110,49,48,49,41]:=by decide +kernel
theorem aw_yes {C:List Tm} (h:IsCl [aw,nm 100] C):builds C (normal (nm 101))=true:=(h.builds_eq (closeP_isCl aw_facts.1) _).trans aw_facts.2.1
theorem aw_no {C:List Tm} (h:IsCl [aw] C):builds C (normal (nm 101))=false:=(h.builds_eq (closeP_isCl aw_facts.2.2.1) _).trans aw_facts.2.2.2.1
end Tm
def Aw (w:World) (g:Nat):Prop:=w.heap[g]?=some (.cells #[.int .i64 1,.int .i64 100,.slice none 0 0,.int .i64 1,.int .i64 0,.slice none 0 0,.int .i64 1,.int .i64 0,.slice none 0 0,.int .i64 1,.int .i64 101,.slice none 0 0] 28 (0,0))
theorem Aw.below {w w':World} {g:Nat} (h:Aw w g) (k:Below w.heap.size w w'):Aw w' g:=Below.keep k h (lt_of_block h)
theorem Aw.tr {w:World} {g:Nat} (h:Aw w g):TR (fun _=>True) w Tm.aw (some ⟨g,0,none⟩) 4:=by
 refine TR_iff.2 ⟨rfl,by omega,fun j hj=>?_⟩
 have hj4:j < 4:=hj
 rcases (show j=0∨j=1∨j=2∨j=3 by omega) with rfl | rfl | rfl | rfl
 ·exact ⟨g,0,none,0,0,rfl,⟨trivial,Nat.le_refl _⟩,cell_of_arr h 0,cell_of_arr h 1,cell_of_arr h 2,tr_name _ _ _⟩
 ·exact ⟨g,0,none,0,0,rfl,⟨trivial,Nat.le_refl _⟩,cell_of_arr h 3,cell_of_arr h 4,cell_of_arr h 5,tr_name _ _ _⟩
 ·exact ⟨g,0,none,0,0,rfl,⟨trivial,Nat.le_refl _⟩,cell_of_arr h 6,cell_of_arr h 7,cell_of_arr h 8,tr_name _ _ _⟩
 ·exact ⟨g,0,none,0,0,rfl,⟨trivial,Nat.le_refl _⟩,cell_of_arr h 9,cell_of_arr h 10,cell_of_arr h 11,tr_name _ _ _⟩
theorem aw_two {w:World} {g b:Nat} (h:Aw w g) (hb:w.heap[b]?=some (.cells #[.int .i64 4,.int .i64 0,.slice (some ⟨g,0,none⟩) 4 4,.int .i64 1,.int .i64 100,.slice none 0 0] 28 (0,0))):TL (fun _=>True) w [Tm.aw,Tm.nm 100] (some ⟨b,0,none⟩) 2:=by
 refine ⟨rfl,by omega,fun j hj=>?_⟩
 have hj2:j < 2:=hj
 rcases (show j=0∨j=1 by omega) with rfl | rfl
 ·exact ⟨b,0,_,_,_,rfl,⟨trivial,Nat.le_refl _⟩,cell_of_arr hb 0,cell_of_arr hb 1,cell_of_arr hb 2,h.tr⟩
 ·exact ⟨b,0,_,_,_,rfl,⟨trivial,Nat.le_refl _⟩,cell_of_arr hb 3,cell_of_arr hb 4,cell_of_arr hb 5,tr_name _ _ _⟩
theorem aw_one {w:World} {g b:Nat} (h:Aw w g) (hb:w.heap[b]?=some (.cells #[.int .i64 4,.int .i64 0,.slice (some ⟨g,0,none⟩) 4 4] 28 (0,0))):TL (fun _=>True) w [Tm.aw] (some ⟨b,0,none⟩) 1:=by
 refine ⟨rfl,by omega,fun j hj=>?_⟩
 have hj2:j < 1:=hj
 obtain rfl:j=0:=by omega
 exact ⟨b,0,_,_,_,rfl,⟨trivial,Nat.le_refl _⟩,cell_of_arr hb 0,cell_of_arr hb 1,cell_of_arr hb 2,h.tr⟩
set_option maxHeartbeats 3200000 in
theorem awake_any (w:World) (hE:Env w):Calls Tryd.prog 11 #[] w fun e w'=>e=.returned (.bool true)∧Below w.heap.size w w':=by
 have HE:=Lib.hid hE
 clear hE
 go_enter Tryd.func11,Tryd.ntmps11
 go_wp2_with fail
 refine (name_any 100 w).mono ?_
 rintro e u1 ⟨rfl,hu1⟩
 go_wp2_with fail
 refine (name_any 0 u1).mono ?_
 rintro e u2 ⟨rfl,hu2⟩
 go_wp2_with fail
 refine (name_any 0 u2).mono ?_
 rintro e u3 ⟨rfl,hu3⟩
 go_wp2_with fail
 refine (name_any 101 u3).mono ?_
 rintro e u4 ⟨rfl,hu4⟩
 have HU:=Lib.hid (pure_trans (pure_trans (pure_trans hu1 hu2) hu3) hu4)
 clear hu1 hu2 hu3 hu4
 go_upto_region 2 with fail
 have HP5:Hid (Below u4.heap.size u4 ((u4.alloc (.cells #[.int .i64 1,.int .i64 100,.slice none 0 0,.int .i64 1,.int .i64 0,.slice none 0 0,.int .i64 1,.int .i64 0,.slice none 0 0,.int .i64 1,.int .i64 101,.slice none 0 0] 28)).alloc (.cells #[.int .i64 4,.int .i64 0,.slice (some ⟨u4.heap.size,0,none⟩) 4 4] 28))):=(pure_alloc _ _).alloc (by simp) _
 have HAW:Hid (Aw ((u4.alloc (.cells #[.int .i64 1,.int .i64 100,.slice none 0 0,.int .i64 1,.int .i64 0,.slice none 0 0,.int .i64 1,.int .i64 0,.slice none 0 0,.int .i64 1,.int .i64 101,.slice none 0 0] 28)).alloc (.cells #[.int .i64 4,.int .i64 0,.slice (some ⟨u4.heap.size,0,none⟩) 4 4] 28)) u4.heap.size):=alloc_keep (alloc_new _ _)
 have NX:((u4.alloc (.cells #[.int .i64 1,.int .i64 100,.slice none 0 0,.int .i64 1,.int .i64 0,.slice none 0 0,.int .i64 1,.int .i64 0,.slice none 0 0,.int .i64 1,.int .i64 101,.slice none 0 0] 28)).alloc (.cells #[.int .i64 4,.int .i64 0,.slice (some ⟨u4.heap.size,0,none⟩) 4 4] 28)).heap[u4.heap.size + 1]?=some (.cells #[.int .i64 4,.int .i64 0,.slice (some ⟨u4.heap.size,0,none⟩) 4 4] 28 (0,0)):=alloc_new' _ _ _ (by simp)
 generalize ((u4.alloc (.cells #[.int .i64 1,.int .i64 100,.slice none 0 0,.int .i64 1,.int .i64 0,.slice none 0 0,.int .i64 1,.int .i64 0,.slice none 0 0,.int .i64 1,.int .i64 101,.slice none 0 0] 28)).alloc (.cells #[.int .i64 4,.int .i64 0,.slice (some ⟨u4.heap.size,0,none⟩) 4 4] 28))=w5 at *
 have HE5:=Lib.hid ((HE.out.below HU.out).below HP5.out)
 have HW5:=Lib.hid (pure_trans HU.out HP5.out)
 have x0:=cell_of_arr NX 0
 have x1:=cell_of_arr NX 1
 have x2:=cell_of_arr NX 2
 simp at x0 x1 x2
 clear NX HE HU HP5
 refine wp_region_held_drew (S:=(fun W=>W.cell? ⟨u4.heap.size + 1,0,none⟩=some (.int .i64 4)∧W.cell? ⟨u4.heap.size + 1,1,none⟩=some (.int .i64 0)∧W.cell? ⟨u4.heap.size + 1,2,none⟩=some (.slice (some ⟨u4.heap.size,0,none⟩) 4 4))) (by kernel_rfl) ⟨x0,x1,x2⟩ (fun hHeld=>?_)
 refine wpAnyH_take (i:=0) (v:=?_) rfl (by kernel_rfl) (by kernel_rfl) (by kernel_rfl) (fun _ _ _ h=>h) (Or.inl ⟨by rfl,?_⟩) hHeld ?_
 rotate_left
 ·(intro W hSw;(try dsimp only at hSw);go_simp;try with_reducible rfl)
 try simp only [Act.put,List.setIfInBounds_toArray,List.set_cons_zero,List.set_cons_succ,List.getElem_toArray,List.getElem_cons_succ,List.getElem_cons_zero]
 refine wpAnyH_ready (rs:=[1]) (by kernel_rfl) (by simp) ?_
 refine AllReadyH.cons rfl (fun K1 hK1=>?_) AllReadyH.nil
 go_simp
 refine (name_any 100 w5.drew).mono ?_
 rintro e v1 ⟨rfl,hv⟩
 have HB1:Hid (Below w5.heap.size w5 v1):=(below_drewN (Below.refl _ _) 1:Below w5.heap.size w5 w5.drew).trans (hv.mono (below_drewN (Below.refl _ _) 1:Below w5.heap.size w5 w5.drew).size)
 clear hv
 refine hK1.out _ _ ⟨(HB1.out.cell (p:=⟨u4.heap.size + 1,0,none⟩) (lt_of_cell x0)).trans x0,(HB1.out.cell (p:=⟨u4.heap.size + 1,1,none⟩) (lt_of_cell x1)).trans x1,(HB1.out.cell (p:=⟨u4.heap.size + 1,2,none⟩) (lt_of_cell x2)).trans x2⟩ (fun hHeld=>?_)
 clear hK1
 try simp only [Act.put,List.setIfInBounds_toArray,List.set_cons_zero,List.set_cons_succ,List.getElem_toArray,List.getElem_cons_succ,List.getElem_cons_zero]
 refine wpAnyH_ready (rs:=[2,3]) (by kernel_rfl) (by simp) ?_
 refine AllReadyH.cons rfl (fun K1 hK1=>?_) (AllReadyH.cons rfl (fun K1 hK1=>?_) AllReadyH.nil)
 ·go_simp
  have hv:Below v1.heap.size v1 (v1.alloc (.cells #[.int .i64 4,.int .i64 0,.slice (some ⟨u4.heap.size,0,none⟩) 4 4,.int .i64 1,.int .i64 100,.slice none 0 0] 28)):=pure_alloc _ _
  have HB2:Hid (Below w5.heap.size w5 (v1.alloc (.cells #[.int .i64 4,.int .i64 0,.slice (some ⟨u4.heap.size,0,none⟩) 4 4,.int .i64 1,.int .i64 100,.slice none 0 0] 28))):=HB1.out.trans (hv.mono HB1.out.size)
  have HBS2:Hid ((v1.alloc (.cells #[.int .i64 4,.int .i64 0,.slice (some ⟨u4.heap.size,0,none⟩) 4 4,.int .i64 1,.int .i64 100,.slice none 0 0] 28)).heap[v1.heap.size]?=some (.cells #[.int .i64 4,.int .i64 0,.slice (some ⟨u4.heap.size,0,none⟩) 4 4,.int .i64 1,.int .i64 100,.slice none 0 0] 28 (0,0))):=alloc_new _ _
  clear hv
  refine hK1.out _ _ ⟨(HB2.out.cell (p:=⟨u4.heap.size + 1,0,none⟩) (lt_of_cell x0)).trans x0,(HB2.out.cell (p:=⟨u4.heap.size + 1,1,none⟩) (lt_of_cell x1)).trans x1,(HB2.out.cell (p:=⟨u4.heap.size + 1,2,none⟩) (lt_of_cell x2)).trans x2⟩ (fun hHeld=>?_)
  clear hK1
  try simp only [Act.put,List.setIfInBounds_toArray,List.set_cons_zero,List.set_cons_succ,List.getElem_toArray,List.getElem_cons_succ,List.getElem_cons_zero]
  generalize (v1.alloc (.cells #[.int .i64 4,.int .i64 0,.slice (some ⟨u4.heap.size,0,none⟩) 4 4,.int .i64 1,.int .i64 100,.slice none 0 0] 28))=v2 at *
  refine wpAnyH_ready (rs:=[3]) (by kernel_rfl) (by simp) ?_
  refine AllReadyH.cons rfl (fun K1 hK1=>?_) AllReadyH.nil
  go_simp
  refine (name_any 101 v2).mono ?_
  rintro e v3 ⟨rfl,hv⟩
  have HB3:Hid (Below w5.heap.size w5 v3):=HB2.out.trans (hv.mono HB2.out.size)
  have HBS3:=Lib.hid (Below.keep hv HBS2.out (lt_of_block HBS2.out))
  clear hv
  refine hK1.out _ _ ⟨(HB3.out.cell (p:=⟨u4.heap.size + 1,0,none⟩) (lt_of_cell x0)).trans x0,(HB3.out.cell (p:=⟨u4.heap.size + 1,1,none⟩) (lt_of_cell x1)).trans x1,(HB3.out.cell (p:=⟨u4.heap.size + 1,2,none⟩) (lt_of_cell x2)).trans x2⟩ (fun hHeld=>?_)
  clear hK1
  try simp only [Act.put,List.setIfInBounds_toArray,List.set_cons_zero,List.set_cons_succ,List.getElem_toArray,List.getElem_cons_succ,List.getElem_cons_zero]
  refine wpAnyH_ready (rs:=[4]) (by kernel_rfl) (by simp) ?_
  refine AllReadyH.cons rfl (fun K1 hK1=>?_) AllReadyH.nil
  go_simp
  refine (derives_any [Tm.aw,Tm.nm 100] (some ⟨v1.heap.size,0,none⟩) 2 2 (Tm.nm 101) none 0 0 v3 _ (fun _=>True) (aw_two (HAW.out.below HB3.out) HBS3.out) (tr_name _ _ _) (fun t ht=>by simp at ht;rcases ht with rfl | rfl;exact Tm.aw_facts.2.2.2.2.1;exact Tm.aw_facts.2.2.2.2.2.1) Tm.aw_facts.2.2.2.2.2.2.1 (by decide) Tm.aw_facts.2.2.2.2.2.2.2.1 (HE5.out.below HB3.out)).mono ?_
  rintro e v4 ⟨C,hC,rfl,hv⟩
  rw [Tm.aw_yes hC]
  have HB4:Hid (Below w5.heap.size w5 v4):=HB3.out.trans (hv.mono HB3.out.size)
  clear hv hC
  refine hK1.out _ _ ⟨(HB4.out.cell (p:=⟨u4.heap.size + 1,0,none⟩) (lt_of_cell x0)).trans x0,(HB4.out.cell (p:=⟨u4.heap.size + 1,1,none⟩) (lt_of_cell x1)).trans x1,(HB4.out.cell (p:=⟨u4.heap.size + 1,2,none⟩) (lt_of_cell x2)).trans x2⟩ (fun hHeld=>?_)
  clear hK1
  try simp only [Act.put,List.setIfInBounds_toArray,List.set_cons_zero,List.set_cons_succ,List.getElem_toArray,List.getElem_cons_succ,List.getElem_cons_zero]
  refine wpAnyH_take (i:=5) (v:=?_) rfl (by kernel_rfl) (by kernel_rfl) (by kernel_rfl) (fun _ _ _ h=>h) (Or.inl ⟨by rfl,?_⟩) hHeld ?_
  rotate_left
  ·(intro W hSw;(try dsimp only at hSw);go_simp;try with_reducible rfl)
  try simp only [Act.put,List.setIfInBounds_toArray,List.set_cons_zero,List.set_cons_succ,List.getElem_toArray,List.getElem_cons_succ,List.getElem_cons_zero]
  refine wpAnyH_take (i:=6) (v:=?_) rfl (by kernel_rfl) (by kernel_rfl) (by kernel_rfl) (fun _ _ _ h=>h) (Or.inl ⟨by rfl,?_⟩) hHeld ?_
  rotate_left
  ·(intro W hSw;(try dsimp only at hSw);go_simp;try with_reducible rfl)
  try simp only [Act.put,List.setIfInBounds_toArray,List.set_cons_zero,List.set_cons_succ,List.getElem_toArray,List.getElem_cons_succ,List.getElem_cons_zero]
  refine wpAnyH_take (i:=7) (v:=?_) rfl (by kernel_rfl) (by kernel_rfl) (by kernel_rfl) (fun _ _ _ h=>h) (Or.inl ⟨by rfl,?_⟩) hHeld ?_
  rotate_left
  ·(intro W hSw;(try dsimp only at hSw);go_simp;try with_reducible rfl)
  try simp only [Act.put,List.setIfInBounds_toArray,List.set_cons_zero,List.set_cons_succ,List.getElem_toArray,List.getElem_cons_succ,List.getElem_cons_zero]
  refine wpAnyH_take (i:=8) (v:=?_) rfl (by kernel_rfl) (by kernel_rfl) (by kernel_rfl) (fun _ _ _ h=>h) (Or.inl ⟨by rfl,?_⟩) hHeld ?_
  rotate_left
  ·(intro W hSw;(try dsimp only at hSw);go_simp;try with_reducible rfl)
  try simp only [Act.put,List.setIfInBounds_toArray,List.set_cons_zero,List.set_cons_succ,List.getElem_toArray,List.getElem_cons_succ,List.getElem_cons_zero]
  refine wpAnyH_take (i:=9) (v:=?_) rfl (by kernel_rfl) (by kernel_rfl) (by kernel_rfl) (fun _ _ _ h=>h) (Or.inl ⟨by rfl,?_⟩) hHeld ?_
  rotate_left
  ·(intro W hSw;(try dsimp only at hSw);go_simp;try with_reducible rfl)
  try simp only [Act.put,List.setIfInBounds_toArray,List.set_cons_zero,List.set_cons_succ,List.getElem_toArray,List.getElem_cons_succ,List.getElem_cons_zero]
  refine wpAnyH_done (by kernel_rfl) ?_ _
  try simp only [Act.put,List.setIfInBounds_toArray,List.set_cons_zero,List.set_cons_succ,List.getElem_toArray,List.getElem_cons_succ,List.getElem_cons_zero]
  have HW8:=Lib.hid (pure_trans HW5.out HB4.out)
  have HAW8:=Lib.hid (HAW.out.below HB4.out)
  have HE8:=Lib.hid (HE5.out.below HB4.out)
  obtain ⟨y0,y1,y2⟩:=hHeld
  clear x0 x1 x2
  have x0:=y0
  have x1:=y1
  have x2:=y2
  clear y0 y1 y2 HB1 HB2 HB3 HB4 HBS2 HBS3
  generalize v4=w8 at *
  go_upto_region 3 with fail
  refine wp_region_held_drew (S:=(fun W=>W.cell? ⟨u4.heap.size + 1,0,none⟩=some (.int .i64 4)∧W.cell? ⟨u4.heap.size + 1,1,none⟩=some (.int .i64 0)∧W.cell? ⟨u4.heap.size + 1,2,none⟩=some (.slice (some ⟨u4.heap.size,0,none⟩) 4 4))) (by kernel_rfl) ⟨x0,x1,x2⟩ (fun hHeld=>?_)
  refine wpAnyH_take (i:=0) (v:=?_) rfl (by kernel_rfl) (by kernel_rfl) (by kernel_rfl) (fun _ _ _ h=>h) (Or.inl ⟨by rfl,?_⟩) hHeld ?_
  rotate_left
  ·(intro W hSw;(try dsimp only at hSw);go_simp;try with_reducible rfl)
  try simp only [Act.put,List.setIfInBounds_toArray,List.set_cons_zero,List.set_cons_succ,List.getElem_toArray,List.getElem_cons_succ,List.getElem_cons_zero]
  refine wpAnyH_ready (rs:=[1,2]) (by kernel_rfl) (by simp) ?_
  refine AllReadyH.cons rfl (fun K1 hK1=>?_) (AllReadyH.cons rfl (fun K1 hK1=>?_) AllReadyH.nil)
  ·go_simp
   have hv:Below w8.heap.size w8 (w8.alloc (.cells #[.int .i64 4,.int .i64 0,.slice (some ⟨u4.heap.size,0,none⟩) 4 4] 28)).drew:=below_drewN (pure_alloc _ _) 1
   have HB1:Hid (Below w8.heap.size w8 (w8.alloc (.cells #[.int .i64 4,.int .i64 0,.slice (some ⟨u4.heap.size,0,none⟩) 4 4] 28)).drew):=(Below.refl _ _:Below w8.heap.size w8 w8).trans (hv.mono (Below.refl _ _:Below w8.heap.size w8 w8).size)
   have HBS1:Hid ((w8.alloc (.cells #[.int .i64 4,.int .i64 0,.slice (some ⟨u4.heap.size,0,none⟩) 4 4] 28)).drew.heap[w8.heap.size]?=some (.cells #[.int .i64 4,.int .i64 0,.slice (some ⟨u4.heap.size,0,none⟩) 4 4] 28 (0,0))):=alloc_new _ _
   clear hv
   refine hK1.out _ _ ⟨(HB1.out.cell (p:=⟨u4.heap.size + 1,0,none⟩) (lt_of_cell x0)).trans x0,(HB1.out.cell (p:=⟨u4.heap.size + 1,1,none⟩) (lt_of_cell x1)).trans x1,(HB1.out.cell (p:=⟨u4.heap.size + 1,2,none⟩) (lt_of_cell x2)).trans x2⟩ (fun hHeld=>?_)
   clear hK1
   try simp only [Act.put,List.setIfInBounds_toArray,List.set_cons_zero,List.set_cons_succ,List.getElem_toArray,List.getElem_cons_succ,List.getElem_cons_zero]
   generalize (w8.alloc (.cells #[.int .i64 4,.int .i64 0,.slice (some ⟨u4.heap.size,0,none⟩) 4 4] 28)).drew=v1 at *
   refine wpAnyH_ready (rs:=[2]) (by kernel_rfl) (by simp) ?_
   refine AllReadyH.cons rfl (fun K1 hK1=>?_) AllReadyH.nil
   go_simp
   refine (name_any 101 v1).mono ?_
   rintro e v2 ⟨rfl,hv⟩
   have HB2:Hid (Below w8.heap.size w8 v2):=HB1.out.trans (hv.mono HB1.out.size)
   have HBS2:=Lib.hid (Below.keep hv HBS1.out (lt_of_block HBS1.out))
   clear hv
   refine hK1.out _ _ ⟨(HB2.out.cell (p:=⟨u4.heap.size + 1,0,none⟩) (lt_of_cell x0)).trans x0,(HB2.out.cell (p:=⟨u4.heap.size + 1,1,none⟩) (lt_of_cell x1)).trans x1,(HB2.out.cell (p:=⟨u4.heap.size + 1,2,none⟩) (lt_of_cell x2)).trans x2⟩ (fun hHeld=>?_)
   clear hK1
   try simp only [Act.put,List.setIfInBounds_toArray,List.set_cons_zero,List.set_cons_succ,List.getElem_toArray,List.getElem_cons_succ,List.getElem_cons_zero]
   refine wpAnyH_ready (rs:=[3]) (by kernel_rfl) (by simp) ?_
   refine AllReadyH.cons rfl (fun K1 hK1=>?_) AllReadyH.nil
   go_simp
   refine (derives_any [Tm.aw] (some ⟨w8.heap.size,0,none⟩) 1 1 (Tm.nm 101) none 0 0 v2 _ (fun _=>True) (aw_one (HAW8.out.below HB2.out) HBS2.out) (tr_name _ _ _) (fun t ht=>by simp at ht;rw [ht];exact Tm.aw_facts.2.2.2.2.1) Tm.aw_facts.2.2.2.2.2.2.1 (by decide) Tm.aw_facts.2.2.2.2.2.2.2.2 (HE8.out.below HB2.out)).mono ?_
   rintro e v3 ⟨C,hC,rfl,hv⟩
   rw [Tm.aw_no hC]
   have HB3:Hid (Below w8.heap.size w8 v3):=HB2.out.trans (hv.mono HB2.out.size)
   clear hv hC
   refine hK1.out _ _ ⟨(HB3.out.cell (p:=⟨u4.heap.size + 1,0,none⟩) (lt_of_cell x0)).trans x0,(HB3.out.cell (p:=⟨u4.heap.size + 1,1,none⟩) (lt_of_cell x1)).trans x1,(HB3.out.cell (p:=⟨u4.heap.size + 1,2,none⟩) (lt_of_cell x2)).trans x2⟩ (fun hHeld=>?_)
   clear hK1
   try simp only [Act.put,List.setIfInBounds_toArray,List.set_cons_zero,List.set_cons_succ,List.getElem_toArray,List.getElem_cons_succ,List.getElem_cons_zero]
   refine wpAnyH_take (i:=4) (v:=?_) rfl (by kernel_rfl) (by kernel_rfl) (by kernel_rfl) (fun _ _ _ h=>h) (Or.inl ⟨by rfl,?_⟩) hHeld ?_
   rotate_left
   ·(intro W hSw;(try dsimp only at hSw);go_simp;try with_reducible rfl)
   try simp only [Act.put,List.setIfInBounds_toArray,List.set_cons_zero,List.set_cons_succ,List.getElem_toArray,List.getElem_cons_succ,List.getElem_cons_zero]
   refine wpAnyH_take (i:=5) (v:=?_) rfl (by kernel_rfl) (by kernel_rfl) (by kernel_rfl) (fun _ _ _ h=>h) (Or.inl ⟨by rfl,?_⟩) hHeld ?_
   rotate_left
   ·(intro W hSw;(try dsimp only at hSw);go_simp;try with_reducible rfl)
   try simp only [Act.put,List.setIfInBounds_toArray,List.set_cons_zero,List.set_cons_succ,List.getElem_toArray,List.getElem_cons_succ,List.getElem_cons_zero]
   refine wpAnyH_take (i:=6) (v:=?_) rfl (by kernel_rfl) (by kernel_rfl) (by kernel_rfl) (fun _ _ _ h=>h) (Or.inl ⟨by rfl,?_⟩) hHeld ?_
   rotate_left
   ·(intro W hSw;(try dsimp only at hSw);go_simp;try with_reducible rfl)
   try simp only [Act.put,List.setIfInBounds_toArray,List.set_cons_zero,List.set_cons_succ,List.getElem_toArray,List.getElem_cons_succ,List.getElem_cons_zero]
   refine wpAnyH_take (i:=7) (v:=?_) rfl (by kernel_rfl) (by kernel_rfl) (by kernel_rfl) (fun _ _ _ h=>h) (Or.inl ⟨by rfl,?_⟩) hHeld ?_
   rotate_left
   ·(intro W hSw;(try dsimp only at hSw);go_simp;try with_reducible rfl)
   try simp only [Act.put,List.setIfInBounds_toArray,List.set_cons_zero,List.set_cons_succ,List.getElem_toArray,List.getElem_cons_succ,List.getElem_cons_zero]
   refine wpAnyH_take (i:=8) (v:=?_) rfl (by kernel_rfl) (by kernel_rfl) (by kernel_rfl) (fun _ _ _ h=>h) (Or.inl ⟨by rfl,?_⟩) hHeld ?_
   rotate_left
   ·(intro W hSw;(try dsimp only at hSw);go_simp;try with_reducible rfl)
   try simp only [Act.put,List.setIfInBounds_toArray,List.set_cons_zero,List.set_cons_succ,List.getElem_toArray,List.getElem_cons_succ,List.getElem_cons_zero]
   refine wpAnyH_done (by kernel_rfl) ?_ _
   try simp only [Act.put,List.setIfInBounds_toArray,List.set_cons_zero,List.set_cons_succ,List.getElem_toArray,List.getElem_cons_succ,List.getElem_cons_zero]
   have HP9:=Lib.hid (pure_trans HW8.out HB3.out)
   have HAW9:=Lib.hid (HAW8.out.below HB3.out)
   have HE9:=Lib.hid (HE8.out.below HB3.out)
   obtain ⟨y0,y1,y2⟩:=hHeld
   clear x0 x1 x2
   generalize v3=w9 at *
   have HPR:=Lib.hid (print_any Tm.aw (some ⟨u4.heap.size,0,none⟩) 4 4 w9 _ HAW9.out.tr Tm.aw_facts.2.2.2.2.1 HE9.out)
   go_wp2_with fail
   refine HPR.out.mono ?_
   rintro e w10 ⟨rfl,hw10⟩
   have HP10:=Lib.hid (pure_trans HP9.out hw10)
   clear hw10
   simp only [Str,Tm.aw_text]
   go_wp2_with fail
   go_ret
   exact ⟨rfl,HP10.out⟩
  ·go_simp
   refine (name_any 101 w8.drew).mono ?_
   rintro e v1 ⟨rfl,hv⟩
   have HB1:Hid (Below w8.heap.size w8 v1):=(below_drewN (Below.refl _ _) 1:Below w8.heap.size w8 w8.drew).trans (hv.mono (below_drewN (Below.refl _ _) 1:Below w8.heap.size w8 w8.drew).size)
   clear hv
   refine hK1.out _ _ ⟨(HB1.out.cell (p:=⟨u4.heap.size + 1,0,none⟩) (lt_of_cell x0)).trans x0,(HB1.out.cell (p:=⟨u4.heap.size + 1,1,none⟩) (lt_of_cell x1)).trans x1,(HB1.out.cell (p:=⟨u4.heap.size + 1,2,none⟩) (lt_of_cell x2)).trans x2⟩ (fun hHeld=>?_)
   clear hK1
   try simp only [Act.put,List.setIfInBounds_toArray,List.set_cons_zero,List.set_cons_succ,List.getElem_toArray,List.getElem_cons_succ,List.getElem_cons_zero]
   refine wpAnyH_ready (rs:=[1]) (by kernel_rfl) (by simp) ?_
   refine AllReadyH.cons rfl (fun K1 hK1=>?_) AllReadyH.nil
   go_simp
   have hv:Below v1.heap.size v1 (v1.alloc (.cells #[.int .i64 4,.int .i64 0,.slice (some ⟨u4.heap.size,0,none⟩) 4 4] 28)):=pure_alloc _ _
   have HB2:Hid (Below w8.heap.size w8 (v1.alloc (.cells #[.int .i64 4,.int .i64 0,.slice (some ⟨u4.heap.size,0,none⟩) 4 4] 28))):=HB1.out.trans (hv.mono HB1.out.size)
   have HBS2:Hid ((v1.alloc (.cells #[.int .i64 4,.int .i64 0,.slice (some ⟨u4.heap.size,0,none⟩) 4 4] 28)).heap[v1.heap.size]?=some (.cells #[.int .i64 4,.int .i64 0,.slice (some ⟨u4.heap.size,0,none⟩) 4 4] 28 (0,0))):=alloc_new _ _
   clear hv
   refine hK1.out _ _ ⟨(HB2.out.cell (p:=⟨u4.heap.size + 1,0,none⟩) (lt_of_cell x0)).trans x0,(HB2.out.cell (p:=⟨u4.heap.size + 1,1,none⟩) (lt_of_cell x1)).trans x1,(HB2.out.cell (p:=⟨u4.heap.size + 1,2,none⟩) (lt_of_cell x2)).trans x2⟩ (fun hHeld=>?_)
   clear hK1
   try simp only [Act.put,List.setIfInBounds_toArray,List.set_cons_zero,List.set_cons_succ,List.getElem_toArray,List.getElem_cons_succ,List.getElem_cons_zero]
   generalize (v1.alloc (.cells #[.int .i64 4,.int .i64 0,.slice (some ⟨u4.heap.size,0,none⟩) 4 4] 28))=v2 at *
   refine wpAnyH_ready (rs:=[3]) (by kernel_rfl) (by simp) ?_
   refine AllReadyH.cons rfl (fun K1 hK1=>?_) AllReadyH.nil
   go_simp
   refine (derives_any [Tm.aw] (some ⟨v1.heap.size,0,none⟩) 1 1 (Tm.nm 101) none 0 0 v2 _ (fun _=>True) (aw_one (HAW8.out.below HB2.out) HBS2.out) (tr_name _ _ _) (fun t ht=>by simp at ht;rw [ht];exact Tm.aw_facts.2.2.2.2.1) Tm.aw_facts.2.2.2.2.2.2.1 (by decide) Tm.aw_facts.2.2.2.2.2.2.2.2 (HE8.out.below HB2.out)).mono ?_
   rintro e v3 ⟨C,hC,rfl,hv⟩
   rw [Tm.aw_no hC]
   have HB3:Hid (Below w8.heap.size w8 v3):=HB2.out.trans (hv.mono HB2.out.size)
   clear hv hC
   refine hK1.out _ _ ⟨(HB3.out.cell (p:=⟨u4.heap.size + 1,0,none⟩) (lt_of_cell x0)).trans x0,(HB3.out.cell (p:=⟨u4.heap.size + 1,1,none⟩) (lt_of_cell x1)).trans x1,(HB3.out.cell (p:=⟨u4.heap.size + 1,2,none⟩) (lt_of_cell x2)).trans x2⟩ (fun hHeld=>?_)
   clear hK1
   try simp only [Act.put,List.setIfInBounds_toArray,List.set_cons_zero,List.set_cons_succ,List.getElem_toArray,List.getElem_cons_succ,List.getElem_cons_zero]
   refine wpAnyH_take (i:=4) (v:=?_) rfl (by kernel_rfl) (by kernel_rfl) (by kernel_rfl) (fun _ _ _ h=>h) (Or.inl ⟨by rfl,?_⟩) hHeld ?_
   rotate_left
   ·(intro W hSw;(try dsimp only at hSw);go_simp;try with_reducible rfl)
   try simp only [Act.put,List.setIfInBounds_toArray,List.set_cons_zero,List.set_cons_succ,List.getElem_toArray,List.getElem_cons_succ,List.getElem_cons_zero]
   refine wpAnyH_take (i:=5) (v:=?_) rfl (by kernel_rfl) (by kernel_rfl) (by kernel_rfl) (fun _ _ _ h=>h) (Or.inl ⟨by rfl,?_⟩) hHeld ?_
   rotate_left
   ·(intro W hSw;(try dsimp only at hSw);go_simp;try with_reducible rfl)
   try simp only [Act.put,List.setIfInBounds_toArray,List.set_cons_zero,List.set_cons_succ,List.getElem_toArray,List.getElem_cons_succ,List.getElem_cons_zero]
   refine wpAnyH_take (i:=6) (v:=?_) rfl (by kernel_rfl) (by kernel_rfl) (by kernel_rfl) (fun _ _ _ h=>h) (Or.inl ⟨by rfl,?_⟩) hHeld ?_
   rotate_left
   ·(intro W hSw;(try dsimp only at hSw);go_simp;try with_reducible rfl)
   try simp only [Act.put,List.setIfInBounds_toArray,List.set_cons_zero,List.set_cons_succ,List.getElem_toArray,List.getElem_cons_succ,List.getElem_cons_zero]
   refine wpAnyH_take (i:=7) (v:=?_) rfl (by kernel_rfl) (by kernel_rfl) (by kernel_rfl) (fun _ _ _ h=>h) (Or.inl ⟨by rfl,?_⟩) hHeld ?_
   rotate_left
   ·(intro W hSw;(try dsimp only at hSw);go_simp;try with_reducible rfl)
   try simp only [Act.put,List.setIfInBounds_toArray,List.set_cons_zero,List.set_cons_succ,List.getElem_toArray,List.getElem_cons_succ,List.getElem_cons_zero]
   refine wpAnyH_take (i:=8) (v:=?_) rfl (by kernel_rfl) (by kernel_rfl) (by kernel_rfl) (fun _ _ _ h=>h) (Or.inl ⟨by rfl,?_⟩) hHeld ?_
   rotate_left
   ·(intro W hSw;(try dsimp only at hSw);go_simp;try with_reducible rfl)
   try simp only [Act.put,List.setIfInBounds_toArray,List.set_cons_zero,List.set_cons_succ,List.getElem_toArray,List.getElem_cons_succ,List.getElem_cons_zero]
   refine wpAnyH_done (by kernel_rfl) ?_ _
   try simp only [Act.put,List.setIfInBounds_toArray,List.set_cons_zero,List.set_cons_succ,List.getElem_toArray,List.getElem_cons_succ,List.getElem_cons_zero]
   have HP9:=Lib.hid (pure_trans HW8.out HB3.out)
   have HAW9:=Lib.hid (HAW8.out.below HB3.out)
   have HE9:=Lib.hid (HE8.out.below HB3.out)
   obtain ⟨y0,y1,y2⟩:=hHeld
   clear x0 x1 x2
   generalize v3=w9 at *
   have HPR:=Lib.hid (print_any Tm.aw (some ⟨u4.heap.size,0,none⟩) 4 4 w9 _ HAW9.out.tr Tm.aw_facts.2.2.2.2.1 HE9.out)
   go_wp2_with fail
   refine HPR.out.mono ?_
   rintro e w10 ⟨rfl,hw10⟩
   have HP10:=Lib.hid (pure_trans HP9.out hw10)
   clear hw10
   simp only [Str,Tm.aw_text]
   go_wp2_with fail
   go_ret
   exact ⟨rfl,HP10.out⟩
 ·go_simp
  refine (name_any 101 v1).mono ?_
  rintro e v2 ⟨rfl,hv⟩
  have HB2:Hid (Below w5.heap.size w5 v2):=HB1.out.trans (hv.mono HB1.out.size)
  clear hv
  refine hK1.out _ _ ⟨(HB2.out.cell (p:=⟨u4.heap.size + 1,0,none⟩) (lt_of_cell x0)).trans x0,(HB2.out.cell (p:=⟨u4.heap.size + 1,1,none⟩) (lt_of_cell x1)).trans x1,(HB2.out.cell (p:=⟨u4.heap.size + 1,2,none⟩) (lt_of_cell x2)).trans x2⟩ (fun hHeld=>?_)
  clear hK1
  try simp only [Act.put,List.setIfInBounds_toArray,List.set_cons_zero,List.set_cons_succ,List.getElem_toArray,List.getElem_cons_succ,List.getElem_cons_zero]
  refine wpAnyH_ready (rs:=[2]) (by kernel_rfl) (by simp) ?_
  refine AllReadyH.cons rfl (fun K1 hK1=>?_) AllReadyH.nil
  go_simp
  have hv:Below v2.heap.size v2 (v2.alloc (.cells #[.int .i64 4,.int .i64 0,.slice (some ⟨u4.heap.size,0,none⟩) 4 4,.int .i64 1,.int .i64 100,.slice none 0 0] 28)):=pure_alloc _ _
  have HB3:Hid (Below w5.heap.size w5 (v2.alloc (.cells #[.int .i64 4,.int .i64 0,.slice (some ⟨u4.heap.size,0,none⟩) 4 4,.int .i64 1,.int .i64 100,.slice none 0 0] 28))):=HB2.out.trans (hv.mono HB2.out.size)
  have HBS3:Hid ((v2.alloc (.cells #[.int .i64 4,.int .i64 0,.slice (some ⟨u4.heap.size,0,none⟩) 4 4,.int .i64 1,.int .i64 100,.slice none 0 0] 28)).heap[v2.heap.size]?=some (.cells #[.int .i64 4,.int .i64 0,.slice (some ⟨u4.heap.size,0,none⟩) 4 4,.int .i64 1,.int .i64 100,.slice none 0 0] 28 (0,0))):=alloc_new _ _
  clear hv
  refine hK1.out _ _ ⟨(HB3.out.cell (p:=⟨u4.heap.size + 1,0,none⟩) (lt_of_cell x0)).trans x0,(HB3.out.cell (p:=⟨u4.heap.size + 1,1,none⟩) (lt_of_cell x1)).trans x1,(HB3.out.cell (p:=⟨u4.heap.size + 1,2,none⟩) (lt_of_cell x2)).trans x2⟩ (fun hHeld=>?_)
  clear hK1
  try simp only [Act.put,List.setIfInBounds_toArray,List.set_cons_zero,List.set_cons_succ,List.getElem_toArray,List.getElem_cons_succ,List.getElem_cons_zero]
  generalize (v2.alloc (.cells #[.int .i64 4,.int .i64 0,.slice (some ⟨u4.heap.size,0,none⟩) 4 4,.int .i64 1,.int .i64 100,.slice none 0 0] 28))=v3 at *
  refine wpAnyH_ready (rs:=[4]) (by kernel_rfl) (by simp) ?_
  refine AllReadyH.cons rfl (fun K1 hK1=>?_) AllReadyH.nil
  go_simp
  refine (derives_any [Tm.aw,Tm.nm 100] (some ⟨v2.heap.size,0,none⟩) 2 2 (Tm.nm 101) none 0 0 v3 _ (fun _=>True) (aw_two (HAW.out.below HB3.out) HBS3.out) (tr_name _ _ _) (fun t ht=>by simp at ht;rcases ht with rfl | rfl;exact Tm.aw_facts.2.2.2.2.1;exact Tm.aw_facts.2.2.2.2.2.1) Tm.aw_facts.2.2.2.2.2.2.1 (by decide) Tm.aw_facts.2.2.2.2.2.2.2.1 (HE5.out.below HB3.out)).mono ?_
  rintro e v4 ⟨C,hC,rfl,hv⟩
  rw [Tm.aw_yes hC]
  have HB4:Hid (Below w5.heap.size w5 v4):=HB3.out.trans (hv.mono HB3.out.size)
  clear hv hC
  refine hK1.out _ _ ⟨(HB4.out.cell (p:=⟨u4.heap.size + 1,0,none⟩) (lt_of_cell x0)).trans x0,(HB4.out.cell (p:=⟨u4.heap.size + 1,1,none⟩) (lt_of_cell x1)).trans x1,(HB4.out.cell (p:=⟨u4.heap.size + 1,2,none⟩) (lt_of_cell x2)).trans x2⟩ (fun hHeld=>?_)
  clear hK1
  try simp only [Act.put,List.setIfInBounds_toArray,List.set_cons_zero,List.set_cons_succ,List.getElem_toArray,List.getElem_cons_succ,List.getElem_cons_zero]
  refine wpAnyH_take (i:=5) (v:=?_) rfl (by kernel_rfl) (by kernel_rfl) (by kernel_rfl) (fun _ _ _ h=>h) (Or.inl ⟨by rfl,?_⟩) hHeld ?_
  rotate_left
  ·(intro W hSw;(try dsimp only at hSw);go_simp;try with_reducible rfl)
  try simp only [Act.put,List.setIfInBounds_toArray,List.set_cons_zero,List.set_cons_succ,List.getElem_toArray,List.getElem_cons_succ,List.getElem_cons_zero]
  refine wpAnyH_take (i:=6) (v:=?_) rfl (by kernel_rfl) (by kernel_rfl) (by kernel_rfl) (fun _ _ _ h=>h) (Or.inl ⟨by rfl,?_⟩) hHeld ?_
  rotate_left
  ·(intro W hSw;(try dsimp only at hSw);go_simp;try with_reducible rfl)
  try simp only [Act.put,List.setIfInBounds_toArray,List.set_cons_zero,List.set_cons_succ,List.getElem_toArray,List.getElem_cons_succ,List.getElem_cons_zero]
  refine wpAnyH_take (i:=7) (v:=?_) rfl (by kernel_rfl) (by kernel_rfl) (by kernel_rfl) (fun _ _ _ h=>h) (Or.inl ⟨by rfl,?_⟩) hHeld ?_
  rotate_left
  ·(intro W hSw;(try dsimp only at hSw);go_simp;try with_reducible rfl)
  try simp only [Act.put,List.setIfInBounds_toArray,List.set_cons_zero,List.set_cons_succ,List.getElem_toArray,List.getElem_cons_succ,List.getElem_cons_zero]
  refine wpAnyH_take (i:=8) (v:=?_) rfl (by kernel_rfl) (by kernel_rfl) (by kernel_rfl) (fun _ _ _ h=>h) (Or.inl ⟨by rfl,?_⟩) hHeld ?_
  rotate_left
  ·(intro W hSw;(try dsimp only at hSw);go_simp;try with_reducible rfl)
  try simp only [Act.put,List.setIfInBounds_toArray,List.set_cons_zero,List.set_cons_succ,List.getElem_toArray,List.getElem_cons_succ,List.getElem_cons_zero]
  refine wpAnyH_take (i:=9) (v:=?_) rfl (by kernel_rfl) (by kernel_rfl) (by kernel_rfl) (fun _ _ _ h=>h) (Or.inl ⟨by rfl,?_⟩) hHeld ?_
  rotate_left
  ·(intro W hSw;(try dsimp only at hSw);go_simp;try with_reducible rfl)
  try simp only [Act.put,List.setIfInBounds_toArray,List.set_cons_zero,List.set_cons_succ,List.getElem_toArray,List.getElem_cons_succ,List.getElem_cons_zero]
  refine wpAnyH_done (by kernel_rfl) ?_ _
  try simp only [Act.put,List.setIfInBounds_toArray,List.set_cons_zero,List.set_cons_succ,List.getElem_toArray,List.getElem_cons_succ,List.getElem_cons_zero]
  have HW8:=Lib.hid (pure_trans HW5.out HB4.out)
  have HAW8:=Lib.hid (HAW.out.below HB4.out)
  have HE8:=Lib.hid (HE5.out.below HB4.out)
  obtain ⟨y0,y1,y2⟩:=hHeld
  clear x0 x1 x2
  have x0:=y0
  have x1:=y1
  have x2:=y2
  clear y0 y1 y2 HB1 HB2 HB3 HB4 HBS3
  generalize v4=w8 at *
  go_upto_region 3 with fail
  refine wp_region_held_drew (S:=(fun W=>W.cell? ⟨u4.heap.size + 1,0,none⟩=some (.int .i64 4)∧W.cell? ⟨u4.heap.size + 1,1,none⟩=some (.int .i64 0)∧W.cell? ⟨u4.heap.size + 1,2,none⟩=some (.slice (some ⟨u4.heap.size,0,none⟩) 4 4))) (by kernel_rfl) ⟨x0,x1,x2⟩ (fun hHeld=>?_)
  refine wpAnyH_take (i:=0) (v:=?_) rfl (by kernel_rfl) (by kernel_rfl) (by kernel_rfl) (fun _ _ _ h=>h) (Or.inl ⟨by rfl,?_⟩) hHeld ?_
  rotate_left
  ·(intro W hSw;(try dsimp only at hSw);go_simp;try with_reducible rfl)
  try simp only [Act.put,List.setIfInBounds_toArray,List.set_cons_zero,List.set_cons_succ,List.getElem_toArray,List.getElem_cons_succ,List.getElem_cons_zero]
  refine wpAnyH_ready (rs:=[1,2]) (by kernel_rfl) (by simp) ?_
  refine AllReadyH.cons rfl (fun K1 hK1=>?_) (AllReadyH.cons rfl (fun K1 hK1=>?_) AllReadyH.nil)
  ·go_simp
   have hv:Below w8.heap.size w8 (w8.alloc (.cells #[.int .i64 4,.int .i64 0,.slice (some ⟨u4.heap.size,0,none⟩) 4 4] 28)).drew:=below_drewN (pure_alloc _ _) 1
   have HB1:Hid (Below w8.heap.size w8 (w8.alloc (.cells #[.int .i64 4,.int .i64 0,.slice (some ⟨u4.heap.size,0,none⟩) 4 4] 28)).drew):=(Below.refl _ _:Below w8.heap.size w8 w8).trans (hv.mono (Below.refl _ _:Below w8.heap.size w8 w8).size)
   have HBS1:Hid ((w8.alloc (.cells #[.int .i64 4,.int .i64 0,.slice (some ⟨u4.heap.size,0,none⟩) 4 4] 28)).drew.heap[w8.heap.size]?=some (.cells #[.int .i64 4,.int .i64 0,.slice (some ⟨u4.heap.size,0,none⟩) 4 4] 28 (0,0))):=alloc_new _ _
   clear hv
   refine hK1.out _ _ ⟨(HB1.out.cell (p:=⟨u4.heap.size + 1,0,none⟩) (lt_of_cell x0)).trans x0,(HB1.out.cell (p:=⟨u4.heap.size + 1,1,none⟩) (lt_of_cell x1)).trans x1,(HB1.out.cell (p:=⟨u4.heap.size + 1,2,none⟩) (lt_of_cell x2)).trans x2⟩ (fun hHeld=>?_)
   clear hK1
   try simp only [Act.put,List.setIfInBounds_toArray,List.set_cons_zero,List.set_cons_succ,List.getElem_toArray,List.getElem_cons_succ,List.getElem_cons_zero]
   generalize (w8.alloc (.cells #[.int .i64 4,.int .i64 0,.slice (some ⟨u4.heap.size,0,none⟩) 4 4] 28)).drew=v1 at *
   refine wpAnyH_ready (rs:=[2]) (by kernel_rfl) (by simp) ?_
   refine AllReadyH.cons rfl (fun K1 hK1=>?_) AllReadyH.nil
   go_simp
   refine (name_any 101 v1).mono ?_
   rintro e v2 ⟨rfl,hv⟩
   have HB2:Hid (Below w8.heap.size w8 v2):=HB1.out.trans (hv.mono HB1.out.size)
   have HBS2:=Lib.hid (Below.keep hv HBS1.out (lt_of_block HBS1.out))
   clear hv
   refine hK1.out _ _ ⟨(HB2.out.cell (p:=⟨u4.heap.size + 1,0,none⟩) (lt_of_cell x0)).trans x0,(HB2.out.cell (p:=⟨u4.heap.size + 1,1,none⟩) (lt_of_cell x1)).trans x1,(HB2.out.cell (p:=⟨u4.heap.size + 1,2,none⟩) (lt_of_cell x2)).trans x2⟩ (fun hHeld=>?_)
   clear hK1
   try simp only [Act.put,List.setIfInBounds_toArray,List.set_cons_zero,List.set_cons_succ,List.getElem_toArray,List.getElem_cons_succ,List.getElem_cons_zero]
   refine wpAnyH_ready (rs:=[3]) (by kernel_rfl) (by simp) ?_
   refine AllReadyH.cons rfl (fun K1 hK1=>?_) AllReadyH.nil
   go_simp
   refine (derives_any [Tm.aw] (some ⟨w8.heap.size,0,none⟩) 1 1 (Tm.nm 101) none 0 0 v2 _ (fun _=>True) (aw_one (HAW8.out.below HB2.out) HBS2.out) (tr_name _ _ _) (fun t ht=>by simp at ht;rw [ht];exact Tm.aw_facts.2.2.2.2.1) Tm.aw_facts.2.2.2.2.2.2.1 (by decide) Tm.aw_facts.2.2.2.2.2.2.2.2 (HE8.out.below HB2.out)).mono ?_
   rintro e v3 ⟨C,hC,rfl,hv⟩
   rw [Tm.aw_no hC]
   have HB3:Hid (Below w8.heap.size w8 v3):=HB2.out.trans (hv.mono HB2.out.size)
   clear hv hC
   refine hK1.out _ _ ⟨(HB3.out.cell (p:=⟨u4.heap.size + 1,0,none⟩) (lt_of_cell x0)).trans x0,(HB3.out.cell (p:=⟨u4.heap.size + 1,1,none⟩) (lt_of_cell x1)).trans x1,(HB3.out.cell (p:=⟨u4.heap.size + 1,2,none⟩) (lt_of_cell x2)).trans x2⟩ (fun hHeld=>?_)
   clear hK1
   try simp only [Act.put,List.setIfInBounds_toArray,List.set_cons_zero,List.set_cons_succ,List.getElem_toArray,List.getElem_cons_succ,List.getElem_cons_zero]
   refine wpAnyH_take (i:=4) (v:=?_) rfl (by kernel_rfl) (by kernel_rfl) (by kernel_rfl) (fun _ _ _ h=>h) (Or.inl ⟨by rfl,?_⟩) hHeld ?_
   rotate_left
   ·(intro W hSw;(try dsimp only at hSw);go_simp;try with_reducible rfl)
   try simp only [Act.put,List.setIfInBounds_toArray,List.set_cons_zero,List.set_cons_succ,List.getElem_toArray,List.getElem_cons_succ,List.getElem_cons_zero]
   refine wpAnyH_take (i:=5) (v:=?_) rfl (by kernel_rfl) (by kernel_rfl) (by kernel_rfl) (fun _ _ _ h=>h) (Or.inl ⟨by rfl,?_⟩) hHeld ?_
   rotate_left
   ·(intro W hSw;(try dsimp only at hSw);go_simp;try with_reducible rfl)
   try simp only [Act.put,List.setIfInBounds_toArray,List.set_cons_zero,List.set_cons_succ,List.getElem_toArray,List.getElem_cons_succ,List.getElem_cons_zero]
   refine wpAnyH_take (i:=6) (v:=?_) rfl (by kernel_rfl) (by kernel_rfl) (by kernel_rfl) (fun _ _ _ h=>h) (Or.inl ⟨by rfl,?_⟩) hHeld ?_
   rotate_left
   ·(intro W hSw;(try dsimp only at hSw);go_simp;try with_reducible rfl)
   try simp only [Act.put,List.setIfInBounds_toArray,List.set_cons_zero,List.set_cons_succ,List.getElem_toArray,List.getElem_cons_succ,List.getElem_cons_zero]
   refine wpAnyH_take (i:=7) (v:=?_) rfl (by kernel_rfl) (by kernel_rfl) (by kernel_rfl) (fun _ _ _ h=>h) (Or.inl ⟨by rfl,?_⟩) hHeld ?_
   rotate_left
   ·(intro W hSw;(try dsimp only at hSw);go_simp;try with_reducible rfl)
   try simp only [Act.put,List.setIfInBounds_toArray,List.set_cons_zero,List.set_cons_succ,List.getElem_toArray,List.getElem_cons_succ,List.getElem_cons_zero]
   refine wpAnyH_take (i:=8) (v:=?_) rfl (by kernel_rfl) (by kernel_rfl) (by kernel_rfl) (fun _ _ _ h=>h) (Or.inl ⟨by rfl,?_⟩) hHeld ?_
   rotate_left
   ·(intro W hSw;(try dsimp only at hSw);go_simp;try with_reducible rfl)
   try simp only [Act.put,List.setIfInBounds_toArray,List.set_cons_zero,List.set_cons_succ,List.getElem_toArray,List.getElem_cons_succ,List.getElem_cons_zero]
   refine wpAnyH_done (by kernel_rfl) ?_ _
   try simp only [Act.put,List.setIfInBounds_toArray,List.set_cons_zero,List.set_cons_succ,List.getElem_toArray,List.getElem_cons_succ,List.getElem_cons_zero]
   have HP9:=Lib.hid (pure_trans HW8.out HB3.out)
   have HAW9:=Lib.hid (HAW8.out.below HB3.out)
   have HE9:=Lib.hid (HE8.out.below HB3.out)
   obtain ⟨y0,y1,y2⟩:=hHeld
   clear x0 x1 x2
   generalize v3=w9 at *
   have HPR:=Lib.hid (print_any Tm.aw (some ⟨u4.heap.size,0,none⟩) 4 4 w9 _ HAW9.out.tr Tm.aw_facts.2.2.2.2.1 HE9.out)
   go_wp2_with fail
   refine HPR.out.mono ?_
   rintro e w10 ⟨rfl,hw10⟩
   have HP10:=Lib.hid (pure_trans HP9.out hw10)
   clear hw10
   simp only [Str,Tm.aw_text]
   go_wp2_with fail
   go_ret
   exact ⟨rfl,HP10.out⟩
  ·go_simp
   refine (name_any 101 w8.drew).mono ?_
   rintro e v1 ⟨rfl,hv⟩
   have HB1:Hid (Below w8.heap.size w8 v1):=(below_drewN (Below.refl _ _) 1:Below w8.heap.size w8 w8.drew).trans (hv.mono (below_drewN (Below.refl _ _) 1:Below w8.heap.size w8 w8.drew).size)
   clear hv
   refine hK1.out _ _ ⟨(HB1.out.cell (p:=⟨u4.heap.size + 1,0,none⟩) (lt_of_cell x0)).trans x0,(HB1.out.cell (p:=⟨u4.heap.size + 1,1,none⟩) (lt_of_cell x1)).trans x1,(HB1.out.cell (p:=⟨u4.heap.size + 1,2,none⟩) (lt_of_cell x2)).trans x2⟩ (fun hHeld=>?_)
   clear hK1
   try simp only [Act.put,List.setIfInBounds_toArray,List.set_cons_zero,List.set_cons_succ,List.getElem_toArray,List.getElem_cons_succ,List.getElem_cons_zero]
   refine wpAnyH_ready (rs:=[1]) (by kernel_rfl) (by simp) ?_
   refine AllReadyH.cons rfl (fun K1 hK1=>?_) AllReadyH.nil
   go_simp
   have hv:Below v1.heap.size v1 (v1.alloc (.cells #[.int .i64 4,.int .i64 0,.slice (some ⟨u4.heap.size,0,none⟩) 4 4] 28)):=pure_alloc _ _
   have HB2:Hid (Below w8.heap.size w8 (v1.alloc (.cells #[.int .i64 4,.int .i64 0,.slice (some ⟨u4.heap.size,0,none⟩) 4 4] 28))):=HB1.out.trans (hv.mono HB1.out.size)
   have HBS2:Hid ((v1.alloc (.cells #[.int .i64 4,.int .i64 0,.slice (some ⟨u4.heap.size,0,none⟩) 4 4] 28)).heap[v1.heap.size]?=some (.cells #[.int .i64 4,.int .i64 0,.slice (some ⟨u4.heap.size,0,none⟩) 4 4] 28 (0,0))):=alloc_new _ _
   clear hv
   refine hK1.out _ _ ⟨(HB2.out.cell (p:=⟨u4.heap.size + 1,0,none⟩) (lt_of_cell x0)).trans x0,(HB2.out.cell (p:=⟨u4.heap.size + 1,1,none⟩) (lt_of_cell x1)).trans x1,(HB2.out.cell (p:=⟨u4.heap.size + 1,2,none⟩) (lt_of_cell x2)).trans x2⟩ (fun hHeld=>?_)
   clear hK1
   try simp only [Act.put,List.setIfInBounds_toArray,List.set_cons_zero,List.set_cons_succ,List.getElem_toArray,List.getElem_cons_succ,List.getElem_cons_zero]
   generalize (v1.alloc (.cells #[.int .i64 4,.int .i64 0,.slice (some ⟨u4.heap.size,0,none⟩) 4 4] 28))=v2 at *
   refine wpAnyH_ready (rs:=[3]) (by kernel_rfl) (by simp) ?_
   refine AllReadyH.cons rfl (fun K1 hK1=>?_) AllReadyH.nil
   go_simp
   refine (derives_any [Tm.aw] (some ⟨v1.heap.size,0,none⟩) 1 1 (Tm.nm 101) none 0 0 v2 _ (fun _=>True) (aw_one (HAW8.out.below HB2.out) HBS2.out) (tr_name _ _ _) (fun t ht=>by simp at ht;rw [ht];exact Tm.aw_facts.2.2.2.2.1) Tm.aw_facts.2.2.2.2.2.2.1 (by decide) Tm.aw_facts.2.2.2.2.2.2.2.2 (HE8.out.below HB2.out)).mono ?_
   rintro e v3 ⟨C,hC,rfl,hv⟩
   rw [Tm.aw_no hC]
   have HB3:Hid (Below w8.heap.size w8 v3):=HB2.out.trans (hv.mono HB2.out.size)
   clear hv hC
   refine hK1.out _ _ ⟨(HB3.out.cell (p:=⟨u4.heap.size + 1,0,none⟩) (lt_of_cell x0)).trans x0,(HB3.out.cell (p:=⟨u4.heap.size + 1,1,none⟩) (lt_of_cell x1)).trans x1,(HB3.out.cell (p:=⟨u4.heap.size + 1,2,none⟩) (lt_of_cell x2)).trans x2⟩ (fun hHeld=>?_)
   clear hK1
   try simp only [Act.put,List.setIfInBounds_toArray,List.set_cons_zero,List.set_cons_succ,List.getElem_toArray,List.getElem_cons_succ,List.getElem_cons_zero]
   refine wpAnyH_take (i:=4) (v:=?_) rfl (by kernel_rfl) (by kernel_rfl) (by kernel_rfl) (fun _ _ _ h=>h) (Or.inl ⟨by rfl,?_⟩) hHeld ?_
   rotate_left
   ·(intro W hSw;(try dsimp only at hSw);go_simp;try with_reducible rfl)
   try simp only [Act.put,List.setIfInBounds_toArray,List.set_cons_zero,List.set_cons_succ,List.getElem_toArray,List.getElem_cons_succ,List.getElem_cons_zero]
   refine wpAnyH_take (i:=5) (v:=?_) rfl (by kernel_rfl) (by kernel_rfl) (by kernel_rfl) (fun _ _ _ h=>h) (Or.inl ⟨by rfl,?_⟩) hHeld ?_
   rotate_left
   ·(intro W hSw;(try dsimp only at hSw);go_simp;try with_reducible rfl)
   try simp only [Act.put,List.setIfInBounds_toArray,List.set_cons_zero,List.set_cons_succ,List.getElem_toArray,List.getElem_cons_succ,List.getElem_cons_zero]
   refine wpAnyH_take (i:=6) (v:=?_) rfl (by kernel_rfl) (by kernel_rfl) (by kernel_rfl) (fun _ _ _ h=>h) (Or.inl ⟨by rfl,?_⟩) hHeld ?_
   rotate_left
   ·(intro W hSw;(try dsimp only at hSw);go_simp;try with_reducible rfl)
   try simp only [Act.put,List.setIfInBounds_toArray,List.set_cons_zero,List.set_cons_succ,List.getElem_toArray,List.getElem_cons_succ,List.getElem_cons_zero]
   refine wpAnyH_take (i:=7) (v:=?_) rfl (by kernel_rfl) (by kernel_rfl) (by kernel_rfl) (fun _ _ _ h=>h) (Or.inl ⟨by rfl,?_⟩) hHeld ?_
   rotate_left
   ·(intro W hSw;(try dsimp only at hSw);go_simp;try with_reducible rfl)
   try simp only [Act.put,List.setIfInBounds_toArray,List.set_cons_zero,List.set_cons_succ,List.getElem_toArray,List.getElem_cons_succ,List.getElem_cons_zero]
   refine wpAnyH_take (i:=8) (v:=?_) rfl (by kernel_rfl) (by kernel_rfl) (by kernel_rfl) (fun _ _ _ h=>h) (Or.inl ⟨by rfl,?_⟩) hHeld ?_
   rotate_left
   ·(intro W hSw;(try dsimp only at hSw);go_simp;try with_reducible rfl)
   try simp only [Act.put,List.setIfInBounds_toArray,List.set_cons_zero,List.set_cons_succ,List.getElem_toArray,List.getElem_cons_succ,List.getElem_cons_zero]
   refine wpAnyH_done (by kernel_rfl) ?_ _
   try simp only [Act.put,List.setIfInBounds_toArray,List.set_cons_zero,List.set_cons_succ,List.getElem_toArray,List.getElem_cons_succ,List.getElem_cons_zero]
   have HP9:=Lib.hid (pure_trans HW8.out HB3.out)
   have HAW9:=Lib.hid (HAW8.out.below HB3.out)
   have HE9:=Lib.hid (HE8.out.below HB3.out)
   obtain ⟨y0,y1,y2⟩:=hHeld
   clear x0 x1 x2
   generalize v3=w9 at *
   have HPR:=Lib.hid (print_any Tm.aw (some ⟨u4.heap.size,0,none⟩) 4 4 w9 _ HAW9.out.tr Tm.aw_facts.2.2.2.2.1 HE9.out)
   go_wp2_with fail
   refine HPR.out.mono ?_
   rintro e w10 ⟨rfl,hw10⟩
   have HP10:=Lib.hid (pure_trans HP9.out hw10)
   clear hw10
   simp only [Str,Tm.aw_text]
   go_wp2_with fail
   go_ret
   exact ⟨rfl,HP10.out⟩
end Go.Proofs.YtkgbjoepjcenlaaDoor
namespace Go.Proofs.YtkgbjoepjcenlaaDoor
open Go.RowKit
namespace Tm
end Tm
theorem run_append_nothing {w:World} (base:Nat) (t ty e:TypeId) (i:TypeInfo) (size:Nat) (ht:Tryd.prog.underlying t=some (.slice e)) (hi:Tryd.prog.info? e=some i)
 (v:Value) (n:Nat) (xs:List Value) (hown:w.ownsRow base e size v n xs) (c:Nat):
 (Builtin.append_ #[t,t] ty #[v,.slice none 0 c]).run Tryd.prog w=.ok v w:=by
 rcases hown.2 with ⟨rfl,rfl⟩ | ⟨g,cap,cur,rfl,_,_,hnc,_⟩
 ·simp [Builtin.append_,run_underlying ht,sizeOf,typeInfo,hi,Builtin.lenOf,Builtin.firstCells]
 ·simp [Builtin.append_,run_underlying ht,sizeOf,typeInfo,hi,Builtin.lenOf,Builtin.firstCells,hnc,storeCells]
theorem grown_refl (w:World) (r:Option Nat):w.grownBy w r:=⟨rfl,rfl,rfl,Nat.le_refl _,fun _ _ _=>rfl⟩
theorem OutT.all {W:World} {base lo X:Nat} {v:Value} {es:List Elem} {ts:List Tm} (h:OutT W base lo X v es ts) {a:Option Addr} {n c:Nat} {l:List Tm} (hT:TL (okV lo X v) W l a n) (hsz:ts.length + l.length≤1000000000000) (hb:base≤W.heap.size) (hX:v.ownBlock≠some X) (hXl:X < W.heap.size):
 ∃ v' W' es',(Builtin.append_ #[23,23] 23 #[v,.slice a n c]).run Tryd.prog W=.ok v' W'∧OutT W' base lo X v' es' (ts ++ l)∧W.grownBy W' v.ownBlock∧v'.ownBlock≠some X:=by
 cases a with
 | none=>
   have hl:l=[]:=by
    cases l with
    | nil=>rfl
    | cons k l=>
      obtain ⟨b,o,_,_,_,e,_⟩:=hT.2.2 0 (by simp)
      cases e
   subst hl
   have hn:n=0:=hT.1
   subst hn
   obtain ⟨i0,hi,_,_,_⟩:=info_parts inf28
   exact ⟨v,W,es,run_append_nothing base 23 23 28 i0 3 Tryd.underlying23 hi v ts.length _ h.row c,by simpa using h,grown_refl _ _,hX⟩
 | some a=>
   obtain ⟨b,o,spot⟩:=a
   cases l with
   | nil=>
     have hn:n=0:=hT.1
     subst hn
     obtain ⟨i0,hi,hz0,hz1,hz2⟩:=info_parts inf28
     obtain ⟨v',W',h2,h3,h4,_,h5⟩:=run_append_own_at (P:=Tryd.prog) W base 23 23 28 i0 _ 3 40 Tryd.underlying23 hi hz0 hz1 hz2 rfl (by omega) v ts.length _ h.row ⟨b,o,spot⟩ 0 c [] rfl (fun j u hu=>by simp at hu) (fun u hu=>by simp at hu) (by unfold maxLen;omega) (by omega) hb
     have hk:∀ b,okV lo X v b→b < W.heap.size→W'.heap[b]?=W.heap[b]?∧okV lo X v' b:=fun b hb hl=>⟨h4.block b hl (fun e=>hb.2.2 e.symm),hb.1,hb.2.1,fun e=>by
      rcases h5 with h5 | h5
      ·exact hb.2.2 (h5 ▸ e)
      ·rw [h5] at e;cases e;omega⟩
     refine ⟨v',W',es,h2,?_,h4,?_⟩
     ·rw [List.append_nil]
      exact ⟨h.len,by simpa using h3,fun i h1 h2=>by
       have:=h.each i h1 h2
       exact ⟨this.1,this.2.1,this.2.2.keep hk⟩⟩
     ·rcases h5 with h5 | h5
      ·rw [h5];exact hX
      ·rw [h5];simp;omega
   | cons k l=>
     obtain ⟨b',o',_,_,_,e,_⟩:=hT.2.2 0 (by simp)
     cases e
     obtain ⟨v',W',es',h1,h2,h3,_,h4⟩:=h.app (c:=c) hT hsz hb hX hXl
     exact ⟨v',W',es',h1,h2,h3,h4⟩
end Go.Proofs.YtkgbjoepjcenlaaDoor
