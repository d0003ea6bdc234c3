/- Joined texts. -/
import Derived.Test.YtkgbjoepjcenlaaDoorKAT
set_option linter.unusedVariables false
set_option linter.unusedSimpArgs false
namespace Go.Proofs.YtkgbjoepjcenlaaDoor
open Go.RowKit
set_option maxRecDepth 100000 in
set_option maxHeartbeats 4000000 in
theorem exch_bad (m x y i r:Int) (hm0:0≤m) (hm3:m≤3) (hbad:¬ Gd [x,y,i,r] 4) (w:World):Calls Tryd.prog 30 #[.int .i64 m,.int .i64 x,.int .i64 y,.int .i64 i,.int .i64 r] w fun e w'=>ErPost 1 w e w':=by
 have HN1:Hid (((w.alloc (.cells #[.int .i64 0,.int .i64 0,.slice none 0 0] 28)).alloc (.cells #[.int .i64 x,.int .i64 y,.int .i64 i,.int .i64 r] 3)).heap[w.heap.size + 1]?=some (.cells #[.int .i64 x,.int .i64 y,.int .i64 i,.int .i64 r] 3 (0,0))):=alloc_new' _ _ _ (by simp)
 have HB0:Hid (Below w.heap.size w ((w.alloc (.cells #[.int .i64 0,.int .i64 0,.slice none 0 0] 28)).alloc (.cells #[.int .i64 x,.int .i64 y,.int .i64 i,.int .i64 r] 3))):=(pure_alloc _ _).alloc (by simp) _
 have HN0:Hid (((w.alloc (.cells #[.int .i64 0,.int .i64 0,.slice none 0 0] 28)).alloc (.cells #[.int .i64 x,.int .i64 y,.int .i64 i,.int .i64 r] 3)).heap[w.heap.size]?=some (.cells #[.int .i64 0,.int .i64 0,.slice none 0 0] 28 (0,0))):=alloc_keep (alloc_new _ _)
 have HBad:=Lib.hid hbad
 clear hbad
 go_enter Tryd.func30,Tryd.ntmps30
 go_wp2_with fail
 generalize ((w.alloc (.cells #[.int .i64 0,.int .i64 0,.slice none 0 0] 28)).alloc (.cells #[.int .i64 x,.int .i64 y,.int .i64 i,.int .i64 r] 3))=w1 at *
 have N1:=HN1.out
 have c0:=cell_of_arr N1 0
 have c1:=cell_of_arr N1 1
 have c2:=cell_of_arr N1 2
 have c3:=cell_of_arr N1 3
 simp at c0 c1 c2 c3
 clear N1
 go_loop [57] (fun v=>∃ j:Nat,j≤4∧v=.int .i64 j∧Gd [x,y,i,r] j) (fun v=>4 - (intOf v).toNat)
 case atStart=>exact ⟨0,by omega,rfl,fun a _ h=>absurd h (by omega)⟩
 case round=>
  obtain ⟨j,hj,rfl,hG⟩:=hrel
  have HG:=Lib.hid hG
  clear hG
  rcases (show j=0∨j=1∨j=2∨j=3∨j=4 by omega) with rfl | rfl | rfl | rfl | rfl
  ·by_cases h1:x < 100
   ·
    obtain ⟨S1,S2,S3⟩:=put3 HN0.out (.int .i64 0) (.int .i64 0) (.slice none 0 0) _ rfl
    have HE:Hid (ErPost 1 w (.returned (.tuple #[.slice none 0 0,.agg #[.int .i64 0,.int .i64 0,.slice none 0 0],.int .i64 1])) (((w1.setCell ⟨w.heap.size,0,none⟩ (.int .i64 0)).setCell ⟨w.heap.size,1,none⟩ (.int .i64 0)).setCell ⟨w.heap.size,2,none⟩ (.slice none 0 0))):=⟨rfl,RB.stored HB0.out (Nat.le_refl _) _ _ _⟩
    have p0:=cell_of_arr S1 0
    have p1:=cell_of_arr S1 1
    have p2:=cell_of_arr S1 2
    simp at p0 p1 p2
    have r0:=cell_of_arr HN0.out 0
    have r1:=cell_of_arr HN0.out 1
    have r2:=cell_of_arr HN0.out 2
    simp at r0 r1 r2
    have f0:=frozen_of_arr HN0.out 0
    have f1:=frozen_of_arr HN0.out 1
    have f2:=frozen_of_arr HN0.out 2
    clear S1 S2 S3
    go_wp2_with fail
    exact bodyPost_ret (v:=.tuple #[.slice none 0 0,.agg #[.int .i64 0,.int .i64 0,.slice none 0 0],.int .i64 1]) (by simp [results,Tryd.results30,go_sem,p0,p1,p2]) rfl HE.out
   by_cases h2:1000 < x
   ·have h1':100≤x:=by omega
    obtain ⟨S1,S2,S3⟩:=put3 HN0.out (.int .i64 0) (.int .i64 0) (.slice none 0 0) _ rfl
    have HE:Hid (ErPost 1 w (.returned (.tuple #[.slice none 0 0,.agg #[.int .i64 0,.int .i64 0,.slice none 0 0],.int .i64 1])) (((w1.setCell ⟨w.heap.size,0,none⟩ (.int .i64 0)).setCell ⟨w.heap.size,1,none⟩ (.int .i64 0)).setCell ⟨w.heap.size,2,none⟩ (.slice none 0 0))):=⟨rfl,RB.stored HB0.out (Nat.le_refl _) _ _ _⟩
    have p0:=cell_of_arr S1 0
    have p1:=cell_of_arr S1 1
    have p2:=cell_of_arr S1 2
    simp at p0 p1 p2
    have r0:=cell_of_arr HN0.out 0
    have r1:=cell_of_arr HN0.out 1
    have r2:=cell_of_arr HN0.out 2
    simp at r0 r1 r2
    have f0:=frozen_of_arr HN0.out 0
    have f1:=frozen_of_arr HN0.out 1
    have f2:=frozen_of_arr HN0.out 2
    clear S1 S2 S3
    go_wp2_with fail
    exact bodyPost_ret (v:=.tuple #[.slice none 0 0,.agg #[.int .i64 0,.int .i64 0,.slice none 0 0],.int .i64 1]) (by simp [results,Tryd.results30,go_sem,p0,p1,p2]) rfl HE.out
   have h1':100≤x:=by omega
   have h2':x≤1000:=by omega
   go_wp2_with fail
   go_loop [73] (fun v=>∃ q:Nat,q≤0∧v=.int .i64 q∧(∀ b (h:b < [x,y,i,r].length),b < q→x≠[x,y,i,r][b])) (fun v=>4 - (intOf v).toNat)
   case atStart=>exact ⟨0,by omega,rfl,fun b _ h=>absurd h (by omega)⟩
   case round=>
    obtain ⟨q,hq,rfl,hne⟩:=hrel
    have HNE:=Lib.hid hne
    clear hne
    rcases (show q=0 by omega) with rfl
    ·go_wp2_with fail
     go_round
     case rel=>exact ⟨1,by omega,by go_num,Gd.next (by simp) HG.out h1' h2' HNE.out⟩
     case measure=>simp [intOf]
  ·by_cases h1:y < 100
   ·
    obtain ⟨S1,S2,S3⟩:=put3 HN0.out (.int .i64 0) (.int .i64 0) (.slice none 0 0) _ rfl
    have HE:Hid (ErPost 1 w (.returned (.tuple #[.slice none 0 0,.agg #[.int .i64 0,.int .i64 0,.slice none 0 0],.int .i64 1])) (((w1.setCell ⟨w.heap.size,0,none⟩ (.int .i64 0)).setCell ⟨w.heap.size,1,none⟩ (.int .i64 0)).setCell ⟨w.heap.size,2,none⟩ (.slice none 0 0))):=⟨rfl,RB.stored HB0.out (Nat.le_refl _) _ _ _⟩
    have p0:=cell_of_arr S1 0
    have p1:=cell_of_arr S1 1
    have p2:=cell_of_arr S1 2
    simp at p0 p1 p2
    have r0:=cell_of_arr HN0.out 0
    have r1:=cell_of_arr HN0.out 1
    have r2:=cell_of_arr HN0.out 2
    simp at r0 r1 r2
    have f0:=frozen_of_arr HN0.out 0
    have f1:=frozen_of_arr HN0.out 1
    have f2:=frozen_of_arr HN0.out 2
    clear S1 S2 S3
    go_wp2_with fail
    exact bodyPost_ret (v:=.tuple #[.slice none 0 0,.agg #[.int .i64 0,.int .i64 0,.slice none 0 0],.int .i64 1]) (by simp [results,Tryd.results30,go_sem,p0,p1,p2]) rfl HE.out
   by_cases h2:1000 < y
   ·have h1':100≤y:=by omega
    obtain ⟨S1,S2,S3⟩:=put3 HN0.out (.int .i64 0) (.int .i64 0) (.slice none 0 0) _ rfl
    have HE:Hid (ErPost 1 w (.returned (.tuple #[.slice none 0 0,.agg #[.int .i64 0,.int .i64 0,.slice none 0 0],.int .i64 1])) (((w1.setCell ⟨w.heap.size,0,none⟩ (.int .i64 0)).setCell ⟨w.heap.size,1,none⟩ (.int .i64 0)).setCell ⟨w.heap.size,2,none⟩ (.slice none 0 0))):=⟨rfl,RB.stored HB0.out (Nat.le_refl _) _ _ _⟩
    have p0:=cell_of_arr S1 0
    have p1:=cell_of_arr S1 1
    have p2:=cell_of_arr S1 2
    simp at p0 p1 p2
    have r0:=cell_of_arr HN0.out 0
    have r1:=cell_of_arr HN0.out 1
    have r2:=cell_of_arr HN0.out 2
    simp at r0 r1 r2
    have f0:=frozen_of_arr HN0.out 0
    have f1:=frozen_of_arr HN0.out 1
    have f2:=frozen_of_arr HN0.out 2
    clear S1 S2 S3
    go_wp2_with fail
    exact bodyPost_ret (v:=.tuple #[.slice none 0 0,.agg #[.int .i64 0,.int .i64 0,.slice none 0 0],.int .i64 1]) (by simp [results,Tryd.results30,go_sem,p0,p1,p2]) rfl HE.out
   have h1':100≤y:=by omega
   have h2':y≤1000:=by omega
   go_wp2_with fail
   go_loop [73] (fun v=>∃ q:Nat,q≤1∧v=.int .i64 q∧(∀ b (h:b < [x,y,i,r].length),b < q→y≠[x,y,i,r][b])) (fun v=>4 - (intOf v).toNat)
   case atStart=>exact ⟨0,by omega,rfl,fun b _ h=>absurd h (by omega)⟩
   case round=>
    obtain ⟨q,hq,rfl,hne⟩:=hrel
    have HNE:=Lib.hid hne
    clear hne
    rcases (show q=0∨q=1 by omega) with rfl | rfl
    ·by_cases h3:x=y
     ·have h3b:(x==y)=true:=by simpa using h3
      clear h3
      obtain ⟨S1,S2,S3⟩:=put3 HN0.out (.int .i64 0) (.int .i64 0) (.slice none 0 0) _ rfl
      have HE:Hid (ErPost 1 w (.returned (.tuple #[.slice none 0 0,.agg #[.int .i64 0,.int .i64 0,.slice none 0 0],.int .i64 1])) (((w1.setCell ⟨w.heap.size,0,none⟩ (.int .i64 0)).setCell ⟨w.heap.size,1,none⟩ (.int .i64 0)).setCell ⟨w.heap.size,2,none⟩ (.slice none 0 0))):=⟨rfl,RB.stored HB0.out (Nat.le_refl _) _ _ _⟩
      have p0:=cell_of_arr S1 0
      have p1:=cell_of_arr S1 1
      have p2:=cell_of_arr S1 2
      simp at p0 p1 p2
      have r0:=cell_of_arr HN0.out 0
      have r1:=cell_of_arr HN0.out 1
      have r2:=cell_of_arr HN0.out 2
      simp at r0 r1 r2
      have f0:=frozen_of_arr HN0.out 0
      have f1:=frozen_of_arr HN0.out 1
      have f2:=frozen_of_arr HN0.out 2
      clear S1 S2 S3
      go_wp2_with fail
      exact bodyPost_ret (v:=.tuple #[.slice none 0 0,.agg #[.int .i64 0,.int .i64 0,.slice none 0 0],.int .i64 1]) (by simp [results,Tryd.results30,go_sem,p0,p1,p2]) rfl HE.out
     ·have h3b:(x==y)=false:=by simpa using h3
      have HV:Hid (y≠x):=fun e=>h3 e.symm
      clear h3
      go_wp2_with fail
      go_round
      case rel=>exact ⟨1,by omega,by go_num,Gq.next (by simp) HNE.out HV.out⟩
      case measure=>simp [intOf]
    ·go_wp2_with fail
     go_round
     case rel=>exact ⟨2,by omega,by go_num,Gd.next (by simp) HG.out h1' h2' HNE.out⟩
     case measure=>simp [intOf]
  ·by_cases h1:i < 100
   ·
    obtain ⟨S1,S2,S3⟩:=put3 HN0.out (.int .i64 0) (.int .i64 0) (.slice none 0 0) _ rfl
    have HE:Hid (ErPost 1 w (.returned (.tuple #[.slice none 0 0,.agg #[.int .i64 0,.int .i64 0,.slice none 0 0],.int .i64 1])) (((w1.setCell ⟨w.heap.size,0,none⟩ (.int .i64 0)).setCell ⟨w.heap.size,1,none⟩ (.int .i64 0)).setCell ⟨w.heap.size,2,none⟩ (.slice none 0 0))):=⟨rfl,RB.stored HB0.out (Nat.le_refl _) _ _ _⟩
    have p0:=cell_of_arr S1 0
    have p1:=cell_of_arr S1 1
    have p2:=cell_of_arr S1 2
    simp at p0 p1 p2
    have r0:=cell_of_arr HN0.out 0
    have r1:=cell_of_arr HN0.out 1
    have r2:=cell_of_arr HN0.out 2
    simp at r0 r1 r2
    have f0:=frozen_of_arr HN0.out 0
    have f1:=frozen_of_arr HN0.out 1
    have f2:=frozen_of_arr HN0.out 2
    clear S1 S2 S3
    go_wp2_with fail
    exact bodyPost_ret (v:=.tuple #[.slice none 0 0,.agg #[.int .i64 0,.int .i64 0,.slice none 0 0],.int .i64 1]) (by simp [results,Tryd.results30,go_sem,p0,p1,p2]) rfl HE.out
   by_cases h2:1000 < i
   ·have h1':100≤i:=by omega
    obtain ⟨S1,S2,S3⟩:=put3 HN0.out (.int .i64 0) (.int .i64 0) (.slice none 0 0) _ rfl
    have HE:Hid (ErPost 1 w (.returned (.tuple #[.slice none 0 0,.agg #[.int .i64 0,.int .i64 0,.slice none 0 0],.int .i64 1])) (((w1.setCell ⟨w.heap.size,0,none⟩ (.int .i64 0)).setCell ⟨w.heap.size,1,none⟩ (.int .i64 0)).setCell ⟨w.heap.size,2,none⟩ (.slice none 0 0))):=⟨rfl,RB.stored HB0.out (Nat.le_refl _) _ _ _⟩
    have p0:=cell_of_arr S1 0
    have p1:=cell_of_arr S1 1
    have p2:=cell_of_arr S1 2
    simp at p0 p1 p2
    have r0:=cell_of_arr HN0.out 0
    have r1:=cell_of_arr HN0.out 1
    have r2:=cell_of_arr HN0.out 2
    simp at r0 r1 r2
    have f0:=frozen_of_arr HN0.out 0
    have f1:=frozen_of_arr HN0.out 1
    have f2:=frozen_of_arr HN0.out 2
    clear S1 S2 S3
    go_wp2_with fail
    exact bodyPost_ret (v:=.tuple #[.slice none 0 0,.agg #[.int .i64 0,.int .i64 0,.slice none 0 0],.int .i64 1]) (by simp [results,Tryd.results30,go_sem,p0,p1,p2]) rfl HE.out
   have h1':100≤i:=by omega
   have h2':i≤1000:=by omega
   go_wp2_with fail
   go_loop [73] (fun v=>∃ q:Nat,q≤2∧v=.int .i64 q∧(∀ b (h:b < [x,y,i,r].length),b < q→i≠[x,y,i,r][b])) (fun v=>4 - (intOf v).toNat)
   case atStart=>exact ⟨0,by omega,rfl,fun b _ h=>absurd h (by omega)⟩
   case round=>
    obtain ⟨q,hq,rfl,hne⟩:=hrel
    have HNE:=Lib.hid hne
    clear hne
    rcases (show q=0∨q=1∨q=2 by omega) with rfl | rfl | rfl
    ·by_cases h3:x=i
     ·have h3b:(x==i)=true:=by simpa using h3
      clear h3
      obtain ⟨S1,S2,S3⟩:=put3 HN0.out (.int .i64 0) (.int .i64 0) (.slice none 0 0) _ rfl
      have HE:Hid (ErPost 1 w (.returned (.tuple #[.slice none 0 0,.agg #[.int .i64 0,.int .i64 0,.slice none 0 0],.int .i64 1])) (((w1.setCell ⟨w.heap.size,0,none⟩ (.int .i64 0)).setCell ⟨w.heap.size,1,none⟩ (.int .i64 0)).setCell ⟨w.heap.size,2,none⟩ (.slice none 0 0))):=⟨rfl,RB.stored HB0.out (Nat.le_refl _) _ _ _⟩
      have p0:=cell_of_arr S1 0
      have p1:=cell_of_arr S1 1
      have p2:=cell_of_arr S1 2
      simp at p0 p1 p2
      have r0:=cell_of_arr HN0.out 0
      have r1:=cell_of_arr HN0.out 1
      have r2:=cell_of_arr HN0.out 2
      simp at r0 r1 r2
      have f0:=frozen_of_arr HN0.out 0
      have f1:=frozen_of_arr HN0.out 1
      have f2:=frozen_of_arr HN0.out 2
      clear S1 S2 S3
      go_wp2_with fail
      exact bodyPost_ret (v:=.tuple #[.slice none 0 0,.agg #[.int .i64 0,.int .i64 0,.slice none 0 0],.int .i64 1]) (by simp [results,Tryd.results30,go_sem,p0,p1,p2]) rfl HE.out
     ·have h3b:(x==i)=false:=by simpa using h3
      have HV:Hid (i≠x):=fun e=>h3 e.symm
      clear h3
      go_wp2_with fail
      go_round
      case rel=>exact ⟨1,by omega,by go_num,Gq.next (by simp) HNE.out HV.out⟩
      case measure=>simp [intOf]
    ·by_cases h3:y=i
     ·have h3b:(y==i)=true:=by simpa using h3
      clear h3
      obtain ⟨S1,S2,S3⟩:=put3 HN0.out (.int .i64 0) (.int .i64 0) (.slice none 0 0) _ rfl
      have HE:Hid (ErPost 1 w (.returned (.tuple #[.slice none 0 0,.agg #[.int .i64 0,.int .i64 0,.slice none 0 0],.int .i64 1])) (((w1.setCell ⟨w.heap.size,0,none⟩ (.int .i64 0)).setCell ⟨w.heap.size,1,none⟩ (.int .i64 0)).setCell ⟨w.heap.size,2,none⟩ (.slice none 0 0))):=⟨rfl,RB.stored HB0.out (Nat.le_refl _) _ _ _⟩
      have p0:=cell_of_arr S1 0
      have p1:=cell_of_arr S1 1
      have p2:=cell_of_arr S1 2
      simp at p0 p1 p2
      have r0:=cell_of_arr HN0.out 0
      have r1:=cell_of_arr HN0.out 1
      have r2:=cell_of_arr HN0.out 2
      simp at r0 r1 r2
      have f0:=frozen_of_arr HN0.out 0
      have f1:=frozen_of_arr HN0.out 1
      have f2:=frozen_of_arr HN0.out 2
      clear S1 S2 S3
      go_wp2_with fail
      exact bodyPost_ret (v:=.tuple #[.slice none 0 0,.agg #[.int .i64 0,.int .i64 0,.slice none 0 0],.int .i64 1]) (by simp [results,Tryd.results30,go_sem,p0,p1,p2]) rfl HE.out
     ·have h3b:(y==i)=false:=by simpa using h3
      have HV:Hid (i≠y):=fun e=>h3 e.symm
      clear h3
      go_wp2_with fail
      go_round
      case rel=>exact ⟨2,by omega,by go_num,Gq.next (by simp) HNE.out HV.out⟩
      case measure=>simp [intOf]
    ·go_wp2_with fail
     go_round
     case rel=>exact ⟨3,by omega,by go_num,Gd.next (by simp) HG.out h1' h2' HNE.out⟩
     case measure=>simp [intOf]
  ·by_cases h1:r < 100
   ·
    obtain ⟨S1,S2,S3⟩:=put3 HN0.out (.int .i64 0) (.int .i64 0) (.slice none 0 0) _ rfl
    have HE:Hid (ErPost 1 w (.returned (.tuple #[.slice none 0 0,.agg #[.int .i64 0,.int .i64 0,.slice none 0 0],.int .i64 1])) (((w1.setCell ⟨w.heap.size,0,none⟩ (.int .i64 0)).setCell ⟨w.heap.size,1,none⟩ (.int .i64 0)).setCell ⟨w.heap.size,2,none⟩ (.slice none 0 0))):=⟨rfl,RB.stored HB0.out (Nat.le_refl _) _ _ _⟩
    have p0:=cell_of_arr S1 0
    have p1:=cell_of_arr S1 1
    have p2:=cell_of_arr S1 2
    simp at p0 p1 p2
    have r0:=cell_of_arr HN0.out 0
    have r1:=cell_of_arr HN0.out 1
    have r2:=cell_of_arr HN0.out 2
    simp at r0 r1 r2
    have f0:=frozen_of_arr HN0.out 0
    have f1:=frozen_of_arr HN0.out 1
    have f2:=frozen_of_arr HN0.out 2
    clear S1 S2 S3
    go_wp2_with fail
    exact bodyPost_ret (v:=.tuple #[.slice none 0 0,.agg #[.int .i64 0,.int .i64 0,.slice none 0 0],.int .i64 1]) (by simp [results,Tryd.results30,go_sem,p0,p1,p2]) rfl HE.out
   by_cases h2:1000 < r
   ·have h1':100≤r:=by omega
    obtain ⟨S1,S2,S3⟩:=put3 HN0.out (.int .i64 0) (.int .i64 0) (.slice none 0 0) _ rfl
    have HE:Hid (ErPost 1 w (.returned (.tuple #[.slice none 0 0,.agg #[.int .i64 0,.int .i64 0,.slice none 0 0],.int .i64 1])) (((w1.setCell ⟨w.heap.size,0,none⟩ (.int .i64 0)).setCell ⟨w.heap.size,1,none⟩ (.int .i64 0)).setCell ⟨w.heap.size,2,none⟩ (.slice none 0 0))):=⟨rfl,RB.stored HB0.out (Nat.le_refl _) _ _ _⟩
    have p0:=cell_of_arr S1 0
    have p1:=cell_of_arr S1 1
    have p2:=cell_of_arr S1 2
    simp at p0 p1 p2
    have r0:=cell_of_arr HN0.out 0
    have r1:=cell_of_arr HN0.out 1
    have r2:=cell_of_arr HN0.out 2
    simp at r0 r1 r2
    have f0:=frozen_of_arr HN0.out 0
    have f1:=frozen_of_arr HN0.out 1
    have f2:=frozen_of_arr HN0.out 2
    clear S1 S2 S3
    go_wp2_with fail
    exact bodyPost_ret (v:=.tuple #[.slice none 0 0,.agg #[.int .i64 0,.int .i64 0,.slice none 0 0],.int .i64 1]) (by simp [results,Tryd.results30,go_sem,p0,p1,p2]) rfl HE.out
   have h1':100≤r:=by omega
   have h2':r≤1000:=by omega
   go_wp2_with fail
   go_loop [73] (fun v=>∃ q:Nat,q≤3∧v=.int .i64 q∧(∀ b (h:b < [x,y,i,r].length),b < q→r≠[x,y,i,r][b])) (fun v=>4 - (intOf v).toNat)
   case atStart=>exact ⟨0,by omega,rfl,fun b _ h=>absurd h (by omega)⟩
   case round=>
    obtain ⟨q,hq,rfl,hne⟩:=hrel
    have HNE:=Lib.hid hne
    clear hne
    rcases (show q=0∨q=1∨q=2∨q=3 by omega) with rfl | rfl | rfl | rfl
    ·by_cases h3:x=r
     ·have h3b:(x==r)=true:=by simpa using h3
      clear h3
      obtain ⟨S1,S2,S3⟩:=put3 HN0.out (.int .i64 0) (.int .i64 0) (.slice none 0 0) _ rfl
      have HE:Hid (ErPost 1 w (.returned (.tuple #[.slice none 0 0,.agg #[.int .i64 0,.int .i64 0,.slice none 0 0],.int .i64 1])) (((w1.setCell ⟨w.heap.size,0,none⟩ (.int .i64 0)).setCell ⟨w.heap.size,1,none⟩ (.int .i64 0)).setCell ⟨w.heap.size,2,none⟩ (.slice none 0 0))):=⟨rfl,RB.stored HB0.out (Nat.le_refl _) _ _ _⟩
      have p0:=cell_of_arr S1 0
      have p1:=cell_of_arr S1 1
      have p2:=cell_of_arr S1 2
      simp at p0 p1 p2
      have r0:=cell_of_arr HN0.out 0
      have r1:=cell_of_arr HN0.out 1
      have r2:=cell_of_arr HN0.out 2
      simp at r0 r1 r2
      have f0:=frozen_of_arr HN0.out 0
      have f1:=frozen_of_arr HN0.out 1
      have f2:=frozen_of_arr HN0.out 2
      clear S1 S2 S3
      go_wp2_with fail
      exact bodyPost_ret (v:=.tuple #[.slice none 0 0,.agg #[.int .i64 0,.int .i64 0,.slice none 0 0],.int .i64 1]) (by simp [results,Tryd.results30,go_sem,p0,p1,p2]) rfl HE.out
     ·have h3b:(x==r)=false:=by simpa using h3
      have HV:Hid (r≠x):=fun e=>h3 e.symm
      clear h3
      go_wp2_with fail
      go_round
      case rel=>exact ⟨1,by omega,by go_num,Gq.next (by simp) HNE.out HV.out⟩
      case measure=>simp [intOf]
    ·by_cases h3:y=r
     ·have h3b:(y==r)=true:=by simpa using h3
      clear h3
      obtain ⟨S1,S2,S3⟩:=put3 HN0.out (.int .i64 0) (.int .i64 0) (.slice none 0 0) _ rfl
      have HE:Hid (ErPost 1 w (.returned (.tuple #[.slice none 0 0,.agg #[.int .i64 0,.int .i64 0,.slice none 0 0],.int .i64 1])) (((w1.setCell ⟨w.heap.size,0,none⟩ (.int .i64 0)).setCell ⟨w.heap.size,1,none⟩ (.int .i64 0)).setCell ⟨w.heap.size,2,none⟩ (.slice none 0 0))):=⟨rfl,RB.stored HB0.out (Nat.le_refl _) _ _ _⟩
      have p0:=cell_of_arr S1 0
      have p1:=cell_of_arr S1 1
      have p2:=cell_of_arr S1 2
      simp at p0 p1 p2
      have r0:=cell_of_arr HN0.out 0
      have r1:=cell_of_arr HN0.out 1
      have r2:=cell_of_arr HN0.out 2
      simp at r0 r1 r2
      have f0:=frozen_of_arr HN0.out 0
      have f1:=frozen_of_arr HN0.out 1
      have f2:=frozen_of_arr HN0.out 2
      clear S1 S2 S3
      go_wp2_with fail
      exact bodyPost_ret (v:=.tuple #[.slice none 0 0,.agg #[.int .i64 0,.int .i64 0,.slice none 0 0],.int .i64 1]) (by simp [results,Tryd.results30,go_sem,p0,p1,p2]) rfl HE.out
     ·have h3b:(y==r)=false:=by simpa using h3
      have HV:Hid (r≠y):=fun e=>h3 e.symm
      clear h3
      go_wp2_with fail
      go_round
      case rel=>exact ⟨2,by omega,by go_num,Gq.next (by simp) HNE.out HV.out⟩
      case measure=>simp [intOf]
    ·by_cases h3:i=r
     ·have h3b:(i==r)=true:=by simpa using h3
      clear h3
      obtain ⟨S1,S2,S3⟩:=put3 HN0.out (.int .i64 0) (.int .i64 0) (.slice none 0 0) _ rfl
      have HE:Hid (ErPost 1 w (.returned (.tuple #[.slice none 0 0,.agg #[.int .i64 0,.int .i64 0,.slice none 0 0],.int .i64 1])) (((w1.setCell ⟨w.heap.size,0,none⟩ (.int .i64 0)).setCell ⟨w.heap.size,1,none⟩ (.int .i64 0)).setCell ⟨w.heap.size,2,none⟩ (.slice none 0 0))):=⟨rfl,RB.stored HB0.out (Nat.le_refl _) _ _ _⟩
      have p0:=cell_of_arr S1 0
      have p1:=cell_of_arr S1 1
      have p2:=cell_of_arr S1 2
      simp at p0 p1 p2
      have r0:=cell_of_arr HN0.out 0
      have r1:=cell_of_arr HN0.out 1
      have r2:=cell_of_arr HN0.out 2
      simp at r0 r1 r2
      have f0:=frozen_of_arr HN0.out 0
      have f1:=frozen_of_arr HN0.out 1
      have f2:=frozen_of_arr HN0.out 2
      clear S1 S2 S3
      go_wp2_with fail
      exact bodyPost_ret (v:=.tuple #[.slice none 0 0,.agg #[.int .i64 0,.int .i64 0,.slice none 0 0],.int .i64 1]) (by simp [results,Tryd.results30,go_sem,p0,p1,p2]) rfl HE.out
     ·have h3b:(i==r)=false:=by simpa using h3
      have HV:Hid (r≠i):=fun e=>h3 e.symm
      clear h3
      go_wp2_with fail
      go_round
      case rel=>exact ⟨3,by omega,by go_num,Gq.next (by simp) HNE.out HV.out⟩
      case measure=>simp [intOf]
    ·go_wp2_with fail
     go_round
     case rel=>exact ⟨4,by omega,by go_num,Gd.next (by simp) HG.out h1' h2' HNE.out⟩
     case measure=>simp [intOf]
  ·exact absurd HG.out HBad.out
end Go.Proofs.YtkgbjoepjcenlaaDoor
