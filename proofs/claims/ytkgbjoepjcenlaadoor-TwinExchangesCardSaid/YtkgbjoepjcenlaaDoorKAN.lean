/- Joined texts. -/
import Derived.Test.YtkgbjoepjcenlaaDoorKAM
set_option linter.unusedVariables false
set_option linter.unusedSimpArgs false
namespace Go.Proofs.YtkgbjoepjcenlaaDoor
open Go.RowKit
theorem okW_head {B:Nat} {L:List (Nat × Tm)} {b k:Nat} {t u:Tm} (h:okW B ((b,t) :: L) k):okW B ((b,u) :: L) k:=⟨h.1,fun p hp=>by
 rcases List.mem_cons.1 hp with rfl | hp
 ·exact h.2 (b,t) (by simp)
 ·exact h.2 p (by simp [hp])⟩
theorem GM.restored {B:Nat} {L:List (Nat × Tm)} {w:World} {b:Nat} {t0:Tm} (hG:GM B ((b,t0) :: L) w) (hL:∀ p ∈ L,p.1≠b) {t:Tm} (hz:Tm.nz t=true) {a:Option Addr} {n c:Nat} (hT:TR (okW B ((b,t0) :: L)) w t a n) (hn:n≤c):
 GM B ((b,t) :: L) (((w.setCell ⟨b,0,none⟩ (.int .i64 t.op)).setCell ⟨b,1,none⟩ (.int .i64 t.num)).setCell ⟨b,2,none⟩ (.slice a n c)):=by
 obtain ⟨_,a0,n0,c0,hb,_,_⟩:=hG.2 (b,t0) (by simp)
 obtain ⟨S1,S2,S3⟩:=put3 hb (.int .i64 t.op) (.int .i64 t.num) (.slice a n c) _ rfl
 have hk:∀ {u:Tm} {a':Option Addr} {m:Nat},TR (okW B ((b,t0) :: L)) w u a' m→TR (okW B ((b,t) :: L)) (((w.setCell ⟨b,0,none⟩ (.int .i64 t.op)).setCell ⟨b,1,none⟩ (.int .i64 t.num)).setCell ⟨b,2,none⟩ (.slice a n c)) u a' m:=fun h=>h.keep fun k hk hl=>⟨S2 k (fun e=>hk.2 (b,t0) (by simp) e.symm),okW_head hk⟩
 refine ⟨Nat.le_trans hG.1 (by simp [World.setCell]),fun p hp=>?_⟩
 rcases List.mem_cons.1 hp with rfl | hp
 ·exact ⟨hz,a,n,c,S1,hk hT,hn⟩
 ·obtain ⟨hz',a',n',c',hb',hT',hn'⟩:=hG.2 p (by simp [hp])
  exact ⟨hz',a',n',c',(S2 _ (hL p hp)).trans hb',hk hT',hn'⟩
theorem GM.head {B:Nat} {L:List (Nat × Tm)} {w:World} {b:Nat} {t:Tm} (hG:GM B ((b,t) :: L) w):∃ a n c,w.heap[b]?=some (.cells #[.int .i64 t.op,.int .i64 t.num,.slice a n c] 28 (0,0)):=by
 obtain ⟨_,a0,n0,c0,hb,_,_⟩:=hG.2 (b,t) (by simp)
 exact ⟨a0,n0,c0,hb⟩
theorem does_add {B:Nat} {L:List (Nat × Tm)} {o:Oper} {ρ:Operand→Value} {w:World} (hG:GM B L w) (x y:Operand) (a b:Int) (ho:o.op=.binOp .add 3 x y 3) (hx:ρ x=.int .i64 a) (hy:ρ y=.int .i64 b) (h1: -9223372036854775808≤a + b) (h2:a + b≤9223372036854775807):Rg.Does Tryd.prog o ρ w fun v w'=>RB w w'∧GM B L w'∧(Fa.eq (.int .i64 (a + b))).holds B L v w':=by
 refine Rg.Does.value (v:=.int .i64 (a + b)) (w':=w) ?_ ⟨RB.refl _,hG,rfl⟩
 have hw:IntKind.i64.wrap (a + b)=a + b:=IntWalk.i64_in _ (by omega)
 simp [execOp,ho,hx,hy,go_sem,hw]
theorem GM.nil {B:Nat} {w W:World} (h:Below B w W) (hB:B≤w.heap.size):GM B [] W:=⟨Nat.le_trans hB h.size,fun p hp=>by simp at hp⟩
def ExPost (R I:Bool) (m x y i r:Int) (w:World) (e:Ending) (w':World):Prop:=∃ a c a' n' c',e=.returned (.tuple #[.slice a 4 c,.agg #[.int .i64 (Tm.normal (Tm.eres R I m x y i r)).op,.int .i64 (Tm.normal (Tm.eres R I m x y i r)).num,.slice a' n' c'],.int .i64 0])∧4≤c∧
 TL (fun k=>w.heap.size≤k) w' [Tm.normal (Tm.em1 m x),Tm.normal (Tm.em2 R m x y r),Tm.normal (Tm.em3 R I m x y i r),Tm.normal (Tm.em4 R I m x y i r)] a 4∧TR (fun k=>w.heap.size≤k) w' (Tm.normal (Tm.eres R I m x y i r)) a' n'∧n'≤c'∧Below w.heap.size w w'
theorem em_valid' {m:Int} {R I:Bool} (hm:m=0∨m=1∨m=2∨m=3) (hR:R=(m==1 || m==3)) (hI:I=(m==2 || m==3)) {x y i r:Int} (hx:0≤x∧x≤1000) (hy:0≤y∧y≤1000) (hi:0≤i∧i≤1000) (hr:0≤r∧r≤1000):
 Tm.valid (Tm.em1 m x)=true∧Tm.valid (Tm.em2 R m x y r)=true∧Tm.valid (Tm.em3 R I m x y i r)=true∧Tm.valid (Tm.em4 R I m x y i r)=true∧Tm.valid (Tm.eres R I m x y i r)=true:=by
 rcases hm with rfl | rfl | rfl | rfl
 ·have h1:R=false:=hR
  have h2:I=false:=hI
  subst h1 h2;exact Tm.em_valid 0 (by omega) hx hy hi hr
 ·have h1:R=true:=hR
  have h2:I=false:=hI
  subst h1 h2;exact Tm.em_valid 1 (by omega) hx hy hi hr
 ·have h1:R=false:=hR
  have h2:I=true:=hI
  subst h1 h2;exact Tm.em_valid 2 (by omega) hx hy hi hr
 ·have h1:R=true:=hR
  have h2:I=true:=hI
  subst h1 h2;exact Tm.em_valid 3 (by omega) hx hy hi hr
theorem el_zero {W:World} {b:Nat} (hb:W.heap[b]?=some (.cells #[.int .i64 0,.int .i64 0,.slice none 0 0] 28 (0,0))) {L:List (Nat × Tm)} {t:Tm} (hz:Tm.nz t=true) {a:Option Addr} {i:Nat} (h:EL (okW b L) W t a i):EL (fun k=>b < k∧k < W.heap.size) W t a i:=by
 obtain ⟨b',o,an,nn,cc,e,hb',c0,c1,c2,ht⟩:=h
 have hl:=lt_of_cell c0
 have hne:b'≠b:=fun hbb=>by
  subst hbb
  rw [cell_of_arr hb] at c0
  have hop:t.op≠0:=by
   cases t with
   | mk o1 m1 ks1=>unfold Tm.nz at hz;rw [Bool.and_eq_true] at hz;simpa [Tm.op] using hz.1
  rcases hq:o + i * 3 with _ | _ | _ | q
  ·rw [hq] at c0;simp at c0;exact hop c0.symm
  ·rw [hq] at c0;simp at c0;exact hop c0.symm
  ·rw [hq] at c0;simp at c0
  ·rw [hq] at c0;simp at c0
 exact ⟨b',o,an,nn,cc,e,⟨⟨by have:=hb'.1.1;omega,hl⟩,hb'.2⟩,c0,c1,c2,(cell_ne hb hz ht).imp fun k hk hl=>⟨by have:=hk.1.1;have:=hk.2;omega,hl⟩⟩
theorem tl_first4 {ok:Nat→Prop} {W:World} {x1 x2 x3 x4 x5:Tm} {g cap:Nat} {ta:Option Addr} {tc:Nat} (hte:Value.slice (some ⟨g,0,none⟩) 5 cap=.slice ta [x1,x2,x3,x4,x5].length tc) (h:TL ok W [x1,x2,x3,x4,x5] ta [x1,x2,x3,x4,x5].length):TL ok W [x1,x2,x3,x4] (some ⟨g,0,none⟩) 4:=by
 cases hte
 refine ⟨rfl,by omega,fun j hj=>?_⟩
 have hj4:j < 4:=hj
 have:=h.2.2 j (by simp;omega)
 rcases (show j=0∨j=1∨j=2∨j=3 by omega) with rfl | rfl | rfl | rfl <;> exact this
theorem tl_zero {W:World} {b:Nat} (hb:W.heap[b]?=some (.cells #[.int .i64 0,.int .i64 0,.slice none 0 0] 28 (0,0))) {L:List (Nat × Tm)} {l:List Tm} (hz:Tm.nzs l=true) {a:Option Addr} {n:Nat} (h:TL (okW b L) W l a n):TL (fun k=>b < k∧k < W.heap.size) W l a n:=
 ⟨h.1,h.2.1,fun j hj=>el_zero hb (Tm.nzs_mem hz _ (List.getElem_mem hj)) (h.2.2 j hj)⟩
set_option maxHeartbeats 4000000 in
set_option maxRecDepth 100000 in
theorem exch_good (m x y i r:Int) (hm:m=0∨m=1∨m=2∨m=3) (hx:100≤x) (hx':x≤1000) (hy:100≤y) (hy':y≤1000) (hi:100≤i) (hi':i≤1000) (hr:100≤r) (hr':r≤1000)
 (exy:(x==y)=false) (exi:(x==i)=false) (eyi:(y==i)=false) (exr:(x==r)=false) (eyr:(y==r)=false) (eir:(i==r)=false) (w:World) (R I:Bool) (hR:R=(m==1 || m==3)) (hI:I=(m==2 || m==3)):
 Calls Tryd.prog 30 #[.int .i64 m,.int .i64 x,.int .i64 y,.int .i64 i,.int .i64 r] w fun e w'=>ExPost R I m x y i r w e w':=by
 have hm0:0≤m:=by omega
 have hm3:m≤3:=by omega
 have N1:((w.alloc (.cells #[.int .i64 0,.int .i64 0,.slice none 0 0] 28)).alloc (.cells #[.int .i64 x,.int .i64 y,.int .i64 i,.int .i64 r] 3)).heap[w.heap.size + 1]?=some (.cells #[.int .i64 x,.int .i64 y,.int .i64 i,.int .i64 r] 3 (0,0)):=alloc_new' _ _ _ (by simp)
 have HB0:Hid (Below w.heap.size w ((w.alloc (.cells #[.int .i64 0,.int .i64 0,.slice none 0 0] 28)).alloc (.cells #[.int .i64 x,.int .i64 y,.int .i64 i,.int .i64 r] 3))):=(pure_alloc _ _).alloc (by simp) _
 have N0:((w.alloc (.cells #[.int .i64 0,.int .i64 0,.slice none 0 0] 28)).alloc (.cells #[.int .i64 x,.int .i64 y,.int .i64 i,.int .i64 r] 3)).heap[w.heap.size]?=some (.cells #[.int .i64 0,.int .i64 0,.slice none 0 0] 28 (0,0)):=alloc_keep (alloc_new _ _)
 have HN0:=Lib.hid N0
 clear N0
 have HR:=Lib.hid hR
 have HI:=Lib.hid hI
 have HM:=Lib.hid hm
 clear hR hI hm
 go_enter Tryd.func30,Tryd.ntmps30
 go_wp2_with fail
 generalize ((w.alloc (.cells #[.int .i64 0,.int .i64 0,.slice none 0 0] 28)).alloc (.cells #[.int .i64 x,.int .i64 y,.int .i64 i,.int .i64 r] 3))=w1 at *
 have c0:=cell_of_arr N1 0
 have c1:=cell_of_arr N1 1
 have c2:=cell_of_arr N1 2
 have c3:=cell_of_arr N1 3
 simp at c0 c1 c2 c3
 have HN1:=Lib.hid N1
 clear N1
 go_loop [57] (fun v=>∃ j:Nat,j≤4∧v=.int .i64 j) (fun v=>4 - (intOf v).toNat)
 case atStart=>exact ⟨0,by omega,rfl⟩
 case round=>
  obtain ⟨j,hj,rfl⟩:=hrel
  rcases (show j=0∨j=1∨j=2∨j=3∨j=4 by omega) with rfl | rfl | rfl | rfl | rfl
  ·go_wp2_with fail
   go_loop [73] (fun v=>∃ q:Nat,q≤0∧v=.int .i64 q) (fun v=>4 - (intOf v).toNat)
   case atStart=>exact ⟨0,by omega,rfl⟩
   case round=>
    obtain ⟨q,hq,rfl⟩:=hrel
    rcases (show q=0 by omega) with rfl
    ·go_wp2_with fail
     go_round
     case rel=>exact ⟨1,by omega,by go_num⟩
     case measure=>simp [intOf]
  ·go_wp2_with fail
   go_loop [73] (fun v=>∃ q:Nat,q≤1∧v=.int .i64 q) (fun v=>4 - (intOf v).toNat)
   case atStart=>exact ⟨0,by omega,rfl⟩
   case round=>
    obtain ⟨q,hq,rfl⟩:=hrel
    rcases (show q=0∨q=1 by omega) with rfl | rfl
    ·go_wp2_with fail
     go_round
     case rel=>exact ⟨1,by omega,by go_num⟩
     case measure=>simp [intOf]
    ·go_wp2_with fail
     go_round
     case rel=>exact ⟨2,by omega,by go_num⟩
     case measure=>simp [intOf]
  ·go_wp2_with fail
   go_loop [73] (fun v=>∃ q:Nat,q≤2∧v=.int .i64 q) (fun v=>4 - (intOf v).toNat)
   case atStart=>exact ⟨0,by omega,rfl⟩
   case round=>
    obtain ⟨q,hq,rfl⟩:=hrel
    rcases (show q=0∨q=1∨q=2 by omega) with rfl | rfl | rfl
    ·go_wp2_with fail
     go_round
     case rel=>exact ⟨1,by omega,by go_num⟩
     case measure=>simp [intOf]
    ·go_wp2_with fail
     go_round
     case rel=>exact ⟨2,by omega,by go_num⟩
     case measure=>simp [intOf]
    ·go_wp2_with fail
     go_round
     case rel=>exact ⟨3,by omega,by go_num⟩
     case measure=>simp [intOf]
  ·go_wp2_with fail
   go_loop [73] (fun v=>∃ q:Nat,q≤3∧v=.int .i64 q) (fun v=>4 - (intOf v).toNat)
   case atStart=>exact ⟨0,by omega,rfl⟩
   case round=>
    obtain ⟨q,hq,rfl⟩:=hrel
    rcases (show q=0∨q=1∨q=2∨q=3 by omega) with rfl | rfl | rfl | rfl
    ·go_wp2_with fail
     go_round
     case rel=>exact ⟨1,by omega,by go_num⟩
     case measure=>simp [intOf]
    ·go_wp2_with fail
     go_round
     case rel=>exact ⟨2,by omega,by go_num⟩
     case measure=>simp [intOf]
    ·go_wp2_with fail
     go_round
     case rel=>exact ⟨3,by omega,by go_num⟩
     case measure=>simp [intOf]
    ·go_wp2_with fail
     go_round
     case rel=>exact ⟨4,by omega,by go_num⟩
     case measure=>simp [intOf]
  ·go_upto_region 16 with fail
   go_cut [18,19] from 83 to 94 (fun s t W=>s=.bool R∧t=.bool I∧W=w1)
   case first=>
    rcases HM.out with rfl | rfl | rfl | rfl
    all_goals
     go_wp2_with fail
     go_meet
     case rel=>exact ⟨by rw [HR.out];rfl,by rw [HI.out];rfl,rfl⟩
   case rest=>
   obtain ⟨rfl,rfl,rfl⟩:=hcut
   go_upto_region 18 with fail
   have HG0:=Lib.hid (GM.nil HB0.out (Nat.le_refl _))
   refine region_tm (M:=12) [.tm (Tm.nm 40),.eq (.int .i64 i),.tm (Tm.nm i),.tm (Tm.pub (Tm.nm i)),.tl [Tm.nm 40,Tm.pub (Tm.nm i)],.tm (Tm.tup [Tm.nm 40,Tm.pub (Tm.nm i)]),.tm (Tm.nm 41),.eq (.int .i64 r),.tm (Tm.nm r),.tm (Tm.pub (Tm.nm r)),.tl [Tm.nm 41,Tm.pub (Tm.nm r)],.tm (Tm.tup [Tm.nm 41,Tm.pub (Tm.nm r)])] (by kernel_rfl) (by kernel_rfl) HG0.out ?_ ?_
   ·refine ⟨fun vs W hR hG hd=>?_,fun vs W hR hG hd=>?_,fun vs W hR hG hd=>?_,fun vs W hR hG hd=>?_,fun vs W hR hG hd=>?_,fun vs W hR hG hd=>?_,fun vs W hR hG hd=>?_,fun vs W hR hG hd=>?_,fun vs W hR hG hd=>?_,fun vs W hR hG hd=>?_,fun vs W hR hG hd=>?_,fun vs W hR hG hd=>?_,trivial⟩
    ·exact does_call (vals:=#[.int .i64 40]) 45 (.func 45) #[.const (.int .i64 40)] _ rfl (by kernel_rfl) (by kernel_rfl) (cf 45 _ Tryd.func45 (by kernel_rfl) (by kernel_rfl) _) (name_ends hG 40)
    ·exact Rg.Does.move (.tmp 3) rfl ⟨RB.refl _,hG,show _=_ by kernel_rfl⟩
    ·have e1:vs 1=.int .i64 i:=hd 1 (by decide);exact does_call (vals:=#[vs 1]) 45 (.func 45) #[.tmp 96] _ rfl (by kernel_rfl) (by kernel_rfl) (cf 45 _ Tryd.func45 (by kernel_rfl) (by kernel_rfl) _) (by rw [e1];exact name_ends hG i)
    ·exact does_call (vals:=#[vs 2]) 49 (.func 49) #[.tmp 97] _ rfl (by kernel_rfl) (by kernel_rfl) (cf 49 _ Tryd.func49 (by kernel_rfl) (by kernel_rfl) _) (pub_ends hG (hd 2 (by decide)))
    ·exact does_row2 hG (.tmp 95) (.tmp 98) (Tm.nm 40) (Tm.pub (Tm.nm i)) rfl (hd 0 (by decide)) (hd 3 (by decide))
    ·exact does_call (vals:=#[vs 4]) 48 (.func 48) #[.tmp 99] _ rfl (by kernel_rfl) (by kernel_rfl) (cf 48 _ Tryd.func48 (by kernel_rfl) (by kernel_rfl) _) (tuple_ends hG (by simp) (hd 4 (by decide)))
    ·exact does_call (vals:=#[.int .i64 41]) 45 (.func 45) #[.const (.int .i64 41)] _ rfl (by kernel_rfl) (by kernel_rfl) (cf 45 _ Tryd.func45 (by kernel_rfl) (by kernel_rfl) _) (name_ends hG 41)
    ·exact Rg.Does.move (.tmp 4) rfl ⟨RB.refl _,hG,show _=_ by kernel_rfl⟩
    ·have e7:vs 7=.int .i64 r:=hd 7 (by decide);exact does_call (vals:=#[vs 7]) 45 (.func 45) #[.tmp 102] _ rfl (by kernel_rfl) (by kernel_rfl) (cf 45 _ Tryd.func45 (by kernel_rfl) (by kernel_rfl) _) (by rw [e7];exact name_ends hG r)
    ·exact does_call (vals:=#[vs 8]) 49 (.func 49) #[.tmp 103] _ rfl (by kernel_rfl) (by kernel_rfl) (cf 49 _ Tryd.func49 (by kernel_rfl) (by kernel_rfl) _) (pub_ends hG (hd 8 (by decide)))
    ·exact does_row2 hG (.tmp 101) (.tmp 104) (Tm.nm 41) (Tm.pub (Tm.nm r)) rfl (hd 6 (by decide)) (hd 9 (by decide))
    ·exact does_call (vals:=#[vs 10]) 48 (.func 48) #[.tmp 105] _ rfl (by kernel_rfl) (by kernel_rfl) (cf 48 _ Tryd.func48 (by kernel_rfl) (by kernel_rfl) _) (tuple_ends hG (by simp) (hd 10 (by decide)))
   intro vs W1 hR1 hG1 hf
   obtain ⟨z1,a1,n1,c1',ev1,hT1,hn1⟩:=hf 5 (by decide)
   obtain ⟨z2,a2,n2,c2',ev2,hT2,hn2⟩:=hf 11 (by decide)
   have HB1:=Lib.hid (HB0.out.trans (hR1.mono HB0.out.size))
   have HZ1:=Lib.hid (alloc_keep (o':=(.cells #[.int .i64 (Tm.tup [Tm.nm 41,Tm.pub (Tm.nm r)]).op,.int .i64 (Tm.tup [Tm.nm 41,Tm.pub (Tm.nm r)]).num,.slice a2 n2 c2'] 28)) (alloc_keep (o':=(.cells #[.int .i64 (Tm.tup [Tm.nm 40,Tm.pub (Tm.nm i)]).op,.int .i64 (Tm.tup [Tm.nm 40,Tm.pub (Tm.nm i)]).num,.slice a1 n1 c1'] 28)) (Below.keep hR1 HN0.out (lt_of_block HN0.out))))
   simp only [Rg.putAll,Rg.putFrom,List.take_succ_cons,List.take_zero,List.drop_succ_cons,List.drop_zero,Act.put,List.setIfInBounds_toArray,List.set_cons_zero,List.set_cons_succ,ev1,ev2]
   clear ev1 ev2 hf
   have G1:=hG1.boxed z1 hT1 hn1
   have C2:(Fa.tm (Tm.tup [Tm.nm 41,Tm.pub (Tm.nm r)])).holds w.heap.size ((W1.heap.size,(Tm.tup [Tm.nm 40,Tm.pub (Tm.nm i)])) :: []) (.agg #[.int .i64 (Tm.tup [Tm.nm 41,Tm.pub (Tm.nm r)]).op,.int .i64 (Tm.tup [Tm.nm 41,Tm.pub (Tm.nm r)]).num,.slice a2 n2 c2']) (W1.alloc (.cells #[.int .i64 (Tm.tup [Tm.nm 40,Tm.pub (Tm.nm i)]).op,.int .i64 (Tm.tup [Tm.nm 40,Tm.pub (Tm.nm i)]).num,.slice a1 n1 c1'] 28)):=Fa.boxed ⟨z2,a2,n2,c2',rfl,hT2,hn2⟩ _
   have G2:GM w.heap.size ((W1.heap.size + 1,(Tm.tup [Tm.nm 41,Tm.pub (Tm.nm r)])) :: (W1.heap.size,(Tm.tup [Tm.nm 40,Tm.pub (Tm.nm i)])) :: []) ((W1.alloc (.cells #[.int .i64 (Tm.tup [Tm.nm 40,Tm.pub (Tm.nm i)]).op,.int .i64 (Tm.tup [Tm.nm 40,Tm.pub (Tm.nm i)]).num,.slice a1 n1 c1'] 28)).alloc (.cells #[.int .i64 (Tm.tup [Tm.nm 41,Tm.pub (Tm.nm r)]).op,.int .i64 (Tm.tup [Tm.nm 41,Tm.pub (Tm.nm r)]).num,.slice a2 n2 c2'] 28)):=by
    obtain ⟨z,a,n,cc',e,hT,hn⟩:=C2
    cases e
    have:=G1.boxed z hT hn
    simpa using this
   have HB2:Hid (Below w.heap.size w ((W1.alloc (.cells #[.int .i64 (Tm.tup [Tm.nm 40,Tm.pub (Tm.nm i)]).op,.int .i64 (Tm.tup [Tm.nm 40,Tm.pub (Tm.nm i)]).num,.slice a1 n1 c1'] 28)).alloc (.cells #[.int .i64 (Tm.tup [Tm.nm 41,Tm.pub (Tm.nm r)]).op,.int .i64 (Tm.tup [Tm.nm 41,Tm.pub (Tm.nm r)]).num,.slice a2 n2 c2'] 28))):=(HB1.out.alloc HB1.out.size _).alloc (by have:=HB1.out.size;simp;omega) _
   have HS:=Lib.hid G2
   clear HG0 HB0 hR1 hG1 hT1 hT2 HB1 z1 z2 hn1 hn2 G1 C2 G2
   go_upto_region 19 with fail
   generalize ((W1.alloc (.cells #[.int .i64 (Tm.tup [Tm.nm 40,Tm.pub (Tm.nm i)]).op,.int .i64 (Tm.tup [Tm.nm 40,Tm.pub (Tm.nm i)]).num,.slice a1 n1 c1'] 28)).alloc (.cells #[.int .i64 (Tm.tup [Tm.nm 41,Tm.pub (Tm.nm r)]).op,.int .i64 (Tm.tup [Tm.nm 41,Tm.pub (Tm.nm r)]).num,.slice a2 n2 c2'] 28))=w2 at *
   obtain ⟨b21,hb21⟩:∃ b,b=W1.heap.size:=⟨_,rfl⟩
   obtain ⟨b22,hb22⟩:∃ b,b=W1.heap.size + 1:=⟨_,rfl⟩
   rw [← hb22,← hb21] at HS ⊢
   clear hb21 hb22
   obtain ⟨HG0,HB0,HZ⟩:=And.intro HS (And.intro HB2 HZ1)
   clear HS HB2 HZ1 HN0
   generalize he_cr:(Tm.tup [Tm.nm 41,Tm.pub (Tm.nm r)])=cr at *
   generalize he_ci:(Tm.tup [Tm.nm 40,Tm.pub (Tm.nm i)])=ci at *
   have E_cr:=Lib.hid he_cr
   have E_ci:=Lib.hid he_ci
   clear he_cr he_ci
   refine region_tm (M:=11) [.eq (.int .i64 m),.eq (.int .i64 (10 + m)),.tm (Tm.nm (10 + m)),.tm (Tm.nm 20),.eq (.int .i64 x),.tm (Tm.nm x),.tm (Tm.pub (Tm.nm x)),.tm (Tm.nm 30),.tl [Tm.nm (10 + m),Tm.nm 20,Tm.pub (Tm.nm x),Tm.nm 30],.tm (Tm.tup [Tm.nm (10 + m),Tm.nm 20,Tm.pub (Tm.nm x),Tm.nm 30]),.cell w2.heap.size] (by kernel_rfl) (by kernel_rfl) HG0.out ?_ ?_
   ·refine ⟨fun vs W hR hG hd=>?_,fun vs W hR hG hd=>?_,fun vs W hR hG hd=>?_,fun vs W hR hG hd=>?_,fun vs W hR hG hd=>?_,fun vs W hR hG hd=>?_,fun vs W hR hG hd=>?_,fun vs W hR hG hd=>?_,fun vs W hR hG hd=>?_,fun vs W hR hG hd=>?_,fun vs W hR hG hd=>?_,trivial⟩
    ·exact Rg.Does.move (.tmp 0) rfl ⟨RB.refl _,hG,show _=_ by kernel_rfl⟩
    ·exact does_add hG (.const (.int .i64 10)) (.tmp 107) 10 m rfl (by kernel_rfl) (Eq.trans (show _=vs 0 by kernel_rfl) (hd 0 (by decide))) (by omega) (by omega)
    ·have e1:vs 1=.int .i64 (10 + m):=hd 1 (by decide);exact does_call (vals:=#[vs 1]) 45 (.func 45) #[.tmp 108] _ rfl (by kernel_rfl) (by kernel_rfl) (cf 45 _ Tryd.func45 (by kernel_rfl) (by kernel_rfl) _) (by rw [e1];exact name_ends hG (10 + m))
    ·exact does_call (vals:=#[.int .i64 20]) 45 (.func 45) #[.const (.int .i64 20)] _ rfl (by kernel_rfl) (by kernel_rfl) (cf 45 _ Tryd.func45 (by kernel_rfl) (by kernel_rfl) _) (name_ends hG 20)
    ·exact Rg.Does.move (.tmp 1) rfl ⟨RB.refl _,hG,show _=_ by kernel_rfl⟩
    ·have e4:vs 4=.int .i64 x:=hd 4 (by decide);exact does_call (vals:=#[vs 4]) 45 (.func 45) #[.tmp 111] _ rfl (by kernel_rfl) (by kernel_rfl) (cf 45 _ Tryd.func45 (by kernel_rfl) (by kernel_rfl) _) (by rw [e4];exact name_ends hG x)
    ·exact does_call (vals:=#[vs 5]) 49 (.func 49) #[.tmp 112] _ rfl (by kernel_rfl) (by kernel_rfl) (cf 49 _ Tryd.func49 (by kernel_rfl) (by kernel_rfl) _) (pub_ends hG (hd 5 (by decide)))
    ·exact does_call (vals:=#[.int .i64 30]) 45 (.func 45) #[.const (.int .i64 30)] _ rfl (by kernel_rfl) (by kernel_rfl) (cf 45 _ Tryd.func45 (by kernel_rfl) (by kernel_rfl) _) (name_ends hG 30)
    ·exact does_row4 hG (.tmp 109) (.tmp 110) (.tmp 113) (.tmp 114) (Tm.nm (10 + m)) (Tm.nm 20) (Tm.pub (Tm.nm x)) (Tm.nm 30) rfl (hd 2 (by decide)) (hd 3 (by decide)) (hd 6 (by decide)) (hd 7 (by decide))
    ·exact does_call (vals:=#[vs 8]) 48 (.func 48) #[.tmp 115] _ rfl (by kernel_rfl) (by kernel_rfl) (cf 48 _ Tryd.func48 (by kernel_rfl) (by kernel_rfl) _) (tuple_ends hG (by simp) (hd 8 (by decide)))
    ·exact does_alloc hG _ hR.size rfl
   intro vs W1 hR1 hG1 hf
   obtain ⟨z,a,n,c',ev,hT,hn⟩:=hf 9 (by decide)
   obtain ⟨b23,eb,hb,hlo⟩:=hf 10 (by decide)
   have HB1:=Lib.hid (HB0.out.trans (hR1.mono HB0.out.size))
   have hlt:=HG0.out.lt
   have hs1:=HB0.out.size
   have hz1:=lt_of_block HZ.out
   have HZ1:=Below.keep hR1 HZ.out hz1
   have D_b23:Hid ((∀ p ∈ ([(b22,cr),(b21,ci)]:List (Nat × Tm)),p.1≠b23)∧w.heap.size < b23):=⟨fun p hp e=>by have:=hlt p hp;omega,by omega⟩
   simp only [Rg.putAll,Rg.putFrom,List.take_succ_cons,List.take_zero,List.drop_succ_cons,List.drop_zero,Act.put,List.setIfInBounds_toArray,List.set_cons_zero,List.set_cons_succ,ev,eb]
   clear ev eb hf
   have HS:=Lib.hid (GM.stored hG1 hb (fun p hp e=>by have:=hlt p hp;omega) z hT hn).1
   have HB2:=Lib.hid (RB.stored HB1.out (by omega) (.int .i64 (Tm.tup [Tm.nm (10 + m),Tm.nm 20,Tm.pub (Tm.nm x),Tm.nm 30]).op) (.int .i64 (Tm.tup [Tm.nm (10 + m),Tm.nm 20,Tm.pub (Tm.nm x),Tm.nm 30]).num) (.slice a n c') (b:=b23))
   have HZ2:=Lib.hid (((put3 hb (.int .i64 (Tm.tup [Tm.nm (10 + m),Tm.nm 20,Tm.pub (Tm.nm x),Tm.nm 30]).op) (.int .i64 (Tm.tup [Tm.nm (10 + m),Tm.nm 20,Tm.pub (Tm.nm x),Tm.nm 30]).num) (.slice a n c') _ rfl).2.1 w.heap.size (by omega)).trans HZ1)
   clear HG0 HB0 HZ HZ1 hz1 hlt hs1 hR1 hG1 hT HB1 z hn hlo
   have r0:=cell_of_arr hb 0
   have r1:=cell_of_arr hb 1
   have r2:=cell_of_arr hb 2
   simp at r0 r1 r2
   have f0:=frozen_of_arr hb 0
   have f1:=frozen_of_arr hb 1
   have f2:=frozen_of_arr hb 2
   clear hb
   go_upto_region 20 with fail
   clear r0 r1 r2 f0 f1 f2
   generalize (((W1.setCell ⟨b23,0,none⟩ (.int .i64 (Tm.tup [Tm.nm (10 + m),Tm.nm 20,Tm.pub (Tm.nm x),Tm.nm 30]).op)).setCell ⟨b23,1,none⟩ (.int .i64 (Tm.tup [Tm.nm (10 + m),Tm.nm 20,Tm.pub (Tm.nm x),Tm.nm 30]).num)).setCell ⟨b23,2,none⟩ (.slice a n c'))=w3 at *
   clear W1
   obtain ⟨HG0,HB0,HZ⟩:=And.intro HS (And.intro HB2 HZ2)
   clear HS HB2 HZ2
   generalize he_m1:Tm.tup [Tm.nm (10 + m),Tm.nm 20,Tm.pub (Tm.nm x),Tm.nm 30]=m1 at *
   have E_m1:=Lib.hid he_m1
   clear he_m1
   refine region_tm (M:=11) [.eq (.int .i64 y),.tm (Tm.nm y),.tm (Tm.pub (Tm.nm y)),.tm m1,.tl [m1],.tm (Tm.mk 3 0 [m1]),.tl [Tm.pub (Tm.nm y),Tm.mk 3 0 [m1]],.tm (Tm.tup [Tm.pub (Tm.nm y),Tm.mk 3 0 [m1]]),.tl [Tm.tup [Tm.pub (Tm.nm y),Tm.mk 3 0 [m1]]],.tm (Tm.mk 3 0 [Tm.tup [Tm.pub (Tm.nm y),Tm.mk 3 0 [m1]]]),.cell w3.heap.size] (by kernel_rfl) (by kernel_rfl) HG0.out ?_ ?_
   ·refine ⟨fun vs W hR hG hd=>?_,fun vs W hR hG hd=>?_,fun vs W hR hG hd=>?_,fun vs W hR hG hd=>?_,fun vs W hR hG hd=>?_,fun vs W hR hG hd=>?_,fun vs W hR hG hd=>?_,fun vs W hR hG hd=>?_,fun vs W hR hG hd=>?_,fun vs W hR hG hd=>?_,fun vs W hR hG hd=>?_,trivial⟩
    ·exact Rg.Does.move (.tmp 2) rfl ⟨RB.refl _,hG,show _=_ by kernel_rfl⟩
    ·have e0:vs 0=.int .i64 y:=hd 0 (by decide);exact does_call (vals:=#[vs 0]) 45 (.func 45) #[.tmp 117] _ rfl (by kernel_rfl) (by kernel_rfl) (cf 45 _ Tryd.func45 (by kernel_rfl) (by kernel_rfl) _) (by rw [e0];exact name_ends hG y)
    ·exact does_call (vals:=#[vs 1]) 49 (.func 49) #[.tmp 118] _ rfl (by kernel_rfl) (by kernel_rfl) (cf 49 _ Tryd.func49 (by kernel_rfl) (by kernel_rfl) _) (pub_ends hG (hd 1 (by decide)))
    ·exact does_load hG (.tmp 23) b23 m1 (by simp) rfl (by kernel_rfl)
    ·exact does_row1 hG (.tmp 120) m1 rfl (hd 3 (by decide))
    ·exact does_call (vals:=#[.int .i64 3,vs 4]) 47 (.func 47) #[.const (.int .i64 3),.tmp 121] _ rfl (by kernel_rfl) (by kernel_rfl) (cf 47 _ Tryd.func47 (by kernel_rfl) (by kernel_rfl) _) (node_ends hG 3 (by decide) (hd 4 (by decide)))
    ·exact does_row2 hG (.tmp 119) (.tmp 122) (Tm.pub (Tm.nm y)) (Tm.mk 3 0 [m1]) rfl (hd 2 (by decide)) (hd 5 (by decide))
    ·exact does_call (vals:=#[vs 6]) 48 (.func 48) #[.tmp 123] _ rfl (by kernel_rfl) (by kernel_rfl) (cf 48 _ Tryd.func48 (by kernel_rfl) (by kernel_rfl) _) (tuple_ends hG (by simp) (hd 6 (by decide)))
    ·exact does_row1 hG (.tmp 124) (Tm.tup [Tm.pub (Tm.nm y),Tm.mk 3 0 [m1]]) rfl (hd 7 (by decide))
    ·exact does_call (vals:=#[.int .i64 3,vs 8]) 47 (.func 47) #[.const (.int .i64 3),.tmp 125] _ rfl (by kernel_rfl) (by kernel_rfl) (cf 47 _ Tryd.func47 (by kernel_rfl) (by kernel_rfl) _) (node_ends hG 3 (by decide) (hd 8 (by decide)))
    ·exact does_alloc hG _ hR.size rfl
   intro vs W1 hR1 hG1 hf
   obtain ⟨z,a,n,c',ev,hT,hn⟩:=hf 9 (by decide)
   obtain ⟨b24,eb,hb,hlo⟩:=hf 10 (by decide)
   have HB1:=Lib.hid (HB0.out.trans (hR1.mono HB0.out.size))
   have hlt:=HG0.out.lt
   have hs1:=HB0.out.size
   have hz1:=lt_of_block HZ.out
   have HZ1:=Below.keep hR1 HZ.out hz1
   have D_b24:Hid ((∀ p ∈ ([(b23,m1),(b22,cr),(b21,ci)]:List (Nat × Tm)),p.1≠b24)∧w.heap.size < b24):=⟨fun p hp e=>by have:=hlt p hp;omega,by omega⟩
   simp only [Rg.putAll,Rg.putFrom,List.take_succ_cons,List.take_zero,List.drop_succ_cons,List.drop_zero,Act.put,List.setIfInBounds_toArray,List.set_cons_zero,List.set_cons_succ,ev,eb]
   clear ev eb hf
   have HS:=Lib.hid (GM.stored hG1 hb (fun p hp e=>by have:=hlt p hp;omega) z hT hn).1
   have HB2:=Lib.hid (RB.stored HB1.out (by omega) (.int .i64 (Tm.mk 3 0 [Tm.tup [Tm.pub (Tm.nm y),Tm.mk 3 0 [m1]]]).op) (.int .i64 (Tm.mk 3 0 [Tm.tup [Tm.pub (Tm.nm y),Tm.mk 3 0 [m1]]]).num) (.slice a n c') (b:=b24))
   have HZ2:=Lib.hid (((put3 hb (.int .i64 (Tm.mk 3 0 [Tm.tup [Tm.pub (Tm.nm y),Tm.mk 3 0 [m1]]]).op) (.int .i64 (Tm.mk 3 0 [Tm.tup [Tm.pub (Tm.nm y),Tm.mk 3 0 [m1]]]).num) (.slice a n c') _ rfl).2.1 w.heap.size (by omega)).trans HZ1)
   clear HG0 HB0 HZ HZ1 hz1 hlt hs1 hR1 hG1 hT HB1 z hn hlo
   have r0:=cell_of_arr hb 0
   have r1:=cell_of_arr hb 1
   have r2:=cell_of_arr hb 2
   simp at r0 r1 r2
   have f0:=frozen_of_arr hb 0
   have f1:=frozen_of_arr hb 1
   have f2:=frozen_of_arr hb 2
   clear hb
   go_upto_region 21 with fail
   clear r0 r1 r2 f0 f1 f2
   generalize (((W1.setCell ⟨b24,0,none⟩ (.int .i64 (Tm.mk 3 0 [Tm.tup [Tm.pub (Tm.nm y),Tm.mk 3 0 [m1]]]).op)).setCell ⟨b24,1,none⟩ (.int .i64 (Tm.mk 3 0 [Tm.tup [Tm.pub (Tm.nm y),Tm.mk 3 0 [m1]]]).num)).setCell ⟨b24,2,none⟩ (.slice a n c'))=w4 at *
   clear W1
   obtain ⟨HG0,HB0,HZ⟩:=And.intro HS (And.intro HB2 HZ2)
   clear HS HB2 HZ2
   generalize he_th2:Tm.mk 3 0 [Tm.tup [Tm.pub (Tm.nm y),Tm.mk 3 0 [m1]]]=th2 at *
   have E_th2:=Lib.hid he_th2
   clear he_th2
   refine region_tm (M:=7) [.eq (.func (.func 46) #[] #[]),.eq (.int .i64 x),.eq (.int .i64 y),.tm (Tm.share x y),.tm th2,.tm (Tm.kdf (Tm.share x y) 50 th2),.cell w4.heap.size] (by kernel_rfl) (by kernel_rfl) HG0.out ?_ ?_
   ·refine ⟨fun vs W hR hG hd=>?_,fun vs W hR hG hd=>?_,fun vs W hR hG hd=>?_,fun vs W hR hG hd=>?_,fun vs W hR hG hd=>?_,fun vs W hR hG hd=>?_,fun vs W hR hG hd=>?_,trivial⟩
    ·exact Rg.Does.move (.tmp 20) rfl ⟨RB.refl _,hG,show _=_ by kernel_rfl⟩
    ·exact Rg.Does.move (.tmp 1) rfl ⟨RB.refl _,hG,show _=_ by kernel_rfl⟩
    ·exact Rg.Does.move (.tmp 2) rfl ⟨RB.refl _,hG,show _=_ by kernel_rfl⟩
    ·have e1:vs 1=.int .i64 x:=hd 1 (by decide);have e2:vs 2=.int .i64 y:=hd 2 (by decide);exact does_call (vals:=#[vs 1,vs 2]) 46 (.tmp 127) #[.tmp 128,.tmp 129] _ rfl (Eq.trans (show _=vs 0 by kernel_rfl) (hd 0 (by decide))) (by kernel_rfl) (cf 46 _ Tryd.func46 (by kernel_rfl) (by kernel_rfl) _) (by rw [e1,e2];exact share_ends hG x y)
    ·exact does_load hG (.tmp 24) b24 th2 (by simp) rfl (by kernel_rfl)
    ·exact does_call (vals:=#[vs 3,.int .i64 50,vs 4]) 50 (.func 50) #[.tmp 130,.const (.int .i64 50),.tmp 131] _ rfl (by kernel_rfl) (by kernel_rfl) (cf 50 _ Tryd.func50 (by kernel_rfl) (by kernel_rfl) _) (kdf_ends hG (hd 3 (by decide)) (hd 4 (by decide)) 50)
    ·exact does_alloc hG _ hR.size rfl
   intro vs W1 hR1 hG1 hf
   obtain ⟨z,a,n,c',ev,hT,hn⟩:=hf 5 (by decide)
   obtain ⟨b25,eb,hb,hlo⟩:=hf 6 (by decide)
   have HB1:=Lib.hid (HB0.out.trans (hR1.mono HB0.out.size))
   have hlt:=HG0.out.lt
   have hs1:=HB0.out.size
   have hz1:=lt_of_block HZ.out
   have HZ1:=Below.keep hR1 HZ.out hz1
   have D_b25:Hid ((∀ p ∈ ([(b24,th2),(b23,m1),(b22,cr),(b21,ci)]:List (Nat × Tm)),p.1≠b25)∧w.heap.size < b25):=⟨fun p hp e=>by have:=hlt p hp;omega,by omega⟩
   simp only [Rg.putAll,Rg.putFrom,List.take_succ_cons,List.take_zero,List.drop_succ_cons,List.drop_zero,Act.put,List.setIfInBounds_toArray,List.set_cons_zero,List.set_cons_succ,ev,eb]
   clear ev eb hf
   have HS:=Lib.hid (GM.stored hG1 hb (fun p hp e=>by have:=hlt p hp;omega) z hT hn).1
   have HB2:=Lib.hid (RB.stored HB1.out (by omega) (.int .i64 (Tm.kdf (Tm.share x y) 50 th2).op) (.int .i64 (Tm.kdf (Tm.share x y) 50 th2).num) (.slice a n c') (b:=b25))
   have HZ2:=Lib.hid (((put3 hb (.int .i64 (Tm.kdf (Tm.share x y) 50 th2).op) (.int .i64 (Tm.kdf (Tm.share x y) 50 th2).num) (.slice a n c') _ rfl).2.1 w.heap.size (by omega)).trans HZ1)
   clear HG0 HB0 HZ HZ1 hz1 hlt hs1 hR1 hG1 hT HB1 z hn hlo
   have r0:=cell_of_arr hb 0
   have r1:=cell_of_arr hb 1
   have r2:=cell_of_arr hb 2
   simp at r0 r1 r2
   have f0:=frozen_of_arr hb 0
   have f1:=frozen_of_arr hb 1
   have f2:=frozen_of_arr hb 2
   clear hb
   go_upto_region 22 with fail
   clear r0 r1 r2 f0 f1 f2
   generalize (((W1.setCell ⟨b25,0,none⟩ (.int .i64 (Tm.kdf (Tm.share x y) 50 th2).op)).setCell ⟨b25,1,none⟩ (.int .i64 (Tm.kdf (Tm.share x y) 50 th2).num)).setCell ⟨b25,2,none⟩ (.slice a n c'))=w5 at *
   clear W1
   obtain ⟨HG0,HB0,HZ⟩:=And.intro HS (And.intro HB2 HZ2)
   clear HS HB2 HZ2
   generalize he_prk2:Tm.kdf (Tm.share x y) 50 th2=prk2 at *
   have E_prk2:=Lib.hid he_prk2
   clear he_prk2
   refine region_tm (M:=2) [.tm prk2,.cell w5.heap.size] (by kernel_rfl) (by kernel_rfl) HG0.out ?_ ?_
   ·refine ⟨fun vs W hR hG hd=>?_,fun vs W hR hG hd=>?_,trivial⟩
    ·exact does_load hG (.tmp 25) b25 prk2 (by simp) rfl (by kernel_rfl)
    ·exact does_alloc hG _ hR.size rfl
   intro vs W1 hR1 hG1 hf
   obtain ⟨z,a,n,c',ev,hT,hn⟩:=hf 0 (by decide)
   obtain ⟨b26,eb,hb,hlo⟩:=hf 1 (by decide)
   have HB1:=Lib.hid (HB0.out.trans (hR1.mono HB0.out.size))
   have hlt:=HG0.out.lt
   have hs1:=HB0.out.size
   have hz1:=lt_of_block HZ.out
   have HZ1:=Below.keep hR1 HZ.out hz1
   have D_b26:Hid ((∀ p ∈ ([(b25,prk2),(b24,th2),(b23,m1),(b22,cr),(b21,ci)]:List (Nat × Tm)),p.1≠b26)∧w.heap.size < b26):=⟨fun p hp e=>by have:=hlt p hp;omega,by omega⟩
   simp only [Rg.putAll,Rg.putFrom,List.take_succ_cons,List.take_zero,List.drop_succ_cons,List.drop_zero,Act.put,List.setIfInBounds_toArray,List.set_cons_zero,List.set_cons_succ,ev,eb]
   clear ev eb hf
   have HS:=Lib.hid (GM.stored hG1 hb (fun p hp e=>by have:=hlt p hp;omega) z hT hn).1
   have HB2:=Lib.hid (RB.stored HB1.out (by omega) (.int .i64 (prk2).op) (.int .i64 (prk2).num) (.slice a n c') (b:=b26))
   have HZ2:=Lib.hid (((put3 hb (.int .i64 (prk2).op) (.int .i64 (prk2).num) (.slice a n c') _ rfl).2.1 w.heap.size (by omega)).trans HZ1)
   clear HG0 HB0 HZ HZ1 hz1 hlt hs1 hR1 hG1 hT HB1 z hn hlo
   have r0:=cell_of_arr hb 0
   have r1:=cell_of_arr hb 1
   have r2:=cell_of_arr hb 2
   simp at r0 r1 r2
   have f0:=frozen_of_arr hb 0
   have f1:=frozen_of_arr hb 1
   have f2:=frozen_of_arr hb 2
   clear hb
   go_upto_if 134 with fail
   clear r0 r1 r2 f0 f1 f2
   generalize (((W1.setCell ⟨b26,0,none⟩ (.int .i64 (prk2).op)).setCell ⟨b26,1,none⟩ (.int .i64 (prk2).num)).setCell ⟨b26,2,none⟩ (.slice a n c'))=w6 at *
   clear W1
   obtain ⟨HG0,HB0,HZ⟩:=And.intro HS (And.intro HB2 HZ2)
   clear HS HB2 HZ2
   go_cut [134] from 134 to 143 (fun _ W=>Below w.heap.size w W∧W.heap[w.heap.size]?=some (.cells #[.int .i64 0,.int .i64 0,.slice none 0 0] 28 (0,0))∧GM w.heap.size ((b26,(if R=true then Tm.kdf (Tm.tup [prk2,Tm.share x r]) 1 th2 else prk2)) :: [(b25,prk2),(b24,th2),(b23,m1),(b22,cr),(b21,ci)]) W)
   case first=>
    cases R with
    | true=>
      go_upto_region 24 with fail
      refine region_tm (M:=9) [.tm prk2,.eq (.func (.func 46) #[] #[]),.eq (.int .i64 x),.eq (.int .i64 r),.tm (Tm.share x r),.tl [prk2,Tm.share x r],.tm (Tm.tup [prk2,Tm.share x r]),.tm th2,.tm (Tm.kdf (Tm.tup [prk2,Tm.share x r]) 1 th2)] (by kernel_rfl) (by kernel_rfl) HG0.out ?_ ?_
      ·refine ⟨fun vs W hR hG hd=>?_,fun vs W hR hG hd=>?_,fun vs W hR hG hd=>?_,fun vs W hR hG hd=>?_,fun vs W hR hG hd=>?_,fun vs W hR hG hd=>?_,fun vs W hR hG hd=>?_,fun vs W hR hG hd=>?_,fun vs W hR hG hd=>?_,trivial⟩
       ·exact does_load hG (.tmp 25) b25 prk2 (by simp) rfl (by kernel_rfl)
       ·exact Rg.Does.move (.tmp 20) rfl ⟨RB.refl _,hG,show _=_ by kernel_rfl⟩
       ·exact Rg.Does.move (.tmp 1) rfl ⟨RB.refl _,hG,show _=_ by kernel_rfl⟩
       ·exact Rg.Does.move (.tmp 4) rfl ⟨RB.refl _,hG,show _=_ by kernel_rfl⟩
       ·have e2:vs 2=.int .i64 x:=hd 2 (by decide);have e3:vs 3=.int .i64 r:=hd 3 (by decide);exact does_call (vals:=#[vs 2,vs 3]) 46 (.tmp 136) #[.tmp 137,.tmp 138] _ rfl (Eq.trans (show _=vs 1 by kernel_rfl) (hd 1 (by decide))) (by kernel_rfl) (cf 46 _ Tryd.func46 (by kernel_rfl) (by kernel_rfl) _) (by rw [e2,e3];exact share_ends hG x r)
       ·exact does_row2 hG (.tmp 135) (.tmp 139) prk2 (Tm.share x r) rfl (hd 0 (by decide)) (hd 4 (by decide))
       ·exact does_call (vals:=#[vs 5]) 48 (.func 48) #[.tmp 140] _ rfl (by kernel_rfl) (by kernel_rfl) (cf 48 _ Tryd.func48 (by kernel_rfl) (by kernel_rfl) _) (tuple_ends hG (by simp) (hd 5 (by decide)))
       ·exact does_load hG (.tmp 24) b24 th2 (by simp) rfl (by kernel_rfl)
       ·exact does_call (vals:=#[vs 6,.int .i64 1,vs 7]) 50 (.func 50) #[.tmp 141,.const (.int .i64 1),.tmp 142] _ rfl (by kernel_rfl) (by kernel_rfl) (cf 50 _ Tryd.func50 (by kernel_rfl) (by kernel_rfl) _) (kdf_ends hG (hd 6 (by decide)) (hd 7 (by decide)) 1)
      intro vs W1 hR1 hG1 hf
      obtain ⟨z,a,n,c',ev,hT,hn⟩:=hf 8 (by decide)
      have HB1:=Lib.hid (HB0.out.trans (hR1.mono HB0.out.size))
      have hs1:=lt_of_block HZ.out
      have HZ1:=Below.keep hR1 HZ.out hs1
      obtain ⟨a0,n0,c0',hb⟩:=hG1.head
      simp only [Rg.putAll,Rg.putFrom,List.take_succ_cons,List.take_zero,List.drop_succ_cons,List.drop_zero,Act.put,List.setIfInBounds_toArray,List.set_cons_zero,List.set_cons_succ,ev]
      clear ev hf
      have HS:=Lib.hid (GM.restored hG1 D_b26.out.1 z hT hn)
      have HB2:=Lib.hid (RB.stored HB1.out (by have:=D_b26.out.2;omega) (.int .i64 (Tm.kdf (Tm.tup [prk2,Tm.share x r]) 1 th2).op) (.int .i64 (Tm.kdf (Tm.tup [prk2,Tm.share x r]) 1 th2).num) (.slice a n c') (b:=b26))
      have HZ2:=Lib.hid (((put3 hb (.int .i64 (Tm.kdf (Tm.tup [prk2,Tm.share x r]) 1 th2).op) (.int .i64 (Tm.kdf (Tm.tup [prk2,Tm.share x r]) 1 th2).num) (.slice a n c') _ rfl).2.1 w.heap.size (by have:=D_b26.out.2;omega)).trans HZ1)
      clear HG0 HB0 HZ HZ1 hs1 hR1 hG1 hT HB1 z hn
      have r0:=cell_of_arr hb 0
      have r1:=cell_of_arr hb 1
      have r2:=cell_of_arr hb 2
      simp at r0 r1 r2
      have f0:=frozen_of_arr hb 0
      have f1:=frozen_of_arr hb 1
      have f2:=frozen_of_arr hb 2
      clear hb
      go_wp2_with fail
      go_meet
      case rel=>exact ⟨HB2.out,HZ2.out,HS.out⟩
    | false=>
      go_wp2_with fail
      go_meet
      case rel=>exact ⟨HB0.out,HZ.out,HG0.out⟩
   case rest=>
   obtain ⟨HBc,HZc,HGc⟩:=hcut
   have HG0':=Lib.hid HGc
   have HB0':=Lib.hid HBc
   have HZ':=Lib.hid HZc
   clear HBc HZc HGc HG0 HB0 HZ
   obtain ⟨HG0,HB0,HZ⟩:=And.intro HG0' (And.intro HB0' HZ')
   clear HG0' HB0' HZ'
   generalize wc=w7 at *
   generalize he_prk3:(if R=true then Tm.kdf (Tm.tup [prk2,Tm.share x r]) 1 th2 else prk2)=prk3 at *
   have E_prk3:=Lib.hid he_prk3
   clear he_prk3
   go_upto_region 25 with fail
   refine region_tm (M:=7) [.tm prk3,.tm th2,.tm cr,.tl [th2,cr],.tm (Tm.tup [th2,cr]),.tm (Tm.kdf prk3 2 (Tm.tup [th2,cr])),.cell w7.heap.size] (by kernel_rfl) (by kernel_rfl) HG0.out ?_ ?_
   ·refine ⟨fun vs W hR hG hd=>?_,fun vs W hR hG hd=>?_,fun vs W hR hG hd=>?_,fun vs W hR hG hd=>?_,fun vs W hR hG hd=>?_,fun vs W hR hG hd=>?_,fun vs W hR hG hd=>?_,trivial⟩
    ·exact does_load hG (.tmp 26) b26 prk3 (by simp) rfl (by kernel_rfl)
    ·exact does_load hG (.tmp 24) b24 th2 (by simp) rfl (by kernel_rfl)
    ·exact does_load hG (.tmp 22) b22 cr (by simp) rfl (by kernel_rfl)
    ·exact does_row2 hG (.tmp 145) (.tmp 146) th2 cr rfl (hd 1 (by decide)) (hd 2 (by decide))
    ·exact does_call (vals:=#[vs 3]) 48 (.func 48) #[.tmp 147] _ rfl (by kernel_rfl) (by kernel_rfl) (cf 48 _ Tryd.func48 (by kernel_rfl) (by kernel_rfl) _) (tuple_ends hG (by simp) (hd 3 (by decide)))
    ·exact does_call (vals:=#[vs 0,.int .i64 2,vs 4]) 50 (.func 50) #[.tmp 144,.const (.int .i64 2),.tmp 148] _ rfl (by kernel_rfl) (by kernel_rfl) (cf 50 _ Tryd.func50 (by kernel_rfl) (by kernel_rfl) _) (kdf_ends hG (hd 0 (by decide)) (hd 4 (by decide)) 2)
    ·exact does_alloc hG _ hR.size rfl
   intro vs W1 hR1 hG1 hf
   obtain ⟨z,a,n,c',ev,hT,hn⟩:=hf 5 (by decide)
   obtain ⟨b27,eb,hb,hlo⟩:=hf 6 (by decide)
   have HB1:=Lib.hid (HB0.out.trans (hR1.mono HB0.out.size))
   have hlt:=HG0.out.lt
   have hs1:=HB0.out.size
   have hz1:=lt_of_block HZ.out
   have HZ1:=Below.keep hR1 HZ.out hz1
   have D_b27:Hid ((∀ p ∈ ([(b26,prk3),(b25,prk2),(b24,th2),(b23,m1),(b22,cr),(b21,ci)]:List (Nat × Tm)),p.1≠b27)∧w.heap.size < b27):=⟨fun p hp e=>by have:=hlt p hp;omega,by omega⟩
   simp only [Rg.putAll,Rg.putFrom,List.take_succ_cons,List.take_zero,List.drop_succ_cons,List.drop_zero,Act.put,List.setIfInBounds_toArray,List.set_cons_zero,List.set_cons_succ,ev,eb]
   clear ev eb hf
   have HS:=Lib.hid (GM.stored hG1 hb (fun p hp e=>by have:=hlt p hp;omega) z hT hn).1
   have HB2:=Lib.hid (RB.stored HB1.out (by omega) (.int .i64 (Tm.kdf prk3 2 (Tm.tup [th2,cr])).op) (.int .i64 (Tm.kdf prk3 2 (Tm.tup [th2,cr])).num) (.slice a n c') (b:=b27))
   have HZ2:=Lib.hid (((put3 hb (.int .i64 (Tm.kdf prk3 2 (Tm.tup [th2,cr])).op) (.int .i64 (Tm.kdf prk3 2 (Tm.tup [th2,cr])).num) (.slice a n c') _ rfl).2.1 w.heap.size (by omega)).trans HZ1)
   clear HG0 HB0 HZ HZ1 hz1 hlt hs1 hR1 hG1 hT HB1 z hn hlo
   have r0:=cell_of_arr hb 0
   have r1:=cell_of_arr hb 1
   have r2:=cell_of_arr hb 2
   simp at r0 r1 r2
   have f0:=frozen_of_arr hb 0
   have f1:=frozen_of_arr hb 1
   have f2:=frozen_of_arr hb 2
   clear hb
   go_upto_if 151 with fail
   clear r0 r1 r2 f0 f1 f2
   generalize (((W1.setCell ⟨b27,0,none⟩ (.int .i64 (Tm.kdf prk3 2 (Tm.tup [th2,cr])).op)).setCell ⟨b27,1,none⟩ (.int .i64 (Tm.kdf prk3 2 (Tm.tup [th2,cr])).num)).setCell ⟨b27,2,none⟩ (.slice a n c'))=w8 at *
   clear W1
   obtain ⟨HG0,HB0,HZ⟩:=And.intro HS (And.intro HB2 HZ2)
   clear HS HB2 HZ2
   generalize he_mac2:Tm.kdf prk3 2 (Tm.tup [th2,cr])=mac2 at *
   have E_mac2:=Lib.hid he_mac2
   clear he_mac2
   go_cut [152] from 152 to 160 (fun _ W=>Below w.heap.size w W∧W.heap[w.heap.size]?=some (.cells #[.int .i64 0,.int .i64 0,.slice none 0 0] 28 (0,0))∧GM w.heap.size ((b27,(if R=false then Tm.mk 5 0 [Tm.nm r,Tm.tup [th2,cr,mac2]] else mac2)) :: [(b26,prk3),(b25,prk2),(b24,th2),(b23,m1),(b22,cr),(b21,ci)]) W)
   case first=>
    cases R with
    | true=>
      go_wp2_with fail
      go_meet
      case rel=>exact ⟨HB0.out,HZ.out,HG0.out⟩
    | false=>
      go_upto_region 27 with fail
      refine region_tm (M:=9) [.eq (.int .i64 r),.tm (Tm.nm r),.tm th2,.tm cr,.tm mac2,.tl [th2,cr,mac2],.tm (Tm.tup [th2,cr,mac2]),.tl [Tm.nm r,Tm.tup [th2,cr,mac2]],.tm (Tm.mk 5 0 [Tm.nm r,Tm.tup [th2,cr,mac2]])] (by kernel_rfl) (by kernel_rfl) HG0.out ?_ ?_
      ·refine ⟨fun vs W hR hG hd=>?_,fun vs W hR hG hd=>?_,fun vs W hR hG hd=>?_,fun vs W hR hG hd=>?_,fun vs W hR hG hd=>?_,fun vs W hR hG hd=>?_,fun vs W hR hG hd=>?_,fun vs W hR hG hd=>?_,fun vs W hR hG hd=>?_,trivial⟩
       ·exact Rg.Does.move (.tmp 4) rfl ⟨RB.refl _,hG,show _=_ by kernel_rfl⟩
       ·have e0:vs 0=.int .i64 r:=hd 0 (by decide);exact does_call (vals:=#[vs 0]) 45 (.func 45) #[.tmp 152] _ rfl (by kernel_rfl) (by kernel_rfl) (cf 45 _ Tryd.func45 (by kernel_rfl) (by kernel_rfl) _) (by rw [e0];exact name_ends hG r)
       ·exact does_load hG (.tmp 24) b24 th2 (by simp) rfl (by kernel_rfl)
       ·exact does_load hG (.tmp 22) b22 cr (by simp) rfl (by kernel_rfl)
       ·exact does_load hG (.tmp 27) b27 mac2 (by simp) rfl (by kernel_rfl)
       ·exact does_row3 hG (.tmp 154) (.tmp 155) (.tmp 156) th2 cr mac2 rfl (hd 2 (by decide)) (hd 3 (by decide)) (hd 4 (by decide))
       ·exact does_call (vals:=#[vs 5]) 48 (.func 48) #[.tmp 157] _ rfl (by kernel_rfl) (by kernel_rfl) (cf 48 _ Tryd.func48 (by kernel_rfl) (by kernel_rfl) _) (tuple_ends hG (by simp) (hd 5 (by decide)))
       ·exact does_row2 hG (.tmp 153) (.tmp 158) (Tm.nm r) (Tm.tup [th2,cr,mac2]) rfl (hd 1 (by decide)) (hd 6 (by decide))
       ·exact does_call (vals:=#[.int .i64 5,vs 7]) 47 (.func 47) #[.const (.int .i64 5),.tmp 159] _ rfl (by kernel_rfl) (by kernel_rfl) (cf 47 _ Tryd.func47 (by kernel_rfl) (by kernel_rfl) _) (node_ends hG 5 (by decide) (hd 7 (by decide)))
      intro vs W1 hR1 hG1 hf
      obtain ⟨z,a,n,c',ev,hT,hn⟩:=hf 8 (by decide)
      have HB1:=Lib.hid (HB0.out.trans (hR1.mono HB0.out.size))
      have hs1:=lt_of_block HZ.out
      have HZ1:=Below.keep hR1 HZ.out hs1
      obtain ⟨a0,n0,c0',hb⟩:=hG1.head
      simp only [Rg.putAll,Rg.putFrom,List.take_succ_cons,List.take_zero,List.drop_succ_cons,List.drop_zero,Act.put,List.setIfInBounds_toArray,List.set_cons_zero,List.set_cons_succ,ev]
      clear ev hf
      have HS:=Lib.hid (GM.restored hG1 D_b27.out.1 z hT hn)
      have HB2:=Lib.hid (RB.stored HB1.out (by have:=D_b27.out.2;omega) (.int .i64 (Tm.mk 5 0 [Tm.nm r,Tm.tup [th2,cr,mac2]]).op) (.int .i64 (Tm.mk 5 0 [Tm.nm r,Tm.tup [th2,cr,mac2]]).num) (.slice a n c') (b:=b27))
      have HZ2:=Lib.hid (((put3 hb (.int .i64 (Tm.mk 5 0 [Tm.nm r,Tm.tup [th2,cr,mac2]]).op) (.int .i64 (Tm.mk 5 0 [Tm.nm r,Tm.tup [th2,cr,mac2]]).num) (.slice a n c') _ rfl).2.1 w.heap.size (by have:=D_b27.out.2;omega)).trans HZ1)
      clear HG0 HB0 HZ HZ1 hs1 hR1 hG1 hT HB1 z hn
      have r0:=cell_of_arr hb 0
      have r1:=cell_of_arr hb 1
      have r2:=cell_of_arr hb 2
      simp at r0 r1 r2
      have f0:=frozen_of_arr hb 0
      have f1:=frozen_of_arr hb 1
      have f2:=frozen_of_arr hb 2
      clear hb
      go_wp2_with fail
      go_meet
      case rel=>exact ⟨HB2.out,HZ2.out,HS.out⟩
   case rest=>
   obtain ⟨HBc,HZc,HGc⟩:=hcut
   have HG0':=Lib.hid HGc
   have HB0':=Lib.hid HBc
   have HZ':=Lib.hid HZc
   clear HBc HZc HGc HG0 HB0 HZ
   obtain ⟨HG0,HB0,HZ⟩:=And.intro HG0' (And.intro HB0' HZ')
   clear HG0' HB0' HZ'
   generalize wc=w9 at *
   generalize he_proof2:(if R=false then Tm.mk 5 0 [Tm.nm r,Tm.tup [th2,cr,mac2]] else mac2)=proof2 at *
   have E_proof2:=Lib.hid he_proof2
   clear he_proof2
   go_upto_region 28 with fail
   refine region_tm (M:=6) [.tm (Tm.nm 31),.tm cr,.tm proof2,.tl [Tm.nm 31,cr,proof2],.tm (Tm.tup [Tm.nm 31,cr,proof2]),.cell w9.heap.size] (by kernel_rfl) (by kernel_rfl) HG0.out ?_ ?_
   ·refine ⟨fun vs W hR hG hd=>?_,fun vs W hR hG hd=>?_,fun vs W hR hG hd=>?_,fun vs W hR hG hd=>?_,fun vs W hR hG hd=>?_,fun vs W hR hG hd=>?_,trivial⟩
    ·exact does_call (vals:=#[.int .i64 31]) 45 (.func 45) #[.const (.int .i64 31)] _ rfl (by kernel_rfl) (by kernel_rfl) (cf 45 _ Tryd.func45 (by kernel_rfl) (by kernel_rfl) _) (name_ends hG 31)
    ·exact does_load hG (.tmp 22) b22 cr (by simp) rfl (by kernel_rfl)
    ·exact does_load hG (.tmp 27) b27 proof2 (by simp) rfl (by kernel_rfl)
    ·exact does_row3 hG (.tmp 161) (.tmp 162) (.tmp 163) (Tm.nm 31) cr proof2 rfl (hd 0 (by decide)) (hd 1 (by decide)) (hd 2 (by decide))
    ·exact does_call (vals:=#[vs 3]) 48 (.func 48) #[.tmp 164] _ rfl (by kernel_rfl) (by kernel_rfl) (cf 48 _ Tryd.func48 (by kernel_rfl) (by kernel_rfl) _) (tuple_ends hG (by simp) (hd 3 (by decide)))
    ·exact does_alloc hG _ hR.size rfl
   intro vs W1 hR1 hG1 hf
   obtain ⟨z,a,n,c',ev,hT,hn⟩:=hf 4 (by decide)
   obtain ⟨b28,eb,hb,hlo⟩:=hf 5 (by decide)
   have HB1:=Lib.hid (HB0.out.trans (hR1.mono HB0.out.size))
   have hlt:=HG0.out.lt
   have hs1:=HB0.out.size
   have hz1:=lt_of_block HZ.out
   have HZ1:=Below.keep hR1 HZ.out hz1
   have D_b28:Hid ((∀ p ∈ ([(b27,proof2),(b26,prk3),(b25,prk2),(b24,th2),(b23,m1),(b22,cr),(b21,ci)]:List (Nat × Tm)),p.1≠b28)∧w.heap.size < b28):=⟨fun p hp e=>by have:=hlt p hp;omega,by omega⟩
   simp only [Rg.putAll,Rg.putFrom,List.take_succ_cons,List.take_zero,List.drop_succ_cons,List.drop_zero,Act.put,List.setIfInBounds_toArray,List.set_cons_zero,List.set_cons_succ,ev,eb]
   clear ev eb hf
   have HS:=Lib.hid (GM.stored hG1 hb (fun p hp e=>by have:=hlt p hp;omega) z hT hn).1
   have HB2:=Lib.hid (RB.stored HB1.out (by omega) (.int .i64 (Tm.tup [Tm.nm 31,cr,proof2]).op) (.int .i64 (Tm.tup [Tm.nm 31,cr,proof2]).num) (.slice a n c') (b:=b28))
   have HZ2:=Lib.hid (((put3 hb (.int .i64 (Tm.tup [Tm.nm 31,cr,proof2]).op) (.int .i64 (Tm.tup [Tm.nm 31,cr,proof2]).num) (.slice a n c') _ rfl).2.1 w.heap.size (by omega)).trans HZ1)
   clear HG0 HB0 HZ HZ1 hz1 hlt hs1 hR1 hG1 hT HB1 z hn hlo
   have r0:=cell_of_arr hb 0
   have r1:=cell_of_arr hb 1
   have r2:=cell_of_arr hb 2
   simp at r0 r1 r2
   have f0:=frozen_of_arr hb 0
   have f1:=frozen_of_arr hb 1
   have f2:=frozen_of_arr hb 2
   clear hb
   go_upto_region 29 with fail
   clear r0 r1 r2 f0 f1 f2
   generalize (((W1.setCell ⟨b28,0,none⟩ (.int .i64 (Tm.tup [Tm.nm 31,cr,proof2]).op)).setCell ⟨b28,1,none⟩ (.int .i64 (Tm.tup [Tm.nm 31,cr,proof2]).num)).setCell ⟨b28,2,none⟩ (.slice a n c'))=w10 at *
   clear W1
   obtain ⟨HG0,HB0,HZ⟩:=And.intro HS (And.intro HB2 HZ2)
   clear HS HB2 HZ2
   generalize he_p2:Tm.tup [Tm.nm 31,cr,proof2]=p2 at *
   have E_p2:=Lib.hid he_p2
   clear he_p2
   refine region_tm (M:=14) [.eq (.int .i64 y),.tm (Tm.nm y),.tm (Tm.pub (Tm.nm y)),.tm prk2,.tm th2,.tm (Tm.kdf prk2 0 th2),.tm (Tm.nm 0),.tm (Tm.nm 0),.tm p2,.tl [Tm.kdf prk2 0 th2,Tm.nm 0,Tm.nm 0,p2],.tm (Tm.mk 4 0 [Tm.kdf prk2 0 th2,Tm.nm 0,Tm.nm 0,p2]),.tl [Tm.pub (Tm.nm y),Tm.mk 4 0 [Tm.kdf prk2 0 th2,Tm.nm 0,Tm.nm 0,p2]],.tm (Tm.tup [Tm.pub (Tm.nm y),Tm.mk 4 0 [Tm.kdf prk2 0 th2,Tm.nm 0,Tm.nm 0,p2]]),.cell w10.heap.size] (by kernel_rfl) (by kernel_rfl) HG0.out ?_ ?_
   ·refine ⟨fun vs W hR hG hd=>?_,fun vs W hR hG hd=>?_,fun vs W hR hG hd=>?_,fun vs W hR hG hd=>?_,fun vs W hR hG hd=>?_,fun vs W hR hG hd=>?_,fun vs W hR hG hd=>?_,fun vs W hR hG hd=>?_,fun vs W hR hG hd=>?_,fun vs W hR hG hd=>?_,fun vs W hR hG hd=>?_,fun vs W hR hG hd=>?_,fun vs W hR hG hd=>?_,fun vs W hR hG hd=>?_,trivial⟩
    ·exact Rg.Does.move (.tmp 2) rfl ⟨RB.refl _,hG,show _=_ by kernel_rfl⟩
    ·have e0:vs 0=.int .i64 y:=hd 0 (by decide);exact does_call (vals:=#[vs 0]) 45 (.func 45) #[.tmp 166] _ rfl (by kernel_rfl) (by kernel_rfl) (cf 45 _ Tryd.func45 (by kernel_rfl) (by kernel_rfl) _) (by rw [e0];exact name_ends hG y)
    ·exact does_call (vals:=#[vs 1]) 49 (.func 49) #[.tmp 167] _ rfl (by kernel_rfl) (by kernel_rfl) (cf 49 _ Tryd.func49 (by kernel_rfl) (by kernel_rfl) _) (pub_ends hG (hd 1 (by decide)))
    ·exact does_load hG (.tmp 25) b25 prk2 (by simp) rfl (by kernel_rfl)
    ·exact does_load hG (.tmp 24) b24 th2 (by simp) rfl (by kernel_rfl)
    ·exact does_call (vals:=#[vs 3,.int .i64 0,vs 4]) 50 (.func 50) #[.tmp 169,.const (.int .i64 0),.tmp 170] _ rfl (by kernel_rfl) (by kernel_rfl) (cf 50 _ Tryd.func50 (by kernel_rfl) (by kernel_rfl) _) (kdf_ends hG (hd 3 (by decide)) (hd 4 (by decide)) 0)
    ·exact does_call (vals:=#[.int .i64 0]) 45 (.func 45) #[.const (.int .i64 0)] _ rfl (by kernel_rfl) (by kernel_rfl) (cf 45 _ Tryd.func45 (by kernel_rfl) (by kernel_rfl) _) (name_ends hG 0)
    ·exact does_call (vals:=#[.int .i64 0]) 45 (.func 45) #[.const (.int .i64 0)] _ rfl (by kernel_rfl) (by kernel_rfl) (cf 45 _ Tryd.func45 (by kernel_rfl) (by kernel_rfl) _) (name_ends hG 0)
    ·exact does_load hG (.tmp 28) b28 p2 (by simp) rfl (by kernel_rfl)
    ·exact does_row4 hG (.tmp 171) (.tmp 172) (.tmp 173) (.tmp 174) (Tm.kdf prk2 0 th2) (Tm.nm 0) (Tm.nm 0) p2 rfl (hd 5 (by decide)) (hd 6 (by decide)) (hd 7 (by decide)) (hd 8 (by decide))
    ·exact does_call (vals:=#[.int .i64 4,vs 9]) 47 (.func 47) #[.const (.int .i64 4),.tmp 175] _ rfl (by kernel_rfl) (by kernel_rfl) (cf 47 _ Tryd.func47 (by kernel_rfl) (by kernel_rfl) _) (node_ends hG 4 (by decide) (hd 9 (by decide)))
    ·exact does_row2 hG (.tmp 168) (.tmp 176) (Tm.pub (Tm.nm y)) (Tm.mk 4 0 [Tm.kdf prk2 0 th2,Tm.nm 0,Tm.nm 0,p2]) rfl (hd 2 (by decide)) (hd 10 (by decide))
    ·exact does_call (vals:=#[vs 11]) 48 (.func 48) #[.tmp 177] _ rfl (by kernel_rfl) (by kernel_rfl) (cf 48 _ Tryd.func48 (by kernel_rfl) (by kernel_rfl) _) (tuple_ends hG (by simp) (hd 11 (by decide)))
    ·exact does_alloc hG _ hR.size rfl
   intro vs W1 hR1 hG1 hf
   obtain ⟨z,a,n,c',ev,hT,hn⟩:=hf 12 (by decide)
   obtain ⟨b29,eb,hb,hlo⟩:=hf 13 (by decide)
   have HB1:=Lib.hid (HB0.out.trans (hR1.mono HB0.out.size))
   have hlt:=HG0.out.lt
   have hs1:=HB0.out.size
   have hz1:=lt_of_block HZ.out
   have HZ1:=Below.keep hR1 HZ.out hz1
   have D_b29:Hid ((∀ p ∈ ([(b28,p2),(b27,proof2),(b26,prk3),(b25,prk2),(b24,th2),(b23,m1),(b22,cr),(b21,ci)]:List (Nat × Tm)),p.1≠b29)∧w.heap.size < b29):=⟨fun p hp e=>by have:=hlt p hp;omega,by omega⟩
   simp only [Rg.putAll,Rg.putFrom,List.take_succ_cons,List.take_zero,List.drop_succ_cons,List.drop_zero,Act.put,List.setIfInBounds_toArray,List.set_cons_zero,List.set_cons_succ,ev,eb]
   clear ev eb hf
   have HS:=Lib.hid (GM.stored hG1 hb (fun p hp e=>by have:=hlt p hp;omega) z hT hn).1
   have HB2:=Lib.hid (RB.stored HB1.out (by omega) (.int .i64 (Tm.tup [Tm.pub (Tm.nm y),Tm.mk 4 0 [Tm.kdf prk2 0 th2,Tm.nm 0,Tm.nm 0,p2]]).op) (.int .i64 (Tm.tup [Tm.pub (Tm.nm y),Tm.mk 4 0 [Tm.kdf prk2 0 th2,Tm.nm 0,Tm.nm 0,p2]]).num) (.slice a n c') (b:=b29))
   have HZ2:=Lib.hid (((put3 hb (.int .i64 (Tm.tup [Tm.pub (Tm.nm y),Tm.mk 4 0 [Tm.kdf prk2 0 th2,Tm.nm 0,Tm.nm 0,p2]]).op) (.int .i64 (Tm.tup [Tm.pub (Tm.nm y),Tm.mk 4 0 [Tm.kdf prk2 0 th2,Tm.nm 0,Tm.nm 0,p2]]).num) (.slice a n c') _ rfl).2.1 w.heap.size (by omega)).trans HZ1)
   clear HG0 HB0 HZ HZ1 hz1 hlt hs1 hR1 hG1 hT HB1 z hn hlo
   have r0:=cell_of_arr hb 0
   have r1:=cell_of_arr hb 1
   have r2:=cell_of_arr hb 2
   simp at r0 r1 r2
   have f0:=frozen_of_arr hb 0
   have f1:=frozen_of_arr hb 1
   have f2:=frozen_of_arr hb 2
   clear hb
   go_upto_region 30 with fail
   clear r0 r1 r2 f0 f1 f2
   generalize (((W1.setCell ⟨b29,0,none⟩ (.int .i64 (Tm.tup [Tm.pub (Tm.nm y),Tm.mk 4 0 [Tm.kdf prk2 0 th2,Tm.nm 0,Tm.nm 0,p2]]).op)).setCell ⟨b29,1,none⟩ (.int .i64 (Tm.tup [Tm.pub (Tm.nm y),Tm.mk 4 0 [Tm.kdf prk2 0 th2,Tm.nm 0,Tm.nm 0,p2]]).num)).setCell ⟨b29,2,none⟩ (.slice a n c'))=w11 at *
   clear W1
   obtain ⟨HG0,HB0,HZ⟩:=And.intro HS (And.intro HB2 HZ2)
   clear HS HB2 HZ2
   generalize he_m2:Tm.tup [Tm.pub (Tm.nm y),Tm.mk 4 0 [Tm.kdf prk2 0 th2,Tm.nm 0,Tm.nm 0,p2]]=m2 at *
   have E_m2:=Lib.hid he_m2
   clear he_m2
   refine region_tm (M:=8) [.tm th2,.tm p2,.tm cr,.tl [th2,p2,cr],.tm (Tm.tup [th2,p2,cr]),.tl [Tm.tup [th2,p2,cr]],.tm (Tm.mk 3 0 [Tm.tup [th2,p2,cr]]),.cell w11.heap.size] (by kernel_rfl) (by kernel_rfl) HG0.out ?_ ?_
   ·refine ⟨fun vs W hR hG hd=>?_,fun vs W hR hG hd=>?_,fun vs W hR hG hd=>?_,fun vs W hR hG hd=>?_,fun vs W hR hG hd=>?_,fun vs W hR hG hd=>?_,fun vs W hR hG hd=>?_,fun vs W hR hG hd=>?_,trivial⟩
    ·exact does_load hG (.tmp 24) b24 th2 (by simp) rfl (by kernel_rfl)
    ·exact does_load hG (.tmp 28) b28 p2 (by simp) rfl (by kernel_rfl)
    ·exact does_load hG (.tmp 22) b22 cr (by simp) rfl (by kernel_rfl)
    ·exact does_row3 hG (.tmp 179) (.tmp 180) (.tmp 181) th2 p2 cr rfl (hd 0 (by decide)) (hd 1 (by decide)) (hd 2 (by decide))
    ·exact does_call (vals:=#[vs 3]) 48 (.func 48) #[.tmp 182] _ rfl (by kernel_rfl) (by kernel_rfl) (cf 48 _ Tryd.func48 (by kernel_rfl) (by kernel_rfl) _) (tuple_ends hG (by simp) (hd 3 (by decide)))
    ·exact does_row1 hG (.tmp 183) (Tm.tup [th2,p2,cr]) rfl (hd 4 (by decide))
    ·exact does_call (vals:=#[.int .i64 3,vs 5]) 47 (.func 47) #[.const (.int .i64 3),.tmp 184] _ rfl (by kernel_rfl) (by kernel_rfl) (cf 47 _ Tryd.func47 (by kernel_rfl) (by kernel_rfl) _) (node_ends hG 3 (by decide) (hd 5 (by decide)))
    ·exact does_alloc hG _ hR.size rfl
   intro vs W1 hR1 hG1 hf
   obtain ⟨z,a,n,c',ev,hT,hn⟩:=hf 6 (by decide)
   obtain ⟨b30,eb,hb,hlo⟩:=hf 7 (by decide)
   have HB1:=Lib.hid (HB0.out.trans (hR1.mono HB0.out.size))
   have hlt:=HG0.out.lt
   have hs1:=HB0.out.size
   have hz1:=lt_of_block HZ.out
   have HZ1:=Below.keep hR1 HZ.out hz1
   have D_b30:Hid ((∀ p ∈ ([(b29,m2),(b28,p2),(b27,proof2),(b26,prk3),(b25,prk2),(b24,th2),(b23,m1),(b22,cr),(b21,ci)]:List (Nat × Tm)),p.1≠b30)∧w.heap.size < b30):=⟨fun p hp e=>by have:=hlt p hp;omega,by omega⟩
   simp only [Rg.putAll,Rg.putFrom,List.take_succ_cons,List.take_zero,List.drop_succ_cons,List.drop_zero,Act.put,List.setIfInBounds_toArray,List.set_cons_zero,List.set_cons_succ,ev,eb]
   clear ev eb hf
   have HS:=Lib.hid (GM.stored hG1 hb (fun p hp e=>by have:=hlt p hp;omega) z hT hn).1
   have HB2:=Lib.hid (RB.stored HB1.out (by omega) (.int .i64 (Tm.mk 3 0 [Tm.tup [th2,p2,cr]]).op) (.int .i64 (Tm.mk 3 0 [Tm.tup [th2,p2,cr]]).num) (.slice a n c') (b:=b30))
   have HZ2:=Lib.hid (((put3 hb (.int .i64 (Tm.mk 3 0 [Tm.tup [th2,p2,cr]]).op) (.int .i64 (Tm.mk 3 0 [Tm.tup [th2,p2,cr]]).num) (.slice a n c') _ rfl).2.1 w.heap.size (by omega)).trans HZ1)
   clear HG0 HB0 HZ HZ1 hz1 hlt hs1 hR1 hG1 hT HB1 z hn hlo
   have r0:=cell_of_arr hb 0
   have r1:=cell_of_arr hb 1
   have r2:=cell_of_arr hb 2
   simp at r0 r1 r2
   have f0:=frozen_of_arr hb 0
   have f1:=frozen_of_arr hb 1
   have f2:=frozen_of_arr hb 2
   clear hb
   go_upto_region 31 with fail
   clear r0 r1 r2 f0 f1 f2
   generalize (((W1.setCell ⟨b30,0,none⟩ (.int .i64 (Tm.mk 3 0 [Tm.tup [th2,p2,cr]]).op)).setCell ⟨b30,1,none⟩ (.int .i64 (Tm.mk 3 0 [Tm.tup [th2,p2,cr]]).num)).setCell ⟨b30,2,none⟩ (.slice a n c'))=w12 at *
   clear W1
   obtain ⟨HG0,HB0,HZ⟩:=And.intro HS (And.intro HB2 HZ2)
   clear HS HB2 HZ2
   generalize he_th3:Tm.mk 3 0 [Tm.tup [th2,p2,cr]]=th3 at *
   have E_th3:=Lib.hid he_th3
   clear he_th3
   refine region_tm (M:=2) [.tm prk3,.cell w12.heap.size] (by kernel_rfl) (by kernel_rfl) HG0.out ?_ ?_
   ·refine ⟨fun vs W hR hG hd=>?_,fun vs W hR hG hd=>?_,trivial⟩
    ·exact does_load hG (.tmp 26) b26 prk3 (by simp) rfl (by kernel_rfl)
    ·exact does_alloc hG _ hR.size rfl
   intro vs W1 hR1 hG1 hf
   obtain ⟨z,a,n,c',ev,hT,hn⟩:=hf 0 (by decide)
   obtain ⟨b31,eb,hb,hlo⟩:=hf 1 (by decide)
   have HB1:=Lib.hid (HB0.out.trans (hR1.mono HB0.out.size))
   have hlt:=HG0.out.lt
   have hs1:=HB0.out.size
   have hz1:=lt_of_block HZ.out
   have HZ1:=Below.keep hR1 HZ.out hz1
   have D_b31:Hid ((∀ p ∈ ([(b30,th3),(b29,m2),(b28,p2),(b27,proof2),(b26,prk3),(b25,prk2),(b24,th2),(b23,m1),(b22,cr),(b21,ci)]:List (Nat × Tm)),p.1≠b31)∧w.heap.size < b31):=⟨fun p hp e=>by have:=hlt p hp;omega,by omega⟩
   simp only [Rg.putAll,Rg.putFrom,List.take_succ_cons,List.take_zero,List.drop_succ_cons,List.drop_zero,Act.put,List.setIfInBounds_toArray,List.set_cons_zero,List.set_cons_succ,ev,eb]
   clear ev eb hf
   have HS:=Lib.hid (GM.stored hG1 hb (fun p hp e=>by have:=hlt p hp;omega) z hT hn).1
   have HB2:=Lib.hid (RB.stored HB1.out (by omega) (.int .i64 (prk3).op) (.int .i64 (prk3).num) (.slice a n c') (b:=b31))
   have HZ2:=Lib.hid (((put3 hb (.int .i64 (prk3).op) (.int .i64 (prk3).num) (.slice a n c') _ rfl).2.1 w.heap.size (by omega)).trans HZ1)
   clear HG0 HB0 HZ HZ1 hz1 hlt hs1 hR1 hG1 hT HB1 z hn hlo
   have r0:=cell_of_arr hb 0
   have r1:=cell_of_arr hb 1
   have r2:=cell_of_arr hb 2
   simp at r0 r1 r2
   have f0:=frozen_of_arr hb 0
   have f1:=frozen_of_arr hb 1
   have f2:=frozen_of_arr hb 2
   clear hb
   go_upto_if 187 with fail
   clear r0 r1 r2 f0 f1 f2
   generalize (((W1.setCell ⟨b31,0,none⟩ (.int .i64 (prk3).op)).setCell ⟨b31,1,none⟩ (.int .i64 (prk3).num)).setCell ⟨b31,2,none⟩ (.slice a n c'))=w13 at *
   clear W1
   obtain ⟨HG0,HB0,HZ⟩:=And.intro HS (And.intro HB2 HZ2)
   clear HS HB2 HZ2
   go_cut [188] from 188 to 196 (fun _ W=>Below w.heap.size w W∧W.heap[w.heap.size]?=some (.cells #[.int .i64 0,.int .i64 0,.slice none 0 0] 28 (0,0))∧GM w.heap.size ((b31,(if I=true then Tm.kdf (Tm.tup [prk3,Tm.share i y]) 5 th3 else prk3)) :: [(b30,th3),(b29,m2),(b28,p2),(b27,proof2),(b26,prk3),(b25,prk2),(b24,th2),(b23,m1),(b22,cr),(b21,ci)]) W)
   case first=>
    cases I with
    | true=>
      go_upto_region 33 with fail
      refine region_tm (M:=9) [.tm prk3,.eq (.func (.func 46) #[] #[]),.eq (.int .i64 i),.eq (.int .i64 y),.tm (Tm.share i y),.tl [prk3,Tm.share i y],.tm (Tm.tup [prk3,Tm.share i y]),.tm th3,.tm (Tm.kdf (Tm.tup [prk3,Tm.share i y]) 5 th3)] (by kernel_rfl) (by kernel_rfl) HG0.out ?_ ?_
      ·refine ⟨fun vs W hR hG hd=>?_,fun vs W hR hG hd=>?_,fun vs W hR hG hd=>?_,fun vs W hR hG hd=>?_,fun vs W hR hG hd=>?_,fun vs W hR hG hd=>?_,fun vs W hR hG hd=>?_,fun vs W hR hG hd=>?_,fun vs W hR hG hd=>?_,trivial⟩
       ·exact does_load hG (.tmp 26) b26 prk3 (by simp) rfl (by kernel_rfl)
       ·exact Rg.Does.move (.tmp 20) rfl ⟨RB.refl _,hG,show _=_ by kernel_rfl⟩
       ·exact Rg.Does.move (.tmp 3) rfl ⟨RB.refl _,hG,show _=_ by kernel_rfl⟩
       ·exact Rg.Does.move (.tmp 2) rfl ⟨RB.refl _,hG,show _=_ by kernel_rfl⟩
       ·have e2:vs 2=.int .i64 i:=hd 2 (by decide);have e3:vs 3=.int .i64 y:=hd 3 (by decide);exact does_call (vals:=#[vs 2,vs 3]) 46 (.tmp 189) #[.tmp 190,.tmp 191] _ rfl (Eq.trans (show _=vs 1 by kernel_rfl) (hd 1 (by decide))) (by kernel_rfl) (cf 46 _ Tryd.func46 (by kernel_rfl) (by kernel_rfl) _) (by rw [e2,e3];exact share_ends hG i y)
       ·exact does_row2 hG (.tmp 188) (.tmp 192) prk3 (Tm.share i y) rfl (hd 0 (by decide)) (hd 4 (by decide))
       ·exact does_call (vals:=#[vs 5]) 48 (.func 48) #[.tmp 193] _ rfl (by kernel_rfl) (by kernel_rfl) (cf 48 _ Tryd.func48 (by kernel_rfl) (by kernel_rfl) _) (tuple_ends hG (by simp) (hd 5 (by decide)))
       ·exact does_load hG (.tmp 30) b30 th3 (by simp) rfl (by kernel_rfl)
       ·exact does_call (vals:=#[vs 6,.int .i64 5,vs 7]) 50 (.func 50) #[.tmp 194,.const (.int .i64 5),.tmp 195] _ rfl (by kernel_rfl) (by kernel_rfl) (cf 50 _ Tryd.func50 (by kernel_rfl) (by kernel_rfl) _) (kdf_ends hG (hd 6 (by decide)) (hd 7 (by decide)) 5)
      intro vs W1 hR1 hG1 hf
      obtain ⟨z,a,n,c',ev,hT,hn⟩:=hf 8 (by decide)
      have HB1:=Lib.hid (HB0.out.trans (hR1.mono HB0.out.size))
      have hs1:=lt_of_block HZ.out
      have HZ1:=Below.keep hR1 HZ.out hs1
      obtain ⟨a0,n0,c0',hb⟩:=hG1.head
      simp only [Rg.putAll,Rg.putFrom,List.take_succ_cons,List.take_zero,List.drop_succ_cons,List.drop_zero,Act.put,List.setIfInBounds_toArray,List.set_cons_zero,List.set_cons_succ,ev]
      clear ev hf
      have HS:=Lib.hid (GM.restored hG1 D_b31.out.1 z hT hn)
      have HB2:=Lib.hid (RB.stored HB1.out (by have:=D_b31.out.2;omega) (.int .i64 (Tm.kdf (Tm.tup [prk3,Tm.share i y]) 5 th3).op) (.int .i64 (Tm.kdf (Tm.tup [prk3,Tm.share i y]) 5 th3).num) (.slice a n c') (b:=b31))
      have HZ2:=Lib.hid (((put3 hb (.int .i64 (Tm.kdf (Tm.tup [prk3,Tm.share i y]) 5 th3).op) (.int .i64 (Tm.kdf (Tm.tup [prk3,Tm.share i y]) 5 th3).num) (.slice a n c') _ rfl).2.1 w.heap.size (by have:=D_b31.out.2;omega)).trans HZ1)
      clear HG0 HB0 HZ HZ1 hs1 hR1 hG1 hT HB1 z hn
      have r0:=cell_of_arr hb 0
      have r1:=cell_of_arr hb 1
      have r2:=cell_of_arr hb 2
      simp at r0 r1 r2
      have f0:=frozen_of_arr hb 0
      have f1:=frozen_of_arr hb 1
      have f2:=frozen_of_arr hb 2
      clear hb
      go_wp2_with fail
      go_meet
      case rel=>exact ⟨HB2.out,HZ2.out,HS.out⟩
    | false=>
      go_wp2_with fail
      go_meet
      case rel=>exact ⟨HB0.out,HZ.out,HG0.out⟩
   case rest=>
   obtain ⟨HBc,HZc,HGc⟩:=hcut
   have HG0':=Lib.hid HGc
   have HB0':=Lib.hid HBc
   have HZ':=Lib.hid HZc
   clear HBc HZc HGc HG0 HB0 HZ
   obtain ⟨HG0,HB0,HZ⟩:=And.intro HG0' (And.intro HB0' HZ')
   clear HG0' HB0' HZ'
   generalize wc=w14 at *
   generalize he_prk4:(if I=true then Tm.kdf (Tm.tup [prk3,Tm.share i y]) 5 th3 else prk3)=prk4 at *
   have E_prk4:=Lib.hid he_prk4
   clear he_prk4
   go_upto_region 34 with fail
   refine region_tm (M:=7) [.tm prk4,.tm th3,.tm ci,.tl [th3,ci],.tm (Tm.tup [th3,ci]),.tm (Tm.kdf prk4 6 (Tm.tup [th3,ci])),.cell w14.heap.size] (by kernel_rfl) (by kernel_rfl) HG0.out ?_ ?_
   ·refine ⟨fun vs W hR hG hd=>?_,fun vs W hR hG hd=>?_,fun vs W hR hG hd=>?_,fun vs W hR hG hd=>?_,fun vs W hR hG hd=>?_,fun vs W hR hG hd=>?_,fun vs W hR hG hd=>?_,trivial⟩
    ·exact does_load hG (.tmp 31) b31 prk4 (by simp) rfl (by kernel_rfl)
    ·exact does_load hG (.tmp 30) b30 th3 (by simp) rfl (by kernel_rfl)
    ·exact does_load hG (.tmp 21) b21 ci (by simp) rfl (by kernel_rfl)
    ·exact does_row2 hG (.tmp 198) (.tmp 199) th3 ci rfl (hd 1 (by decide)) (hd 2 (by decide))
    ·exact does_call (vals:=#[vs 3]) 48 (.func 48) #[.tmp 200] _ rfl (by kernel_rfl) (by kernel_rfl) (cf 48 _ Tryd.func48 (by kernel_rfl) (by kernel_rfl) _) (tuple_ends hG (by simp) (hd 3 (by decide)))
    ·exact does_call (vals:=#[vs 0,.int .i64 6,vs 4]) 50 (.func 50) #[.tmp 197,.const (.int .i64 6),.tmp 201] _ rfl (by kernel_rfl) (by kernel_rfl) (cf 50 _ Tryd.func50 (by kernel_rfl) (by kernel_rfl) _) (kdf_ends hG (hd 0 (by decide)) (hd 4 (by decide)) 6)
    ·exact does_alloc hG _ hR.size rfl
   intro vs W1 hR1 hG1 hf
   obtain ⟨z,a,n,c',ev,hT,hn⟩:=hf 5 (by decide)
   obtain ⟨b32,eb,hb,hlo⟩:=hf 6 (by decide)
   have HB1:=Lib.hid (HB0.out.trans (hR1.mono HB0.out.size))
   have hlt:=HG0.out.lt
   have hs1:=HB0.out.size
   have hz1:=lt_of_block HZ.out
   have HZ1:=Below.keep hR1 HZ.out hz1
   have D_b32:Hid ((∀ p ∈ ([(b31,prk4),(b30,th3),(b29,m2),(b28,p2),(b27,proof2),(b26,prk3),(b25,prk2),(b24,th2),(b23,m1),(b22,cr),(b21,ci)]:List (Nat × Tm)),p.1≠b32)∧w.heap.size < b32):=⟨fun p hp e=>by have:=hlt p hp;omega,by omega⟩
   simp only [Rg.putAll,Rg.putFrom,List.take_succ_cons,List.take_zero,List.drop_succ_cons,List.drop_zero,Act.put,List.setIfInBounds_toArray,List.set_cons_zero,List.set_cons_succ,ev,eb]
   clear ev eb hf
   have HS:=Lib.hid (GM.stored hG1 hb (fun p hp e=>by have:=hlt p hp;omega) z hT hn).1
   have HB2:=Lib.hid (RB.stored HB1.out (by omega) (.int .i64 (Tm.kdf prk4 6 (Tm.tup [th3,ci])).op) (.int .i64 (Tm.kdf prk4 6 (Tm.tup [th3,ci])).num) (.slice a n c') (b:=b32))
   have HZ2:=Lib.hid (((put3 hb (.int .i64 (Tm.kdf prk4 6 (Tm.tup [th3,ci])).op) (.int .i64 (Tm.kdf prk4 6 (Tm.tup [th3,ci])).num) (.slice a n c') _ rfl).2.1 w.heap.size (by omega)).trans HZ1)
   clear HG0 HB0 HZ HZ1 hz1 hlt hs1 hR1 hG1 hT HB1 z hn hlo
   have r0:=cell_of_arr hb 0
   have r1:=cell_of_arr hb 1
   have r2:=cell_of_arr hb 2
   simp at r0 r1 r2
   have f0:=frozen_of_arr hb 0
   have f1:=frozen_of_arr hb 1
   have f2:=frozen_of_arr hb 2
   clear hb
   go_upto_if 204 with fail
   clear r0 r1 r2 f0 f1 f2
   generalize (((W1.setCell ⟨b32,0,none⟩ (.int .i64 (Tm.kdf prk4 6 (Tm.tup [th3,ci])).op)).setCell ⟨b32,1,none⟩ (.int .i64 (Tm.kdf prk4 6 (Tm.tup [th3,ci])).num)).setCell ⟨b32,2,none⟩ (.slice a n c'))=w15 at *
   clear W1
   obtain ⟨HG0,HB0,HZ⟩:=And.intro HS (And.intro HB2 HZ2)
   clear HS HB2 HZ2
   generalize he_mac3:Tm.kdf prk4 6 (Tm.tup [th3,ci])=mac3 at *
   have E_mac3:=Lib.hid he_mac3
   clear he_mac3
   go_cut [205] from 205 to 213 (fun _ W=>Below w.heap.size w W∧W.heap[w.heap.size]?=some (.cells #[.int .i64 0,.int .i64 0,.slice none 0 0] 28 (0,0))∧GM w.heap.size ((b32,(if I=false then Tm.mk 5 0 [Tm.nm i,Tm.tup [th3,ci,mac3]] else mac3)) :: [(b31,prk4),(b30,th3),(b29,m2),(b28,p2),(b27,proof2),(b26,prk3),(b25,prk2),(b24,th2),(b23,m1),(b22,cr),(b21,ci)]) W)
   case first=>
    cases I with
    | true=>
      go_wp2_with fail
      go_meet
      case rel=>exact ⟨HB0.out,HZ.out,HG0.out⟩
    | false=>
      go_upto_region 36 with fail
      refine region_tm (M:=9) [.eq (.int .i64 i),.tm (Tm.nm i),.tm th3,.tm ci,.tm mac3,.tl [th3,ci,mac3],.tm (Tm.tup [th3,ci,mac3]),.tl [Tm.nm i,Tm.tup [th3,ci,mac3]],.tm (Tm.mk 5 0 [Tm.nm i,Tm.tup [th3,ci,mac3]])] (by kernel_rfl) (by kernel_rfl) HG0.out ?_ ?_
      ·refine ⟨fun vs W hR hG hd=>?_,fun vs W hR hG hd=>?_,fun vs W hR hG hd=>?_,fun vs W hR hG hd=>?_,fun vs W hR hG hd=>?_,fun vs W hR hG hd=>?_,fun vs W hR hG hd=>?_,fun vs W hR hG hd=>?_,fun vs W hR hG hd=>?_,trivial⟩
       ·exact Rg.Does.move (.tmp 3) rfl ⟨RB.refl _,hG,show _=_ by kernel_rfl⟩
       ·have e0:vs 0=.int .i64 i:=hd 0 (by decide);exact does_call (vals:=#[vs 0]) 45 (.func 45) #[.tmp 205] _ rfl (by kernel_rfl) (by kernel_rfl) (cf 45 _ Tryd.func45 (by kernel_rfl) (by kernel_rfl) _) (by rw [e0];exact name_ends hG i)
       ·exact does_load hG (.tmp 30) b30 th3 (by simp) rfl (by kernel_rfl)
       ·exact does_load hG (.tmp 21) b21 ci (by simp) rfl (by kernel_rfl)
       ·exact does_load hG (.tmp 32) b32 mac3 (by simp) rfl (by kernel_rfl)
       ·exact does_row3 hG (.tmp 207) (.tmp 208) (.tmp 209) th3 ci mac3 rfl (hd 2 (by decide)) (hd 3 (by decide)) (hd 4 (by decide))
       ·exact does_call (vals:=#[vs 5]) 48 (.func 48) #[.tmp 210] _ rfl (by kernel_rfl) (by kernel_rfl) (cf 48 _ Tryd.func48 (by kernel_rfl) (by kernel_rfl) _) (tuple_ends hG (by simp) (hd 5 (by decide)))
       ·exact does_row2 hG (.tmp 206) (.tmp 211) (Tm.nm i) (Tm.tup [th3,ci,mac3]) rfl (hd 1 (by decide)) (hd 6 (by decide))
       ·exact does_call (vals:=#[.int .i64 5,vs 7]) 47 (.func 47) #[.const (.int .i64 5),.tmp 212] _ rfl (by kernel_rfl) (by kernel_rfl) (cf 47 _ Tryd.func47 (by kernel_rfl) (by kernel_rfl) _) (node_ends hG 5 (by decide) (hd 7 (by decide)))
      intro vs W1 hR1 hG1 hf
      obtain ⟨z,a,n,c',ev,hT,hn⟩:=hf 8 (by decide)
      have HB1:=Lib.hid (HB0.out.trans (hR1.mono HB0.out.size))
      have hs1:=lt_of_block HZ.out
      have HZ1:=Below.keep hR1 HZ.out hs1
      obtain ⟨a0,n0,c0',hb⟩:=hG1.head
      simp only [Rg.putAll,Rg.putFrom,List.take_succ_cons,List.take_zero,List.drop_succ_cons,List.drop_zero,Act.put,List.setIfInBounds_toArray,List.set_cons_zero,List.set_cons_succ,ev]
      clear ev hf
      have HS:=Lib.hid (GM.restored hG1 D_b32.out.1 z hT hn)
      have HB2:=Lib.hid (RB.stored HB1.out (by have:=D_b32.out.2;omega) (.int .i64 (Tm.mk 5 0 [Tm.nm i,Tm.tup [th3,ci,mac3]]).op) (.int .i64 (Tm.mk 5 0 [Tm.nm i,Tm.tup [th3,ci,mac3]]).num) (.slice a n c') (b:=b32))
      have HZ2:=Lib.hid (((put3 hb (.int .i64 (Tm.mk 5 0 [Tm.nm i,Tm.tup [th3,ci,mac3]]).op) (.int .i64 (Tm.mk 5 0 [Tm.nm i,Tm.tup [th3,ci,mac3]]).num) (.slice a n c') _ rfl).2.1 w.heap.size (by have:=D_b32.out.2;omega)).trans HZ1)
      clear HG0 HB0 HZ HZ1 hs1 hR1 hG1 hT HB1 z hn
      have r0:=cell_of_arr hb 0
      have r1:=cell_of_arr hb 1
      have r2:=cell_of_arr hb 2
      simp at r0 r1 r2
      have f0:=frozen_of_arr hb 0
      have f1:=frozen_of_arr hb 1
      have f2:=frozen_of_arr hb 2
      clear hb
      go_wp2_with fail
      go_meet
      case rel=>exact ⟨HB2.out,HZ2.out,HS.out⟩
   case rest=>
   obtain ⟨HBc,HZc,HGc⟩:=hcut
   have HG0':=Lib.hid HGc
   have HB0':=Lib.hid HBc
   have HZ':=Lib.hid HZc
   clear HBc HZc HGc HG0 HB0 HZ
   obtain ⟨HG0,HB0,HZ⟩:=And.intro HG0' (And.intro HB0' HZ')
   clear HG0' HB0' HZ'
   generalize wc=w16 at *
   generalize he_proof3:(if I=false then Tm.mk 5 0 [Tm.nm i,Tm.tup [th3,ci,mac3]] else mac3)=proof3 at *
   have E_proof3:=Lib.hid he_proof3
   clear he_proof3
   go_upto_region 37 with fail
   refine region_tm (M:=5) [.tm ci,.tm proof3,.tl [ci,proof3],.tm (Tm.tup [ci,proof3]),.cell w16.heap.size] (by kernel_rfl) (by kernel_rfl) HG0.out ?_ ?_
   ·refine ⟨fun vs W hR hG hd=>?_,fun vs W hR hG hd=>?_,fun vs W hR hG hd=>?_,fun vs W hR hG hd=>?_,fun vs W hR hG hd=>?_,trivial⟩
    ·exact does_load hG (.tmp 21) b21 ci (by simp) rfl (by kernel_rfl)
    ·exact does_load hG (.tmp 32) b32 proof3 (by simp) rfl (by kernel_rfl)
    ·exact does_row2 hG (.tmp 214) (.tmp 215) ci proof3 rfl (hd 0 (by decide)) (hd 1 (by decide))
    ·exact does_call (vals:=#[vs 2]) 48 (.func 48) #[.tmp 216] _ rfl (by kernel_rfl) (by kernel_rfl) (cf 48 _ Tryd.func48 (by kernel_rfl) (by kernel_rfl) _) (tuple_ends hG (by simp) (hd 2 (by decide)))
    ·exact does_alloc hG _ hR.size rfl
   intro vs W1 hR1 hG1 hf
   obtain ⟨z,a,n,c',ev,hT,hn⟩:=hf 3 (by decide)
   obtain ⟨b33,eb,hb,hlo⟩:=hf 4 (by decide)
   have HB1:=Lib.hid (HB0.out.trans (hR1.mono HB0.out.size))
   have hlt:=HG0.out.lt
   have hs1:=HB0.out.size
   have hz1:=lt_of_block HZ.out
   have HZ1:=Below.keep hR1 HZ.out hz1
   have D_b33:Hid ((∀ p ∈ ([(b32,proof3),(b31,prk4),(b30,th3),(b29,m2),(b28,p2),(b27,proof2),(b26,prk3),(b25,prk2),(b24,th2),(b23,m1),(b22,cr),(b21,ci)]:List (Nat × Tm)),p.1≠b33)∧w.heap.size < b33):=⟨fun p hp e=>by have:=hlt p hp;omega,by omega⟩
   simp only [Rg.putAll,Rg.putFrom,List.take_succ_cons,List.take_zero,List.drop_succ_cons,List.drop_zero,Act.put,List.setIfInBounds_toArray,List.set_cons_zero,List.set_cons_succ,ev,eb]
   clear ev eb hf
   have HS:=Lib.hid (GM.stored hG1 hb (fun p hp e=>by have:=hlt p hp;omega) z hT hn).1
   have HB2:=Lib.hid (RB.stored HB1.out (by omega) (.int .i64 (Tm.tup [ci,proof3]).op) (.int .i64 (Tm.tup [ci,proof3]).num) (.slice a n c') (b:=b33))
   have HZ2:=Lib.hid (((put3 hb (.int .i64 (Tm.tup [ci,proof3]).op) (.int .i64 (Tm.tup [ci,proof3]).num) (.slice a n c') _ rfl).2.1 w.heap.size (by omega)).trans HZ1)
   clear HG0 HB0 HZ HZ1 hz1 hlt hs1 hR1 hG1 hT HB1 z hn hlo
   have r0:=cell_of_arr hb 0
   have r1:=cell_of_arr hb 1
   have r2:=cell_of_arr hb 2
   simp at r0 r1 r2
   have f0:=frozen_of_arr hb 0
   have f1:=frozen_of_arr hb 1
   have f2:=frozen_of_arr hb 2
   clear hb
   go_upto_region 38 with fail
   clear r0 r1 r2 f0 f1 f2
   generalize (((W1.setCell ⟨b33,0,none⟩ (.int .i64 (Tm.tup [ci,proof3]).op)).setCell ⟨b33,1,none⟩ (.int .i64 (Tm.tup [ci,proof3]).num)).setCell ⟨b33,2,none⟩ (.slice a n c'))=w17 at *
   clear W1
   obtain ⟨HG0,HB0,HZ⟩:=And.intro HS (And.intro HB2 HZ2)
   clear HS HB2 HZ2
   generalize he_p3:Tm.tup [ci,proof3]=p3 at *
   have E_p3:=Lib.hid he_p3
   clear he_p3
   refine region_tm (M:=11) [.tm prk3,.tm th3,.tm (Tm.kdf prk3 3 th3),.tm prk3,.tm th3,.tm (Tm.kdf prk3 4 th3),.tm th3,.tm p3,.tl [Tm.kdf prk3 3 th3,Tm.kdf prk3 4 th3,th3,p3],.tm (Tm.mk 4 0 [Tm.kdf prk3 3 th3,Tm.kdf prk3 4 th3,th3,p3]),.cell w17.heap.size] (by kernel_rfl) (by kernel_rfl) HG0.out ?_ ?_
   ·refine ⟨fun vs W hR hG hd=>?_,fun vs W hR hG hd=>?_,fun vs W hR hG hd=>?_,fun vs W hR hG hd=>?_,fun vs W hR hG hd=>?_,fun vs W hR hG hd=>?_,fun vs W hR hG hd=>?_,fun vs W hR hG hd=>?_,fun vs W hR hG hd=>?_,fun vs W hR hG hd=>?_,fun vs W hR hG hd=>?_,trivial⟩
    ·exact does_load hG (.tmp 26) b26 prk3 (by simp) rfl (by kernel_rfl)
    ·exact does_load hG (.tmp 30) b30 th3 (by simp) rfl (by kernel_rfl)
    ·exact does_call (vals:=#[vs 0,.int .i64 3,vs 1]) 50 (.func 50) #[.tmp 218,.const (.int .i64 3),.tmp 219] _ rfl (by kernel_rfl) (by kernel_rfl) (cf 50 _ Tryd.func50 (by kernel_rfl) (by kernel_rfl) _) (kdf_ends hG (hd 0 (by decide)) (hd 1 (by decide)) 3)
    ·exact does_load hG (.tmp 26) b26 prk3 (by simp) rfl (by kernel_rfl)
    ·exact does_load hG (.tmp 30) b30 th3 (by simp) rfl (by kernel_rfl)
    ·exact does_call (vals:=#[vs 3,.int .i64 4,vs 4]) 50 (.func 50) #[.tmp 221,.const (.int .i64 4),.tmp 222] _ rfl (by kernel_rfl) (by kernel_rfl) (cf 50 _ Tryd.func50 (by kernel_rfl) (by kernel_rfl) _) (kdf_ends hG (hd 3 (by decide)) (hd 4 (by decide)) 4)
    ·exact does_load hG (.tmp 30) b30 th3 (by simp) rfl (by kernel_rfl)
    ·exact does_load hG (.tmp 33) b33 p3 (by simp) rfl (by kernel_rfl)
    ·exact does_row4 hG (.tmp 220) (.tmp 223) (.tmp 224) (.tmp 225) (Tm.kdf prk3 3 th3) (Tm.kdf prk3 4 th3) th3 p3 rfl (hd 2 (by decide)) (hd 5 (by decide)) (hd 6 (by decide)) (hd 7 (by decide))
    ·exact does_call (vals:=#[.int .i64 4,vs 8]) 47 (.func 47) #[.const (.int .i64 4),.tmp 226] _ rfl (by kernel_rfl) (by kernel_rfl) (cf 47 _ Tryd.func47 (by kernel_rfl) (by kernel_rfl) _) (node_ends hG 4 (by decide) (hd 8 (by decide)))
    ·exact does_alloc hG _ hR.size rfl
   intro vs W1 hR1 hG1 hf
   obtain ⟨z,a,n,c',ev,hT,hn⟩:=hf 9 (by decide)
   obtain ⟨b34,eb,hb,hlo⟩:=hf 10 (by decide)
   have HB1:=Lib.hid (HB0.out.trans (hR1.mono HB0.out.size))
   have hlt:=HG0.out.lt
   have hs1:=HB0.out.size
   have hz1:=lt_of_block HZ.out
   have HZ1:=Below.keep hR1 HZ.out hz1
   have D_b34:Hid ((∀ p ∈ ([(b33,p3),(b32,proof3),(b31,prk4),(b30,th3),(b29,m2),(b28,p2),(b27,proof2),(b26,prk3),(b25,prk2),(b24,th2),(b23,m1),(b22,cr),(b21,ci)]:List (Nat × Tm)),p.1≠b34)∧w.heap.size < b34):=⟨fun p hp e=>by have:=hlt p hp;omega,by omega⟩
   simp only [Rg.putAll,Rg.putFrom,List.take_succ_cons,List.take_zero,List.drop_succ_cons,List.drop_zero,Act.put,List.setIfInBounds_toArray,List.set_cons_zero,List.set_cons_succ,ev,eb]
   clear ev eb hf
   have HS:=Lib.hid (GM.stored hG1 hb (fun p hp e=>by have:=hlt p hp;omega) z hT hn).1
   have HB2:=Lib.hid (RB.stored HB1.out (by omega) (.int .i64 (Tm.mk 4 0 [Tm.kdf prk3 3 th3,Tm.kdf prk3 4 th3,th3,p3]).op) (.int .i64 (Tm.mk 4 0 [Tm.kdf prk3 3 th3,Tm.kdf prk3 4 th3,th3,p3]).num) (.slice a n c') (b:=b34))
   have HZ2:=Lib.hid (((put3 hb (.int .i64 (Tm.mk 4 0 [Tm.kdf prk3 3 th3,Tm.kdf prk3 4 th3,th3,p3]).op) (.int .i64 (Tm.mk 4 0 [Tm.kdf prk3 3 th3,Tm.kdf prk3 4 th3,th3,p3]).num) (.slice a n c') _ rfl).2.1 w.heap.size (by omega)).trans HZ1)
   clear HG0 HB0 HZ HZ1 hz1 hlt hs1 hR1 hG1 hT HB1 z hn hlo
   have r0:=cell_of_arr hb 0
   have r1:=cell_of_arr hb 1
   have r2:=cell_of_arr hb 2
   simp at r0 r1 r2
   have f0:=frozen_of_arr hb 0
   have f1:=frozen_of_arr hb 1
   have f2:=frozen_of_arr hb 2
   clear hb
   go_upto_region 39 with fail
   clear r0 r1 r2 f0 f1 f2
   generalize (((W1.setCell ⟨b34,0,none⟩ (.int .i64 (Tm.mk 4 0 [Tm.kdf prk3 3 th3,Tm.kdf prk3 4 th3,th3,p3]).op)).setCell ⟨b34,1,none⟩ (.int .i64 (Tm.mk 4 0 [Tm.kdf prk3 3 th3,Tm.kdf prk3 4 th3,th3,p3]).num)).setCell ⟨b34,2,none⟩ (.slice a n c'))=w18 at *
   clear W1
   obtain ⟨HG0,HB0,HZ⟩:=And.intro HS (And.intro HB2 HZ2)
   clear HS HB2 HZ2
   generalize he_m3:Tm.mk 4 0 [Tm.kdf prk3 3 th3,Tm.kdf prk3 4 th3,th3,p3]=m3 at *
   have E_m3:=Lib.hid he_m3
   clear he_m3
   refine region_tm (M:=8) [.tm th3,.tm p3,.tm ci,.tl [th3,p3,ci],.tm (Tm.tup [th3,p3,ci]),.tl [Tm.tup [th3,p3,ci]],.tm (Tm.mk 3 0 [Tm.tup [th3,p3,ci]]),.cell w18.heap.size] (by kernel_rfl) (by kernel_rfl) HG0.out ?_ ?_
   ·refine ⟨fun vs W hR hG hd=>?_,fun vs W hR hG hd=>?_,fun vs W hR hG hd=>?_,fun vs W hR hG hd=>?_,fun vs W hR hG hd=>?_,fun vs W hR hG hd=>?_,fun vs W hR hG hd=>?_,fun vs W hR hG hd=>?_,trivial⟩
    ·exact does_load hG (.tmp 30) b30 th3 (by simp) rfl (by kernel_rfl)
    ·exact does_load hG (.tmp 33) b33 p3 (by simp) rfl (by kernel_rfl)
    ·exact does_load hG (.tmp 21) b21 ci (by simp) rfl (by kernel_rfl)
    ·exact does_row3 hG (.tmp 228) (.tmp 229) (.tmp 230) th3 p3 ci rfl (hd 0 (by decide)) (hd 1 (by decide)) (hd 2 (by decide))
    ·exact does_call (vals:=#[vs 3]) 48 (.func 48) #[.tmp 231] _ rfl (by kernel_rfl) (by kernel_rfl) (cf 48 _ Tryd.func48 (by kernel_rfl) (by kernel_rfl) _) (tuple_ends hG (by simp) (hd 3 (by decide)))
    ·exact does_row1 hG (.tmp 232) (Tm.tup [th3,p3,ci]) rfl (hd 4 (by decide))
    ·exact does_call (vals:=#[.int .i64 3,vs 5]) 47 (.func 47) #[.const (.int .i64 3),.tmp 233] _ rfl (by kernel_rfl) (by kernel_rfl) (cf 47 _ Tryd.func47 (by kernel_rfl) (by kernel_rfl) _) (node_ends hG 3 (by decide) (hd 5 (by decide)))
    ·exact does_alloc hG _ hR.size rfl
   intro vs W1 hR1 hG1 hf
   obtain ⟨z,a,n,c',ev,hT,hn⟩:=hf 6 (by decide)
   obtain ⟨b35,eb,hb,hlo⟩:=hf 7 (by decide)
   have HB1:=Lib.hid (HB0.out.trans (hR1.mono HB0.out.size))
   have hlt:=HG0.out.lt
   have hs1:=HB0.out.size
   have hz1:=lt_of_block HZ.out
   have HZ1:=Below.keep hR1 HZ.out hz1
   have D_b35:Hid ((∀ p ∈ ([(b34,m3),(b33,p3),(b32,proof3),(b31,prk4),(b30,th3),(b29,m2),(b28,p2),(b27,proof2),(b26,prk3),(b25,prk2),(b24,th2),(b23,m1),(b22,cr),(b21,ci)]:List (Nat × Tm)),p.1≠b35)∧w.heap.size < b35):=⟨fun p hp e=>by have:=hlt p hp;omega,by omega⟩
   simp only [Rg.putAll,Rg.putFrom,List.take_succ_cons,List.take_zero,List.drop_succ_cons,List.drop_zero,Act.put,List.setIfInBounds_toArray,List.set_cons_zero,List.set_cons_succ,ev,eb]
   clear ev eb hf
   have HS:=Lib.hid (GM.stored hG1 hb (fun p hp e=>by have:=hlt p hp;omega) z hT hn).1
   have HB2:=Lib.hid (RB.stored HB1.out (by omega) (.int .i64 (Tm.mk 3 0 [Tm.tup [th3,p3,ci]]).op) (.int .i64 (Tm.mk 3 0 [Tm.tup [th3,p3,ci]]).num) (.slice a n c') (b:=b35))
   have HZ2:=Lib.hid (((put3 hb (.int .i64 (Tm.mk 3 0 [Tm.tup [th3,p3,ci]]).op) (.int .i64 (Tm.mk 3 0 [Tm.tup [th3,p3,ci]]).num) (.slice a n c') _ rfl).2.1 w.heap.size (by omega)).trans HZ1)
   clear HG0 HB0 HZ HZ1 hz1 hlt hs1 hR1 hG1 hT HB1 z hn hlo
   have r0:=cell_of_arr hb 0
   have r1:=cell_of_arr hb 1
   have r2:=cell_of_arr hb 2
   simp at r0 r1 r2
   have f0:=frozen_of_arr hb 0
   have f1:=frozen_of_arr hb 1
   have f2:=frozen_of_arr hb 2
   clear hb
   go_upto_region 40 with fail
   clear r0 r1 r2 f0 f1 f2
   generalize (((W1.setCell ⟨b35,0,none⟩ (.int .i64 (Tm.mk 3 0 [Tm.tup [th3,p3,ci]]).op)).setCell ⟨b35,1,none⟩ (.int .i64 (Tm.mk 3 0 [Tm.tup [th3,p3,ci]]).num)).setCell ⟨b35,2,none⟩ (.slice a n c'))=w19 at *
   clear W1
   obtain ⟨HG0,HB0,HZ⟩:=And.intro HS (And.intro HB2 HZ2)
   clear HS HB2 HZ2
   generalize he_th4:Tm.mk 3 0 [Tm.tup [th3,p3,ci]]=th4 at *
   have E_th4:=Lib.hid he_th4
   clear he_th4
   refine region_tm (M:=4) [.tm prk4,.tm th4,.tm (Tm.kdf prk4 7 th4),.cell w19.heap.size] (by kernel_rfl) (by kernel_rfl) HG0.out ?_ ?_
   ·refine ⟨fun vs W hR hG hd=>?_,fun vs W hR hG hd=>?_,fun vs W hR hG hd=>?_,fun vs W hR hG hd=>?_,trivial⟩
    ·exact does_load hG (.tmp 31) b31 prk4 (by simp) rfl (by kernel_rfl)
    ·exact does_load hG (.tmp 35) b35 th4 (by simp) rfl (by kernel_rfl)
    ·exact does_call (vals:=#[vs 0,.int .i64 7,vs 1]) 50 (.func 50) #[.tmp 235,.const (.int .i64 7),.tmp 236] _ rfl (by kernel_rfl) (by kernel_rfl) (cf 50 _ Tryd.func50 (by kernel_rfl) (by kernel_rfl) _) (kdf_ends hG (hd 0 (by decide)) (hd 1 (by decide)) 7)
    ·exact does_alloc hG _ hR.size rfl
   intro vs W1 hR1 hG1 hf
   obtain ⟨z,a,n,c',ev,hT,hn⟩:=hf 2 (by decide)
   obtain ⟨b36,eb,hb,hlo⟩:=hf 3 (by decide)
   have HB1:=Lib.hid (HB0.out.trans (hR1.mono HB0.out.size))
   have hlt:=HG0.out.lt
   have hs1:=HB0.out.size
   have hz1:=lt_of_block HZ.out
   have HZ1:=Below.keep hR1 HZ.out hz1
   have D_b36:Hid ((∀ p ∈ ([(b35,th4),(b34,m3),(b33,p3),(b32,proof3),(b31,prk4),(b30,th3),(b29,m2),(b28,p2),(b27,proof2),(b26,prk3),(b25,prk2),(b24,th2),(b23,m1),(b22,cr),(b21,ci)]:List (Nat × Tm)),p.1≠b36)∧w.heap.size < b36):=⟨fun p hp e=>by have:=hlt p hp;omega,by omega⟩
   simp only [Rg.putAll,Rg.putFrom,List.take_succ_cons,List.take_zero,List.drop_succ_cons,List.drop_zero,Act.put,List.setIfInBounds_toArray,List.set_cons_zero,List.set_cons_succ,ev,eb]
   clear ev eb hf
   have HS:=Lib.hid (GM.stored hG1 hb (fun p hp e=>by have:=hlt p hp;omega) z hT hn).1
   have HB2:=Lib.hid (RB.stored HB1.out (by omega) (.int .i64 (Tm.kdf prk4 7 th4).op) (.int .i64 (Tm.kdf prk4 7 th4).num) (.slice a n c') (b:=b36))
   have HZ2:=Lib.hid (((put3 hb (.int .i64 (Tm.kdf prk4 7 th4).op) (.int .i64 (Tm.kdf prk4 7 th4).num) (.slice a n c') _ rfl).2.1 w.heap.size (by omega)).trans HZ1)
   clear HG0 HB0 HZ HZ1 hz1 hlt hs1 hR1 hG1 hT HB1 z hn hlo
   have r0:=cell_of_arr hb 0
   have r1:=cell_of_arr hb 1
   have r2:=cell_of_arr hb 2
   simp at r0 r1 r2
   have f0:=frozen_of_arr hb 0
   have f1:=frozen_of_arr hb 1
   have f2:=frozen_of_arr hb 2
   clear hb
   go_upto_region 41 with fail
   clear r0 r1 r2 f0 f1 f2
   generalize (((W1.setCell ⟨b36,0,none⟩ (.int .i64 (Tm.kdf prk4 7 th4).op)).setCell ⟨b36,1,none⟩ (.int .i64 (Tm.kdf prk4 7 th4).num)).setCell ⟨b36,2,none⟩ (.slice a n c'))=w20 at *
   clear W1
   obtain ⟨HG0,HB0,HZ⟩:=And.intro HS (And.intro HB2 HZ2)
   clear HS HB2 HZ2
   generalize he_res:Tm.kdf prk4 7 th4=res at *
   have E_res:=Lib.hid he_res
   clear he_res
   refine region_tm (M:=11) [.tm prk4,.tm th4,.tm (Tm.kdf prk4 8 th4),.tm prk4,.tm th4,.tm (Tm.kdf prk4 9 th4),.tm th4,.tm (Tm.nm 0),.tl [Tm.kdf prk4 8 th4,Tm.kdf prk4 9 th4,th4,Tm.nm 0],.tm (Tm.mk 4 0 [Tm.kdf prk4 8 th4,Tm.kdf prk4 9 th4,th4,Tm.nm 0]),.cell w20.heap.size] (by kernel_rfl) (by kernel_rfl) HG0.out ?_ ?_
   ·refine ⟨fun vs W hR hG hd=>?_,fun vs W hR hG hd=>?_,fun vs W hR hG hd=>?_,fun vs W hR hG hd=>?_,fun vs W hR hG hd=>?_,fun vs W hR hG hd=>?_,fun vs W hR hG hd=>?_,fun vs W hR hG hd=>?_,fun vs W hR hG hd=>?_,fun vs W hR hG hd=>?_,fun vs W hR hG hd=>?_,trivial⟩
    ·exact does_load hG (.tmp 31) b31 prk4 (by simp) rfl (by kernel_rfl)
    ·exact does_load hG (.tmp 35) b35 th4 (by simp) rfl (by kernel_rfl)
    ·exact does_call (vals:=#[vs 0,.int .i64 8,vs 1]) 50 (.func 50) #[.tmp 238,.const (.int .i64 8),.tmp 239] _ rfl (by kernel_rfl) (by kernel_rfl) (cf 50 _ Tryd.func50 (by kernel_rfl) (by kernel_rfl) _) (kdf_ends hG (hd 0 (by decide)) (hd 1 (by decide)) 8)
    ·exact does_load hG (.tmp 31) b31 prk4 (by simp) rfl (by kernel_rfl)
    ·exact does_load hG (.tmp 35) b35 th4 (by simp) rfl (by kernel_rfl)
    ·exact does_call (vals:=#[vs 3,.int .i64 9,vs 4]) 50 (.func 50) #[.tmp 241,.const (.int .i64 9),.tmp 242] _ rfl (by kernel_rfl) (by kernel_rfl) (cf 50 _ Tryd.func50 (by kernel_rfl) (by kernel_rfl) _) (kdf_ends hG (hd 3 (by decide)) (hd 4 (by decide)) 9)
    ·exact does_load hG (.tmp 35) b35 th4 (by simp) rfl (by kernel_rfl)
    ·exact does_call (vals:=#[.int .i64 0]) 45 (.func 45) #[.const (.int .i64 0)] _ rfl (by kernel_rfl) (by kernel_rfl) (cf 45 _ Tryd.func45 (by kernel_rfl) (by kernel_rfl) _) (name_ends hG 0)
    ·exact does_row4 hG (.tmp 240) (.tmp 243) (.tmp 244) (.tmp 245) (Tm.kdf prk4 8 th4) (Tm.kdf prk4 9 th4) th4 (Tm.nm 0) rfl (hd 2 (by decide)) (hd 5 (by decide)) (hd 6 (by decide)) (hd 7 (by decide))
    ·exact does_call (vals:=#[.int .i64 4,vs 8]) 47 (.func 47) #[.const (.int .i64 4),.tmp 246] _ rfl (by kernel_rfl) (by kernel_rfl) (cf 47 _ Tryd.func47 (by kernel_rfl) (by kernel_rfl) _) (node_ends hG 4 (by decide) (hd 8 (by decide)))
    ·exact does_alloc hG _ hR.size rfl
   intro vs W1 hR1 hG1 hf
   obtain ⟨z,a,n,c',ev,hT,hn⟩:=hf 9 (by decide)
   obtain ⟨b37,eb,hb,hlo⟩:=hf 10 (by decide)
   have HB1:=Lib.hid (HB0.out.trans (hR1.mono HB0.out.size))
   have hlt:=HG0.out.lt
   have hs1:=HB0.out.size
   have hz1:=lt_of_block HZ.out
   have HZ1:=Below.keep hR1 HZ.out hz1
   have D_b37:Hid ((∀ p ∈ ([(b36,res),(b35,th4),(b34,m3),(b33,p3),(b32,proof3),(b31,prk4),(b30,th3),(b29,m2),(b28,p2),(b27,proof2),(b26,prk3),(b25,prk2),(b24,th2),(b23,m1),(b22,cr),(b21,ci)]:List (Nat × Tm)),p.1≠b37)∧w.heap.size < b37):=⟨fun p hp e=>by have:=hlt p hp;omega,by omega⟩
   simp only [Rg.putAll,Rg.putFrom,List.take_succ_cons,List.take_zero,List.drop_succ_cons,List.drop_zero,Act.put,List.setIfInBounds_toArray,List.set_cons_zero,List.set_cons_succ,ev,eb]
   clear ev eb hf
   have HS:=Lib.hid (GM.stored hG1 hb (fun p hp e=>by have:=hlt p hp;omega) z hT hn).1
   have HB2:=Lib.hid (RB.stored HB1.out (by omega) (.int .i64 (Tm.mk 4 0 [Tm.kdf prk4 8 th4,Tm.kdf prk4 9 th4,th4,Tm.nm 0]).op) (.int .i64 (Tm.mk 4 0 [Tm.kdf prk4 8 th4,Tm.kdf prk4 9 th4,th4,Tm.nm 0]).num) (.slice a n c') (b:=b37))
   have HZ2:=Lib.hid (((put3 hb (.int .i64 (Tm.mk 4 0 [Tm.kdf prk4 8 th4,Tm.kdf prk4 9 th4,th4,Tm.nm 0]).op) (.int .i64 (Tm.mk 4 0 [Tm.kdf prk4 8 th4,Tm.kdf prk4 9 th4,th4,Tm.nm 0]).num) (.slice a n c') _ rfl).2.1 w.heap.size (by omega)).trans HZ1)
   clear HG0 HB0 HZ HZ1 hz1 hlt hs1 hR1 hG1 hT HB1 z hn hlo
   have r0:=cell_of_arr hb 0
   have r1:=cell_of_arr hb 1
   have r2:=cell_of_arr hb 2
   simp at r0 r1 r2
   have f0:=frozen_of_arr hb 0
   have f1:=frozen_of_arr hb 1
   have f2:=frozen_of_arr hb 2
   clear hb
   go_upto_region 43 with fail
   clear r0 r1 r2 f0 f1 f2
   generalize (((W1.setCell ⟨b37,0,none⟩ (.int .i64 (Tm.mk 4 0 [Tm.kdf prk4 8 th4,Tm.kdf prk4 9 th4,th4,Tm.nm 0]).op)).setCell ⟨b37,1,none⟩ (.int .i64 (Tm.mk 4 0 [Tm.kdf prk4 8 th4,Tm.kdf prk4 9 th4,th4,Tm.nm 0]).num)).setCell ⟨b37,2,none⟩ (.slice a n c'))=w21 at *
   clear W1
   obtain ⟨HG0,HB0,HZ⟩:=And.intro HS (And.intro HB2 HZ2)
   clear HS HB2 HZ2
   generalize he_m4:Tm.mk 4 0 [Tm.kdf prk4 8 th4,Tm.kdf prk4 9 th4,th4,Tm.nm 0]=m4 at *
   have E_m4:=Lib.hid he_m4
   clear he_m4
   refine region_tm (M:=6) [.tm m1,.tm m2,.tm m3,.tm m4,.tm res,.tl [m1,m2,m3,m4,res]] (by kernel_rfl) (by kernel_rfl) HG0.out ?_ ?_
   ·refine ⟨fun vs W hR hG hd=>?_,fun vs W hR hG hd=>?_,fun vs W hR hG hd=>?_,fun vs W hR hG hd=>?_,fun vs W hR hG hd=>?_,fun vs W hR hG hd=>?_,trivial⟩
    ·exact does_load hG (.tmp 23) b23 m1 (by simp) rfl (by kernel_rfl)
    ·exact does_load hG (.tmp 29) b29 m2 (by simp) rfl (by kernel_rfl)
    ·exact does_load hG (.tmp 34) b34 m3 (by simp) rfl (by kernel_rfl)
    ·exact does_load hG (.tmp 37) b37 m4 (by simp) rfl (by kernel_rfl)
    ·exact does_load hG (.tmp 36) b36 res (by simp) rfl (by kernel_rfl)
    ·exact does_row5 hG (.tmp 248) (.tmp 249) (.tmp 250) (.tmp 251) (.tmp 252) m1 m2 m3 m4 res rfl (hd 0 (by decide)) (hd 1 (by decide)) (hd 2 (by decide)) (hd 3 (by decide)) (hd 4 (by decide))
   have HMS:Hid (m1=Tm.em1 m x∧m2=Tm.em2 R m x y r∧m3=Tm.em3 R I m x y i r∧m4=Tm.em4 R I m x y i r∧res=Tm.eres R I m x y i r):=by
    clear HG0 HB0 HZ D_b23 D_b24 D_b25 D_b26 D_b27 D_b28 D_b29 D_b30 D_b31 D_b32 D_b33 D_b34 D_b35 D_b36 D_b37 HR HI HM
    have q_ci:ci=Tm.eci i:=by rw [← E_ci.out];rfl
    have q_cr:cr=Tm.ecr r:=by rw [← E_cr.out];rfl
    have q_m1:m1=Tm.em1 m x:=by rw [← E_m1.out];rfl
    have q_th2:th2=Tm.eth2 m x y:=by rw [← E_th2.out,q_m1];rfl
    have q_prk2:prk2=Tm.eprk2 m x y:=by rw [← E_prk2.out,q_th2];rfl
    have q_prk3:prk3=Tm.eprk3 R m x y r:=by rw [← E_prk3.out,q_prk2,q_th2];cases R <;> rfl
    have q_mac2:mac2=Tm.emac2 R m x y r:=by rw [← E_mac2.out,q_prk3,q_th2,q_cr];rfl
    have q_proof2:proof2=Tm.eproof2 R m x y r:=by rw [← E_proof2.out,q_mac2,q_th2,q_cr];cases R <;> rfl
    have q_p2:p2=Tm.ep2 R m x y r:=by rw [← E_p2.out,q_cr,q_proof2];rfl
    have q_m2:m2=Tm.em2 R m x y r:=by rw [← E_m2.out,q_prk2,q_th2,q_p2];rfl
    have q_th3:th3=Tm.eth3 R m x y r:=by rw [← E_th3.out,q_th2,q_p2,q_cr];rfl
    have q_prk4:prk4=Tm.eprk4 R I m x y i r:=by rw [← E_prk4.out,q_prk3,q_th3];cases I <;> rfl
    have q_mac3:mac3=Tm.emac3 R I m x y i r:=by rw [← E_mac3.out,q_prk4,q_th3,q_ci];rfl
    have q_proof3:proof3=Tm.eproof3 R I m x y i r:=by rw [← E_proof3.out,q_mac3,q_th3,q_ci];cases I <;> rfl
    have q_p3:p3=Tm.ep3 R I m x y i r:=by rw [← E_p3.out,q_ci,q_proof3];rfl
    have q_m3:m3=Tm.em3 R I m x y i r:=by rw [← E_m3.out,q_prk3,q_th3,q_p3];rfl
    have q_th4:th4=Tm.eth4 R I m x y i r:=by rw [← E_th4.out,q_th3,q_p3,q_ci];rfl
    have q_res:res=Tm.eres R I m x y i r:=by rw [← E_res.out,q_prk4,q_th4];rfl
    have q_m4:m4=Tm.em4 R I m x y i r:=by rw [← E_m4.out,q_prk4,q_th4];rfl
    exact ⟨q_m1,q_m2,q_m3,q_m4,q_res⟩
   clear E_ci E_cr E_m1 E_th2 E_prk2 E_prk3 E_mac2 E_proof2 E_p2 E_m2 E_th3 E_prk4 E_mac3 E_proof3 E_p3 E_m3 E_th4 E_res E_m4 D_b23 D_b24 D_b25 D_b26 D_b27 D_b28 D_b29 D_b30 D_b31 D_b32 D_b33 D_b34 D_b35 D_b36 D_b37
   have HV:Hid (∀ t ∈ [m1,m2,m3,m4,res],Tm.valid t=true):=by
    obtain ⟨v1,v2,v3,v4,v5⟩:=em_valid' HM.out HR.out HI.out ⟨by omega,hx'⟩ ⟨by omega,hy'⟩ ⟨by omega,hi'⟩ ⟨by omega,hr'⟩
    obtain ⟨q1,q2,q3,q4,q5⟩:=HMS.out
    show ∀ t ∈ _,_
    intro t ht
    simp only [List.mem_cons,List.not_mem_nil,or_false] at ht
    rcases ht with rfl | rfl | rfl | rfl | rfl
    ·rw [q1];exact v1
    ·rw [q2];exact v2
    ·rw [q3];exact v3
    ·rw [q4];exact v4
    ·rw [q5];exact v5
   intro vs W1 hR1 hG1 hf
   obtain ⟨z,ml,mc,ev,hT,hn⟩:=hf 5 (by decide)
   have HB1:=Lib.hid (HB0.out.trans (hR1.mono HB0.out.size))
   have hz1:=lt_of_block HZ.out
   have HZ1:=Lib.hid (Below.keep hR1 HZ.out hz1)
   have ev':vs 5=.slice ml 5 mc:=ev
   have hT':TL (okW w.heap.size [(b37,m4),(b36,res),(b35,th4),(b34,m3),(b33,p3),(b32,proof3),(b31,prk4),(b30,th3),(b29,m2),(b28,p2),(b27,proof2),(b26,prk3),(b25,prk2),(b24,th2),(b23,m1),(b22,cr),(b21,ci)]) W1 [m1,m2,m3,m4,res] ml 5:=hT
   clear ev hT hn hf
   simp only [Rg.putAll,Rg.putFrom,List.take_succ_cons,List.take_zero,List.drop_succ_cons,List.drop_zero,Act.put,List.setIfInBounds_toArray,List.set_cons_zero,List.set_cons_succ,ev']
   clear ev'
   have hzz:=HZ1.out
   have hcell:=tl_zero hzz z hT'
   have HTL:=Lib.hid hcell
   clear HG0 HB0 HZ hz1 hR1 hG1 hT' z hcell
   generalize hms:[m1,m2,m3,m4,res]=ms at *
   have hml:ms.length=5:=by rw [← hms];rfl
   have HML:=Lib.hid hml
   have HMS2:Hid (ms=[Tm.em1 m x,Tm.em2 R m x y r,Tm.em3 R I m x y i r,Tm.em4 R I m x y i r,Tm.eres R I m x y i r]):=by
    obtain ⟨q1,q2,q3,q4,q5⟩:=HMS.out
    show _=_
    rw [← hms,q1,q2,q3,q4,q5]
   clear hms HMS hml hj hm0 hm3 HM HR HI
   obtain ⟨Z0,hZ0⟩:∃ z,z=W1.heap.size:=⟨_,rfl⟩
   rw [← hZ0] at HTL
   have hZl:w.heap.size < Z0:=by rw [hZ0];exact lt_of_block HZ1.out
   have hZe:Z0≤W1.heap.size:=by omega
   clear hZ0
   go_wp2_with fail
   go_loopw [255,38] (fun k v W=>XLoop w ms Z0 ml k v W) (fun k _ _=>5 - (intOf k).toNat)
   case atStart=>exact ⟨0,[],by omega,rfl,OutT.nil _ _ _ _,HTL.out.below (Below.refl _ _),HB1.out,HZ1.out,by simp [Value.ownBlock],hZe⟩
   case round=>
    obtain ⟨j,es,hj,rfl,hO,hTL,hB,hZ,hX,hZw⟩:=hrel
    by_cases hj5:j < 5
    ·have hjl:j < ms.length:=by have:=HML.out;omega
     obtain ⟨b,o,an,nn,cc,hea,hb,c0,c1,c2,ht⟩:=hTL.2.2 j hjl
     subst hea
     have PA:=pure_alloc wr (.cells #[.int .i64 ms[j].op,.int .i64 ms[j].num,.slice an nn cc] 28)
     have HNM:=Lib.hid (normT_any ms[j] an nn cc _ _ (ht.below PA) (HV.out ms[j] (List.getElem_mem hjl)))
     have HNX:Hid (∀ (w3:World) (ra:Option Addr) (rn rc:Nat),RB wr w3→TR (fun b=>wr.heap.size≤b) w3 (Tm.normal ms[j]) ra rn→rn≤rc→_):=fun w3 ra rn rc h1 h2 h3=>XLoop.next hZl HML.out hj5 hO hTL hB hZ hX hZw h1 rfl h2 h3
     have HPA:=Lib.hid PA
     obtain ⟨va,vcap,hvf⟩:=own_form hO.row
     subst hvf
     clear hO hTL hB hZ hX ht PA hb
     generalize ms[j]=k at *
     generalize (List.map Tm.normal (List.take j ms)).length=nl at *
     have hlt:(j:Int) < 5:=by omega
     go_wp2_with fail
     refine HNM.out.mono ?_
     rintro e w3 ⟨ra,rn,rc,rfl,⟨hTR,hrc⟩,hw3⟩
     obtain ⟨v',w6,hrun,hX6⟩:=HNX.out w3 ra rn rc (pure_trans HPA.out hw3) (hTR.imp fun b hb _=>by have:(wr.alloc (.cells #[.int .i64 k.op,.int .i64 k.num,.slice an nn cc] 28)).heap.size≤b:=hb;have:=HPA.out.size;omega) hrc
     have HX6:=Lib.hid hX6
     have N4:=alloc_new w3 (.cells #[.int .i64 (Tm.normal k).op,.int .i64 (Tm.normal k).num,.slice ra rn rc] 28)
     clear hX6 hTR hw3 HNX HNM HPA c0 c1 c2
     go_upto_region 49 with fail
     generalize w3.alloc (.cells #[.int .i64 (Tm.normal k).op,.int .i64 (Tm.normal k).num,.slice ra rn rc] 28)=w4 at *
     have p0:=cell_of_arr N4 0
     have p1:=cell_of_arr N4 1
     have p2:=cell_of_arr N4 2
     simp at p0 p1 p2
     clear N4
     go_wp2_with (refine wpList_app rfl _ _ 23 rfl rfl rfl hrun ?_)
     clear hrun p0 p1 p2
     go_roundw
     case rel=>exact HX6.out _ (by go_num)
     case measure=>simp [intOf];omega
    ·obtain rfl:j=5:=by omega
     have hts:(ms.take 5).map Tm.normal=[Tm.normal (Tm.em1 m x),Tm.normal (Tm.em2 R m x y r),Tm.normal (Tm.em3 R I m x y i r),Tm.normal (Tm.em4 R I m x y i r),Tm.normal (Tm.eres R I m x y i r)]:=by rw [HMS2.out];rfl
     rw [hts] at hO
     obtain ⟨g,cap,hv,⟨hg,hcap⟩,⟨cur,hcur⟩,hc⟩:=hO.get (by simp)
     have hv':u38=.slice (some ⟨g,0,none⟩) 5 cap:=hv
     obtain ⟨ta,tc,hte,htl,_⟩:=hO.tl (by omega) (by simp)
     rw [hv'] at hte
     have hcap':5≤cap:=hcap
     obtain ⟨d0,d1,d2,dT,dn⟩:=hc 4 (by rw [hO.len];simp) (by simp)
     have d0':wr.cell? ⟨g,12,none⟩=some (.int .i64 (Tm.normal (Tm.eres R I m x y i r)).op):=d0
     have d1':wr.cell? ⟨g,13,none⟩=some (.int .i64 (Tm.normal (Tm.eres R I m x y i r)).num):=d1
     have d2':wr.cell? ⟨g,14,none⟩=some (.slice (es[4]'(by rw [hO.len];simp)).an (es[4]'(by rw [hO.len];simp)).nn (es[4]'(by rw [hO.len];simp)).cc):=d2
     have dT':TR (fun k=>w.heap.size + 1≤k) wr (Tm.normal (Tm.eres R I m x y i r)) (es[4]'(by rw [hO.len];simp)).an (es[4]'(by rw [hO.len];simp)).nn:=dT.imp fun k hk _=>hk.1
     have dn':(es[4]'(by rw [hO.len];simp)).nn≤(es[4]'(by rw [hO.len];simp)).cc:=dn
     generalize (es[4]'(by rw [hO.len];simp)).an=ea at *
     generalize (es[4]'(by rw [hO.len];simp)).nn=en at *
     generalize (es[4]'(by rw [hO.len];simp)).cc=ec at *
     have htl4:=tl_first4 (hte:=hte) htl
     have hgl:=lt_of_block hcur
     subst hv'
     have HT4:=Lib.hid htl4
     have HTR:=Lib.hid dT'
     have HZ2:=Lib.hid hZ
     have HB2:=Lib.hid hB
     clear hO hc hts hv hcap hcur hte htl d0 d1 d2 dT dn htl4 dT' hZ hB hTL hX hj5 hj HMS2 HML HV hg hZw
     go_upto_region 51 with fail
     refine region_tm (B:=w.heap.size) (L:=[]) (M:=6) [.eq (.slice (some ⟨g,0,none⟩) 5 cap),.eq (.slice (some ⟨g,0,none⟩) 4 4),.eq (.slice (some ⟨g,0,none⟩) 5 cap),.eq (.pointer (some ⟨g,12,none⟩)),.eq (.agg #[.int .i64 (Tm.normal (Tm.eres R I m x y i r)).op,.int .i64 (Tm.normal (Tm.eres R I m x y i r)).num,.slice ea en ec]),.eq (.slice (some ⟨g,0,none⟩) 4 4)] (by kernel_rfl) (by kernel_rfl) (GM.nil HB2.out (Nat.le_refl _)) ?_ ?_
     ·refine ⟨fun vs W hR hG hd=>?_,fun vs W hR hG hd=>?_,fun vs W hR hG hd=>?_,fun vs W hR hG hd=>?_,fun vs W hR hG hd=>?_,fun vs W hR hG hd=>?_,trivial⟩
      ·exact Rg.Does.move (.tmp 38) rfl ⟨RB.refl _,hG,show _=_ by kernel_rfl⟩
      ·exact does_slice44 hG (.tmp 272) g cap hcap' rfl (hd 0 (by decide)) (by kernel_rfl)
      ·exact Rg.Does.move (.tmp 38) rfl ⟨RB.refl _,hG,show _=_ by kernel_rfl⟩
      ·exact does_index4 hG (.tmp 274) g cap rfl (hd 2 (by decide)) (by kernel_rfl)
      ·exact does_load12 hG (.tmp 275) g _ _ _ _ _ rfl (hd 3 (by decide)) ((hR.cell (p:=⟨g,12,none⟩) hgl).trans d0') ((hR.cell (p:=⟨g,13,none⟩) hgl).trans d1') ((hR.cell (p:=⟨g,14,none⟩) hgl).trans d2')
      ·exact Rg.Does.assign (.tmp 273) rfl ⟨RB.refl _,hG,hd 1 (by decide)⟩
     intro vs W2 hR2 hG2 hf
     have e1:vs 5=.slice (some ⟨g,0,none⟩) 4 4:=hf 5 (by decide)
     have e4:vs 4=.agg #[.int .i64 (Tm.normal (Tm.eres R I m x y i r)).op,.int .i64 (Tm.normal (Tm.eres R I m x y i r)).num,.slice ea en ec]:=hf 4 (by decide)
     have Z3:=Below.keep hR2 HZ2.out (lt_of_block HZ2.out)
     have HB3:=Lib.hid (HB2.out.trans (hR2.mono HB2.out.size))
     have HT4':=Lib.hid (HT4.out.below hR2)
     have HTR':=Lib.hid (HTR.out.below hR2)
     have HZ3:=Lib.hid Z3
     clear hR2 hG2 hf d0' d1' d2' HB2 HT4 HTR HZ2
     have r0:=cell_of_arr Z3 0
     have r1:=cell_of_arr Z3 1
     have r2:=cell_of_arr Z3 2
     simp at r0 r1 r2
     have f0:=frozen_of_arr Z3 0
     have f1:=frozen_of_arr Z3 1
     have f2:=frozen_of_arr Z3 2
     clear Z3
     simp only [Rg.putAll,Rg.putFrom,List.take_succ_cons,List.take_zero,List.drop_succ_cons,List.drop_zero,Act.put,List.setIfInBounds_toArray,List.set_cons_zero,List.set_cons_succ,e1,e4]
     clear e1 e4
     obtain ⟨S1,S2,S3⟩:=put3 HZ3.out (.int .i64 (Tm.normal (Tm.eres R I m x y i r)).op) (.int .i64 (Tm.normal (Tm.eres R I m x y i r)).num) (.slice ea en ec) _ rfl
     have HE:Hid (ExPost R I m x y i r w (.returned (.tuple #[.slice (some ⟨g,0,none⟩) 4 4,.agg #[.int .i64 (Tm.normal (Tm.eres R I m x y i r)).op,.int .i64 (Tm.normal (Tm.eres R I m x y i r)).num,.slice ea en ec],.int .i64 0])) (((W2.setCell ⟨w.heap.size,0,none⟩ (.int .i64 (Tm.normal (Tm.eres R I m x y i r)).op)).setCell ⟨w.heap.size,1,none⟩ (.int .i64 (Tm.normal (Tm.eres R I m x y i r)).num)).setCell ⟨w.heap.size,2,none⟩ (.slice ea en ec))):=
      ⟨_,4,ea,en,ec,rfl,Nat.le_refl _,HT4'.out.keep fun k hk _=>⟨S2 k (by have:w.heap.size + 1≤k:=hk;omega),by have:w.heap.size + 1≤k:=hk;omega⟩,HTR'.out.keep fun k hk _=>⟨S2 k (by have:w.heap.size + 1≤k:=hk;omega),by have:w.heap.size + 1≤k:=hk;omega⟩,dn',RB.stored HB3.out (Nat.le_refl _) _ _ _⟩
     have p0:=cell_of_arr S1 0
     have p1:=cell_of_arr S1 1
     have p2:=cell_of_arr S1 2
     simp at p0 p1 p2
     clear S1 S2 S3
     go_wp2_with fail
     exact bodyPost_ret (v:=.tuple #[.slice (some ⟨g,0,none⟩) 4 4,.agg #[.int .i64 (Tm.normal (Tm.eres R I m x y i r)).op,.int .i64 (Tm.normal (Tm.eres R I m x y i r)).num,.slice ea en ec],.int .i64 0]) (by simp [results,Tryd.results30,go_sem,p0,p1,p2]) rfl HE.out
end Go.Proofs.YtkgbjoepjcenlaaDoor
