/- Joined texts. -/
import Derived.Test.YtkgbjoepjcenlaaDoorKAM
import Derived.Test.YtkgbjoepjcenlaaDoorKAN
import Derived.Test.YtkgbjoepjcenlaaDoorKAO
import Derived.Test.YtkgbjoepjcenlaaDoorKAR
set_option linter.unusedVariables false
set_option linter.unusedSimpArgs false
namespace Go.Proofs.YtkgbjoepjcenlaaDoor
open Go.RowKit
def RxPost (R I:Bool) (m x y i r:Int) (w:World) (e:Ending) (w':World):Prop:=∃ a c a' n' c',e=.returned (.tuple #[.slice a 4 c,.agg #[.int .i64 (Tm.normal (Tm.eres R I m x y i r)).op,.int .i64 (Tm.normal (Tm.eres R I m x y i r)).num,.slice a' n' c'],.int .i64 0])∧4≤c∧
 TL (fun k=>w.heap.size≤k) w' [Tm.normal (Tm.em1 m x),Tm.normal (Tm.em2 R m x y r),Tm.normal (Tm.em3 R I m x y i r),Tm.normal (Tm.em4 R I m x y i r)] a 4∧TR (fun k=>w.heap.size≤k∧(Value.slice a 4 c).ownBlock≠some k) w' (Tm.normal (Tm.eres R I m x y i r)) a' n'∧n'≤c'∧Below w.heap.size w w'∧
 ∃ es base,OutT w' base (w.heap.size + 1) w.heap.size (.slice a 4 c) es [Tm.normal (Tm.em1 m x),Tm.normal (Tm.em2 R m x y r),Tm.normal (Tm.em3 R I m x y i r),Tm.normal (Tm.em4 R I m x y i r)]∧w.heap.size + 1≤base
set_option maxHeartbeats 4000000 in
set_option maxRecDepth 100000 in
theorem rexch_row (m x y i r:Int) (hm:m=0∨m=1∨m=2∨m=3) (hx:100≤x) (hx':x≤1000) (hy:100≤y) (hy':y≤1000) (hi:100≤i) (hi':i≤1000) (hr:100≤r) (hr':r≤1000)
 (eyx:(y==x)=false) (eix:(i==x)=false) (eiy:(i==y)=false) (erx:(r==x)=false) (ery:(r==y)=false) (eri:(r==i)=false) (w:World) (R I:Bool) (hR:R=(m==1 || m==3)) (hI:I=(m==2 || m==3)):
 Calls Tryd.prog 31 #[.int .i64 m,.int .i64 x,.int .i64 y,.int .i64 i,.int .i64 r] w fun e w'=>RxPost R I m x y i r w e w':=by
 have hm0:0≤m:=by omega
 have hm3:m≤3:=by omega
 have N1:((w.alloc (.cells #[.int .i64 0,.int .i64 0,.slice none 0 0] 28)).alloc (.cells #[.int .i64 x,.int .i64 y,.int .i64 i,.int .i64 r] 3)).heap[w.heap.size + 1]?=some (.cells #[.int .i64 x,.int .i64 y,.int .i64 i,.int .i64 r] 3 (0,0)):=alloc_new' _ _ _ (by simp)
 have HB0:Hid (Below w.heap.size w ((w.alloc (.cells #[.int .i64 0,.int .i64 0,.slice none 0 0] 28)).alloc (.cells #[.int .i64 x,.int .i64 y,.int .i64 i,.int .i64 r] 3))):=(pure_alloc _ _).alloc (by simp) _
 have N0:((w.alloc (.cells #[.int .i64 0,.int .i64 0,.slice none 0 0] 28)).alloc (.cells #[.int .i64 x,.int .i64 y,.int .i64 i,.int .i64 r] 3)).heap[w.heap.size]?=some (.cells #[.int .i64 0,.int .i64 0,.slice none 0 0] 28 (0,0)):=alloc_keep (alloc_new _ _)
 have HN0:=Lib.hid N0
 clear N0
 have HR:=Lib.hid hR
 have HI:=Lib.hid hI
 have HM:=Lib.hid hm
 clear hR hI hm
 go_enter Tryd.func31,Tryd.ntmps31
 go_wp2_with fail
 generalize ((w.alloc (.cells #[.int .i64 0,.int .i64 0,.slice none 0 0] 28)).alloc (.cells #[.int .i64 x,.int .i64 y,.int .i64 i,.int .i64 r] 3))=w1 at *
 have c0:=cell_of_arr N1 0
 have c1:=cell_of_arr N1 1
 have c2:=cell_of_arr N1 2
 have c3:=cell_of_arr N1 3
 simp at c0 c1 c2 c3
 have HN1:=Lib.hid N1
 clear N1
 go_loopw [57] (fun v W=>∃ j q:Nat,j≤4∧v=.int .i64 j∧W=w1.drewN q) (fun v _=>4 - (intOf v).toNat)
 case atStart=>exact ⟨0,0,by omega,rfl,rfl⟩
 case round=>
  obtain ⟨j,q0,hj,rfl,rfl⟩:=hrel
  rcases (show j=0∨j=1∨j=2∨j=3∨j=4 by omega) with rfl | rfl | rfl | rfl | rfl
  ·go_wp2_with fail
   go_loopw [15] (fun v W=>∃ q p:Nat,q≤0∧v=.int .i64 q∧W=w1.drewN p) (fun v _=>4 - (intOf v).toNat)
   case atStart=>exact ⟨0,q0,by omega,rfl,rfl⟩
   case round=>
    obtain ⟨q,p0,hq,rfl,rfl⟩:=hrel
    rcases (show q=0 by omega) with rfl
    ·go_wp2_with fail
     go_roundw
     case rel=>exact ⟨1,_,by omega,by go_num,rfl⟩
     case measure=>simp [intOf]
  ·go_wp2_with fail
   go_loopw [15] (fun v W=>∃ q p:Nat,q≤1∧v=.int .i64 q∧W=w1.drewN p) (fun v _=>4 - (intOf v).toNat)
   case atStart=>exact ⟨0,q0,by omega,rfl,rfl⟩
   case round=>
    obtain ⟨q,p0,hq,rfl,rfl⟩:=hrel
    rcases (show q=0∨q=1 by omega) with rfl | rfl
    ·go_upto_region 12 with fail
     go_quiet (fail)
     go_wp2_with fail
     go_roundw
     case rel=>exact ⟨1,_,by omega,by go_num,rfl⟩
     case measure=>simp [intOf]
    ·go_wp2_with fail
     go_roundw
     case rel=>exact ⟨2,_,by omega,by go_num,rfl⟩
     case measure=>simp [intOf]
  ·go_wp2_with fail
   go_loopw [15] (fun v W=>∃ q p:Nat,q≤2∧v=.int .i64 q∧W=w1.drewN p) (fun v _=>4 - (intOf v).toNat)
   case atStart=>exact ⟨0,q0,by omega,rfl,rfl⟩
   case round=>
    obtain ⟨q,p0,hq,rfl,rfl⟩:=hrel
    rcases (show q=0∨q=1∨q=2 by omega) with rfl | rfl | rfl
    ·go_upto_region 12 with fail
     go_quiet (fail)
     go_wp2_with fail
     go_roundw
     case rel=>exact ⟨1,_,by omega,by go_num,rfl⟩
     case measure=>simp [intOf]
    ·go_upto_region 12 with fail
     go_quiet (fail)
     go_wp2_with fail
     go_roundw
     case rel=>exact ⟨2,_,by omega,by go_num,rfl⟩
     case measure=>simp [intOf]
    ·go_wp2_with fail
     go_roundw
     case rel=>exact ⟨3,_,by omega,by go_num,rfl⟩
     case measure=>simp [intOf]
  ·go_wp2_with fail
   go_loopw [15] (fun v W=>∃ q p:Nat,q≤3∧v=.int .i64 q∧W=w1.drewN p) (fun v _=>4 - (intOf v).toNat)
   case atStart=>exact ⟨0,q0,by omega,rfl,rfl⟩
   case round=>
    obtain ⟨q,p0,hq,rfl,rfl⟩:=hrel
    rcases (show q=0∨q=1∨q=2∨q=3 by omega) with rfl | rfl | rfl | rfl
    ·go_upto_region 12 with fail
     go_quiet (fail)
     go_wp2_with fail
     go_roundw
     case rel=>exact ⟨1,_,by omega,by go_num,rfl⟩
     case measure=>simp [intOf]
    ·go_upto_region 12 with fail
     go_quiet (fail)
     go_wp2_with fail
     go_roundw
     case rel=>exact ⟨2,_,by omega,by go_num,rfl⟩
     case measure=>simp [intOf]
    ·go_upto_region 12 with fail
     go_quiet (fail)
     go_wp2_with fail
     go_roundw
     case rel=>exact ⟨3,_,by omega,by go_num,rfl⟩
     case measure=>simp [intOf]
    ·go_wp2_with fail
     go_roundw
     case rel=>exact ⟨4,_,by omega,by go_num,rfl⟩
     case measure=>simp [intOf]
  ·go_upto_region 15 with fail
   go_cut [16,17] from 89 to 93 (fun s t W=>s=.bool R∧t=.bool I∧W=w1.drewN q0)
   case first=>
    rcases HM.out with rfl | rfl | rfl | rfl
    all_goals
     go_wp2_with fail
     go_meet
     case rel=>exact ⟨by rw [HR.out];rfl,by rw [HI.out];rfl,rfl⟩
   case rest=>
   obtain ⟨rfl,rfl,rfl⟩:=hcut
   have HB0':Hid (Below w.heap.size w (w1.drewN q0)):=below_drewN HB0.out q0
   have HN0':Hid ((w1.drewN q0).heap[w.heap.size]?=some (.cells #[.int .i64 0,.int .i64 0,.slice none 0 0] 28 (0,0))):=HN0.out
   clear HB0 HN0 HN1 c0 c1 c2 c3
   obtain ⟨HB0,HN0⟩:=And.intro HB0' HN0'
   clear HB0' HN0'
   generalize w1.drewN q0=wz at *
   go_upto_region 16 with fail
   have HG0:=Lib.hid (GM.nil HB0.out (Nat.le_refl _))
   refine region_tm (M:=12) [.tm (Tm.nm 40),.eq (.int .i64 i),.tm (Tm.nm i),.tm (Tm.pub (Tm.nm i)),.tl [Tm.nm 40,Tm.pub (Tm.nm i)],.tm (Tm.tup [Tm.nm 40,Tm.pub (Tm.nm i)]),.tm (Tm.nm 41),.eq (.int .i64 r),.tm (Tm.nm r),.tm (Tm.pub (Tm.nm r)),.tl [Tm.nm 41,Tm.pub (Tm.nm r)],.tm (Tm.tup [Tm.nm 41,Tm.pub (Tm.nm r)])] (by kernel_rfl) (by kernel_rfl) HG0.out ?_ ?_
   ·refine ⟨fun vs W hR hG hd=>?_,fun vs W hR hG hd=>?_,fun vs W hR hG hd=>?_,fun vs W hR hG hd=>?_,fun vs W hR hG hd=>?_,fun vs W hR hG hd=>?_,fun vs W hR hG hd=>?_,fun vs W hR hG hd=>?_,fun vs W hR hG hd=>?_,fun vs W hR hG hd=>?_,fun vs W hR hG hd=>?_,fun vs W hR hG hd=>?_,trivial⟩
    ·exact does_call (vals:=#[.int .i64 40]) 52 (.func 52) #[.const (.int .i64 40)] _ rfl (by kernel_rfl) (by kernel_rfl) (cf 52 _ Tryd.func52 (by kernel_rfl) (by kernel_rfl) _) (rname_ends hG 40)
    ·exact Rg.Does.move (.tmp 3) rfl ⟨RB.refl _,hG,show _=_ by kernel_rfl⟩
    ·have e1:vs 1=.int .i64 i:=hd 1 (by decide);exact does_call (vals:=#[vs 1]) 52 (.func 52) #[.tmp 95] _ rfl (by kernel_rfl) (by kernel_rfl) (cf 52 _ Tryd.func52 (by kernel_rfl) (by kernel_rfl) _) (by rw [e1];exact rname_ends hG i)
    ·exact does_call (vals:=#[vs 2]) 53 (.func 53) #[.tmp 96] _ rfl (by kernel_rfl) (by kernel_rfl) (cf 53 _ Tryd.func53 (by kernel_rfl) (by kernel_rfl) _) (rpub_ends hG (hd 2 (by decide)))
    ·exact does_row2 hG (.tmp 94) (.tmp 97) (Tm.nm 40) (Tm.pub (Tm.nm i)) rfl (hd 0 (by decide)) (hd 3 (by decide))
    ·exact does_call (vals:=#[vs 4]) 51 (.func 51) #[.tmp 98] _ rfl (by kernel_rfl) (by kernel_rfl) (cf 51 _ Tryd.func51 (by kernel_rfl) (by kernel_rfl) _) (rtuple_ends hG (by simp) (hd 4 (by decide)))
    ·exact does_call (vals:=#[.int .i64 41]) 52 (.func 52) #[.const (.int .i64 41)] _ rfl (by kernel_rfl) (by kernel_rfl) (cf 52 _ Tryd.func52 (by kernel_rfl) (by kernel_rfl) _) (rname_ends hG 41)
    ·exact Rg.Does.move (.tmp 4) rfl ⟨RB.refl _,hG,show _=_ by kernel_rfl⟩
    ·have e7:vs 7=.int .i64 r:=hd 7 (by decide);exact does_call (vals:=#[vs 7]) 52 (.func 52) #[.tmp 101] _ rfl (by kernel_rfl) (by kernel_rfl) (cf 52 _ Tryd.func52 (by kernel_rfl) (by kernel_rfl) _) (by rw [e7];exact rname_ends hG r)
    ·exact does_call (vals:=#[vs 8]) 53 (.func 53) #[.tmp 102] _ rfl (by kernel_rfl) (by kernel_rfl) (cf 53 _ Tryd.func53 (by kernel_rfl) (by kernel_rfl) _) (rpub_ends hG (hd 8 (by decide)))
    ·exact does_row2 hG (.tmp 100) (.tmp 103) (Tm.nm 41) (Tm.pub (Tm.nm r)) rfl (hd 6 (by decide)) (hd 9 (by decide))
    ·exact does_call (vals:=#[vs 10]) 51 (.func 51) #[.tmp 104] _ rfl (by kernel_rfl) (by kernel_rfl) (cf 51 _ Tryd.func51 (by kernel_rfl) (by kernel_rfl) _) (rtuple_ends hG (by simp) (hd 10 (by decide)))
   intro vs W1 hR1 hG1 hf
   obtain ⟨z1,a1,n1,c1',ev1,hT1,hn1⟩:=hf 5 (by decide)
   obtain ⟨z2,a2,n2,c2',ev2,hT2,hn2⟩:=hf 11 (by decide)
   have HB1:=Lib.hid (HB0.out.trans (hR1.mono HB0.out.size))
   have HZ1:=Lib.hid (alloc_keep (o':=(.cells #[.int .i64 (Tm.tup [Tm.nm 41,Tm.pub (Tm.nm r)]).op,.int .i64 (Tm.tup [Tm.nm 41,Tm.pub (Tm.nm r)]).num,.slice a2 n2 c2'] 28)) (alloc_keep (o':=(.cells #[.int .i64 (Tm.tup [Tm.nm 40,Tm.pub (Tm.nm i)]).op,.int .i64 (Tm.tup [Tm.nm 40,Tm.pub (Tm.nm i)]).num,.slice a1 n1 c1'] 28)) (Below.keep hR1 HN0.out (lt_of_block HN0.out))))
   simp only [Rg.putAll,Rg.putFrom,List.take_succ_cons,List.take_zero,List.drop_succ_cons,List.drop_zero,Act.put,List.setIfInBounds_toArray,List.set_cons_zero,List.set_cons_succ,ev1,ev2]
   clear ev1 ev2 hf
   have G1:=hG1.boxed z1 hT1 hn1
   have C2:(Fa.tm (Tm.tup [Tm.nm 41,Tm.pub (Tm.nm r)])).holds w.heap.size ((W1.heap.size,(Tm.tup [Tm.nm 40,Tm.pub (Tm.nm i)])) :: []) (.agg #[.int .i64 (Tm.tup [Tm.nm 41,Tm.pub (Tm.nm r)]).op,.int .i64 (Tm.tup [Tm.nm 41,Tm.pub (Tm.nm r)]).num,.slice a2 n2 c2']) (W1.alloc (.cells #[.int .i64 (Tm.tup [Tm.nm 40,Tm.pub (Tm.nm i)]).op,.int .i64 (Tm.tup [Tm.nm 40,Tm.pub (Tm.nm i)]).num,.slice a1 n1 c1'] 28)):=Fa.boxed ⟨z2,a2,n2,c2',rfl,hT2,hn2⟩ _
   have G2:GM w.heap.size ((W1.heap.size + 1,(Tm.tup [Tm.nm 41,Tm.pub (Tm.nm r)])) :: (W1.heap.size,(Tm.tup [Tm.nm 40,Tm.pub (Tm.nm i)])) :: []) ((W1.alloc (.cells #[.int .i64 (Tm.tup [Tm.nm 40,Tm.pub (Tm.nm i)]).op,.int .i64 (Tm.tup [Tm.nm 40,Tm.pub (Tm.nm i)]).num,.slice a1 n1 c1'] 28)).alloc (.cells #[.int .i64 (Tm.tup [Tm.nm 41,Tm.pub (Tm.nm r)]).op,.int .i64 (Tm.tup [Tm.nm 41,Tm.pub (Tm.nm r)]).num,.slice a2 n2 c2'] 28)):=by
    obtain ⟨z,a,n,cc',e,hT,hn⟩:=C2
    cases e
    have:=G1.boxed z hT hn
    simpa using this
   have HB2:Hid (Below w.heap.size w ((W1.alloc (.cells #[.int .i64 (Tm.tup [Tm.nm 40,Tm.pub (Tm.nm i)]).op,.int .i64 (Tm.tup [Tm.nm 40,Tm.pub (Tm.nm i)]).num,.slice a1 n1 c1'] 28)).alloc (.cells #[.int .i64 (Tm.tup [Tm.nm 41,Tm.pub (Tm.nm r)]).op,.int .i64 (Tm.tup [Tm.nm 41,Tm.pub (Tm.nm r)]).num,.slice a2 n2 c2'] 28))):=(HB1.out.alloc HB1.out.size _).alloc (by have:=HB1.out.size;simp;omega) _
   have HS:=Lib.hid G2
   clear HG0 HB0 hR1 hG1 hT1 hT2 HB1 z1 z2 hn1 hn2 G1 C2 G2
   go_upto_region 17 with fail
   generalize ((W1.alloc (.cells #[.int .i64 (Tm.tup [Tm.nm 40,Tm.pub (Tm.nm i)]).op,.int .i64 (Tm.tup [Tm.nm 40,Tm.pub (Tm.nm i)]).num,.slice a1 n1 c1'] 28)).alloc (.cells #[.int .i64 (Tm.tup [Tm.nm 41,Tm.pub (Tm.nm r)]).op,.int .i64 (Tm.tup [Tm.nm 41,Tm.pub (Tm.nm r)]).num,.slice a2 n2 c2'] 28))=w2 at *
   obtain ⟨b21,hb21⟩:∃ b,b=W1.heap.size:=⟨_,rfl⟩
   obtain ⟨b22,hb22⟩:∃ b,b=W1.heap.size + 1:=⟨_,rfl⟩
   rw [← hb22,← hb21] at HS ⊢
   clear hb21 hb22
   obtain ⟨HG0,HB0,HZ⟩:=And.intro HS (And.intro HB2 HZ1)
   clear HS HB2 HZ1 HN0
   generalize he_cr:(Tm.tup [Tm.nm 41,Tm.pub (Tm.nm r)])=cr at *
   generalize he_ci:(Tm.tup [Tm.nm 40,Tm.pub (Tm.nm i)])=ci at *
   have E_cr:=Lib.hid he_cr
   have E_ci:=Lib.hid he_ci
   clear he_cr he_ci
   refine region_tm (M:=11) [.eq (.int .i64 m),.eq (.int .i64 (10 + m)),.tm (Tm.nm (10 + m)),.tm (Tm.nm 20),.eq (.int .i64 x),.tm (Tm.nm x),.tm (Tm.pub (Tm.nm x)),.tm (Tm.nm 30),.tl [Tm.nm (10 + m),Tm.nm 20,Tm.pub (Tm.nm x),Tm.nm 30],.tm (Tm.tup [Tm.nm (10 + m),Tm.nm 20,Tm.pub (Tm.nm x),Tm.nm 30]),.cell w2.heap.size] (by kernel_rfl) (by kernel_rfl) HG0.out ?_ ?_
   ·refine ⟨fun vs W hR hG hd=>?_,fun vs W hR hG hd=>?_,fun vs W hR hG hd=>?_,fun vs W hR hG hd=>?_,fun vs W hR hG hd=>?_,fun vs W hR hG hd=>?_,fun vs W hR hG hd=>?_,fun vs W hR hG hd=>?_,fun vs W hR hG hd=>?_,fun vs W hR hG hd=>?_,fun vs W hR hG hd=>?_,trivial⟩
    ·exact Rg.Does.move (.tmp 0) rfl ⟨RB.refl _,hG,show _=_ by kernel_rfl⟩
    ·exact does_add hG (.const (.int .i64 10)) (.tmp 106) 10 m rfl (by kernel_rfl) (Eq.trans (show _=vs 0 by kernel_rfl) (hd 0 (by decide))) (by omega) (by omega)
    ·have e1:vs 1=.int .i64 (10 + m):=hd 1 (by decide);exact does_call (vals:=#[vs 1]) 52 (.func 52) #[.tmp 107] _ rfl (by kernel_rfl) (by kernel_rfl) (cf 52 _ Tryd.func52 (by kernel_rfl) (by kernel_rfl) _) (by rw [e1];exact rname_ends hG (10 + m))
    ·exact does_call (vals:=#[.int .i64 20]) 52 (.func 52) #[.const (.int .i64 20)] _ rfl (by kernel_rfl) (by kernel_rfl) (cf 52 _ Tryd.func52 (by kernel_rfl) (by kernel_rfl) _) (rname_ends hG 20)
    ·exact Rg.Does.move (.tmp 1) rfl ⟨RB.refl _,hG,show _=_ by kernel_rfl⟩
    ·have e4:vs 4=.int .i64 x:=hd 4 (by decide);exact does_call (vals:=#[vs 4]) 52 (.func 52) #[.tmp 110] _ rfl (by kernel_rfl) (by kernel_rfl) (cf 52 _ Tryd.func52 (by kernel_rfl) (by kernel_rfl) _) (by rw [e4];exact rname_ends hG x)
    ·exact does_call (vals:=#[vs 5]) 53 (.func 53) #[.tmp 111] _ rfl (by kernel_rfl) (by kernel_rfl) (cf 53 _ Tryd.func53 (by kernel_rfl) (by kernel_rfl) _) (rpub_ends hG (hd 5 (by decide)))
    ·exact does_call (vals:=#[.int .i64 30]) 52 (.func 52) #[.const (.int .i64 30)] _ rfl (by kernel_rfl) (by kernel_rfl) (cf 52 _ Tryd.func52 (by kernel_rfl) (by kernel_rfl) _) (rname_ends hG 30)
    ·exact does_row4 hG (.tmp 108) (.tmp 109) (.tmp 112) (.tmp 113) (Tm.nm (10 + m)) (Tm.nm 20) (Tm.pub (Tm.nm x)) (Tm.nm 30) rfl (hd 2 (by decide)) (hd 3 (by decide)) (hd 6 (by decide)) (hd 7 (by decide))
    ·exact does_call (vals:=#[vs 8]) 51 (.func 51) #[.tmp 114] _ rfl (by kernel_rfl) (by kernel_rfl) (cf 51 _ Tryd.func51 (by kernel_rfl) (by kernel_rfl) _) (rtuple_ends hG (by simp) (hd 8 (by decide)))
    ·exact does_alloc hG _ hR.size rfl
   intro vs W1 hR1 hG1 hf
   obtain ⟨z,a,n,c',ev,hT,hn⟩:=hf 9 (by decide)
   obtain ⟨b23,eb,hb,hlo⟩:=hf 10 (by decide)
   have HB1:=Lib.hid (HB0.out.trans (hR1.mono HB0.out.size))
   have hlt:=HG0.out.lt
   have hs1:=HB0.out.size
   have hz1:=lt_of_block HZ.out
   have HZ1:=Below.keep hR1 HZ.out hz1
   have D_b23:Hid ((∀ p ∈ ([(b22,cr),(b21,ci)]:List (Nat × Tm)),p.1≠b23)∧w.heap.size < b23):=⟨fun p hp e=>by have:=hlt p hp;omega,by omega⟩
   simp only [Rg.putAll,Rg.putFrom,List.take_succ_cons,List.take_zero,List.drop_succ_cons,List.drop_zero,Act.put,List.setIfInBounds_toArray,List.set_cons_zero,List.set_cons_succ,ev,eb]
   clear ev eb hf
   have HS:=Lib.hid (GM.stored hG1 hb (fun p hp e=>by have:=hlt p hp;omega) z hT hn).1
   have HB2:=Lib.hid (RB.stored HB1.out (by omega) (.int .i64 (Tm.tup [Tm.nm (10 + m),Tm.nm 20,Tm.pub (Tm.nm x),Tm.nm 30]).op) (.int .i64 (Tm.tup [Tm.nm (10 + m),Tm.nm 20,Tm.pub (Tm.nm x),Tm.nm 30]).num) (.slice a n c') (b:=b23))
   have HZ2:=Lib.hid (((put3 hb (.int .i64 (Tm.tup [Tm.nm (10 + m),Tm.nm 20,Tm.pub (Tm.nm x),Tm.nm 30]).op) (.int .i64 (Tm.tup [Tm.nm (10 + m),Tm.nm 20,Tm.pub (Tm.nm x),Tm.nm 30]).num) (.slice a n c') _ rfl).2.1 w.heap.size (by omega)).trans HZ1)
   clear HG0 HB0 HZ HZ1 hz1 hlt hs1 hR1 hG1 hT HB1 z hn hlo
   have r0:=cell_of_arr hb 0
   have r1:=cell_of_arr hb 1
   have r2:=cell_of_arr hb 2
   simp at r0 r1 r2
   have f0:=frozen_of_arr hb 0
   have f1:=frozen_of_arr hb 1
   have f2:=frozen_of_arr hb 2
   clear hb
   go_upto_region 18 with fail
   clear r0 r1 r2 f0 f1 f2
   generalize (((W1.setCell ⟨b23,0,none⟩ (.int .i64 (Tm.tup [Tm.nm (10 + m),Tm.nm 20,Tm.pub (Tm.nm x),Tm.nm 30]).op)).setCell ⟨b23,1,none⟩ (.int .i64 (Tm.tup [Tm.nm (10 + m),Tm.nm 20,Tm.pub (Tm.nm x),Tm.nm 30]).num)).setCell ⟨b23,2,none⟩ (.slice a n c'))=w3 at *
   clear W1
   obtain ⟨HG0,HB0,HZ⟩:=And.intro HS (And.intro HB2 HZ2)
   clear HS HB2 HZ2
   generalize he_m1:Tm.tup [Tm.nm (10 + m),Tm.nm 20,Tm.pub (Tm.nm x),Tm.nm 30]=m1 at *
   have E_m1:=Lib.hid he_m1
   clear he_m1
   refine region_tm (M:=11) [.eq (.int .i64 y),.tm (Tm.nm y),.tm (Tm.pub (Tm.nm y)),.tm m1,.tl [m1],.tm (Tm.mk 3 0 [m1]),.tl [Tm.pub (Tm.nm y),Tm.mk 3 0 [m1]],.tm (Tm.tup [Tm.pub (Tm.nm y),Tm.mk 3 0 [m1]]),.tl [Tm.tup [Tm.pub (Tm.nm y),Tm.mk 3 0 [m1]]],.tm (Tm.mk 3 0 [Tm.tup [Tm.pub (Tm.nm y),Tm.mk 3 0 [m1]]]),.cell w3.heap.size] (by kernel_rfl) (by kernel_rfl) HG0.out ?_ ?_
   ·refine ⟨fun vs W hR hG hd=>?_,fun vs W hR hG hd=>?_,fun vs W hR hG hd=>?_,fun vs W hR hG hd=>?_,fun vs W hR hG hd=>?_,fun vs W hR hG hd=>?_,fun vs W hR hG hd=>?_,fun vs W hR hG hd=>?_,fun vs W hR hG hd=>?_,fun vs W hR hG hd=>?_,fun vs W hR hG hd=>?_,trivial⟩
    ·exact Rg.Does.move (.tmp 2) rfl ⟨RB.refl _,hG,show _=_ by kernel_rfl⟩
    ·have e0:vs 0=.int .i64 y:=hd 0 (by decide);exact does_call (vals:=#[vs 0]) 52 (.func 52) #[.tmp 116] _ rfl (by kernel_rfl) (by kernel_rfl) (cf 52 _ Tryd.func52 (by kernel_rfl) (by kernel_rfl) _) (by rw [e0];exact rname_ends hG y)
    ·exact does_call (vals:=#[vs 1]) 53 (.func 53) #[.tmp 117] _ rfl (by kernel_rfl) (by kernel_rfl) (cf 53 _ Tryd.func53 (by kernel_rfl) (by kernel_rfl) _) (rpub_ends hG (hd 1 (by decide)))
    ·exact does_load hG (.tmp 20) b23 m1 (by simp) rfl (by kernel_rfl)
    ·exact does_row1 hG (.tmp 119) m1 rfl (hd 3 (by decide))
    ·exact does_call (vals:=#[.int .i64 3,vs 4]) 54 (.func 54) #[.const (.int .i64 3),.tmp 120] _ rfl (by kernel_rfl) (by kernel_rfl) (cf 54 _ Tryd.func54 (by kernel_rfl) (by kernel_rfl) _) (rnode_ends hG 3 (by decide) (hd 4 (by decide)))
    ·exact does_row2 hG (.tmp 118) (.tmp 121) (Tm.pub (Tm.nm y)) (Tm.mk 3 0 [m1]) rfl (hd 2 (by decide)) (hd 5 (by decide))
    ·exact does_call (vals:=#[vs 6]) 51 (.func 51) #[.tmp 122] _ rfl (by kernel_rfl) (by kernel_rfl) (cf 51 _ Tryd.func51 (by kernel_rfl) (by kernel_rfl) _) (rtuple_ends hG (by simp) (hd 6 (by decide)))
    ·exact does_row1 hG (.tmp 123) (Tm.tup [Tm.pub (Tm.nm y),Tm.mk 3 0 [m1]]) rfl (hd 7 (by decide))
    ·exact does_call (vals:=#[.int .i64 3,vs 8]) 54 (.func 54) #[.const (.int .i64 3),.tmp 124] _ rfl (by kernel_rfl) (by kernel_rfl) (cf 54 _ Tryd.func54 (by kernel_rfl) (by kernel_rfl) _) (rnode_ends hG 3 (by decide) (hd 8 (by decide)))
    ·exact does_alloc hG _ hR.size rfl
   intro vs W1 hR1 hG1 hf
   obtain ⟨z,a,n,c',ev,hT,hn⟩:=hf 9 (by decide)
   obtain ⟨b24,eb,hb,hlo⟩:=hf 10 (by decide)
   have HB1:=Lib.hid (HB0.out.trans (hR1.mono HB0.out.size))
   have hlt:=HG0.out.lt
   have hs1:=HB0.out.size
   have hz1:=lt_of_block HZ.out
   have HZ1:=Below.keep hR1 HZ.out hz1
   have D_b24:Hid ((∀ p ∈ ([(b23,m1),(b22,cr),(b21,ci)]:List (Nat × Tm)),p.1≠b24)∧w.heap.size < b24):=⟨fun p hp e=>by have:=hlt p hp;omega,by omega⟩
   simp only [Rg.putAll,Rg.putFrom,List.take_succ_cons,List.take_zero,List.drop_succ_cons,List.drop_zero,Act.put,List.setIfInBounds_toArray,List.set_cons_zero,List.set_cons_succ,ev,eb]
   clear ev eb hf
   have HS:=Lib.hid (GM.stored hG1 hb (fun p hp e=>by have:=hlt p hp;omega) z hT hn).1
   have HB2:=Lib.hid (RB.stored HB1.out (by omega) (.int .i64 (Tm.mk 3 0 [Tm.tup [Tm.pub (Tm.nm y),Tm.mk 3 0 [m1]]]).op) (.int .i64 (Tm.mk 3 0 [Tm.tup [Tm.pub (Tm.nm y),Tm.mk 3 0 [m1]]]).num) (.slice a n c') (b:=b24))
   have HZ2:=Lib.hid (((put3 hb (.int .i64 (Tm.mk 3 0 [Tm.tup [Tm.pub (Tm.nm y),Tm.mk 3 0 [m1]]]).op) (.int .i64 (Tm.mk 3 0 [Tm.tup [Tm.pub (Tm.nm y),Tm.mk 3 0 [m1]]]).num) (.slice a n c') _ rfl).2.1 w.heap.size (by omega)).trans HZ1)
   clear HG0 HB0 HZ HZ1 hz1 hlt hs1 hR1 hG1 hT HB1 z hn hlo
   have r0:=cell_of_arr hb 0
   have r1:=cell_of_arr hb 1
   have r2:=cell_of_arr hb 2
   simp at r0 r1 r2
   have f0:=frozen_of_arr hb 0
   have f1:=frozen_of_arr hb 1
   have f2:=frozen_of_arr hb 2
   clear hb
   go_upto_region 19 with fail
   clear r0 r1 r2 f0 f1 f2
   generalize (((W1.setCell ⟨b24,0,none⟩ (.int .i64 (Tm.mk 3 0 [Tm.tup [Tm.pub (Tm.nm y),Tm.mk 3 0 [m1]]]).op)).setCell ⟨b24,1,none⟩ (.int .i64 (Tm.mk 3 0 [Tm.tup [Tm.pub (Tm.nm y),Tm.mk 3 0 [m1]]]).num)).setCell ⟨b24,2,none⟩ (.slice a n c'))=w4 at *
   clear W1
   obtain ⟨HG0,HB0,HZ⟩:=And.intro HS (And.intro HB2 HZ2)
   clear HS HB2 HZ2
   generalize he_th2:Tm.mk 3 0 [Tm.tup [Tm.pub (Tm.nm y),Tm.mk 3 0 [m1]]]=th2 at *
   have E_th2:=Lib.hid he_th2
   clear he_th2
   refine region_tm (M:=9) [.eq (.int .i64 x),.tm (Tm.nm x),.eq (.int .i64 y),.tm (Tm.nm y),.tl [Tm.nm x,Tm.nm y],.tm (Tm.mk 7 0 [Tm.nm x,Tm.nm y]),.tm th2,.tm (Tm.kdf (Tm.mk 7 0 [Tm.nm x,Tm.nm y]) 50 th2),.cell w4.heap.size] (by kernel_rfl) (by kernel_rfl) HG0.out ?_ ?_
   ·refine ⟨fun vs W hR hG hd=>?_,fun vs W hR hG hd=>?_,fun vs W hR hG hd=>?_,fun vs W hR hG hd=>?_,fun vs W hR hG hd=>?_,fun vs W hR hG hd=>?_,fun vs W hR hG hd=>?_,fun vs W hR hG hd=>?_,fun vs W hR hG hd=>?_,trivial⟩
    ·exact Rg.Does.move (.tmp 1) rfl ⟨RB.refl _,hG,show _=_ by kernel_rfl⟩
    ·have e0:vs 0=.int .i64 x:=hd 0 (by decide);exact does_call (vals:=#[vs 0]) 52 (.func 52) #[.tmp 126] _ rfl (by kernel_rfl) (by kernel_rfl) (cf 52 _ Tryd.func52 (by kernel_rfl) (by kernel_rfl) _) (by rw [e0];exact rname_ends hG x)
    ·exact Rg.Does.move (.tmp 2) rfl ⟨RB.refl _,hG,show _=_ by kernel_rfl⟩
    ·have e2:vs 2=.int .i64 y:=hd 2 (by decide);exact does_call (vals:=#[vs 2]) 52 (.func 52) #[.tmp 128] _ rfl (by kernel_rfl) (by kernel_rfl) (cf 52 _ Tryd.func52 (by kernel_rfl) (by kernel_rfl) _) (by rw [e2];exact rname_ends hG y)
    ·exact does_row2 hG (.tmp 127) (.tmp 129) (Tm.nm x) (Tm.nm y) rfl (hd 1 (by decide)) (hd 3 (by decide))
    ·exact does_call (vals:=#[.int .i64 7,vs 4]) 54 (.func 54) #[.const (.int .i64 7),.tmp 130] _ rfl (by kernel_rfl) (by kernel_rfl) (cf 54 _ Tryd.func54 (by kernel_rfl) (by kernel_rfl) _) (rnode_ends hG 7 (by decide) (hd 4 (by decide)))
    ·exact does_load hG (.tmp 21) b24 th2 (by simp) rfl (by kernel_rfl)
    ·exact does_call (vals:=#[vs 5,.int .i64 50,vs 6]) 55 (.func 55) #[.tmp 131,.const (.int .i64 50),.tmp 132] _ rfl (by kernel_rfl) (by kernel_rfl) (cf 55 _ Tryd.func55 (by kernel_rfl) (by kernel_rfl) _) (rkdf_ends hG (hd 5 (by decide)) (hd 6 (by decide)) 50)
    ·exact does_alloc hG _ hR.size rfl
   intro vs W1 hR1 hG1 hf
   obtain ⟨z,a,n,c',ev,hT,hn⟩:=hf 7 (by decide)
   obtain ⟨b25,eb,hb,hlo⟩:=hf 8 (by decide)
   have HB1:=Lib.hid (HB0.out.trans (hR1.mono HB0.out.size))
   have hlt:=HG0.out.lt
   have hs1:=HB0.out.size
   have hz1:=lt_of_block HZ.out
   have HZ1:=Below.keep hR1 HZ.out hz1
   have D_b25:Hid ((∀ p ∈ ([(b24,th2),(b23,m1),(b22,cr),(b21,ci)]:List (Nat × Tm)),p.1≠b25)∧w.heap.size < b25):=⟨fun p hp e=>by have:=hlt p hp;omega,by omega⟩
   simp only [Rg.putAll,Rg.putFrom,List.take_succ_cons,List.take_zero,List.drop_succ_cons,List.drop_zero,Act.put,List.setIfInBounds_toArray,List.set_cons_zero,List.set_cons_succ,ev,eb]
   clear ev eb hf
   have HS:=Lib.hid (GM.stored hG1 hb (fun p hp e=>by have:=hlt p hp;omega) z hT hn).1
   have HB2:=Lib.hid (RB.stored HB1.out (by omega) (.int .i64 (Tm.kdf (Tm.mk 7 0 [Tm.nm x,Tm.nm y]) 50 th2).op) (.int .i64 (Tm.kdf (Tm.mk 7 0 [Tm.nm x,Tm.nm y]) 50 th2).num) (.slice a n c') (b:=b25))
   have HZ2:=Lib.hid (((put3 hb (.int .i64 (Tm.kdf (Tm.mk 7 0 [Tm.nm x,Tm.nm y]) 50 th2).op) (.int .i64 (Tm.kdf (Tm.mk 7 0 [Tm.nm x,Tm.nm y]) 50 th2).num) (.slice a n c') _ rfl).2.1 w.heap.size (by omega)).trans HZ1)
   clear HG0 HB0 HZ HZ1 hz1 hlt hs1 hR1 hG1 hT HB1 z hn hlo
   have r0:=cell_of_arr hb 0
   have r1:=cell_of_arr hb 1
   have r2:=cell_of_arr hb 2
   simp at r0 r1 r2
   have f0:=frozen_of_arr hb 0
   have f1:=frozen_of_arr hb 1
   have f2:=frozen_of_arr hb 2
   clear hb
   go_upto_region 20 with fail
   clear r0 r1 r2 f0 f1 f2
   generalize (((W1.setCell ⟨b25,0,none⟩ (.int .i64 (Tm.kdf (Tm.mk 7 0 [Tm.nm x,Tm.nm y]) 50 th2).op)).setCell ⟨b25,1,none⟩ (.int .i64 (Tm.kdf (Tm.mk 7 0 [Tm.nm x,Tm.nm y]) 50 th2).num)).setCell ⟨b25,2,none⟩ (.slice a n c'))=w5 at *
   clear W1
   obtain ⟨HG0,HB0,HZ⟩:=And.intro HS (And.intro HB2 HZ2)
   clear HS HB2 HZ2
   generalize he_prk2:Tm.kdf (Tm.mk 7 0 [Tm.nm x,Tm.nm y]) 50 th2=prk2 at *
   have E_prk2:=Lib.hid he_prk2
   clear he_prk2
   refine region_tm (M:=2) [.tm prk2,.cell w5.heap.size] (by kernel_rfl) (by kernel_rfl) HG0.out ?_ ?_
   ·refine ⟨fun vs W hR hG hd=>?_,fun vs W hR hG hd=>?_,trivial⟩
    ·exact does_load hG (.tmp 22) b25 prk2 (by simp) rfl (by kernel_rfl)
    ·exact does_alloc hG _ hR.size rfl
   intro vs W1 hR1 hG1 hf
   obtain ⟨z,a,n,c',ev,hT,hn⟩:=hf 0 (by decide)
   obtain ⟨b26,eb,hb,hlo⟩:=hf 1 (by decide)
   have HB1:=Lib.hid (HB0.out.trans (hR1.mono HB0.out.size))
   have hlt:=HG0.out.lt
   have hs1:=HB0.out.size
   have hz1:=lt_of_block HZ.out
   have HZ1:=Below.keep hR1 HZ.out hz1
   have D_b26:Hid ((∀ p ∈ ([(b25,prk2),(b24,th2),(b23,m1),(b22,cr),(b21,ci)]:List (Nat × Tm)),p.1≠b26)∧w.heap.size < b26):=⟨fun p hp e=>by have:=hlt p hp;omega,by omega⟩
   simp only [Rg.putAll,Rg.putFrom,List.take_succ_cons,List.take_zero,List.drop_succ_cons,List.drop_zero,Act.put,List.setIfInBounds_toArray,List.set_cons_zero,List.set_cons_succ,ev,eb]
   clear ev eb hf
   have HS:=Lib.hid (GM.stored hG1 hb (fun p hp e=>by have:=hlt p hp;omega) z hT hn).1
   have HB2:=Lib.hid (RB.stored HB1.out (by omega) (.int .i64 (prk2).op) (.int .i64 (prk2).num) (.slice a n c') (b:=b26))
   have HZ2:=Lib.hid (((put3 hb (.int .i64 (prk2).op) (.int .i64 (prk2).num) (.slice a n c') _ rfl).2.1 w.heap.size (by omega)).trans HZ1)
   clear HG0 HB0 HZ HZ1 hz1 hlt hs1 hR1 hG1 hT HB1 z hn hlo
   have r0:=cell_of_arr hb 0
   have r1:=cell_of_arr hb 1
   have r2:=cell_of_arr hb 2
   simp at r0 r1 r2
   have f0:=frozen_of_arr hb 0
   have f1:=frozen_of_arr hb 1
   have f2:=frozen_of_arr hb 2
   clear hb
   go_upto_if 135 with fail
   clear r0 r1 r2 f0 f1 f2
   generalize (((W1.setCell ⟨b26,0,none⟩ (.int .i64 (prk2).op)).setCell ⟨b26,1,none⟩ (.int .i64 (prk2).num)).setCell ⟨b26,2,none⟩ (.slice a n c'))=w6 at *
   clear W1
   obtain ⟨HG0,HB0,HZ⟩:=And.intro HS (And.intro HB2 HZ2)
   clear HS HB2 HZ2
   go_cut [136] from 136 to 146 (fun _ W=>Below w.heap.size w W∧W.heap[w.heap.size]?=some (.cells #[.int .i64 0,.int .i64 0,.slice none 0 0] 28 (0,0))∧GM w.heap.size ((b26,(if R=true then Tm.kdf (Tm.tup [prk2,Tm.mk 7 0 [Tm.nm x,Tm.nm r]]) 1 th2 else prk2)) :: [(b25,prk2),(b24,th2),(b23,m1),(b22,cr),(b21,ci)]) W)
   case first=>
    cases R with
    | true=>
      go_upto_region 22 with fail
      refine region_tm (M:=11) [.tm prk2,.eq (.int .i64 x),.tm (Tm.nm x),.eq (.int .i64 r),.tm (Tm.nm r),.tl [Tm.nm x,Tm.nm r],.tm (Tm.mk 7 0 [Tm.nm x,Tm.nm r]),.tl [prk2,Tm.mk 7 0 [Tm.nm x,Tm.nm r]],.tm (Tm.tup [prk2,Tm.mk 7 0 [Tm.nm x,Tm.nm r]]),.tm th2,.tm (Tm.kdf (Tm.tup [prk2,Tm.mk 7 0 [Tm.nm x,Tm.nm r]]) 1 th2)] (by kernel_rfl) (by kernel_rfl) HG0.out ?_ ?_
      ·refine ⟨fun vs W hR hG hd=>?_,fun vs W hR hG hd=>?_,fun vs W hR hG hd=>?_,fun vs W hR hG hd=>?_,fun vs W hR hG hd=>?_,fun vs W hR hG hd=>?_,fun vs W hR hG hd=>?_,fun vs W hR hG hd=>?_,fun vs W hR hG hd=>?_,fun vs W hR hG hd=>?_,fun vs W hR hG hd=>?_,trivial⟩
       ·exact does_load hG (.tmp 22) b25 prk2 (by simp) rfl (by kernel_rfl)
       ·exact Rg.Does.move (.tmp 1) rfl ⟨RB.refl _,hG,show _=_ by kernel_rfl⟩
       ·have e1:vs 1=.int .i64 x:=hd 1 (by decide);exact does_call (vals:=#[vs 1]) 52 (.func 52) #[.tmp 137] _ rfl (by kernel_rfl) (by kernel_rfl) (cf 52 _ Tryd.func52 (by kernel_rfl) (by kernel_rfl) _) (by rw [e1];exact rname_ends hG x)
       ·exact Rg.Does.move (.tmp 4) rfl ⟨RB.refl _,hG,show _=_ by kernel_rfl⟩
       ·have e3:vs 3=.int .i64 r:=hd 3 (by decide);exact does_call (vals:=#[vs 3]) 52 (.func 52) #[.tmp 139] _ rfl (by kernel_rfl) (by kernel_rfl) (cf 52 _ Tryd.func52 (by kernel_rfl) (by kernel_rfl) _) (by rw [e3];exact rname_ends hG r)
       ·exact does_row2 hG (.tmp 138) (.tmp 140) (Tm.nm x) (Tm.nm r) rfl (hd 2 (by decide)) (hd 4 (by decide))
       ·exact does_call (vals:=#[.int .i64 7,vs 5]) 54 (.func 54) #[.const (.int .i64 7),.tmp 141] _ rfl (by kernel_rfl) (by kernel_rfl) (cf 54 _ Tryd.func54 (by kernel_rfl) (by kernel_rfl) _) (rnode_ends hG 7 (by decide) (hd 5 (by decide)))
       ·exact does_row2 hG (.tmp 136) (.tmp 142) prk2 (Tm.mk 7 0 [Tm.nm x,Tm.nm r]) rfl (hd 0 (by decide)) (hd 6 (by decide))
       ·exact does_call (vals:=#[vs 7]) 51 (.func 51) #[.tmp 143] _ rfl (by kernel_rfl) (by kernel_rfl) (cf 51 _ Tryd.func51 (by kernel_rfl) (by kernel_rfl) _) (rtuple_ends hG (by simp) (hd 7 (by decide)))
       ·exact does_load hG (.tmp 21) b24 th2 (by simp) rfl (by kernel_rfl)
       ·exact does_call (vals:=#[vs 8,.int .i64 1,vs 9]) 55 (.func 55) #[.tmp 144,.const (.int .i64 1),.tmp 145] _ rfl (by kernel_rfl) (by kernel_rfl) (cf 55 _ Tryd.func55 (by kernel_rfl) (by kernel_rfl) _) (rkdf_ends hG (hd 8 (by decide)) (hd 9 (by decide)) 1)
      intro vs W1 hR1 hG1 hf
      obtain ⟨z,a,n,c',ev,hT,hn⟩:=hf 10 (by decide)
      have HB1:=Lib.hid (HB0.out.trans (hR1.mono HB0.out.size))
      have hs1:=lt_of_block HZ.out
      have HZ1:=Below.keep hR1 HZ.out hs1
      obtain ⟨a0,n0,c0',hb⟩:=hG1.head
      simp only [Rg.putAll,Rg.putFrom,List.take_succ_cons,List.take_zero,List.drop_succ_cons,List.drop_zero,Act.put,List.setIfInBounds_toArray,List.set_cons_zero,List.set_cons_succ,ev]
      clear ev hf
      have HS:=Lib.hid (GM.restored hG1 D_b26.out.1 z hT hn)
      have HB2:=Lib.hid (RB.stored HB1.out (by have:=D_b26.out.2;omega) (.int .i64 (Tm.kdf (Tm.tup [prk2,Tm.mk 7 0 [Tm.nm x,Tm.nm r]]) 1 th2).op) (.int .i64 (Tm.kdf (Tm.tup [prk2,Tm.mk 7 0 [Tm.nm x,Tm.nm r]]) 1 th2).num) (.slice a n c') (b:=b26))
      have HZ2:=Lib.hid (((put3 hb (.int .i64 (Tm.kdf (Tm.tup [prk2,Tm.mk 7 0 [Tm.nm x,Tm.nm r]]) 1 th2).op) (.int .i64 (Tm.kdf (Tm.tup [prk2,Tm.mk 7 0 [Tm.nm x,Tm.nm r]]) 1 th2).num) (.slice a n c') _ rfl).2.1 w.heap.size (by have:=D_b26.out.2;omega)).trans HZ1)
      clear HG0 HB0 HZ HZ1 hs1 hR1 hG1 hT HB1 z hn
      have r0:=cell_of_arr hb 0
      have r1:=cell_of_arr hb 1
      have r2:=cell_of_arr hb 2
      simp at r0 r1 r2
      have f0:=frozen_of_arr hb 0
      have f1:=frozen_of_arr hb 1
      have f2:=frozen_of_arr hb 2
      clear hb
      go_wp2_with fail
      go_meet
      case rel=>exact ⟨HB2.out,HZ2.out,HS.out⟩
    | false=>
      go_wp2_with fail
      go_meet
      case rel=>exact ⟨HB0.out,HZ.out,HG0.out⟩
   case rest=>
   obtain ⟨HBc,HZc,HGc⟩:=hcut
   have HG0':=Lib.hid HGc
   have HB0':=Lib.hid HBc
   have HZ':=Lib.hid HZc
   clear HBc HZc HGc HG0 HB0 HZ
   obtain ⟨HG0,HB0,HZ⟩:=And.intro HG0' (And.intro HB0' HZ')
   clear HG0' HB0' HZ'
   generalize wc=w7 at *
   generalize he_prk3:(if R=true then Tm.kdf (Tm.tup [prk2,Tm.mk 7 0 [Tm.nm x,Tm.nm r]]) 1 th2 else prk2)=prk3 at *
   have E_prk3:=Lib.hid he_prk3
   clear he_prk3
   go_upto_region 23 with fail
   refine region_tm (M:=7) [.tm prk3,.tm th2,.tm cr,.tl [th2,cr],.tm (Tm.tup [th2,cr]),.tm (Tm.kdf prk3 2 (Tm.tup [th2,cr])),.cell w7.heap.size] (by kernel_rfl) (by kernel_rfl) HG0.out ?_ ?_
   ·refine ⟨fun vs W hR hG hd=>?_,fun vs W hR hG hd=>?_,fun vs W hR hG hd=>?_,fun vs W hR hG hd=>?_,fun vs W hR hG hd=>?_,fun vs W hR hG hd=>?_,fun vs W hR hG hd=>?_,trivial⟩
    ·exact does_load hG (.tmp 23) b26 prk3 (by simp) rfl (by kernel_rfl)
    ·exact does_load hG (.tmp 21) b24 th2 (by simp) rfl (by kernel_rfl)
    ·exact does_load hG (.tmp 19) b22 cr (by simp) rfl (by kernel_rfl)
    ·exact does_row2 hG (.tmp 148) (.tmp 149) th2 cr rfl (hd 1 (by decide)) (hd 2 (by decide))
    ·exact does_call (vals:=#[vs 3]) 51 (.func 51) #[.tmp 150] _ rfl (by kernel_rfl) (by kernel_rfl) (cf 51 _ Tryd.func51 (by kernel_rfl) (by kernel_rfl) _) (rtuple_ends hG (by simp) (hd 3 (by decide)))
    ·exact does_call (vals:=#[vs 0,.int .i64 2,vs 4]) 55 (.func 55) #[.tmp 147,.const (.int .i64 2),.tmp 151] _ rfl (by kernel_rfl) (by kernel_rfl) (cf 55 _ Tryd.func55 (by kernel_rfl) (by kernel_rfl) _) (rkdf_ends hG (hd 0 (by decide)) (hd 4 (by decide)) 2)
    ·exact does_alloc hG _ hR.size rfl
   intro vs W1 hR1 hG1 hf
   obtain ⟨z,a,n,c',ev,hT,hn⟩:=hf 5 (by decide)
   obtain ⟨b27,eb,hb,hlo⟩:=hf 6 (by decide)
   have HB1:=Lib.hid (HB0.out.trans (hR1.mono HB0.out.size))
   have hlt:=HG0.out.lt
   have hs1:=HB0.out.size
   have hz1:=lt_of_block HZ.out
   have HZ1:=Below.keep hR1 HZ.out hz1
   have D_b27:Hid ((∀ p ∈ ([(b26,prk3),(b25,prk2),(b24,th2),(b23,m1),(b22,cr),(b21,ci)]:List (Nat × Tm)),p.1≠b27)∧w.heap.size < b27):=⟨fun p hp e=>by have:=hlt p hp;omega,by omega⟩
   simp only [Rg.putAll,Rg.putFrom,List.take_succ_cons,List.take_zero,List.drop_succ_cons,List.drop_zero,Act.put,List.setIfInBounds_toArray,List.set_cons_zero,List.set_cons_succ,ev,eb]
   clear ev eb hf
   have HS:=Lib.hid (GM.stored hG1 hb (fun p hp e=>by have:=hlt p hp;omega) z hT hn).1
   have HB2:=Lib.hid (RB.stored HB1.out (by omega) (.int .i64 (Tm.kdf prk3 2 (Tm.tup [th2,cr])).op) (.int .i64 (Tm.kdf prk3 2 (Tm.tup [th2,cr])).num) (.slice a n c') (b:=b27))
   have HZ2:=Lib.hid (((put3 hb (.int .i64 (Tm.kdf prk3 2 (Tm.tup [th2,cr])).op) (.int .i64 (Tm.kdf prk3 2 (Tm.tup [th2,cr])).num) (.slice a n c') _ rfl).2.1 w.heap.size (by omega)).trans HZ1)
   clear HG0 HB0 HZ HZ1 hz1 hlt hs1 hR1 hG1 hT HB1 z hn hlo
   have r0:=cell_of_arr hb 0
   have r1:=cell_of_arr hb 1
   have r2:=cell_of_arr hb 2
   simp at r0 r1 r2
   have f0:=frozen_of_arr hb 0
   have f1:=frozen_of_arr hb 1
   have f2:=frozen_of_arr hb 2
   clear hb
   go_upto_region 24 with fail
   clear r0 r1 r2 f0 f1 f2
   generalize (((W1.setCell ⟨b27,0,none⟩ (.int .i64 (Tm.kdf prk3 2 (Tm.tup [th2,cr])).op)).setCell ⟨b27,1,none⟩ (.int .i64 (Tm.kdf prk3 2 (Tm.tup [th2,cr])).num)).setCell ⟨b27,2,none⟩ (.slice a n c'))=w8 at *
   clear W1
   obtain ⟨HG0,HB0,HZ⟩:=And.intro HS (And.intro HB2 HZ2)
   clear HS HB2 HZ2
   generalize he_mac2:Tm.kdf prk3 2 (Tm.tup [th2,cr])=mac2 at *
   have E_mac2:=Lib.hid he_mac2
   clear he_mac2
   refine region_tm (M:=2) [.tm mac2,.cell w8.heap.size] (by kernel_rfl) (by kernel_rfl) HG0.out ?_ ?_
   ·refine ⟨fun vs W hR hG hd=>?_,fun vs W hR hG hd=>?_,trivial⟩
    ·exact does_load hG (.tmp 24) b27 mac2 (by simp) rfl (by kernel_rfl)
    ·exact does_alloc hG _ hR.size rfl
   intro vs W1 hR1 hG1 hf
   obtain ⟨z,a,n,c',ev,hT,hn⟩:=hf 0 (by decide)
   obtain ⟨b27x,eb,hb,hlo⟩:=hf 1 (by decide)
   have HB1:=Lib.hid (HB0.out.trans (hR1.mono HB0.out.size))
   have hlt:=HG0.out.lt
   have hs1:=HB0.out.size
   have hz1:=lt_of_block HZ.out
   have HZ1:=Below.keep hR1 HZ.out hz1
   have D_b27x:Hid ((∀ p ∈ ([(b27,mac2),(b26,prk3),(b25,prk2),(b24,th2),(b23,m1),(b22,cr),(b21,ci)]:List (Nat × Tm)),p.1≠b27x)∧w.heap.size < b27x):=⟨fun p hp e=>by have:=hlt p hp;omega,by omega⟩
   simp only [Rg.putAll,Rg.putFrom,List.take_succ_cons,List.take_zero,List.drop_succ_cons,List.drop_zero,Act.put,List.setIfInBounds_toArray,List.set_cons_zero,List.set_cons_succ,ev,eb]
   clear ev eb hf
   have HS:=Lib.hid (GM.stored hG1 hb (fun p hp e=>by have:=hlt p hp;omega) z hT hn).1
   have HB2:=Lib.hid (RB.stored HB1.out (by omega) (.int .i64 (mac2).op) (.int .i64 (mac2).num) (.slice a n c') (b:=b27x))
   have HZ2:=Lib.hid (((put3 hb (.int .i64 (mac2).op) (.int .i64 (mac2).num) (.slice a n c') _ rfl).2.1 w.heap.size (by omega)).trans HZ1)
   clear HG0 HB0 HZ HZ1 hz1 hlt hs1 hR1 hG1 hT HB1 z hn hlo
   have r0:=cell_of_arr hb 0
   have r1:=cell_of_arr hb 1
   have r2:=cell_of_arr hb 2
   simp at r0 r1 r2
   have f0:=frozen_of_arr hb 0
   have f1:=frozen_of_arr hb 1
   have f2:=frozen_of_arr hb 2
   clear hb
   go_upto_if 155 with fail
   clear r0 r1 r2 f0 f1 f2
   generalize (((W1.setCell ⟨b27x,0,none⟩ (.int .i64 (mac2).op)).setCell ⟨b27x,1,none⟩ (.int .i64 (mac2).num)).setCell ⟨b27x,2,none⟩ (.slice a n c'))=w9 at *
   clear W1
   obtain ⟨HG0,HB0,HZ⟩:=And.intro HS (And.intro HB2 HZ2)
   clear HS HB2 HZ2
   go_cut [156] from 156 to 164 (fun _ W=>Below w.heap.size w W∧W.heap[w.heap.size]?=some (.cells #[.int .i64 0,.int .i64 0,.slice none 0 0] 28 (0,0))∧GM w.heap.size ((b27x,(if R=false then Tm.mk 5 0 [Tm.nm r,Tm.tup [th2,cr,mac2]] else mac2)) :: [(b27,mac2),(b26,prk3),(b25,prk2),(b24,th2),(b23,m1),(b22,cr),(b21,ci)]) W)
   case first=>
    cases R with
    | true=>
      go_wp2_with fail
      go_meet
      case rel=>exact ⟨HB0.out,HZ.out,HG0.out⟩
    | false=>
      go_upto_region 26 with fail
      refine region_tm (M:=9) [.eq (.int .i64 r),.tm (Tm.nm r),.tm th2,.tm cr,.tm mac2,.tl [th2,cr,mac2],.tm (Tm.tup [th2,cr,mac2]),.tl [Tm.nm r,Tm.tup [th2,cr,mac2]],.tm (Tm.mk 5 0 [Tm.nm r,Tm.tup [th2,cr,mac2]])] (by kernel_rfl) (by kernel_rfl) HG0.out ?_ ?_
      ·refine ⟨fun vs W hR hG hd=>?_,fun vs W hR hG hd=>?_,fun vs W hR hG hd=>?_,fun vs W hR hG hd=>?_,fun vs W hR hG hd=>?_,fun vs W hR hG hd=>?_,fun vs W hR hG hd=>?_,fun vs W hR hG hd=>?_,fun vs W hR hG hd=>?_,trivial⟩
       ·exact Rg.Does.move (.tmp 4) rfl ⟨RB.refl _,hG,show _=_ by kernel_rfl⟩
       ·have e0:vs 0=.int .i64 r:=hd 0 (by decide);exact does_call (vals:=#[vs 0]) 52 (.func 52) #[.tmp 156] _ rfl (by kernel_rfl) (by kernel_rfl) (cf 52 _ Tryd.func52 (by kernel_rfl) (by kernel_rfl) _) (by rw [e0];exact rname_ends hG r)
       ·exact does_load hG (.tmp 21) b24 th2 (by simp) rfl (by kernel_rfl)
       ·exact does_load hG (.tmp 19) b22 cr (by simp) rfl (by kernel_rfl)
       ·exact does_load hG (.tmp 24) b27 mac2 (by simp) rfl (by kernel_rfl)
       ·exact does_row3 hG (.tmp 158) (.tmp 159) (.tmp 160) th2 cr mac2 rfl (hd 2 (by decide)) (hd 3 (by decide)) (hd 4 (by decide))
       ·exact does_call (vals:=#[vs 5]) 51 (.func 51) #[.tmp 161] _ rfl (by kernel_rfl) (by kernel_rfl) (cf 51 _ Tryd.func51 (by kernel_rfl) (by kernel_rfl) _) (rtuple_ends hG (by simp) (hd 5 (by decide)))
       ·exact does_row2 hG (.tmp 157) (.tmp 162) (Tm.nm r) (Tm.tup [th2,cr,mac2]) rfl (hd 1 (by decide)) (hd 6 (by decide))
       ·exact does_call (vals:=#[.int .i64 5,vs 7]) 54 (.func 54) #[.const (.int .i64 5),.tmp 163] _ rfl (by kernel_rfl) (by kernel_rfl) (cf 54 _ Tryd.func54 (by kernel_rfl) (by kernel_rfl) _) (rnode_ends hG 5 (by decide) (hd 7 (by decide)))
      intro vs W1 hR1 hG1 hf
      obtain ⟨z,a,n,c',ev,hT,hn⟩:=hf 8 (by decide)
      have HB1:=Lib.hid (HB0.out.trans (hR1.mono HB0.out.size))
      have hs1:=lt_of_block HZ.out
      have HZ1:=Below.keep hR1 HZ.out hs1
      obtain ⟨a0,n0,c0',hb⟩:=hG1.head
      simp only [Rg.putAll,Rg.putFrom,List.take_succ_cons,List.take_zero,List.drop_succ_cons,List.drop_zero,Act.put,List.setIfInBounds_toArray,List.set_cons_zero,List.set_cons_succ,ev]
      clear ev hf
      have HS:=Lib.hid (GM.restored hG1 D_b27x.out.1 z hT hn)
      have HB2:=Lib.hid (RB.stored HB1.out (by have:=D_b27x.out.2;omega) (.int .i64 (Tm.mk 5 0 [Tm.nm r,Tm.tup [th2,cr,mac2]]).op) (.int .i64 (Tm.mk 5 0 [Tm.nm r,Tm.tup [th2,cr,mac2]]).num) (.slice a n c') (b:=b27x))
      have HZ2:=Lib.hid (((put3 hb (.int .i64 (Tm.mk 5 0 [Tm.nm r,Tm.tup [th2,cr,mac2]]).op) (.int .i64 (Tm.mk 5 0 [Tm.nm r,Tm.tup [th2,cr,mac2]]).num) (.slice a n c') _ rfl).2.1 w.heap.size (by have:=D_b27x.out.2;omega)).trans HZ1)
      clear HG0 HB0 HZ HZ1 hs1 hR1 hG1 hT HB1 z hn
      have r0:=cell_of_arr hb 0
      have r1:=cell_of_arr hb 1
      have r2:=cell_of_arr hb 2
      simp at r0 r1 r2
      have f0:=frozen_of_arr hb 0
      have f1:=frozen_of_arr hb 1
      have f2:=frozen_of_arr hb 2
      clear hb
      go_wp2_with fail
      go_meet
      case rel=>exact ⟨HB2.out,HZ2.out,HS.out⟩
   case rest=>
   obtain ⟨HBc,HZc,HGc⟩:=hcut
   have HG0':=Lib.hid HGc
   have HB0':=Lib.hid HBc
   have HZ':=Lib.hid HZc
   clear HBc HZc HGc HG0 HB0 HZ
   obtain ⟨HG0,HB0,HZ⟩:=And.intro HG0' (And.intro HB0' HZ')
   clear HG0' HB0' HZ'
   generalize wc=w10 at *
   generalize he_proof2:(if R=false then Tm.mk 5 0 [Tm.nm r,Tm.tup [th2,cr,mac2]] else mac2)=proof2 at *
   have E_proof2:=Lib.hid he_proof2
   clear he_proof2
   go_upto_region 27 with fail
   refine region_tm (M:=6) [.tm (Tm.nm 31),.tm cr,.tm proof2,.tl [Tm.nm 31,cr,proof2],.tm (Tm.tup [Tm.nm 31,cr,proof2]),.cell w10.heap.size] (by kernel_rfl) (by kernel_rfl) HG0.out ?_ ?_
   ·refine ⟨fun vs W hR hG hd=>?_,fun vs W hR hG hd=>?_,fun vs W hR hG hd=>?_,fun vs W hR hG hd=>?_,fun vs W hR hG hd=>?_,fun vs W hR hG hd=>?_,trivial⟩
    ·exact does_call (vals:=#[.int .i64 31]) 52 (.func 52) #[.const (.int .i64 31)] _ rfl (by kernel_rfl) (by kernel_rfl) (cf 52 _ Tryd.func52 (by kernel_rfl) (by kernel_rfl) _) (rname_ends hG 31)
    ·exact does_load hG (.tmp 19) b22 cr (by simp) rfl (by kernel_rfl)
    ·exact does_load hG (.tmp 25) b27x proof2 (by simp) rfl (by kernel_rfl)
    ·exact does_row3 hG (.tmp 165) (.tmp 166) (.tmp 167) (Tm.nm 31) cr proof2 rfl (hd 0 (by decide)) (hd 1 (by decide)) (hd 2 (by decide))
    ·exact does_call (vals:=#[vs 3]) 51 (.func 51) #[.tmp 168] _ rfl (by kernel_rfl) (by kernel_rfl) (cf 51 _ Tryd.func51 (by kernel_rfl) (by kernel_rfl) _) (rtuple_ends hG (by simp) (hd 3 (by decide)))
    ·exact does_alloc hG _ hR.size rfl
   intro vs W1 hR1 hG1 hf
   obtain ⟨z,a,n,c',ev,hT,hn⟩:=hf 4 (by decide)
   obtain ⟨b28,eb,hb,hlo⟩:=hf 5 (by decide)
   have HB1:=Lib.hid (HB0.out.trans (hR1.mono HB0.out.size))
   have hlt:=HG0.out.lt
   have hs1:=HB0.out.size
   have hz1:=lt_of_block HZ.out
   have HZ1:=Below.keep hR1 HZ.out hz1
   have D_b28:Hid ((∀ p ∈ ([(b27x,proof2),(b27,mac2),(b26,prk3),(b25,prk2),(b24,th2),(b23,m1),(b22,cr),(b21,ci)]:List (Nat × Tm)),p.1≠b28)∧w.heap.size < b28):=⟨fun p hp e=>by have:=hlt p hp;omega,by omega⟩
   simp only [Rg.putAll,Rg.putFrom,List.take_succ_cons,List.take_zero,List.drop_succ_cons,List.drop_zero,Act.put,List.setIfInBounds_toArray,List.set_cons_zero,List.set_cons_succ,ev,eb]
   clear ev eb hf
   have HS:=Lib.hid (GM.stored hG1 hb (fun p hp e=>by have:=hlt p hp;omega) z hT hn).1
   have HB2:=Lib.hid (RB.stored HB1.out (by omega) (.int .i64 (Tm.tup [Tm.nm 31,cr,proof2]).op) (.int .i64 (Tm.tup [Tm.nm 31,cr,proof2]).num) (.slice a n c') (b:=b28))
   have HZ2:=Lib.hid (((put3 hb (.int .i64 (Tm.tup [Tm.nm 31,cr,proof2]).op) (.int .i64 (Tm.tup [Tm.nm 31,cr,proof2]).num) (.slice a n c') _ rfl).2.1 w.heap.size (by omega)).trans HZ1)
   clear HG0 HB0 HZ HZ1 hz1 hlt hs1 hR1 hG1 hT HB1 z hn hlo
   have r0:=cell_of_arr hb 0
   have r1:=cell_of_arr hb 1
   have r2:=cell_of_arr hb 2
   simp at r0 r1 r2
   have f0:=frozen_of_arr hb 0
   have f1:=frozen_of_arr hb 1
   have f2:=frozen_of_arr hb 2
   clear hb
   go_upto_region 28 with fail
   clear r0 r1 r2 f0 f1 f2
   generalize (((W1.setCell ⟨b28,0,none⟩ (.int .i64 (Tm.tup [Tm.nm 31,cr,proof2]).op)).setCell ⟨b28,1,none⟩ (.int .i64 (Tm.tup [Tm.nm 31,cr,proof2]).num)).setCell ⟨b28,2,none⟩ (.slice a n c'))=w11 at *
   clear W1
   obtain ⟨HG0,HB0,HZ⟩:=And.intro HS (And.intro HB2 HZ2)
   clear HS HB2 HZ2
   generalize he_p2:Tm.tup [Tm.nm 31,cr,proof2]=p2 at *
   have E_p2:=Lib.hid he_p2
   clear he_p2
   refine region_tm (M:=14) [.eq (.int .i64 y),.tm (Tm.nm y),.tm (Tm.pub (Tm.nm y)),.tm prk2,.tm th2,.tm (Tm.kdf prk2 0 th2),.tm (Tm.nm 0),.tm (Tm.nm 0),.tm p2,.tl [Tm.kdf prk2 0 th2,Tm.nm 0,Tm.nm 0,p2],.tm (Tm.mk 4 0 [Tm.kdf prk2 0 th2,Tm.nm 0,Tm.nm 0,p2]),.tl [Tm.pub (Tm.nm y),Tm.mk 4 0 [Tm.kdf prk2 0 th2,Tm.nm 0,Tm.nm 0,p2]],.tm (Tm.tup [Tm.pub (Tm.nm y),Tm.mk 4 0 [Tm.kdf prk2 0 th2,Tm.nm 0,Tm.nm 0,p2]]),.cell w11.heap.size] (by kernel_rfl) (by kernel_rfl) HG0.out ?_ ?_
   ·refine ⟨fun vs W hR hG hd=>?_,fun vs W hR hG hd=>?_,fun vs W hR hG hd=>?_,fun vs W hR hG hd=>?_,fun vs W hR hG hd=>?_,fun vs W hR hG hd=>?_,fun vs W hR hG hd=>?_,fun vs W hR hG hd=>?_,fun vs W hR hG hd=>?_,fun vs W hR hG hd=>?_,fun vs W hR hG hd=>?_,fun vs W hR hG hd=>?_,fun vs W hR hG hd=>?_,fun vs W hR hG hd=>?_,trivial⟩
    ·exact Rg.Does.move (.tmp 2) rfl ⟨RB.refl _,hG,show _=_ by kernel_rfl⟩
    ·have e0:vs 0=.int .i64 y:=hd 0 (by decide);exact does_call (vals:=#[vs 0]) 52 (.func 52) #[.tmp 170] _ rfl (by kernel_rfl) (by kernel_rfl) (cf 52 _ Tryd.func52 (by kernel_rfl) (by kernel_rfl) _) (by rw [e0];exact rname_ends hG y)
    ·exact does_call (vals:=#[vs 1]) 53 (.func 53) #[.tmp 171] _ rfl (by kernel_rfl) (by kernel_rfl) (cf 53 _ Tryd.func53 (by kernel_rfl) (by kernel_rfl) _) (rpub_ends hG (hd 1 (by decide)))
    ·exact does_load hG (.tmp 22) b25 prk2 (by simp) rfl (by kernel_rfl)
    ·exact does_load hG (.tmp 21) b24 th2 (by simp) rfl (by kernel_rfl)
    ·exact does_call (vals:=#[vs 3,.int .i64 0,vs 4]) 55 (.func 55) #[.tmp 173,.const (.int .i64 0),.tmp 174] _ rfl (by kernel_rfl) (by kernel_rfl) (cf 55 _ Tryd.func55 (by kernel_rfl) (by kernel_rfl) _) (rkdf_ends hG (hd 3 (by decide)) (hd 4 (by decide)) 0)
    ·exact does_call (vals:=#[.int .i64 0]) 52 (.func 52) #[.const (.int .i64 0)] _ rfl (by kernel_rfl) (by kernel_rfl) (cf 52 _ Tryd.func52 (by kernel_rfl) (by kernel_rfl) _) (rname_ends hG 0)
    ·exact does_call (vals:=#[.int .i64 0]) 52 (.func 52) #[.const (.int .i64 0)] _ rfl (by kernel_rfl) (by kernel_rfl) (cf 52 _ Tryd.func52 (by kernel_rfl) (by kernel_rfl) _) (rname_ends hG 0)
    ·exact does_load hG (.tmp 26) b28 p2 (by simp) rfl (by kernel_rfl)
    ·exact does_row4 hG (.tmp 175) (.tmp 176) (.tmp 177) (.tmp 178) (Tm.kdf prk2 0 th2) (Tm.nm 0) (Tm.nm 0) p2 rfl (hd 5 (by decide)) (hd 6 (by decide)) (hd 7 (by decide)) (hd 8 (by decide))
    ·exact does_call (vals:=#[.int .i64 4,vs 9]) 54 (.func 54) #[.const (.int .i64 4),.tmp 179] _ rfl (by kernel_rfl) (by kernel_rfl) (cf 54 _ Tryd.func54 (by kernel_rfl) (by kernel_rfl) _) (rnode_ends hG 4 (by decide) (hd 9 (by decide)))
    ·exact does_row2 hG (.tmp 172) (.tmp 180) (Tm.pub (Tm.nm y)) (Tm.mk 4 0 [Tm.kdf prk2 0 th2,Tm.nm 0,Tm.nm 0,p2]) rfl (hd 2 (by decide)) (hd 10 (by decide))
    ·exact does_call (vals:=#[vs 11]) 51 (.func 51) #[.tmp 181] _ rfl (by kernel_rfl) (by kernel_rfl) (cf 51 _ Tryd.func51 (by kernel_rfl) (by kernel_rfl) _) (rtuple_ends hG (by simp) (hd 11 (by decide)))
    ·exact does_alloc hG _ hR.size rfl
   intro vs W1 hR1 hG1 hf
   obtain ⟨z,a,n,c',ev,hT,hn⟩:=hf 12 (by decide)
   obtain ⟨b29,eb,hb,hlo⟩:=hf 13 (by decide)
   have HB1:=Lib.hid (HB0.out.trans (hR1.mono HB0.out.size))
   have hlt:=HG0.out.lt
   have hs1:=HB0.out.size
   have hz1:=lt_of_block HZ.out
   have HZ1:=Below.keep hR1 HZ.out hz1
   have D_b29:Hid ((∀ p ∈ ([(b28,p2),(b27x,proof2),(b27,mac2),(b26,prk3),(b25,prk2),(b24,th2),(b23,m1),(b22,cr),(b21,ci)]:List (Nat × Tm)),p.1≠b29)∧w.heap.size < b29):=⟨fun p hp e=>by have:=hlt p hp;omega,by omega⟩
   simp only [Rg.putAll,Rg.putFrom,List.take_succ_cons,List.take_zero,List.drop_succ_cons,List.drop_zero,Act.put,List.setIfInBounds_toArray,List.set_cons_zero,List.set_cons_succ,ev,eb]
   clear ev eb hf
   have HS:=Lib.hid (GM.stored hG1 hb (fun p hp e=>by have:=hlt p hp;omega) z hT hn).1
   have HB2:=Lib.hid (RB.stored HB1.out (by omega) (.int .i64 (Tm.tup [Tm.pub (Tm.nm y),Tm.mk 4 0 [Tm.kdf prk2 0 th2,Tm.nm 0,Tm.nm 0,p2]]).op) (.int .i64 (Tm.tup [Tm.pub (Tm.nm y),Tm.mk 4 0 [Tm.kdf prk2 0 th2,Tm.nm 0,Tm.nm 0,p2]]).num) (.slice a n c') (b:=b29))
   have HZ2:=Lib.hid (((put3 hb (.int .i64 (Tm.tup [Tm.pub (Tm.nm y),Tm.mk 4 0 [Tm.kdf prk2 0 th2,Tm.nm 0,Tm.nm 0,p2]]).op) (.int .i64 (Tm.tup [Tm.pub (Tm.nm y),Tm.mk 4 0 [Tm.kdf prk2 0 th2,Tm.nm 0,Tm.nm 0,p2]]).num) (.slice a n c') _ rfl).2.1 w.heap.size (by omega)).trans HZ1)
   clear HG0 HB0 HZ HZ1 hz1 hlt hs1 hR1 hG1 hT HB1 z hn hlo
   have r0:=cell_of_arr hb 0
   have r1:=cell_of_arr hb 1
   have r2:=cell_of_arr hb 2
   simp at r0 r1 r2
   have f0:=frozen_of_arr hb 0
   have f1:=frozen_of_arr hb 1
   have f2:=frozen_of_arr hb 2
   clear hb
   go_upto_region 29 with fail
   clear r0 r1 r2 f0 f1 f2
   generalize (((W1.setCell ⟨b29,0,none⟩ (.int .i64 (Tm.tup [Tm.pub (Tm.nm y),Tm.mk 4 0 [Tm.kdf prk2 0 th2,Tm.nm 0,Tm.nm 0,p2]]).op)).setCell ⟨b29,1,none⟩ (.int .i64 (Tm.tup [Tm.pub (Tm.nm y),Tm.mk 4 0 [Tm.kdf prk2 0 th2,Tm.nm 0,Tm.nm 0,p2]]).num)).setCell ⟨b29,2,none⟩ (.slice a n c'))=w12 at *
   clear W1
   obtain ⟨HG0,HB0,HZ⟩:=And.intro HS (And.intro HB2 HZ2)
   clear HS HB2 HZ2
   generalize he_m2:Tm.tup [Tm.pub (Tm.nm y),Tm.mk 4 0 [Tm.kdf prk2 0 th2,Tm.nm 0,Tm.nm 0,p2]]=m2 at *
   have E_m2:=Lib.hid he_m2
   clear he_m2
   refine region_tm (M:=8) [.tm th2,.tm p2,.tm cr,.tl [th2,p2,cr],.tm (Tm.tup [th2,p2,cr]),.tl [Tm.tup [th2,p2,cr]],.tm (Tm.mk 3 0 [Tm.tup [th2,p2,cr]]),.cell w12.heap.size] (by kernel_rfl) (by kernel_rfl) HG0.out ?_ ?_
   ·refine ⟨fun vs W hR hG hd=>?_,fun vs W hR hG hd=>?_,fun vs W hR hG hd=>?_,fun vs W hR hG hd=>?_,fun vs W hR hG hd=>?_,fun vs W hR hG hd=>?_,fun vs W hR hG hd=>?_,fun vs W hR hG hd=>?_,trivial⟩
    ·exact does_load hG (.tmp 21) b24 th2 (by simp) rfl (by kernel_rfl)
    ·exact does_load hG (.tmp 26) b28 p2 (by simp) rfl (by kernel_rfl)
    ·exact does_load hG (.tmp 19) b22 cr (by simp) rfl (by kernel_rfl)
    ·exact does_row3 hG (.tmp 183) (.tmp 184) (.tmp 185) th2 p2 cr rfl (hd 0 (by decide)) (hd 1 (by decide)) (hd 2 (by decide))
    ·exact does_call (vals:=#[vs 3]) 51 (.func 51) #[.tmp 186] _ rfl (by kernel_rfl) (by kernel_rfl) (cf 51 _ Tryd.func51 (by kernel_rfl) (by kernel_rfl) _) (rtuple_ends hG (by simp) (hd 3 (by decide)))
    ·exact does_row1 hG (.tmp 187) (Tm.tup [th2,p2,cr]) rfl (hd 4 (by decide))
    ·exact does_call (vals:=#[.int .i64 3,vs 5]) 54 (.func 54) #[.const (.int .i64 3),.tmp 188] _ rfl (by kernel_rfl) (by kernel_rfl) (cf 54 _ Tryd.func54 (by kernel_rfl) (by kernel_rfl) _) (rnode_ends hG 3 (by decide) (hd 5 (by decide)))
    ·exact does_alloc hG _ hR.size rfl
   intro vs W1 hR1 hG1 hf
   obtain ⟨z,a,n,c',ev,hT,hn⟩:=hf 6 (by decide)
   obtain ⟨b30,eb,hb,hlo⟩:=hf 7 (by decide)
   have HB1:=Lib.hid (HB0.out.trans (hR1.mono HB0.out.size))
   have hlt:=HG0.out.lt
   have hs1:=HB0.out.size
   have hz1:=lt_of_block HZ.out
   have HZ1:=Below.keep hR1 HZ.out hz1
   have D_b30:Hid ((∀ p ∈ ([(b29,m2),(b28,p2),(b27x,proof2),(b27,mac2),(b26,prk3),(b25,prk2),(b24,th2),(b23,m1),(b22,cr),(b21,ci)]:List (Nat × Tm)),p.1≠b30)∧w.heap.size < b30):=⟨fun p hp e=>by have:=hlt p hp;omega,by omega⟩
   simp only [Rg.putAll,Rg.putFrom,List.take_succ_cons,List.take_zero,List.drop_succ_cons,List.drop_zero,Act.put,List.setIfInBounds_toArray,List.set_cons_zero,List.set_cons_succ,ev,eb]
   clear ev eb hf
   have HS:=Lib.hid (GM.stored hG1 hb (fun p hp e=>by have:=hlt p hp;omega) z hT hn).1
   have HB2:=Lib.hid (RB.stored HB1.out (by omega) (.int .i64 (Tm.mk 3 0 [Tm.tup [th2,p2,cr]]).op) (.int .i64 (Tm.mk 3 0 [Tm.tup [th2,p2,cr]]).num) (.slice a n c') (b:=b30))
   have HZ2:=Lib.hid (((put3 hb (.int .i64 (Tm.mk 3 0 [Tm.tup [th2,p2,cr]]).op) (.int .i64 (Tm.mk 3 0 [Tm.tup [th2,p2,cr]]).num) (.slice a n c') _ rfl).2.1 w.heap.size (by omega)).trans HZ1)
   clear HG0 HB0 HZ HZ1 hz1 hlt hs1 hR1 hG1 hT HB1 z hn hlo
   have r0:=cell_of_arr hb 0
   have r1:=cell_of_arr hb 1
   have r2:=cell_of_arr hb 2
   simp at r0 r1 r2
   have f0:=frozen_of_arr hb 0
   have f1:=frozen_of_arr hb 1
   have f2:=frozen_of_arr hb 2
   clear hb
   go_upto_region 30 with fail
   clear r0 r1 r2 f0 f1 f2
   generalize (((W1.setCell ⟨b30,0,none⟩ (.int .i64 (Tm.mk 3 0 [Tm.tup [th2,p2,cr]]).op)).setCell ⟨b30,1,none⟩ (.int .i64 (Tm.mk 3 0 [Tm.tup [th2,p2,cr]]).num)).setCell ⟨b30,2,none⟩ (.slice a n c'))=w13 at *
   clear W1
   obtain ⟨HG0,HB0,HZ⟩:=And.intro HS (And.intro HB2 HZ2)
   clear HS HB2 HZ2
   generalize he_th3:Tm.mk 3 0 [Tm.tup [th2,p2,cr]]=th3 at *
   have E_th3:=Lib.hid he_th3
   clear he_th3
   refine region_tm (M:=2) [.tm prk3,.cell w13.heap.size] (by kernel_rfl) (by kernel_rfl) HG0.out ?_ ?_
   ·refine ⟨fun vs W hR hG hd=>?_,fun vs W hR hG hd=>?_,trivial⟩
    ·exact does_load hG (.tmp 23) b26 prk3 (by simp) rfl (by kernel_rfl)
    ·exact does_alloc hG _ hR.size rfl
   intro vs W1 hR1 hG1 hf
   obtain ⟨z,a,n,c',ev,hT,hn⟩:=hf 0 (by decide)
   obtain ⟨b31,eb,hb,hlo⟩:=hf 1 (by decide)
   have HB1:=Lib.hid (HB0.out.trans (hR1.mono HB0.out.size))
   have hlt:=HG0.out.lt
   have hs1:=HB0.out.size
   have hz1:=lt_of_block HZ.out
   have HZ1:=Below.keep hR1 HZ.out hz1
   have D_b31:Hid ((∀ p ∈ ([(b30,th3),(b29,m2),(b28,p2),(b27x,proof2),(b27,mac2),(b26,prk3),(b25,prk2),(b24,th2),(b23,m1),(b22,cr),(b21,ci)]:List (Nat × Tm)),p.1≠b31)∧w.heap.size < b31):=⟨fun p hp e=>by have:=hlt p hp;omega,by omega⟩
   simp only [Rg.putAll,Rg.putFrom,List.take_succ_cons,List.take_zero,List.drop_succ_cons,List.drop_zero,Act.put,List.setIfInBounds_toArray,List.set_cons_zero,List.set_cons_succ,ev,eb]
   clear ev eb hf
   have HS:=Lib.hid (GM.stored hG1 hb (fun p hp e=>by have:=hlt p hp;omega) z hT hn).1
   have HB2:=Lib.hid (RB.stored HB1.out (by omega) (.int .i64 (prk3).op) (.int .i64 (prk3).num) (.slice a n c') (b:=b31))
   have HZ2:=Lib.hid (((put3 hb (.int .i64 (prk3).op) (.int .i64 (prk3).num) (.slice a n c') _ rfl).2.1 w.heap.size (by omega)).trans HZ1)
   clear HG0 HB0 HZ HZ1 hz1 hlt hs1 hR1 hG1 hT HB1 z hn hlo
   have r0:=cell_of_arr hb 0
   have r1:=cell_of_arr hb 1
   have r2:=cell_of_arr hb 2
   simp at r0 r1 r2
   have f0:=frozen_of_arr hb 0
   have f1:=frozen_of_arr hb 1
   have f2:=frozen_of_arr hb 2
   clear hb
   go_upto_if 191 with fail
   clear r0 r1 r2 f0 f1 f2
   generalize (((W1.setCell ⟨b31,0,none⟩ (.int .i64 (prk3).op)).setCell ⟨b31,1,none⟩ (.int .i64 (prk3).num)).setCell ⟨b31,2,none⟩ (.slice a n c'))=w14 at *
   clear W1
   obtain ⟨HG0,HB0,HZ⟩:=And.intro HS (And.intro HB2 HZ2)
   clear HS HB2 HZ2
   go_cut [192] from 192 to 202 (fun _ W=>Below w.heap.size w W∧W.heap[w.heap.size]?=some (.cells #[.int .i64 0,.int .i64 0,.slice none 0 0] 28 (0,0))∧GM w.heap.size ((b31,(if I=true then Tm.kdf (Tm.tup [prk3,Tm.mk 7 0 [Tm.nm i,Tm.nm y]]) 5 th3 else prk3)) :: [(b30,th3),(b29,m2),(b28,p2),(b27x,proof2),(b27,mac2),(b26,prk3),(b25,prk2),(b24,th2),(b23,m1),(b22,cr),(b21,ci)]) W)
   case first=>
    cases I with
    | true=>
      go_upto_region 32 with fail
      refine region_tm (M:=11) [.tm prk3,.eq (.int .i64 i),.tm (Tm.nm i),.eq (.int .i64 y),.tm (Tm.nm y),.tl [Tm.nm i,Tm.nm y],.tm (Tm.mk 7 0 [Tm.nm i,Tm.nm y]),.tl [prk3,Tm.mk 7 0 [Tm.nm i,Tm.nm y]],.tm (Tm.tup [prk3,Tm.mk 7 0 [Tm.nm i,Tm.nm y]]),.tm th3,.tm (Tm.kdf (Tm.tup [prk3,Tm.mk 7 0 [Tm.nm i,Tm.nm y]]) 5 th3)] (by kernel_rfl) (by kernel_rfl) HG0.out ?_ ?_
      ·refine ⟨fun vs W hR hG hd=>?_,fun vs W hR hG hd=>?_,fun vs W hR hG hd=>?_,fun vs W hR hG hd=>?_,fun vs W hR hG hd=>?_,fun vs W hR hG hd=>?_,fun vs W hR hG hd=>?_,fun vs W hR hG hd=>?_,fun vs W hR hG hd=>?_,fun vs W hR hG hd=>?_,fun vs W hR hG hd=>?_,trivial⟩
       ·exact does_load hG (.tmp 23) b26 prk3 (by simp) rfl (by kernel_rfl)
       ·exact Rg.Does.move (.tmp 3) rfl ⟨RB.refl _,hG,show _=_ by kernel_rfl⟩
       ·have e1:vs 1=.int .i64 i:=hd 1 (by decide);exact does_call (vals:=#[vs 1]) 52 (.func 52) #[.tmp 193] _ rfl (by kernel_rfl) (by kernel_rfl) (cf 52 _ Tryd.func52 (by kernel_rfl) (by kernel_rfl) _) (by rw [e1];exact rname_ends hG i)
       ·exact Rg.Does.move (.tmp 2) rfl ⟨RB.refl _,hG,show _=_ by kernel_rfl⟩
       ·have e3:vs 3=.int .i64 y:=hd 3 (by decide);exact does_call (vals:=#[vs 3]) 52 (.func 52) #[.tmp 195] _ rfl (by kernel_rfl) (by kernel_rfl) (cf 52 _ Tryd.func52 (by kernel_rfl) (by kernel_rfl) _) (by rw [e3];exact rname_ends hG y)
       ·exact does_row2 hG (.tmp 194) (.tmp 196) (Tm.nm i) (Tm.nm y) rfl (hd 2 (by decide)) (hd 4 (by decide))
       ·exact does_call (vals:=#[.int .i64 7,vs 5]) 54 (.func 54) #[.const (.int .i64 7),.tmp 197] _ rfl (by kernel_rfl) (by kernel_rfl) (cf 54 _ Tryd.func54 (by kernel_rfl) (by kernel_rfl) _) (rnode_ends hG 7 (by decide) (hd 5 (by decide)))
       ·exact does_row2 hG (.tmp 192) (.tmp 198) prk3 (Tm.mk 7 0 [Tm.nm i,Tm.nm y]) rfl (hd 0 (by decide)) (hd 6 (by decide))
       ·exact does_call (vals:=#[vs 7]) 51 (.func 51) #[.tmp 199] _ rfl (by kernel_rfl) (by kernel_rfl) (cf 51 _ Tryd.func51 (by kernel_rfl) (by kernel_rfl) _) (rtuple_ends hG (by simp) (hd 7 (by decide)))
       ·exact does_load hG (.tmp 28) b30 th3 (by simp) rfl (by kernel_rfl)
       ·exact does_call (vals:=#[vs 8,.int .i64 5,vs 9]) 55 (.func 55) #[.tmp 200,.const (.int .i64 5),.tmp 201] _ rfl (by kernel_rfl) (by kernel_rfl) (cf 55 _ Tryd.func55 (by kernel_rfl) (by kernel_rfl) _) (rkdf_ends hG (hd 8 (by decide)) (hd 9 (by decide)) 5)
      intro vs W1 hR1 hG1 hf
      obtain ⟨z,a,n,c',ev,hT,hn⟩:=hf 10 (by decide)
      have HB1:=Lib.hid (HB0.out.trans (hR1.mono HB0.out.size))
      have hs1:=lt_of_block HZ.out
      have HZ1:=Below.keep hR1 HZ.out hs1
      obtain ⟨a0,n0,c0',hb⟩:=hG1.head
      simp only [Rg.putAll,Rg.putFrom,List.take_succ_cons,List.take_zero,List.drop_succ_cons,List.drop_zero,Act.put,List.setIfInBounds_toArray,List.set_cons_zero,List.set_cons_succ,ev]
      clear ev hf
      have HS:=Lib.hid (GM.restored hG1 D_b31.out.1 z hT hn)
      have HB2:=Lib.hid (RB.stored HB1.out (by have:=D_b31.out.2;omega) (.int .i64 (Tm.kdf (Tm.tup [prk3,Tm.mk 7 0 [Tm.nm i,Tm.nm y]]) 5 th3).op) (.int .i64 (Tm.kdf (Tm.tup [prk3,Tm.mk 7 0 [Tm.nm i,Tm.nm y]]) 5 th3).num) (.slice a n c') (b:=b31))
      have HZ2:=Lib.hid (((put3 hb (.int .i64 (Tm.kdf (Tm.tup [prk3,Tm.mk 7 0 [Tm.nm i,Tm.nm y]]) 5 th3).op) (.int .i64 (Tm.kdf (Tm.tup [prk3,Tm.mk 7 0 [Tm.nm i,Tm.nm y]]) 5 th3).num) (.slice a n c') _ rfl).2.1 w.heap.size (by have:=D_b31.out.2;omega)).trans HZ1)
      clear HG0 HB0 HZ HZ1 hs1 hR1 hG1 hT HB1 z hn
      have r0:=cell_of_arr hb 0
      have r1:=cell_of_arr hb 1
      have r2:=cell_of_arr hb 2
      simp at r0 r1 r2
      have f0:=frozen_of_arr hb 0
      have f1:=frozen_of_arr hb 1
      have f2:=frozen_of_arr hb 2
      clear hb
      go_wp2_with fail
      go_meet
      case rel=>exact ⟨HB2.out,HZ2.out,HS.out⟩
    | false=>
      go_wp2_with fail
      go_meet
      case rel=>exact ⟨HB0.out,HZ.out,HG0.out⟩
   case rest=>
   obtain ⟨HBc,HZc,HGc⟩:=hcut
   have HG0':=Lib.hid HGc
   have HB0':=Lib.hid HBc
   have HZ':=Lib.hid HZc
   clear HBc HZc HGc HG0 HB0 HZ
   obtain ⟨HG0,HB0,HZ⟩:=And.intro HG0' (And.intro HB0' HZ')
   clear HG0' HB0' HZ'
   generalize wc=w15 at *
   generalize he_prk4:(if I=true then Tm.kdf (Tm.tup [prk3,Tm.mk 7 0 [Tm.nm i,Tm.nm y]]) 5 th3 else prk3)=prk4 at *
   have E_prk4:=Lib.hid he_prk4
   clear he_prk4
   go_upto_region 33 with fail
   refine region_tm (M:=7) [.tm prk4,.tm th3,.tm ci,.tl [th3,ci],.tm (Tm.tup [th3,ci]),.tm (Tm.kdf prk4 6 (Tm.tup [th3,ci])),.cell w15.heap.size] (by kernel_rfl) (by kernel_rfl) HG0.out ?_ ?_
   ·refine ⟨fun vs W hR hG hd=>?_,fun vs W hR hG hd=>?_,fun vs W hR hG hd=>?_,fun vs W hR hG hd=>?_,fun vs W hR hG hd=>?_,fun vs W hR hG hd=>?_,fun vs W hR hG hd=>?_,trivial⟩
    ·exact does_load hG (.tmp 29) b31 prk4 (by simp) rfl (by kernel_rfl)
    ·exact does_load hG (.tmp 28) b30 th3 (by simp) rfl (by kernel_rfl)
    ·exact does_load hG (.tmp 18) b21 ci (by simp) rfl (by kernel_rfl)
    ·exact does_row2 hG (.tmp 204) (.tmp 205) th3 ci rfl (hd 1 (by decide)) (hd 2 (by decide))
    ·exact does_call (vals:=#[vs 3]) 51 (.func 51) #[.tmp 206] _ rfl (by kernel_rfl) (by kernel_rfl) (cf 51 _ Tryd.func51 (by kernel_rfl) (by kernel_rfl) _) (rtuple_ends hG (by simp) (hd 3 (by decide)))
    ·exact does_call (vals:=#[vs 0,.int .i64 6,vs 4]) 55 (.func 55) #[.tmp 203,.const (.int .i64 6),.tmp 207] _ rfl (by kernel_rfl) (by kernel_rfl) (cf 55 _ Tryd.func55 (by kernel_rfl) (by kernel_rfl) _) (rkdf_ends hG (hd 0 (by decide)) (hd 4 (by decide)) 6)
    ·exact does_alloc hG _ hR.size rfl
   intro vs W1 hR1 hG1 hf
   obtain ⟨z,a,n,c',ev,hT,hn⟩:=hf 5 (by decide)
   obtain ⟨b32,eb,hb,hlo⟩:=hf 6 (by decide)
   have HB1:=Lib.hid (HB0.out.trans (hR1.mono HB0.out.size))
   have hlt:=HG0.out.lt
   have hs1:=HB0.out.size
   have hz1:=lt_of_block HZ.out
   have HZ1:=Below.keep hR1 HZ.out hz1
   have D_b32:Hid ((∀ p ∈ ([(b31,prk4),(b30,th3),(b29,m2),(b28,p2),(b27x,proof2),(b27,mac2),(b26,prk3),(b25,prk2),(b24,th2),(b23,m1),(b22,cr),(b21,ci)]:List (Nat × Tm)),p.1≠b32)∧w.heap.size < b32):=⟨fun p hp e=>by have:=hlt p hp;omega,by omega⟩
   simp only [Rg.putAll,Rg.putFrom,List.take_succ_cons,List.take_zero,List.drop_succ_cons,List.drop_zero,Act.put,List.setIfInBounds_toArray,List.set_cons_zero,List.set_cons_succ,ev,eb]
   clear ev eb hf
   have HS:=Lib.hid (GM.stored hG1 hb (fun p hp e=>by have:=hlt p hp;omega) z hT hn).1
   have HB2:=Lib.hid (RB.stored HB1.out (by omega) (.int .i64 (Tm.kdf prk4 6 (Tm.tup [th3,ci])).op) (.int .i64 (Tm.kdf prk4 6 (Tm.tup [th3,ci])).num) (.slice a n c') (b:=b32))
   have HZ2:=Lib.hid (((put3 hb (.int .i64 (Tm.kdf prk4 6 (Tm.tup [th3,ci])).op) (.int .i64 (Tm.kdf prk4 6 (Tm.tup [th3,ci])).num) (.slice a n c') _ rfl).2.1 w.heap.size (by omega)).trans HZ1)
   clear HG0 HB0 HZ HZ1 hz1 hlt hs1 hR1 hG1 hT HB1 z hn hlo
   have r0:=cell_of_arr hb 0
   have r1:=cell_of_arr hb 1
   have r2:=cell_of_arr hb 2
   simp at r0 r1 r2
   have f0:=frozen_of_arr hb 0
   have f1:=frozen_of_arr hb 1
   have f2:=frozen_of_arr hb 2
   clear hb
   go_upto_region 34 with fail
   clear r0 r1 r2 f0 f1 f2
   generalize (((W1.setCell ⟨b32,0,none⟩ (.int .i64 (Tm.kdf prk4 6 (Tm.tup [th3,ci])).op)).setCell ⟨b32,1,none⟩ (.int .i64 (Tm.kdf prk4 6 (Tm.tup [th3,ci])).num)).setCell ⟨b32,2,none⟩ (.slice a n c'))=w16 at *
   clear W1
   obtain ⟨HG0,HB0,HZ⟩:=And.intro HS (And.intro HB2 HZ2)
   clear HS HB2 HZ2
   generalize he_mac3:Tm.kdf prk4 6 (Tm.tup [th3,ci])=mac3 at *
   have E_mac3:=Lib.hid he_mac3
   clear he_mac3
   refine region_tm (M:=2) [.tm mac3,.cell w16.heap.size] (by kernel_rfl) (by kernel_rfl) HG0.out ?_ ?_
   ·refine ⟨fun vs W hR hG hd=>?_,fun vs W hR hG hd=>?_,trivial⟩
    ·exact does_load hG (.tmp 30) b32 mac3 (by simp) rfl (by kernel_rfl)
    ·exact does_alloc hG _ hR.size rfl
   intro vs W1 hR1 hG1 hf
   obtain ⟨z,a,n,c',ev,hT,hn⟩:=hf 0 (by decide)
   obtain ⟨b32x,eb,hb,hlo⟩:=hf 1 (by decide)
   have HB1:=Lib.hid (HB0.out.trans (hR1.mono HB0.out.size))
   have hlt:=HG0.out.lt
   have hs1:=HB0.out.size
   have hz1:=lt_of_block HZ.out
   have HZ1:=Below.keep hR1 HZ.out hz1
   have D_b32x:Hid ((∀ p ∈ ([(b32,mac3),(b31,prk4),(b30,th3),(b29,m2),(b28,p2),(b27x,proof2),(b27,mac2),(b26,prk3),(b25,prk2),(b24,th2),(b23,m1),(b22,cr),(b21,ci)]:List (Nat × Tm)),p.1≠b32x)∧w.heap.size < b32x):=⟨fun p hp e=>by have:=hlt p hp;omega,by omega⟩
   simp only [Rg.putAll,Rg.putFrom,List.take_succ_cons,List.take_zero,List.drop_succ_cons,List.drop_zero,Act.put,List.setIfInBounds_toArray,List.set_cons_zero,List.set_cons_succ,ev,eb]
   clear ev eb hf
   have HS:=Lib.hid (GM.stored hG1 hb (fun p hp e=>by have:=hlt p hp;omega) z hT hn).1
   have HB2:=Lib.hid (RB.stored HB1.out (by omega) (.int .i64 (mac3).op) (.int .i64 (mac3).num) (.slice a n c') (b:=b32x))
   have HZ2:=Lib.hid (((put3 hb (.int .i64 (mac3).op) (.int .i64 (mac3).num) (.slice a n c') _ rfl).2.1 w.heap.size (by omega)).trans HZ1)
   clear HG0 HB0 HZ HZ1 hz1 hlt hs1 hR1 hG1 hT HB1 z hn hlo
   have r0:=cell_of_arr hb 0
   have r1:=cell_of_arr hb 1
   have r2:=cell_of_arr hb 2
   simp at r0 r1 r2
   have f0:=frozen_of_arr hb 0
   have f1:=frozen_of_arr hb 1
   have f2:=frozen_of_arr hb 2
   clear hb
   go_upto_if 211 with fail
   clear r0 r1 r2 f0 f1 f2
   generalize (((W1.setCell ⟨b32x,0,none⟩ (.int .i64 (mac3).op)).setCell ⟨b32x,1,none⟩ (.int .i64 (mac3).num)).setCell ⟨b32x,2,none⟩ (.slice a n c'))=w17 at *
   clear W1
   obtain ⟨HG0,HB0,HZ⟩:=And.intro HS (And.intro HB2 HZ2)
   clear HS HB2 HZ2
   go_cut [212] from 212 to 220 (fun _ W=>Below w.heap.size w W∧W.heap[w.heap.size]?=some (.cells #[.int .i64 0,.int .i64 0,.slice none 0 0] 28 (0,0))∧GM w.heap.size ((b32x,(if I=false then Tm.mk 5 0 [Tm.nm i,Tm.tup [th3,ci,mac3]] else mac3)) :: [(b32,mac3),(b31,prk4),(b30,th3),(b29,m2),(b28,p2),(b27x,proof2),(b27,mac2),(b26,prk3),(b25,prk2),(b24,th2),(b23,m1),(b22,cr),(b21,ci)]) W)
   case first=>
    cases I with
    | true=>
      go_wp2_with fail
      go_meet
      case rel=>exact ⟨HB0.out,HZ.out,HG0.out⟩
    | false=>
      go_upto_region 36 with fail
      refine region_tm (M:=9) [.eq (.int .i64 i),.tm (Tm.nm i),.tm th3,.tm ci,.tm mac3,.tl [th3,ci,mac3],.tm (Tm.tup [th3,ci,mac3]),.tl [Tm.nm i,Tm.tup [th3,ci,mac3]],.tm (Tm.mk 5 0 [Tm.nm i,Tm.tup [th3,ci,mac3]])] (by kernel_rfl) (by kernel_rfl) HG0.out ?_ ?_
      ·refine ⟨fun vs W hR hG hd=>?_,fun vs W hR hG hd=>?_,fun vs W hR hG hd=>?_,fun vs W hR hG hd=>?_,fun vs W hR hG hd=>?_,fun vs W hR hG hd=>?_,fun vs W hR hG hd=>?_,fun vs W hR hG hd=>?_,fun vs W hR hG hd=>?_,trivial⟩
       ·exact Rg.Does.move (.tmp 3) rfl ⟨RB.refl _,hG,show _=_ by kernel_rfl⟩
       ·have e0:vs 0=.int .i64 i:=hd 0 (by decide);exact does_call (vals:=#[vs 0]) 52 (.func 52) #[.tmp 212] _ rfl (by kernel_rfl) (by kernel_rfl) (cf 52 _ Tryd.func52 (by kernel_rfl) (by kernel_rfl) _) (by rw [e0];exact rname_ends hG i)
       ·exact does_load hG (.tmp 28) b30 th3 (by simp) rfl (by kernel_rfl)
       ·exact does_load hG (.tmp 18) b21 ci (by simp) rfl (by kernel_rfl)
       ·exact does_load hG (.tmp 30) b32 mac3 (by simp) rfl (by kernel_rfl)
       ·exact does_row3 hG (.tmp 214) (.tmp 215) (.tmp 216) th3 ci mac3 rfl (hd 2 (by decide)) (hd 3 (by decide)) (hd 4 (by decide))
       ·exact does_call (vals:=#[vs 5]) 51 (.func 51) #[.tmp 217] _ rfl (by kernel_rfl) (by kernel_rfl) (cf 51 _ Tryd.func51 (by kernel_rfl) (by kernel_rfl) _) (rtuple_ends hG (by simp) (hd 5 (by decide)))
       ·exact does_row2 hG (.tmp 213) (.tmp 218) (Tm.nm i) (Tm.tup [th3,ci,mac3]) rfl (hd 1 (by decide)) (hd 6 (by decide))
       ·exact does_call (vals:=#[.int .i64 5,vs 7]) 54 (.func 54) #[.const (.int .i64 5),.tmp 219] _ rfl (by kernel_rfl) (by kernel_rfl) (cf 54 _ Tryd.func54 (by kernel_rfl) (by kernel_rfl) _) (rnode_ends hG 5 (by decide) (hd 7 (by decide)))
      intro vs W1 hR1 hG1 hf
      obtain ⟨z,a,n,c',ev,hT,hn⟩:=hf 8 (by decide)
      have HB1:=Lib.hid (HB0.out.trans (hR1.mono HB0.out.size))
      have hs1:=lt_of_block HZ.out
      have HZ1:=Below.keep hR1 HZ.out hs1
      obtain ⟨a0,n0,c0',hb⟩:=hG1.head
      simp only [Rg.putAll,Rg.putFrom,List.take_succ_cons,List.take_zero,List.drop_succ_cons,List.drop_zero,Act.put,List.setIfInBounds_toArray,List.set_cons_zero,List.set_cons_succ,ev]
      clear ev hf
      have HS:=Lib.hid (GM.restored hG1 D_b32x.out.1 z hT hn)
      have HB2:=Lib.hid (RB.stored HB1.out (by have:=D_b32x.out.2;omega) (.int .i64 (Tm.mk 5 0 [Tm.nm i,Tm.tup [th3,ci,mac3]]).op) (.int .i64 (Tm.mk 5 0 [Tm.nm i,Tm.tup [th3,ci,mac3]]).num) (.slice a n c') (b:=b32x))
      have HZ2:=Lib.hid (((put3 hb (.int .i64 (Tm.mk 5 0 [Tm.nm i,Tm.tup [th3,ci,mac3]]).op) (.int .i64 (Tm.mk 5 0 [Tm.nm i,Tm.tup [th3,ci,mac3]]).num) (.slice a n c') _ rfl).2.1 w.heap.size (by have:=D_b32x.out.2;omega)).trans HZ1)
      clear HG0 HB0 HZ HZ1 hs1 hR1 hG1 hT HB1 z hn
      have r0:=cell_of_arr hb 0
      have r1:=cell_of_arr hb 1
      have r2:=cell_of_arr hb 2
      simp at r0 r1 r2
      have f0:=frozen_of_arr hb 0
      have f1:=frozen_of_arr hb 1
      have f2:=frozen_of_arr hb 2
      clear hb
      go_wp2_with fail
      go_meet
      case rel=>exact ⟨HB2.out,HZ2.out,HS.out⟩
   case rest=>
   obtain ⟨HBc,HZc,HGc⟩:=hcut
   have HG0':=Lib.hid HGc
   have HB0':=Lib.hid HBc
   have HZ':=Lib.hid HZc
   clear HBc HZc HGc HG0 HB0 HZ
   obtain ⟨HG0,HB0,HZ⟩:=And.intro HG0' (And.intro HB0' HZ')
   clear HG0' HB0' HZ'
   generalize wc=w18 at *
   generalize he_proof3:(if I=false then Tm.mk 5 0 [Tm.nm i,Tm.tup [th3,ci,mac3]] else mac3)=proof3 at *
   have E_proof3:=Lib.hid he_proof3
   clear he_proof3
   go_upto_region 37 with fail
   refine region_tm (M:=5) [.tm ci,.tm proof3,.tl [ci,proof3],.tm (Tm.tup [ci,proof3]),.cell w18.heap.size] (by kernel_rfl) (by kernel_rfl) HG0.out ?_ ?_
   ·refine ⟨fun vs W hR hG hd=>?_,fun vs W hR hG hd=>?_,fun vs W hR hG hd=>?_,fun vs W hR hG hd=>?_,fun vs W hR hG hd=>?_,trivial⟩
    ·exact does_load hG (.tmp 18) b21 ci (by simp) rfl (by kernel_rfl)
    ·exact does_load hG (.tmp 31) b32x proof3 (by simp) rfl (by kernel_rfl)
    ·exact does_row2 hG (.tmp 221) (.tmp 222) ci proof3 rfl (hd 0 (by decide)) (hd 1 (by decide))
    ·exact does_call (vals:=#[vs 2]) 51 (.func 51) #[.tmp 223] _ rfl (by kernel_rfl) (by kernel_rfl) (cf 51 _ Tryd.func51 (by kernel_rfl) (by kernel_rfl) _) (rtuple_ends hG (by simp) (hd 2 (by decide)))
    ·exact does_alloc hG _ hR.size rfl
   intro vs W1 hR1 hG1 hf
   obtain ⟨z,a,n,c',ev,hT,hn⟩:=hf 3 (by decide)
   obtain ⟨b33,eb,hb,hlo⟩:=hf 4 (by decide)
   have HB1:=Lib.hid (HB0.out.trans (hR1.mono HB0.out.size))
   have hlt:=HG0.out.lt
   have hs1:=HB0.out.size
   have hz1:=lt_of_block HZ.out
   have HZ1:=Below.keep hR1 HZ.out hz1
   have D_b33:Hid ((∀ p ∈ ([(b32x,proof3),(b32,mac3),(b31,prk4),(b30,th3),(b29,m2),(b28,p2),(b27x,proof2),(b27,mac2),(b26,prk3),(b25,prk2),(b24,th2),(b23,m1),(b22,cr),(b21,ci)]:List (Nat × Tm)),p.1≠b33)∧w.heap.size < b33):=⟨fun p hp e=>by have:=hlt p hp;omega,by omega⟩
   simp only [Rg.putAll,Rg.putFrom,List.take_succ_cons,List.take_zero,List.drop_succ_cons,List.drop_zero,Act.put,List.setIfInBounds_toArray,List.set_cons_zero,List.set_cons_succ,ev,eb]
   clear ev eb hf
   have HS:=Lib.hid (GM.stored hG1 hb (fun p hp e=>by have:=hlt p hp;omega) z hT hn).1
   have HB2:=Lib.hid (RB.stored HB1.out (by omega) (.int .i64 (Tm.tup [ci,proof3]).op) (.int .i64 (Tm.tup [ci,proof3]).num) (.slice a n c') (b:=b33))
   have HZ2:=Lib.hid (((put3 hb (.int .i64 (Tm.tup [ci,proof3]).op) (.int .i64 (Tm.tup [ci,proof3]).num) (.slice a n c') _ rfl).2.1 w.heap.size (by omega)).trans HZ1)
   clear HG0 HB0 HZ HZ1 hz1 hlt hs1 hR1 hG1 hT HB1 z hn hlo
   have r0:=cell_of_arr hb 0
   have r1:=cell_of_arr hb 1
   have r2:=cell_of_arr hb 2
   simp at r0 r1 r2
   have f0:=frozen_of_arr hb 0
   have f1:=frozen_of_arr hb 1
   have f2:=frozen_of_arr hb 2
   clear hb
   go_upto_region 38 with fail
   clear r0 r1 r2 f0 f1 f2
   generalize (((W1.setCell ⟨b33,0,none⟩ (.int .i64 (Tm.tup [ci,proof3]).op)).setCell ⟨b33,1,none⟩ (.int .i64 (Tm.tup [ci,proof3]).num)).setCell ⟨b33,2,none⟩ (.slice a n c'))=w19 at *
   clear W1
   obtain ⟨HG0,HB0,HZ⟩:=And.intro HS (And.intro HB2 HZ2)
   clear HS HB2 HZ2
   generalize he_p3:Tm.tup [ci,proof3]=p3 at *
   have E_p3:=Lib.hid he_p3
   clear he_p3
   refine region_tm (M:=11) [.tm prk3,.tm th3,.tm (Tm.kdf prk3 3 th3),.tm prk3,.tm th3,.tm (Tm.kdf prk3 4 th3),.tm th3,.tm p3,.tl [Tm.kdf prk3 3 th3,Tm.kdf prk3 4 th3,th3,p3],.tm (Tm.mk 4 0 [Tm.kdf prk3 3 th3,Tm.kdf prk3 4 th3,th3,p3]),.cell w19.heap.size] (by kernel_rfl) (by kernel_rfl) HG0.out ?_ ?_
   ·refine ⟨fun vs W hR hG hd=>?_,fun vs W hR hG hd=>?_,fun vs W hR hG hd=>?_,fun vs W hR hG hd=>?_,fun vs W hR hG hd=>?_,fun vs W hR hG hd=>?_,fun vs W hR hG hd=>?_,fun vs W hR hG hd=>?_,fun vs W hR hG hd=>?_,fun vs W hR hG hd=>?_,fun vs W hR hG hd=>?_,trivial⟩
    ·exact does_load hG (.tmp 23) b26 prk3 (by simp) rfl (by kernel_rfl)
    ·exact does_load hG (.tmp 28) b30 th3 (by simp) rfl (by kernel_rfl)
    ·exact does_call (vals:=#[vs 0,.int .i64 3,vs 1]) 55 (.func 55) #[.tmp 225,.const (.int .i64 3),.tmp 226] _ rfl (by kernel_rfl) (by kernel_rfl) (cf 55 _ Tryd.func55 (by kernel_rfl) (by kernel_rfl) _) (rkdf_ends hG (hd 0 (by decide)) (hd 1 (by decide)) 3)
    ·exact does_load hG (.tmp 23) b26 prk3 (by simp) rfl (by kernel_rfl)
    ·exact does_load hG (.tmp 28) b30 th3 (by simp) rfl (by kernel_rfl)
    ·exact does_call (vals:=#[vs 3,.int .i64 4,vs 4]) 55 (.func 55) #[.tmp 228,.const (.int .i64 4),.tmp 229] _ rfl (by kernel_rfl) (by kernel_rfl) (cf 55 _ Tryd.func55 (by kernel_rfl) (by kernel_rfl) _) (rkdf_ends hG (hd 3 (by decide)) (hd 4 (by decide)) 4)
    ·exact does_load hG (.tmp 28) b30 th3 (by simp) rfl (by kernel_rfl)
    ·exact does_load hG (.tmp 32) b33 p3 (by simp) rfl (by kernel_rfl)
    ·exact does_row4 hG (.tmp 227) (.tmp 230) (.tmp 231) (.tmp 232) (Tm.kdf prk3 3 th3) (Tm.kdf prk3 4 th3) th3 p3 rfl (hd 2 (by decide)) (hd 5 (by decide)) (hd 6 (by decide)) (hd 7 (by decide))
    ·exact does_call (vals:=#[.int .i64 4,vs 8]) 54 (.func 54) #[.const (.int .i64 4),.tmp 233] _ rfl (by kernel_rfl) (by kernel_rfl) (cf 54 _ Tryd.func54 (by kernel_rfl) (by kernel_rfl) _) (rnode_ends hG 4 (by decide) (hd 8 (by decide)))
    ·exact does_alloc hG _ hR.size rfl
   intro vs W1 hR1 hG1 hf
   obtain ⟨z,a,n,c',ev,hT,hn⟩:=hf 9 (by decide)
   obtain ⟨b34,eb,hb,hlo⟩:=hf 10 (by decide)
   have HB1:=Lib.hid (HB0.out.trans (hR1.mono HB0.out.size))
   have hlt:=HG0.out.lt
   have hs1:=HB0.out.size
   have hz1:=lt_of_block HZ.out
   have HZ1:=Below.keep hR1 HZ.out hz1
   have D_b34:Hid ((∀ p ∈ ([(b33,p3),(b32x,proof3),(b32,mac3),(b31,prk4),(b30,th3),(b29,m2),(b28,p2),(b27x,proof2),(b27,mac2),(b26,prk3),(b25,prk2),(b24,th2),(b23,m1),(b22,cr),(b21,ci)]:List (Nat × Tm)),p.1≠b34)∧w.heap.size < b34):=⟨fun p hp e=>by have:=hlt p hp;omega,by omega⟩
   simp only [Rg.putAll,Rg.putFrom,List.take_succ_cons,List.take_zero,List.drop_succ_cons,List.drop_zero,Act.put,List.setIfInBounds_toArray,List.set_cons_zero,List.set_cons_succ,ev,eb]
   clear ev eb hf
   have HS:=Lib.hid (GM.stored hG1 hb (fun p hp e=>by have:=hlt p hp;omega) z hT hn).1
   have HB2:=Lib.hid (RB.stored HB1.out (by omega) (.int .i64 (Tm.mk 4 0 [Tm.kdf prk3 3 th3,Tm.kdf prk3 4 th3,th3,p3]).op) (.int .i64 (Tm.mk 4 0 [Tm.kdf prk3 3 th3,Tm.kdf prk3 4 th3,th3,p3]).num) (.slice a n c') (b:=b34))
   have HZ2:=Lib.hid (((put3 hb (.int .i64 (Tm.mk 4 0 [Tm.kdf prk3 3 th3,Tm.kdf prk3 4 th3,th3,p3]).op) (.int .i64 (Tm.mk 4 0 [Tm.kdf prk3 3 th3,Tm.kdf prk3 4 th3,th3,p3]).num) (.slice a n c') _ rfl).2.1 w.heap.size (by omega)).trans HZ1)
   clear HG0 HB0 HZ HZ1 hz1 hlt hs1 hR1 hG1 hT HB1 z hn hlo
   have r0:=cell_of_arr hb 0
   have r1:=cell_of_arr hb 1
   have r2:=cell_of_arr hb 2
   simp at r0 r1 r2
   have f0:=frozen_of_arr hb 0
   have f1:=frozen_of_arr hb 1
   have f2:=frozen_of_arr hb 2
   clear hb
   go_upto_region 39 with fail
   clear r0 r1 r2 f0 f1 f2
   generalize (((W1.setCell ⟨b34,0,none⟩ (.int .i64 (Tm.mk 4 0 [Tm.kdf prk3 3 th3,Tm.kdf prk3 4 th3,th3,p3]).op)).setCell ⟨b34,1,none⟩ (.int .i64 (Tm.mk 4 0 [Tm.kdf prk3 3 th3,Tm.kdf prk3 4 th3,th3,p3]).num)).setCell ⟨b34,2,none⟩ (.slice a n c'))=w20 at *
   clear W1
   obtain ⟨HG0,HB0,HZ⟩:=And.intro HS (And.intro HB2 HZ2)
   clear HS HB2 HZ2
   generalize he_m3:Tm.mk 4 0 [Tm.kdf prk3 3 th3,Tm.kdf prk3 4 th3,th3,p3]=m3 at *
   have E_m3:=Lib.hid he_m3
   clear he_m3
   refine region_tm (M:=8) [.tm th3,.tm p3,.tm ci,.tl [th3,p3,ci],.tm (Tm.tup [th3,p3,ci]),.tl [Tm.tup [th3,p3,ci]],.tm (Tm.mk 3 0 [Tm.tup [th3,p3,ci]]),.cell w20.heap.size] (by kernel_rfl) (by kernel_rfl) HG0.out ?_ ?_
   ·refine ⟨fun vs W hR hG hd=>?_,fun vs W hR hG hd=>?_,fun vs W hR hG hd=>?_,fun vs W hR hG hd=>?_,fun vs W hR hG hd=>?_,fun vs W hR hG hd=>?_,fun vs W hR hG hd=>?_,fun vs W hR hG hd=>?_,trivial⟩
    ·exact does_load hG (.tmp 28) b30 th3 (by simp) rfl (by kernel_rfl)
    ·exact does_load hG (.tmp 32) b33 p3 (by simp) rfl (by kernel_rfl)
    ·exact does_load hG (.tmp 18) b21 ci (by simp) rfl (by kernel_rfl)
    ·exact does_row3 hG (.tmp 235) (.tmp 236) (.tmp 237) th3 p3 ci rfl (hd 0 (by decide)) (hd 1 (by decide)) (hd 2 (by decide))
    ·exact does_call (vals:=#[vs 3]) 51 (.func 51) #[.tmp 238] _ rfl (by kernel_rfl) (by kernel_rfl) (cf 51 _ Tryd.func51 (by kernel_rfl) (by kernel_rfl) _) (rtuple_ends hG (by simp) (hd 3 (by decide)))
    ·exact does_row1 hG (.tmp 239) (Tm.tup [th3,p3,ci]) rfl (hd 4 (by decide))
    ·exact does_call (vals:=#[.int .i64 3,vs 5]) 54 (.func 54) #[.const (.int .i64 3),.tmp 240] _ rfl (by kernel_rfl) (by kernel_rfl) (cf 54 _ Tryd.func54 (by kernel_rfl) (by kernel_rfl) _) (rnode_ends hG 3 (by decide) (hd 5 (by decide)))
    ·exact does_alloc hG _ hR.size rfl
   intro vs W1 hR1 hG1 hf
   obtain ⟨z,a,n,c',ev,hT,hn⟩:=hf 6 (by decide)
   obtain ⟨b35,eb,hb,hlo⟩:=hf 7 (by decide)
   have HB1:=Lib.hid (HB0.out.trans (hR1.mono HB0.out.size))
   have hlt:=HG0.out.lt
   have hs1:=HB0.out.size
   have hz1:=lt_of_block HZ.out
   have HZ1:=Below.keep hR1 HZ.out hz1
   have D_b35:Hid ((∀ p ∈ ([(b34,m3),(b33,p3),(b32x,proof3),(b32,mac3),(b31,prk4),(b30,th3),(b29,m2),(b28,p2),(b27x,proof2),(b27,mac2),(b26,prk3),(b25,prk2),(b24,th2),(b23,m1),(b22,cr),(b21,ci)]:List (Nat × Tm)),p.1≠b35)∧w.heap.size < b35):=⟨fun p hp e=>by have:=hlt p hp;omega,by omega⟩
   simp only [Rg.putAll,Rg.putFrom,List.take_succ_cons,List.take_zero,List.drop_succ_cons,List.drop_zero,Act.put,List.setIfInBounds_toArray,List.set_cons_zero,List.set_cons_succ,ev,eb]
   clear ev eb hf
   have HS:=Lib.hid (GM.stored hG1 hb (fun p hp e=>by have:=hlt p hp;omega) z hT hn).1
   have HB2:=Lib.hid (RB.stored HB1.out (by omega) (.int .i64 (Tm.mk 3 0 [Tm.tup [th3,p3,ci]]).op) (.int .i64 (Tm.mk 3 0 [Tm.tup [th3,p3,ci]]).num) (.slice a n c') (b:=b35))
   have HZ2:=Lib.hid (((put3 hb (.int .i64 (Tm.mk 3 0 [Tm.tup [th3,p3,ci]]).op) (.int .i64 (Tm.mk 3 0 [Tm.tup [th3,p3,ci]]).num) (.slice a n c') _ rfl).2.1 w.heap.size (by omega)).trans HZ1)
   clear HG0 HB0 HZ HZ1 hz1 hlt hs1 hR1 hG1 hT HB1 z hn hlo
   have r0:=cell_of_arr hb 0
   have r1:=cell_of_arr hb 1
   have r2:=cell_of_arr hb 2
   simp at r0 r1 r2
   have f0:=frozen_of_arr hb 0
   have f1:=frozen_of_arr hb 1
   have f2:=frozen_of_arr hb 2
   clear hb
   go_upto_region 40 with fail
   clear r0 r1 r2 f0 f1 f2
   generalize (((W1.setCell ⟨b35,0,none⟩ (.int .i64 (Tm.mk 3 0 [Tm.tup [th3,p3,ci]]).op)).setCell ⟨b35,1,none⟩ (.int .i64 (Tm.mk 3 0 [Tm.tup [th3,p3,ci]]).num)).setCell ⟨b35,2,none⟩ (.slice a n c'))=w21 at *
   clear W1
   obtain ⟨HG0,HB0,HZ⟩:=And.intro HS (And.intro HB2 HZ2)
   clear HS HB2 HZ2
   generalize he_th4:Tm.mk 3 0 [Tm.tup [th3,p3,ci]]=th4 at *
   have E_th4:=Lib.hid he_th4
   clear he_th4
   refine region_tm (M:=11) [.tm prk4,.tm th4,.tm (Tm.kdf prk4 8 th4),.tm prk4,.tm th4,.tm (Tm.kdf prk4 9 th4),.tm th4,.tm (Tm.nm 0),.tl [Tm.kdf prk4 8 th4,Tm.kdf prk4 9 th4,th4,Tm.nm 0],.tm (Tm.mk 4 0 [Tm.kdf prk4 8 th4,Tm.kdf prk4 9 th4,th4,Tm.nm 0]),.cell w21.heap.size] (by kernel_rfl) (by kernel_rfl) HG0.out ?_ ?_
   ·refine ⟨fun vs W hR hG hd=>?_,fun vs W hR hG hd=>?_,fun vs W hR hG hd=>?_,fun vs W hR hG hd=>?_,fun vs W hR hG hd=>?_,fun vs W hR hG hd=>?_,fun vs W hR hG hd=>?_,fun vs W hR hG hd=>?_,fun vs W hR hG hd=>?_,fun vs W hR hG hd=>?_,fun vs W hR hG hd=>?_,trivial⟩
    ·exact does_load hG (.tmp 29) b31 prk4 (by simp) rfl (by kernel_rfl)
    ·exact does_load hG (.tmp 34) b35 th4 (by simp) rfl (by kernel_rfl)
    ·exact does_call (vals:=#[vs 0,.int .i64 8,vs 1]) 55 (.func 55) #[.tmp 242,.const (.int .i64 8),.tmp 243] _ rfl (by kernel_rfl) (by kernel_rfl) (cf 55 _ Tryd.func55 (by kernel_rfl) (by kernel_rfl) _) (rkdf_ends hG (hd 0 (by decide)) (hd 1 (by decide)) 8)
    ·exact does_load hG (.tmp 29) b31 prk4 (by simp) rfl (by kernel_rfl)
    ·exact does_load hG (.tmp 34) b35 th4 (by simp) rfl (by kernel_rfl)
    ·exact does_call (vals:=#[vs 3,.int .i64 9,vs 4]) 55 (.func 55) #[.tmp 245,.const (.int .i64 9),.tmp 246] _ rfl (by kernel_rfl) (by kernel_rfl) (cf 55 _ Tryd.func55 (by kernel_rfl) (by kernel_rfl) _) (rkdf_ends hG (hd 3 (by decide)) (hd 4 (by decide)) 9)
    ·exact does_load hG (.tmp 34) b35 th4 (by simp) rfl (by kernel_rfl)
    ·exact does_call (vals:=#[.int .i64 0]) 52 (.func 52) #[.const (.int .i64 0)] _ rfl (by kernel_rfl) (by kernel_rfl) (cf 52 _ Tryd.func52 (by kernel_rfl) (by kernel_rfl) _) (rname_ends hG 0)
    ·exact does_row4 hG (.tmp 244) (.tmp 247) (.tmp 248) (.tmp 249) (Tm.kdf prk4 8 th4) (Tm.kdf prk4 9 th4) th4 (Tm.nm 0) rfl (hd 2 (by decide)) (hd 5 (by decide)) (hd 6 (by decide)) (hd 7 (by decide))
    ·exact does_call (vals:=#[.int .i64 4,vs 8]) 54 (.func 54) #[.const (.int .i64 4),.tmp 250] _ rfl (by kernel_rfl) (by kernel_rfl) (cf 54 _ Tryd.func54 (by kernel_rfl) (by kernel_rfl) _) (rnode_ends hG 4 (by decide) (hd 8 (by decide)))
    ·exact does_alloc hG _ hR.size rfl
   intro vs W1 hR1 hG1 hf
   obtain ⟨z,a,n,c',ev,hT,hn⟩:=hf 9 (by decide)
   obtain ⟨b37,eb,hb,hlo⟩:=hf 10 (by decide)
   have HB1:=Lib.hid (HB0.out.trans (hR1.mono HB0.out.size))
   have hlt:=HG0.out.lt
   have hs1:=HB0.out.size
   have hz1:=lt_of_block HZ.out
   have HZ1:=Below.keep hR1 HZ.out hz1
   have D_b37:Hid ((∀ p ∈ ([(b35,th4),(b34,m3),(b33,p3),(b32x,proof3),(b32,mac3),(b31,prk4),(b30,th3),(b29,m2),(b28,p2),(b27x,proof2),(b27,mac2),(b26,prk3),(b25,prk2),(b24,th2),(b23,m1),(b22,cr),(b21,ci)]:List (Nat × Tm)),p.1≠b37)∧w.heap.size < b37):=⟨fun p hp e=>by have:=hlt p hp;omega,by omega⟩
   simp only [Rg.putAll,Rg.putFrom,List.take_succ_cons,List.take_zero,List.drop_succ_cons,List.drop_zero,Act.put,List.setIfInBounds_toArray,List.set_cons_zero,List.set_cons_succ,ev,eb]
   clear ev eb hf
   have HS:=Lib.hid (GM.stored hG1 hb (fun p hp e=>by have:=hlt p hp;omega) z hT hn).1
   have HB2:=Lib.hid (RB.stored HB1.out (by omega) (.int .i64 (Tm.mk 4 0 [Tm.kdf prk4 8 th4,Tm.kdf prk4 9 th4,th4,Tm.nm 0]).op) (.int .i64 (Tm.mk 4 0 [Tm.kdf prk4 8 th4,Tm.kdf prk4 9 th4,th4,Tm.nm 0]).num) (.slice a n c') (b:=b37))
   have HZ2:=Lib.hid (((put3 hb (.int .i64 (Tm.mk 4 0 [Tm.kdf prk4 8 th4,Tm.kdf prk4 9 th4,th4,Tm.nm 0]).op) (.int .i64 (Tm.mk 4 0 [Tm.kdf prk4 8 th4,Tm.kdf prk4 9 th4,th4,Tm.nm 0]).num) (.slice a n c') _ rfl).2.1 w.heap.size (by omega)).trans HZ1)
   clear HG0 HB0 HZ HZ1 hz1 hlt hs1 hR1 hG1 hT HB1 z hn hlo
   have r0:=cell_of_arr hb 0
   have r1:=cell_of_arr hb 1
   have r2:=cell_of_arr hb 2
   simp at r0 r1 r2
   have f0:=frozen_of_arr hb 0
   have f1:=frozen_of_arr hb 1
   have f2:=frozen_of_arr hb 2
   clear hb
   go_upto_region 42 with fail
   clear r0 r1 r2 f0 f1 f2
   generalize (((W1.setCell ⟨b37,0,none⟩ (.int .i64 (Tm.mk 4 0 [Tm.kdf prk4 8 th4,Tm.kdf prk4 9 th4,th4,Tm.nm 0]).op)).setCell ⟨b37,1,none⟩ (.int .i64 (Tm.mk 4 0 [Tm.kdf prk4 8 th4,Tm.kdf prk4 9 th4,th4,Tm.nm 0]).num)).setCell ⟨b37,2,none⟩ (.slice a n c'))=w22 at *
   clear W1
   obtain ⟨HG0,HB0,HZ⟩:=And.intro HS (And.intro HB2 HZ2)
   clear HS HB2 HZ2
   generalize he_m4:Tm.mk 4 0 [Tm.kdf prk4 8 th4,Tm.kdf prk4 9 th4,th4,Tm.nm 0]=m4 at *
   have E_m4:=Lib.hid he_m4
   clear he_m4
   refine region_tm (M:=5) [.tm m1,.tm m2,.tm m3,.tm m4,.tl [m1,m2,m3,m4]] (by kernel_rfl) (by kernel_rfl) HG0.out ?_ ?_
   ·refine ⟨fun vs W hR hG hd=>?_,fun vs W hR hG hd=>?_,fun vs W hR hG hd=>?_,fun vs W hR hG hd=>?_,fun vs W hR hG hd=>?_,trivial⟩
    ·exact does_load hG (.tmp 20) b23 m1 (by simp) rfl (by kernel_rfl)
    ·exact does_load hG (.tmp 27) b29 m2 (by simp) rfl (by kernel_rfl)
    ·exact does_load hG (.tmp 33) b34 m3 (by simp) rfl (by kernel_rfl)
    ·exact does_load hG (.tmp 35) b37 m4 (by simp) rfl (by kernel_rfl)
    ·exact does_row4 hG (.tmp 252) (.tmp 253) (.tmp 254) (.tmp 255) m1 m2 m3 m4 rfl (hd 0 (by decide)) (hd 1 (by decide)) (hd 2 (by decide)) (hd 3 (by decide))
   have HMS:Hid ((m1=Tm.em1 m x∧m2=Tm.em2 R m x y r∧m3=Tm.em3 R I m x y i r∧m4=Tm.em4 R I m x y i r)∧Tm.kdf prk4 7 th4=(Tm.eres R I m x y i r)):=by
    clear HG0 HB0 HZ D_b23 D_b24 D_b25 D_b26 D_b27 D_b27x D_b28 D_b29 D_b30 D_b31 D_b32 D_b32x D_b33 D_b34 D_b35 D_b37 HR HI HM
    have q_ci:ci=Tm.eci i:=by rw [← E_ci.out];rfl
    have q_cr:cr=Tm.ecr r:=by rw [← E_cr.out];rfl
    have q_m1:m1=Tm.em1 m x:=by rw [← E_m1.out];rfl
    have q_th2:th2=Tm.eth2 m x y:=by rw [← E_th2.out,q_m1];rfl
    have q_prk2:prk2=Tm.eprk2 m x y:=by rw [← E_prk2.out,q_th2];rfl
    have q_prk3:prk3=Tm.eprk3 R m x y r:=by rw [← E_prk3.out,q_prk2,q_th2];cases R <;> rfl
    have q_mac2:mac2=Tm.emac2 R m x y r:=by rw [← E_mac2.out,q_prk3,q_th2,q_cr];rfl
    have q_proof2:proof2=Tm.eproof2 R m x y r:=by rw [← E_proof2.out,q_mac2,q_th2,q_cr];cases R <;> rfl
    have q_p2:p2=Tm.ep2 R m x y r:=by rw [← E_p2.out,q_cr,q_proof2];rfl
    have q_m2:m2=Tm.em2 R m x y r:=by rw [← E_m2.out,q_prk2,q_th2,q_p2];rfl
    have q_th3:th3=Tm.eth3 R m x y r:=by rw [← E_th3.out,q_th2,q_p2,q_cr];rfl
    have q_prk4:prk4=Tm.eprk4 R I m x y i r:=by rw [← E_prk4.out,q_prk3,q_th3];cases I <;> rfl
    have q_mac3:mac3=Tm.emac3 R I m x y i r:=by rw [← E_mac3.out,q_prk4,q_th3,q_ci];rfl
    have q_proof3:proof3=Tm.eproof3 R I m x y i r:=by rw [← E_proof3.out,q_mac3,q_th3,q_ci];cases I <;> rfl
    have q_p3:p3=Tm.ep3 R I m x y i r:=by rw [← E_p3.out,q_ci,q_proof3];rfl
    have q_m3:m3=Tm.em3 R I m x y i r:=by rw [← E_m3.out,q_prk3,q_th3,q_p3];rfl
    have q_th4:th4=Tm.eth4 R I m x y i r:=by rw [← E_th4.out,q_th3,q_p3,q_ci];rfl
    have q_m4:m4=Tm.em4 R I m x y i r:=by rw [← E_m4.out,q_prk4,q_th4];rfl
    exact ⟨⟨q_m1,q_m2,q_m3,q_m4⟩,by rw [q_prk4,q_th4];rfl⟩
   clear E_ci E_cr E_m1 E_th2 E_prk2 E_prk3 E_mac2 E_proof2 E_p2 E_m2 E_th3 E_prk4 E_mac3 E_proof3 E_p3 E_m3 E_th4 E_m4 D_b23 D_b24 D_b25 D_b26 D_b27 D_b27x D_b28 D_b29 D_b30 D_b31 D_b32 D_b32x D_b33 D_b34 D_b35 D_b37
   have HVA:Hid ((∀ t ∈ [m1,m2,m3,m4],Tm.valid t=true)∧Tm.valid (Tm.eres R I m x y i r)=true):=by
    obtain ⟨v1,v2,v3,v4,v5⟩:=em_valid' HM.out HR.out HI.out ⟨by omega,hx'⟩ ⟨by omega,hy'⟩ ⟨by omega,hi'⟩ ⟨by omega,hr'⟩
    obtain ⟨⟨q1,q2,q3,q4⟩,q5⟩:=HMS.out
    refine ⟨fun t ht=>?_,v5⟩
    simp only [List.mem_cons,List.not_mem_nil,or_false] at ht
    rcases ht with rfl | rfl | rfl | rfl
    ·rw [q1];exact v1
    ·rw [q2];exact v2
    ·rw [q3];exact v3
    ·rw [q4];exact v4
   intro vs W1 hR1 hG1 hf
   obtain ⟨z,ml,mc,ev,hT,hn⟩:=hf 4 (by decide)
   have HB1:=Lib.hid (HB0.out.trans (hR1.mono HB0.out.size))
   have hz1:=lt_of_block HZ.out
   have HZ1:=Lib.hid (Below.keep hR1 HZ.out hz1)
   have HG1:=Lib.hid hG1
   have ev':vs 4=.slice ml 4 mc:=ev
   have hT':TL (okW w.heap.size [(b37,m4),(b35,th4),(b34,m3),(b33,p3),(b32x,proof3),(b32,mac3),(b31,prk4),(b30,th3),(b29,m2),(b28,p2),(b27x,proof2),(b27,mac2),(b26,prk3),(b25,prk2),(b24,th2),(b23,m1),(b22,cr),(b21,ci)]) W1 [m1,m2,m3,m4] ml 4:=hT
   clear ev hT hn hf
   simp only [Rg.putAll,Rg.putFrom,List.take_succ_cons,List.take_zero,List.drop_succ_cons,List.drop_zero,Act.put,List.setIfInBounds_toArray,List.set_cons_zero,List.set_cons_succ,ev']
   clear ev'
   have HTL:=Lib.hid hT'
   clear HG0 HB0 HZ hz1 hR1 hG1 hT' z
   generalize hms:[m1,m2,m3,m4]=ms at *
   have hml:ms.length=4:=by rw [← hms];rfl
   have HML:=Lib.hid hml
   have HMS2:Hid (ms=[Tm.em1 m x,Tm.em2 R m x y r,Tm.em3 R I m x y i r,Tm.em4 R I m x y i r]):=by
    obtain ⟨⟨q1,q2,q3,q4⟩,_⟩:=HMS.out
    show _=_
    rw [← hms,q1,q2,q3,q4]
   have HKD:Hid (Tm.kdf prk4 7 th4=(Tm.eres R I m x y i r)):=HMS.out.2
   clear hms HMS hml hj hm0 hm3 HM HR HI
   have HSW:Hid (w.heap.size < W1.heap.size):=lt_of_block HZ1.out
   obtain ⟨zp,pa,pn,pc,hp31,hT31,hn31⟩:=HG1.out.2 (b31,prk4) (by simp)
   obtain ⟨zt,qa,qn,qc,hp35,hT35,hn35⟩:=HG1.out.2 (b35,th4) (by simp)
   have HP31:=Lib.hid hp31
   have HP35:=Lib.hid hp35
   have HT31:=Lib.hid hT31
   have HT35:=Lib.hid hT35
   clear hp31 hp35 hT31 hT35
   obtain ⟨wS,hwS⟩:∃ q:World,q=W1:=⟨_,rfl⟩
   rw [← hwS] at HB1 HZ1 HG1 HTL HSW HP31 HP35 HT31 HT35 ⊢
   clear hwS
   go_wp2_with fail
   go_loopw [258,36] (fun k v W=>YLoop w wS ms k v W) (fun k _ _=>4 - (intOf k).toNat)
   case atStart=>exact ⟨0,[],by omega,rfl,OutT.nil _ _ _ _,RB.refl _,by simp [Value.ownBlock]⟩
   case round=>
    obtain ⟨j,es,hj,rfl,hO,hB,hX⟩:=hrel
    by_cases hj5:j < 4
    ·have hjl:j < ms.length:=by have:=HML.out;omega
     obtain ⟨b,o,an,nn,cc,hea,hb,c0,c1,c2,ht⟩:=(HTL.out.below hB).2.2 j hjl
     subst hea
     have PA:=pure_alloc wr (.cells #[.int .i64 ms[j].op,.int .i64 ms[j].num,.slice an nn cc] 28)
     have HNM:=Lib.hid (normR_good ms[j] an nn cc _ _ (ht.below PA) (HVA.out.1 ms[j] (List.getElem_mem hjl)))
     have HNX:Hid (∀ (w3:World) (ra:Option Addr) (rn rc:Nat),RB wr w3→TR (fun b=>wr.heap.size≤b) w3 (Tm.normal ms[j]) ra rn→rn≤rc→_):=fun w3 ra rn rc h1 h2 h3=>YLoop.next HSW.out HML.out hj5 hO hB hX h1 rfl h2 h3
     have HPA:=Lib.hid PA
     obtain ⟨va,vcap,hvf⟩:=own_form hO.row
     subst hvf
     clear hO hB hX ht PA hb
     generalize ms[j]=k at *
     generalize (List.map Tm.normal (List.take j ms)).length=nl at *
     have hlt:(j:Int) < 4:=by omega
     go_wp2_with fail
     refine HNM.out.mono ?_
     rintro e w3 ⟨ra,rn,rc,rfl,⟨hTR,hrc⟩,hw3⟩
     obtain ⟨v',w6,hrun,hX6⟩:=HNX.out w3 ra rn rc (pure_trans HPA.out hw3) (hTR.imp fun b hb _=>by have:(wr.alloc (.cells #[.int .i64 k.op,.int .i64 k.num,.slice an nn cc] 28)).heap.size≤b:=hb;have:=HPA.out.size;omega) hrc
     have HX6:=Lib.hid hX6
     have N4:=alloc_new w3 (.cells #[.int .i64 (Tm.normal k).op,.int .i64 (Tm.normal k).num,.slice ra rn rc] 28)
     clear hX6 hTR hw3 HNX HNM HPA c0 c1 c2
     go_upto_region 48 with fail
     generalize w3.alloc (.cells #[.int .i64 (Tm.normal k).op,.int .i64 (Tm.normal k).num,.slice ra rn rc] 28)=w4 at *
     have p0:=cell_of_arr N4 0
     have p1:=cell_of_arr N4 1
     have p2:=cell_of_arr N4 2
     simp at p0 p1 p2
     clear N4
     go_wp2_with (refine wpList_app rfl _ _ 23 rfl rfl rfl hrun ?_)
     clear hrun p0 p1 p2
     go_roundw
     case rel=>exact HX6.out _ (by go_num)
     case measure=>simp [intOf];omega
    ·obtain rfl:j=4:=by omega
     have hts:(ms.take 4).map Tm.normal=[Tm.normal (Tm.em1 m x),Tm.normal (Tm.em2 R m x y r),Tm.normal (Tm.em3 R I m x y i r),Tm.normal (Tm.em4 R I m x y i r)]:=by rw [HMS2.out];rfl
     rw [hts] at hO
     obtain ⟨ta,tc,hte,htl,htc⟩:=hO.tl (by have:=HSW.out;omega) (by simp)
     have hte':u36=.slice ta 4 tc:=hte
     have htl':TL (fun k=>w.heap.size + 1≤k) wr [Tm.normal (Tm.em1 m x),Tm.normal (Tm.em2 R m x y r),Tm.normal (Tm.em3 R I m x y i r),Tm.normal (Tm.em4 R I m x y i r)] ta 4:=htl
     have htc':4≤tc:=htc
     subst hte'
     have N31:=Below.keep hB HP31.out (lt_of_block HP31.out)
     have N35:=Below.keep hB HP35.out (lt_of_block HP35.out)
     have HGw:=Lib.hid (HG1.out.stable hB)
     have HK:Hid ((Fa.tm prk4).holds w.heap.size [(b37,m4),(b35,th4),(b34,m3),(b33,p3),(b32x,proof3),(b32,mac3),(b31,prk4),(b30,th3),(b29,m2),(b28,p2),(b27x,proof2),(b27,mac2),(b26,prk3),(b25,prk2),(b24,th2),(b23,m1),(b22,cr),(b21,ci)] (.agg #[.int .i64 prk4.op,.int .i64 prk4.num,.slice pa pn pc]) wr):=⟨zp,pa,pn,pc,rfl,HT31.out.below hB,hn31⟩
     have HC:Hid ((Fa.tm th4).holds w.heap.size [(b37,m4),(b35,th4),(b34,m3),(b33,p3),(b32x,proof3),(b32,mac3),(b31,prk4),(b30,th3),(b29,m2),(b28,p2),(b27x,proof2),(b27,mac2),(b26,prk3),(b25,prk2),(b24,th2),(b23,m1),(b22,cr),(b21,ci)] (.agg #[.int .i64 th4.op,.int .i64 th4.num,.slice qa qn qc]) wr):=⟨zt,qa,qn,qc,rfl,HT35.out.below hB,hn35⟩
     have HT4:=Lib.hid htl'
     have HO4:=Lib.hid hO
     have HX4:=Lib.hid hX
     have HZ2:=Lib.hid (Below.keep hB HZ1.out (lt_of_block HZ1.out))
     have HB2:=Lib.hid (HB1.out.trans (hB.mono HB1.out.size))
     clear hO hts hte htl htl' htc hB hX hj5 hj HML HMS2 HTL HB1 HZ1 HG1 HP31 HP35 HT31 HT35
     have x0:=cell_of_arr N31 0
     have x1:=cell_of_arr N31 1
     have x2:=cell_of_arr N31 2
     have y0:=cell_of_arr N35 0
     have y1:=cell_of_arr N35 1
     have y2:=cell_of_arr N35 2
     simp at x0 x1 x2 y0 y1 y2
     clear N31 N35
     go_wp2_with fail
     refine (rkdf_ends HGw.out HK.out HC.out 7).mono ?_
     rintro e w3 ⟨v3,rfl,hw3,_,z3,ka,kn,kc,rfl,hT3,hn3⟩
     have HNG:Hid (Calls Tryd.prog 17 #[.agg #[.int .i64 (Tm.kdf prk4 7 th4).op,.int .i64 (Tm.kdf prk4 7 th4).num,.slice ka kn kc]] w3 (NmPost (Tm.normal (Tm.eres R I m x y i r)) w3)):=by
      have:=normR_good (Tm.kdf prk4 7 th4) ka kn kc w3 _ hT3 (by rw [HKD.out];exact HVA.out.2)
      rw [HKD.out] at this ⊢
      exact this
     have HB3:=Lib.hid (HB2.out.trans (hw3.mono HB2.out.size))
     have HZ3:=Lib.hid (Below.keep hw3 HZ2.out (lt_of_block HZ2.out))
     have HT4':=Lib.hid (HT4.out.below hw3)
     have HO4':=Lib.hid (HO4.out.pure hw3)
     have HLW:Hid (w.heap.size < w3.heap.size):=Nat.lt_of_lt_of_le (lt_of_block HZ2.out) hw3.size
     have HLT:Hid (∀ k,w3.heap.size≤k→(Value.slice ta 4 tc).ownBlock≠some k):=(fun k hk e=>by have h1:=(own_lt HO4.out.row e).1;have h2:=hw3.size;omega)
     clear hw3 hT3 x0 x1 x2 y0 y1 y2 HGw HK HC HT4 HZ2 HB2
     go_wp2_with fail
     refine HNG.out.mono ?_
     rintro e w4 ⟨ra,rn,rc,rfl,⟨hTR,hrc⟩,hw4⟩
     have PA:=pure_alloc w4 (.cells #[.int .i64 (Tm.normal (Tm.eres R I m x y i r)).op,.int .i64 (Tm.normal (Tm.eres R I m x y i r)).num,.slice ra rn rc] 28)
     have hR4:=RB.trans _ _ _ hw4 PA
     have HB5:=Lib.hid (HB3.out.trans (hR4.mono HB3.out.size))
     have HZ5:=Lib.hid (Below.keep hR4 HZ3.out (lt_of_block HZ3.out))
     have HT5:=Lib.hid (HT4'.out.below hR4)
     have HO5:=Lib.hid (HO4'.out.pure hR4)
     have hws:=lt_of_block HZ3.out
     have HGQ:Hid (GM w3.heap.size [(w4.heap.size,(Tm.normal (Tm.eres R I m x y i r)))] (w4.alloc (.cells #[.int .i64 (Tm.normal (Tm.eres R I m x y i r)).op,.int .i64 (Tm.normal (Tm.eres R I m x y i r)).num,.slice ra rn rc] 28))):=by
      have hsz:=HB5.out.size
      have hs4:=hR4.size
      have hlz:=lt_of_block HZ5.out
      refine ⟨by omega,fun p hp=>?_⟩
      simp only [List.mem_cons,List.not_mem_nil,or_false] at hp
      subst hp
      refine ⟨nz_normal HVA.out.2,ra,rn,rc,alloc_new _ _,(hTR.imp (ok':=okW w3.heap.size [(w4.heap.size,(Tm.normal (Tm.eres R I m x y i r)))]) fun k hk hl=>⟨by have:w3.heap.size≤k:=hk;omega,fun p hp e=>?_⟩).below PA,hrc⟩
      simp only [List.mem_cons,List.not_mem_nil,or_false] at hp
      subst hp
      dsimp only at e
      omega
     clear PA hR4 hTR hw4 HZ3 HB3 HT4' HNG
     go_upto_region 53 with fail
     refine region_tm (B:=w3.heap.size) (L:=[(w4.heap.size,(Tm.normal (Tm.eres R I m x y i r)))]) (M:=3) [.eq (.slice ta 4 tc),.tm (Tm.normal (Tm.eres R I m x y i r)),.eq (.slice ta 4 tc)] (by kernel_rfl) (by kernel_rfl) HGQ.out ?_ ?_
     ·refine ⟨fun vs W hR hG hd=>?_,fun vs W hR hG hd=>?_,fun vs W hR hG hd=>?_,trivial⟩
      ·exact Rg.Does.move (.tmp 36) rfl ⟨RB.refl _,hG,show _=_ by kernel_rfl⟩
      ·exact does_load hG (.tmp 41) w4.heap.size (Tm.normal (Tm.eres R I m x y i r)) (by simp) rfl (by kernel_rfl)
      ·exact Rg.Does.assign (.tmp 285) rfl ⟨RB.refl _,hG,hd 0 (by decide)⟩
     intro vs W2 hR2 hG2 hf
     have e2:vs 2=.slice ta 4 tc:=hf 2 (by decide)
     obtain ⟨z5,ea,en,ec,e1,hTR5,hn5⟩:=hf 1 (by decide)
     have HTR5:=Lib.hid hTR5
     have Z6:=Below.keep hR2 HZ5.out (lt_of_block HZ5.out)
     have HB6:=Lib.hid (HB5.out.trans (hR2.mono HB5.out.size))
     have HT6:=Lib.hid (HT5.out.below hR2)
     have HO6:=Lib.hid (HO5.out.pure hR2)
     have HZ6:=Lib.hid Z6
     clear hR2 hG2 hf HB5 HT5 HZ5 HGQ hTR5 z5
     have r0:=cell_of_arr Z6 0
     have r1:=cell_of_arr Z6 1
     have r2:=cell_of_arr Z6 2
     simp at r0 r1 r2
     have f0:=frozen_of_arr Z6 0
     have f1:=frozen_of_arr Z6 1
     have f2:=frozen_of_arr Z6 2
     clear Z6
     simp only [Rg.putAll,Rg.putFrom,List.take_succ_cons,List.take_zero,List.drop_succ_cons,List.drop_zero,Act.put,List.setIfInBounds_toArray,List.set_cons_zero,List.set_cons_succ,e1,e2]
     clear e1 e2
     obtain ⟨S1,S2,S3⟩:=put3 HZ6.out (.int .i64 (Tm.normal (Tm.eres R I m x y i r)).op) (.int .i64 (Tm.normal (Tm.eres R I m x y i r)).num) (.slice ea en ec) _ rfl
     have HE:Hid (RxPost R I m x y i r w (.returned (.tuple #[.slice ta 4 tc,.agg #[.int .i64 (Tm.normal (Tm.eres R I m x y i r)).op,.int .i64 (Tm.normal (Tm.eres R I m x y i r)).num,.slice ea en ec],.int .i64 0])) (((W2.setCell ⟨w.heap.size,0,none⟩ (.int .i64 (Tm.normal (Tm.eres R I m x y i r)).op)).setCell ⟨w.heap.size,1,none⟩ (.int .i64 (Tm.normal (Tm.eres R I m x y i r)).num)).setCell ⟨w.heap.size,2,none⟩ (.slice ea en ec))):=
      ⟨_,tc,ea,en,ec,rfl,htc',HT6.out.keep fun k hk _=>⟨S2 k (by have:w.heap.size + 1≤k:=hk;omega),by have:w.heap.size + 1≤k:=hk;omega⟩,HTR5.out.keep fun k hk _=>⟨S2 k (by have:w3.heap.size≤k:=hk.1;have:=HLW.out;omega),by have:w3.heap.size≤k:=hk.1;have:=HLW.out;omega,HLT.out k hk.1⟩,hn5,RB.stored HB6.out (Nat.le_refl _) _ _ _,_,_,HO6.out.var (fun k hk _=>S2 k hk) HX4.out,HSW.out⟩
     have p0:=cell_of_arr S1 0
     have p1:=cell_of_arr S1 1
     have p2:=cell_of_arr S1 2
     simp at p0 p1 p2
     clear S1 S2 S3
     go_wp2_with fail
     exact bodyPost_ret (v:=.tuple #[.slice ta 4 tc,.agg #[.int .i64 (Tm.normal (Tm.eres R I m x y i r)).op,.int .i64 (Tm.normal (Tm.eres R I m x y i r)).num,.slice ea en ec],.int .i64 0]) (by simp [results,Tryd.results31,go_sem,p0,p1,p2]) rfl HE.out
theorem rexch_good (m x y i r:Int) (hm:m=0∨m=1∨m=2∨m=3) (hx:100≤x) (hx':x≤1000) (hy:100≤y) (hy':y≤1000) (hi:100≤i) (hi':i≤1000) (hr:100≤r) (hr':r≤1000)
 (eyx:(y==x)=false) (eix:(i==x)=false) (eiy:(i==y)=false) (erx:(r==x)=false) (ery:(r==y)=false) (eri:(r==i)=false) (w:World) (R I:Bool) (hR:R=(m==1 || m==3)) (hI:I=(m==2 || m==3)):
 Calls Tryd.prog 31 #[.int .i64 m,.int .i64 x,.int .i64 y,.int .i64 i,.int .i64 r] w fun e w'=>ExPost R I m x y i r w e w':=
 (rexch_row m x y i r hm hx hx' hy hy' hi hi' hr hr' eyx eix eiy erx ery eri w R I hR hI).mono fun e w' ⟨a,c,a',n',c',h1,h2,h3,h4,h5,h6,_⟩=>⟨a,c,a',n',c',h1,h2,h3,h4.imp fun _ h _=>h.1,h5,h6⟩
end Go.Proofs.YtkgbjoepjcenlaaDoor
