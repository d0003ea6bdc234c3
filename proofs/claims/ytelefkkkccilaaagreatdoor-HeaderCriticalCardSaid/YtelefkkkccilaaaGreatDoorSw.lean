/- The law HeaderCritical, walked. -/
import Derived.Test.YtelefkkkccilaaaGreatDoorSv
set_option linter.all false
namespace Go.Proofs.YtelefkkkccilaaaGreatDoor
open Go.RowKit
set_option maxRecDepth 100000
section
variable {o:Oper} {ρ:Operand→Value} {w:World}
theorem doesh_load29 {ok:Nat→Prop} (x:Operand) (b q:Nat) (v:Value) (ho:o.op=.move x) (hx:ρ x=v):Rg.Does Tryz.prog o ρ w fun v' w'=>RB' w w'∧True∧(Fh.eq v).holds ok v' w':=Rg.Does.move x ho ⟨RB'.refl _,trivial,hx⟩
end
theorem h_cr {ok:Nat→Prop} {P:Program} {f:FuncId} {args:Array Value} {W:World} {r:Nat} (h:Calls P f args W (CrP r W)):Calls P f args W (EndO ok W (.eq (.int .i64 (r:Int)))):=h.mono fun _ _ h=>⟨_,h.1,h.2,rfl⟩
theorem h_al {ok:Nat→Prop} {P:Program} {f:FuncId} {args:Array Value} {W:World} {r:Int} (h:Calls P f args W (AlP r W)):Calls P f args W (EndO ok W (.eq (.int .i64 r))):=h.mono fun _ _ h=>⟨_,h.1,h.2,rfl⟩
theorem nl_nil (w:World):NL w none 0 []:=⟨rfl,by omega,fun j hj=>by simp at hj⟩
theorem nl_row {w:World} {b T:Nat} {l:List Int} (h:w.heap[b]?=some (.cells (l.map fun n=>Value.int .i64 n).toArray T (0,0))) (hb:∀ n ∈ l,-9223372036854775808≤n∧n≤9223372036854775807) (hl:l.length≤1000):NL w (some ⟨b,0,none⟩) l.length l:=
 ⟨rfl,by omega,fun j hj=>⟨b,0,rfl,by rw [cr h];simp [hj],hb _ (List.getElem_mem hj)⟩⟩
set_option maxHeartbeats 16000000 in
theorem critical_law (p u:It) (A C:Ad) (w:World) (ok ok':Nat→Prop) (hI:IR ok w p A) (hJ:IR ok' w u C) (hE:Env w) (la:Option Addr) (ln lc:Nat) (hL:InL w la ln) (known:List Int) (ka:Option Addr) (kn kc:Nat) (hK:NL w ka kn known):Calls Tryz.prog 6 #[.agg #[.int .i64 p.kind,.int .u64 (p.num:Int),.slice A.ab A.nb A.cb,.slice A.ai A.ni A.ci,.int .i64 u.kind,.int .u64 (u.num:Int),.slice C.ab C.nb C.cb,.slice C.ai C.ni C.ci],.slice la ln lc,.slice ka kn kc] w fun e w'=>e=.returned (.bool true)∧Below w.heap.size w w':=by
 have P0:=al w (o8 p u A C);have HX:=dh (aw w (o8 p u A C));have HP:=dh P0;have HI0:=dh (hI.below P0);have HJ0:=dh (hJ.below P0);have HE0:=dh (hE.below P0);have HL:=dh (hL.below P0);have HK:=dh (hK.below P0);have HKM:Hid (kn≤9223372036854775807):=dh hK.2.1;clear P0 hI hJ hE hL hK;go_enter Tryz.func6,Tryz.ntmps6
 go_upto_region 1 with fail
 generalize w.alloc _=w1 at *;generalize hB:w.heap.size=B at *;by_cases hkn:(40:Int) < (kn:Int)
 ·have HC:=dh (hawake_any w1 HE0.out)
  go_wp2_with fail
  refine HC.out.mono ?_;rintro e w2 ⟨rfl,B2⟩;have HP2:=dh (bwt HP.out B2 hB);clear B2;go_wp2_with fail
  go_ret
  exact ⟨rfl,by rw [hB];exact HP2.out⟩
 ·have HC:=dh (all_any p u A C w1 _ _ HI0.out HJ0.out HE0.out la ln lc HL.out)
  have x:=ce HX.out;go_wp2_with fail
  refine HC.out.mono ?_;rintro e w2 ⟨X,rfl,hRow,hX,hB2⟩;have HROW:=dh hRow;have HXL:=dh hX;have HP2:=dh (bwt HP.out hB2 hB);have HE2:=dh (HE0.out.below hB2);have HK2:=dh (HK.out.below hB2);clear hRow hX hB2 HC HX HP HI0 HJ0 HE0 HL HK x hkn;go_upto_region 4 with fail
  go_loopw [19] (fun i W=>∃ j:Nat,i=.int .i64 (j:Int)∧j≤5∧Below w2.heap.size w2 W) (fun i _=>5 - (intOf i).toNat)
  case atStart=>exact ⟨0,rfl,by omega,Below.refl _ _⟩
  case round=>
   obtain ⟨u0,hu0⟩:∃ u0,u0=wr:=⟨_,rfl⟩;subst hu0;obtain ⟨j,rfl,hj,hBj⟩:=hrel;by_cases hj5:j < 5
   ·have hjz:(j:Int) < 5:=by omega
    obtain ⟨p,u,A,C,⟨c0,c1,c2,c3,c4,c5,c6,c7⟩,hI,hJ⟩:=(HROW.out.below hBj HXL.out) j hj5;have P6:=al u0 (o8 p u A C);have HT6:=dh (aw u0 (o8 p u A C));have HI6:=dh (hI.below P6);have HJ6:=dh (hJ.below P6);have HB6:=dh (hBj.trans (P6.mono hBj.size));have HJ5:=dh hj5;clear hI hJ hBj hj P6;go_upto_region 6 with fail
    clear c0 c1 c2 c3 c4 c5 c6 c7 hjz hj5;generalize u0.alloc _=w6 at *;generalize u0.heap.size=T8 at *;have PA:=al w6 (.cells #[.int .i64 98] 3);have NA:=aw w6 (.cells #[.int .i64 98] 3);have PB:=al (w6.alloc (.cells #[.int .i64 98] 3)) (.cells #[.int .i64 1,.int .i64 98,.int .i64 4] 3);have NB:=aw (w6.alloc (.cells #[.int .i64 98] 3)) (.cells #[.int .i64 1,.int .i64 98,.int .i64 4] 3);have hQ:=pt PA PB;have NA':=Below.keep PB NA (lb NA);have hs1:(w6.alloc (.cells #[.int .i64 98] 3)).heap.size=w6.heap.size + 1:=by simp
    have hs2:((w6.alloc (.cells #[.int .i64 98] 3)).alloc (.cells #[.int .i64 1,.int .i64 98,.int .i64 4] 3)).heap.size=w6.heap.size + 2:=by simp
    rw [hs1] at NB;have PC:=al ((w6.alloc (.cells #[.int .i64 98] 3)).alloc (.cells #[.int .i64 1,.int .i64 98,.int .i64 4] 3)) (.cells #[.slice ka kn kc,.slice (some ⟨w6.heap.size,0,none⟩) 1 1,.slice (some ⟨w6.heap.size + 1,0,none⟩) 3 3,.slice none 0 0] 29);have NC:=aw ((w6.alloc (.cells #[.int .i64 98] 3)).alloc (.cells #[.int .i64 1,.int .i64 98,.int .i64 4] 3)) (.cells #[.slice ka kn kc,.slice (some ⟨w6.heap.size,0,none⟩) 1 1,.slice (some ⟨w6.heap.size + 1,0,none⟩) 3 3,.slice none 0 0] 29);have hQ2:=pt hQ PC;have HTA:=dh (Below.keep PC NA' (lb NA'));have HTB:=dh (Below.keep PC NB (lb NB));rw [hs2] at NC;have HTS:=dh NC;have HQ7:=dh hQ2;clear PA NA PB NB hQ NA' PC NC hQ2 hs1 hs2;go_upto_region 7 with fail
    generalize ((w6.alloc (.cells #[.int .i64 98] 3)).alloc (.cells #[.int .i64 1,.int .i64 98,.int .i64 4] 3)).alloc (.cells #[.slice ka kn kc,.slice (some ⟨w6.heap.size,0,none⟩) 1 1,.slice (some ⟨w6.heap.size + 1,0,none⟩) 3 3,.slice none 0 0] 29)=w7 at *;have HT7:=kp HQ7.out HT6;have HI7:=dh (HI6.out.below HQ7.out);have HJ7:=dh (HJ6.out.below HQ7.out);have HB7:=dh (HB6.out.trans (HQ7.out.mono HB6.out.size));have HE7:=dh (HE2.out.below HB7.out);have HK7:=dh (HK2.out.below HB7.out);clear HT6 HI6 HJ6 HB6 HQ7;generalize hN6:w6.heap.size=N6 at *;clear hN6;have HROWS:Hid (∀ k,k < 4→∃ (na:Option Addr) (nn nc:Nat) (nl:List Int),w7.cell? ⟨N6 + 2,k,none⟩=some (.slice na nn nc)∧NL w7 na nn nl):=dh fun k hk=>by
     rcases (show k=0∨k=1∨k=2∨k=3 by omega) with rfl | rfl | rfl | rfl
     ·exact ⟨_,_,_,known,cr HTS.out 0,HK7.out⟩
     ·exact ⟨_,_,_,[98],cr HTS.out 1,nl_row (l:=[98]) HTA.out (by decide) (by decide)⟩
     ·exact ⟨_,_,_,[1,98,4],cr HTS.out 2,nl_row (l:=[1,98,4]) HTB.out (by decide) (by decide)⟩
     ·exact ⟨_,_,_,[],cr HTS.out 3,nl_nil _⟩
    clear HTA HTB;go_loopw [28] (fun i W=>∃ k:Nat,i=.int .i64 (k:Int)∧k≤4∧Below w7.heap.size w7 W) (fun i _=>4 - (intOf i).toNat)
    case atStart=>exact ⟨0,rfl,by omega,Below.refl _ _⟩
    case round=>
     obtain ⟨u1,hu1⟩:∃ u1,u1=wr:=⟨_,rfl⟩;subst hu1;obtain ⟨k,rfl,hk,hBk⟩:=hrel;have HT:=kp hBk HT7;have HI:=dh (HI7.out.below hBk);have HJ:=dh (HJ7.out.below hBk);have HE:=dh (HE7.out.below hBk);have HBK:=dh hBk;by_cases hk4:k < 4
     ·have hkz:(k:Int) < 4:=by omega
      obtain ⟨na,nn,nc,nl,hcn,hnl⟩:=HROWS.out k hk4;have hcn:=(hBk.cell (p:=⟨N6 + 2,k,none⟩) (lb HTS.out)).trans hcn;have HNL:=dh (hnl.below hBk);have HK4:=dh hk4;clear hBk hk hnl;go_upto_region 9 with fail
      clear hcn hkz hk4;refine region_f (M:=7) (fun _=>True) [.eq (.agg #[.int .i64 p.kind,.int .u64 (p.num:Int),.slice A.ab A.nb A.cb,.slice A.ai A.ni A.ci,.int .i64 u.kind,.int .u64 (u.num:Int),.slice C.ab C.nb C.cb,.slice C.ai C.ni C.ci]),.eq (.slice na nn nc),.eq (.int .i64 (It.critP p u nl:Int)),.eq (.agg #[.int .i64 p.kind,.int .u64 (p.num:Int),.slice A.ab A.nb A.cb,.slice A.ai A.ni A.ci,.int .i64 u.kind,.int .u64 (u.num:Int),.slice C.ab C.nb C.cb,.slice C.ai C.ni C.ci]),.eq (.slice na nn nc),.eq (.int .i64 (It.critP p u nl:Int)),.eq (.bool false)] (by kernel_rfl) (by kernel_rfl) ?_ ?_
      ·refine ⟨?_,?_,?_,?_,?_,?_,?_,trivial⟩<;>intro vs W hR _ hd
       ·exact dl8 (.tmp 8) T8 p u A C (Below.keep hR HT.out (lb HT.out)) rfl (by kernel_rfl)
       ·exact dmv (.tmp 10) rfl (show _=_ by kernel_rfl)
       ·have e0:vs 0=.agg #[.int .i64 p.kind,.int .u64 (p.num:Int),.slice A.ab A.nb A.cb,.slice A.ai A.ni A.ci,.int .i64 u.kind,.int .u64 (u.num:Int),.slice C.ab C.nb C.cb,.slice C.ai C.ni C.ci]:=(hd 0 (by decide));have e1:vs 1=.slice na nn nc:=(hd 1 (by decide));exact dcl (vals:=#[vs 0,vs 1]) 37 (.func 37) #[.tmp 32,.tmp 33] _ rfl (by kernel_rfl) (by kernel_rfl) (cq Tryz.func37) (by rw [e0,e1];exact (by have h:=h_cr (ok:=fun _=>True) (hcrit_any p u A C W _ _ (HI.out.below hR) (HJ.out.below hR) (HE.out.below hR) nl na nn nc (HNL.out.below hR));rw [It.crit_eq] at h;exact h))
       ·exact dl8 (.tmp 8) T8 p u A C (Below.keep hR HT.out (lb HT.out)) rfl (by kernel_rfl)
       ·exact dmv (.tmp 10) rfl (show _=_ by kernel_rfl)
       ·have e3:vs 3=.agg #[.int .i64 p.kind,.int .u64 (p.num:Int),.slice A.ab A.nb A.cb,.slice A.ai A.ni A.ci,.int .i64 u.kind,.int .u64 (u.num:Int),.slice C.ab C.nb C.cb,.slice C.ai C.ni C.ci]:=(hd 3 (by decide));have e4:vs 4=.slice na nn nc:=(hd 4 (by decide));exact dcl (vals:=#[vs 3,vs 4]) 38 (.func 38) #[.tmp 35,.tmp 36] _ rfl (by kernel_rfl) (by kernel_rfl) (cq Tryz.func38) (by rw [e3,e4];exact (h_cr (rcrit_any p u A C W _ _ (HI.out.below hR) (HJ.out.below hR) (HE.out.below hR) nl na nn nc (HNL.out.below hR))))
       ·exact doesh_neqE (.tmp 34) (.tmp 37) (It.critP p u nl:Int) rfl (hd 2 (by decide)) (hd 5 (by decide))
      ·intro vs W9 hR9 hf
       have e6:vs 6=.bool false:=hf 6 (by decide);have HB9:=dh (HBK.out.trans (Below.mono hR9 HBK.out.size));simp only [Rg.putAll,Rg.putFrom,List.take_succ_cons,List.take_zero,List.drop_succ_cons,List.drop_zero,Act.put,sx,Nat.zero_add,Nat.reduceAdd,e6];clear hf e6 hR9;have hwk:IntKind.i64.wrap ((k:Int) + 1)=((k + 1:Nat):Int):=by have:=HK4.out;rw [IntWalk.i64_in _ (by omega)];omega
       go_wp2_with fail
       go_roundw
       case rel=>exact ⟨k + 1,by go_num,by have:=HK4.out;omega,HB9.out⟩
       case measure=>have:=HK4.out;simp [intOf];omega
     ·have hkz:¬ (k:Int) < 4:=by omega
      clear hBk hk hk4;go_upto_region 12 with fail
      clear hkz;refine region_f (M:=5) (fun _=>True) [.eq (.agg #[.int .i64 p.kind,.int .u64 (p.num:Int),.slice A.ab A.nb A.cb,.slice A.ai A.ni A.ci,.int .i64 u.kind,.int .u64 (u.num:Int),.slice C.ab C.nb C.cb,.slice C.ai C.ni C.ci]),.eq (.int .i64 (It.algP p u)),.eq (.agg #[.int .i64 p.kind,.int .u64 (p.num:Int),.slice A.ab A.nb A.cb,.slice A.ai A.ni A.ci,.int .i64 u.kind,.int .u64 (u.num:Int),.slice C.ab C.nb C.cb,.slice C.ai C.ni C.ci]),.eq (.int .i64 (It.algP p u)),.eq (.bool false)] (by kernel_rfl) (by kernel_rfl) ?_ ?_
      ·refine ⟨?_,?_,?_,?_,?_,trivial⟩<;>intro vs W hR _ hd
       ·exact dl8 (.tmp 8) T8 p u A C (Below.keep hR HT.out (lb HT.out)) rfl (by kernel_rfl)
       ·have e0:vs 0=.agg #[.int .i64 p.kind,.int .u64 (p.num:Int),.slice A.ab A.nb A.cb,.slice A.ai A.ni A.ci,.int .i64 u.kind,.int .u64 (u.num:Int),.slice C.ab C.nb C.cb,.slice C.ai C.ni C.ci]:=(hd 0 (by decide));exact dcl (vals:=#[vs 0]) 39 (.func 39) #[.tmp 40] _ rfl (by kernel_rfl) (by kernel_rfl) (cq Tryz.func39) (by rw [e0];exact (h_al (halg_any p u A C W _ _ (HI.out.below hR) (HJ.out.below hR) (HE.out.below hR))))
       ·exact dl8 (.tmp 8) T8 p u A C (Below.keep hR HT.out (lb HT.out)) rfl (by kernel_rfl)
       ·have e2:vs 2=.agg #[.int .i64 p.kind,.int .u64 (p.num:Int),.slice A.ab A.nb A.cb,.slice A.ai A.ni A.ci,.int .i64 u.kind,.int .u64 (u.num:Int),.slice C.ab C.nb C.cb,.slice C.ai C.ni C.ci]:=(hd 2 (by decide));exact dcl (vals:=#[vs 2]) 40 (.func 40) #[.tmp 42] _ rfl (by kernel_rfl) (by kernel_rfl) (cq Tryz.func40) (by rw [e2];exact (h_al (ralg_any p u A C W _ _ (HI.out.below hR) (HJ.out.below hR) (HE.out.below hR))))
       ·exact does_neq3 (.tmp 41) (.tmp 43) (It.algP p u) (It.algP p u) false rfl (hd 1 (by decide)) (hd 3 (by decide)) (by simp)
      ·intro vs W9 hR9 hf
       have e4:vs 4=.bool false:=hf 4 (by decide);have HB9:=dh (HB7.out.trans ((HBK.out.trans (Below.mono hR9 HBK.out.size)).mono HB7.out.size));simp only [Rg.putAll,Rg.putFrom,List.take_succ_cons,List.take_zero,List.drop_succ_cons,List.drop_zero,Act.put,sx,Nat.zero_add,Nat.reduceAdd,e4];clear hf e4 hR9;have hwj:IntKind.i64.wrap ((j:Int) + 1)=((j + 1:Nat):Int):=by have:=HJ5.out;rw [IntWalk.i64_in _ (by omega)];omega
       go_wp2_with fail
       go_roundw
       case rel=>exact ⟨j + 1,by go_num,by have:=HJ5.out;omega,HB9.out⟩
       case measure=>have:=HJ5.out;simp [intOf];omega
   ·have hjz:¬ (j:Int) < 5:=by omega
    have HP3:=dh (bwt HP2.out hBj hB);have HC:=dh (hawake_any u0 (HE2.out.below hBj));clear hBj hj hj5;go_wp2_with fail
    refine HC.out.mono ?_;rintro e w6 ⟨rfl,B6⟩;have HP6:=dh (bwt HP3.out B6 hB);clear B6;go_wp2_with fail
    go_ret
    exact ⟨rfl,by rw [hB];exact HP6.out⟩
