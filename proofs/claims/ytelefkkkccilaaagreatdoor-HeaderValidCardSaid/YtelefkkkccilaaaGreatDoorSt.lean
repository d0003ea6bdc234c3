/- The law HeaderValid, walked. -/
import Derived.Test.YtelefkkkccilaaaGreatDoorSp
set_option linter.unusedVariables false
set_option linter.unusedSimpArgs false
namespace Go.Proofs.YtelefkkkccilaaaGreatDoor
open Go.RowKit
set_option maxRecDepth 100000
section
variable {o:Oper} {ρ:Operand→Value} {w:World}
theorem doesh_conv {ok ok0:Nat→Prop} {l:List UInt8} (x:Operand) (a:Option Addr) (n c:Nat) (ho:o.op=.convert 23 9 x) (hx:ρ x=.slice a n c) (hR:BR ok0 w a n l):Rg.Does Tryz.prog o ρ w fun v' w'=>RB' w w'∧True∧(Fh.eq (.string ⟨l.toArray⟩)).holds ok v' w':=by
 refine doesh_val (v:=.string ⟨l.toArray⟩) ?_ rfl;simp only [execOp,ho,hx,Sem.run_bind,str_of hR c,Result.andThen_ok,Sem.run_pure]
theorem doesh_neqS {ok:Nat→Prop} (x y:Operand) (s:ByteArray) (ho:o.op=.binOp .neq 9 x y 9) (hx:ρ x=.string s) (hy:ρ y=.string s):Rg.Does Tryz.prog o ρ w fun v' w'=>RB' w w'∧True∧(Fh.eq (.bool false)).holds ok v' w':=by
 refine doesh_val ?_ rfl;simp only [execOp,ho,hx,hy];go_simp
theorem doesh_neqB {ok:Nat→Prop} (x y:Operand) (s:Bool) (ho:o.op=.binOp .neq 4 x y 4) (hx:ρ x=.bool s) (hy:ρ y=.bool s):Rg.Does Tryz.prog o ρ w fun v' w'=>RB' w w'∧True∧(Fh.eq (.bool false)).holds ok v' w':=by
 refine doesh_val ?_ rfl;simp only [execOp,ho,hx,hy];cases s <;> go_simp
theorem doesh_neqE {ok:Nat→Prop} (x y:Operand) (s:Int) (ho:o.op=.binOp .neq 32 x y 32) (hx:ρ x=.int .i64 s) (hy:ρ y=.int .i64 s):Rg.Does Tryz.prog o ρ w fun v' w'=>RB' w w'∧True∧(Fh.eq (.bool false)).holds ok v' w':=by
 refine doesh_val ?_ rfl;simp only [execOp,ho,hx,hy];go_simp
end
theorem h_vp {ok:Nat→Prop} {P:Program} {f:FuncId} {args:Array Value} {W:World} {b:Bool} (h:Calls P f args W (VP b W)):Calls P f args W (EndO ok W (.eq (.bool b))):=h.mono fun _ _ h=>⟨_,h.1,h.2,rfl⟩
set_option maxHeartbeats 16000000 in
theorem valid_law (p u:It) (A C:Ad) (w:World) (ok ok':Nat→Prop) (hI:IR ok w p A) (hJ:IR ok' w u C) (hE:Env w) (la:Option Addr) (ln lc:Nat) (hL:InL w la ln):Calls Tryz.prog 3 #[.agg #[.int .i64 p.kind,.int .u64 (p.num:Int),.slice A.ab A.nb A.cb,.slice A.ai A.ni A.ci,.int .i64 u.kind,.int .u64 (u.num:Int),.slice C.ab C.nb C.cb,.slice C.ai C.ni C.ci],.slice la ln lc] w fun e w'=>e=.returned (.bool true)∧Below w.heap.size w w':=by
 have P0:=al w (o8 p u A C);have N0:=aw w (o8 p u A C);have HX:=dh N0;have HP:=dh P0;have HI:=dh (hI.below P0);have HJ:=dh (hJ.below P0);have HE:=dh (hE.below P0);have HL:=dh (hL.below P0);clear P0 N0 hI hJ hE hL;go_enter Tryz.func3,Tryz.ntmps3
 go_upto_region 1 with fail
 generalize w.alloc (o8 p u A C)=w1 at *;generalize hB:w.heap.size=B at *;have HC:=dh (all_any p u A C w1 _ _ HI.out HJ.out HE.out la ln lc HL.out);have x:=ce HX.out;go_wp2_with fail
 refine HC.out.mono ?_;rintro e w2 ⟨X,rfl,hRow,hX,hB2⟩;have HROW:=dh hRow;have HXL:=dh hX;have HP2:=dh (bwt HP.out hB2 hB);have HE2:=dh (HE.out.below hB2);clear hRow hX hB2 HC HX HP HI HJ HE HL x;go_upto_region 2 with fail
 go_loopw [15] (fun i W=>∃ j:Nat,i=.int .i64 (j:Int)∧j≤5∧Below w2.heap.size w2 W) (fun i _=>5 - (intOf i).toNat)
 case atStart=>exact ⟨0,rfl,by omega,Below.refl _ _⟩
 case round=>
  obtain ⟨u0,hu0⟩:∃ u0,u0=wr:=⟨_,rfl⟩;subst hu0;obtain ⟨j,rfl,hj,hBj⟩:=hrel;by_cases hj5:j < 5
  ·have hjz:(j:Int) < 5:=by omega
   obtain ⟨p,u,A,C,⟨c0,c1,c2,c3,c4,c5,c6,c7⟩,hI,hJ⟩:=(HROW.out.below hBj HXL.out) j hj5;have P6:=al u0 (o8 p u A C);have HT6:=dh (aw u0 (o8 p u A C));have HI6:=dh (hI.below P6);have HJ6:=dh (hJ.below P6);have HB6:=dh (hBj.trans (P6.mono hBj.size));have HE6:=dh (HE2.out.below HB6.out);have HJ5:=dh hj5;clear hI hJ hBj hj P6;go_upto_region 4 with fail
   clear c0 c1 c2 c3 c4 c5 c6 c7 hjz hj5;generalize u0.alloc (o8 p u A C)=w6 at *;generalize u0.heap.size=T6 at *;have HC:=dh (hprot_any p u A C w6 _ _ HI6.out HJ6.out HE6.out);have t:=ce HT6.out;go_wp2_with fail
   refine HC.out.mono ?_;rintro e w7 ⟨v1,rfl,hO1,B7⟩;obtain ⟨a1,c1,rfl,hR1,_,_⟩:=hO1.br;have HR7:=dh hR1;have HT7:=dh (Below.keep B7 HT6.out (lb HT6.out));have HI7:=dh (HI6.out.below B7);have HJ7:=dh (HJ6.out.below B7);have HE7:=dh (HE6.out.below B7);have HB7:=dh (HB6.out.trans (B7.mono HB6.out.size));clear hO1 hR1 B7 HC HT6 HI6 HJ6 HE6 HB6 t;have HC:=dh (rprot_any p u A C w7 _ _ HI7.out HJ7.out HE7.out);have t:=ce HT7.out;go_wp2_with fail
   refine HC.out.mono ?_;rintro e w8 ⟨v2,rfl,hO2,B8⟩;obtain ⟨a2,c2,rfl,hR2,_,_⟩:=hO2.br;have HR2:=dh hR2;have HR1:=dh (HR7.out.below B8);have HT6:=dh (Below.keep B8 HT7.out (lb HT7.out));have HI6:=dh (HI7.out.below B8);have HJ6:=dh (HJ7.out.below B8);have HE6:=dh (HE7.out.below B8);have HB6:=dh (HB7.out.trans (B8.mono HB7.out.size));clear hO2 hR2 B8 HC HT7 HI7 HJ7 HE7 HB7 HR7 t;generalize It.protL p u=l at *;go_upto_region 6 with fail
   refine region_f (M:=17) (fun _=>True) [.eq (.agg #[.int .i64 p.kind,.int .u64 (p.num:Int),.slice A.ab A.nb A.cb,.slice A.ai A.ni A.ci,.int .i64 u.kind,.int .u64 (u.num:Int),.slice C.ab C.nb C.cb,.slice C.ai C.ni C.ci]),.eq (.bool (It.hvalid p u)),.eq (.agg #[.int .i64 p.kind,.int .u64 (p.num:Int),.slice A.ab A.nb A.cb,.slice A.ai A.ni A.ci,.int .i64 u.kind,.int .u64 (u.num:Int),.slice C.ab C.nb C.cb,.slice C.ai C.ni C.ci]),.eq (.bool (It.hvalid p u)),.eq (.bool false),.eq (.bool false),.eq (.slice a1 l.length c1),.eq (.string ⟨l.toArray⟩),.eq (.slice a2 l.length c2),.eq (.string ⟨l.toArray⟩),.eq (.bool false),.eq (.bool false),.eq (.bool false),.eq (.int .i64 (It.protE p u:Int)),.eq (.int .i64 (It.protE p u:Int)),.eq (.bool false),.eq (.bool false)] (by kernel_rfl) (by kernel_rfl) ?_ ?_
   ·refine ⟨fun vs W hR _ hd=>?_,fun vs W hR _ hd=>?_,fun vs W hR _ hd=>?_,fun vs W hR _ hd=>?_,fun vs W hR _ hd=>?_,fun vs W hR _ hd=>?_,fun vs W hR _ hd=>?_,fun vs W hR _ hd=>?_,fun vs W hR _ hd=>?_,fun vs W hR _ hd=>?_,fun vs W hR _ hd=>?_,fun vs W hR _ hd=>?_,fun vs W hR _ hd=>?_,fun vs W hR _ hd=>?_,fun vs W hR _ hd=>?_,fun vs W hR _ hd=>?_,fun vs W hR _ hd=>?_,trivial⟩
    ·exact dl8 (.tmp 6) T6 p u A C (Below.keep hR HT6.out (lb HT6.out)) rfl (by kernel_rfl)
    ·have e0:vs 0=.agg #[.int .i64 p.kind,.int .u64 (p.num:Int),.slice A.ab A.nb A.cb,.slice A.ai A.ni A.ci,.int .i64 u.kind,.int .u64 (u.num:Int),.slice C.ab C.nb C.cb,.slice C.ai C.ni C.ci]:=(hd 0 (by decide));exact dcl (vals:=#[vs 0]) 20 (.func 20) #[.tmp 29] _ rfl (by kernel_rfl) (by kernel_rfl) (cfh 20 _ Tryz.func20 (by kernel_rfl) (by kernel_rfl) _) (by rw [e0];exact h_vp (hva p u A C W _ _ (HI6.out.below hR) (HJ6.out.below hR) (HE6.out.below hR)))
    ·exact dl8 (.tmp 6) T6 p u A C (Below.keep hR HT6.out (lb HT6.out)) rfl (by kernel_rfl)
    ·have e2:vs 2=.agg #[.int .i64 p.kind,.int .u64 (p.num:Int),.slice A.ab A.nb A.cb,.slice A.ai A.ni A.ci,.int .i64 u.kind,.int .u64 (u.num:Int),.slice C.ab C.nb C.cb,.slice C.ai C.ni C.ci]:=(hd 2 (by decide));exact dcl (vals:=#[vs 2]) 21 (.func 21) #[.tmp 31] _ rfl (by kernel_rfl) (by kernel_rfl) (cfh 21 _ Tryz.func21 (by kernel_rfl) (by kernel_rfl) _) (by rw [e2];exact h_vp (rhv_any p u A C W _ _ (HI6.out.below hR) (HJ6.out.below hR) (HE6.out.below hR)))
    ·exact doesh_neqB (.tmp 30) (.tmp 32) (It.hvalid p u) rfl (hd 1 (by decide)) (hd 3 (by decide))
    ·exact dmv (.tmp 33) rfl (hd 4 (by decide))
    ·exact ⟨fun _=>dmv (.tmp 7) rfl (show _=_ by kernel_rfl),fun h=>absurd (hd 5 (by decide)) h⟩
    ·exact ⟨fun _=>doesh_conv (.tmp 35) a1 l.length c1 rfl (hd 6 (by decide)) (HR1.out.below hR),fun h=>absurd (hd 5 (by decide)) h⟩
    ·exact ⟨fun _=>dmv (.tmp 9) rfl (show _=_ by kernel_rfl),fun h=>absurd (hd 5 (by decide)) h⟩
    ·exact ⟨fun _=>doesh_conv (.tmp 37) a2 l.length c2 rfl (hd 8 (by decide)) (HR2.out.below hR),fun h=>absurd (hd 5 (by decide)) h⟩
    ·exact ⟨fun _=>doesh_neqS (.tmp 36) (.tmp 38) ⟨l.toArray⟩ rfl (hd 7 (by decide)) (hd 9 (by decide)),fun h=>absurd (hd 5 (by decide)) h⟩
    ·exact dpf (.tmp 34) (.const (.bool true)) (.tmp 39) rfl (hd 5 (by decide)) (hd 10 (by decide))
    ·exact dmv (.tmp 40) rfl (hd 11 (by decide))
    ·exact ⟨fun _=>dmv (.tmp 8) rfl (show _=_ by kernel_rfl),fun h=>absurd (hd 12 (by decide)) h⟩
    ·exact ⟨fun _=>dmv (.tmp 10) rfl (show _=_ by kernel_rfl),fun h=>absurd (hd 12 (by decide)) h⟩
    ·exact ⟨fun _=>doesh_neqE (.tmp 42) (.tmp 43) (It.protE p u:Int) rfl (hd 13 (by decide)) (hd 14 (by decide)),fun h=>absurd (hd 12 (by decide)) h⟩
    ·exact dpf (.tmp 41) (.const (.bool true)) (.tmp 44) rfl (hd 12 (by decide)) (hd 15 (by decide))
   ·intro vs W9 hR9 hf
    have e16:vs 16=.bool false:=hf 16 (by decide);have HB9:=dh (HB6.out.trans (Below.mono hR9 HB6.out.size));simp only [Rg.putAll,Rg.putFrom,List.take_succ_cons,List.take_zero,List.drop_succ_cons,List.drop_zero,Act.put,List.setIfInBounds_toArray,List.set_cons_zero,List.set_cons_succ,Nat.zero_add,Nat.reduceAdd,e16];clear hf e16 hR9;have hwj:IntKind.i64.wrap ((j:Int) + 1)=((j + 1:Nat):Int):=by have:=HJ5.out;rw [IntWalk.i64_in _ (by omega)];omega
    go_wp2_with fail
    go_roundw
    case rel=>exact ⟨j + 1,by go_num,by have:=HJ5.out;omega,HB9.out⟩
    case measure=>have:=HJ5.out;simp [intOf];omega
  ·have hjz:¬ (j:Int) < 5:=by omega
   have HP3:=dh (bwt HP2.out hBj hB);have HE3:=dh (HE2.out.below hBj);clear hBj hj hj5;go_wp2_with fail
   refine (hempty_any u0).mono ?_;rintro e w3 ⟨rfl,B3⟩;go_wp2_with fail
   refine (remty_any w3).mono ?_;rintro e w4 ⟨rfl,B4⟩;have HP4:=dh (bwt (bwt HP3.out B3 hB) B4 hB);have HE4:=dh ((HE3.out.below B3).below B4);have hC:Calls Tryz.prog 22 #[.agg #[.int .i64 5,.int .u64 0,.slice none 0 0,.slice none 0 0,.int .i64 5,.int .u64 0,.slice none 0 0,.slice none 0 0],.agg #[.int .i64 5,.int .u64 0,.slice none 0 0,.slice none 0 0,.int .i64 5,.int .u64 0,.slice none 0 0,.slice none 0 0]] w4 (VP true w4):=hsame_any (.mk 5 0 [] []) (.mk 5 0 [] []) (.mk 5 0 [] []) (.mk 5 0 [] []) ⟨none,0,0,none,0,0⟩ ⟨none,0,0,none,0,0⟩ ⟨none,0,0,none,0,0⟩ ⟨none,0,0,none,0,0⟩ w4 (fun _=>True) (fun _=>True) (fun _=>True) (fun _=>True) (IR.flat _ _ (by omega)) (IR.flat _ _ (by omega)) (IR.flat _ _ (by omega)) (IR.flat _ _ (by omega));have HC:=dh hC;clear B3 B4 hC;go_wp2_with fail
   refine HC.out.mono ?_;rintro e w5 ⟨rfl,B5⟩;have HP5:=dh (bwt HP4.out B5 hB);have HC:=dh (hawake_any w5 (HE4.out.below B5));clear B5;go_wp2_with fail
   refine HC.out.mono ?_;rintro e w6 ⟨rfl,B6⟩;have HP6:=dh (bwt HP5.out B6 hB);clear B6;go_wp2_with fail
   go_ret
   exact ⟨rfl,by rw [hB];exact HP6.out⟩
end Go.Proofs.YtelefkkkccilaaaGreatDoor
