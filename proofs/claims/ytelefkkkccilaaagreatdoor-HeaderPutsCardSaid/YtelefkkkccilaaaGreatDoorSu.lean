/- The law HeaderPuts, walked. -/
import Derived.Test.YtelefkkkccilaaaGreatDoorSt
set_option linter.all false
namespace Go.Proofs.YtelefkkkccilaaaGreatDoor
open Go.RowKit
set_option maxRecDepth 100000
section
variable {o:Oper} {ρ:Operand→Value} {w:World}
theorem run_rows3 (x0 x1 x2:It) (A0 A1 A2:Ad) (w:World):(Instr.buildSlice 24 3 #[(0,.agg #[.int .i64 x0.kind,.int .u64 (x0.num:Int),.slice A0.ab A0.nb A0.cb,.slice A0.ai A0.ni A0.ci]),(1,.agg #[.int .i64 x1.kind,.int .u64 (x1.num:Int),.slice A1.ab A1.nb A1.cb,.slice A1.ai A1.ni A1.ci]),(2,.agg #[.int .i64 x2.kind,.int .u64 (x2.num:Int),.slice A2.ab A2.nb A2.cb,.slice A2.ai A2.ni A2.ci])]).run Tryz.prog w=.ok (.slice (some ⟨w.heap.size,0,none⟩) 3 3) (w.alloc (.cells #[.int .i64 x0.kind,.int .u64 (x0.num:Int),.slice A0.ab A0.nb A0.cb,.slice A0.ai A0.ni A0.ci,.int .i64 x1.kind,.int .u64 (x1.num:Int),.slice A1.ab A1.nb A1.cb,.slice A1.ai A1.ni A1.ci,.int .i64 x2.kind,.int .u64 (x2.num:Int),.slice A2.ab A2.nb A2.cb,.slice A2.ai A2.ni A2.ci] 26)):=by
 go_simp
theorem doesh_rows3 {ok:Nat→Prop} (o0 o1 o2:Operand) (x0 x1 x2:It) (ho:o.op=.buildSlice 24 3 #[(0,o0),(1,o1),(2,o2)]) (hk:ok w.heap.size) (h0:(Fh.it x0).holds ok (ρ o0) w) (h1:(Fh.it x1).holds ok (ρ o1) w) (h2:(Fh.it x2).holds ok (ρ o2) w):Rg.Does Tryz.prog o ρ w fun v w'=>RB' w w'∧True∧(Fh.rok [x0,x1,x2]).holds ok v w':=by
 obtain ⟨A0,e0,hI0⟩:=h0;obtain ⟨A1,e1,hI1⟩:=h1;obtain ⟨A2,e2,hI2⟩:=h2;have hr:(Instr.buildSlice 24 3 #[(0,.agg #[.int .i64 x0.kind,.int .u64 (x0.num:Int),.slice A0.ab A0.nb A0.cb,.slice A0.ai A0.ni A0.ci]),(1,.agg #[.int .i64 x1.kind,.int .u64 (x1.num:Int),.slice A1.ab A1.nb A1.cb,.slice A1.ai A1.ni A1.ci]),(2,.agg #[.int .i64 x2.kind,.int .u64 (x2.num:Int),.slice A2.ab A2.nb A2.cb,.slice A2.ai A2.ni A2.ci])]).run Tryz.prog w=.ok (.slice (some ⟨w.heap.size,0,none⟩) 3 3) (w.alloc (.cells (List.flatMap cells4 [(x0,A0),(x1,A1),(x2,A2)]).toArray 26)):=run_rows3 x0 x1 x2 A0 A1 A2 w;have hP:=al w (.cells (List.flatMap cells4 [(x0,A0),(x1,A1),(x2,A2)]).toArray 26);have hN:=aw w (.cells (List.flatMap cells4 [(x0,A0),(x1,A1),(x2,A2)]).toArray 26);generalize w.alloc (.cells (List.flatMap cells4 [(x0,A0),(x1,A1),(x2,A2)]).toArray 26)=W' at *;refine Rg.Does.value (v:=.slice (some ⟨w.heap.size,0,none⟩) 3 3) (w':=W') ?_ ⟨hP,trivial,some ⟨w.heap.size,0,none⟩,3,3,rfl,TL.flat (es:=[(x0,A0),(x1,A1),(x2,A2)]) hN hk (fun e he=>?_) (by simp),by simp,by simp⟩
 ·simp only [execOp,ho,List.map_toArray,List.map_cons,List.map_nil,e0,e1,e2,Sem.run_bind,hr,Result.andThen_ok,Sem.run_pure]
 ·simp only [List.mem_cons,List.not_mem_nil,or_false] at he
  rcases he with rfl | rfl | rfl
  ·exact hI0.below hP
  ·exact hI1.below hP
  ·exact hI2.below hP
theorem doesh_len {ok ok0:Nat→Prop} {l:List It} (x:Operand) (n:Nat) (hn:l.length=n) (ho:o.op=.call { callee:=.builtin .len,args:=#[x],argTypes:=#[24] }) (hx:(Fh.rok l).holds ok0 (ρ x) w):Rg.Does Tryz.prog o ρ w fun v' w'=>RB' w w'∧True∧(Fh.eq (.int .i64 (n:Int))).holds ok v' w':=by
 obtain ⟨a,m,c,e,hT,_⟩:=hx;have:m=n:=by rw [← hn];exact hT.1
 subst this;exact does_len x 24 26 Tryz.underlying24 a m c ho e
end
theorem cell_of9 {w:World} {b:Nat} {x0 x1 x2 x3 x4 x5 x6 x7 x8:Value} {T:Nat} (h:w.heap[b]?=some (.cells #[x0,x1,x2,x3,x4,x5,x6,x7,x8] T (0,0))) (k:Nat) (hk:k < 9) (hi:∀ i,i < 9→∃ n:Int,#[x0,x1,x2,x3,x4,x5,x6,x7,x8][i]?=some (.int .i64 n)∧-9223372036854775808≤n∧n≤9223372036854775807):∃ n:Int,w.cell? ⟨b,k,none⟩=some (.int .i64 n)∧-9223372036854775808≤n∧n≤9223372036854775807:=by
 obtain ⟨n,h1,h2⟩:=hi k hk;exact ⟨n,by rw [cr h];exact h1,h2⟩
theorem InL.upto {w w':World} {la:Option Addr} {len:Nat} (h:InL w la len) (k:Below w.heap.size w w'):InL w' la len:=h.below k
set_option maxHeartbeats 32000000 in
theorem puts_law (p u:It) (A C:Ad) (w:World) (ok ok':Nat→Prop) (hI:IR ok w p A) (hJ:IR ok' w u C) (hE:Env w) (la:Option Addr) (ln lc:Nat) (hL:InL w la ln) (label:Int) (h0: -9223372036854775808≤label) (h1:label≤9223372036854775807) (v:It) (K:Ad) (ok3:Nat→Prop) (hK:IR ok3 w v K) (b:Bool):Calls Tryz.prog 4 #[.agg #[.int .i64 p.kind,.int .u64 (p.num:Int),.slice A.ab A.nb A.cb,.slice A.ai A.ni A.ci,.int .i64 u.kind,.int .u64 (u.num:Int),.slice C.ab C.nb C.cb,.slice C.ai C.ni C.ci],.slice la ln lc,.int .i64 label,.agg #[.int .i64 v.kind,.int .u64 (v.num:Int),.slice K.ab K.nb K.cb,.slice K.ai K.ni K.ci],.bool b] w fun e w'=>e=.returned (.bool true)∧Below w.heap.size w w':=by
 obtain ⟨P0,N0⟩:=an w (o8 p u A C);obtain ⟨P1,N1⟩:=an (w.alloc (o8 p u A C)) (o4 v K);have hsz1:(w.alloc (o8 p u A C)).heap.size=w.heap.size + 1:=by simp
 rw [hsz1] at N1;have hsz2:((w.alloc (o8 p u A C)).alloc (o4 v K)).heap.size=w.heap.size + 2:=by simp
 have HT1:=dh (Below.keep P1 N0 (lb N0));have HV1:=dh N1;have HP:=dh (pt P0 P1);have HI1:=dh (((hI.imp (ok':=fun q=>q < w.heap.size) fun q _ hq=>hq).below P0).below P1);have HJ1:=dh (((hJ.imp (ok':=fun q=>q < w.heap.size) fun q _ hq=>hq).below P0).below P1);have HK1:=dh (((hK.imp (ok':=fun q=>q < w.heap.size) fun q _ hq=>hq).below P0).below P1);have HE1:=dh ((hE.below P0).below P1);have HL1:=dh ((hL.below P0).below P1);have HLB:=dh hL;have HEB:=dh hE.lt;have HLA:=dh (And.intro h0 h1);clear P0 N0 P1 N1 hsz1 hI hJ hK hE hL h0 h1;go_enter Tryz.func4,Tryz.ntmps4
 go_upto_region 1 with fail
 generalize (w.alloc (o8 p u A C)).alloc (o4 v K)=w1 at *;generalize hB:w.heap.size=B at *;go_wp2_with fail
 refine (new_any la ln lc w1).mono ?_;rintro e w1' ⟨rfl,rfl⟩;have PD:=al w1 (.cells #[.slice la ln lc,.int .i64 0] 94);have HD:=dh (HL1.out.deck lc);have HT2:=kp PD HT1;have HV2:=kp PD HV1;have HP2:=dh (bwt HP.out PD hB);have HI2:=dh (HI1.out.below PD);have HJ2:=dh (HJ1.out.below PD);have HK2:=dh (HK1.out.below PD);have HE2:=dh (HE1.out.below PD);clear PD HL1 HT1 HV1 HP HI1 HJ1 HK1 HE1;go_upto_region 2 with fail
 generalize w1.alloc _=w2 at *;rw [hsz2] at HD;obtain ⟨d,hd⟩:∃ d,d=B + 2:=⟨_,rfl⟩;rw [← hd] at HD ⊢;have hBd:B + 1 < d:=by omega
 have h1d:1 < d:=by have:=HEB.out;omega
 have HDW:=dh (DW.start HD.out);clear hd hsz2 HEB HD;have HC:=dh (gen_any 2 (by decide) d w2 2 rfl HDW.out.deck HE2.out h1d);go_wp2_with fail
 refine HC.out.mono ?_;rintro e w3 ⟨x,X,rfl,_,hX,hW3⟩;have Q3:=al w3 (o4 x X);have HW4:=dh (aw w3 (o4 x X));have HT4:=dh (Below.keep Q3 ((hW3.but.block B (lb HT2.out) (by omega)).trans HT2.out) (by have:=hW3.but.size;have:=lb HT2.out;omega));have HV4:=dh (Below.keep Q3 ((hW3.but.block (B + 1) (lb HV2.out) (by omega)).trans HV2.out) (by have:=hW3.but.size;have:=lb HV2.out;omega));have HI4:=dh ((But.ir HI2.out hW3.but (fun q hq=>by omega)).below Q3);have HJ4:=dh ((But.ir HJ2.out hW3.but (fun q hq=>by omega)).below Q3);have HK4:=dh (((But.ir HK2.out hW3.but (fun q hq=>by omega)).below Q3).imp (ok':=fun _=>True) fun _ _ _=>trivial);have HL4:=dh ((hX.imp (ok':=fun _=>True) fun _ _ _=>trivial).below Q3);have HE4:=dh ((But.env HE2.out hW3.but h1d).below Q3);have HB4:Hid (Below B w (w3.alloc (o4 x X))):=dh ((HP2.out.trans (hW3.but.below (by omega) (by have:=hW3.lt;omega))).trans (Q3.mono (by have:=hW3.but.size;have:=lb HT2.out;omega)));clear hX hW3 Q3 HC HT2 HV2 HI2 HJ2 HK2 HE2 HP2 HDW;go_upto_region 3 with fail
 generalize w3.alloc _=w4 at *;generalize w3.heap.size=T12 at *;have HC:=dh (all_any p u A C w4 _ _ HI4.out HJ4.out HE4.out la ln lc (HLB.out.upto (hB ▸ HB4.out)));have t:=ce HT4.out;go_wp2_with fail
 refine HC.out.mono ?_;rintro e w5 ⟨X5,rfl,hRow,hX5,hB5⟩;have HROW:=dh hRow;have HXL:=dh hX5;have HV5:=kp hB5 HV4;have HW5:=kp hB5 HW4;have HK5:=dh (HK4.out.below hB5);have HL5:=dh (HL4.out.below hB5);have HE5:=dh (HE4.out.below hB5);have HB5:=dh (bwt HB4.out hB5 hB);clear hRow hX5 hB5 HC t HT4 HI4 HJ4;clear HV4 HW4 HK4 HL4 HE4 HB4;go_upto_region 4 with fail
 go_loopw [35] (fun i W=>∃ j:Nat,i=.int .i64 (j:Int)∧j≤5∧Below w5.heap.size w5 W) (fun i _=>5 - (intOf i).toNat)
 case atStart=>exact ⟨0,rfl,by omega,Below.refl _ _⟩
 case round=>
  obtain ⟨u0,hu0⟩:∃ u0,u0=wr:=⟨_,rfl⟩;subst hu0;obtain ⟨j,rfl,hj,hBj⟩:=hrel;by_cases hj5:j < 5
  ·have hjz:(j:Int) < 5:=by omega
   obtain ⟨p,u,A,C,⟨c0,c1,c2,c3,c4,c5,c6,c7⟩,hI,hJ⟩:=(HROW.out.below hBj HXL.out) j hj5;have P6:=al u0 (o8 p u A C);have hQ:=pt hBj P6;have HT6:=dh (aw u0 (o8 p u A C));have HI6:=dh (hI.below P6);have HJ6:=dh (hJ.below P6);have HV6:=kp hQ HV5;have HW6:=kp hQ HW5;have HK6:=dh (HK5.out.below hQ);have HL6:=dh (HL5.out.below hQ);have HE6:=dh (HE5.out.below hQ);have HBJ:=dh hQ;have HJ5:=dh hj5;clear hI hJ hBj hj P6 hQ;go_upto_region 6 with fail
   clear c0 c1 c2 c3 c4 c5 c6 c7 hjz hj5;generalize u0.alloc _=w6 at *;generalize u0.heap.size=T6 at *;have P7:=al w6 (.cells #[.int .i64 label,.int .i64 1,.int .i64 2,.int .i64 4,.int .i64 5,.int .i64 6,.int .i64 12,.int .i64 98,.int .i64 99] 3);have HR7:=dh (aw w6 (.cells #[.int .i64 label,.int .i64 1,.int .i64 2,.int .i64 4,.int .i64 5,.int .i64 6,.int .i64 12,.int .i64 98,.int .i64 99] 3));have HT7:=kp P7 HT6;have HV7:=kp P7 HV6;have HW7:=kp P7 HW6;have HI7:=dh (HI6.out.below P7);have HJ7:=dh (HJ6.out.below P7);have HK7:=dh (HK6.out.below P7);have HL7:=dh (HL6.out.below P7);have HE7:=dh (HE6.out.below P7);have HBJ7:=dh (HBJ.out.trans (P7.mono HBJ.out.size));clear P7;clear HT6 HV6 HW6 HI6 HJ6 HK6 HL6 HE6;clear HBJ;go_upto_region 7 with fail
   generalize w6.alloc _=w7 at *;generalize w6.heap.size=TR at *;have HLAB:Hid (∀ k,k < 9→∃ n:Int,w7.cell? ⟨TR,k,none⟩=some (.int .i64 n)∧-9223372036854775808≤n∧n≤9223372036854775807):=dh fun k hk=>cell_of9 HR7.out k hk fun i hi=>by
    rcases (show i=0∨i=1∨i=2∨i=3∨i=4∨i=5∨i=6∨i=7∨i=8 by omega) with rfl | rfl | rfl | rfl | rfl | rfl | rfl | rfl | rfl
    ·exact ⟨label,rfl,HLA.out⟩
    all_goals exact ⟨_,rfl,by decide,by decide⟩
   go_loopw [42] (fun i W=>∃ k:Nat,i=.int .i64 (k:Int)∧k≤9∧Below w7.heap.size w7 W) (fun i _=>9 - (intOf i).toNat)
   case atStart=>exact ⟨0,rfl,by omega,Below.refl _ _⟩
   case round=>
    obtain ⟨u1,hu1⟩:∃ u1,u1=wr:=⟨_,rfl⟩;subst hu1;obtain ⟨k,rfl,hk,hBk⟩:=hrel;by_cases hk9:k < 9
    ·have hkz:(k:Int) < 9:=by omega
     obtain ⟨n,hcn,hn0,hn1⟩:=HLAB.out k hk9;have hcn:=(hBk.cell (p:=⟨TR,k,none⟩) (lb HR7.out)).trans hcn;have HN:=dh (And.intro hn0 hn1);have HT8:=kp hBk HT7;have HV8:=kp hBk HV7;have HW8:=kp hBk HW7;have HI8:=dh (HI7.out.below hBk);have HJ8:=dh (HJ7.out.below hBk);have HK8:=dh (HK7.out.below hBk);have HL8:=dh (HL7.out.below hBk);have HE8:=dh (HE7.out.below hBk);have HB8:=dh hBk;have HK9:=dh hk9;clear hBk hk hn0 hn1;go_upto_region 9 with fail
     clear hcn hkz hk9;obtain ⟨g,hg⟩:∃ g,It.getP p u n=g:=⟨_,rfl⟩;have HC:=dh (hget_any p u A C u1 _ _ HI8.out HJ8.out HE8.out n HN.out.1 HN.out.2);rw [hg] at HC;have HG:=dh hg;clear hg;have t:=ce HT8.out;go_wp2_with fail
     refine HC.out.mono ?_;rintro e v1 ⟨_,rfl,B1,Y,rfl,hIY⟩;have hQ:=pt B1 (al v1 (o4 (It.opt g) Y));have HQ9:=dh (aw v1 (o4 (It.opt g) Y));have HY9:=dh (hIY.below (al v1 (o4 (It.opt g) Y)));have HT9:=kp hQ HT8;have HV9:=kp hQ HV8;have HW9:=kp hQ HW8;have HI9:=dh (HI8.out.below hQ);have HJ9:=dh (HJ8.out.below hQ);have HK9:=dh (HK8.out.below hQ);have HL9:=dh (HL8.out.below hQ);have HE9:=dh (HE8.out.below hQ);have HB9:=dh (HB8.out.trans (Below.mono hQ HB8.out.size));clear HT8 HV8 HW8 HI8 HJ8 HK8 HL8 HE8 HB8;clear hIY HC;go_upto_region 10 with fail
     clear t B1 hQ;generalize v1.alloc _=w9 at *;generalize v1.heap.size=T17 at *;have HC:=dh (rget_any p u A C w9 _ _ HI9.out HJ9.out HE9.out n HN.out.1 HN.out.2);rw [HG.out] at HC;have t:=ce HT9.out;go_wp2_with fail
     refine HC.out.mono ?_;rintro e v2 ⟨_,rfl,B2,Z,rfl,hIZ⟩;have hQ:=pt B2 (al v2 (o4 (It.opt g) Z));have HZ10b:=dh (aw v2 (o4 (It.opt g) Z));have HZ10:=dh (hIZ.below (al v2 (o4 (It.opt g) Z)));have HQ10:=kp hQ HQ9;have HY10:=dh (HY9.out.below hQ);have HT10:=kp hQ HT9;have HV10:=kp hQ HV9;have HW10:=kp hQ HW9;have HI10:=dh (HI9.out.below hQ);have HJ10:=dh (HJ9.out.below hQ);have HK10:=dh (HK9.out.below hQ);have HL10:=dh (HL9.out.below hQ);have HE10:=dh (HE9.out.below hQ);have HB10:=dh (HB9.out.trans (Below.mono hQ HB9.out.size));clear HT9 HV9 HW9 HI9 HJ9 HK9 HL9 HE9 HB9;clear hIZ HC HQ9 HY9;go_upto_region 11 with fail
     clear t B2 hQ;generalize v2.alloc _=w10 at *;generalize v2.heap.size=T19 at *;have HC:=dh (same_any (It.opt g) (It.opt g) Y Z w10 _ _ HY10.out HZ10.out);rw [It.same_self] at HC;have t:=cf HQ10.out;have r:=cf HZ10b.out;generalize Option.isSome g=gb at *;go_wp2_with fail
     refine HC.out.mono ?_;rintro e w11 ⟨rfl,B11⟩;have HT11:=kp B11 HT10;have HV11:=kp B11 HV10;have HW11:=kp B11 HW10;have HI11:=dh (HI10.out.below B11);have HJ11:=dh (HJ10.out.below B11);have HK11:=dh (HK10.out.below B11);have HL11:=dh (HL10.out.below B11);have HE11:=dh (HE10.out.below B11);have HB11:=dh (HB10.out.trans (Below.mono B11 HB10.out.size));clear HT10 HV10 HW10 HI10 HJ10 HK10 HL10 HE10 HB10;clear B11 HC t r HQ10 HY10 HZ10 HZ10b HG;go_upto_region 13 with fail
     refine region_f (M:=7) (fun _=>True) [.it v,.it x,.bt [UInt8.ofNat (Int.toNat 7)],.it (It.mk 2 0 [UInt8.ofNat (Int.toNat 7)] []),.rok [v,x,It.mk 2 0 [UInt8.ofNat (Int.toNat 7)] []],.eq (.int .i64 ((3:Nat):Int)),.eq (.int .i64 0)] (by kernel_rfl) (by kernel_rfl) ?_ ?_
     ·refine ⟨?_,?_,?_,?_,?_,?_,?_,trivial⟩<;>intro vs W hR _ hd
      ·exact dlV (.tmp 8) (B + 1) v K hR HV11.out HK11.out rfl (by kernel_rfl)
      ·exact dlV (.tmp 12) T12 x X hR HW11.out HL11.out rfl (by kernel_rfl)
      ·exact doesh_byte 7 (by decide) (by decide) rfl (by kernel_rfl)
      ·exact dcl (vals:=#[vs 2]) 31 (.func 31) #[.tmp 69] _ rfl (by kernel_rfl) (by kernel_rfl) (cq Tryz.func31) ((h_rbytes (hd 2 (by decide)) (by decide)).mono fun _ _ h=>EndH.any h (fun _ _=>trivial))
      ·exact doesh_rows3 (.tmp 67) (.tmp 68) (.tmp 70) v x (It.mk 2 0 [UInt8.ofNat (Int.toNat 7)] []) rfl trivial (hd 0 (by decide)) (hd 1 (by decide)) (hd 3 (by decide))
      ·exact doesh_len (.tmp 71) 3 rfl rfl (hd 4 (by decide))
      ·exact dmv (.const (.int .i64 0)) rfl (show _=_ by kernel_rfl)
     ·intro vs W12 hR12 hf
      obtain ⟨ra,rn,rc,e4,hT,_,_⟩:=hf 4 (by decide);have e5:vs 5=.int .i64 3:=hf 5 (by decide);have e6:vs 6=.int .i64 0:=hf 6 (by decide);have hrn:rn=3:=hT.1;subst hrn;have HTL:=dh hT;have HT12:=kp hR12 HT11;have HV12:=kp hR12 HV11;have HW12:=kp hR12 HW11;have HI12:=dh (HI11.out.below hR12);have HJ12:=dh (HJ11.out.below hR12);have HK12:=dh (HK11.out.below hR12);have HL12:=dh (HL11.out.below hR12);have HE12:=dh (HE11.out.below hR12);have HB12:=dh (HB11.out.trans (Below.mono hR12 HB11.out.size));clear HT11 HV11 HW11 HI11 HJ11 HK11 HL11 HE11 HB11;simp only [Rg.putAll,Rg.putFrom,List.take_succ_cons,List.take_zero,List.drop_succ_cons,List.drop_zero,Act.put,sx,Nat.zero_add,Nat.reduceAdd,e4,e5,e6];clear hf e4 e5 e6 hT hR12;go_upto_region 14 with fail
      go_loopw [73] (fun i W=>∃ q:Nat,i=.int .i64 (q:Int)∧q≤3∧Below W12.heap.size W12 W) (fun i _=>3 - (intOf i).toNat)
      case atStart=>exact ⟨0,rfl,by omega,Below.refl _ _⟩
      case round=>
       obtain ⟨u2,hu2⟩:∃ u2,u2=wr:=⟨_,rfl⟩;subst hu2;obtain ⟨q,rfl,hq,hBq⟩:=hrel;by_cases hq3:q < 3
       ·have hqz:(q:Int) < 3:=by omega
        obtain ⟨bl,o,Y,ha,_,⟨d0,d1,d2,d3⟩,hIy⟩:=(HTL.out.below hBq).2.2 q (by show q < 3;omega);subst ha;generalize ([v,x,It.mk 2 0 [UInt8.ofNat (Int.toNat 7)] []]:List It)[q]=y at *;have PA:=al u2 (o4 y Y);have hQ:=pt hBq PA;have HYB:=dh (aw u2 (o4 y Y));have HYI:=dh (hIy.below PA);have HT13:=kp hQ HT12;have HI13:=dh (HI12.out.below hQ);have HJ13:=dh (HJ12.out.below hQ);have HE13:=dh (HE12.out.below hQ);have HB13:=dh hQ;have HQ3:=dh hq3;clear hIy hBq hq PA hQ;go_upto_region 16 with fail
        clear d0 d1 d2 d3 hqz hq3;generalize u2.alloc _=w13 at *;generalize u2.heap.size=T22 at *;obtain ⟨r,hr⟩:∃ r,It.putP p u b n y=r:=⟨_,rfl⟩;have HR:=dh hr;have HC:=dh (hput_any p u A C w13 _ _ HI13.out HJ13.out HE13.out y Y b n _ HYI.out HN.out.1 HN.out.2);rw [hr] at HC;clear hr;have t:=ce HT13.out;have z:=cf HYB.out;go_wp2_with fail
        refine HC.out.mono ?_;rintro e v3 ⟨_,rfl,B3,P3,U3,rfl,hP3,hU3⟩;have hQ:=pt B3 (al v3 (o8 (It.PH.fst r) (It.PH.snd r) P3 U3));have HC3:=dh (aw v3 (o8 (It.PH.fst r) (It.PH.snd r) P3 U3));have HP3:=dh (hP3.below (al v3 (o8 (It.PH.fst r) (It.PH.snd r) P3 U3)));have HU3:=dh (hU3.below (al v3 (o8 (It.PH.fst r) (It.PH.snd r) P3 U3)));have HYB4:=kp hQ HYB;have HYI4:=dh (HYI.out.below hQ);have HT14:=kp hQ HT13;have HI14:=dh (HI13.out.below hQ);have HJ14:=dh (HJ13.out.below hQ);have HE14:=dh (HE13.out.below hQ);have HB14:=dh (HB13.out.trans (Below.mono hQ HB13.out.size));clear HT13 HI13 HJ13 HE13 HB13;clear hP3 hU3 HC HYB HYI;go_upto_region 17 with fail
        clear t z B3 hQ;generalize v3.alloc _=w14 at *;generalize v3.heap.size=T23 at *;have HC:=dh (rput_any p u A C w14 _ _ HI14.out HJ14.out HE14.out y Y b n _ HYI4.out HN.out.1 HN.out.2);rw [HR.out] at HC;have t:=ce HT14.out;have z:=cf HYB4.out;go_wp2_with fail
        refine HC.out.mono ?_;rintro e v4 ⟨_,rfl,B4,P4,U4,rfl,hP4,hU4⟩;have hQ:=pt B4 (al v4 (o8 (It.PH.fst r) (It.PH.snd r) P4 U4));have HC4:=dh (aw v4 (o8 (It.PH.fst r) (It.PH.snd r) P4 U4));have HP4:=dh (hP4.below (al v4 (o8 (It.PH.fst r) (It.PH.snd r) P4 U4)));have HU4:=dh (hU4.below (al v4 (o8 (It.PH.fst r) (It.PH.snd r) P4 U4)));have HC34:=kp hQ HC3;have HP34:=dh (HP3.out.below hQ);have HU34:=dh (HU3.out.below hQ);have HB15:=dh (HB14.out.trans (Below.mono hQ HB14.out.size));clear hP4 hU4 HC HYB4 HYI4 HC3 HP3 HU3 HT14 HI14 HJ14 HE14 HB14 HR;go_upto_region 18 with fail
        clear t z B4 hQ;generalize v4.alloc _=w15 at *;generalize v4.heap.size=T25 at *;have HC:=dh (hsame_any (It.PH.fst r) (It.PH.snd r) (It.PH.fst r) (It.PH.snd r) P3 U3 P4 U4 w15 _ _ _ _ HP34.out HU34.out HP4.out HU4.out);rw [It.same_self,It.same_self] at HC;have t:=ce HC34.out;have z:=ce HC4.out;generalize It.PH.code r=cd at *;go_wp2_with fail
        refine HC.out.mono ?_;rintro e w16 ⟨rfl,B16⟩;have HB16:=dh (HB15.out.trans (Below.mono B16 HB15.out.size));have hwq:IntKind.i64.wrap ((q:Int) + 1)=((q + 1:Nat):Int):=by have:=HQ3.out;rw [IntWalk.i64_in _ (by omega)];omega
        clear B16 HC t z HC34 HC4 HP34 HU34 HP4 HU4;go_wp2_with fail
        go_roundw
        case rel=>exact ⟨q + 1,by go_num,by have:=HQ3.out;omega,HB16.out⟩
        case measure=>have:=HQ3.out;simp [intOf];omega
       ·have hqz:¬ (q:Int) < 3:=by omega
        have HBQ:=dh (HB12.out.trans (Below.mono hBq HB12.out.size));have hwk:IntKind.i64.wrap ((k:Int) + 1)=((k + 1:Nat):Int):=by have:=HK9.out;rw [IntWalk.i64_in _ (by omega)];omega
        clear hBq hq hq3;go_wp2_with fail
        go_roundw
        case rel=>exact ⟨k + 1,by go_num,by have:=HK9.out;omega,HBQ.out⟩
        case measure=>have:=HK9.out;simp [intOf];omega
    ·have hkz:¬ (k:Int) < 9:=by omega
     have HBK:=dh (HBJ7.out.trans (hBk.mono HBJ7.out.size));have hwj:IntKind.i64.wrap ((j:Int) + 1)=((j + 1:Nat):Int):=by have:=HJ5.out;rw [IntWalk.i64_in _ (by omega)];omega
     clear hBk hk hk9;go_wp2_with fail
     go_roundw
     case rel=>exact ⟨j + 1,by go_num,by have:=HJ5.out;omega,HBK.out⟩
     case measure=>have:=HJ5.out;simp [intOf];omega
  ·have hjz:¬ (j:Int) < 5:=by omega
   have HP3:=dh (bwt HB5.out hBj hB);have HC:=dh (hawake_any u0 (HE5.out.below hBj));clear hBj hj hj5;go_wp2_with fail
   refine HC.out.mono ?_;rintro e w6 ⟨rfl,B6⟩;have HP6:=dh (bwt HP3.out B6 hB);clear B6;go_wp2_with fail
   go_ret
   exact ⟨rfl,by rw [hB];exact HP6.out⟩
