/- The law CborDecodes, walked. -/
import Derived.Test.YtelefkkkccilaaaGreatDoorNc
import Derived.Test.YtelefkkkccilaaaGreatDoorRe
import Derived.Test.YtelefkkkccilaaaGreatDoorZa
import Derived.Test.YtelefkkkccilaaaGreatDoorNz
set_option linter.unusedVariables false
set_option linter.unusedSimpArgs false
namespace Go.Proofs.YtelefkkkccilaaaGreatDoor
open Go.RowKit
set_option maxRecDepth 100000
theorem DecP.out (R:It.DR):∃ (x:It) (k:Int),∀ w e w',DecP R w e w'→∃ A:Ad,e=.returned (.tuple #[.agg #[.int .i64 x.kind,.int .u64 (x.num:Int),.slice A.ab A.nb A.cb,.slice A.ai A.ni A.ci],.int .i64 k])∧IR (fun _=>True) w' x A∧Below w.heap.size w w':=by
 cases R with
 | err n=>exact ⟨.mk 0 0 [] [],n,fun w e w' h=>⟨⟨none,0,0,none,0,0⟩,h.2.2,IR.flat _ _ (by omega),h.1⟩⟩
 | ok x=>
  refine ⟨x,0,fun w e w' h=>?_⟩;obtain ⟨h3,A,h1,h2⟩:=h;exact ⟨A,h1,h2.imp fun _ _ _=>trivial,h3⟩
theorem PrefP.out (l:List UInt8) (R:It.PR It):∃ (x:It) (j k:Int),∀ w e w',PrefP l R w e w'→∃ A:Ad,e=.returned (.tuple #[.agg #[.int .i64 x.kind,.int .u64 (x.num:Int),.slice A.ab A.nb A.cb,.slice A.ai A.ni A.ci],.int .i64 j,.int .i64 k])∧IR (fun _=>True) w' x A∧Below w.heap.size w w':=by
 cases R with
 | err n=>exact ⟨.mk 0 0 [] [],0,n,fun w e w' h=>⟨⟨none,0,0,none,0,0⟩,h.2.2,IR.flat _ _ (by omega),h.1⟩⟩
 | ok x f s=>
  refine ⟨x,((l.length - s.length:Nat):Int),0,fun w e w' h=>?_⟩;obtain ⟨h3,A,j,h1,h2,h4,h5⟩:=h;have:j=l.length - s.length:=by rw [h5,List.length_drop];omega
  subst this;exact ⟨A,h1,h2.imp fun _ _ _=>trivial,h3⟩
set_option maxHeartbeats 32000000 in
theorem decodes_any (a la:Option Addr) (n c ln lc:Nat) (l:List UInt8) (p q:Int) (w:World) (hq0: -9223372036854775808≤q) (hq1:q≤9223372036854775807) (hR:BR (fun b=>b < w.heap.size) w a n l) (hc:n≤c) (hcm:c≤9223372036854775807) (hL:InL w la ln) (hE:Env w):
 Calls Tryz.prog 10 #[.slice a n c,.slice la ln lc,.int .i64 p,.int .i64 q] w fun e w'=>e=.returned (.bool true)∧Below w.heap.size w w':=by
 have h1:=hE.lt;have HE:=dh hE;have HL:=dh hL;have HRB:=dh hR;clear hE hL hR;by_cases h6:n≤600
 case neg=>
  have HS:=dh (short_no a n c w h6);have HC:=dh (awake_any w HE.out);clear HE HL HRB h6;go_enter Tryz.func10,Tryz.ntmps10
  go_wp2_with fail
  refine HS.out.mono ?_;rintro e w1 ⟨rfl,rfl⟩;go_wp2_with fail
  refine HC.out.mono ?_;rintro e w5 ⟨rfl,B5⟩;have HB5:=dh B5;clear B5 HC;go_wp2_with fail
  go_ret
  exact ⟨rfl,HB5.out⟩
 have HS:=dh (short_yes a n c w h6);go_enter Tryz.func10,Tryz.ntmps10
 go_wp2_with fail
 refine HS.out.mono ?_;rintro e w1 ⟨rfl,rfl⟩;go_wp2_with fail
 refine (new_any la ln lc w).mono ?_;rintro e w2 ⟨rfl,rfl⟩;have PD:=al w (.cells #[.slice la ln lc,.int .i64 0] 94);have hD:=HL.out.deck lc;have HG:=dh (gen_any 4 (by decide) w.heap.size _ 4 rfl hD (HE.out.below PD) h1);clear PD hD HS;go_wp2_with fail
 refine HG.out.mono ?_;rintro e w3 ⟨x,X,rfl,hvx,hIx,hW3⟩;have hB3:=hW3.pure;have HB3:=dh hB3;have HV:=dh hvx;have HC1:=dh (rencode_any x X w3 _ hIx (HE.out.below hB3));clear hB3 hvx hIx hW3 HG;go_wp2_with fail
 refine HC1.out.mono ?_;rintro e w4 h4;obtain ⟨v4,rfl,hO4,hB4⟩:=h4;rw [if_pos HV.out] at hO4;have hel:(It.enc x).length≤4096:=(by have h:=HV.out;unfold It.valid at h;simp only [Bool.and_eq_true,decide_eq_true_eq] at h;exact h.2);have hpos:=It.enc_pos x;generalize It.enc x=ex at *;obtain ⟨a4,c4,e4⟩:=og hO4;subst e4;generalize hL4:ex.length=n4 at *;have hif:(if It.valid x=true then (0:Int) else 1)=0:=if_pos HV.out;rw [hif];have HB4:=dh (pt HB3.out hB4);have HO4:=dh hO4;have hcb4:n4≤c4∧c4≤9223372036854775807:=by
  obtain ⟨a',c',e,_,h2,h3⟩:=hO4.br;cases e
  exact ⟨by omega,h3⟩
 have HBR4:=dh (BR.of_own hO4 hL4.symm);obtain ⟨a5,c5,W5,hrun5,hO5,hg5,hx5⟩:=app_bytes w4 w4.heap.size (.slice none 0 0) [] (OwnB.nil _ _) a4 n4 c4 ex _ HBR4.out (by simp;omega) (Nat.le_refl _);rw [List.nil_append] at hO5;rw [List.length_nil,Nat.zero_add] at hrun5 hO5;have HB5:=dh (bg (Below.refl w4.heap.size w4) (Nat.le_refl _) (OwnB.nil w4 w4.heap.size) hg5);obtain ⟨r,hr⟩:∃ r:Nat,q % 2=(r:Int):=⟨(q % 2).toNat,by have:=Int.emod_nonneg q (show (2:Int)≠0 by decide);omega⟩;have hr2:r < 2:=by have:=Int.emod_lt_of_pos q (show (0:Int) < 2 by decide);omega
 obtain ⟨nz,hnz⟩:∃ nz:Nat,nz=4096 - n4 + r:=⟨_,rfl⟩;obtain ⟨N1,hN1⟩:∃ N1:Int,N1=4096 - (n4:Int):=⟨_,rfl⟩;have hw1:IntKind.i64.wrap (4096 - (n4:Int))=N1:=by rw [hN1];exact IntWalk.i64_in _ (by omega)
 obtain ⟨N2,hN2⟩:∃ N2:Int,N2=(nz:Int):=⟨_,rfl⟩;have hw2:IntKind.i64.wrap (N1 + (r:Int))=N2:=by rw [IntWalk.i64_in _ (by omega)];omega
 obtain ⟨a7,c7,W7,hrun7,hO7,hg7⟩:=app_zeros W5 w4.heap.size (.slice a5 n4 c5) ex hO5 nz N2 hN2 (by omega) (fun e=>by cases e;omega) HB5.out.size;rw [hL4] at hrun7 hO7;have HCm:Hid (Calls Tryz.prog 35 #[.int .i64 q,.int .i64 2] W5 fun e w'=>e=.returned (.int .i64 (r:Int))∧W5=w'):=dh (by rw [← hr];exact mod_any q 2 W5 (by omega) (by omega));have HB7:=dh (bg HB5.out HB5.out.size hO5 hg7);have HR5:=dh hrun5;have HR7:=dh hrun7;have HO7:=dh hO7;have HNZ:Hid (nz≤4097):=dh (by omega);have HC4:=dh hcb4;clear hrun5 hO5 hg5 hx5 hr hnz hN1 hN2 hrun7 hO7 hg7 hcb4 hif hO4 HC1 HV;go_wp2_with (at_builtin;refine wj rfl _ _ 23 rfl rfl rfl HR5.out ?_;clear HR5)
 refine HCm.out.mono ?_;rintro e w6 ⟨rfl,rfl⟩;clear HCm;have HBR7:=dh (HBR4.out.below HB7.out);have HSp:=dh (spoilt_any ex a4 n4 c4 W7 _ p q HBR7.out (by omega) hq0 hq1);go_wp2_with (at_builtin;refine wpList_appz rfl _ _ 23 3 rfl rfl rfl HR7.out ?_;clear HR7)
 refine HSp.out.mono ?_;rintro e w8 ⟨l8,a8,c8,rfl,hR8,hc8,hcm8,hl8,hB8⟩;generalize hn8:l8.length=n8 at *;obtain ⟨a9,c9,W9,hrun9,hO9,hg9,hx9⟩:=app_bytes w8 w8.heap.size (.slice none 0 0) [] (OwnB.nil _ _) a4 n4 c4 ex _ (HBR7.out.below hB8) (by simp;omega) (Nat.le_refl _);rw [List.nil_append] at hO9;rw [List.length_nil,Nat.zero_add] at hrun9 hO9;have HB9:=dh (bg (Below.refl w8.heap.size w8) (Nat.le_refl _) (OwnB.nil w8 w8.heap.size) hg9);have HBW:=dh (pt HB4.out (HB7.out.trans (hB8.mono HB7.out.size)));have HRB9:=dh ((HRB.out.below HBW.out).below HB9.out);obtain ⟨a10,c10,W10,hrun10,hO10,hg10,hx10⟩:=app_bytes W9 w8.heap.size (.slice a9 n4 c9) ex hO9 a n c l _ HRB9.out (by omega) HB9.out.size;rw [hL4] at hrun10 hO10;have HB10:=dh (bg HB9.out HB9.out.size hO9 hg10);have HR9:=dh hrun9;have HR10:=dh hrun10;have HO10:=dh hO10;have HR8:=dh hR8;have HB8:=dh hB8;have HC8:=dh (And.intro hc8 hcm8);clear hrun9 hO9 hg9 hx9 hrun10 hO10 hg10 hx10 hR8 hB8 hc8 hcm8 HSp hl8;go_upto_region 7 with (at_builtin;first | (refine wj rfl _ _ 23 rfl rfl rfl HR9.out ?_;clear HR9) | (refine wj rfl _ _ 23 rfl rfl rfl HR10.out ?_;clear HR10))
 have hc10:n4 + n≤c10∧c10≤9223372036854775807∧BR (fun q=>w8.heap.size≤q) W10 a10 (n4 + n) (ex ++ l):=by
  obtain ⟨a',c',e,h1,h2,h3⟩:=HO10.out.br;simp only [Value.slice.injEq] at e;obtain ⟨e1,e2,e3⟩:=e;subst e1;subst e3;rw [e2];exact ⟨h2,h3,h1⟩
 have hc7:n4 + nz≤c7∧c7≤9223372036854775807∧BR (fun q=>w4.heap.size≤q) W7 a7 (n4 + nz) (ex ++ List.replicate nz 0):=by
  obtain ⟨a',c',e,h1,h2,h3⟩:=HO7.out.br;simp only [Value.slice.injEq] at e;obtain ⟨e1,e2,e3⟩:=e;subst e1;subst e3;rw [e2];exact ⟨h2,h3,h1⟩
 have HC10:=dh hc10;have HC7:=dh hc7;have HB710:=dh (show Below W7.heap.size W7 W10 from HB8.out.trans (HB10.out.mono HB8.out.size));have HBA:=dh (show Below w.heap.size w W10 from HBW.out.trans (HB10.out.mono HBW.out.size));have P11:=al W10 (.cells #[.slice a n c,.slice a4 n4 c4,.slice a8 n8 c8,.slice a10 (n4 + n) c10,.slice a7 (n4 + nz) c7] 23);have N11:=aw W10 (.cells #[.slice a n c,.slice a4 n4 c4,.slice a8 n8 c8,.slice a10 (n4 + n) c10,.slice a7 (n4 + nz) c7] 23);have HROW:Hid (∀ j,j < 5→∃ (az:Option Addr) (nz' cz:Nat) (lz:List UInt8),(W10.alloc (.cells #[.slice a n c,.slice a4 n4 c4,.slice a8 n8 c8,.slice a10 (n4 + n) c10,.slice a7 (n4 + nz) c7] 23)).cell? ⟨W10.heap.size,j,none⟩=some (.slice az nz' cz)∧BR (fun _=>True) (W10.alloc (.cells #[.slice a n c,.slice a4 n4 c4,.slice a8 n8 c8,.slice a10 (n4 + n) c10,.slice a7 (n4 + nz) c7] 23)) az nz' lz∧nz'≤cz∧cz≤9223372036854775807):=dh fun j hj=>by
  rcases (show j=0∨j=1∨j=2∨j=3∨j=4 by omega) with rfl | rfl | rfl | rfl | rfl
  ·exact ⟨_,_,_,l,cr N11 _,((HRB.out.below HBA.out).below P11).imp fun _ _ _=>trivial,hc,hcm⟩
  ·exact ⟨_,_,_,ex,cr N11 _,((HBR7.out.below HB710.out).below P11).imp fun _ _ _=>trivial,HC4.out.1,HC4.out.2⟩
  ·exact ⟨_,_,_,l8,cr N11 _,((HR8.out.below HB10.out).below P11).imp fun _ _ _=>trivial,HC8.out.1,HC8.out.2⟩
  ·exact ⟨_,_,_,_,cr N11 _,(HC10.out.2.2.below P11).imp fun _ _ _=>trivial,HC10.out.1,HC10.out.2.1⟩
  ·exact ⟨_,_,_,_,cr N11 _,((HC7.out.2.2.below HB710.out).below P11).imp fun _ _ _=>trivial,HC7.out.1,HC7.out.2.1⟩
 have HB6:=dh (pt HBA.out P11);have HE6:=dh (HE.out.below HB6.out);clear hc10 hc7 P11 N11 HC10 HC7 HB710 HBA HC8 HR8 HO10 HO7 HRB9 HB9 HB10 HB8 HBR7 HBW HNZ HC4 HBR4 HO4 HB5 HB7 HB4 hn8 hB4 HB3 HRB hc hcm hw1 hw2;generalize hr6:W10.heap.size=rr at *;generalize W10.alloc (.cells #[.slice a n c,.slice a4 n4 c4,.slice a8 n8 c8,.slice a10 (n4 + n) c10,.slice a7 (n4 + nz) c7] 23)=w11 at *;clear hr6;go_loopw [59] (fun i W=>∃ j:Nat,i=.int .i64 (j:Int)∧j≤5∧Below w11.heap.size w11 W) (fun i _=>5 - (intOf i).toNat)
 case atStart=>exact ⟨0,rfl,by omega,Below.refl _ _⟩
 case round=>
  obtain ⟨u,hu⟩:∃ u,u=wr:=⟨_,rfl⟩;subst hu;obtain ⟨j,rfl,hj,hBj⟩:=hrel;by_cases hj5:j < 5
  ·obtain ⟨az,nz',cz,lz,hcell,hBz,hcz,hczm⟩:=HROW.out j hj5
   have hcl:=(hBj.cell (p:=⟨rr,j,none⟩) (lg hcell)).trans hcell;have HBj:=dh hBj;have HBz:=dh (hBz.below hBj);have hjz:(j:Int) < 5:=by omega
   have HEu:=dh (HE6.out.below hBj);obtain ⟨x1,k1,hout1⟩:=DecP.out (It.decodeP lz);obtain ⟨x3,j3,k3,hout3⟩:=PrefP.out (lz.take 4096) (It.prefixP lz);have HO1:=dh hout1;have HO3:=dh hout3;have HC1:=dh (cdecode_any lz az nz' cz u _ HBz.out hcz hczm HEu.out);have HCZ:=dh (And.intro hcz hczm);clear hcell hBz hBj hcz hczm hout1 hout3;go_wp2_with fail
   refine HC1.out.mono ?_;rintro e u1 h1;obtain ⟨A1,rfl,hI1,hB1⟩:=HO1.out _ _ _ h1;have P1:=al u1 (.cells #[.int .i64 x1.kind,.int .u64 (x1.num:Int),.slice A1.ab A1.nb A1.cb,.slice A1.ai A1.ni A1.ci] 26);have Q1:=dh (pt hB1 P1);have HN1:=dh (aw u1 (.cells #[.int .i64 x1.kind,.int .u64 (x1.num:Int),.slice A1.ab A1.nb A1.cb,.slice A1.ai A1.ni A1.ci] 26));have HI1:=dh (hI1.below P1);have HT1:=dh (pt HBj.out Q1.out);have HZ1:=dh (HBz.out.below Q1.out);clear P1 hB1 hI1 h1;have HC2:=dh (rdecode_any lz az nz' cz (u1.alloc (.cells #[.int .i64 x1.kind,.int .u64 (x1.num:Int),.slice A1.ab A1.nb A1.cb,.slice A1.ai A1.ni A1.ci] 26)) _ HZ1.out HCZ.out.1 HCZ.out.2 (HE6.out.below HT1.out));go_upto_region 10 with fail
   generalize u1.heap.size=b1 at *;generalize u1.alloc (.cells #[.int .i64 x1.kind,.int .u64 (x1.num:Int),.slice A1.ab A1.nb A1.cb,.slice A1.ai A1.ni A1.ci] 26)=v1 at *;go_wp2_with fail
   refine HC2.out.mono ?_;rintro e u2 h2;obtain ⟨A2,rfl,hI2,hB2⟩:=HO1.out _ _ _ h2;have P2:=al u2 (.cells #[.int .i64 x1.kind,.int .u64 (x1.num:Int),.slice A2.ab A2.nb A2.cb,.slice A2.ai A2.ni A2.ci] 26);have Q2:=dh (pt hB2 P2);have HN2:=dh (aw u2 (.cells #[.int .i64 x1.kind,.int .u64 (x1.num:Int),.slice A2.ab A2.nb A2.cb,.slice A2.ai A2.ni A2.ci] 26));have HI2:=dh (hI2.below P2);have HT2:=dh (pt HT1.out Q2.out);have HZ2:=dh (HZ1.out.below Q2.out);have HN1':=dh (Below.keep Q2.out HN1.out (lb HN1.out));have HI1':=dh (HI1.out.below Q2.out);clear HN1 HI1;have HN1:=HN1';have HI1:=HI1';clear HN1' HI1';clear P2 hB2 hI2 h2;have HC3:=dh (cprefix_any lz az nz' cz (u2.alloc (.cells #[.int .i64 x1.kind,.int .u64 (x1.num:Int),.slice A2.ab A2.nb A2.cb,.slice A2.ai A2.ni A2.ci] 26)) _ HZ2.out HCZ.out.1 HCZ.out.2 (HE6.out.below HT2.out));go_upto_region 11 with fail
   generalize u2.heap.size=b2 at *;generalize u2.alloc (.cells #[.int .i64 x1.kind,.int .u64 (x1.num:Int),.slice A2.ab A2.nb A2.cb,.slice A2.ai A2.ni A2.ci] 26)=v2 at *;go_wp2_with fail
   refine HC3.out.mono ?_;rintro e u3 h3;obtain ⟨A3,rfl,hI3,hB3⟩:=HO3.out _ _ _ h3;have P3:=al u3 (.cells #[.int .i64 x3.kind,.int .u64 (x3.num:Int),.slice A3.ab A3.nb A3.cb,.slice A3.ai A3.ni A3.ci] 26);have Q3:=dh (pt hB3 P3);have HN3:=dh (aw u3 (.cells #[.int .i64 x3.kind,.int .u64 (x3.num:Int),.slice A3.ab A3.nb A3.cb,.slice A3.ai A3.ni A3.ci] 26));have HI3:=dh (hI3.below P3);have HT3:=dh (pt HT2.out Q3.out);have HZ3:=dh (HZ2.out.below Q3.out);have HN1':=dh (Below.keep Q3.out HN1.out (lb HN1.out));have HI1':=dh (HI1.out.below Q3.out);clear HN1 HI1;have HN1:=HN1';have HI1:=HI1';clear HN1' HI1';have HN2':=dh (Below.keep Q3.out HN2.out (lb HN2.out));have HI2':=dh (HI2.out.below Q3.out);clear HN2 HI2;have HN2:=HN2';have HI2:=HI2';clear HN2' HI2';clear P3 hB3 hI3 h3;have HC4:=dh (rprefix_any lz az nz' cz (u3.alloc (.cells #[.int .i64 x3.kind,.int .u64 (x3.num:Int),.slice A3.ab A3.nb A3.cb,.slice A3.ai A3.ni A3.ci] 26)) _ HZ3.out HCZ.out.1 HCZ.out.2 (HE6.out.below HT3.out));go_upto_region 12 with fail
   generalize u3.heap.size=b3 at *;generalize u3.alloc (.cells #[.int .i64 x3.kind,.int .u64 (x3.num:Int),.slice A3.ab A3.nb A3.cb,.slice A3.ai A3.ni A3.ci] 26)=v3 at *;go_wp2_with fail
   refine HC4.out.mono ?_;rintro e u4 h4;obtain ⟨A4,rfl,hI4,hB4⟩:=HO3.out _ _ _ h4;have P4:=al u4 (.cells #[.int .i64 x3.kind,.int .u64 (x3.num:Int),.slice A4.ab A4.nb A4.cb,.slice A4.ai A4.ni A4.ci] 26);have Q4:=dh (pt hB4 P4);have HN4:=dh (aw u4 (.cells #[.int .i64 x3.kind,.int .u64 (x3.num:Int),.slice A4.ab A4.nb A4.cb,.slice A4.ai A4.ni A4.ci] 26));have HI4:=dh (hI4.below P4);have HT4:=dh (pt HT3.out Q4.out);have HZ4:=dh (HZ3.out.below Q4.out);have HN1':=dh (Below.keep Q4.out HN1.out (lb HN1.out));have HI1':=dh (HI1.out.below Q4.out);clear HN1 HI1;have HN1:=HN1';have HI1:=HI1';clear HN1' HI1';have HN2':=dh (Below.keep Q4.out HN2.out (lb HN2.out));have HI2':=dh (HI2.out.below Q4.out);clear HN2 HI2;have HN2:=HN2';have HI2:=HI2';clear HN2' HI2';have HN3':=dh (Below.keep Q4.out HN3.out (lb HN3.out));have HI3':=dh (HI3.out.below Q4.out);clear HN3 HI3;have HN3:=HN3';have HI3:=HI3';clear HN3' HI3';clear P4 hB4 hI4 h4;go_upto_region 13 with fail
   generalize u4.heap.size=b4 at *;generalize u4.alloc (.cells #[.int .i64 x3.kind,.int .u64 (x3.num:Int),.slice A4.ab A4.nb A4.cb,.slice A4.ai A4.ni A4.ci] 26)=v4 at *;have HS1:=dh (same_any x1 x1 A1 A2 v4 _ _ HI1.out HI2.out);rw [It.same_self] at HS1;obtain ⟨p0,p1,p2,p3⟩:=cf HN1.out;obtain ⟨q0,q1,q2,q3⟩:=cf HN2.out;go_wp2_with fail
   refine HS1.out.mono ?_;rintro e v5 ⟨rfl,hB5⟩;have hn3:=Below.keep hB5 HN3.out (lb HN3.out);have hn4:=Below.keep hB5 HN4.out (lb HN4.out);have HS2:=dh (same_any x3 x3 A3 A4 v5 _ _ (HI3.out.below hB5) (HI4.out.below hB5));rw [It.same_self] at HS2;have HT5:=dh (pt HT4.out hB5);clear p0 p1 p2 p3 q0 q1 q2 q3 HS1 hB5;obtain ⟨p0,p1,p2,p3⟩:=cf hn3;obtain ⟨q0,q1,q2,q3⟩:=cf hn4;clear hn3 hn4;go_wp2_with fail
   refine HS2.out.mono ?_;rintro e v6 ⟨rfl,hB6⟩;have HT6:=dh (pt HT5.out hB6);clear p0 p1 p2 p3 q0 q1 q2 q3 HS2 hB6;go_wp2_with fail
   go_roundw
   case rel=>exact ⟨j + 1,by go_num,by omega,HT6.out⟩
   case measure=>simp [intOf];omega
  ·have hj3':j=5:=by omega
   have hjz:¬ (j:Int) < 5:=by omega
   have HCa:=dh (awake_any u (HE6.out.below hBj));have HBL:=dh hBj;clear hBj;go_wp2_with fail
   refine HCa.out.mono ?_;rintro e u5 ⟨rfl,B5⟩;have HB9:=dh (HB6.out.trans ((pt HBL.out B5).mono HB6.out.size));clear B5 HCa HBL;go_wp2_with fail
   go_ret
   exact ⟨rfl,HB9.out⟩
end Go.Proofs.YtelefkkkccilaaaGreatDoor
