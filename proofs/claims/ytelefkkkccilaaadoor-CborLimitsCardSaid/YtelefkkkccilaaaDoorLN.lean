/- The examples of awake, plainly. The law's awake. -/
import Derived.Test.YtelefkkkccilaaaDoorLK
import Derived.Test.YtelefkkkccilaaaDoorLA
import Derived.Test.YtelefkkkccilaaaDoorXv
set_option linter.unusedVariables false
set_option linter.unusedSimpArgs false
namespace Go.Proofs.YtelefkkkccilaaaDoor
theorem awake_head:It.readHead [24,23]=.err 4:=by kernel_rfl
theorem awake_enc:It.enc (.mk 1 499 [] [])=[57,1,243]:=by kernel_rfl
theorem awake_valid:It.valid (.mk 1 499 [] [])=true:=by kernel_rfl
theorem awake_build:It.buildP [.mk 0 10 [] [],.mk 0 1 [] [],.mk 0 2 [] [],.mk 0 3 [] []]=.ok (.mk 5 0 [] [.mk 0 2 [] [],.mk 0 3 [] [],.mk 0 10 [] [],.mk 0 1 [] []]):=by kernel_rfl
end Go.Proofs.YtelefkkkccilaaaDoor
namespace Go.Proofs.YtelefkkkccilaaaDoor
open Go.RowKit
set_option maxRecDepth 100000
set_option maxHeartbeats 8000000 in
theorem awake_any (w:World) (hE:Env w):Calls Tryd.prog 21 #[] w fun e w'=>e=.returned (.bool true)∧Below w.heap.size w w':=by
 have HE:=dh hE;clear hE;go_enter Tryd.func21,Tryd.ntmps21
 go_wp2_with fail
 refine (cint_neg (-500) (by decide) (by decide) w).mono ?_;rintro e w1 ⟨rfl,B1⟩;have HB1:=dh B1;have HE1:=dh (HE.out.below B1);clear B1;go_wp2_with fail
 refine (cencode_any (.mk 1 499 [] []) ⟨none,0,0,none,0,0⟩ w1 (fun _=>True) (IR.flat 1 499 (by omega)) HE1.out).mono ?_;rintro e w2 ⟨v2,rfl,hO2,B2⟩;rw [awake_valid,if_pos rfl,awake_enc] at hO2;obtain ⟨a2,c2,e2⟩:=og hO2;subst e2;have HO2:=dh hO2;have HB2:=dh (pt HB1.out B2);have HE2:=dh (HE1.out.below B2);clear hO2 B2 HB1 HE1;rw [awake_valid,if_pos rfl];go_wp2_with fail
 refine (cuint_any 10 w2).mono ?_;rintro e w3 ⟨rfl,B3⟩;have HB3:=dh (pt HB2.out B3);have HE3:=dh (HE2.out.below B3);have HO3:=dh (own_pure HO2.out B3);clear B3 HB2 HE2 HO2;go_wp2_with fail
 refine (cuint_any 1 w3).mono ?_;rintro e w4 ⟨rfl,B4⟩;have HB4:=dh (pt HB3.out B4);have HE4:=dh (HE3.out.below B4);have HO4:=dh (own_pure HO3.out B4);clear B4 HB3 HE3 HO3;go_wp2_with fail
 refine (cuint_any 2 w4).mono ?_;rintro e w5 ⟨rfl,B5⟩;have HB5:=dh (pt HB4.out B5);have HE5:=dh (HE4.out.below B5);have HO5:=dh (own_pure HO4.out B5);clear B5 HB4 HE4 HO4;go_wp2_with fail
 refine (cuint_any 3 w5).mono ?_;rintro e w6 ⟨rfl,B6⟩;have HB6:=dh (pt HB5.out B6);have HE6:=dh (HE5.out.below B6);have HO6:=dh (own_pure HO5.out B6);clear B6 HB5 HE5 HO5;have P7:=al w6 (.cells #[.int .i64 0,.int .u64 10,.slice none 0 0,.slice none 0 0,.int .i64 0,.int .u64 1,.slice none 0 0,.slice none 0 0,.int .i64 0,.int .u64 2,.slice none 0 0,.slice none 0 0,.int .i64 0,.int .u64 3,.slice none 0 0,.slice none 0 0] 31);have N7:=aw w6 (.cells #[.int .i64 0,.int .u64 10,.slice none 0 0,.slice none 0 0,.int .i64 0,.int .u64 1,.slice none 0 0,.slice none 0 0,.int .i64 0,.int .u64 2,.slice none 0 0,.slice none 0 0,.int .i64 0,.int .u64 3,.slice none 0 0,.slice none 0 0] 31);have hTL:TL (fun _=>True) (w6.alloc (.cells #[.int .i64 0,.int .u64 10,.slice none 0 0,.slice none 0 0,.int .i64 0,.int .u64 1,.slice none 0 0,.slice none 0 0,.int .i64 0,.int .u64 2,.slice none 0 0,.slice none 0 0,.int .i64 0,.int .u64 3,.slice none 0 0,.slice none 0 0] 31)) [.mk 0 10 [] [],.mk 0 1 [] [],.mk 0 2 [] [],.mk 0 3 [] []] (some ⟨w6.heap.size,0,none⟩) 4:=by
  refine ⟨rfl,by decide,fun j hj=>⟨w6.heap.size,0,⟨none,0,0,none,0,0⟩,rfl,trivial,?_⟩⟩;have hj:j < 4:=hj;rcases (show j=0∨j=1∨j=2∨j=3 by omega) with rfl | rfl | rfl | rfl
  all_goals exact ⟨⟨cr N7 _,cr N7 _,cr N7 _,cr N7 _⟩,IR.flat 0 _ (by decide)⟩
 have HC:=dh (cbuild_any _ _ 4 4 _ _ hTL (by decide) (HE6.out.below P7));have HB7:=dh (pt HB6.out P7);have HE7:=dh (HE6.out.below P7);have HO7:=dh (own_pure HO6.out P7);rw [awake_build] at HC;clear P7 N7 hTL HB6 HE6 HO6;go_wp2_with fail
 refine HC.out.mono ?_;rintro e w8 ⟨A8,rfl,hI8,B8⟩;have HB8:=dh (pt HB7.out B8);have HO8:=dh (own_pure HO7.out B8);have HI8:=dh (hI8.imp (ok':=fun _=>True) fun _ _ _=>trivial);simp only [It.kind,It.num];clear B8 hI8 HB7 HE7 HO7 HC;have P9:=al w8 (.cells #[.int .i64 5,.int .u64 0,.slice A8.ab A8.nb A8.cb,.slice A8.ai A8.ni A8.ci] 31);have N9:=aw w8 (.cells #[.int .i64 5,.int .u64 0,.slice A8.ab A8.nb A8.cb,.slice A8.ai A8.ni A8.ci] 31);have HB9:=dh (pt HB8.out P9);have HO9:=dh (own_pure HO8.out P9);have HI9:=dh (HI8.out.below P9);have HN9:=dh N9;clear P9 N9 HB8 HO8 HI8;go_upto_region 3 with fail
 generalize w8.alloc (.cells #[.int .i64 5,.int .u64 0,.slice A8.ab A8.nb A8.cb,.slice A8.ai A8.ni A8.ci] 31)=w9 at *;generalize w8.heap.size=t3 at *;have PA:=al w9 (.cells #[.int .u8 24,.int .u8 23] 5);have NA:=aw w9 (.cells #[.int .u8 24,.int .u8 23] 5);have hRA:BR (fun _=>True) (w9.alloc (.cells #[.int .u8 24,.int .u8 23] 5)) (some ⟨w9.heap.size,0,none⟩) ([24,23]:List UInt8).length [24,23]:=by
  refine ⟨rfl,by decide,fun i hi=>⟨w9.heap.size,0,rfl,trivial,?_⟩⟩;have hi:i < 2:=hi;rcases (show i=0∨i=1 by omega) with rfl | rfl
  all_goals exact cr NA _
 have HC:=dh (decode_err 2 w9.heap.size 0 4 [24,23] _ _ hRA (by decide) (by decide) awake_head (by decide) (by simp));have HBA:=dh PA;clear PA NA hRA;go_wp2_with fail
 refine HC.out.mono ?_;rintro e wB ⟨rfl,BB⟩;have HBB:=dh (pt HBA.out BB);clear BB HC HBA;have PC:=al wB (.cells #[.int .i64 0,.int .u64 0,.slice none 0 0,.slice none 0 0] 31);have HBC:=dh (pt HBB.out PC);have hn3:=Below.keep HBC.out HN9.out (lb HN9.out);obtain ⟨s0,s1,s2,s3⟩:=cf hn3;have hbr:=OwnB.br (own_pure HO9.out HBC.out:OwnB _ _ _ _);obtain ⟨a',c',e',hbr,_,_⟩:=hbr;simp only [Value.slice.injEq] at e';obtain ⟨rfl,_,rfl⟩:=e';have hstr:(convert 23 9 (.slice a2 3 c2)).run Tryd.prog (wB.alloc (.cells #[.int .i64 0,.int .u64 0,.slice none 0 0,.slice none 0 0] 31))=.ok (.string ⟨#[57,1,243]⟩) (wB.alloc (.cells #[.int .i64 0,.int .u64 0,.slice none 0 0,.slice none 0 0] 31)):=str_of hbr c2;have htl:=(HI9.out.below HBC.out).tl;have hni:A8.ni=4:=htl.1;obtain ⟨kb,ko,kA,kai,_,⟨_,k1,_,_⟩,_⟩:=htl.2.2 0 (by decide);rw [hni] at s3;rw [kai] at s3;have HPC:=dh (show Below w.heap.size w _ from HB9.out.trans (HBC.out.mono HB9.out.size));clear hbr htl hn3 PC;go_wp2_with fail
 go_ret
 exact ⟨rfl,HPC.out⟩
end Go.Proofs.YtelefkkkccilaaaDoor
