/- The walk of the reference's look at an item, its elements. -/
import Derived.Test.YtelefkkkccilaaaDoorXf
set_option linter.unusedVariables false
set_option linter.unusedSimpArgs false
namespace Go.Proofs.YtelefkkkccilaaaDoor
open Go.RowKit
set_option maxRecDepth 100000
set_option maxHeartbeats 16000000 in
theorem left_4_kids (N X D:Int) (ab ai:Option Addr) (nb cb ni ci:Nat) (w:World) (g0:0≤X) (g1:X≤256) (hx:¬ X < 1) (h:nb=0) (hN:N=0) (hm:¬ X - 1 < (ni:Int)) (gi:0 < (ni:Int)) (hD0:0≤D) (hD:D < 8) (d:Nat) (ih:LeftC d) (hDD:D + 1=8 - (d:Int)) (ks:List It) (ok:Nat→Prop) (hT:TL ok w ks ai ni) (hE:Env w) (M:Nat) (hM:X - 1=M) (R:Bool) (hR:It.okSL d ks M=R) (r:Int) (hr1:R=true→r=(M:Int) - It.nodesL ks) (hr0:R=false→r= -1):
 Calls Tryd.prog 58 #[.agg #[.int .i64 4,.int .u64 N,.slice ab nb cb,.slice ai ni ci],.int .i64 X,.int .i64 D] w (LP r w):=by
 have P0:=al w (.cells #[.int .i64 4,.int .u64 N,.slice ab nb cb,.slice ai ni ci] 31);have N0:=aw w (.cells #[.int .i64 4,.int .u64 N,.slice ab nb cb,.slice ai ni ci] 31);obtain ⟨x0,x1,x2,x3⟩:=cf N0;have HNI:Hid (ni=ks.length):=dh hT.1;have HIT:=dh (hT.below P0);have HE:=dh (hE.below P0);have HDD:=dh hDD;have HIH:=dh ih;have HM:=dh hM;have HMl:Hid (M≤256):=dh (by omega);have HR:=dh hR;have HR0:=dh hr0;have HR1:=dh hr1;have HP:=dh P0;have HN0:=dh N0;clear P0 N0;generalize hB:w.heap.size=B at *;clear ih hDD hT hE hM hR hr0 hr1;have e1:¬ 0 < (nb:Int):=by omega
 have e1d:decide (0 < (nb:Int))=false:=decide_eq_false e1;have e1l:¬ 4096 < (nb:Int):=by omega
 have e1m:decide (4096 < (nb:Int))=false:=decide_eq_false e1l;have gNb:(N !=0)=false:=by simpa using hN
 clear hN;have gDn:¬ 8≤D:=by omega
 have gD:decide (8≤D)=false:=decide_eq_false gDn;have gm:¬ X - 1 < (ni:Int):=by omega
 have gmd:decide (X - 1 < (ni:Int))=false:=decide_eq_false gm;have gn9:(ni:Int)≤256:=by omega
 have gid:decide (0 < (ni:Int))=true:=decide_eq_true gi;clear h;go_enter Tryd.func58,Tryd.ntmps58
 go_upto_region 1 with fail
 generalize w.alloc (.cells #[.int .i64 4,.int .u64 N,.slice ab nb cb,.slice ai ni ci] 31)=w1 at *;go_wp2_with fail
 clear x0 x1 x2 x3;go_loopw [1,157] (fun n i W=>LK d ks R M ni w1 n i W) (fun _ i _=>ni - (intOf i).toNat)
 case atStart=>exact ⟨0,M,rfl,by rw [HM.out],by omega,by simpa using HR.out,by simp,HMl.out,Below.refl _ _⟩
 case round=>
  obtain ⟨j,m,rfl,rfl,hj,hok',hna,hm,hbw⟩:=hrel;by_cases hjn:j < ni
  ·have hjk:j < ks.length:=by have:=HNI.out;omega
   have hd:=List.drop_eq_getElem_cons hjk;rw [hd] at hok' hna;rw [It.okSL_cons] at hok';simp only [It.nodesL] at hna;obtain ⟨b',o',A',rfl,hb',⟨c0,c1,c2,c3⟩,hI'⟩:=(HIT.out.below hbw).2.2 j hjk;have PA:=al wr (.cells #[.int .i64 ks[j].kind,.int .u64 (ks[j].num:Int),.slice A'.ab A'.nb A'.cb,.slice A'.ai A'.ni A'.ci] 31);have hCC:=HIH.out ks[j] A' (wr.alloc (.cells #[.int .i64 ks[j].kind,.int .u64 (ks[j].num:Int),.slice A'.ab A'.nb A'.cb,.slice A'.ai A'.ni A'.ci] 31)) ok m m (D + 1) (hI'.below PA) ((HE.out.below hbw).below PA) rfl hm HDD.out;have HPA:=dh (pt hbw PA);have hlt:(j:Int) < (ni:Int):=by omega
   have hm0:(m:Int)≤256:=by omega
   clear hd hI' PA hbw;generalize ks[j]=y at *;cases hr:It.okS d y m with
   | false=>
     rw [hr] at hok';rw [It.leftP_no hr] at hCC;have HCC:=dh hCC;have HRF:Hid (R=false):=dh (by rw [← hok'];rfl);clear hr hok' hna hCC;go_wp2_with fail
     refine HCC.out.mono ?_;rintro e w6 ⟨rfl,B6⟩;have HB6:=dh (pt HPA.out B6);clear B6 c0 c1 c2 c3;go_wp2_with fail
     go_ret
     exact ⟨by rw [HR0.out HRF.out];rfl,by rw [hB];exact HP.out.trans (HB6.out.mono (by have:=HP.out.size;omega))⟩
   | true=>
     rw [hr,Bool.true_and] at hok';have hle:=It.okS_le hr;obtain ⟨q,hq⟩:∃ q,q=m - It.nodes y:=⟨_,rfl⟩;rw [It.leftP_ok hr,show (m:Int) - It.nodes y=(q:Int) by omega] at hCC;rw [← hq] at hok';have hq0:(q:Int)≤256:=by omega
     have hq1:¬ (q:Int) < 0:=by omega
     have hna':q + It.nodesL ks=M + It.nodesL (ks.drop (j + 1)):=by omega
     have HCC:=dh hCC;have HOKJ:=dh hok';have HNA:=dh hna';clear hr hok' hna hna' hCC hle hq;go_wp2_with fail
     refine HCC.out.mono ?_;rintro e w6 ⟨rfl,B6⟩;have HB6:=dh (pt HPA.out B6);clear B6 c0 c1 c2 c3;go_wp2_with fail
     go_roundw
     case rel=>exact ⟨j + 1,q,by go_num,rfl,by omega,HOKJ.out,HNA.out,by omega,HB6.out⟩
     case measure=>simp [intOf];omega
  ·obtain rfl:j=ni:=by omega
   have hjj:j=ks.length:=HNI.out;have hRt:R=true:=LK.stop (by rw [← hjj];exact hok');have hdr:ks.drop j=[]:=by rw [hjj];exact List.drop_length
   rw [hdr] at hna;simp only [It.nodesL,Nat.add_zero] at hna;have hx:=Below.keep hbw HN0.out (lb HN0.out);obtain ⟨x0,x1,x2,x3⟩:=cf hx;have HRT:=dh hRt;have HNA:=dh hna;have HBW:=dh hbw;clear hx hjj hRt hdr hna hbw hok';go_wp2_with fail
   clear x0 x1 x2 x3;go_loopw [11] (fun i W=>i=.int .i64 2∧Below w1.heap.size w1 W) (fun _ _=>0)
   case atStart=>exact ⟨rfl,HBW.out⟩
   case round=>
    obtain ⟨rfl,hW⟩:=hrel;have HW:=dh hW;clear hW;obtain ⟨x0,x1,x2,x3⟩:=cf (Below.keep HW.out HN0.out (lb HN0.out));go_wp2_with fail
    go_ret
    exact ⟨by rw [HR1.out HRT.out,show (M:Int) - It.nodesL ks=(m:Int) from (by have:=HNA.out;omega)];rfl,by rw [hB];exact HP.out.trans (HW.out.mono (by have:=HP.out.size;omega))⟩
set_option maxHeartbeats 16000000 in
theorem left_6_kids (N X D:Int) (ab ai:Option Addr) (nb cb ni ci:Nat) (w:World) (g0:0≤X) (g1:X≤256) (hx:¬ X < 1) (h:nb=0) (hs:ni=1) (hm:¬ X - 1 < (ni:Int)) (hD0:0≤D) (hD:D < 8) (d:Nat) (ih:LeftC d) (hDD:D + 1=8 - (d:Int)) (ks:List It) (ok:Nat→Prop) (hT:TL ok w ks ai ni) (hE:Env w) (M:Nat) (hM:X - 1=M) (R:Bool) (hR:It.okSL d ks M=R) (r:Int) (hr1:R=true→r=(M:Int) - It.nodesL ks) (hr0:R=false→r= -1):
 Calls Tryd.prog 58 #[.agg #[.int .i64 6,.int .u64 N,.slice ab nb cb,.slice ai ni ci],.int .i64 X,.int .i64 D] w (LP r w):=by
 have P0:=al w (.cells #[.int .i64 6,.int .u64 N,.slice ab nb cb,.slice ai ni ci] 31);have N0:=aw w (.cells #[.int .i64 6,.int .u64 N,.slice ab nb cb,.slice ai ni ci] 31);obtain ⟨x0,x1,x2,x3⟩:=cf N0;have HNI:Hid (ni=ks.length):=dh hT.1;have HIT:=dh (hT.below P0);have HE:=dh (hE.below P0);have HDD:=dh hDD;have HIH:=dh ih;have HM:=dh hM;have HMl:Hid (M≤256):=dh (by omega);have HR:=dh hR;have HR0:=dh hr0;have HR1:=dh hr1;have HP:=dh P0;have HN0:=dh N0;clear P0 N0;generalize hB:w.heap.size=B at *;clear ih hDD hT hE hM hR hr0 hr1;have e1:¬ 0 < (nb:Int):=by omega
 have e1d:decide (0 < (nb:Int))=false:=decide_eq_false e1;have e1l:¬ 4096 < (nb:Int):=by omega
 have e1m:decide (4096 < (nb:Int))=false:=decide_eq_false e1l;have gDn:¬ 8≤D:=by omega
 have gD:decide (8≤D)=false:=decide_eq_false gDn;have gm:¬ X - 1 < (ni:Int):=by omega
 have gmd:decide (X - 1 < (ni:Int))=false:=decide_eq_false gm;have gn9:(ni:Int)≤256:=by omega
 have gs:((ni:Int) !=1)=false:=by simp;omega
 have gi:0 < (ni:Int):=by omega
 have gid:decide (0 < (ni:Int))=true:=decide_eq_true gi;clear h hs;by_cases gsN:N=0
 ·have gNb:(N !=0)=false:=by simpa using gsN
  clear gsN;go_enter Tryd.func58,Tryd.ntmps58
  go_upto_region 1 with fail
  generalize w.alloc (.cells #[.int .i64 6,.int .u64 N,.slice ab nb cb,.slice ai ni ci] 31)=w1 at *;go_wp2_with fail
  clear x0 x1 x2 x3;go_loopw [1,157] (fun n i W=>LK d ks R M ni w1 n i W) (fun _ i _=>ni - (intOf i).toNat)
  case atStart=>exact ⟨0,M,rfl,by rw [HM.out],by omega,by simpa using HR.out,by simp,HMl.out,Below.refl _ _⟩
  case round=>
   obtain ⟨j,m,rfl,rfl,hj,hok',hna,hm,hbw⟩:=hrel;by_cases hjn:j < ni
   ·have hjk:j < ks.length:=by have:=HNI.out;omega
    have hd:=List.drop_eq_getElem_cons hjk;rw [hd] at hok' hna;rw [It.okSL_cons] at hok';simp only [It.nodesL] at hna;obtain ⟨b',o',A',rfl,hb',⟨c0,c1,c2,c3⟩,hI'⟩:=(HIT.out.below hbw).2.2 j hjk;have PA:=al wr (.cells #[.int .i64 ks[j].kind,.int .u64 (ks[j].num:Int),.slice A'.ab A'.nb A'.cb,.slice A'.ai A'.ni A'.ci] 31);have hCC:=HIH.out ks[j] A' (wr.alloc (.cells #[.int .i64 ks[j].kind,.int .u64 (ks[j].num:Int),.slice A'.ab A'.nb A'.cb,.slice A'.ai A'.ni A'.ci] 31)) ok m m (D + 1) (hI'.below PA) ((HE.out.below hbw).below PA) rfl hm HDD.out;have HPA:=dh (pt hbw PA);have hlt:(j:Int) < (ni:Int):=by omega
    have hm0:(m:Int)≤256:=by omega
    clear hd hI' PA hbw;generalize ks[j]=y at *;cases hr:It.okS d y m with
    | false=>
      rw [hr] at hok';rw [It.leftP_no hr] at hCC;have HCC:=dh hCC;have HRF:Hid (R=false):=dh (by rw [← hok'];rfl);clear hr hok' hna hCC;go_wp2_with fail
      refine HCC.out.mono ?_;rintro e w6 ⟨rfl,B6⟩;have HB6:=dh (pt HPA.out B6);clear B6 c0 c1 c2 c3;go_wp2_with fail
      go_ret
      exact ⟨by rw [HR0.out HRF.out];rfl,by rw [hB];exact HP.out.trans (HB6.out.mono (by have:=HP.out.size;omega))⟩
    | true=>
      rw [hr,Bool.true_and] at hok';have hle:=It.okS_le hr;obtain ⟨q,hq⟩:∃ q,q=m - It.nodes y:=⟨_,rfl⟩;rw [It.leftP_ok hr,show (m:Int) - It.nodes y=(q:Int) by omega] at hCC;rw [← hq] at hok';have hq0:(q:Int)≤256:=by omega
      have hq1:¬ (q:Int) < 0:=by omega
      have hna':q + It.nodesL ks=M + It.nodesL (ks.drop (j + 1)):=by omega
      have HCC:=dh hCC;have HOKJ:=dh hok';have HNA:=dh hna';clear hr hok' hna hna' hCC hle hq;go_wp2_with fail
      refine HCC.out.mono ?_;rintro e w6 ⟨rfl,B6⟩;have HB6:=dh (pt HPA.out B6);clear B6 c0 c1 c2 c3;go_wp2_with fail
      go_roundw
      case rel=>exact ⟨j + 1,q,by go_num,rfl,by omega,HOKJ.out,HNA.out,by omega,HB6.out⟩
      case measure=>simp [intOf];omega
   ·obtain rfl:j=ni:=by omega
    have hjj:j=ks.length:=HNI.out;have hRt:R=true:=LK.stop (by rw [← hjj];exact hok');have hdr:ks.drop j=[]:=by rw [hjj];exact List.drop_length
    rw [hdr] at hna;simp only [It.nodesL,Nat.add_zero] at hna;have hx:=Below.keep hbw HN0.out (lb HN0.out);obtain ⟨x0,x1,x2,x3⟩:=cf hx;have HRT:=dh hRt;have HNA:=dh hna;have HBW:=dh hbw;clear hx hjj hRt hdr hna hbw hok';go_wp2_with fail
    clear x0 x1 x2 x3;go_loopw [11] (fun i W=>i=.int .i64 2∧Below w1.heap.size w1 W) (fun _ _=>0)
    case atStart=>exact ⟨rfl,HBW.out⟩
    case round=>
     obtain ⟨rfl,hW⟩:=hrel;have HW:=dh hW;clear hW;obtain ⟨x0,x1,x2,x3⟩:=cf (Below.keep HW.out HN0.out (lb HN0.out));go_wp2_with fail
     go_ret
     exact ⟨by rw [HR1.out HRT.out,show (M:Int) - It.nodesL ks=(m:Int) from (by have:=HNA.out;omega)];rfl,by rw [hB];exact HP.out.trans (HW.out.mono (by have:=HP.out.size;omega))⟩
 ·have gNb:(N !=0)=true:=by simpa using gsN
  clear gsN;go_enter Tryd.func58,Tryd.ntmps58
  go_upto_region 1 with fail
  generalize w.alloc (.cells #[.int .i64 6,.int .u64 N,.slice ab nb cb,.slice ai ni ci] 31)=w1 at *;go_wp2_with fail
  clear x0 x1 x2 x3;go_loopw [1,157] (fun n i W=>LK d ks R M ni w1 n i W) (fun _ i _=>ni - (intOf i).toNat)
  case atStart=>exact ⟨0,M,rfl,by rw [HM.out],by omega,by simpa using HR.out,by simp,HMl.out,Below.refl _ _⟩
  case round=>
   obtain ⟨j,m,rfl,rfl,hj,hok',hna,hm,hbw⟩:=hrel;by_cases hjn:j < ni
   ·have hjk:j < ks.length:=by have:=HNI.out;omega
    have hd:=List.drop_eq_getElem_cons hjk;rw [hd] at hok' hna;rw [It.okSL_cons] at hok';simp only [It.nodesL] at hna;obtain ⟨b',o',A',rfl,hb',⟨c0,c1,c2,c3⟩,hI'⟩:=(HIT.out.below hbw).2.2 j hjk;have PA:=al wr (.cells #[.int .i64 ks[j].kind,.int .u64 (ks[j].num:Int),.slice A'.ab A'.nb A'.cb,.slice A'.ai A'.ni A'.ci] 31);have hCC:=HIH.out ks[j] A' (wr.alloc (.cells #[.int .i64 ks[j].kind,.int .u64 (ks[j].num:Int),.slice A'.ab A'.nb A'.cb,.slice A'.ai A'.ni A'.ci] 31)) ok m m (D + 1) (hI'.below PA) ((HE.out.below hbw).below PA) rfl hm HDD.out;have HPA:=dh (pt hbw PA);have hlt:(j:Int) < (ni:Int):=by omega
    have hm0:(m:Int)≤256:=by omega
    clear hd hI' PA hbw;generalize ks[j]=y at *;cases hr:It.okS d y m with
    | false=>
      rw [hr] at hok';rw [It.leftP_no hr] at hCC;have HCC:=dh hCC;have HRF:Hid (R=false):=dh (by rw [← hok'];rfl);clear hr hok' hna hCC;go_wp2_with fail
      refine HCC.out.mono ?_;rintro e w6 ⟨rfl,B6⟩;have HB6:=dh (pt HPA.out B6);clear B6 c0 c1 c2 c3;go_wp2_with fail
      go_ret
      exact ⟨by rw [HR0.out HRF.out];rfl,by rw [hB];exact HP.out.trans (HB6.out.mono (by have:=HP.out.size;omega))⟩
    | true=>
      rw [hr,Bool.true_and] at hok';have hle:=It.okS_le hr;obtain ⟨q,hq⟩:∃ q,q=m - It.nodes y:=⟨_,rfl⟩;rw [It.leftP_ok hr,show (m:Int) - It.nodes y=(q:Int) by omega] at hCC;rw [← hq] at hok';have hq0:(q:Int)≤256:=by omega
      have hq1:¬ (q:Int) < 0:=by omega
      have hna':q + It.nodesL ks=M + It.nodesL (ks.drop (j + 1)):=by omega
      have HCC:=dh hCC;have HOKJ:=dh hok';have HNA:=dh hna';clear hr hok' hna hna' hCC hle hq;go_wp2_with fail
      refine HCC.out.mono ?_;rintro e w6 ⟨rfl,B6⟩;have HB6:=dh (pt HPA.out B6);clear B6 c0 c1 c2 c3;go_wp2_with fail
      go_roundw
      case rel=>exact ⟨j + 1,q,by go_num,rfl,by omega,HOKJ.out,HNA.out,by omega,HB6.out⟩
      case measure=>simp [intOf];omega
   ·obtain rfl:j=ni:=by omega
    have hjj:j=ks.length:=HNI.out;have hRt:R=true:=LK.stop (by rw [← hjj];exact hok');have hdr:ks.drop j=[]:=by rw [hjj];exact List.drop_length
    rw [hdr] at hna;simp only [It.nodesL,Nat.add_zero] at hna;have hx:=Below.keep hbw HN0.out (lb HN0.out);obtain ⟨x0,x1,x2,x3⟩:=cf hx;have HRT:=dh hRt;have HNA:=dh hna;have HBW:=dh hbw;clear hx hjj hRt hdr hna hbw hok';go_wp2_with fail
    clear x0 x1 x2 x3;go_loopw [11] (fun i W=>i=.int .i64 2∧Below w1.heap.size w1 W) (fun _ _=>0)
    case atStart=>exact ⟨rfl,HBW.out⟩
    case round=>
     obtain ⟨rfl,hW⟩:=hrel;have HW:=dh hW;clear hW;obtain ⟨x0,x1,x2,x3⟩:=cf (Below.keep HW.out HN0.out (lb HN0.out));go_wp2_with fail
     go_ret
     exact ⟨by rw [HR1.out HRT.out,show (M:Int) - It.nodesL ks=(m:Int) from (by have:=HNA.out;omega)];rfl,by rw [hB];exact HP.out.trans (HW.out.mono (by have:=HP.out.size;omega))⟩
set_option maxHeartbeats 16000000 in
theorem left_5_kids (N X D:Int) (ab ai:Option Addr) (nb cb ni ci:Nat) (w:World) (g0:0≤X) (g1:X≤256) (hx:¬ X < 1) (h:nb=0) (hN:N=0) (ho:ni % 2=0) (hm:¬ X - 1 < (ni:Int)) (gi:0 < (ni:Int)) (hD0:0≤D) (hD:D < 8) (d:Nat) (ih:LeftC d) (hDD:D + 1=8 - (d:Int)) (ks:List It) (ok:Nat→Prop) (hT:TL ok w ks ai ni) (hE:Env w) (M:Nat) (hM:X - 1=M) (R:Bool) (hR:It.okSL d ks M=R) (r:Int) (Q:Bool) (hQ:It.asc .none ks=Q) (hr1:(R && Q)=true→r=(M:Int) - It.nodesL ks) (hr0:(R && Q)=false→r= -1):
 Calls Tryd.prog 58 #[.agg #[.int .i64 5,.int .u64 N,.slice ab nb cb,.slice ai ni ci],.int .i64 X,.int .i64 D] w (LP r w):=by
 have P0:=al w (.cells #[.int .i64 5,.int .u64 N,.slice ab nb cb,.slice ai ni ci] 31);have N0:=aw w (.cells #[.int .i64 5,.int .u64 N,.slice ab nb cb,.slice ai ni ci] 31);obtain ⟨x0,x1,x2,x3⟩:=cf N0;have HNI:Hid (ni=ks.length):=dh hT.1;have HIT:=dh (hT.below P0);have HE:=dh (hE.below P0);have HDD:=dh hDD;have HIH:=dh ih;have HM:=dh hM;have HMl:Hid (M≤256):=dh (by omega);have HR:=dh hR;have HR0:=dh hr0;have HR1:=dh hr1;have HQ:=dh hQ;have HEV:=dh ho;have HP:=dh P0;have HN0:=dh N0;clear P0 N0;generalize hB:w.heap.size=B at *;clear ih hDD hT hE hM hR hr0 hr1;have e1:¬ 0 < (nb:Int):=by omega
 have e1d:decide (0 < (nb:Int))=false:=decide_eq_false e1;have e1l:¬ 4096 < (nb:Int):=by omega
 have e1m:decide (4096 < (nb:Int))=false:=decide_eq_false e1l;have gNb:(N !=0)=false:=by simpa using hN
 clear hN;have gDn:¬ 8≤D:=by omega
 have gD:decide (8≤D)=false:=decide_eq_false gDn;have gm:¬ X - 1 < (ni:Int):=by omega
 have gmd:decide (X - 1 < (ni:Int))=false:=decide_eq_false gm;have gn9:(ni:Int)≤256:=by omega
 have gid:decide (0 < (ni:Int))=true:=decide_eq_true gi;have go2:((ni:Int) % 2 !=0)=false:=by simp;omega
 have go3:(ni:Int) % 2=0:=by omega
 clear h ho hQ;go_enter Tryd.func58,Tryd.ntmps58
 go_upto_region 1 with fail
 generalize w.alloc (.cells #[.int .i64 5,.int .u64 N,.slice ab nb cb,.slice ai ni ci] 31)=w1 at *;go_wp2_with fail
 clear x0 x1 x2 x3;go_loopw [1,157] (fun n i W=>LK d ks R M ni w1 n i W) (fun _ i _=>ni - (intOf i).toNat)
 case atStart=>exact ⟨0,M,rfl,by rw [HM.out],by omega,by simpa using HR.out,by simp,HMl.out,Below.refl _ _⟩
 case round=>
  obtain ⟨j,m,rfl,rfl,hj,hok',hna,hm,hbw⟩:=hrel;by_cases hjn:j < ni
  ·have hjk:j < ks.length:=by have:=HNI.out;omega
   have hd:=List.drop_eq_getElem_cons hjk;rw [hd] at hok' hna;rw [It.okSL_cons] at hok';simp only [It.nodesL] at hna;obtain ⟨b',o',A',rfl,hb',⟨c0,c1,c2,c3⟩,hI'⟩:=(HIT.out.below hbw).2.2 j hjk;have PA:=al wr (.cells #[.int .i64 ks[j].kind,.int .u64 (ks[j].num:Int),.slice A'.ab A'.nb A'.cb,.slice A'.ai A'.ni A'.ci] 31);have hCC:=HIH.out ks[j] A' (wr.alloc (.cells #[.int .i64 ks[j].kind,.int .u64 (ks[j].num:Int),.slice A'.ab A'.nb A'.cb,.slice A'.ai A'.ni A'.ci] 31)) ok m m (D + 1) (hI'.below PA) ((HE.out.below hbw).below PA) rfl hm HDD.out;have HPA:=dh (pt hbw PA);have hlt:(j:Int) < (ni:Int):=by omega
   have hm0:(m:Int)≤256:=by omega
   clear hd hI' PA hbw;generalize ks[j]=y at *;cases hr:It.okS d y m with
   | false=>
     rw [hr] at hok';rw [It.leftP_no hr] at hCC;have HCC:=dh hCC;have HRF:Hid (R=false):=dh (by rw [← hok'];rfl);clear hr hok' hna hCC;go_wp2_with fail
     refine HCC.out.mono ?_;rintro e w6 ⟨rfl,B6⟩;have HB6:=dh (pt HPA.out B6);clear B6 c0 c1 c2 c3;go_wp2_with fail
     go_ret
     exact ⟨by rw [HR0.out (by rw [HRF.out];rfl)];rfl,by rw [hB];exact HP.out.trans (HB6.out.mono (by have:=HP.out.size;omega))⟩
   | true=>
     rw [hr,Bool.true_and] at hok';have hle:=It.okS_le hr;obtain ⟨q,hq⟩:∃ q,q=m - It.nodes y:=⟨_,rfl⟩;rw [It.leftP_ok hr,show (m:Int) - It.nodes y=(q:Int) by omega] at hCC;rw [← hq] at hok';have hq0:(q:Int)≤256:=by omega
     have hq1:¬ (q:Int) < 0:=by omega
     have hna':q + It.nodesL ks=M + It.nodesL (ks.drop (j + 1)):=by omega
     have HCC:=dh hCC;have HOKJ:=dh hok';have HNA:=dh hna';clear hr hok' hna hna' hCC hle hq;go_wp2_with fail
     refine HCC.out.mono ?_;rintro e w6 ⟨rfl,B6⟩;have HB6:=dh (pt HPA.out B6);clear B6 c0 c1 c2 c3;go_wp2_with fail
     go_roundw
     case rel=>exact ⟨j + 1,q,by go_num,rfl,by omega,HOKJ.out,HNA.out,by omega,HB6.out⟩
     case measure=>simp [intOf];omega
  ·obtain rfl:j=ni:=by omega
   have hjj:j=ks.length:=HNI.out;have hRt:R=true:=LK.stop (by rw [← hjj];exact hok');have hdr:ks.drop j=[]:=by rw [hjj];exact List.drop_length
   rw [hdr] at hna;simp only [It.nodesL,Nat.add_zero] at hna;have hx:=Below.keep hbw HN0.out (lb HN0.out);obtain ⟨x0,x1,x2,x3⟩:=cf hx;have hgl:=okSL_get (HR.out.trans hRt);have hen:=It.sts_encs hgl.2.1;have HGW:=dh hgl.1;have HGL:Hid ((It.encs ks).length≤1000000000):=dh (by have:=HMl.out;have:=hgl.2.2;omega);have HAS:Hid (ascI ks 2=Q):=dh ((ascI_start ks (by have:=HEV.out;omega)).symm.trans HQ.out);have HRT:=dh hRt;have HNA:=dh hna;have HBW:=dh hbw;have HNJ:=dh hjj;have hj256:j≤256:=by omega
   clear hx hjj hRt hdr hna hbw hok' hgl hen;go_wp2_with fail
   clear x0 x1 x2 x3;go_loopw [11] (fun i W=>∃ i':Nat,i=.int .i64 i'∧2≤i'∧i' % 2=0∧i'≤j + 2∧ascI ks i'=Q∧Below w1.heap.size w1 W) (fun i _=>j + 2 - (intOf i).toNat)
   case atStart=>exact ⟨2,rfl,by omega,by omega,by omega,HAS.out,HBW.out⟩
   case round=>
    obtain ⟨i,rfl,hi2,hie,hin,hasc,hW⟩:=hrel;by_cases hlt:i < j
    ·have hj1:i + 1 < ks.length:=by have:=HNJ.out;have:=HEV.out;omega
     have hstep:=ascI_step ks i hi2 hj1;rw [hasc] at hstep;obtain ⟨b,o,A1,rfl,_,⟨y0,y1,y2,y3⟩,hI1⟩:=(HIT.out.below hW).2.2 (i - 2) (by omega);obtain ⟨b',o',A2,eab,_,⟨z0,z1,z2,z3⟩,hI2⟩:=(HIT.out.below hW).2.2 i (by omega);cases eab
     have hlen:∀ q (h:q < ks.length),(It.enc ks[q]).length≤1000000000:=fun q h=>by
      have e1:=encs_take_succ h;have e2:=encs_take_le ks (q + 1);rw [e1,List.length_append] at e2;have:=HGL.out;omega
     have CA1:=dh (raw_new (wfs_get HGW.out (i - 2) (by omega)) hI1 (hlen _ (by omega)));have CA2:=dh (raw_new (wfs_get HGW.out i (by omega)) hI2 (hlen _ (by omega)));have HW:=dh hW;have HST:=dh hstep;clear hI1 hI2 hlen hW hstep hasc;generalize ks[i - 2]=p at *;generalize ks[i]=q at *;clear hj1;have hjz:(i:Int) < (j:Int):=by omega
     generalize hJ:i - 2=J at *;have hs0:IntKind.i64.wrap ((i:Int) - 2)=(J:Int):=by rw [IntWalk.i64_in _ (by omega)];omega
     have hj0b:(J:Int) < (j:Int):=by omega
     have hJ0:J < j:=by omega
     clear hJ;have hlx0:=lg y0;have hx:=Below.keep HW.out HN0.out (lb HN0.out);have hlB:=lb hx;obtain ⟨x0,x1,x2,x3⟩:=cf hx;clear hx;go_wp2_with fail
     refine wp_region_held_drew (S:=(fun w'=>(w'.cell? ⟨b,o + J * 4,none⟩=some (.int .i64 p.kind)∧w'.cell? ⟨b,o + J * 4 + 1,none⟩=some (.int .u64 (p.num:Int))∧w'.cell? ⟨b,o + J * 4 + 2,none⟩=some (.slice A1.ab A1.nb A1.cb)∧w'.cell? ⟨b,o + J * 4 + 3,none⟩=some (.slice A1.ai A1.ni A1.ci))∧(w'.cell? ⟨b,o + i * 4,none⟩=some (.int .i64 q.kind)∧w'.cell? ⟨b,o + i * 4 + 1,none⟩=some (.int .u64 (q.num:Int))∧w'.cell? ⟨b,o + i * 4 + 2,none⟩=some (.slice A2.ab A2.nb A2.cb)∧w'.cell? ⟨b,o + i * 4 + 3,none⟩=some (.slice A2.ai A2.ni A2.ci))∧w'.cell? ⟨B,3,none⟩=some (.slice (some ⟨b,o,none⟩) j ci))) (by kernel_rfl) ⟨⟨y0,y1,y2,y3⟩,⟨z0,z1,z2,z3⟩,x3⟩ (fun hHeld=>?_);refine tk 0 (v:=?_) rfl hHeld ?_ ?_;rotate_left
     ·intro W h;(try dsimp only at h);go_simp;try with_reducible rfl
     try simp only [Act.put,sx]
     refine tk 1 (v:=?_) rfl hHeld ?_ ?_;rotate_left
     ·intro W h;(try dsimp only at h);go_simp;try with_reducible rfl
     try simp only [Act.put,sx]
     refine tk 2 (v:=?_) rfl hHeld ?_ ?_;rotate_left
     ·intro W h;(try dsimp only at h);go_simp;try with_reducible rfl
     try simp only [Act.put,sx]
     refine tk 3 (v:=?_) rfl hHeld ?_ ?_;rotate_left
     ·intro W h;(try dsimp only at h);go_simp;try with_reducible rfl
     try simp only [Act.put,sx]
     refine tk 4 (v:=?_) rfl hHeld ?_ ?_;rotate_left
     ·intro W h;(try dsimp only at h);go_simp;try with_reducible rfl
     try simp only [Act.put,sx]
     refine tk 5 (v:=?_) rfl hHeld ?_ ?_;rotate_left
     ·intro W h;(try dsimp only at h);go_simp;try with_reducible rfl
     try simp only [Act.put,sx]
     refine tk 7 (v:=?_) rfl hHeld ?_ ?_;rotate_left
     ·intro W h;(try dsimp only at h);go_simp;try with_reducible rfl
     try simp only [Act.put,sx]
     refine tk 8 (v:=?_) rfl hHeld ?_ ?_;rotate_left
     ·intro W h;(try dsimp only at h);go_simp;try with_reducible rfl
     try simp only [Act.put,sx]
     refine tk 9 (v:=?_) rfl hHeld ?_ ?_;rotate_left
     ·intro W h;(try dsimp only at h);go_simp;try with_reducible rfl
     try simp only [Act.put,sx]
     refine tk 10 (v:=?_) rfl hHeld ?_ ?_;rotate_left
     ·intro W h;(try dsimp only at h);go_simp;try with_reducible rfl
     try simp only [Act.put,sx]
     refine tk 11 (v:=?_) rfl hHeld ?_ ?_;rotate_left
     ·intro W h;(try dsimp only at h);go_simp;try with_reducible rfl
     try simp only [Act.put,sx]
     refine wpAnyH_ready (rs:=[6]) (by kernel_rfl) (by simp) ?_;refine AllReadyH.cons rfl (fun K1 hK1=>?_) AllReadyH.nil;go_simp
     refine (CA1.out _ (bd (Below.refl _ _) 1)).mono ?_;rintro e v2 g2;obtain ⟨a2,k2,rfl,t1,R2,t2,t3,B2⟩:=g2.open;clear t1 t2 t3 g2;have HB2:=dh (pt (bd (Below.refl wr.heap.size wr) 1) B2);have HR2:=dh R2;clear R2 B2;refine hK1.out _ _ ?_ (fun hHeld=>?_)
     ·have B2X:=HB2.out
      exact ⟨⟨(B2X.cell (p:=⟨b,o + J * 4,none⟩) hlx0).trans y0,(B2X.cell (p:=⟨b,o + J * 4 + 1,none⟩) hlx0).trans y1,(B2X.cell (p:=⟨b,o + J * 4 + 2,none⟩) hlx0).trans y2,(B2X.cell (p:=⟨b,o + J * 4 + 3,none⟩) hlx0).trans y3⟩,⟨(B2X.cell (p:=⟨b,o + i * 4,none⟩) hlx0).trans z0,(B2X.cell (p:=⟨b,o + i * 4 + 1,none⟩) hlx0).trans z1,(B2X.cell (p:=⟨b,o + i * 4 + 2,none⟩) hlx0).trans z2,(B2X.cell (p:=⟨b,o + i * 4 + 3,none⟩) hlx0).trans z3⟩,(B2X.cell (p:=⟨B,3,none⟩) hlB).trans x3⟩
     clear hK1
     try simp only [Act.put,sx]
     refine wpAnyH_ready (rs:=[12]) (by kernel_rfl) (by simp) ?_;refine AllReadyH.cons rfl (fun K1 hK1=>?_) AllReadyH.nil;go_simp
     refine (CA2.out _ HB2.out).mono ?_;rintro e v3 g3;obtain ⟨a3,k3,rfl,t1,R3,t2,t3,B3⟩:=g3.open;clear t1 t2 t3 g3;have HB3:=dh (pt HB2.out B3);have HR3:=dh R3;have HR2':=dh (HR2.out.below B3);clear R3 B3;refine hK1.out _ _ ?_ (fun hHeld=>?_)
     ·have B2X:=HB3.out
      exact ⟨⟨(B2X.cell (p:=⟨b,o + J * 4,none⟩) hlx0).trans y0,(B2X.cell (p:=⟨b,o + J * 4 + 1,none⟩) hlx0).trans y1,(B2X.cell (p:=⟨b,o + J * 4 + 2,none⟩) hlx0).trans y2,(B2X.cell (p:=⟨b,o + J * 4 + 3,none⟩) hlx0).trans y3⟩,⟨(B2X.cell (p:=⟨b,o + i * 4,none⟩) hlx0).trans z0,(B2X.cell (p:=⟨b,o + i * 4 + 1,none⟩) hlx0).trans z1,(B2X.cell (p:=⟨b,o + i * 4 + 2,none⟩) hlx0).trans z2,(B2X.cell (p:=⟨b,o + i * 4 + 3,none⟩) hlx0).trans z3⟩,(B2X.cell (p:=⟨B,3,none⟩) hlB).trans x3⟩
     clear hK1
     try simp only [Act.put,sx]
     refine wpAnyH_ready (rs:=[13]) (by kernel_rfl) (by simp) ?_;refine AllReadyH.cons rfl (fun K1 hK1=>?_) AllReadyH.nil;go_simp
     refine (rcompare_any HR2'.out HR3.out _ rfl).mono ?_;rintro e u ⟨rfl,q5,rfl⟩;have HB5:=dh (bd HB3.out q5);refine hK1.out _ _ ?_ (fun hHeld=>?_)
     ·have B2X:=HB5.out
      exact ⟨⟨(B2X.cell (p:=⟨b,o + J * 4,none⟩) hlx0).trans y0,(B2X.cell (p:=⟨b,o + J * 4 + 1,none⟩) hlx0).trans y1,(B2X.cell (p:=⟨b,o + J * 4 + 2,none⟩) hlx0).trans y2,(B2X.cell (p:=⟨b,o + J * 4 + 3,none⟩) hlx0).trans y3⟩,⟨(B2X.cell (p:=⟨b,o + i * 4,none⟩) hlx0).trans z0,(B2X.cell (p:=⟨b,o + i * 4 + 1,none⟩) hlx0).trans z1,(B2X.cell (p:=⟨b,o + i * 4 + 2,none⟩) hlx0).trans z2,(B2X.cell (p:=⟨b,o + i * 4 + 3,none⟩) hlx0).trans z3⟩,(B2X.cell (p:=⟨B,3,none⟩) hlB).trans x3⟩
     clear hK1
     try simp only [Act.put,sx]
     refine tk 14 (v:=?_) rfl hHeld ?_ ?_;rotate_left
     ·intro W h;(try dsimp only at h);go_simp;try with_reducible rfl
     try simp only [Act.put,sx]
     refine wpAnyH_done (by kernel_rfl) ?_ _
     try simp only [Act.put,sx]
     clear hHeld;have hst:=HST.out;by_cases hcc:It.cmpB (It.enc p) (It.enc q) < 0
     ·have hst':Hid (Q=ascI ks (i + 2)):=by rw [hst,decide_eq_true hcc];exact dh (by simp)
      clear hst;generalize It.cmpB (It.enc p) (It.enc q)=C at *;have hcz:¬ (0:Int)≤C:=by omega
      go_wp2_with fail
      go_roundw
      case rel=>exact ⟨i + 2,by go_num,by omega,by omega,by omega,hst'.out.symm,HW.out.trans (HB5.out.mono HW.out.size)⟩
      case measure=>simp [intOf];omega
     ·have hst':Hid (Q=false):=by rw [hst,decide_eq_false hcc];exact dh (by simp)
      clear hst;generalize It.cmpB (It.enc p) (It.enc q)=C at *;have hcz:(0:Int)≤C:=by omega
      go_wp2_with fail
      go_ret
      exact ⟨by rw [HR0.out (by rw [hst'.out,Bool.and_false])];rfl,by rw [hB];exact HP.out.trans ((HW.out.trans (HB5.out.mono HW.out.size)).mono (by have:=HP.out.size;omega))⟩
    ·have hR1:Hid (Q=true):=dh (by rw [← hasc];exact ascI_end ks i (by have:=HNJ.out;omega))
     have HW:=dh hW;have hnl:¬ (i:Int) < (j:Int):=by omega
     clear hasc hW;obtain ⟨x0,x1,x2,x3⟩:=cf (Below.keep HW.out HN0.out (lb HN0.out));go_wp2_with fail
     go_ret
     exact ⟨by rw [HR1.out (by rw [HRT.out,hR1.out];rfl),show (M:Int) - It.nodesL ks=(m:Int) from (by have:=HNA.out;omega)];rfl,by rw [hB];exact HP.out.trans (HW.out.mono (by have:=HP.out.size;omega))⟩
end Go.Proofs.YtelefkkkccilaaaDoor
