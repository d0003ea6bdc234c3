/- Headers: which parameters are permitted. -/
import Derived.Test.YtelefkkkccilaaaGreatDoorSc
set_option linter.all false
namespace Go.Proofs.YtelefkkkccilaaaGreatDoor
open Go.RowKit
set_option maxRecDepth 100000
set_option maxHeartbeats 8000000 in
theorem permit_any (k v:It) (A C:Ad) (w:World):Calls Tryz.prog 82 #[.agg #[.int .i64 k.kind,.int .u64 (k.num:Int),.slice A.ab A.nb A.cb,.slice A.ai A.ni A.ci,.int .i64 v.kind,.int .u64 (v.num:Int),.slice C.ab C.nb C.cb,.slice C.ai C.ni C.ci]] w (VP (It.permit (k,v)) w):=by
 have P0:=al w (.cells #[.int .i64 k.kind,.int .u64 (k.num:Int),.slice A.ab A.nb A.cb,.slice A.ai A.ni A.ci,.int .i64 v.kind,.int .u64 (v.num:Int),.slice C.ab C.nb C.cb,.slice C.ai C.ni C.ci] 90);have N0:=aw w (.cells #[.int .i64 k.kind,.int .u64 (k.num:Int),.slice A.ab A.nb A.cb,.slice A.ai A.ni A.ci,.int .i64 v.kind,.int .u64 (v.num:Int),.slice C.ab C.nb C.cb,.slice C.ai C.ni C.ci] 90);have HP:=dh P0;have HN:=dh N0;clear P0 N0;obtain ⟨R,hRR⟩:∃ R,It.permit (k,v)=R:=⟨_,rfl⟩;rw [hRR];have HRR:=dh hRR;clear hRR;go_enter Tryz.func82,Tryz.ntmps82
 go_upto_region 1 with fail
 generalize w.alloc _=w1 at *;have x:=ce HN.out;by_cases h3:k.kind=3
 ·have b3:(k.kind==3)=true:=by simpa using h3
  go_wp2_with fail
  go_ret
  exact ⟨by rw [show R=true from HRR.out.symm.trans (by simp [It.permit,h3])];try rfl,HP.out⟩
 have b3:(k.kind==3)=false:=by simpa using h3
 have HC:=dh (numb_any k A w1);cases hn:It.numb k with
 | false=>
   rw [hn] at HC;go_wp2_with fail
   refine HC.out.mono ?_;rintro e w2 ⟨rfl,B2⟩;have HN2:=kp B2 HN;have HP2:=dh (pt HP.out B2);clear B2 HC HN HP x;have x:=ce HN2.out;go_wp2_with fail
   go_ret
   exact ⟨by rw [show R=false from HRR.out.symm.trans (by simp [It.permit,h3,hn])];try rfl,HP2.out⟩
 | true=>
   rw [hn] at HC;go_wp2_with fail
   refine HC.out.mono ?_;rintro e w2 ⟨rfl,B2⟩;have HN2:=kp B2 HN;have HP2:=dh (pt HP.out B2);clear B2 HC HN HP x;have x:=ce HN2.out;by_cases h1:k.kind=1
   ·have b1:(k.kind==1)=true:=by simpa using h1
    go_wp2_with fail
    go_ret
    exact ⟨by rw [show R=true from HRR.out.symm.trans (by simp [It.permit,h3,hn,h1])];try rfl,HP2.out⟩
   have b1:(k.kind==1)=false:=by simpa using h1
   by_cases n1:k.num=1
   ·have c1:((k.num:Int)==1)=true:=by simpa using (show (k.num:Int)=1 by omega)
    have HC:=dh (numb_any v C w2);cases hv:It.numb v with
    | false=>
      rw [hv] at HC;go_wp2_with fail
      refine HC.out.mono ?_;rintro e w3 ⟨rfl,B3⟩;have HN3:=kp B3 HN2;have HP3:=dh (pt HP2.out B3);clear B3 HC HN2 HP2 x;have x:=ce HN3.out;go_wp2_with fail
      go_ret
      exact ⟨by rw [show R=false from HRR.out.symm.trans (by simp [It.permit,h3,hn,h1,n1,hv])];try rfl,HP3.out⟩
    | true=>
      rw [hv] at HC;go_wp2_with fail
      refine HC.out.mono ?_;rintro e w3 ⟨rfl,B3⟩;have HN3:=kp B3 HN2;have HP3:=dh (pt HP2.out B3);clear B3 HC HN2 HP2 x;have x:=ce HN3.out;by_cases k1:v.kind=1
      ·have d1:(v.kind==1)=true:=by simpa using k1
       go_wp2_with fail
       go_ret
       exact ⟨by rw [show R=true from HRR.out.symm.trans (by simp [It.permit,h3,hn,h1,n1,hv,k1])];try rfl,HP3.out⟩
      have d1:(v.kind==1)=false:=by simpa using k1
      by_cases k0:v.num=0
      ·have d0:((v.num:Int) !=0)=false:=by simpa using (show (v.num:Int)=0 by omega)
       go_wp2_with fail
       go_ret
       exact ⟨by rw [show R=false from HRR.out.symm.trans (by simp [It.permit,h3,hn,h1,n1,hv,k1,k0])];try rfl,HP3.out⟩
      have d0:((v.num:Int) !=0)=true:=by simpa using (show ¬ (v.num:Int)=0 by omega)
      go_wp2_with fail
      go_ret
      exact ⟨by rw [show R=true from HRR.out.symm.trans (by simp [It.permit,h3,hn,h1,n1,hv,k1,k0])];try rfl,HP3.out⟩
   have c1:((k.num:Int)==1)=false:=by simpa using (show ¬ (k.num:Int)=1 by omega)
   obtain ⟨q,hq⟩:∃ q,(v.kind==2)=q:=⟨_,rfl⟩;have hq2:decide (v.kind=2)=q:=by rw [← hq];rfl
   by_cases n4:k.num=4
   ·have c4:((k.num:Int)==4)=true:=by simpa using (show (k.num:Int)=4 by omega)
    go_wp2_with fail
    go_ret
    exact ⟨by rw [show R=q from HRR.out.symm.trans (by rw [← hq2];simp [It.permit,h3,hn,h1,n4])];try rfl,HP2.out⟩
   have c4:((k.num:Int)==4)=false:=by simpa using (show ¬ (k.num:Int)=4 by omega)
   by_cases n5:k.num=5
   ·have c5:((k.num:Int)==5)=true:=by simpa using (show (k.num:Int)=5 by omega)
    go_wp2_with fail
    go_ret
    exact ⟨by rw [show R=q from HRR.out.symm.trans (by rw [← hq2];simp [It.permit,h3,hn,h1,n5])];try rfl,HP2.out⟩
   have c5:((k.num:Int)==5)=false:=by simpa using (show ¬ (k.num:Int)=5 by omega)
   by_cases n6:k.num=6
   ·have c6:((k.num:Int)==6)=true:=by simpa using (show (k.num:Int)=6 by omega)
    go_wp2_with fail
    go_ret
    exact ⟨by rw [show R=q from HRR.out.symm.trans (by rw [← hq2];simp [It.permit,h3,hn,h1,n6])];try rfl,HP2.out⟩
   have c6:((k.num:Int)==6)=false:=by simpa using (show ¬ (k.num:Int)=6 by omega)
   by_cases n12:k.num=12
   ·have c12:((k.num:Int)==12)=true:=by simpa using (show (k.num:Int)=12 by omega)
    go_wp2_with fail
    go_ret
    exact ⟨by rw [show R=q from HRR.out.symm.trans (by rw [← hq2];simp [It.permit,h3,hn,h1,n12])];try rfl,HP2.out⟩
   have c12:((k.num:Int)==12)=false:=by simpa using (show ¬ (k.num:Int)=12 by omega)
   go_wp2_with fail
   go_ret
   exact ⟨by rw [show R=true from HRR.out.symm.trans (by simp [It.permit,h3,hn,h1,n1,n4,n5,n6,n12])];try rfl,HP2.out⟩
