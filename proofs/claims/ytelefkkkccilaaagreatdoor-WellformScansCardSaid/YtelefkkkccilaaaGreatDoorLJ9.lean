/- What LJ holds besides. -/
import Derived.Test.YtelefkkkccilaaaGreatDoorLJ
import Derived.Test.YtelefkkkccilaaaGreatDoorLA9
set_option linter.all false
namespace Go.Proofs.YtelefkkkccilaaaGreatDoor
open Go.RowKit
set_option maxRecDepth 100000
set_option maxHeartbeats 4000000 in
theorem rencode_any (x:It) (A:Ad) (w:World) (ok:Nat→Prop) (hI:IR ok w x A) (hE:Env w):
 Calls Tryz.prog 52 #[.agg #[.int .i64 x.kind,.int .u64 (x.num:Int),.slice A.ab A.nb A.cb,.slice A.ai A.ni A.ci]] w (EP x w):=by
 obtain ⟨P0,N0⟩:=an w (o4 x A);obtain ⟨x0,x1,x2,x3⟩:=cf N0;have HN0:=dh N0;have HP:=dh P0;unfold EP;cases hv:It.valid x with
 | false=>
   have HC:=dh (rva x A (w.alloc (o4 x A)) ok (hI.below P0) (hE.below P0) false hv);clear P0 N0 hI hE hv;go_enter Tryz.func52,Tryz.ntmps52
   go_upto_region 1 with fail
   generalize w.alloc _=w1 at *;go_wp2_with fail
   refine HC.out.mono ?_;rintro e w6 ⟨rfl,B6⟩;have HB6:=dh (pt HP.out B6);clear B6 x0 x1 x2 x3;go_wp2_with fail
   go_ret2
   exact ⟨_,rfl,OwnB.nil _ _,HB6.out⟩
 | true=>
   have HC:=dh (rva x A (w.alloc (o4 x A)) ok (hI.below P0) (hE.below P0) true hv);have hw:It.wf 8 x=true∧(It.enc x).length≤4096:=by
    unfold It.valid at hv;simp only [Bool.and_eq_true,decide_eq_true_eq] at hv;exact ⟨hv.1.1,hv.2⟩
   have HA:=dh (raw_new hw.1 (hI.below P0) (by omega));clear P0 N0 hI hE hv hw;go_enter Tryz.func52,Tryz.ntmps52
   go_upto_region 1 with fail
   generalize w.alloc _=w1 at *;go_wp2_with fail
   refine HC.out.mono ?_;rintro e w6 ⟨rfl,B6⟩;have HB6:=dh B6;clear B6 x0 x1 x2 x3;obtain ⟨x0,x1,x2,x3⟩:=ck HB6.out HN0;go_wp2_with fail
   refine (HA.out w6 HB6.out).mono ?_;rintro e w7 ⟨v,rfl,O7,B7⟩;have HO7:=dh (OwnB.lower O7 (Nat.le_trans HP.out.size HB6.out.size));have HB7:=dh (pt HP.out (pt HB6.out B7));clear O7 B7 x0 x1 x2 x3;go_wp2_with fail
   go_ret2
   exact ⟨_,rfl,HO7.out,HB7.out⟩
