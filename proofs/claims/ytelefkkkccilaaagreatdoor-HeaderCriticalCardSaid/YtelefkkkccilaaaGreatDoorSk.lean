/- What the program copies and builds has no room behind it. -/
import Derived.Test.YtelefkkkccilaaaGreatDoorSj
import Derived.Test.YtelefkkkccilaaaGreatDoorXv
set_option linter.all false
namespace Go.Proofs.YtelefkkkccilaaaGreatDoor
open Go.RowKit
set_option maxRecDepth 100000
theorem bpostc_ok {r:It.MR} {x:It} {w:World} {e:Ending} {w':World} (h:BPostC r w e w') (hr:r=.ok x):∃ A:Ad,e=.returned (.tuple #[.agg #[.int .i64 x.kind,.int .u64 (x.num:Int),.slice A.ab A.nb A.cb,.slice A.ai A.ni A.ci],.int .i64 0])∧IR (fun b=>w.heap.size≤b) w' x A∧Below w.heap.size w w'∧A.ci=A.ni:=by
 subst hr;exact h
set_option maxHeartbeats 8000000 in
theorem copied_cap (x:It) (A:Ad) (w:World) (ok:Nat→Prop) (hv:It.valid x=true) (hk:x.kind=5) (hI:IR ok w x A) (hE:Env w):Calls Tryz.prog 96 #[.agg #[.int .i64 x.kind,.int .u64 (x.num:Int),.slice A.ab A.nb A.cb,.slice A.ai A.ni A.ci]] w (IPC x w):=by
 obtain ⟨P0,N0⟩:=an w (o4 x A);obtain ⟨P1,N1⟩:=an (w.alloc (o4 x A)) o4z;have hsz1:(w.alloc (o4 x A)).heap.size=w.heap.size + 1:=by simp
 rw [hsz1] at N1;have HX:=dh (Below.keep P1 N0 (lb N0));have HY1:=dh N1;have HP:=dh (pt P0 P1);have HI:=dh (((hI.below P0).below P1));have HE:=dh (((hE.below P0).below P1));have HK:Hid (It.buildP x.kids=.ok x∧x.kids.length≤256):=dh ⟨It.build_same hv hk,kids_le hv⟩;clear hI hE hv hk;go_enter Tryz.func96,Tryz.ntmps96
 go_upto_region 1 with fail
 clear P0 P1 N0 N1 hsz1;generalize ((w.alloc (o4 x A)).alloc o4z)=w1 at *;generalize hB:w.heap.size=B at *;obtain ⟨x0,x1,x2,x3⟩:=cf HX.out;have HC:=dh ((cbuild_cap x.kids A.ai A.ni A.ci w1 _ HI.out.tl (by have:=HI.out.ni;have:=HK.out.2;omega) HE.out).mono fun _ _ h=>bpostc_ok h HK.out.1);go_wp2_with fail
 refine HC.out.mono ?_;rintro e v2 ⟨Y,rfl,hIY,B2,hCAP⟩;have HCAP:=dh hCAP;clear hCAP;have hQ2:=pt B2 (al v2 (o4 x Y));have HPX:=dh (bwt HP.out hQ2 hB);have HY2:=kp hQ2 HY1;have HB3:=dh (aw v2 (o4 x Y));have HIY:=dh (hIY.below (al v2 (o4 x Y)));have HLT:=dh (lb HY1.out);go_upto_region 2 with fail
 clear x0 x1 x2 x3 B2 hQ2 hIY HC;generalize v2.alloc _=w3 at *;generalize v2.heap.size=T6 at *;have t:=cf HB3.out;have f:=ff HY2.out;have r:=cf HY2.out;go_wp2_with fail
 clear f r t;obtain ⟨W',hW',hp4,hs4,hb4⟩:=p4I (W:=w3) (b:=(B + 1)) HY2.out x Y;rw [hW'];clear hW';obtain ⟨g0,g1,g2,g3⟩:=cf hp4;refine bodyPost_ret (v:=(v4 x Y)) (by simp [v4,results,Tryz.results96,go_sem,g0,g1,g2,g3]) rfl ?_;exact ⟨Y,rfl,HIY.out.keep (w':=W') (ok':=fun b=>w.heap.size≤b) fun b hb hl=>⟨hs4.2 b (by have:=HLT.out;omega),by have:=HLT.out;omega⟩,by rw [hB];exact hb4 B w HPX.out (by omega),HCAP.out⟩
