/- find, of the program and of the reference. -/
import Derived.Test.YtelefkkkccilaaaGreatDoorSi
set_option maxHeartbeats 8000000
set_option linter.all false
namespace Go.Proofs.YtelefkkkccilaaaGreatDoor
open Go.RowKit
set_option maxRecDepth 100000
namespace It
def find2P (p u:It) (n:Int):Option It:=match findP p (int n) with
 | some x=>some x
 | .none=>findP u (int n)
end It
theorem hfind_ok (p u:It) (A C:Ad) (n:Int) (w:World) (ok ok':Nat→Prop) (h0: -9223372036854775808≤n) (h1:n≤9223372036854775807) (hI:IR ok w p A) (hJ:IR ok' w u C) (hE:Env w) (X:Nat→Prop) (hpX:∀ b,ok b→b < w.heap.size→X b) (huX:∀ b,ok' b→b < w.heap.size→X b) (hX:∀ b,w.heap.size≤b→X b):
 Calls Tryz.prog 83 #[.agg #[.int .i64 p.kind,.int .u64 (p.num:Int),.slice A.ab A.nb A.cb,.slice A.ai A.ni A.ci,.int .i64 u.kind,.int .u64 (u.num:Int),.slice C.ab C.nb C.cb,.slice C.ai C.ni C.ci],.int .i64 n] w (EndO X w (.op (It.find2P p u n))):=by
 obtain ⟨P0,N0⟩:=an w (o8 p u A C);obtain ⟨P1,N1⟩:=an (w.alloc (o8 p u A C)) o4z;have hsz0:(w.alloc (o8 p u A C)).heap.size=w.heap.size + 1:=by simp
 have hsz1:((w.alloc (o8 p u A C)).alloc o4z).heap.size=w.heap.size + 2:=by simp
 rw [hsz0] at N1;have HX1:=dh (Below.keep P1 N0 (lb N0));have HR1:=dh N1;have HP1:=dh (pt P0 P1);have HSZ:=dh hsz1;have HI1:=dh (((hI.imp (ok':=fun b=>b < w.heap.size∧X b) fun b h hb=>⟨hb,hpX b h hb⟩).below P0).below P1);have HJ1:=dh (((hJ.imp (ok':=fun b=>b < w.heap.size∧X b) fun b h hb=>⟨hb,huX b h hb⟩).below P0).below P1);have HXX:=dh hX;clear hX hpX huX;have HE1:=dh ((hE.below P0).below P1);have HN:=dh (And.intro h0 h1);have HT1:Hid (1 < w.heap.size):=dh hE.lt;clear hI hJ hE N0 N1 P0 P1 hsz0 hsz1 h0 h1;obtain ⟨R,hRR⟩:∃ R,It.find2P p u n=R:=⟨_,rfl⟩;rw [hRR];have HRR:=dh hRR;clear hRR;go_enter Tryz.func83,Tryz.ntmps83
 go_upto_region 1 with fail
 generalize ((w.alloc (o8 p u A C)).alloc o4z)=w1 at *;generalize hB:w.heap.size=B at *;have HJ0:=HJ1
 replace HI1:=dh (HI1.out.imp (ok':=fun b=>b≠B + 1∧(b < B→X b)) fun b hb _=>⟨by omega,fun _=>hb.2⟩)
 replace HJ1:=dh (HJ1.out.imp (ok':=fun b=>b≠B + 1∧(b < B→X b)) fun b hb _=>⟨by omega,fun _=>hb.2⟩)
 have HS1:Hid (∀ W,RB' w1 W→∀ b,W.heap.size≤b→(b≠B + 1∧(b < B→X b))):=dh fun W hW b hb=>by have:=HSZ.out;have:=Below.size hW;exact ⟨by omega,fun h=>by omega⟩
 refine rgh (M:=9) (fun b=>b≠B + 1∧(b < B→X b)) [.eq (.pointer (some ⟨B,0,none⟩)),.it p,.eq (.int .i64 n),.it (It.int n),.op (It.findP p (It.int n)),.op (It.findP p (It.int n)),.it (It.opt (It.findP p (It.int n))),.eq (.bool (It.findP p (It.int n)).isSome),.bk w1.heap.size o4z] [.pl,.pl,.pl,.pl,.pa,.la,.la,.la,.pa] 4 8 (.op (It.findP p (It.int n))) (by kernel_rfl) (by kernel_rfl) (by kernel_rfl) (fun _ _ o _ _ h=>by cases o <;> exact h) ?_ ?_
 ·refine ⟨?_,?_,?_,?_,?_,?_,?_,?_,?_,trivial⟩<;>intro vs W hR _ hd
  ·exact dfd 28 (.tmp 2) (B) 0 0 rfl (by kernel_rfl) (fieldH0 _)
  ·exact dlP (.tmp 9) (B) p u A C hR HX1.out HI1.out rfl (hd 0 (by decide))
  ·exact dmv (.tmp 1) rfl (show _=_ by kernel_rfl)
  ·have e2:vs 2=.int .i64 n:=(hd 2 (by decide));exact dcl (vals:=#[vs 2]) 69 (.func 69) #[.tmp 11] _ rfl (by kernel_rfl) (by kernel_rfl) (cq Tryz.func69) (by rw [e2];exact h_cint n HN.out W _)
  ·exact dfi (vals:=#[vs 1,vs 3]) 63 (.func 63) #[.tmp 10,.tmp 12] _ rfl (by kernel_rfl) (by kernel_rfl) (cq Tryz.func63) rfl rfl (by decide) (HS1.out W hR) (h_cfind (hd 1 (by decide)) (hd 3 (by decide)) (HE1.out.below hR))
  ·exact late_move (.tmp 13) rfl (hd 4 (by decide))
  ·exact late_op0 (.tmp 8) rfl (hd 5 (by decide))
  ·exact late_op1 (.tmp 8) rfl (hd 5 (by decide))
  ·exact dal rfl rfl rfl (by decide) hR.size
 ·intro vs W2 hR2 hf hD hE
  obtain ⟨ZZ,e4,hI4⟩:=hf 4 (by decide);obtain ⟨T,e8,hT,hTn⟩:=hf 8 (by decide);have hD4:=hD (by decide) (by decide) T e8;obtain ⟨Z2,e42,hI42⟩:=hD4;obtain rfl:ZZ=Z2:=by
   rw [e4] at e42;cases ZZ;cases Z2
   simp only [Value.tuple.injEq,Value.agg.injEq,Value.slice.injEq,Array.mk.injEq,List.cons.injEq,and_true,true_and] at e42;obtain ⟨⟨r1,r2,r3⟩,r4,r5,r6⟩:=e42;subst r1;subst r2;subst r3;subst r4;subst r5;subst r6;rfl
  have e5:vs 5=_:=(exm (hE 5 _ (by decide) rfl W2) (.tmp 13) rfl).trans e4;have e6:vs 6=_:=ex0 (hE 6 _ (by decide) rfl W2) (.tmp 8) rfl e5;have e7:vs 7=_:=ex1 (hE 7 _ (by decide) rfl W2) (.tmp 8) rfl e5;have hsW:=Below.size hR2;have HP2:=dh (HP1.out.trans (Below.mono hR2 (by have:=HSZ.out;omega)));have HX2:=kp hR2 HX1;have HR2:=kp hR2 HR1;have HJ2:=dh (HJ1.out.below hR2);have HJ2':Hid (IR (fun b=>b < B∧X b) W2 u C):=dh (HJ0.out.below hR2);have HE2:=dh (HE1.out.below hR2);have HT:=dh hT;have HI4:=dh hI42;have HTN:Hid (B + 2≤T∧B + 2≤W2.heap.size):=dh ⟨by have:=HSZ.out;omega,by have:=HSZ.out;omega⟩;simp only [Rg.putAll,Rg.putFrom,List.take_succ_cons,List.take_zero,List.drop_succ_cons,List.drop_zero,Act.put,sx,e6,e7,e8];clear hf hD hE e4 e42 e5 e6 e7 e8 hI4 hI42 hT hTn hR2 hsW HP1 HX1 HR1 HI1 HJ1 HSZ HS1 HE1;have f:=ff HT.out;generalize hr1:It.findP p (It.int n)=r1 at *;cases r1 with
  | some z=>
    simp only [It.opt,Option.getD_some,Option.isSome_some] at *;have t:=cf HT.out;go_upto_region 2 with fail
    clear t f;obtain ⟨W',hW',hp4,hs4,hb4⟩:=p4I (W:=W2) (b:=T) HT.out z ZZ;rw [hW'];clear hW';have HI5:=dh (HI4.out.keep (w':=W') (ok':=fun k=>k≠B + 1∧(k < B→X k)) fun b hb hl=>⟨hs4.2 b hb.1,hb.2⟩);have HT5:=dh hp4;have HR5:=dh ((hs4.2 (B + 1) (by have:=HTN.out;omega)).trans HR2.out);have HP5:=dh (hb4 B w HP2.out (by have:=HTN.out;omega));have HZ5:Hid (B + 2≤W'.heap.size):=dh (by rw [hs4.1];exact HTN.out.2);clear hp4 hs4 hb4 HI4 HT HR2 HP2;generalize W'=w5 at *;have t:=cf HT5.out;have f:=ff HR5.out;obtain ⟨r0,r1,r2,r3⟩:=cf HR5.out;go_wp2_with fail
    clear t f r0 r1 r2 r3;obtain ⟨W',hW',hp4,hs4,hb4⟩:=p4I (W:=w5) (b:=B + 1) HR5.out z ZZ;rw [hW'];clear hW';obtain ⟨g0,g1,g2,g3⟩:=cf hp4;refine bodyPost_ret (v:=.tuple #[(v4 z ZZ),.bool true]) (by simp [v4,results,Tryz.results83,go_sem,g0,g1,g2,g3]) rfl ?_;have hR9:R=some z:=by
     rw [← HRR.out];unfold It.find2P;rw [hr1]
    rw [hR9];refine ⟨_,rfl,?_,ZZ,rfl,?_⟩
    ·show Below _ _ _
     rw [hB];exact hb4 B w HP5.out (by omega)
    ·exact HI5.out.keep fun b hb _=>⟨hs4.2 b hb.1,by by_cases h:b < B;exact hb.2 h;exact HXX.out b (by omega)⟩
  | none=>
    simp only [It.opt,Option.getD_none,Option.isSome_none] at *;have t:=cf HT.out;go_upto_region 4 with fail
    clear t f;obtain ⟨W',hW',hp4,hs4,hb4⟩:=p4I (W:=W2) (b:=T) HT.out (It.mk 0 0 [] []) ZZ;rw [hW'];clear hW';have HR5:=dh ((hs4.2 (B + 1) (by have:=HTN.out;omega)).trans HR2.out);have HX5:=dh ((hs4.2 B (by have:=HTN.out;omega)).trans HX2.out);have HP5:=dh (hb4 B w HP2.out (by have:=HTN.out;omega));have hB5:=hb4 (B + 2) W2 (Below.refl _ _) HTN.out.1;have HZ5:Hid (B + 2≤W'.heap.size):=dh (by rw [hs4.1];exact HTN.out.2);have HJ5:=dh (HJ2'.out.keep (w':=W') (ok':=fun b=>b≠B + 1∧(b < B→X b)) fun b hb hl=>⟨hs4.2 b (by have:=HTN.out;omega),⟨by omega,fun _=>hb.2⟩⟩);have HE5:=dh (But.env HE2.out ⟨hB5.os,hB5.tape,hB5.output,hB5.size,fun k _ hne=>hs4.2 k hne⟩ (by have:=HT1.out;have:=HTN.out;omega));clear hp4 hs4 hb4 HI4 HT HR2 HP2 hB5 HJ2 HX2;generalize W'=w5 at *;have HS5:Hid (∀ W,RB' w5 W→∀ b,W.heap.size≤b→(b≠B + 1∧(b < B→X b))):=dh fun W hW b hb=>by have:=HZ5.out;have:=Below.size hW;exact ⟨by omega,fun h=>by omega⟩
    refine rgh (M:=7) (fun b=>b≠B + 1∧(b < B→X b)) [.eq (.pointer (some ⟨B,4,none⟩)),.it u,.eq (.int .i64 n),.it (It.int n),.op (It.findP u (It.int n)),.it (It.opt (It.findP u (It.int n))),.eq (.bool (It.findP u (It.int n)).isSome)] [.pl,.pl,.pl,.pl,.pl,.la,.la] 7 7 (.any) (by kernel_rfl) (by kernel_rfl) (by kernel_rfl) (fun _ _ o _ _ h=>by cases o <;> exact h) ?_ ?_
    ·refine ⟨?_,?_,?_,?_,?_,?_,?_,trivial⟩<;>intro vs W hR _ hd
     ·exact dfd 28 (.tmp 2) (B) 1 4 rfl (by kernel_rfl) (fieldH1 _)
     ·exact dlU (.tmp 18) (B) p u A C hR HX5.out HJ5.out rfl (hd 0 (by decide))
     ·exact dmv (.tmp 1) rfl (show _=_ by kernel_rfl)
     ·have e2:vs 2=.int .i64 n:=(hd 2 (by decide));exact dcl (vals:=#[vs 2]) 69 (.func 69) #[.tmp 20] _ rfl (by kernel_rfl) (by kernel_rfl) (cq Tryz.func69) (by rw [e2];exact h_cint n HN.out W _)
     ·exact dcl (vals:=#[vs 1,vs 3]) 63 (.func 63) #[.tmp 19,.tmp 21] _ rfl (by kernel_rfl) (by kernel_rfl) (cq Tryz.func63) ((h_cfind (hd 1 (by decide)) (hd 3 (by decide)) (HE5.out.below hR)).mono fun _ _ h=>h.any (HS5.out W hR))
     ·exact late_op0 (.tmp 22) rfl (hd 4 (by decide))
     ·exact late_op1 (.tmp 22) rfl (hd 4 (by decide))
    ·intro vs W6 hR6 hf hD hE
     obtain ⟨Z6,e4,hI6⟩:=hf 4 (by decide);have e5:vs 5=_:=ex0 (hE 5 _ (by decide) rfl W6) (.tmp 22) rfl e4;have e6:vs 6=_:=ex1 (hE 6 _ (by decide) rfl W6) (.tmp 22) rfl e4;have hsW:=Below.size hR6;have HP6:=dh (HP5.out.trans (Below.mono hR6 (by have:=HZ5.out;omega)));have HR6:=kp hR6 HR5;have HI6:=dh hI6;have HZ6:Hid (B + 2≤W6.heap.size):=dh (by have:=HZ5.out;omega);simp only [Rg.putAll,Rg.putFrom,List.take_succ_cons,List.take_zero,List.drop_succ_cons,List.drop_zero,Act.put,sx,e5,e6];clear hf hD hE e4 e5 e6 hI6 hR6 hsW HP5 HX5 HR5 HJ5 HE5 HS5;generalize hr2:It.findP u (It.int n)=r2 at *;have f:=ff HR6.out;obtain ⟨r0,r1,r3,r4⟩:=cf HR6.out;go_wp2_with fail
     clear f r0 r1 r3 r4;obtain ⟨W',hW',hp4,hs4,hb4⟩:=p4I (W:=W6) (b:=B + 1) HR6.out (It.opt r2) Z6;rw [hW'];clear hW';obtain ⟨g0,g1,g2,g3⟩:=cf hp4;refine bodyPost_ret (v:=.tuple #[.agg #[.int .i64 (It.opt r2).kind,.int .u64 ((It.opt r2).num:Int),.slice Z6.ab Z6.nb Z6.cb,.slice Z6.ai Z6.ni Z6.ci],.bool (Option.isSome r2)]) (by simp [results,Tryz.results83,go_sem,g0,g1,g2,g3]) rfl ?_;have hR9:R=r2:=by
      rw [← HRR.out];unfold It.find2P;rw [hr1];exact hr2
     rw [hR9];refine ⟨_,rfl,?_,Z6,rfl,?_⟩
     ·show Below _ _ _
      rw [hB];exact hb4 B w HP6.out (by omega)
     ·exact HI6.out.keep fun b hb _=>⟨hs4.2 b hb.1,by by_cases h:b < B;exact hb.2 h;exact HXX.out b (by omega)⟩
theorem hfind_any (p u:It) (A C:Ad) (n:Int) (w:World) (ok ok':Nat→Prop) (h0: -9223372036854775808≤n) (h1:n≤9223372036854775807) (hI:IR ok w p A) (hJ:IR ok' w u C) (hE:Env w):Calls Tryz.prog 83 #[.agg #[.int .i64 p.kind,.int .u64 (p.num:Int),.slice A.ab A.nb A.cb,.slice A.ai A.ni A.ci,.int .i64 u.kind,.int .u64 (u.num:Int),.slice C.ab C.nb C.cb,.slice C.ai C.ni C.ci],.int .i64 n] w (EndO (fun _=>True) w (.op (It.find2P p u n))):=hfind_ok p u A C n w ok ok' h0 h1 hI hJ hE (fun _=>True) (fun _ _ _=>trivial) (fun _ _ _=>trivial) (fun _ _=>trivial)
theorem rfind2_any (p u:It) (A C:Ad) (n:Int) (w:World) (ok ok':Nat→Prop) (h0: -9223372036854775808≤n) (h1:n≤9223372036854775807) (hI:IR ok w p A) (hJ:IR ok' w u C) (hlp:p.kids.length≤1000) (hlu:u.kids.length≤1000):
 Calls Tryz.prog 88 #[.agg #[.int .i64 p.kind,.int .u64 (p.num:Int),.slice A.ab A.nb A.cb,.slice A.ai A.ni A.ci,.int .i64 u.kind,.int .u64 (u.num:Int),.slice C.ab C.nb C.cb,.slice C.ai C.ni C.ci],.int .i64 n] w (EndO (fun _=>True) w (.op (It.find2 p u n))):=by
 obtain ⟨P0,N0⟩:=an w (o8 p u A C);obtain ⟨P1,N1⟩:=an (w.alloc (o8 p u A C)) o4z;have hsz0:(w.alloc (o8 p u A C)).heap.size=w.heap.size + 1:=by simp
 have hsz1:((w.alloc (o8 p u A C)).alloc o4z).heap.size=w.heap.size + 2:=by simp
 rw [hsz0] at N1;have HX1:=dh (Below.keep P1 N0 (lb N0));have HR1:=dh N1;have HP1:=dh (pt P0 P1);have HSZ:=dh hsz1;have HI1:=dh (((hI.imp (ok':=fun b=>b < w.heap.size) fun b h hb=>hb).below P0).below P1);have HJ1:=dh (((hJ.imp (ok':=fun b=>b < w.heap.size) fun b h hb=>hb).below P0).below P1)
 skip
 skip
 have HLP:=dh (And.intro hlp hlu);have HN:=dh (And.intro h0 h1)
 skip
 clear hI hJ hlp hlu N0 N1 P0 P1 hsz0 hsz1 h0 h1;obtain ⟨R,hRR⟩:∃ R,It.find2 p u n=R:=⟨_,rfl⟩;rw [hRR];have HRR:=dh hRR;clear hRR;go_enter Tryz.func88,Tryz.ntmps88
 go_upto_region 1 with fail
 generalize ((w.alloc (o8 p u A C)).alloc o4z)=w1 at *;generalize hB:w.heap.size=B at *;have HJ0:=HJ1;have HS1:Hid (∀ W,RB' w1 W→∀ b,W.heap.size≤b→B + 2≤b):=dh fun W hW b hb=>by have:=HSZ.out;have:=Below.size hW;omega
 refine rgh (M:=9) (fun b=>b < B) [.eq (.pointer (some ⟨B,0,none⟩)),.it p,.eq (.int .i64 n),.it (It.int n),.op (It.look p.kids (It.int n)),.op (It.look p.kids (It.int n)),.it (It.opt (It.look p.kids (It.int n))),.eq (.bool (It.look p.kids (It.int n)).isSome),.bk w1.heap.size o4z] [.pl,.pl,.pl,.pl,.pa,.la,.la,.la,.pa] 4 8 (.op (It.look p.kids (It.int n))) (by kernel_rfl) (by kernel_rfl) (by kernel_rfl) (fun _ _ o _ _ h=>by cases o <;> exact h) ?_ ?_
 ·refine ⟨?_,?_,?_,?_,?_,?_,?_,?_,?_,trivial⟩<;>intro vs W hR _ hd
  ·exact dfd 28 (.tmp 2) (B) 0 0 rfl (by kernel_rfl) (fieldH0 _)
  ·exact dlP (.tmp 9) (B) p u A C hR HX1.out HI1.out rfl (hd 0 (by decide))
  ·exact dmv (.tmp 1) rfl (show _=_ by kernel_rfl)
  ·have e2:vs 2=.int .i64 n:=(hd 2 (by decide));exact dcl (vals:=#[vs 2]) 62 (.func 62) #[.tmp 11] _ rfl (by kernel_rfl) (by kernel_rfl) (cq Tryz.func62) (by rw [e2];exact h_rint n HN.out W _)
  ·exact doesh_firstO (vals:=#[vs 1,vs 3]) 87 (.func 87) #[.tmp 10,.tmp 12] _ rfl (by kernel_rfl) (by kernel_rfl) (cq Tryz.func87) rfl rfl (by decide) (fun b hb=>by have:=HSZ.out;omega) (h_at (hd 1 (by decide)) (hd 3 (by decide)) HLP.out.1)
  ·exact late_move (.tmp 13) rfl (hd 4 (by decide))
  ·exact late_op0 (.tmp 8) rfl (hd 5 (by decide))
  ·exact late_op1 (.tmp 8) rfl (hd 5 (by decide))
  ·exact dal rfl rfl rfl (by decide) hR.size
 ·intro vs W2 hR2 hf hD hE
  obtain ⟨ZZ,e4,hI4⟩:=hf 4 (by decide);obtain ⟨T,e8,hT,hTn⟩:=hf 8 (by decide);have hD4:=hD (by decide) (by decide) T e8;obtain ⟨Z2,e42,hI42⟩:=hD4;obtain rfl:ZZ=Z2:=by
   rw [e4] at e42;cases ZZ;cases Z2
   simp only [Value.tuple.injEq,Value.agg.injEq,Value.slice.injEq,Array.mk.injEq,List.cons.injEq,and_true,true_and] at e42;obtain ⟨⟨r1,r2,r3⟩,r4,r5,r6⟩:=e42;subst r1;subst r2;subst r3;subst r4;subst r5;subst r6;rfl
  have e5:vs 5=_:=(exm (hE 5 _ (by decide) rfl W2) (.tmp 13) rfl).trans e4;have e6:vs 6=_:=ex0 (hE 6 _ (by decide) rfl W2) (.tmp 8) rfl e5;have e7:vs 7=_:=ex1 (hE 7 _ (by decide) rfl W2) (.tmp 8) rfl e5;have hsW:=Below.size hR2;have HP2:=dh (HP1.out.trans (Below.mono hR2 (by have:=HSZ.out;omega)));have HX2:=kp hR2 HX1;have HR2:=kp hR2 HR1;have HJ2:=dh (HJ1.out.below hR2);have HJ2':Hid (IR (fun b=>b < B) W2 u C):=dh (HJ0.out.below hR2)
  skip
  have HT:=dh hT;have HI4:=dh hI42;have HTN:Hid (B + 2≤T∧B + 2≤W2.heap.size):=dh ⟨by have:=HSZ.out;omega,by have:=HSZ.out;omega⟩;simp only [Rg.putAll,Rg.putFrom,List.take_succ_cons,List.take_zero,List.drop_succ_cons,List.drop_zero,Act.put,sx,e6,e7,e8];clear hf hD hE e4 e42 e5 e6 e7 e8 hI4 hI42 hT hTn hR2 hsW HP1 HX1 HR1 HI1 HJ1 HSZ HS1;have f:=ff HT.out;generalize hr1:It.look p.kids (It.int n)=r1 at *;cases r1 with
  | some z=>
    simp only [It.opt,Option.getD_some,Option.isSome_some] at *;have t:=cf HT.out;go_upto_region 2 with fail
    clear t f;obtain ⟨W',hW',hp4,hs4,hb4⟩:=p4I (W:=W2) (b:=T) HT.out z ZZ;rw [hW'];clear hW';have HI5:=dh (HI4.out.keep (w':=W') (ok':=fun k=>k < B) fun b hb hl=>⟨hs4.2 b hb.1,hb.2⟩);have HT5:=dh hp4;have HR5:=dh ((hs4.2 (B + 1) (by have:=HTN.out;omega)).trans HR2.out);have HP5:=dh (hb4 B w HP2.out (by have:=HTN.out;omega));have HZ5:Hid (B + 2≤W'.heap.size):=dh (by rw [hs4.1];exact HTN.out.2);clear hp4 hs4 hb4 HI4 HT HR2 HP2;generalize W'=w5 at *;have t:=cf HT5.out;have f:=ff HR5.out;obtain ⟨r0,r1,r2,r3⟩:=cf HR5.out;go_wp2_with fail
    clear t f r0 r1 r2 r3;obtain ⟨W',hW',hp4,hs4,hb4⟩:=p4I (W:=w5) (b:=B + 1) HR5.out z ZZ;rw [hW'];clear hW';obtain ⟨g0,g1,g2,g3⟩:=cf hp4;refine bodyPost_ret (v:=.tuple #[(v4 z ZZ),.bool true]) (by simp [v4,results,Tryz.results88,go_sem,g0,g1,g2,g3]) rfl ?_;have hR9:R=some z:=by
     rw [← HRR.out];unfold It.find2;rw [hr1]
    rw [hR9];refine ⟨_,rfl,?_,ZZ,rfl,?_⟩
    ·show Below _ _ _
     rw [hB];exact hb4 B w HP5.out (by omega)
    ·exact HI5.out.keep fun b hb _=>⟨hs4.2 b (by omega),trivial⟩
  | none=>
    simp only [It.opt,Option.getD_none,Option.isSome_none] at *;have t:=cf HT.out;go_upto_region 4 with fail
    clear t f;obtain ⟨W',hW',hp4,hs4,hb4⟩:=p4I (W:=W2) (b:=T) HT.out (It.mk 0 0 [] []) ZZ;rw [hW'];clear hW';have HR5:=dh ((hs4.2 (B + 1) (by have:=HTN.out;omega)).trans HR2.out);have HX5:=dh ((hs4.2 B (by have:=HTN.out;omega)).trans HX2.out);have HP5:=dh (hb4 B w HP2.out (by have:=HTN.out;omega));have hB5:=hb4 (B + 2) W2 (Below.refl _ _) HTN.out.1;have HZ5:Hid (B + 2≤W'.heap.size):=dh (by rw [hs4.1];exact HTN.out.2);have HJ5:=dh (HJ2'.out.keep (w':=W') (ok':=fun b=>b < B) fun b hb hl=>⟨hs4.2 b (by have:=HTN.out;omega),hb⟩)
    skip
    clear hp4 hs4 hb4 HI4 HT HR2 HP2 hB5 HJ2 HX2;generalize W'=w5 at *;refine rgh (M:=7) (fun b=>b < B) [.eq (.pointer (some ⟨B,4,none⟩)),.it u,.eq (.int .i64 n),.it (It.int n),.op (It.look u.kids (It.int n)),.it (It.opt (It.look u.kids (It.int n))),.eq (.bool (It.look u.kids (It.int n)).isSome)] [.pl,.pl,.pl,.pl,.pl,.la,.la] 7 7 (.any) (by kernel_rfl) (by kernel_rfl) (by kernel_rfl) (fun _ _ o _ _ h=>by cases o <;> exact h) ?_ ?_
    ·refine ⟨?_,?_,?_,?_,?_,?_,?_,trivial⟩<;>intro vs W hR _ hd
     ·exact dfd 28 (.tmp 2) (B) 1 4 rfl (by kernel_rfl) (fieldH1 _)
     ·exact dlU (.tmp 18) (B) p u A C hR HX5.out HJ5.out rfl (hd 0 (by decide))
     ·exact dmv (.tmp 1) rfl (show _=_ by kernel_rfl)
     ·have e2:vs 2=.int .i64 n:=(hd 2 (by decide));exact dcl (vals:=#[vs 2]) 62 (.func 62) #[.tmp 20] _ rfl (by kernel_rfl) (by kernel_rfl) (cq Tryz.func62) (by rw [e2];exact h_rint n HN.out W _)
     ·exact dcl (vals:=#[vs 1,vs 3]) 87 (.func 87) #[.tmp 19,.tmp 21] _ rfl (by kernel_rfl) (by kernel_rfl) (cq Tryz.func87) (h_at (hd 1 (by decide)) (hd 3 (by decide)) HLP.out.2)
     ·exact late_op0 (.tmp 22) rfl (hd 4 (by decide))
     ·exact late_op1 (.tmp 22) rfl (hd 4 (by decide))
    ·intro vs W6 hR6 hf hD hE
     obtain ⟨Z6,e4,hI6⟩:=hf 4 (by decide);have e5:vs 5=_:=ex0 (hE 5 _ (by decide) rfl W6) (.tmp 22) rfl e4;have e6:vs 6=_:=ex1 (hE 6 _ (by decide) rfl W6) (.tmp 22) rfl e4;have hsW:=Below.size hR6;have HP6:=dh (HP5.out.trans (Below.mono hR6 (by have:=HZ5.out;omega)));have HR6:=kp hR6 HR5;have HI6:=dh hI6;have HZ6:Hid (B + 2≤W6.heap.size):=dh (by have:=HZ5.out;omega);simp only [Rg.putAll,Rg.putFrom,List.take_succ_cons,List.take_zero,List.drop_succ_cons,List.drop_zero,Act.put,sx,e5,e6];clear hf hD hE e4 e5 e6 hI6 hR6 hsW HP5 HX5 HR5 HJ5;generalize hr2:It.look u.kids (It.int n)=r2 at *;have f:=ff HR6.out;obtain ⟨r0,r1,r3,r4⟩:=cf HR6.out;go_wp2_with fail
     clear f r0 r1 r3 r4;obtain ⟨W',hW',hp4,hs4,hb4⟩:=p4I (W:=W6) (b:=B + 1) HR6.out (It.opt r2) Z6;rw [hW'];clear hW';obtain ⟨g0,g1,g2,g3⟩:=cf hp4;refine bodyPost_ret (v:=.tuple #[.agg #[.int .i64 (It.opt r2).kind,.int .u64 ((It.opt r2).num:Int),.slice Z6.ab Z6.nb Z6.cb,.slice Z6.ai Z6.ni Z6.ci],.bool (Option.isSome r2)]) (by simp [results,Tryz.results88,go_sem,g0,g1,g2,g3]) rfl ?_;have hR9:R=r2:=by
      rw [← HRR.out];unfold It.find2;rw [hr1];exact hr2
     rw [hR9];refine ⟨_,rfl,?_,Z6,rfl,?_⟩
     ·show Below _ _ _
      rw [hB];exact hb4 B w HP6.out (by omega)
     ·exact HI6.out.keep fun b hb _=>⟨hs4.2 b (by omega),trivial⟩
