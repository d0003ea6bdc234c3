/- Find, of the program and of the reference. -/
import Derived.Test.YtelefkkkccilaaaGreatDoorZa
import Derived.Test.YtelefkkkccilaaaGreatDoorLM
set_option linter.all false
namespace Go.Proofs.YtelefkkkccilaaaGreatDoor
open Go.RowKit
set_option maxRecDepth 100000
def FP (r:Option It) (w:World) (e:Ending) (w':World):Prop:=match r with
 | .none=>e=.returned (.tuple #[.agg #[.int .i64 0,.int .u64 0,.slice none 0 0,.slice none 0 0],.bool false])∧Below w.heap.size w w'
 | some z=>∃ Z:Ad,e=.returned (.tuple #[.agg #[.int .i64 z.kind,.int .u64 (z.num:Int),.slice Z.ab Z.nb Z.cb,.slice Z.ai Z.ni Z.ci],.bool true])∧IR (fun b=>w.heap.size≤b) w' z Z∧Below w.heap.size w w'
set_option maxHeartbeats 8000000 in
theorem cfind_any (m q:It) (A K:Ad) (w:World) (ok ok':Nat→Prop) (hI:IR ok w m A) (hQ:IR ok' w q K) (hE:Env w):
 Calls Tryz.prog 63 #[.agg #[.int .i64 m.kind,.int .u64 (m.num:Int),.slice A.ab A.nb A.cb,.slice A.ai A.ni A.ci],.agg #[.int .i64 q.kind,.int .u64 (q.num:Int),.slice K.ab K.nb K.cb,.slice K.ai K.ni K.ci]] w (FP (It.findP m q) w):=by
 obtain ⟨P0,N0⟩:=an w (o4 m A);obtain ⟨P1,N1⟩:=an (w.alloc (o4 m A)) (o4 q K);obtain ⟨P2,N2⟩:=an ((w.alloc (o4 m A)).alloc (o4 q K)) o4z;have hsz0:(w.alloc (o4 m A)).heap.size=w.heap.size + 1:=by simp
 have hsz1:((w.alloc (o4 m A)).alloc (o4 q K)).heap.size=w.heap.size + 2:=by simp
 rw [hsz0] at N1;rw [hsz1] at N2;have HX1:=dh (Below.keep P2 (Below.keep P1 N0 (lb N0)) (lb (Below.keep P1 N0 (lb N0))));have HY1:=dh (Below.keep P2 N1 (lb N1));have HR1:=dh N2;have HP1:=dh (pt (pt P0 P1) P2);have HI1:=dh (((hI.below P0).below P1).below P2);have HQ1:=dh (((hQ.below P0).below P1).below P2);have HE1:=dh (((hE.below P0).below P1).below P2);obtain ⟨x0,x1,x2,x3⟩:=cf HX1.out;obtain ⟨y0,y1,y2,y3⟩:=cf HY1.out;clear hI hQ hE N0 N1 N2 P0 P1 P2 hsz0 hsz1;obtain ⟨R,hRR⟩:∃ R,It.findP m q=R:=⟨_,rfl⟩;rw [hRR];have HRR:=dh hRR;clear hRR;go_enter Tryz.func63,Tryz.ntmps63
 go_upto_region 1 with fail
 generalize ((w.alloc (o4 m A)).alloc (o4 q K)).alloc o4z=w1 at *;generalize hB:w.heap.size=B at *;by_cases hk:m.kind=5
 case neg=>
  have hkb:(m.kind !=5)=true:=by simpa using hk
  have HN9:Hid (R=.none):=dh (HRR.out.symm.trans (if_neg (fun h=>hk h.1)));have r:=cf HR1.out;have f:=ff HR1.out;go_wp2_with fail
  clear r f;obtain ⟨W',hW',hp4,hs4,hb4⟩:=pq0 (W:=w1) (b:=B + 2) (HR1.out);rw [hW'];clear hW';obtain ⟨g0,g1,g2,g3⟩:=cf hp4;refine bodyPost_ret (v:=.tuple #[vz,.bool false]) (by simp [vz,results,Tryz.results63,go_sem,g0,g1,g2,g3]) rfl ?_;rw [HN9.out];exact ⟨rfl,by rw [hB];exact hb4 B w HP1.out (by omega)⟩
 have hkb:(m.kind !=5)=false:=by simpa using hk
 have HK:=dh hk;clear hk;cases hv:It.valid m with
 | false=>
   have HC:=dh (cva m A w1 _ HI1.out HE1.out false hv);go_wp2_with fail
   refine HC.out.mono ?_;rintro e w2 ⟨rfl,B2⟩;have HX2:=kp B2 HX1;have HY2:=kp B2 HY1;have HR2:=kp B2 HR1;have HI2:=dh (HI1.out.below B2);have HQ2:=dh (HQ1.out.below B2);have HE2:=dh (HE1.out.below B2);have HP2:=dh (HP1.out.trans (B2.mono (by have:=HP1.out.size;omega)));clear B2 HX1 HY1 HR1 HI1 HQ1 HE1 HP1 x0 x1 x2 x3 y0 y1 y2 y3;obtain ⟨x0,x1,x2,x3⟩:=cf HX2.out;obtain ⟨y0,y1,y2,y3⟩:=cf HY2.out;clear HC;have HN9:Hid (R=.none):=dh (HRR.out.symm.trans (if_neg (fun h=>by rw [hv] at h;cases h.2)));have r:=cf HR2.out;have f:=ff HR2.out;go_wp2_with fail
   clear r f;obtain ⟨W',hW',hp4,hs4,hb4⟩:=pq0 (W:=w2) (b:=B + 2) (HR2.out);rw [hW'];clear hW';obtain ⟨g0,g1,g2,g3⟩:=cf hp4;refine bodyPost_ret (v:=.tuple #[vz,.bool false]) (by simp [vz,results,Tryz.results63,go_sem,g0,g1,g2,g3]) rfl ?_;rw [HN9.out];exact ⟨rfl,by rw [hB];exact hb4 B w HP2.out (by omega)⟩
 | true=>
   have HC:=dh (cva m A w1 _ HI1.out HE1.out true hv);go_wp2_with fail
   refine HC.out.mono ?_;rintro e w2 ⟨rfl,B2⟩;have HX2:=kp B2 HX1;have HY2:=kp B2 HY1;have HR2:=kp B2 HR1;have HI2:=dh (HI1.out.below B2);have HQ2:=dh (HQ1.out.below B2);have HE2:=dh (HE1.out.below B2);have HP2:=dh (HP1.out.trans (B2.mono (by have:=HP1.out.size;omega)));clear B2 HX1 HY1 HR1 HI1 HQ1 HE1 HP1 x0 x1 x2 x3 y0 y1 y2 y3;obtain ⟨x0,x1,x2,x3⟩:=cf HX2.out;obtain ⟨y0,y1,y2,y3⟩:=cf HY2.out;clear HC;cases hvq:It.valid q with
   | false=>
     have HC:=dh (cva q K w2 _ HQ2.out HE2.out false hvq);go_wp2_with fail
     refine HC.out.mono ?_;rintro e w3 ⟨rfl,B3⟩;have HX3:=kp B3 HX2;have HY3:=kp B3 HY2;have HR3:=kp B3 HR2;have HI3:=dh (HI2.out.below B3);have HQ3:=dh (HQ2.out.below B3);have HE3:=dh (HE2.out.below B3);have HP3:=dh (HP2.out.trans (B3.mono (by have:=HP2.out.size;omega)));clear B3 HX2 HY2 HR2 HI2 HQ2 HE2 HP2 x0 x1 x2 x3 y0 y1 y2 y3;obtain ⟨x0,x1,x2,x3⟩:=cf HX3.out;obtain ⟨y0,y1,y2,y3⟩:=cf HY3.out;clear HC;have HN9:Hid (R=.none):=dh (HRR.out.symm.trans ((if_pos ⟨HK.out,hv⟩).trans (It.look_bad (fun y hy=>It.valid_kid hv hy) hvq)));have r:=cf HR3.out;have f:=ff HR3.out;go_wp2_with fail
     clear r f;obtain ⟨W',hW',hp4,hs4,hb4⟩:=pq0 (W:=w3) (b:=B + 2) (HR3.out);rw [hW'];clear hW';obtain ⟨g0,g1,g2,g3⟩:=cf hp4;refine bodyPost_ret (v:=.tuple #[vz,.bool false]) (by simp [vz,results,Tryz.results63,go_sem,g0,g1,g2,g3]) rfl ?_;rw [HN9.out];exact ⟨rfl,by rw [hB];exact hb4 B w HP3.out (by omega)⟩
   | true=>
     have HC:=dh (cva q K w2 _ HQ2.out HE2.out true hvq);go_wp2_with fail
     refine HC.out.mono ?_;rintro e w3 ⟨rfl,B3⟩;have HX3:=kp B3 HX2;have HY3:=kp B3 HY2;have HR3:=kp B3 HR2;have HI3:=dh (HI2.out.below B3);have HQ3:=dh (HQ2.out.below B3);have HE3:=dh (HE2.out.below B3);have HP3:=dh (HP2.out.trans (B3.mono (by have:=HP2.out.size;omega)));clear B3 HX2 HY2 HR2 HI2 HQ2 HE2 HP2 x0 x1 x2 x3 y0 y1 y2 y3;obtain ⟨x0,x1,x2,x3⟩:=cf HX3.out;obtain ⟨y0,y1,y2,y3⟩:=cf HY3.out;clear HC;have hvw:=valid_wf hvq;have HC:=dh (add_new hvw.1 HQ3.out (by omega) w3 (Below.refl _ _));clear hvw;go_wp2_with fail
     refine HC.out.mono ?_;rintro e w4 h4;obtain ⟨a4,c4,rfl,_,R4,_,_,B4⟩:=h4.open;have HK4:=dh (R4.imp (ok':=fun _=>True) fun _ _ _=>trivial);have HX4:=kp B4 HX3;have HY4:=kp B4 HY3;have HR4:=kp B4 HR3;have HI4:=dh (HI3.out.below B4);have HQ4:=dh (HQ3.out.below B4);have HE4:=dh (HE3.out.below B4);have HP4:=dh (HP3.out.trans (B4.mono (by have:=HP3.out.size;omega)));clear B4 HX3 HY3 HR3 HI3 HQ3 HE3 HP3 x0 x1 x2 x3 y0 y1 y2 y3;obtain ⟨x0,x1,x2,x3⟩:=cf HX4.out;obtain ⟨y0,y1,y2,y3⟩:=cf HY4.out;clear HC R4 h4;obtain ⟨KL,hKL⟩:∃ KL,KL=(It.enc q).length:=⟨_,rfl⟩;rw [← hKL] at HK4;rw [← hKL];clear hKL;have HL:Hid (It.look m.kids q=R):=dh ((if_pos ⟨HK.out,hv⟩).symm.trans HRR.out);have HEV:=dh (It.mev hv HK.out);have HTL:=dh HI4.out.tl;have HNI:Hid (A.ni=m.kids.length):=dh HTL.out.1;have hni:=HEV.out.2;rw [← HNI.out] at hni;have HV:=dh (And.intro hv hvq);clear hv hvq HRR;go_wp2_with fail
     go_loopw [7] (fun i W=>∃ t:Nat,i=.int .i64 ((2 * t:Nat):Int)∧2 * t≤A.ni∧It.look (m.kids.drop (2 * t)) q=R∧Below w4.heap.size w4 W) (fun i _=>A.ni - (intOf i).toNat)
     case atStart=>exact ⟨0,rfl,by omega,by simpa using HL.out,Below.refl _ _⟩
     case round=>
      obtain ⟨u,hu⟩:∃ u,u=wr:=⟨_,rfl⟩;subst hu;obtain ⟨t,rfl,ht,hlk,hBl⟩:=hrel;obtain ⟨T,hT⟩:∃ T,T=2 * t:=⟨_,rfl⟩;rw [← hT] at hlk ht ⊢;have HT:=dh hT;clear hT;have hx3:u.cell? ⟨B,3,none⟩=some (.slice A.ai A.ni A.ci):=(hBl.cell (p:=⟨B,3,none⟩) (lb HX4.out)).trans x3;by_cases hTn:T < A.ni
      ·have hTm:T + 1 < m.kids.length:=by have:=HEV.out.1;have:=HNI.out;have:=HT.out;omega
       rw [It.drop_two hTm] at hlk;unfold It.look at hlk;have hT1:=(HTL.out.below hBl).2.2 T (by omega);have hT2:=(HTL.out.below hBl).2.2 (T + 1) hTm;have hvp:It.valid m.kids[T]=true:=It.valid_kid HV.out.1 (List.getElem_mem _);have hvz:It.valid m.kids[T + 1]=true:=It.valid_kid HV.out.1 (List.getElem_mem _);have hz:(T:Int) < (A.ni:Int):=by omega
       have hcm:(A.ni:Int)≤256:=by omega
       have hw1:IntKind.i64.wrap ((T:Int) + 1)=((T + 1:Nat):Int):=by rw [IntWalk.i64_in _ (by omega)];omega
       have hw2:IntKind.i64.wrap ((T:Int) + 2)=((T + 2:Nat):Int):=by rw [IntWalk.i64_in _ (by omega)];omega
       generalize m.kids[T]=p at *;generalize m.kids[T + 1]=z at *;obtain ⟨b1,o1,X,e1,_,⟨c0,c1,c2,c3⟩,hIx⟩:=hT1;obtain ⟨b2,o2,Y,e2,_,⟨d0,d1,d2,d3⟩,hIy⟩:=hT2;rw [e1] at e2;cases e2
       rw [e1] at hx3;clear e1;have hvw:=valid_wf hvp;have HC:=dh (add_new hvw.1 hIx (by omega) u (Below.refl _ _));clear hvw;have HBl:=dh hBl;have HLK:=dh hlk;have HIY:=dh hIy;have hTc:T + 1 < A.ni:=by have:=HNI.out;omega
       have hzc:((T + 1:Nat):Int) < (A.ni:Int):=by omega
       clear hBl hlk hIx hIy;go_wp2_with fail
       refine HC.out.mono ?_;rintro e w5 h5;obtain ⟨a5,c5,rfl,_,R5,_,_,B5⟩:=h5.open;have HC5:=dh (equal_any (c:=c5) (d:=c4) R5 (HK4.out.below (pt HBl.out B5)));have HSE:=dh (It.same_enc hvp HV.out.2);rw [HSE.out] at HC5;have HB5:=dh (pt HBl.out B5);have HIY5:=dh (HIY.out.below B5);have hx3':=(B5.cell (p:=⟨B,3,none⟩) (lg hx3)).trans hx3;have g0:=(B5.cell (p:=⟨b1,o1 + (T + 1) * 4,none⟩) (lg d0)).trans d0;have g1:=(B5.cell (p:=⟨b1,o1 + (T + 1) * 4 + 1,none⟩) (lg d1)).trans d1;have g2:=(B5.cell (p:=⟨b1,o1 + (T + 1) * 4 + 2,none⟩) (lg d2)).trans d2;have g3:=(B5.cell (p:=⟨b1,o1 + (T + 1) * 4 + 3,none⟩) (lg d3)).trans d3;have hss:=HLK.out;clear hx3 c0 c1 c2 c3 d0 d1 d2 d3 R5 B5 h5 HC HLK HIY HBl HSE;generalize (It.enc p).length=PL at *;go_wp2_with fail
       refine HC5.out.mono ?_;rintro e w' ⟨rfl,rfl⟩;cases hs:It.same p q with
       | true=>
         rw [if_pos hs] at hss;subst hss;have hzw:=valid_wf hvz;have HC6:=dh (cpd_any 256 z Y w5 _ hzw.2.2 (by omega) (It.st_of hzw.1 hzw.2.1) HIY5.out);clear hzw hs;go_wp2_with fail
         refine HC6.out.mono ?_;rintro e w6 ⟨Z,rfl,hI6,B6⟩;have HR6:=kp (pt HB5.out B6) HR4;have hp4:=HP4.out.size;have hp5:=HB5.out.size;have hr4:=lb HR4.out;have HP6:=dh (HP4.out.trans ((pt HB5.out B6).mono (by have:=HP4.out.size;omega)));have HI6:=dh (hI6.imp (ok':=fun b=>B + 3≤b) fun b hb _=>by omega);clear hI6 B6 g0 g1 g2 g3 hx3';have r:=cf HR6.out;have f:=ff HR6.out;go_wp2_with fail
         clear r f;obtain ⟨W',hW',hp4,hs4,hb4⟩:=p4I (W:=w6) (b:=B + 2) (HR6.out) z Z;rw [hW'];clear hW';obtain ⟨g0,g1,g2,g3⟩:=cf hp4;refine bodyPost_ret (v:=.tuple #[(v4 z Z),.bool true]) (by simp [v4,results,Tryz.results63,go_sem,g0,g1,g2,g3]) rfl ?_;exact ⟨Z,rfl,HI6.out.keep fun b hb _=>⟨hs4.2 b (by omega),by omega⟩,by rw [hB];exact hb4 B w HP6.out (by omega)⟩
       | false=>
         rw [if_neg (by rw [hs];decide)] at hss;have HSS:=dh hss;clear hs hss g0 g1 g2 g3 hx3';go_wp2_with fail
         go_roundw
         case rel=>exact ⟨t + 1,by have:=HT.out;subst this;go_num,by have:=HT.out;omega,by have:=HT.out;subst this;exact HSS.out,HB5.out⟩
         case measure=>simp [intOf];omega
      ·have hTe:m.kids.drop T=[]:=List.drop_eq_nil_of_le (by have:=HNI.out;omega)
       rw [hTe] at hlk;unfold It.look at hlk;subst hlk;have hz:¬ (T:Int) < (A.ni:Int):=by omega
       have HR6:=kp hBl HR4;have HP6:=dh (HP4.out.trans (hBl.mono (by have:=HP4.out.size;omega)));clear hBl hTe;have r:=cf HR6.out;have f:=ff HR6.out;go_wp2_with fail
       clear r f;obtain ⟨W',hW',hp4,hs4,hb4⟩:=pq0 (W:=u) (b:=B + 2) (HR6.out);rw [hW'];clear hW';obtain ⟨g0,g1,g2,g3⟩:=cf hp4;refine bodyPost_ret (v:=.tuple #[vz,.bool false]) (by simp [vz,results,Tryz.results63,go_sem,g0,g1,g2,g3]) rfl ?_;exact ⟨rfl,by rw [hB];exact hb4 B w HP6.out (by omega)⟩
