/- The reference's at. -/
import Derived.Test.YtelefkkkccilaaaGreatDoorSa
set_option linter.all false
namespace Go.Proofs.YtelefkkkccilaaaGreatDoor
open Go.RowKit
set_option maxRecDepth 100000
def AtQ (ok:Nat→Prop) (r:Option It) (w:World) (e:Ending) (w':World):Prop:=match r with
 | .none=>e=.returned (.tuple #[.agg #[.int .i64 0,.int .u64 0,.slice none 0 0,.slice none 0 0],.bool false])∧Below w.heap.size w w'
 | some z=>∃ Z:Ad,e=.returned (.tuple #[.agg #[.int .i64 z.kind,.int .u64 (z.num:Int),.slice Z.ab Z.nb Z.cb,.slice Z.ai Z.ni Z.ci],.bool true])∧IR ok w' z Z∧Below w.heap.size w w'
theorem look_short {l:List It} {q:It} (h:l.length≤1):It.look l q=.none:=by
 match l,h with
 | [],_=>unfold It.look;rfl
 | [_],_=>unfold It.look;rfl
set_option maxHeartbeats 8000000 in
theorem at_any (m q:It) (A K:Ad) (w:World) (ok ok':Nat→Prop) (hI:IR ok w m A) (hQ:IR ok' w q K) (hlen:m.kids.length≤1000):
 Calls Tryz.prog 87 #[.agg #[.int .i64 m.kind,.int .u64 (m.num:Int),.slice A.ab A.nb A.cb,.slice A.ai A.ni A.ci],.agg #[.int .i64 q.kind,.int .u64 (q.num:Int),.slice K.ab K.nb K.cb,.slice K.ai K.ni K.ci]] w (AtQ ok (It.look m.kids q) w):=by
 obtain ⟨P0,N0⟩:=an w (o4 m A);obtain ⟨P1,N1⟩:=an (w.alloc (o4 m A)) (o4 q K);obtain ⟨P2,N2⟩:=an ((w.alloc (o4 m A)).alloc (o4 q K)) o4z;have hsz0:(w.alloc (o4 m A)).heap.size=w.heap.size + 1:=by simp
 have hsz1:((w.alloc (o4 m A)).alloc (o4 q K)).heap.size=w.heap.size + 2:=by simp
 rw [hsz0] at N1;rw [hsz1] at N2;have HX1:=dh (Below.keep P2 (Below.keep P1 N0 (lb N0)) (lb (Below.keep P1 N0 (lb N0))));have HY1:=dh (Below.keep P2 N1 (lb N1));have HR1:=dh N2;have HP1:=dh (pt (pt P0 P1) P2);have HI1:=dh ((((hI.imp (ok':=fun b=>ok b∧b < w.heap.size) fun b h hb=>⟨h,hb⟩).below P0).below P1).below P2);have HQ1:=dh (((hQ.below P0).below P1).below P2);obtain ⟨x0,x1,x2,x3⟩:=cf HX1.out;have y:=cf HY1.out;clear hI hQ N0 N1 N2 P0 P1 P2 hsz0 hsz1;obtain ⟨R,hRR⟩:∃ R,It.look m.kids q=R:=⟨_,rfl⟩;rw [hRR];have HRR:=dh hRR;clear hRR;go_enter Tryz.func87,Tryz.ntmps87
 go_upto_region 1 with fail
 generalize ((w.alloc (o4 m A)).alloc (o4 q K)).alloc o4z=w1 at *;generalize hB:w.heap.size=B at *;have HTL:=dh HI1.out.tl;have HNI:Hid (A.ni=m.kids.length):=dh HTL.out.1;rw [← HNI.out] at hlen;go_wp2_with fail
 go_loopw [6] (fun i W=>∃ t:Nat,i=.int .i64 ((2 * t:Nat):Int)∧2 * t≤A.ni∧It.look (m.kids.drop (2 * t)) q=R∧Below w1.heap.size w1 W) (fun i _=>A.ni - (intOf i).toNat)
 case atStart=>exact ⟨0,rfl,by omega,by simpa using HRR.out,Below.refl _ _⟩
 case round=>
  obtain ⟨u,hu⟩:∃ u,u=wr:=⟨_,rfl⟩;subst hu;obtain ⟨t,rfl,ht,hlk,hBl⟩:=hrel;obtain ⟨T,hT⟩:∃ T,T=2 * t:=⟨_,rfl⟩;rw [← hT] at hlk ht ⊢;have HT:=dh hT;clear hT;have hx3:u.cell? ⟨B,3,none⟩=some (.slice A.ai A.ni A.ci):=(hBl.cell (p:=⟨B,3,none⟩) (lb HX1.out)).trans x3;by_cases hTn:T + 1 < A.ni
  ·have hTm:T + 1 < m.kids.length:=by have:=HNI.out;omega
   rw [It.drop_two hTm] at hlk;unfold It.look at hlk;have hT1:=(HTL.out.below hBl).2.2 T (by omega);have hT2:=(HTL.out.below hBl).2.2 (T + 1) hTm;have hz:((T + 1:Nat):Int) < (A.ni:Int):=by omega
   have hcm:(A.ni:Int)≤1000:=by omega
   have hTi:(T:Int) < (A.ni:Int):=by omega
   have hw1:IntKind.i64.wrap ((T:Int) + 1)=((T + 1:Nat):Int):=by rw [IntWalk.i64_in _ (by omega)];omega
   have hw2:IntKind.i64.wrap ((T:Int) + 2)=((T + 2:Nat):Int):=by rw [IntWalk.i64_in _ (by omega)];omega
   generalize m.kids[T]=p at *;generalize m.kids[T + 1]=z at *;obtain ⟨b1,o1,X,e1,hb1,⟨c0,c1,c2,c3⟩,hIx⟩:=hT1;obtain ⟨b2,o2,Y,e2,hb2,⟨d0,d1,d2,d3⟩,hIy⟩:=hT2;rw [e1] at e2;cases e2
   rw [e1] at hx3;clear e1;have HIX:=dh hIx;have HBl:=dh hBl;have HLK:=dh hlk;have HIY:=dh hIy;have HYu:=kp hBl HY1;have hTc:T + 1 < A.ni:=by have:=HNI.out;omega
   have hzc:((T + 1:Nat):Int) < (A.ni:Int):=by omega
   have HS:Hid (∀ W,Below u.heap.size u W→W.cell? ⟨B,3,none⟩=some (.slice (some ⟨b1,o1,none⟩) A.ni A.ci)∧(W.cell? ⟨b1,o1 + T * 4,none⟩=some (.int .i64 p.kind)∧W.cell? ⟨b1,o1 + T * 4 + 1,none⟩=some (.int .u64 (p.num:Int))∧W.cell? ⟨b1,o1 + T * 4 + 2,none⟩=some (.slice X.ab X.nb X.cb)∧W.cell? ⟨b1,o1 + T * 4 + 3,none⟩=some (.slice X.ai X.ni X.ci))∧(W.cell? ⟨B + 1,0,none⟩=some (.int .i64 q.kind)∧W.cell? ⟨B + 1,1,none⟩=some (.int .u64 (q.num:Int))∧W.cell? ⟨B + 1,2,none⟩=some (.slice K.ab K.nb K.cb)∧W.cell? ⟨B + 1,3,none⟩=some (.slice K.ai K.ni K.ci))):=dh fun W hW=>
    ⟨(hW.cell (p:=⟨B,3,none⟩) (lg hx3)).trans hx3,⟨(hW.cell (p:=⟨b1,o1 + T * 4,none⟩) (lg c0)).trans c0,(hW.cell (p:=⟨b1,o1 + T * 4 + 1,none⟩) (lg c1)).trans c1,(hW.cell (p:=⟨b1,o1 + T * 4 + 2,none⟩) (lg c2)).trans c2,(hW.cell (p:=⟨b1,o1 + T * 4 + 3,none⟩) (lg c3)).trans c3⟩,ck hW HYu⟩
   have HD:Hid (∀ W,Below u.heap.size u W→W.cell? ⟨B,3,none⟩=some (.slice (some ⟨b1,o1,none⟩) A.ni A.ci)∧(W.cell? ⟨b1,o1 + (T + 1) * 4,none⟩=some (.int .i64 z.kind)∧W.cell? ⟨b1,o1 + (T + 1) * 4 + 1,none⟩=some (.int .u64 (z.num:Int))∧W.cell? ⟨b1,o1 + (T + 1) * 4 + 2,none⟩=some (.slice Y.ab Y.nb Y.cb)∧W.cell? ⟨b1,o1 + (T + 1) * 4 + 3,none⟩=some (.slice Y.ai Y.ni Y.ci))):=dh fun W hW=>
    ⟨(hW.cell (p:=⟨B,3,none⟩) (lg hx3)).trans hx3,(hW.cell (p:=⟨b1,o1 + (T + 1) * 4,none⟩) (lg d0)).trans d0,(hW.cell (p:=⟨b1,o1 + (T + 1) * 4 + 1,none⟩) (lg d1)).trans d1,(hW.cell (p:=⟨b1,o1 + (T + 1) * 4 + 2,none⟩) (lg d2)).trans d2,(hW.cell (p:=⟨b1,o1 + (T + 1) * 4 + 3,none⟩) (lg d3)).trans d3⟩
   clear hBl hlk hIx hIy d0 d1 d2 d3;go_upto_region 6 with fail
   clear c0 c1 c2 c3 hx3;refine wp_region_held_drew (S:=(fun w'=>w'.cell? ⟨B,3,none⟩=some (.slice (some ⟨b1,o1,none⟩) A.ni A.ci)∧(w'.cell? ⟨b1,o1 + T * 4,none⟩=some (.int .i64 p.kind)∧w'.cell? ⟨b1,o1 + T * 4 + 1,none⟩=some (.int .u64 (p.num:Int))∧w'.cell? ⟨b1,o1 + T * 4 + 2,none⟩=some (.slice X.ab X.nb X.cb)∧w'.cell? ⟨b1,o1 + T * 4 + 3,none⟩=some (.slice X.ai X.ni X.ci))∧(w'.cell? ⟨B + 1,0,none⟩=some (.int .i64 q.kind)∧w'.cell? ⟨B + 1,1,none⟩=some (.int .u64 (q.num:Int))∧w'.cell? ⟨B + 1,2,none⟩=some (.slice K.ab K.nb K.cb)∧w'.cell? ⟨B + 1,3,none⟩=some (.slice K.ai K.ni K.ci)))) (by kernel_rfl) (HS.out _ (Below.refl _ _).drew) (fun hHeld=>?_);refine tk 0 rfl hHeld ?_;simp only [Act.put,sx]
   refine tk 1 rfl hHeld ?_;simp only [Act.put,sx]
   refine tk 2 rfl hHeld ?_;simp only [Act.put,sx]
   refine tk 3 rfl hHeld ?_;simp only [Act.put,sx]
   refine tk 4 rfl hHeld ?_;simp only [Act.put,sx]
   refine tk 5 rfl hHeld ?_;simp only [Act.put,sx]
   refine ry 6 (by kernel_rfl) rfl fun K1 hK1=>?_
   go_simp
   refine (same_any p q X K _ _ _ (HIX.out.below (bd (Below.refl _ _) 1)) ((HQ1.out.below HBl.out).below (bd (Below.refl _ _) 1))).mono ?_;rintro e w5 ⟨rfl,B5⟩;have HBu:=dh (pt (bd (Below.refl u.heap.size u) 1) B5);refine hK1.out _ _ (HS.out _ HBu.out) (fun hHeld=>?_);clear hK1 B5
   try simp only [Act.put,sx]
   refine wpAnyH_done (by kernel_rfl) ?_ _
   try simp only [Act.put,sx]
   have HB5:=dh (pt HBl.out HBu.out);have HIY5:=dh (HIY.out.below HBu.out);obtain ⟨hx3',g0,g1,g2,g3⟩:=HD.out _ HBu.out;have hss:=HLK.out;clear hHeld HS HD HBu HIY HLK HBl HIX;cases hs:It.same p q with
   | true=>
     rw [if_pos hs] at hss;subst hss;have HR6:=kp HB5.out HR1;have hp4:=HP1.out.size;have hp5:=HB5.out.size;have hr4:=lb HR1.out;have HP6:=dh (HP1.out.trans (HB5.out.mono (by have:=HP1.out.size;omega)));have HI6:=dh HIY5.out;clear hs;have r:=cf HR6.out;have f:=ff HR6.out;go_wp2_with fail
     clear r f;obtain ⟨W',hW',hp4,hs4,hb4⟩:=p4I (W:=w5) (b:=B + 2) (HR6.out) z Y;rw [hW'];clear hW';obtain ⟨g0,g1,g2,g3⟩:=cf hp4;refine bodyPost_ret (v:=.tuple #[(v4 z Y),.bool true]) (by simp [v4,results,Tryz.results87,go_sem,g0,g1,g2,g3]) rfl ?_;exact ⟨Y,rfl,HI6.out.keep fun b hb _=>⟨hs4.2 b (by have:=hb.2;omega),hb.1⟩,by rw [hB];exact hb4 B w HP6.out (by omega)⟩
   | false=>
     rw [if_neg (by rw [hs];decide)] at hss;have HSS:=dh hss;clear hs hss g0 g1 g2 g3 hx3';go_wp2_with fail
     go_roundw
     case rel=>exact ⟨t + 1,by have:=HT.out;subst this;go_num,by have:=HT.out;omega,by have:=HT.out;subst this;exact HSS.out,HB5.out⟩
     case measure=>simp [intOf];omega
  ·have hTe:It.look (m.kids.drop T) q=.none:=look_short (by have:=HNI.out;rw [List.length_drop];omega)
   rw [hTe] at hlk;subst hlk;have hw1:IntKind.i64.wrap ((T:Int) + 1)=((T + 1:Nat):Int):=by rw [IntWalk.i64_in _ (by omega)];omega
   have hz:¬ ((T + 1:Nat):Int) < (A.ni:Int):=by omega
   have HR6:=kp hBl HR1;have HP6:=dh (HP1.out.trans (hBl.mono (by have:=HP1.out.size;omega)));clear hBl hTe;have r:=cf HR6.out;have f:=ff HR6.out;go_wp2_with fail
   clear r f;obtain ⟨W',hW',hp4,hs4,hb4⟩:=pq0 (W:=u) (b:=B + 2) (HR6.out);rw [hW'];clear hW';obtain ⟨g0,g1,g2,g3⟩:=cf hp4;refine bodyPost_ret (v:=.tuple #[vz,.bool false]) (by simp [vz,results,Tryz.results87,go_sem,g0,g1,g2,g3]) rfl ?_;exact ⟨rfl,by rw [hB];exact hb4 B w HP6.out (by omega)⟩
