/- Headers: small functions of the program and of the reference. -/
import Derived.Test.YtelefkkkccilaaaGreatDoorKD
set_option maxHeartbeats 8000000
set_option linter.all false
namespace Go.Proofs.YtelefkkkccilaaaGreatDoor
open Go.RowKit
set_option maxRecDepth 100000
theorem ce {w:World} {b:Nat} {x0 x1 x2 x3 x4 x5 x6 x7:Value} {T:Nat} (h:w.heap[b]?=some (.cells #[x0,x1,x2,x3,x4,x5,x6,x7] T (0,0))):w.cell? ⟨b,0,none⟩=some x0∧w.cell? ⟨b,1,none⟩=some x1∧w.cell? ⟨b,2,none⟩=some x2∧w.cell? ⟨b,3,none⟩=some x3∧w.cell? ⟨b,4,none⟩=some x4∧w.cell? ⟨b,5,none⟩=some x5∧w.cell? ⟨b,6,none⟩=some x6∧w.cell? ⟨b,7,none⟩=some x7:=by simp [World.cell?,h]
theorem ck8 {w w':World} {b:Nat} {x0 x1 x2 x3 x4 x5 x6 x7:Value} {T:Nat} (k:Below w.heap.size w w') (H:Hid (w.heap[b]?=some (.cells #[x0,x1,x2,x3,x4,x5,x6,x7] T (0,0)))):w'.cell? ⟨b,0,none⟩=some x0∧w'.cell? ⟨b,1,none⟩=some x1∧w'.cell? ⟨b,2,none⟩=some x2∧w'.cell? ⟨b,3,none⟩=some x3∧w'.cell? ⟨b,4,none⟩=some x4∧w'.cell? ⟨b,5,none⟩=some x5∧w'.cell? ⟨b,6,none⟩=some x6∧w'.cell? ⟨b,7,none⟩=some x7:=ce (kp k H).out
theorem fe8 {w:World} {b:Nat} {x0 x1 x2 x3 x4 x5 x6 x7:Value} {T:Nat} (h:w.heap[b]?=some (.cells #[x0,x1,x2,x3,x4,x5,x6,x7] T (0,0))):w.frozen? ⟨b,0,none⟩=false∧w.frozen? ⟨b,1,none⟩=false∧w.frozen? ⟨b,2,none⟩=false∧w.frozen? ⟨b,3,none⟩=false∧w.frozen? ⟨b,4,none⟩=false∧w.frozen? ⟨b,5,none⟩=false∧w.frozen? ⟨b,6,none⟩=false∧w.frozen? ⟨b,7,none⟩=false:=by simp [World.frozen?,h]
theorem pe8 {W:World} {b:Nat} {x0 x1 x2 x3 x4 x5 x6 x7:Value} {T:Nat} (h:W.heap[b]?=some (.cells #[x0,x1,x2,x3,x4,x5,x6,x7] T (0,0))) (y0 y1 y2 y3 y4 y5 y6 y7:Value):∃ W',(((((((W.setCell ⟨b,0,none⟩ y0).setCell ⟨b,1,none⟩ y1).setCell ⟨b,2,none⟩ y2).setCell ⟨b,3,none⟩ y3).setCell ⟨b,4,none⟩ y4).setCell ⟨b,5,none⟩ y5).setCell ⟨b,6,none⟩ y6).setCell ⟨b,7,none⟩ y7=W'∧W'.heap[b]?=some (.cells #[y0,y1,y2,y3,y4,y5,y6,y7] T (0,0))∧(W'.heap.size=W.heap.size∧∀ k,k≠b→W'.heap[k]?=W.heap[k]?)∧∀ (n:Nat) (u:World),Below n u W→n≤b→Below n u W':=by
 refine ⟨_,rfl,?_,⟨by simp [World.setCell],fun k hk=>?_⟩,fun n u hu hb=>?_⟩
 ·have h0:=sar h 0 y0
  have h1:=sar h0 1 y1;have h2:=sar h1 2 y2;have h3:=sar h2 3 y3;have h4:=sar h3 4 y4;have h5:=sar h4 5 y5;have h6:=sar h5 6 y6;have h7:=sar h6 7 y7;rw [h7];simp
 ·have h:k≠b:=hk
  rw [Below.heap_setCell _ _ _ _ h,Below.heap_setCell _ _ _ _ h,Below.heap_setCell _ _ _ _ h,Below.heap_setCell _ _ _ _ h,Below.heap_setCell _ _ _ _ h,Below.heap_setCell _ _ _ _ h,Below.heap_setCell _ _ _ _ h,Below.heap_setCell _ _ _ _ h]
 ·exact (((((((hu.setCell (p:=⟨b,0,none⟩) hb y0).setCell (p:=⟨b,1,none⟩) hb y1).setCell (p:=⟨b,2,none⟩) hb y2).setCell (p:=⟨b,3,none⟩) hb y3).setCell (p:=⟨b,4,none⟩) hb y4).setCell (p:=⟨b,5,none⟩) hb y5).setCell (p:=⟨b,6,none⟩) hb y6).setCell (p:=⟨b,7,none⟩) hb y7
theorem p8I {W:World} {b:Nat} {x0 x1 x2 x3 x4 x5 x6 x7:Value} {T:Nat} (h:W.heap[b]?=some (.cells #[x0,x1,x2,x3,x4,x5,x6,x7] T (0,0))) (p u:It) (A C:Ad):∃ W',((((((((W.setCell ⟨b,0,none⟩ (.int .i64 p.kind)).setCell ⟨b,1,none⟩ (.int .u64 (p.num:Int))).setCell ⟨b,2,none⟩ (.slice A.ab A.nb A.cb)).setCell ⟨b,3,none⟩ (.slice A.ai A.ni A.ci)).setCell ⟨b,4,none⟩ (.int .i64 u.kind)).setCell ⟨b,5,none⟩ (.int .u64 (u.num:Int))).setCell ⟨b,6,none⟩ (.slice C.ab C.nb C.cb)).setCell ⟨b,7,none⟩ (.slice C.ai C.ni C.ci))=W'∧W'.heap[b]?=some (.cells #[.int .i64 p.kind,.int .u64 (p.num:Int),.slice A.ab A.nb A.cb,.slice A.ai A.ni A.ci,.int .i64 u.kind,.int .u64 (u.num:Int),.slice C.ab C.nb C.cb,.slice C.ai C.ni C.ci] T (0,0))∧(W'.heap.size=W.heap.size∧∀ k,k≠b→W'.heap[k]?=W.heap[k]?)∧∀ (n:Nat) (u:World),Below n u W→n≤b→Below n u W':=pe8 h _ _ _ _ _ _ _ _
theorem int_it (n:Int):intIt n=It.int n:=rfl
theorem hempty_any (w:World):Calls Tryz.prog 23 #[] w fun e w'=>e=.returned (.agg #[.int .i64 5,.int .u64 0,.slice none 0 0,.slice none 0 0,.int .i64 5,.int .u64 0,.slice none 0 0,.slice none 0 0])∧Below w.heap.size w w':=by
 have P0:=al w o8z;have HN:=dh (aw w o8z);have HP:=dh P0;clear P0;go_enter Tryz.func23,Tryz.ntmps23
 go_upto_region 1 with fail
 generalize w.alloc _=w1 at *;generalize hB:w.heap.size=B at *;have r:=ce HN.out;have q:=fe8 HN.out;go_wp2_with fail
 clear r q;obtain ⟨W',hW',hp8,hs8,hb8⟩:=pe8 HN.out (.int .i64 5) (.int .u64 0) (.slice none 0 0) (.slice none 0 0) (.int .i64 5) (.int .u64 0) (.slice none 0 0) (.slice none 0 0);rw [hW'];clear hW';obtain ⟨g0,g1,g2,g3,g4,g5,g6,g7⟩:=ce hp8;refine bodyPost_ret (v:=.agg #[.int .i64 5,.int .u64 0,.slice none 0 0,.slice none 0 0,.int .i64 5,.int .u64 0,.slice none 0 0,.slice none 0 0]) (by simp [results,Tryz.results23,go_sem,g0,g1,g2,g3,g4,g5,g6,g7]) rfl ?_;exact ⟨rfl,by rw [hB];exact hb8 B w HP.out (by omega)⟩
theorem remty_any (w:World):Calls Tryz.prog 24 #[] w fun e w'=>e=.returned (.agg #[.int .i64 5,.int .u64 0,.slice none 0 0,.slice none 0 0,.int .i64 5,.int .u64 0,.slice none 0 0,.slice none 0 0])∧Below w.heap.size w w':=by
 have P0:=al w o8z;have HN:=dh (aw w o8z);have HP:=dh P0;clear P0;go_enter Tryz.func24,Tryz.ntmps24
 go_upto_region 1 with fail
 generalize w.alloc _=w1 at *;generalize hB:w.heap.size=B at *;have r:=ce HN.out;have q:=fe8 HN.out;go_wp2_with fail
 clear r q;obtain ⟨W',hW',hp8,hs8,hb8⟩:=pe8 HN.out (.int .i64 5) (.int .u64 0) (.slice none 0 0) (.slice none 0 0) (.int .i64 5) (.int .u64 0) (.slice none 0 0) (.slice none 0 0);rw [hW'];clear hW';obtain ⟨g0,g1,g2,g3,g4,g5,g6,g7⟩:=ce hp8;refine bodyPost_ret (v:=.agg #[.int .i64 5,.int .u64 0,.slice none 0 0,.slice none 0 0,.int .i64 5,.int .u64 0,.slice none 0 0,.slice none 0 0]) (by simp [results,Tryz.results24,go_sem,g0,g1,g2,g3,g4,g5,g6,g7]) rfl ?_;exact ⟨rfl,by rw [hB];exact hb8 B w HP.out (by omega)⟩
theorem numb_any (x:It) (A:Ad) (w:World):Calls Tryz.prog 118 #[.agg #[.int .i64 x.kind,.int .u64 (x.num:Int),.slice A.ab A.nb A.cb,.slice A.ai A.ni A.ci]] w (VP (It.numb x) w):=by
 obtain ⟨k,hk⟩:∃ k,x.kind=k:=⟨_,rfl⟩;obtain ⟨n,hn⟩:∃ n:Int,(x.num:Int)=n:=⟨_,rfl⟩;obtain ⟨P0,N0⟩:=an w (oc k n A.ab A.nb A.cb A.ai A.ni A.ci);obtain ⟨x0,x1,x2,x3⟩:=cf N0;have hR:It.numb x=((k==0 || k==1) && decide (n≤65535)):=by
  rw [← hk,← hn];unfold It.numb;rw [Bool.eq_iff_iff];simp only [Bool.and_eq_true,Bool.or_eq_true,decide_eq_true_eq,beq_iff_eq];omega
 rw [hR,hk,hn];have HP:=dh P0;clear P0 N0 hR hk hn;go_enter Tryz.func118,Tryz.ntmps118
 go_upto_region 1 with fail
 generalize w.alloc _=w1 at *;obtain ⟨b0,hb0⟩:∃ b,(k==0)=b:=⟨_,rfl⟩;obtain ⟨b1,hb1⟩:∃ b,(k==1)=b:=⟨_,rfl⟩;obtain ⟨b2,hb2⟩:∃ b,(k==3)=b:=⟨_,rfl⟩;obtain ⟨b3,hb3⟩:∃ b,decide (n≤65535)=b:=⟨_,rfl⟩;cases b0 <;> cases b1 <;> cases b3 <;> (go_wp2_with fail;go_ret;exact ⟨by simp only [hb0,hb1,hb2,hb3];rfl,HP.out⟩)
theorem labr_any (x:It) (A:Ad) (w:World):Calls Tryz.prog 85 #[.agg #[.int .i64 x.kind,.int .u64 (x.num:Int),.slice A.ab A.nb A.cb,.slice A.ai A.ni A.ci]] w (VP (It.labR x) w):=by
 obtain ⟨k,hk⟩:∃ k,x.kind=k:=⟨_,rfl⟩;obtain ⟨n,hn⟩:∃ n:Int,(x.num:Int)=n:=⟨_,rfl⟩;obtain ⟨P0,N0⟩:=an w (oc k n A.ab A.nb A.cb A.ai A.ni A.ci);obtain ⟨x0,x1,x2,x3⟩:=cf N0;have hR:It.labR x=(k==3 || (k==0 || k==1) && decide (n≤65535)):=by
  rw [← hk,← hn];unfold It.labR It.numb;rw [Bool.eq_iff_iff];simp only [Bool.and_eq_true,Bool.or_eq_true,decide_eq_true_eq,beq_iff_eq];omega
 rw [hR,hk,hn];have HP:=dh P0;clear P0 N0 hR hk hn;go_enter Tryz.func85,Tryz.ntmps85
 go_upto_region 1 with fail
 generalize w.alloc _=w1 at *;obtain ⟨b0,hb0⟩:∃ b,(k==0)=b:=⟨_,rfl⟩;obtain ⟨b1,hb1⟩:∃ b,(k==1)=b:=⟨_,rfl⟩;obtain ⟨b2,hb2⟩:∃ b,(k==3)=b:=⟨_,rfl⟩;obtain ⟨b3,hb3⟩:∃ b,decide (n≤65535)=b:=⟨_,rfl⟩;cases b0 <;> cases b1 <;> cases b3 <;> cases b2 <;> (go_wp2_with fail;go_ret;exact ⟨by simp only [hb0,hb1,hb2,hb3];rfl,HP.out⟩)
def AtQ (ok:Nat→Prop) (r:Option It) (w:World) (e:Ending) (w':World):Prop:=match r with
 | .none=>e=.returned (.tuple #[.agg #[.int .i64 0,.int .u64 0,.slice none 0 0,.slice none 0 0],.bool false])∧Below w.heap.size w w'
 | some z=>∃ Z:Ad,e=.returned (.tuple #[.agg #[.int .i64 z.kind,.int .u64 (z.num:Int),.slice Z.ab Z.nb Z.cb,.slice Z.ai Z.ni Z.ci],.bool true])∧IR ok w' z Z∧Below w.heap.size w w'
theorem look_short {l:List It} {q:It} (h:l.length≤1):It.look l q=.none:=by
 match l,h with
 | [],_=>unfold It.look;rfl
 | [_],_=>unfold It.look;rfl
theorem at_any (m q:It) (A K:Ad) (w:World) (ok ok':Nat→Prop) (hI:IR ok w m A) (hQ:IR ok' w q K) (hlen:m.kids.length≤1000):
 Calls Tryz.prog 87 #[.agg #[.int .i64 m.kind,.int .u64 (m.num:Int),.slice A.ab A.nb A.cb,.slice A.ai A.ni A.ci],.agg #[.int .i64 q.kind,.int .u64 (q.num:Int),.slice K.ab K.nb K.cb,.slice K.ai K.ni K.ci]] w (AtQ ok (It.look m.kids q) w):=by
 obtain ⟨P0,N0⟩:=an w (o4 m A);obtain ⟨P1,N1⟩:=an (w.alloc (o4 m A)) (o4 q K);obtain ⟨P2,N2⟩:=an ((w.alloc (o4 m A)).alloc (o4 q K)) o4z;have hsz0:(w.alloc (o4 m A)).heap.size=w.heap.size + 1:=by simp
 have hsz1:((w.alloc (o4 m A)).alloc (o4 q K)).heap.size=w.heap.size + 2:=by simp
 rw [hsz0] at N1;rw [hsz1] at N2;have HX1:=dh (bkp P2 (bkp P1 N0 (lb N0)) (lb (bkp P1 N0 (lb N0))));have HY1:=dh (bkp P2 N1 (lb N1));have HR1:=dh N2;have HP1:=dh (pt (pt P0 P1) P2);have HI1:=dh ((((hI.imp (ok':=fun b=>ok b∧b < w.heap.size) fun b h hb=>⟨h,hb⟩).below P0).below P1).below P2);have HQ1:=dh (((hQ.below P0).below P1).below P2);obtain ⟨x0,x1,x2,x3⟩:=cf HX1.out;have y:=cf HY1.out;clear hI hQ N0 N1 N2 P0 P1 P2 hsz0 hsz1;obtain ⟨R,hRR⟩:∃ R,It.look m.kids q=R:=⟨_,rfl⟩;rw [hRR];have HRR:=dh hRR;clear hRR;go_enter Tryz.func87,Tryz.ntmps87
 go_upto_region 1 with fail
 generalize ((w.alloc (o4 m A)).alloc (o4 q K)).alloc o4z=w1 at *;generalize hB:w.heap.size=B at *;have HTL:=dh HI1.out.tl;have HNI:Hid (A.ni=m.kids.length):=dh HTL.out.1;rw [← HNI.out] at hlen;go_wp2_with fail
 go_loopw [6] (fun i W=>∃ t:Nat,i=.int .i64 ((2 * t:Nat):Int)∧2 * t≤A.ni∧It.look (m.kids.drop (2 * t)) q=R∧Below w1.heap.size w1 W) (fun i _=>A.ni - (intOf i).toNat)
 case atStart=>exact ⟨0,rfl,by omega,by simpa using HRR.out,Below.refl _ _⟩
 case round=>
  obtain ⟨u,hu⟩:∃ u,u=wr:=⟨_,rfl⟩;subst hu;obtain ⟨t,rfl,ht,hlk,hBl⟩:=hrel;obtain ⟨T,hT⟩:∃ T,T=2 * t:=⟨_,rfl⟩;rw [← hT] at hlk ht ⊢;have HT:=dh hT;clear hT;have hx3:u.cell? ⟨B,3,none⟩=some (.slice A.ai A.ni A.ci):=(hBl.cell (p:=⟨B,3,none⟩) (lb HX1.out)).trans x3;by_cases hTn:T + 1 < A.ni
  ·have hTm:T + 1 < m.kids.length:=by have:=HNI.out;omega
   rw [It.drop_two hTm] at hlk;unfold It.look at hlk;have hT1:=(HTL.out.below hBl).2.2 T (by omega);have hT2:=(HTL.out.below hBl).2.2 (T + 1) hTm;have hz:((T + 1:Nat):Int) < (A.ni:Int):=by omega
   have hcm:(A.ni:Int)≤1000:=by omega
   have hTi:(T:Int) < (A.ni:Int):=by omega
   have hw1:IntKind.i64.wrap ((T:Int) + 1)=((T + 1:Nat):Int):=by rw [IntWalk.i64_in _ (by omega)];omega
   have hw2:IntKind.i64.wrap ((T:Int) + 2)=((T + 2:Nat):Int):=by rw [IntWalk.i64_in _ (by omega)];omega
   generalize m.kids[T]=p at *;generalize m.kids[T + 1]=z at *;obtain ⟨b1,o1,X,e1,hb1,⟨c0,c1,c2,c3⟩,hIx⟩:=hT1;obtain ⟨b2,o2,Y,e2,hb2,⟨d0,d1,d2,d3⟩,hIy⟩:=hT2;rw [e1] at e2;cases e2
   rw [e1] at hx3;clear e1;have HIX:=dh hIx;have HBl:=dh hBl;have HLK:=dh hlk;have HIY:=dh hIy;have HYu:=kp hBl HY1;have hTc:T + 1 < A.ni:=by have:=HNI.out;omega
   have hzc:((T + 1:Nat):Int) < (A.ni:Int):=by omega
   have HS:Hid (∀ W,Below u.heap.size u W→W.cell? ⟨B,3,none⟩=some (.slice (some ⟨b1,o1,none⟩) A.ni A.ci)∧(W.cell? ⟨b1,o1 + T * 4,none⟩=some (.int .i64 p.kind)∧W.cell? ⟨b1,o1 + T * 4 + 1,none⟩=some (.int .u64 (p.num:Int))∧W.cell? ⟨b1,o1 + T * 4 + 2,none⟩=some (.slice X.ab X.nb X.cb)∧W.cell? ⟨b1,o1 + T * 4 + 3,none⟩=some (.slice X.ai X.ni X.ci))∧(W.cell? ⟨B + 1,0,none⟩=some (.int .i64 q.kind)∧W.cell? ⟨B + 1,1,none⟩=some (.int .u64 (q.num:Int))∧W.cell? ⟨B + 1,2,none⟩=some (.slice K.ab K.nb K.cb)∧W.cell? ⟨B + 1,3,none⟩=some (.slice K.ai K.ni K.ci))):=dh fun W hW=>
    ⟨(hW.cell (p:=⟨B,3,none⟩) (lg hx3)).trans hx3,⟨(hW.cell (p:=⟨b1,o1 + T * 4,none⟩) (lg c0)).trans c0,(hW.cell (p:=⟨b1,o1 + T * 4 + 1,none⟩) (lg c1)).trans c1,(hW.cell (p:=⟨b1,o1 + T * 4 + 2,none⟩) (lg c2)).trans c2,(hW.cell (p:=⟨b1,o1 + T * 4 + 3,none⟩) (lg c3)).trans c3⟩,ck hW HYu⟩
   have HD:Hid (∀ W,Below u.heap.size u W→W.cell? ⟨B,3,none⟩=some (.slice (some ⟨b1,o1,none⟩) A.ni A.ci)∧(W.cell? ⟨b1,o1 + (T + 1) * 4,none⟩=some (.int .i64 z.kind)∧W.cell? ⟨b1,o1 + (T + 1) * 4 + 1,none⟩=some (.int .u64 (z.num:Int))∧W.cell? ⟨b1,o1 + (T + 1) * 4 + 2,none⟩=some (.slice Y.ab Y.nb Y.cb)∧W.cell? ⟨b1,o1 + (T + 1) * 4 + 3,none⟩=some (.slice Y.ai Y.ni Y.ci))):=dh fun W hW=>
    ⟨(hW.cell (p:=⟨B,3,none⟩) (lg hx3)).trans hx3,(hW.cell (p:=⟨b1,o1 + (T + 1) * 4,none⟩) (lg d0)).trans d0,(hW.cell (p:=⟨b1,o1 + (T + 1) * 4 + 1,none⟩) (lg d1)).trans d1,(hW.cell (p:=⟨b1,o1 + (T + 1) * 4 + 2,none⟩) (lg d2)).trans d2,(hW.cell (p:=⟨b1,o1 + (T + 1) * 4 + 3,none⟩) (lg d3)).trans d3⟩
   clear hBl hlk hIx hIy d0 d1 d2 d3;go_upto_region 6 with fail
   clear c0 c1 c2 c3 hx3;refine wp_region_held_drew (S:=(fun w'=>w'.cell? ⟨B,3,none⟩=some (.slice (some ⟨b1,o1,none⟩) A.ni A.ci)∧(w'.cell? ⟨b1,o1 + T * 4,none⟩=some (.int .i64 p.kind)∧w'.cell? ⟨b1,o1 + T * 4 + 1,none⟩=some (.int .u64 (p.num:Int))∧w'.cell? ⟨b1,o1 + T * 4 + 2,none⟩=some (.slice X.ab X.nb X.cb)∧w'.cell? ⟨b1,o1 + T * 4 + 3,none⟩=some (.slice X.ai X.ni X.ci))∧(w'.cell? ⟨B + 1,0,none⟩=some (.int .i64 q.kind)∧w'.cell? ⟨B + 1,1,none⟩=some (.int .u64 (q.num:Int))∧w'.cell? ⟨B + 1,2,none⟩=some (.slice K.ab K.nb K.cb)∧w'.cell? ⟨B + 1,3,none⟩=some (.slice K.ai K.ni K.ci)))) (by kernel_rfl) (HS.out _ (Below.refl _ _).drew) (fun hHeld=>?_);refine tk 0 rfl hHeld ?_;simp only [Act.put,sx]
   refine tk 1 rfl hHeld ?_;simp only [Act.put,sx]
   refine tk 2 rfl hHeld ?_;simp only [Act.put,sx]
   refine tk 3 rfl hHeld ?_;simp only [Act.put,sx]
   refine tk 4 rfl hHeld ?_;simp only [Act.put,sx]
   refine tk 5 rfl hHeld ?_;simp only [Act.put,sx]
   refine ry 6 (by kernel_rfl) rfl fun K1 hK1=>?_
   go_simp
   refine (same_any p q X K _ _ _ (HIX.out.below (bd (Below.refl _ _) 1)) ((HQ1.out.below HBl.out).below (bd (Below.refl _ _) 1))).mono ?_;rintro e w5 ⟨rfl,B5⟩;have HBu:=dh (pt (bd (Below.refl u.heap.size u) 1) B5);refine hK1.out _ _ (HS.out _ HBu.out) (fun hHeld=>?_);clear hK1 B5
   try simp only [sz]
   refine wpAnyH_done (by kernel_rfl) ?_ _
   try simp only [sz]
   have HB5:=dh (pt HBl.out HBu.out);have HIY5:=dh (HIY.out.below HBu.out);obtain ⟨hx3',g0,g1,g2,g3⟩:=HD.out _ HBu.out;have hss:=HLK.out;clear hHeld HS HD HBu HIY HLK HBl HIX;cases hs:It.same p q with
   | true=>
     rw [if_pos hs] at hss;subst hss;have HR6:=kp HB5.out HR1;have hp4:=HP1.out.size;have hp5:=HB5.out.size;have hr4:=lb HR1.out;have HP6:=dh (HP1.out.trans (HB5.out.mono (by have:=HP1.out.size;omega)));have HI6:=dh HIY5.out;clear hs;have r:=cf HR6.out;have f:=ff HR6.out;go_wp2_with fail
     clear r f;obtain ⟨W',hW',hp4,hs4,hb4⟩:=p4I (W:=w5) (b:=B + 2) (HR6.out) z Y;rw [hW'];clear hW';obtain ⟨g0,g1,g2,g3⟩:=cf hp4;refine bodyPost_ret (v:=.tuple #[(v4 z Y),.bool true]) (by simp [v4,results,Tryz.results87,go_sem,g0,g1,g2,g3]) rfl ?_;exact ⟨Y,rfl,HI6.out.keep fun b hb _=>⟨hs4.2 b (by have:=hb.2;omega),hb.1⟩,by rw [hB];exact hb4 B w HP6.out (by omega)⟩
   | false=>
     rw [if_neg (by rw [hs];decide)] at hss;have HSS:=dh hss;clear hs hss g0 g1 g2 g3 hx3';go_wp2_with fail
     go_roundw
     case rel=>exact ⟨t + 1,by have:=HT.out;subst this;go_num,by have:=HT.out;omega,by have:=HT.out;subst this;exact HSS.out,HB5.out⟩
     case measure=>simp [intOf];omega
  ·have hTe:It.look (m.kids.drop T) q=.none:=look_short (by have:=HNI.out;rw [List.length_drop];omega)
   rw [hTe] at hlk;subst hlk;have hw1:IntKind.i64.wrap ((T:Int) + 1)=((T + 1:Nat):Int):=by rw [IntWalk.i64_in _ (by omega)];omega
   have hz:¬ ((T + 1:Nat):Int) < (A.ni:Int):=by omega
   have HR6:=kp hBl HR1;have HP6:=dh (HP1.out.trans (hBl.mono (by have:=HP1.out.size;omega)));clear hBl hTe;have r:=cf HR6.out;have f:=ff HR6.out;go_wp2_with fail
   clear r f;obtain ⟨W',hW',hp4,hs4,hb4⟩:=pq0 (W:=u) (b:=B + 2) (HR6.out);rw [hW'];clear hW';obtain ⟨g0,g1,g2,g3⟩:=cf hp4;refine bodyPost_ret (v:=.tuple #[vz,.bool false]) (by simp [vz,results,Tryz.results87,go_sem,g0,g1,g2,g3]) rfl ?_;exact ⟨rfl,by rw [hB];exact hb4 B w HP6.out (by omega)⟩
def RB' (w w':World):Prop:=Below w.heap.size w w'
theorem RB'.refl (w:World):RB' w w:=Below.refl _ _
theorem RB'.trans (u v w:World) (h:RB' u v) (k:RB' v w):RB' u w:=pt h k
theorem RB'.drew (w:World):RB' w w.drew:=(Below.refl _ _).drew
namespace It
def opt (r:Option It):It:=r.getD (mk 0 0 [] [])
def MR.item:MR→It | .err _=>mk 0 0 [] [] | .ok x=>x
def MR.code:MR→Nat | .err e=>e | .ok _=>0
def PH.fst:PH→It | .err _=>mk 0 0 [] [] | .ok p _=>p
def PH.snd:PH→It | .err _=>mk 0 0 [] [] | .ok _ u=>u
def PH.code:PH→Nat | .err e=>e | .ok _ _=>0
end It
inductive Fh where
 | eq (v:Value)
 | it (x:It)
 | op (r:Option It)
 | mr (r:It.MR)
 | hd (p u:It)
 | hr (r:It.PH)
 | bk (n:Nat) (o:Obj)
 | row (l:List It)
 | own (N:Nat) (l:List It)
 | rw (N:Nat) (l:List It)
 | bt (l:List UInt8)
 | rok (l:List It)
 | num (n:Int)
 | bl
 | hx (P:It.PH→Prop)
 | ix (P:It→Prop)
 | any
def Fh.holds (ok:Nat→Prop):Fh→Value→World→Prop
 | .eq v0,v,_=>v=v0
 | .it x,v,w=>∃ A:Ad,v=.agg #[.int .i64 x.kind,.int .u64 (x.num:Int),.slice A.ab A.nb A.cb,.slice A.ai A.ni A.ci]∧IR ok w x A
 | .op r,v,w=>∃ A:Ad,v=.tuple #[.agg #[.int .i64 (It.opt r).kind,.int .u64 ((It.opt r).num:Int),.slice A.ab A.nb A.cb,.slice A.ai A.ni A.ci],.bool r.isSome]∧IR ok w (It.opt r) A
 | .mr r,v,w=>∃ A:Ad,v=.tuple #[.agg #[.int .i64 r.item.kind,.int .u64 (r.item.num:Int),.slice A.ab A.nb A.cb,.slice A.ai A.ni A.ci],.int .i64 (r.code:Int)]∧IR ok w r.item A
 | .hd p u,v,w=>∃ A C:Ad,v=.agg #[.int .i64 p.kind,.int .u64 (p.num:Int),.slice A.ab A.nb A.cb,.slice A.ai A.ni A.ci,.int .i64 u.kind,.int .u64 (u.num:Int),.slice C.ab C.nb C.cb,.slice C.ai C.ni C.ci]∧IR ok w p A∧IR ok w u C
 | .hr r,v,w=>∃ A C:Ad,v=.tuple #[.agg #[.int .i64 r.fst.kind,.int .u64 (r.fst.num:Int),.slice A.ab A.nb A.cb,.slice A.ai A.ni A.ci,.int .i64 r.snd.kind,.int .u64 (r.snd.num:Int),.slice C.ab C.nb C.cb,.slice C.ai C.ni C.ci],.int .i64 (r.code:Int)]∧IR ok w r.fst A∧IR ok w r.snd C
 | .bk n o,v,w=>∃ b,v=.pointer (some ⟨b,0,none⟩)∧w.heap[b]?=some o∧n≤b
 | .row l,v,w=>∃ a n c,v=.slice a n c∧TL (fun _=>True) w l a n∧n≤c∧c≤9223372036854775807
 | .own N l,v,w=>∃ es:List (It × Ad),es.map (·.1)=l∧OutI w N (fun b=>b < N) v es
 | .rw N l,v,w=>∃ (es:List (It × Ad)) (a:Option Addr) (n c:Nat),v=.slice a n c∧es.map (·.1)=l∧SrcI w a n es∧∀ e ∈ es,IR (fun b=>b < N) w e.1 e.2
 | .bt l,v,w=>∃ a n c,v=.slice a n c∧BR (fun _=>True) w a n l
 | .rok l,v,w=>∃ a n c,v=.slice a n c∧TL ok w l a n∧n≤c∧c≤9223372036854775807
 | .num n,v,_=>∃ r:Int,v=.int .i64 r∧0≤r∧r < n
 | .bl,v,_=>∃ b:Bool,v=.bool b
 | .hx P,v,w=>∃ (r:It.PH) (A C:Ad),P r∧v=.tuple #[.agg #[.int .i64 r.fst.kind,.int .u64 (r.fst.num:Int),.slice A.ab A.nb A.cb,.slice A.ai A.ni A.ci,.int .i64 r.snd.kind,.int .u64 (r.snd.num:Int),.slice C.ab C.nb C.cb,.slice C.ai C.ni C.ci],.int .i64 (r.code:Int)]∧IR ok w r.fst A∧IR ok w r.snd C
 | .ix P,v,w=>∃ (x:It) (A:Ad),P x∧v=.agg #[.int .i64 x.kind,.int .u64 (x.num:Int),.slice A.ab A.nb A.cb,.slice A.ai A.ni A.ci]∧IR ok w x A
 | .any,_,_=>True
theorem Fh.keep {ok ok':Nat→Prop} {w w':World} (hb:RB' w w') (hk:∀ b,ok b→b < w.heap.size→ok' b) {f:Fh} {v:Value} (h:f.holds ok v w):f.holds ok' v w':=by
 have k:∀ {x:It} {A:Ad},IR ok w x A→IR ok' w' x A:=fun h=>h.keep fun b h1 h2=>⟨hb.block b h2,hk b h1 h2⟩
 cases f with
 | eq v0=>exact h
 | it x=>obtain ⟨A,e,hI⟩:=h;exact ⟨A,e,k hI⟩
 | op r=>obtain ⟨A,e,hI⟩:=h;exact ⟨A,e,k hI⟩
 | mr r=>obtain ⟨A,e,hI⟩:=h;exact ⟨A,e,k hI⟩
 | hd p u=>obtain ⟨A,C,e,hI,hJ⟩:=h;exact ⟨A,C,e,k hI,k hJ⟩
 | hr r=>obtain ⟨A,C,e,hI,hJ⟩:=h;exact ⟨A,C,e,k hI,k hJ⟩
 | bk n o=>obtain ⟨b,e,hb',hn⟩:=h;exact ⟨b,e,bkp hb hb' (lb hb'),hn⟩
 | row l=>obtain ⟨a,n,c,e,hT,h1⟩:=h;exact ⟨a,n,c,e,hT.keep fun b _ h2=>⟨hb.block b h2,trivial⟩,h1⟩
 | own N l=>obtain ⟨es,e,hO⟩:=h;exact ⟨es,e,hO.pure hb⟩
 | rw N l=>obtain ⟨es,a,n,c,e,e2,hS,hI⟩:=h;exact ⟨es,a,n,c,e,e2,hS.keep fun b o _ hl=>hb.block b hl,fun x hx=>(hI x hx).below hb⟩
 | bt l=>obtain ⟨a,n,c,e,hT⟩:=h;exact ⟨a,n,c,e,hT.keep fun b _ h2=>⟨hb.block b h2,trivial⟩⟩
 | rok l=>obtain ⟨a,n,c,e,hT,h1⟩:=h;exact ⟨a,n,c,e,hT.keep fun b h1 h2=>⟨hb.block b h2,hk b h1 h2⟩,h1⟩
 | num n=>exact h
 | bl=>exact h
 | hx P=>obtain ⟨r,A,C,hp,e,hI,hJ⟩:=h;exact ⟨r,A,C,hp,e,k hI,k hJ⟩
 | ix P=>obtain ⟨x,A,hp,e,hI⟩:=h;exact ⟨x,A,hp,e,k hI⟩
 | any=>trivial
theorem Fh.stable {ok:Nat→Prop} (f:Fh) (v:Value) (w w':World) (h:RB' w w') (hf:f.holds ok v w):f.holds ok v w':=Fh.keep h (fun _ h _=>h) hf
theorem Fh.imp {ok ok':Nat→Prop} {f:Fh} {v:Value} {w:World} (h:f.holds ok v w) (hk:∀ b,ok b→b < w.heap.size→ok' b):f.holds ok' v w:=Fh.keep (RB'.refl w) hk h
abbrev facth (ok:Nat→Prop) (l:List Fh) (j:Nat):Value→World→Prop:=Fh.holds ok (l.getD j .any)
def Dp (ok:Nat→Prop) (q:Fh) (u v:Value) (w:World):Prop:=∀ b,v=.pointer (some ⟨b,0,none⟩)→q.holds (fun k=>k≠b∧ok k) u w
theorem rgh {M id:Nat} {w:World} {Q:Exit→Act→World→Prop} {ops:Array Oper} {a0:Act} (ok:Nat→Prop) (l:List Fh) (m:List Rg.Kd) (x y:Nat) (q:Fh) (hok:Rg.okB ops M a0.tmps.size=true) (ht:Rg.tailL ops M (Rg.idx m)=true) (hp:Rg.pairB m M x y=true) (hQ:∀ c a o v w,Q (.panic c) (Act.put a o v) w→Q (.panic c) a w)
 (hs:Rg.StepsJ Tryz.prog a0 ops w RB' (fun _=>True) (facth ok l) x y (Dp ok q) 0 (ops.toList.take M) m)
 (hend:∀ vs w',RB' w w'→(∀ j,j < M→facth ok l j (vs j) w')→(x < M→y < M→Dp ok q (vs x) (vs y) w')→(∀ i o,i ∈ Rg.idx m→ops[i]?=some o→∀ W,(execOp (Rg.rho a0 ops i vs) o).run Tryz.prog W=.ok (.value (vs i)) W)→wpList Tryz.prog ops Q (ops.toList.drop M) (Rg.putAll ops M vs a0) w'):(Code.region id ops true).wp Tryz.prog Q a0 w:=
 Rg.regionJ m x y (Dp ok q) (by kernel_rfl) RB' (fun _=>True) (facth ok l) RB'.refl RB'.trans RB'.drew (fun _ _ _ _ h hf=>Fh.stable _ _ _ _ h hf) (fun _ _ _ _ h hf b e=>Fh.keep h (fun _ h _=>h) (hf b e)) hok ht hp hQ (fun _=>trivial) trivial hs (fun vs w' h1 _ h2 h3 h4=>hend vs w' h1 h2 h3 h4)
theorem IR.int {ok ok':Nat→Prop} {w:World} {k:Int} {n:Nat} {A:Ad} (h:IR ok w (.mk k n [] []) A):IR ok' w (.mk k n [] []) A:=by
 rw [IR_iff] at h ⊢;obtain ⟨h1,⟨h2,h3⟩,h4,h5⟩:=h;exact ⟨h1,⟨⟨h2.1,h2.2.1,fun i hi=>absurd hi (by simp [It.bytes])⟩,h3⟩,⟨h4.1,h4.2.1,fun j hj=>absurd hj (by simp [It.kids])⟩,h5⟩
def EndH (w:World) (f:Fh) (e:Ending) (w':World):Prop:=∃ v,e=.returned v∧RB' w w'∧f.holds (fun q=>w.heap.size≤q) v w'
def EndO (ok:Nat→Prop) (w:World) (f:Fh) (e:Ending) (w':World):Prop:=∃ v,e=.returned v∧RB' w w'∧f.holds ok v w'
theorem EndH.any {ok:Nat→Prop} {w:World} {f:Fh} {e:Ending} {w':World} (h:EndH w f e w') (hw:∀ b,w.heap.size≤b→ok b):EndO ok w f e w':=by
 obtain ⟨v,e,h1,h2⟩:=h;exact ⟨v,e,h1,Fh.imp h2 fun b hb _=>hw b hb⟩
theorem EndH.ip {x:It} {w:World} {e:Ending} {w':World} (h:IP x w e w'):EndH w (.it x) e w':=by
 obtain ⟨A,rfl,hI,hB⟩:=h;exact ⟨_,rfl,hB,A,rfl,hI⟩
theorem EndH.bool {b:Bool} {w:World} {e:Ending} {w':World} (h:VP b w e w'):EndH w (.eq (.bool b)) e w':=⟨_,h.1,h.2,rfl⟩
theorem EndH.fp {r:Option It} {w:World} {e:Ending} {w':World} (h:FP r w e w'):EndH w (.op r) e w':=by
 cases r with
 | none=>exact ⟨_,h.1,h.2,⟨none,0,0,none,0,0⟩,rfl,IR.flat _ _ (by omega)⟩
 | some z=>obtain ⟨Z,e,hI,hB⟩:=h;exact ⟨_,e,hB,Z,rfl,hI⟩
theorem EndO.at {ok:Nat→Prop} {r:Option It} {w:World} {e:Ending} {w':World} (h:AtQ ok r w e w'):EndO ok w (.op r) e w':=by
 cases r with
 | none=>exact ⟨_,h.1,h.2,⟨none,0,0,none,0,0⟩,rfl,IR.flat _ _ (by omega)⟩
 | some z=>obtain ⟨Z,e,hI,hB⟩:=h;exact ⟨_,e,hB,Z,rfl,hI⟩
theorem EndH.mr {r:It.MR} {w:World} {e:Ending} {w':World} (h:BPost r w e w'):EndH w (.mr r) e w':=by
 cases r with
 | err n=>exact ⟨_,h.1,h.2,⟨none,0,0,none,0,0⟩,rfl,IR.flat _ _ (by omega)⟩
 | ok x=>obtain ⟨A,e,hI,hB⟩:=h;exact ⟨_,e,hB,A,rfl,hI⟩
theorem EndO.imp {ok ok':Nat→Prop} {w:World} {f:Fh} {e:Ending} {w':World} (h:EndO ok w f e w') (hk:∀ b,ok b→ok' b):EndO ok' w f e w':=by
 obtain ⟨v,e,h1,h2⟩:=h;exact ⟨v,e,h1,Fh.imp h2 fun b hb _=>hk b hb⟩
theorem h_cint (n:Int) (h: -9223372036854775808≤n∧n≤9223372036854775807) (W:World) (ok:Nat→Prop):Calls Tryz.prog 69 #[.int .i64 n] W (EndO ok W (.it (It.int n))):=
 (cint_any n h.1 h.2 W).mono fun e w' ⟨A,he,hI,hB⟩=>⟨_,he,hB,A,rfl,by
  rw [int_it] at hI;rw [It.int_form] at hI ⊢;exact hI.int⟩
theorem h_rint (n:Int) (h: -9223372036854775808≤n∧n≤9223372036854775807) (W:World) (ok:Nat→Prop):Calls Tryz.prog 62 #[.int .i64 n] W (EndO ok W (.it (It.int n))):=
 (rint_any n h.1 h.2 W).mono fun e w' ⟨A,he,hI,hB⟩=>⟨_,he,hB,A,rfl,by
  rw [int_it] at hI;rw [It.int_form] at hI ⊢;exact hI.int⟩
theorem h_cfind {ok:Nat→Prop} {v1 v2:Value} {W:World} {m q:It} (h1:(Fh.it m).holds ok v1 W) (h2:(Fh.it q).holds ok v2 W) (hE:Env W):Calls Tryz.prog 63 #[v1,v2] W (EndH W (.op (It.findP m q))):=by
 obtain ⟨A,rfl,hI⟩:=h1;obtain ⟨K,rfl,hK⟩:=h2;exact (cfind_any m q A K W _ _ hI hK hE).mono fun _ _ h=>EndH.fp h
theorem h_at {ok:Nat→Prop} {v1 v2:Value} {W:World} {m q:It} (h1:(Fh.it m).holds ok v1 W) (h2:(Fh.it q).holds ok v2 W) (hl:m.kids.length≤1000):Calls Tryz.prog 87 #[v1,v2] W (EndO ok W (.op (It.look m.kids q))):=by
 obtain ⟨A,rfl,hI⟩:=h1;obtain ⟨K,rfl,hK⟩:=h2;exact (at_any m q A K W _ _ hI hK hl).mono fun _ _ h=>EndO.at h
theorem cfh (f:FuncId) (fn:Func) (hf:Tryz.prog.funcs[f]?=some fn) (hn:(fn.name== "runtime.NumGoroutine")=false) (hb:fn.body.isNone=false) (vals:Array Value) (w:World):(callFunc f vals).run Tryz.prog w=.ok (.enter f vals) w:=by
 unfold callFunc;simp only [Sem.run_bind,run_program,Result.andThen_ok,hf];simp [hn,hb]
theorem sr:(∀ (ops:Array Oper) (M:Nat) (vs:Nat→Value) (a:Act),Rg.putAll ops M vs a=Rg.putFrom ops vs 0 (ops.toList.take M) a)∧(∀ (ops:Array Oper) (vs:Nat→Value) (k:Nat) (a:Act),Rg.putFrom ops vs k [] a=a)∧(∀ (ops:Array Oper) (vs:Nat→Value) (k:Nat) (o:Oper) (r:List Oper) (a:Act),Rg.putFrom ops vs k (o :: r) a=Rg.putFrom ops vs (k + 1) r (a.put o.dst (vs k)))∧((∀ (x:Oper) (l:List Oper) (n:Nat),(x :: l).take (n + 1)=x :: l.take n)∧(∀ l:List Oper,l.take 0=[])∧(∀ (x:Oper) (l:List Oper) (n:Nat),(x :: l).drop (n + 1)=l.drop n)∧∀ l:List Oper,l.drop 0=l)∧type_of% sz:=
 ⟨fun _ _ _ _=>rfl,fun _ _ _ _=>rfl,fun _ _ _ _ _ _=>rfl,⟨fun _ _ _=>rfl,fun _=>rfl,fun _ _ _=>rfl,fun _=>rfl⟩,sz⟩
theorem cq {f:FuncId} {fn:Func} (hf:Tryz.prog.funcs[f]?=some fn) {vals:Array Value} (hn:(fn.name== "runtime.NumGoroutine")=false:=by kernel_rfl) (hb:fn.body.isNone=false:=by kernel_rfl):∀ w,(callFunc f vals).run Tryz.prog w=.ok (.enter f vals) w:=cfh f fn hf hn hb vals
section ops
variable {o:Oper} {ρ:Operand→Value} {w:World}
theorem doesh_val {ok:Nat→Prop} {q:Fh} {v:Value} (h:(execOp ρ o).run Tryz.prog w=.ok (.value v) w) (hq:q.holds ok v w):Rg.Does Tryz.prog o ρ w fun v' w'=>RB' w w'∧True∧q.holds ok v' w':=Rg.Does.value h ⟨RB'.refl _,trivial,hq⟩
theorem dmv {ok:Nat→Prop} {q:Fh} (x:Operand) (ho:o.op=.move x) (hq:q.holds ok (ρ x) w):Rg.Does Tryz.prog o ρ w fun v' w'=>RB' w w'∧True∧q.holds ok v' w':=Rg.Does.move x ho ⟨RB'.refl _,trivial,hq⟩
theorem doesh_assign {ok:Nat→Prop} {q:Fh} (x:Operand) (ho:o.op=.assign x) (hq:q.holds ok (ρ x) w):Rg.Does Tryz.prog o ρ w fun v' w'=>RB' w w'∧True∧q.holds ok v' w':=Rg.Does.assign x ho ⟨RB'.refl _,trivial,hq⟩
theorem dfd (T:TypeId) (x:Operand) (b i n:Nat) (ho:o.op=.fieldAddr T x i) (hx:ρ x=.pointer (some ⟨b,0,none⟩)) (hT:∀ W:World,(Instr.fieldAt T (.pointer (some ⟨b,0,none⟩)) i).run Tryz.prog W=.ok (.pointer (some ⟨b,n,none⟩)) W) {ok:Nat→Prop}:Rg.Does Tryz.prog o ρ w fun v' w'=>RB' w w'∧True∧(Fh.eq (.pointer (some ⟨b,n,none⟩))).holds ok v' w':=by
 refine doesh_val ?_ rfl;simp only [execOp,ho,hx,Sem.run_bind,hT,Result.andThen_ok,Sem.run_pure]
theorem fieldH0 (b:Nat) (W:World):(Instr.fieldAt 28 (.pointer (some ⟨b,0,none⟩)) 0).run Tryz.prog W=.ok (.pointer (some ⟨b,0,none⟩)) W:=by go_simp
theorem fieldH1 (b:Nat) (W:World):(Instr.fieldAt 28 (.pointer (some ⟨b,0,none⟩)) 1).run Tryz.prog W=.ok (.pointer (some ⟨b,4,none⟩)) W:=by go_simp
theorem dld {ok:Nat→Prop} (x:Operand) (b q:Nat) (k:It) (A:Ad) (ho:o.op=.load 26 x) (hx:ρ x=.pointer (some ⟨b,q,none⟩)) (c0:w.cell? ⟨b,q,none⟩=some (.int .i64 k.kind)) (c1:w.cell? ⟨b,q + 1,none⟩=some (.int .u64 (k.num:Int))) (c2:w.cell? ⟨b,q + 2,none⟩=some (.slice A.ab A.nb A.cb)) (c3:w.cell? ⟨b,q + 3,none⟩=some (.slice A.ai A.ni A.ci)) (hI:IR ok w k A):Rg.Does Tryz.prog o ρ w fun v' w'=>RB' w w'∧True∧(Fh.it k).holds ok v' w':=by
 refine doesh_val (v:=.agg #[.int .i64 k.kind,.int .u64 (k.num:Int),.slice A.ab A.nb A.cb,.slice A.ai A.ni A.ci]) ?_ ⟨A,rfl,hI⟩;have hr:(Instr.loadAt 26 (.pointer (some ⟨b,q,none⟩))).run Tryz.prog w=.ok (.agg #[.int .i64 k.kind,.int .u64 (k.num:Int),.slice A.ab A.nb A.cb,.slice A.ai A.ni A.ci]) w:=by
  go_simp
 simp only [execOp,ho,hx,Sem.run_bind,hr,Result.andThen_ok,Sem.run_pure]
theorem dlP {ok:Nat→Prop} {W:World} (x:Operand) (b:Nat) (p u:It) (A C:Ad) (hW:Below w.heap.size w W) (hb:w.heap[b]?=some (.cells #[.int .i64 p.kind,.int .u64 (p.num:Int),.slice A.ab A.nb A.cb,.slice A.ai A.ni A.ci,.int .i64 u.kind,.int .u64 (u.num:Int),.slice C.ab C.nb C.cb,.slice C.ai C.ni C.ci] 28 (0,0))) (hI:IR ok w p A) (ho:o.op=.load 26 x) (hx:ρ x=.pointer (some ⟨b,0,none⟩)):Rg.Does Tryz.prog o ρ W fun v' w'=>RB' W w'∧True∧(Fh.it p).holds ok v' w':=by
 obtain ⟨a0,a1,a2,a3,a4,a5,a6,a7⟩:=ce (bkp hW hb (lb hb));exact dld x b 0 p A ho hx a0 a1 a2 a3 (hI.below hW)
theorem dlU {ok:Nat→Prop} {W:World} (x:Operand) (b:Nat) (p u:It) (A C:Ad) (hW:Below w.heap.size w W) (hb:w.heap[b]?=some (.cells #[.int .i64 p.kind,.int .u64 (p.num:Int),.slice A.ab A.nb A.cb,.slice A.ai A.ni A.ci,.int .i64 u.kind,.int .u64 (u.num:Int),.slice C.ab C.nb C.cb,.slice C.ai C.ni C.ci] 28 (0,0))) (hJ:IR ok w u C) (ho:o.op=.load 26 x) (hx:ρ x=.pointer (some ⟨b,4,none⟩)):Rg.Does Tryz.prog o ρ W fun v' w'=>RB' W w'∧True∧(Fh.it u).holds ok v' w':=by
 obtain ⟨a0,a1,a2,a3,a4,a5,a6,a7⟩:=ce (bkp hW hb (lb hb));exact dld x b 4 u C ho hx a4 a5 a6 a7 (hJ.below hW)
theorem dcl {ok:Nat→Prop} {q:Fh} (f:FuncId) (fo:Operand) (args:Array Operand) (ts:Array TypeId) (ho:o.op=.call { callee:=.value fo,args:=args,argTypes:=ts }) (hf:ρ fo=.func (.func f) #[] #[]) {vals:Array Value} (hv:args.map ρ=vals)
 (hcf:∀ w,(callFunc f vals).run Tryz.prog w=.ok (.enter f vals) w) (h:Calls Tryz.prog f vals w (EndO ok w q)):Rg.Does Tryz.prog o ρ w fun v w'=>RB' w w'∧True∧q.holds ok v w':=
 Rg.Does.call f fo args ts ho hf hv hcf (h.mono fun _ _ ⟨v,e,h1,h2⟩=>⟨v,e,h1,trivial,h2⟩)
theorem dfi {ok:Nat→Prop} {q:Fh} {l:List Fh} {x y n:Nat} {ob:Obj} (f:FuncId) (fo:Operand) (args:Array Operand) (ts:Array TypeId) (ho:o.op=.call { callee:=.value fo,args:=args,argTypes:=ts }) (hf:ρ fo=.func (.func f) #[] #[]) {vals:Array Value} (hv:args.map ρ=vals)
 (hcf:∀ w,(callFunc f vals).run Tryz.prog w=.ok (.enter f vals) w) (hx:l.getD x .any=q) (hy:l.getD y .any=.bk n ob) (hxy:x≠y) (hw:∀ b,w.heap.size≤b→ok b) (h:Calls Tryz.prog f vals w (EndH w q)):Rg.Does Tryz.prog o ρ w fun v w'=>(RB' w w'∧True∧facth ok l x v w')∧Rg.PairX (facth ok l) x y (Dp ok q) x v w w':=
 Rg.Does.call f fo args ts ho hf hv hcf (h.mono fun _ w' ⟨v,e,h1,h2⟩=>⟨v,e,⟨h1,trivial,by show Fh.holds ok (l.getD x .any) v w';rw [hx];exact Fh.imp h2 fun b hb _=>hw b hb⟩,fun _ u hu b hb=>by
  have hu:Fh.holds ok (l.getD y .any) u w:=hu;rw [hy] at hu;obtain ⟨b',e',h3,_⟩:=hu;have:b'=b:=by rw [e'] at hb;simpa using hb
  subst this;have:=lb h3;exact Fh.imp h2 fun k hk _=>⟨by omega,hw k hk⟩,fun e=>absurd e hxy⟩)
theorem doesh_firstO {ok:Nat→Prop} {q:Fh} {l:List Fh} {x y n:Nat} {ob:Obj} (f:FuncId) (fo:Operand) (args:Array Operand) (ts:Array TypeId) (ho:o.op=.call { callee:=.value fo,args:=args,argTypes:=ts }) (hf:ρ fo=.func (.func f) #[] #[]) {vals:Array Value} (hv:args.map ρ=vals)
 (hcf:∀ w,(callFunc f vals).run Tryz.prog w=.ok (.enter f vals) w) (hx:l.getD x .any=q) (hy:l.getD y .any=.bk n ob) (hxy:x≠y) (hn:∀ b,ok b→b < n) (h:Calls Tryz.prog f vals w (EndO ok w q)):Rg.Does Tryz.prog o ρ w fun v w'=>(RB' w w'∧True∧facth ok l x v w')∧Rg.PairX (facth ok l) x y (Dp ok q) x v w w':=
 Rg.Does.call f fo args ts ho hf hv hcf (h.mono fun _ w' ⟨v,e,h1,h2⟩=>⟨v,e,⟨h1,trivial,by show Fh.holds ok (l.getD x .any) v w';rw [hx];exact h2⟩,fun _ u hu b hb=>by
  have hu:Fh.holds ok (l.getD y .any) u w:=hu;rw [hy] at hu;obtain ⟨b',e',h3,h4⟩:=hu;have:b'=b:=by rw [e'] at hb;simpa using hb
  subst this;exact Fh.imp h2 fun k hk _=>⟨by have:=hn k hk;omega,hk⟩,fun e=>absurd e hxy⟩)
theorem dal {ok:Nat→Prop} {q:Fh} {l:List Fh} {x y n:Nat} (ho:o.op=.alloc 26) (hx:l.getD x .any=q) (hy:l.getD y .any=.bk n (.cells #[.int .i64 0,.int .u64 0,.slice none 0 0,.slice none 0 0] 26 (0,0))) (hxy:x≠y) (hn:n≤w.heap.size):Rg.Does Tryz.prog o ρ w fun v w'=>(RB' w w'∧True∧facth ok l y v w')∧Rg.PairX (facth ok l) x y (Dp ok q) y v w w':=by
 have hP:=al w o4z;refine Rg.Does.value (v:=.pointer (some ⟨w.heap.size,0,none⟩)) (w':=w.alloc o4z) ?_ ⟨⟨hP,trivial,?_⟩,fun e=>absurd e.symm hxy,fun _ u hu b hb=>?_⟩
 ·simp only [execOp,ho]
  go_simp
 ·show Fh.holds ok (l.getD y .any) _ _
  rw [hy];exact ⟨w.heap.size,rfl,aw _ _,hn⟩
 ·have hu:Fh.holds ok (l.getD x .any) u w:=hu
  rw [hx] at hu;have:b=w.heap.size:=by simpa using hb.symm
  subst this;exact Fh.keep hP (fun k hk hl=>⟨by omega,hk⟩) hu
end ops
theorem late_op0 {P:Program} {o:Oper} {ρ:Operand→Value} {w:World} {ok:Nat→Prop} {r:Option It} (x:Operand) (ho:o.op=.extract x 0) (h:(Fh.op r).holds ok (ρ x) w):∃ v,(∀ W,(execOp ρ o).run P W=.ok (.value v) W)∧(Fh.it (It.opt r)).holds ok v w:=by
 obtain ⟨A,e,hI⟩:=h;exact ⟨_,fun W=>by simp only [execOp,ho,e];go_simp,A,rfl,hI⟩
theorem late_op1 {P:Program} {o:Oper} {ρ:Operand→Value} {w:World} {ok:Nat→Prop} {r:Option It} (x:Operand) (ho:o.op=.extract x 1) (h:(Fh.op r).holds ok (ρ x) w):∃ v,(∀ W,(execOp ρ o).run P W=.ok (.value v) W)∧(Fh.eq (.bool r.isSome)).holds ok v w:=by
 obtain ⟨A,e,hI⟩:=h;exact ⟨_,fun W=>by simp only [execOp,ho,e];go_simp,rfl⟩
theorem late_move {o:Oper} {ρ:Operand→Value} {w:World} {ok:Nat→Prop} {q:Fh} (x:Operand) (ho:o.op=.move x) (h:q.holds ok (ρ x) w):∃ v,(∀ W,(execOp ρ o).run Tryz.prog W=.ok (.value v) W)∧q.holds ok v w:=
 ⟨ρ x,fun W=>by simp [execOp,ho],h⟩
theorem exm {o:Oper} {ρ:Operand→Value} {W:World} {v:Value} (h:(execOp ρ o).run Tryz.prog W=.ok (.value v) W) (x:Operand) (ho:o.op=.move x):v=ρ x:=by
 simp [execOp,ho] at h;exact h.symm
theorem ex0 {o:Oper} {ρ:Operand→Value} {W:World} {v a b:Value} (h:(execOp ρ o).run Tryz.prog W=.ok (.value v) W) (x:Operand) (ho:o.op=.extract x 0) (hx:ρ x=.tuple #[a,b]):v=a:=by
 have hr:(Instr.extract (.tuple #[a,b]) 0).run Tryz.prog W=.ok a W:=by go_simp
 simp only [execOp,ho,hx,Sem.run_bind,hr,Result.andThen_ok,Sem.run_pure,Result.ok.injEq,Next.value.injEq,and_true] at h;exact h.symm
theorem ex1 {o:Oper} {ρ:Operand→Value} {W:World} {v a b:Value} (h:(execOp ρ o).run Tryz.prog W=.ok (.value v) W) (x:Operand) (ho:o.op=.extract x 1) (hx:ρ x=.tuple #[a,b]):v=b:=by
 have hr:(Instr.extract (.tuple #[a,b]) 1).run Tryz.prog W=.ok b W:=by go_simp
 simp only [execOp,ho,hx,Sem.run_bind,hr,Result.andThen_ok,Sem.run_pure,Result.ok.injEq,Next.value.injEq,and_true] at h;exact h.symm
namespace It
def find2P (p u:It) (n:Int):Option It:=match findP p (int n) with
 | some x=>some x
 | .none=>findP u (int n)
end It
theorem hfind_ok (p u:It) (A C:Ad) (n:Int) (w:World) (ok ok':Nat→Prop) (h0: -9223372036854775808≤n) (h1:n≤9223372036854775807) (hI:IR ok w p A) (hJ:IR ok' w u C) (hE:Env w) (X:Nat→Prop) (hpX:∀ b,ok b→b < w.heap.size→X b) (huX:∀ b,ok' b→b < w.heap.size→X b) (hX:∀ b,w.heap.size≤b→X b):
 Calls Tryz.prog 83 #[.agg #[.int .i64 p.kind,.int .u64 (p.num:Int),.slice A.ab A.nb A.cb,.slice A.ai A.ni A.ci,.int .i64 u.kind,.int .u64 (u.num:Int),.slice C.ab C.nb C.cb,.slice C.ai C.ni C.ci],.int .i64 n] w (EndO X w (.op (It.find2P p u n))):=by
 have P0:=al w (.cells #[.int .i64 p.kind,.int .u64 (p.num:Int),.slice A.ab A.nb A.cb,.slice A.ai A.ni A.ci,.int .i64 u.kind,.int .u64 (u.num:Int),.slice C.ab C.nb C.cb,.slice C.ai C.ni C.ci] 28);have N0:=aw w (.cells #[.int .i64 p.kind,.int .u64 (p.num:Int),.slice A.ab A.nb A.cb,.slice A.ai A.ni A.ci,.int .i64 u.kind,.int .u64 (u.num:Int),.slice C.ab C.nb C.cb,.slice C.ai C.ni C.ci] 28);have P1:=al (w.alloc (.cells #[.int .i64 p.kind,.int .u64 (p.num:Int),.slice A.ab A.nb A.cb,.slice A.ai A.ni A.ci,.int .i64 u.kind,.int .u64 (u.num:Int),.slice C.ab C.nb C.cb,.slice C.ai C.ni C.ci] 28)) (.cells #[.int .i64 0,.int .u64 0,.slice none 0 0,.slice none 0 0] 26);have N1:=aw (w.alloc (.cells #[.int .i64 p.kind,.int .u64 (p.num:Int),.slice A.ab A.nb A.cb,.slice A.ai A.ni A.ci,.int .i64 u.kind,.int .u64 (u.num:Int),.slice C.ab C.nb C.cb,.slice C.ai C.ni C.ci] 28)) (.cells #[.int .i64 0,.int .u64 0,.slice none 0 0,.slice none 0 0] 26);have hsz0:(w.alloc (.cells #[.int .i64 p.kind,.int .u64 (p.num:Int),.slice A.ab A.nb A.cb,.slice A.ai A.ni A.ci,.int .i64 u.kind,.int .u64 (u.num:Int),.slice C.ab C.nb C.cb,.slice C.ai C.ni C.ci] 28)).heap.size=w.heap.size + 1:=by simp
 have hsz1:((w.alloc (.cells #[.int .i64 p.kind,.int .u64 (p.num:Int),.slice A.ab A.nb A.cb,.slice A.ai A.ni A.ci,.int .i64 u.kind,.int .u64 (u.num:Int),.slice C.ab C.nb C.cb,.slice C.ai C.ni C.ci] 28)).alloc (.cells #[.int .i64 0,.int .u64 0,.slice none 0 0,.slice none 0 0] 26)).heap.size=w.heap.size + 2:=by simp
 rw [hsz0] at N1;have HX1:=dh (bkp P1 N0 (lb N0));have HR1:=dh N1;have HP1:=dh (pt P0 P1);have HSZ:=dh hsz1;have HI1:=dh (((hI.imp (ok':=fun b=>b < w.heap.size∧X b) fun b h hb=>⟨hb,hpX b h hb⟩).below P0).below P1);have HJ1:=dh (((hJ.imp (ok':=fun b=>b < w.heap.size∧X b) fun b h hb=>⟨hb,huX b h hb⟩).below P0).below P1);have HXX:=dh hX;clear hX hpX huX;have HE1:=dh ((hE.below P0).below P1);have HN:=dh (And.intro h0 h1);have HT1:Hid (1 < w.heap.size):=dh hE.lt;clear hI hJ hE N0 N1 P0 P1 hsz0 hsz1 h0 h1;obtain ⟨R,hRR⟩:∃ R,It.find2P p u n=R:=⟨_,rfl⟩;rw [hRR];have HRR:=dh hRR;clear hRR;go_enter Tryz.func83,Tryz.ntmps83
 go_upto_region 1 with fail
 generalize ((w.alloc (.cells #[.int .i64 p.kind,.int .u64 (p.num:Int),.slice A.ab A.nb A.cb,.slice A.ai A.ni A.ci,.int .i64 u.kind,.int .u64 (u.num:Int),.slice C.ab C.nb C.cb,.slice C.ai C.ni C.ci] 28)).alloc (.cells #[.int .i64 0,.int .u64 0,.slice none 0 0,.slice none 0 0] 26))=w1 at *;generalize hB:w.heap.size=B at *;have HJ0:=HJ1
 replace HI1:=dh (HI1.out.imp (ok':=fun b=>b≠B + 1∧(b < B→X b)) fun b hb _=>⟨by omega,fun _=>hb.2⟩)
 replace HJ1:=dh (HJ1.out.imp (ok':=fun b=>b≠B + 1∧(b < B→X b)) fun b hb _=>⟨by omega,fun _=>hb.2⟩)
 have HS1:Hid (∀ W,RB' w1 W→∀ b,W.heap.size≤b→(b≠B + 1∧(b < B→X b))):=dh fun W hW b hb=>by have:=HSZ.out;have:=Below.size hW;exact ⟨by omega,fun h=>by omega⟩
 refine rgh (M:=9) (fun b=>b≠B + 1∧(b < B→X b)) [.eq (.pointer (some ⟨B,0,none⟩)),.it p,.eq (.int .i64 n),.it (It.int n),.op (It.findP p (It.int n)),.op (It.findP p (It.int n)),.it (It.opt (It.findP p (It.int n))),.eq (.bool (It.findP p (It.int n)).isSome),.bk w1.heap.size (.cells #[.int .i64 0,.int .u64 0,.slice none 0 0,.slice none 0 0] 26 (0,0))] [.pl,.pl,.pl,.pl,.pa,.la,.la,.la,.pa] 4 8 (.op (It.findP p (It.int n))) (by kernel_rfl) (by kernel_rfl) (by kernel_rfl) (fun _ _ o _ _ h=>by cases o <;> exact h) ?_ ?_
 ·refine ⟨?_,?_,?_,?_,?_,?_,?_,?_,?_,trivial⟩<;>intro vs W hR _ hd;exact dfd 28 (.tmp 2) (B) 0 0 rfl (by kernel_rfl) (fieldH0 _);exact dlP (.tmp 9) (B) p u A C hR HX1.out HI1.out rfl (hd 0 (dd rfl));exact dmv (.tmp 1) rfl (show _=_ by kernel_rfl);(have e2:vs 2=.int .i64 n:=(hd 2 (dd rfl));exact dcl (vals:=#[vs 2]) 69 (.func 69) #[.tmp 11] _ rfl (by kernel_rfl) (by kernel_rfl) (cq Tryz.func69) (by rw [e2];exact h_cint n HN.out W _));exact dfi (vals:=#[vs 1,vs 3]) 63 (.func 63) #[.tmp 10,.tmp 12] _ rfl (by kernel_rfl) (by kernel_rfl) (cq Tryz.func63) rfl rfl (by decide) (HS1.out W hR) (h_cfind (hd 1 (dd rfl)) (hd 3 (dd rfl)) (HE1.out.below hR));exact late_move (.tmp 13) rfl (hd 4 (dd rfl));exact late_op0 (.tmp 8) rfl (hd 5 (dd rfl));exact late_op1 (.tmp 8) rfl (hd 5 (dd rfl));exact dal rfl rfl rfl (by decide) hR.size
 ·intro vs W2 hR2 hf hD hE
  obtain ⟨ZZ,e4,hI4⟩:=hf 4 (dd rfl);obtain ⟨T,e8,hT,hTn⟩:=hf 8 (dd rfl);have hD4:=hD (by decide) (by decide) T e8;obtain ⟨Z2,e42,hI42⟩:=hD4;obtain rfl:ZZ=Z2:=by
   rw [e4] at e42;cases ZZ;cases Z2
   simp only [Value.tuple.injEq,Value.agg.injEq,Value.slice.injEq,Array.mk.injEq,List.cons.injEq,and_true,true_and] at e42;obtain ⟨⟨r1,r2,r3⟩,r4,r5,r6⟩:=e42;subst r1;subst r2;subst r3;subst r4;subst r5;subst r6;rfl
  have e5:vs 5=_:=(exm (hE 5 _ (by decide) rfl W2) (.tmp 13) rfl).trans e4;have e6:vs 6=_:=ex0 (hE 6 _ (by decide) rfl W2) (.tmp 8) rfl e5;have e7:vs 7=_:=ex1 (hE 7 _ (by decide) rfl W2) (.tmp 8) rfl e5;have hsW:=Below.size hR2;have HP2:=dh (HP1.out.trans (Below.mono hR2 (by have:=HSZ.out;omega)));have HX2:=kp hR2 HX1;have HR2:=kp hR2 HR1;have HJ2:=dh (HJ1.out.below hR2);have HJ2':Hid (IR (fun b=>b < B∧X b) W2 u C):=dh (HJ0.out.below hR2);have HE2:=dh (HE1.out.below hR2);have HT:=dh hT;have HI4:=dh hI42;have HTN:Hid (B + 2≤T∧B + 2≤W2.heap.size):=dh ⟨by have:=HSZ.out;omega,by have:=HSZ.out;omega⟩;simp only [sr,e6,e7,e8];clear hf hD hE e4 e42 e5 e6 e7 e8 hI4 hI42 hT hTn hR2 hsW HP1 HX1 HR1 HI1 HJ1 HSZ HS1 HE1;have f:=ff HT.out;generalize hr1:It.findP p (It.int n)=r1 at *;cases r1 with
  | some z=>
    simp only [It.opt,Option.getD_some,Option.isSome_some] at *;have t:=cf HT.out;go_upto_region 2 with fail
    clear t f;obtain ⟨W',hW',hp4,hs4,hb4⟩:=p4I (W:=W2) (b:=T) HT.out z ZZ;rw [hW'];clear hW';have HI5:=dh (HI4.out.keep (w':=W') (ok':=fun k=>k≠B + 1∧(k < B→X k)) fun b hb hl=>⟨hs4.2 b hb.1,hb.2⟩);have HT5:=dh hp4;have HR5:=dh ((hs4.2 (B + 1) (by have:=HTN.out;omega)).trans HR2.out);have HP5:=dh (hb4 B w HP2.out (by have:=HTN.out;omega));have HZ5:Hid (B + 2≤W'.heap.size):=dh (by rw [hs4.1];exact HTN.out.2);clear hp4 hs4 hb4 HI4 HT HR2 HP2;generalize W'=w5 at *;have t:=cf HT5.out;have f:=ff HR5.out;obtain ⟨r0,r1,r2,r3⟩:=cf HR5.out;go_wp2_with fail
    clear t f r0 r1 r2 r3;obtain ⟨W',hW',hp4,hs4,hb4⟩:=p4I (W:=w5) (b:=B + 1) HR5.out z ZZ;rw [hW'];clear hW';obtain ⟨g0,g1,g2,g3⟩:=cf hp4;refine bodyPost_ret (v:=.tuple #[(v4 z ZZ),.bool true]) (by simp [v4,results,Tryz.results83,go_sem,g0,g1,g2,g3]) rfl ?_;have hR9:R=some z:=by
     rw [← HRR.out];unfold It.find2P;rw [hr1]
    rw [hR9];refine ⟨_,rfl,?_,ZZ,rfl,?_⟩
    ·show Below _ _ _
     rw [hB];exact hb4 B w HP5.out (by omega)
    ·exact HI5.out.keep fun b hb _=>⟨hs4.2 b hb.1,by by_cases h:b < B;exact hb.2 h;exact HXX.out b (by omega)⟩
  | none=>
    simp only [It.opt,Option.getD_none,Option.isSome_none] at *;have t:=cf HT.out;go_upto_region 4 with fail
    clear t f;obtain ⟨W',hW',hp4,hs4,hb4⟩:=p4I (W:=W2) (b:=T) HT.out (It.mk 0 0 [] []) ZZ;rw [hW'];clear hW';have HR5:=dh ((hs4.2 (B + 1) (by have:=HTN.out;omega)).trans HR2.out);have HX5:=dh ((hs4.2 B (by have:=HTN.out;omega)).trans HX2.out);have HP5:=dh (hb4 B w HP2.out (by have:=HTN.out;omega));have hB5:=hb4 (B + 2) W2 (Below.refl _ _) HTN.out.1;have HZ5:Hid (B + 2≤W'.heap.size):=dh (by rw [hs4.1];exact HTN.out.2);have HJ5:=dh (HJ2'.out.keep (w':=W') (ok':=fun b=>b≠B + 1∧(b < B→X b)) fun b hb hl=>⟨hs4.2 b (by have:=HTN.out;omega),⟨by omega,fun _=>hb.2⟩⟩);have HE5:=dh (But.env HE2.out ⟨hB5.os,hB5.tape,hB5.output,hB5.size,fun k _ hne=>hs4.2 k hne⟩ (by have:=HT1.out;have:=HTN.out;omega));clear hp4 hs4 hb4 HI4 HT HR2 HP2 hB5 HJ2 HX2;generalize W'=w5 at *;have HS5:Hid (∀ W,RB' w5 W→∀ b,W.heap.size≤b→(b≠B + 1∧(b < B→X b))):=dh fun W hW b hb=>by have:=HZ5.out;have:=Below.size hW;exact ⟨by omega,fun h=>by omega⟩
    refine rgh (M:=7) (fun b=>b≠B + 1∧(b < B→X b)) [.eq (.pointer (some ⟨B,4,none⟩)),.it u,.eq (.int .i64 n),.it (It.int n),.op (It.findP u (It.int n)),.it (It.opt (It.findP u (It.int n))),.eq (.bool (It.findP u (It.int n)).isSome)] [.pl,.pl,.pl,.pl,.pl,.la,.la] 7 7 (.any) (by kernel_rfl) (by kernel_rfl) (by kernel_rfl) (fun _ _ o _ _ h=>by cases o <;> exact h) ?_ ?_
    ·refine ⟨?_,?_,?_,?_,?_,?_,?_,trivial⟩<;>intro vs W hR _ hd;exact dfd 28 (.tmp 2) (B) 1 4 rfl (by kernel_rfl) (fieldH1 _);exact dlU (.tmp 18) (B) p u A C hR HX5.out HJ5.out rfl (hd 0 (dd rfl));exact dmv (.tmp 1) rfl (show _=_ by kernel_rfl);(have e2:vs 2=.int .i64 n:=(hd 2 (dd rfl));exact dcl (vals:=#[vs 2]) 69 (.func 69) #[.tmp 20] _ rfl (by kernel_rfl) (by kernel_rfl) (cq Tryz.func69) (by rw [e2];exact h_cint n HN.out W _));exact dcl (vals:=#[vs 1,vs 3]) 63 (.func 63) #[.tmp 19,.tmp 21] _ rfl (by kernel_rfl) (by kernel_rfl) (cq Tryz.func63) ((h_cfind (hd 1 (dd rfl)) (hd 3 (dd rfl)) (HE5.out.below hR)).mono fun _ _ h=>h.any (HS5.out W hR));exact late_op0 (.tmp 22) rfl (hd 4 (dd rfl));exact late_op1 (.tmp 22) rfl (hd 4 (dd rfl))
    ·intro vs W6 hR6 hf hD hE
     obtain ⟨Z6,e4,hI6⟩:=hf 4 (dd rfl);have e5:vs 5=_:=ex0 (hE 5 _ (by decide) rfl W6) (.tmp 22) rfl e4;have e6:vs 6=_:=ex1 (hE 6 _ (by decide) rfl W6) (.tmp 22) rfl e4;have hsW:=Below.size hR6;have HP6:=dh (HP5.out.trans (Below.mono hR6 (by have:=HZ5.out;omega)));have HR6:=kp hR6 HR5;have HI6:=dh hI6;have HZ6:Hid (B + 2≤W6.heap.size):=dh (by have:=HZ5.out;omega);simp only [sr,e5,e6];clear hf hD hE e4 e5 e6 hI6 hR6 hsW HP5 HX5 HR5 HJ5 HE5 HS5;generalize hr2:It.findP u (It.int n)=r2 at *;have f:=ff HR6.out;obtain ⟨r0,r1,r3,r4⟩:=cf HR6.out;go_wp2_with fail
     clear f r0 r1 r3 r4;obtain ⟨W',hW',hp4,hs4,hb4⟩:=p4I (W:=W6) (b:=B + 1) HR6.out (It.opt r2) Z6;rw [hW'];clear hW';obtain ⟨g0,g1,g2,g3⟩:=cf hp4;refine bodyPost_ret (v:=.tuple #[.agg #[.int .i64 (It.opt r2).kind,.int .u64 ((It.opt r2).num:Int),.slice Z6.ab Z6.nb Z6.cb,.slice Z6.ai Z6.ni Z6.ci],.bool (Option.isSome r2)]) (by simp [results,Tryz.results83,go_sem,g0,g1,g2,g3]) rfl ?_;have hR9:R=r2:=by
      rw [← HRR.out];unfold It.find2P;rw [hr1];exact hr2
     rw [hR9];refine ⟨_,rfl,?_,Z6,rfl,?_⟩
     ·show Below _ _ _
      rw [hB];exact hb4 B w HP6.out (by omega)
     ·exact HI6.out.keep fun b hb _=>⟨hs4.2 b hb.1,by by_cases h:b < B;exact hb.2 h;exact HXX.out b (by omega)⟩
theorem hfind_any (p u:It) (A C:Ad) (n:Int) (w:World) (ok ok':Nat→Prop) (h0: -9223372036854775808≤n) (h1:n≤9223372036854775807) (hI:IR ok w p A) (hJ:IR ok' w u C) (hE:Env w):Calls Tryz.prog 83 #[.agg #[.int .i64 p.kind,.int .u64 (p.num:Int),.slice A.ab A.nb A.cb,.slice A.ai A.ni A.ci,.int .i64 u.kind,.int .u64 (u.num:Int),.slice C.ab C.nb C.cb,.slice C.ai C.ni C.ci],.int .i64 n] w (EndO (fun _=>True) w (.op (It.find2P p u n))):=hfind_ok p u A C n w ok ok' h0 h1 hI hJ hE (fun _=>True) (fun _ _ _=>trivial) (fun _ _ _=>trivial) (fun _ _=>trivial)
theorem rfind2_any (p u:It) (A C:Ad) (n:Int) (w:World) (ok ok':Nat→Prop) (h0: -9223372036854775808≤n) (h1:n≤9223372036854775807) (hI:IR ok w p A) (hJ:IR ok' w u C) (hlp:p.kids.length≤1000) (hlu:u.kids.length≤1000):
 Calls Tryz.prog 88 #[.agg #[.int .i64 p.kind,.int .u64 (p.num:Int),.slice A.ab A.nb A.cb,.slice A.ai A.ni A.ci,.int .i64 u.kind,.int .u64 (u.num:Int),.slice C.ab C.nb C.cb,.slice C.ai C.ni C.ci],.int .i64 n] w (EndO (fun _=>True) w (.op (It.find2 p u n))):=by
 have P0:=al w (.cells #[.int .i64 p.kind,.int .u64 (p.num:Int),.slice A.ab A.nb A.cb,.slice A.ai A.ni A.ci,.int .i64 u.kind,.int .u64 (u.num:Int),.slice C.ab C.nb C.cb,.slice C.ai C.ni C.ci] 28);have N0:=aw w (.cells #[.int .i64 p.kind,.int .u64 (p.num:Int),.slice A.ab A.nb A.cb,.slice A.ai A.ni A.ci,.int .i64 u.kind,.int .u64 (u.num:Int),.slice C.ab C.nb C.cb,.slice C.ai C.ni C.ci] 28);have P1:=al (w.alloc (.cells #[.int .i64 p.kind,.int .u64 (p.num:Int),.slice A.ab A.nb A.cb,.slice A.ai A.ni A.ci,.int .i64 u.kind,.int .u64 (u.num:Int),.slice C.ab C.nb C.cb,.slice C.ai C.ni C.ci] 28)) (.cells #[.int .i64 0,.int .u64 0,.slice none 0 0,.slice none 0 0] 26);have N1:=aw (w.alloc (.cells #[.int .i64 p.kind,.int .u64 (p.num:Int),.slice A.ab A.nb A.cb,.slice A.ai A.ni A.ci,.int .i64 u.kind,.int .u64 (u.num:Int),.slice C.ab C.nb C.cb,.slice C.ai C.ni C.ci] 28)) (.cells #[.int .i64 0,.int .u64 0,.slice none 0 0,.slice none 0 0] 26);have hsz0:(w.alloc (.cells #[.int .i64 p.kind,.int .u64 (p.num:Int),.slice A.ab A.nb A.cb,.slice A.ai A.ni A.ci,.int .i64 u.kind,.int .u64 (u.num:Int),.slice C.ab C.nb C.cb,.slice C.ai C.ni C.ci] 28)).heap.size=w.heap.size + 1:=by simp
 have hsz1:((w.alloc (.cells #[.int .i64 p.kind,.int .u64 (p.num:Int),.slice A.ab A.nb A.cb,.slice A.ai A.ni A.ci,.int .i64 u.kind,.int .u64 (u.num:Int),.slice C.ab C.nb C.cb,.slice C.ai C.ni C.ci] 28)).alloc (.cells #[.int .i64 0,.int .u64 0,.slice none 0 0,.slice none 0 0] 26)).heap.size=w.heap.size + 2:=by simp
 rw [hsz0] at N1;have HX1:=dh (bkp P1 N0 (lb N0));have HR1:=dh N1;have HP1:=dh (pt P0 P1);have HSZ:=dh hsz1;have HI1:=dh (((hI.imp (ok':=fun b=>b < w.heap.size) fun b h hb=>hb).below P0).below P1);have HJ1:=dh (((hJ.imp (ok':=fun b=>b < w.heap.size) fun b h hb=>hb).below P0).below P1)
 skip
 skip
 have HLP:=dh (And.intro hlp hlu);have HN:=dh (And.intro h0 h1)
 skip
 clear hI hJ hlp hlu N0 N1 P0 P1 hsz0 hsz1 h0 h1;obtain ⟨R,hRR⟩:∃ R,It.find2 p u n=R:=⟨_,rfl⟩;rw [hRR];have HRR:=dh hRR;clear hRR;go_enter Tryz.func88,Tryz.ntmps88
 go_upto_region 1 with fail
 generalize ((w.alloc (.cells #[.int .i64 p.kind,.int .u64 (p.num:Int),.slice A.ab A.nb A.cb,.slice A.ai A.ni A.ci,.int .i64 u.kind,.int .u64 (u.num:Int),.slice C.ab C.nb C.cb,.slice C.ai C.ni C.ci] 28)).alloc (.cells #[.int .i64 0,.int .u64 0,.slice none 0 0,.slice none 0 0] 26))=w1 at *;generalize hB:w.heap.size=B at *;have HJ0:=HJ1;have HS1:Hid (∀ W,RB' w1 W→∀ b,W.heap.size≤b→B + 2≤b):=dh fun W hW b hb=>by have:=HSZ.out;have:=Below.size hW;omega
 refine rgh (M:=9) (fun b=>b < B) [.eq (.pointer (some ⟨B,0,none⟩)),.it p,.eq (.int .i64 n),.it (It.int n),.op (It.look p.kids (It.int n)),.op (It.look p.kids (It.int n)),.it (It.opt (It.look p.kids (It.int n))),.eq (.bool (It.look p.kids (It.int n)).isSome),.bk w1.heap.size (.cells #[.int .i64 0,.int .u64 0,.slice none 0 0,.slice none 0 0] 26 (0,0))] [.pl,.pl,.pl,.pl,.pa,.la,.la,.la,.pa] 4 8 (.op (It.look p.kids (It.int n))) (by kernel_rfl) (by kernel_rfl) (by kernel_rfl) (fun _ _ o _ _ h=>by cases o <;> exact h) ?_ ?_
 ·refine ⟨?_,?_,?_,?_,?_,?_,?_,?_,?_,trivial⟩<;>intro vs W hR _ hd;exact dfd 28 (.tmp 2) (B) 0 0 rfl (by kernel_rfl) (fieldH0 _);exact dlP (.tmp 9) (B) p u A C hR HX1.out HI1.out rfl (hd 0 (dd rfl));exact dmv (.tmp 1) rfl (show _=_ by kernel_rfl);(have e2:vs 2=.int .i64 n:=(hd 2 (dd rfl));exact dcl (vals:=#[vs 2]) 62 (.func 62) #[.tmp 11] _ rfl (by kernel_rfl) (by kernel_rfl) (cq Tryz.func62) (by rw [e2];exact h_rint n HN.out W _));exact doesh_firstO (vals:=#[vs 1,vs 3]) 87 (.func 87) #[.tmp 10,.tmp 12] _ rfl (by kernel_rfl) (by kernel_rfl) (cq Tryz.func87) rfl rfl (by decide) (fun b hb=>by have:=HSZ.out;omega) (h_at (hd 1 (dd rfl)) (hd 3 (dd rfl)) HLP.out.1);exact late_move (.tmp 13) rfl (hd 4 (dd rfl));exact late_op0 (.tmp 8) rfl (hd 5 (dd rfl));exact late_op1 (.tmp 8) rfl (hd 5 (dd rfl));exact dal rfl rfl rfl (by decide) hR.size
 ·intro vs W2 hR2 hf hD hE
  obtain ⟨ZZ,e4,hI4⟩:=hf 4 (dd rfl);obtain ⟨T,e8,hT,hTn⟩:=hf 8 (dd rfl);have hD4:=hD (by decide) (by decide) T e8;obtain ⟨Z2,e42,hI42⟩:=hD4;obtain rfl:ZZ=Z2:=by
   rw [e4] at e42;cases ZZ;cases Z2
   simp only [Value.tuple.injEq,Value.agg.injEq,Value.slice.injEq,Array.mk.injEq,List.cons.injEq,and_true,true_and] at e42;obtain ⟨⟨r1,r2,r3⟩,r4,r5,r6⟩:=e42;subst r1;subst r2;subst r3;subst r4;subst r5;subst r6;rfl
  have e5:vs 5=_:=(exm (hE 5 _ (by decide) rfl W2) (.tmp 13) rfl).trans e4;have e6:vs 6=_:=ex0 (hE 6 _ (by decide) rfl W2) (.tmp 8) rfl e5;have e7:vs 7=_:=ex1 (hE 7 _ (by decide) rfl W2) (.tmp 8) rfl e5;have hsW:=Below.size hR2;have HP2:=dh (HP1.out.trans (Below.mono hR2 (by have:=HSZ.out;omega)));have HX2:=kp hR2 HX1;have HR2:=kp hR2 HR1;have HJ2:=dh (HJ1.out.below hR2);have HJ2':Hid (IR (fun b=>b < B) W2 u C):=dh (HJ0.out.below hR2)
  skip
  have HT:=dh hT;have HI4:=dh hI42;have HTN:Hid (B + 2≤T∧B + 2≤W2.heap.size):=dh ⟨by have:=HSZ.out;omega,by have:=HSZ.out;omega⟩;simp only [sr,e6,e7,e8];clear hf hD hE e4 e42 e5 e6 e7 e8 hI4 hI42 hT hTn hR2 hsW HP1 HX1 HR1 HI1 HJ1 HSZ HS1;have f:=ff HT.out;generalize hr1:It.look p.kids (It.int n)=r1 at *;cases r1 with
  | some z=>
    simp only [It.opt,Option.getD_some,Option.isSome_some] at *;have t:=cf HT.out;go_upto_region 2 with fail
    clear t f;obtain ⟨W',hW',hp4,hs4,hb4⟩:=p4I (W:=W2) (b:=T) HT.out z ZZ;rw [hW'];clear hW';have HI5:=dh (HI4.out.keep (w':=W') (ok':=fun k=>k < B) fun b hb hl=>⟨hs4.2 b hb.1,hb.2⟩);have HT5:=dh hp4;have HR5:=dh ((hs4.2 (B + 1) (by have:=HTN.out;omega)).trans HR2.out);have HP5:=dh (hb4 B w HP2.out (by have:=HTN.out;omega));have HZ5:Hid (B + 2≤W'.heap.size):=dh (by rw [hs4.1];exact HTN.out.2);clear hp4 hs4 hb4 HI4 HT HR2 HP2;generalize W'=w5 at *;have t:=cf HT5.out;have f:=ff HR5.out;obtain ⟨r0,r1,r2,r3⟩:=cf HR5.out;go_wp2_with fail
    clear t f r0 r1 r2 r3;obtain ⟨W',hW',hp4,hs4,hb4⟩:=p4I (W:=w5) (b:=B + 1) HR5.out z ZZ;rw [hW'];clear hW';obtain ⟨g0,g1,g2,g3⟩:=cf hp4;refine bodyPost_ret (v:=.tuple #[(v4 z ZZ),.bool true]) (by simp [v4,results,Tryz.results88,go_sem,g0,g1,g2,g3]) rfl ?_;have hR9:R=some z:=by
     rw [← HRR.out];unfold It.find2;rw [hr1]
    rw [hR9];refine ⟨_,rfl,?_,ZZ,rfl,?_⟩
    ·show Below _ _ _
     rw [hB];exact hb4 B w HP5.out (by omega)
    ·exact HI5.out.keep fun b hb _=>⟨hs4.2 b (by omega),trivial⟩
  | none=>
    simp only [It.opt,Option.getD_none,Option.isSome_none] at *;have t:=cf HT.out;go_upto_region 4 with fail
    clear t f;obtain ⟨W',hW',hp4,hs4,hb4⟩:=p4I (W:=W2) (b:=T) HT.out (It.mk 0 0 [] []) ZZ;rw [hW'];clear hW';have HR5:=dh ((hs4.2 (B + 1) (by have:=HTN.out;omega)).trans HR2.out);have HX5:=dh ((hs4.2 B (by have:=HTN.out;omega)).trans HX2.out);have HP5:=dh (hb4 B w HP2.out (by have:=HTN.out;omega));have hB5:=hb4 (B + 2) W2 (Below.refl _ _) HTN.out.1;have HZ5:Hid (B + 2≤W'.heap.size):=dh (by rw [hs4.1];exact HTN.out.2);have HJ5:=dh (HJ2'.out.keep (w':=W') (ok':=fun b=>b < B) fun b hb hl=>⟨hs4.2 b (by have:=HTN.out;omega),hb⟩)
    skip
    clear hp4 hs4 hb4 HI4 HT HR2 HP2 hB5 HJ2 HX2;generalize W'=w5 at *;refine rgh (M:=7) (fun b=>b < B) [.eq (.pointer (some ⟨B,4,none⟩)),.it u,.eq (.int .i64 n),.it (It.int n),.op (It.look u.kids (It.int n)),.it (It.opt (It.look u.kids (It.int n))),.eq (.bool (It.look u.kids (It.int n)).isSome)] [.pl,.pl,.pl,.pl,.pl,.la,.la] 7 7 (.any) (by kernel_rfl) (by kernel_rfl) (by kernel_rfl) (fun _ _ o _ _ h=>by cases o <;> exact h) ?_ ?_
    ·refine ⟨?_,?_,?_,?_,?_,?_,?_,trivial⟩<;>intro vs W hR _ hd;exact dfd 28 (.tmp 2) (B) 1 4 rfl (by kernel_rfl) (fieldH1 _);exact dlU (.tmp 18) (B) p u A C hR HX5.out HJ5.out rfl (hd 0 (dd rfl));exact dmv (.tmp 1) rfl (show _=_ by kernel_rfl);(have e2:vs 2=.int .i64 n:=(hd 2 (dd rfl));exact dcl (vals:=#[vs 2]) 62 (.func 62) #[.tmp 20] _ rfl (by kernel_rfl) (by kernel_rfl) (cq Tryz.func62) (by rw [e2];exact h_rint n HN.out W _));exact dcl (vals:=#[vs 1,vs 3]) 87 (.func 87) #[.tmp 19,.tmp 21] _ rfl (by kernel_rfl) (by kernel_rfl) (cq Tryz.func87) (h_at (hd 1 (dd rfl)) (hd 3 (dd rfl)) HLP.out.2);exact late_op0 (.tmp 22) rfl (hd 4 (dd rfl));exact late_op1 (.tmp 22) rfl (hd 4 (dd rfl))
    ·intro vs W6 hR6 hf hD hE
     obtain ⟨Z6,e4,hI6⟩:=hf 4 (dd rfl);have e5:vs 5=_:=ex0 (hE 5 _ (by decide) rfl W6) (.tmp 22) rfl e4;have e6:vs 6=_:=ex1 (hE 6 _ (by decide) rfl W6) (.tmp 22) rfl e4;have hsW:=Below.size hR6;have HP6:=dh (HP5.out.trans (Below.mono hR6 (by have:=HZ5.out;omega)));have HR6:=kp hR6 HR5;have HI6:=dh hI6;have HZ6:Hid (B + 2≤W6.heap.size):=dh (by have:=HZ5.out;omega);simp only [sr,e5,e6];clear hf hD hE e4 e5 e6 hI6 hR6 hsW HP5 HX5 HR5 HJ5;generalize hr2:It.look u.kids (It.int n)=r2 at *;have f:=ff HR6.out;obtain ⟨r0,r1,r3,r4⟩:=cf HR6.out;go_wp2_with fail
     clear f r0 r1 r3 r4;obtain ⟨W',hW',hp4,hs4,hb4⟩:=p4I (W:=W6) (b:=B + 1) HR6.out (It.opt r2) Z6;rw [hW'];clear hW';obtain ⟨g0,g1,g2,g3⟩:=cf hp4;refine bodyPost_ret (v:=.tuple #[.agg #[.int .i64 (It.opt r2).kind,.int .u64 ((It.opt r2).num:Int),.slice Z6.ab Z6.nb Z6.cb,.slice Z6.ai Z6.ni Z6.ci],.bool (Option.isSome r2)]) (by simp [results,Tryz.results88,go_sem,g0,g1,g2,g3]) rfl ?_;have hR9:R=r2:=by
      rw [← HRR.out];unfold It.find2;rw [hr1];exact hr2
     rw [hR9];refine ⟨_,rfl,?_,Z6,rfl,?_⟩
     ·show Below _ _ _
      rw [hB];exact hb4 B w HP6.out (by omega)
     ·exact HI6.out.keep fun b hb _=>⟨hs4.2 b (by omega),trivial⟩
theorem permit_any (k v:It) (A C:Ad) (w:World):Calls Tryz.prog 82 #[.agg #[.int .i64 k.kind,.int .u64 (k.num:Int),.slice A.ab A.nb A.cb,.slice A.ai A.ni A.ci,.int .i64 v.kind,.int .u64 (v.num:Int),.slice C.ab C.nb C.cb,.slice C.ai C.ni C.ci]] w (VP (It.permit (k,v)) w):=by
 have P0:=al w (.cells #[.int .i64 k.kind,.int .u64 (k.num:Int),.slice A.ab A.nb A.cb,.slice A.ai A.ni A.ci,.int .i64 v.kind,.int .u64 (v.num:Int),.slice C.ab C.nb C.cb,.slice C.ai C.ni C.ci] 90);have N0:=aw w (.cells #[.int .i64 k.kind,.int .u64 (k.num:Int),.slice A.ab A.nb A.cb,.slice A.ai A.ni A.ci,.int .i64 v.kind,.int .u64 (v.num:Int),.slice C.ab C.nb C.cb,.slice C.ai C.ni C.ci] 90);have HP:=dh P0;have HN:=dh N0;clear P0 N0;obtain ⟨R,hRR⟩:∃ R,It.permit (k,v)=R:=⟨_,rfl⟩;rw [hRR];have HRR:=dh hRR;clear hRR;go_enter Tryz.func82,Tryz.ntmps82
 go_upto_region 1 with fail
 generalize w.alloc _=w1 at *;have x:=ce HN.out;by_cases h3:k.kind=3
 ·have b3:(k.kind==3)=true:=by simpa using h3
  go_wp2_with fail
  go_ret
  exact ⟨by rw [show R=true from HRR.out.symm.trans (by simp [It.permit,h3])];try rfl,HP.out⟩
 have b3:(k.kind==3)=false:=by simpa using h3
 have HC:=dh (numb_any k A w1);cases hn:It.numb k with
 | false=>
   rw [hn] at HC;go_wp2_with fail
   refine HC.out.mono ?_;rintro e w2 ⟨rfl,B2⟩;have HN2:=kp B2 HN;have HP2:=dh (pt HP.out B2);clear B2 HC HN HP x;have x:=ce HN2.out;go_wp2_with fail
   go_ret
   exact ⟨by rw [show R=false from HRR.out.symm.trans (by simp [It.permit,h3,hn])];try rfl,HP2.out⟩
 | true=>
   rw [hn] at HC;go_wp2_with fail
   refine HC.out.mono ?_;rintro e w2 ⟨rfl,B2⟩;have HN2:=kp B2 HN;have HP2:=dh (pt HP.out B2);clear B2 HC HN HP x;have x:=ce HN2.out;by_cases h1:k.kind=1
   ·have b1:(k.kind==1)=true:=by simpa using h1
    go_wp2_with fail
    go_ret
    exact ⟨by rw [show R=true from HRR.out.symm.trans (by simp [It.permit,h3,hn,h1])];try rfl,HP2.out⟩
   have b1:(k.kind==1)=false:=by simpa using h1
   by_cases n1:k.num=1
   ·have c1:((k.num:Int)==1)=true:=by simpa using (show (k.num:Int)=1 by omega)
    have HC:=dh (numb_any v C w2);cases hv:It.numb v with
    | false=>
      rw [hv] at HC;go_wp2_with fail
      refine HC.out.mono ?_;rintro e w3 ⟨rfl,B3⟩;have HN3:=kp B3 HN2;have HP3:=dh (pt HP2.out B3);clear B3 HC HN2 HP2 x;have x:=ce HN3.out;go_wp2_with fail
      go_ret
      exact ⟨by rw [show R=false from HRR.out.symm.trans (by simp [It.permit,h3,hn,h1,n1,hv])];try rfl,HP3.out⟩
    | true=>
      rw [hv] at HC;go_wp2_with fail
      refine HC.out.mono ?_;rintro e w3 ⟨rfl,B3⟩;have HN3:=kp B3 HN2;have HP3:=dh (pt HP2.out B3);clear B3 HC HN2 HP2 x;have x:=ce HN3.out;by_cases k1:v.kind=1
      ·have d1:(v.kind==1)=true:=by simpa using k1
       go_wp2_with fail
       go_ret
       exact ⟨by rw [show R=true from HRR.out.symm.trans (by simp [It.permit,h3,hn,h1,n1,hv,k1])];try rfl,HP3.out⟩
      have d1:(v.kind==1)=false:=by simpa using k1
      by_cases k0:v.num=0
      ·have d0:((v.num:Int) !=0)=false:=by simpa using (show (v.num:Int)=0 by omega)
       go_wp2_with fail
       go_ret
       exact ⟨by rw [show R=false from HRR.out.symm.trans (by simp [It.permit,h3,hn,h1,n1,hv,k1,k0])];try rfl,HP3.out⟩
      have d0:((v.num:Int) !=0)=true:=by simpa using (show ¬ (v.num:Int)=0 by omega)
      go_wp2_with fail
      go_ret
      exact ⟨by rw [show R=true from HRR.out.symm.trans (by simp [It.permit,h3,hn,h1,n1,hv,k1,k0])];try rfl,HP3.out⟩
   have c1:((k.num:Int)==1)=false:=by simpa using (show ¬ (k.num:Int)=1 by omega)
   obtain ⟨q,hq⟩:∃ q,(v.kind==2)=q:=⟨_,rfl⟩;have hq2:decide (v.kind=2)=q:=by rw [← hq];rfl
   by_cases n4:k.num=4
   ·have c4:((k.num:Int)==4)=true:=by simpa using (show (k.num:Int)=4 by omega)
    go_wp2_with fail
    go_ret
    exact ⟨by rw [show R=q from HRR.out.symm.trans (by rw [← hq2];simp [It.permit,h3,hn,h1,n4])];try rfl,HP2.out⟩
   have c4:((k.num:Int)==4)=false:=by simpa using (show ¬ (k.num:Int)=4 by omega)
   by_cases n5:k.num=5
   ·have c5:((k.num:Int)==5)=true:=by simpa using (show (k.num:Int)=5 by omega)
    go_wp2_with fail
    go_ret
    exact ⟨by rw [show R=q from HRR.out.symm.trans (by rw [← hq2];simp [It.permit,h3,hn,h1,n5])];try rfl,HP2.out⟩
   have c5:((k.num:Int)==5)=false:=by simpa using (show ¬ (k.num:Int)=5 by omega)
   by_cases n6:k.num=6
   ·have c6:((k.num:Int)==6)=true:=by simpa using (show (k.num:Int)=6 by omega)
    go_wp2_with fail
    go_ret
    exact ⟨by rw [show R=q from HRR.out.symm.trans (by rw [← hq2];simp [It.permit,h3,hn,h1,n6])];try rfl,HP2.out⟩
   have c6:((k.num:Int)==6)=false:=by simpa using (show ¬ (k.num:Int)=6 by omega)
   by_cases n12:k.num=12
   ·have c12:((k.num:Int)==12)=true:=by simpa using (show (k.num:Int)=12 by omega)
    go_wp2_with fail
    go_ret
    exact ⟨by rw [show R=q from HRR.out.symm.trans (by rw [← hq2];simp [It.permit,h3,hn,h1,n12])];try rfl,HP2.out⟩
   have c12:((k.num:Int)==12)=false:=by simpa using (show ¬ (k.num:Int)=12 by omega)
   go_wp2_with fail
   go_ret
   exact ⟨by rw [show R=true from HRR.out.symm.trans (by simp [It.permit,h3,hn,h1,n1,n4,n5,n6,n12])];try rfl,HP2.out⟩
