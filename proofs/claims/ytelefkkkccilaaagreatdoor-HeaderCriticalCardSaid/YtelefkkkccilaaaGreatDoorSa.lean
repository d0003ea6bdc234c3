/- Headers: small functions of the program and of the reference. -/
import Derived.Test.YtelefkkkccilaaaGreatDoorHb
import Derived.Test.YtelefkkkccilaaaGreatDoorZb
import Derived.Test.YtelefkkkccilaaaGreatDoorZc
import Derived.Test.YtelefkkkccilaaaGreatDoorZy
set_option maxHeartbeats 8000000
set_option linter.all false
namespace Go.Proofs.YtelefkkkccilaaaGreatDoor
open Go.RowKit
set_option maxRecDepth 100000
theorem ce {w:World} {b:Nat} {x0 x1 x2 x3 x4 x5 x6 x7:Value} {T:Nat} (h:w.heap[b]?=some (.cells #[x0,x1,x2,x3,x4,x5,x6,x7] T (0,0))):w.cell? ⟨b,0,none⟩=some x0∧w.cell? ⟨b,1,none⟩=some x1∧w.cell? ⟨b,2,none⟩=some x2∧w.cell? ⟨b,3,none⟩=some x3∧w.cell? ⟨b,4,none⟩=some x4∧w.cell? ⟨b,5,none⟩=some x5∧w.cell? ⟨b,6,none⟩=some x6∧w.cell? ⟨b,7,none⟩=some x7:=by simp [World.cell?,h]
theorem ck8 {w w':World} {b:Nat} {x0 x1 x2 x3 x4 x5 x6 x7:Value} {T:Nat} (k:Below w.heap.size w w') (H:Hid (w.heap[b]?=some (.cells #[x0,x1,x2,x3,x4,x5,x6,x7] T (0,0)))):w'.cell? ⟨b,0,none⟩=some x0∧w'.cell? ⟨b,1,none⟩=some x1∧w'.cell? ⟨b,2,none⟩=some x2∧w'.cell? ⟨b,3,none⟩=some x3∧w'.cell? ⟨b,4,none⟩=some x4∧w'.cell? ⟨b,5,none⟩=some x5∧w'.cell? ⟨b,6,none⟩=some x6∧w'.cell? ⟨b,7,none⟩=some x7:=ce (kp k H).out
theorem fe8 {w:World} {b:Nat} {x0 x1 x2 x3 x4 x5 x6 x7:Value} {T:Nat} (h:w.heap[b]?=some (.cells #[x0,x1,x2,x3,x4,x5,x6,x7] T (0,0))):w.frozen? ⟨b,0,none⟩=false∧w.frozen? ⟨b,1,none⟩=false∧w.frozen? ⟨b,2,none⟩=false∧w.frozen? ⟨b,3,none⟩=false∧w.frozen? ⟨b,4,none⟩=false∧w.frozen? ⟨b,5,none⟩=false∧w.frozen? ⟨b,6,none⟩=false∧w.frozen? ⟨b,7,none⟩=false:=by simp [World.frozen?,h]
theorem pe8 {W:World} {b:Nat} {x0 x1 x2 x3 x4 x5 x6 x7:Value} {T:Nat} (h:W.heap[b]?=some (.cells #[x0,x1,x2,x3,x4,x5,x6,x7] T (0,0))) (y0 y1 y2 y3 y4 y5 y6 y7:Value):∃ W',(((((((W.setCell ⟨b,0,none⟩ y0).setCell ⟨b,1,none⟩ y1).setCell ⟨b,2,none⟩ y2).setCell ⟨b,3,none⟩ y3).setCell ⟨b,4,none⟩ y4).setCell ⟨b,5,none⟩ y5).setCell ⟨b,6,none⟩ y6).setCell ⟨b,7,none⟩ y7=W'∧W'.heap[b]?=some (.cells #[y0,y1,y2,y3,y4,y5,y6,y7] T (0,0))∧(W'.heap.size=W.heap.size∧∀ k,k≠b→W'.heap[k]?=W.heap[k]?)∧∀ (n:Nat) (u:World),Below n u W→n≤b→Below n u W':=by
 refine ⟨_,rfl,?_,⟨by simp [World.setCell],fun k hk=>?_⟩,fun n u hu hb=>?_⟩
 ·have h0:=sar h 0 y0
  have h1:=sar h0 1 y1;have h2:=sar h1 2 y2;have h3:=sar h2 3 y3;have h4:=sar h3 4 y4;have h5:=sar h4 5 y5;have h6:=sar h5 6 y6;have h7:=sar h6 7 y7;rw [h7];simp
 ·have h:k≠b:=hk
  rw [Below.heap_setCell _ _ _ _ h,Below.heap_setCell _ _ _ _ h,Below.heap_setCell _ _ _ _ h,Below.heap_setCell _ _ _ _ h,Below.heap_setCell _ _ _ _ h,Below.heap_setCell _ _ _ _ h,Below.heap_setCell _ _ _ _ h,Below.heap_setCell _ _ _ _ h]
 ·exact (((((((hu.setCell (p:=⟨b,0,none⟩) hb y0).setCell (p:=⟨b,1,none⟩) hb y1).setCell (p:=⟨b,2,none⟩) hb y2).setCell (p:=⟨b,3,none⟩) hb y3).setCell (p:=⟨b,4,none⟩) hb y4).setCell (p:=⟨b,5,none⟩) hb y5).setCell (p:=⟨b,6,none⟩) hb y6).setCell (p:=⟨b,7,none⟩) hb y7
theorem p8I {W:World} {b:Nat} {x0 x1 x2 x3 x4 x5 x6 x7:Value} {T:Nat} (h:W.heap[b]?=some (.cells #[x0,x1,x2,x3,x4,x5,x6,x7] T (0,0))) (p u:It) (A C:Ad):∃ W',((((((((W.setCell ⟨b,0,none⟩ (.int .i64 p.kind)).setCell ⟨b,1,none⟩ (.int .u64 (p.num:Int))).setCell ⟨b,2,none⟩ (.slice A.ab A.nb A.cb)).setCell ⟨b,3,none⟩ (.slice A.ai A.ni A.ci)).setCell ⟨b,4,none⟩ (.int .i64 u.kind)).setCell ⟨b,5,none⟩ (.int .u64 (u.num:Int))).setCell ⟨b,6,none⟩ (.slice C.ab C.nb C.cb)).setCell ⟨b,7,none⟩ (.slice C.ai C.ni C.ci))=W'∧W'.heap[b]?=some (.cells #[.int .i64 p.kind,.int .u64 (p.num:Int),.slice A.ab A.nb A.cb,.slice A.ai A.ni A.ci,.int .i64 u.kind,.int .u64 (u.num:Int),.slice C.ab C.nb C.cb,.slice C.ai C.ni C.ci] T (0,0))∧(W'.heap.size=W.heap.size∧∀ k,k≠b→W'.heap[k]?=W.heap[k]?)∧∀ (n:Nat) (u:World),Below n u W→n≤b→Below n u W':=pe8 h _ _ _ _ _ _ _ _
theorem int_it (n:Int):intIt n=It.int n:=rfl
theorem hempty_any (w:World):Calls Tryz.prog 23 #[] w fun e w'=>e=.returned (.agg #[.int .i64 5,.int .u64 0,.slice none 0 0,.slice none 0 0,.int .i64 5,.int .u64 0,.slice none 0 0,.slice none 0 0])∧Below w.heap.size w w':=by
 have P0:=al w o8z;have HN:=dh (aw w o8z);have HP:=dh P0;clear P0;go_enter Tryz.func23,Tryz.ntmps23
 go_upto_region 1 with fail
 generalize w.alloc o8z=w1 at *;generalize hB:w.heap.size=B at *;have r:=ce HN.out;have q:=fe8 HN.out;go_wp2_with fail
 clear r q;obtain ⟨W',hW',hp8,hs8,hb8⟩:=pe8 HN.out (.int .i64 5) (.int .u64 0) (.slice none 0 0) (.slice none 0 0) (.int .i64 5) (.int .u64 0) (.slice none 0 0) (.slice none 0 0);rw [hW'];clear hW';obtain ⟨g0,g1,g2,g3,g4,g5,g6,g7⟩:=ce hp8;refine bodyPost_ret (v:=.agg #[.int .i64 5,.int .u64 0,.slice none 0 0,.slice none 0 0,.int .i64 5,.int .u64 0,.slice none 0 0,.slice none 0 0]) (by simp [results,Tryz.results23,go_sem,g0,g1,g2,g3,g4,g5,g6,g7]) rfl ?_;exact ⟨rfl,by rw [hB];exact hb8 B w HP.out (by omega)⟩
theorem remty_any (w:World):Calls Tryz.prog 24 #[] w fun e w'=>e=.returned (.agg #[.int .i64 5,.int .u64 0,.slice none 0 0,.slice none 0 0,.int .i64 5,.int .u64 0,.slice none 0 0,.slice none 0 0])∧Below w.heap.size w w':=by
 have P0:=al w o8z;have HN:=dh (aw w o8z);have HP:=dh P0;clear P0;go_enter Tryz.func24,Tryz.ntmps24
 go_upto_region 1 with fail
 generalize w.alloc o8z=w1 at *;generalize hB:w.heap.size=B at *;have r:=ce HN.out;have q:=fe8 HN.out;go_wp2_with fail
 clear r q;obtain ⟨W',hW',hp8,hs8,hb8⟩:=pe8 HN.out (.int .i64 5) (.int .u64 0) (.slice none 0 0) (.slice none 0 0) (.int .i64 5) (.int .u64 0) (.slice none 0 0) (.slice none 0 0);rw [hW'];clear hW';obtain ⟨g0,g1,g2,g3,g4,g5,g6,g7⟩:=ce hp8;refine bodyPost_ret (v:=.agg #[.int .i64 5,.int .u64 0,.slice none 0 0,.slice none 0 0,.int .i64 5,.int .u64 0,.slice none 0 0,.slice none 0 0]) (by simp [results,Tryz.results24,go_sem,g0,g1,g2,g3,g4,g5,g6,g7]) rfl ?_;exact ⟨rfl,by rw [hB];exact hb8 B w HP.out (by omega)⟩
theorem numb_any (x:It) (A:Ad) (w:World):Calls Tryz.prog 118 #[.agg #[.int .i64 x.kind,.int .u64 (x.num:Int),.slice A.ab A.nb A.cb,.slice A.ai A.ni A.ci]] w (VP (It.numb x) w):=by
 obtain ⟨k,hk⟩:∃ k,x.kind=k:=⟨_,rfl⟩;obtain ⟨n,hn⟩:∃ n:Int,(x.num:Int)=n:=⟨_,rfl⟩;obtain ⟨P0,N0⟩:=an w (oc k n A.ab A.nb A.cb A.ai A.ni A.ci);obtain ⟨x0,x1,x2,x3⟩:=cf N0;have hR:It.numb x=((k==0 || k==1) && decide (n≤65535)):=by
  rw [← hk,← hn];unfold It.numb;rw [Bool.eq_iff_iff];simp only [Bool.and_eq_true,Bool.or_eq_true,decide_eq_true_eq,beq_iff_eq];omega
 rw [hR,hk,hn];have HP:=dh P0;clear P0 N0 hR hk hn;go_enter Tryz.func118,Tryz.ntmps118
 go_upto_region 1 with fail
 generalize w.alloc _=w1 at *;obtain ⟨b0,hb0⟩:∃ b,(k==0)=b:=⟨_,rfl⟩;obtain ⟨b1,hb1⟩:∃ b,(k==1)=b:=⟨_,rfl⟩;obtain ⟨b2,hb2⟩:∃ b,(k==3)=b:=⟨_,rfl⟩;obtain ⟨b3,hb3⟩:∃ b,decide (n≤65535)=b:=⟨_,rfl⟩;cases b0 <;> cases b1 <;> cases b3 <;> (go_wp2_with fail;go_ret;exact ⟨by simp only [hb0,hb1,hb2,hb3];rfl,HP.out⟩)
theorem labr_any (x:It) (A:Ad) (w:World):Calls Tryz.prog 85 #[.agg #[.int .i64 x.kind,.int .u64 (x.num:Int),.slice A.ab A.nb A.cb,.slice A.ai A.ni A.ci]] w (VP (It.labR x) w):=by
 obtain ⟨k,hk⟩:∃ k,x.kind=k:=⟨_,rfl⟩;obtain ⟨n,hn⟩:∃ n:Int,(x.num:Int)=n:=⟨_,rfl⟩;obtain ⟨P0,N0⟩:=an w (oc k n A.ab A.nb A.cb A.ai A.ni A.ci);obtain ⟨x0,x1,x2,x3⟩:=cf N0;have hR:It.labR x=(k==3 || (k==0 || k==1) && decide (n≤65535)):=by
  rw [← hk,← hn];unfold It.labR It.numb;rw [Bool.eq_iff_iff];simp only [Bool.and_eq_true,Bool.or_eq_true,decide_eq_true_eq,beq_iff_eq];omega
 rw [hR,hk,hn];have HP:=dh P0;clear P0 N0 hR hk hn;go_enter Tryz.func85,Tryz.ntmps85
 go_upto_region 1 with fail
 generalize w.alloc _=w1 at *;obtain ⟨b0,hb0⟩:∃ b,(k==0)=b:=⟨_,rfl⟩;obtain ⟨b1,hb1⟩:∃ b,(k==1)=b:=⟨_,rfl⟩;obtain ⟨b2,hb2⟩:∃ b,(k==3)=b:=⟨_,rfl⟩;obtain ⟨b3,hb3⟩:∃ b,decide (n≤65535)=b:=⟨_,rfl⟩;cases b0 <;> cases b1 <;> cases b3 <;> cases b2 <;> (go_wp2_with fail;go_ret;exact ⟨by simp only [hb0,hb1,hb2,hb3];rfl,HP.out⟩)
