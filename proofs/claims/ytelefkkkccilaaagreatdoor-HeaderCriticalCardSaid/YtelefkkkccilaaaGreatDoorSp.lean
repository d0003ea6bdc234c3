/- The headers that the laws look at, and their examples. -/
import Derived.Test.YtelefkkkccilaaaGreatDoorSo
import Derived.Test.YtelefkkkccilaaaGreatDoorLP
set_option maxHeartbeats 16000000
set_option linter.all false
namespace Go.Proofs.YtelefkkkccilaaaGreatDoor
open Go.RowKit
set_option maxRecDepth 100000
def cells8 (e:It × Ad × It × Ad):List Value:=[.int .i64 e.1.kind,.int .u64 (e.1.num:Int),.slice e.2.1.ab e.2.1.nb e.2.1.cb,.slice e.2.1.ai e.2.1.ni e.2.1.ci,.int .i64 e.2.2.1.kind,.int .u64 (e.2.2.1.num:Int),.slice e.2.2.2.ab e.2.2.2.nb e.2.2.2.cb,.slice e.2.2.2.ai e.2.2.2.ni e.2.2.2.ci]
theorem flat8_get:∀ (es:List (It × Ad × It × Ad)) (i:Nat) (h:i < es.length) (j:Nat),j < 8→(es.flatMap cells8)[i * 8 + j]?=(cells8 es[i])[j]?
 | [],i,h,_,_=>by simp at h
 | e :: es,i,h,j,hj=>by
   rw [List.flatMap_cons];cases i with
   | zero=>rw [List.getElem?_append_left (by simp [cells8];omega)];simp
   | succ i=>
     rw [List.getElem?_append_right (by simp [cells8];omega)];have:(i + 1) * 8 + j - (cells8 e).length=i * 8 + j:=by simp [cells8];omega
     rw [this,flat8_get es i (by simpa using h) j hj];simp
def HRow (W:World) (X n:Nat):Prop:=∀ k,k < n→∃ (p u:It) (A C:Ad),(W.cell? ⟨X,k * 8,none⟩=some (.int .i64 p.kind)∧W.cell? ⟨X,k * 8 + 1,none⟩=some (.int .u64 (p.num:Int))∧W.cell? ⟨X,k * 8 + 2,none⟩=some (.slice A.ab A.nb A.cb)∧W.cell? ⟨X,k * 8 + 3,none⟩=some (.slice A.ai A.ni A.ci)∧W.cell? ⟨X,k * 8 + 4,none⟩=some (.int .i64 u.kind)∧W.cell? ⟨X,k * 8 + 5,none⟩=some (.int .u64 (u.num:Int))∧W.cell? ⟨X,k * 8 + 6,none⟩=some (.slice C.ab C.nb C.cb)∧W.cell? ⟨X,k * 8 + 7,none⟩=some (.slice C.ai C.ni C.ci))∧IR (fun _=>True) W p A∧IR (fun _=>True) W u C
theorem HRow.of {W:World} {X T:Nat} {es:List (It × Ad × It × Ad)} (h:W.heap[X]?=some (.cells (es.flatMap cells8).toArray T (0,0))) (hI:∀ e ∈ es,IR (fun _=>True) W e.1 e.2.1∧IR (fun _=>True) W e.2.2.1 e.2.2.2):HRow W X es.length:=by
 intro k hk;have c:∀ j,j < 8→W.cell? ⟨X,k * 8 + j,none⟩=(cells8 es[k])[j]?:=fun j hj=>by
  rw [cr h];simpa using flat8_get es k hk j hj
 refine ⟨es[k].1,es[k].2.2.1,es[k].2.1,es[k].2.2.2,⟨?_,?_,?_,?_,?_,?_,?_,?_⟩,hI _ (List.getElem_mem hk)⟩
 ·have h:=c 0 (by decide);simp only [cells8,List.getElem?_cons_zero,List.getElem?_cons_succ,Nat.add_zero] at h;exact h
 ·have h:=c 1 (by decide);simp only [cells8,List.getElem?_cons_zero,List.getElem?_cons_succ,Nat.add_zero] at h;exact h
 ·have h:=c 2 (by decide);simp only [cells8,List.getElem?_cons_zero,List.getElem?_cons_succ,Nat.add_zero] at h;exact h
 ·have h:=c 3 (by decide);simp only [cells8,List.getElem?_cons_zero,List.getElem?_cons_succ,Nat.add_zero] at h;exact h
 ·have h:=c 4 (by decide);simp only [cells8,List.getElem?_cons_zero,List.getElem?_cons_succ,Nat.add_zero] at h;exact h
 ·have h:=c 5 (by decide);simp only [cells8,List.getElem?_cons_zero,List.getElem?_cons_succ,Nat.add_zero] at h;exact h
 ·have h:=c 6 (by decide);simp only [cells8,List.getElem?_cons_zero,List.getElem?_cons_succ,Nat.add_zero] at h;exact h
 ·have h:=c 7 (by decide);simp only [cells8,List.getElem?_cons_zero,List.getElem?_cons_succ,Nat.add_zero] at h;exact h
theorem HRow.below {W W':World} {X n:Nat} (h:HRow W X n) (hB:Below W.heap.size W W') (hX:X < W.heap.size):HRow W' X n:=fun k hk=>by
 obtain ⟨p,u,A,C,hc,hI,hJ⟩:=h k hk;have e:∀ q,W'.cell? ⟨X,q,none⟩=W.cell? ⟨X,q,none⟩:=fun q=>cu (hB.block X hX)
 refine ⟨p,u,A,C,?_,hI.below hB,hJ.below hB⟩;simp only [e];exact hc
def AllP (w:World) (e:Ending) (w':World):Prop:=∃ X,e=.returned (.slice (some ⟨X,0,none⟩) 5 5)∧HRow w' X 5∧X < w'.heap.size∧Below w.heap.size w w'
theorem wp_val {P:Program} {w w':World} {o:Oper} {a:Act} {K:Act→World→Prop} {Q:Exit→Act→World→Prop} {v:Value} (hrun:(execOp a.eval o).run P w=.ok (.value v) w') (h:K (a.put o.dst v) w'):o.wp P a w K Q:=by
 unfold Oper.wp;rw [hrun];exact h
theorem run_five (p0 u0 p1 u1 p2 u2 p3 u3 p4 u4:It) (A0 C0 A1 C1 A2 C2 A3 C3 A4 C4:Ad) (w:World):(Instr.buildSlice 30 5 #[(0,.agg #[.int .i64 p0.kind,.int .u64 (p0.num:Int),.slice A0.ab A0.nb A0.cb,.slice A0.ai A0.ni A0.ci,.int .i64 u0.kind,.int .u64 (u0.num:Int),.slice C0.ab C0.nb C0.cb,.slice C0.ai C0.ni C0.ci]),(1,.agg #[.int .i64 p1.kind,.int .u64 (p1.num:Int),.slice A1.ab A1.nb A1.cb,.slice A1.ai A1.ni A1.ci,.int .i64 u1.kind,.int .u64 (u1.num:Int),.slice C1.ab C1.nb C1.cb,.slice C1.ai C1.ni C1.ci]),(2,.agg #[.int .i64 p2.kind,.int .u64 (p2.num:Int),.slice A2.ab A2.nb A2.cb,.slice A2.ai A2.ni A2.ci,.int .i64 u2.kind,.int .u64 (u2.num:Int),.slice C2.ab C2.nb C2.cb,.slice C2.ai C2.ni C2.ci]),(3,.agg #[.int .i64 p3.kind,.int .u64 (p3.num:Int),.slice A3.ab A3.nb A3.cb,.slice A3.ai A3.ni A3.ci,.int .i64 u3.kind,.int .u64 (u3.num:Int),.slice C3.ab C3.nb C3.cb,.slice C3.ai C3.ni C3.ci]),(4,.agg #[.int .i64 p4.kind,.int .u64 (p4.num:Int),.slice A4.ab A4.nb A4.cb,.slice A4.ai A4.ni A4.ci,.int .i64 u4.kind,.int .u64 (u4.num:Int),.slice C4.ab C4.nb C4.cb,.slice C4.ai C4.ni C4.ci])]).run Tryz.prog w=.ok (.slice (some ⟨w.heap.size,0,none⟩) 5 5) (w.alloc (.cells #[.int .i64 p0.kind,.int .u64 (p0.num:Int),.slice A0.ab A0.nb A0.cb,.slice A0.ai A0.ni A0.ci,.int .i64 u0.kind,.int .u64 (u0.num:Int),.slice C0.ab C0.nb C0.cb,.slice C0.ai C0.ni C0.ci,.int .i64 p1.kind,.int .u64 (p1.num:Int),.slice A1.ab A1.nb A1.cb,.slice A1.ai A1.ni A1.ci,.int .i64 u1.kind,.int .u64 (u1.num:Int),.slice C1.ab C1.nb C1.cb,.slice C1.ai C1.ni C1.ci,.int .i64 p2.kind,.int .u64 (p2.num:Int),.slice A2.ab A2.nb A2.cb,.slice A2.ai A2.ni A2.ci,.int .i64 u2.kind,.int .u64 (u2.num:Int),.slice C2.ab C2.nb C2.cb,.slice C2.ai C2.ni C2.ci,.int .i64 p3.kind,.int .u64 (p3.num:Int),.slice A3.ab A3.nb A3.cb,.slice A3.ai A3.ni A3.ci,.int .i64 u3.kind,.int .u64 (u3.num:Int),.slice C3.ab C3.nb C3.cb,.slice C3.ai C3.ni C3.ci,.int .i64 p4.kind,.int .u64 (p4.num:Int),.slice A4.ab A4.nb A4.cb,.slice A4.ai A4.ni A4.ci,.int .i64 u4.kind,.int .u64 (u4.num:Int),.slice C4.ab C4.nb C4.cb,.slice C4.ai C4.ni C4.ci] 28)):=by
 go_simp
theorem wp_five {w:World} {o:Oper} {a:Act} {K:Act→World→Prop} {Q:Exit→Act→World→Prop} (x0 x1 x2 x3 x4:Operand) (p0 u0 p1 u1 p2 u2 p3 u3 p4 u4:It) (A0 C0 A1 C1 A2 C2 A3 C3 A4 C4:Ad) (ho:o.op=.buildSlice 30 5 #[(0,x0),(1,x1),(2,x2),(3,x3),(4,x4)]) (h0:a.eval x0=.agg #[.int .i64 p0.kind,.int .u64 (p0.num:Int),.slice A0.ab A0.nb A0.cb,.slice A0.ai A0.ni A0.ci,.int .i64 u0.kind,.int .u64 (u0.num:Int),.slice C0.ab C0.nb C0.cb,.slice C0.ai C0.ni C0.ci]) (h1:a.eval x1=.agg #[.int .i64 p1.kind,.int .u64 (p1.num:Int),.slice A1.ab A1.nb A1.cb,.slice A1.ai A1.ni A1.ci,.int .i64 u1.kind,.int .u64 (u1.num:Int),.slice C1.ab C1.nb C1.cb,.slice C1.ai C1.ni C1.ci]) (h2:a.eval x2=.agg #[.int .i64 p2.kind,.int .u64 (p2.num:Int),.slice A2.ab A2.nb A2.cb,.slice A2.ai A2.ni A2.ci,.int .i64 u2.kind,.int .u64 (u2.num:Int),.slice C2.ab C2.nb C2.cb,.slice C2.ai C2.ni C2.ci]) (h3:a.eval x3=.agg #[.int .i64 p3.kind,.int .u64 (p3.num:Int),.slice A3.ab A3.nb A3.cb,.slice A3.ai A3.ni A3.ci,.int .i64 u3.kind,.int .u64 (u3.num:Int),.slice C3.ab C3.nb C3.cb,.slice C3.ai C3.ni C3.ci]) (h4:a.eval x4=.agg #[.int .i64 p4.kind,.int .u64 (p4.num:Int),.slice A4.ab A4.nb A4.cb,.slice A4.ai A4.ni A4.ci,.int .i64 u4.kind,.int .u64 (u4.num:Int),.slice C4.ab C4.nb C4.cb,.slice C4.ai C4.ni C4.ci]) (h:K (a.put o.dst (.slice (some ⟨w.heap.size,0,none⟩) 5 5)) (w.alloc (.cells (List.flatMap cells8 [(p0,A0,u0,C0),(p1,A1,u1,C1),(p2,A2,u2,C2),(p3,A3,u3,C3),(p4,A4,u4,C4)]).toArray 28))):o.wp Tryz.prog a w K Q:=by
 have hr:(Instr.buildSlice 30 5 #[(0,.agg #[.int .i64 p0.kind,.int .u64 (p0.num:Int),.slice A0.ab A0.nb A0.cb,.slice A0.ai A0.ni A0.ci,.int .i64 u0.kind,.int .u64 (u0.num:Int),.slice C0.ab C0.nb C0.cb,.slice C0.ai C0.ni C0.ci]),(1,.agg #[.int .i64 p1.kind,.int .u64 (p1.num:Int),.slice A1.ab A1.nb A1.cb,.slice A1.ai A1.ni A1.ci,.int .i64 u1.kind,.int .u64 (u1.num:Int),.slice C1.ab C1.nb C1.cb,.slice C1.ai C1.ni C1.ci]),(2,.agg #[.int .i64 p2.kind,.int .u64 (p2.num:Int),.slice A2.ab A2.nb A2.cb,.slice A2.ai A2.ni A2.ci,.int .i64 u2.kind,.int .u64 (u2.num:Int),.slice C2.ab C2.nb C2.cb,.slice C2.ai C2.ni C2.ci]),(3,.agg #[.int .i64 p3.kind,.int .u64 (p3.num:Int),.slice A3.ab A3.nb A3.cb,.slice A3.ai A3.ni A3.ci,.int .i64 u3.kind,.int .u64 (u3.num:Int),.slice C3.ab C3.nb C3.cb,.slice C3.ai C3.ni C3.ci]),(4,.agg #[.int .i64 p4.kind,.int .u64 (p4.num:Int),.slice A4.ab A4.nb A4.cb,.slice A4.ai A4.ni A4.ci,.int .i64 u4.kind,.int .u64 (u4.num:Int),.slice C4.ab C4.nb C4.cb,.slice C4.ai C4.ni C4.ci])]).run Tryz.prog w=.ok (.slice (some ⟨w.heap.size,0,none⟩) 5 5) (w.alloc (.cells (List.flatMap cells8 [(p0,A0,u0,C0),(p1,A1,u1,C1),(p2,A2,u2,C2),(p3,A3,u3,C3),(p4,A4,u4,C4)]).toArray 28)):=run_five p0 u0 p1 u1 p2 u2 p3 u3 p4 u4 A0 C0 A1 C1 A2 C2 A3 C3 A4 C4 w;generalize w.alloc (.cells (List.flatMap cells8 [(p0,A0,u0,C0),(p1,A1,u1,C1),(p2,A2,u2,C2),(p3,A3,u3,C3),(p4,A4,u4,C4)]).toArray 28)=W' at *;refine wp_val (v:=.slice (some ⟨w.heap.size,0,none⟩) 5 5) (w':=W') ?_ h;simp only [execOp,ho,List.map_toArray,List.map_cons,List.map_nil,h0,h1,h2,h3,h4,Sem.run_bind,hr,Result.andThen_ok,Sem.run_pure]
def GH (b N T:Nat) (w2:World) (m:Nat) (W:World):Prop:=∃ (p u:It) (A C:Ad),W.heap[T]?=some (o8 p u A C)∧(It.StP p∧It.StP u)∧IR (fun q=>b < q) W p A∧IR (fun q=>b < q) W u C∧m < T
theorem hdk_st {k:Nat} {p u:It} (h:It.HDk k p u):It.StP p∧It.StP u:=by
 have:=It.hvalid_maps h.1;exact ⟨st_valid this.1.1,st_valid this.2.1⟩
theorem all_any (p u:It) (A C:Ad) (w:World) (ok ok':Nat→Prop) (hI:IR ok w p A) (hJ:IR ok' w u C) (hE:Env w) (la:Option Addr) (ln lc:Nat) (hL:InL w la ln):Calls Tryz.prog 17 #[.agg #[.int .i64 p.kind,.int .u64 (p.num:Int),.slice A.ab A.nb A.cb,.slice A.ai A.ni A.ci,.int .i64 u.kind,.int .u64 (u.num:Int),.slice C.ab C.nb C.cb,.slice C.ai C.ni C.ci],.slice la ln lc] w (AllP w):=by
 obtain ⟨P0,N0⟩:=an w (o8 p u A C);have HX:=dh N0;have HP:=dh P0;have HI:=dh ((hI.imp (ok':=fun q=>q < w.heap.size) fun q _ hq=>hq).below P0);have HJ:=dh ((hJ.imp (ok':=fun q=>q < w.heap.size) fun q _ hq=>hq).below P0);have HE:=dh (hE.below P0);have HL:=dh (hL.below P0);have HE1:=dh hE.lt;have hsz:(w.alloc (o8 p u A C)).heap.size=w.heap.size + 1:=by simp
 clear P0 N0 hI hJ hE hL;go_enter Tryz.func17,Tryz.ntmps17
 go_upto_region 1 with fail
 generalize w.alloc _=w1 at *;generalize hB:w.heap.size=B at *;go_wp2_with fail
 refine (new_any la ln lc w1).mono ?_;rintro e w1' ⟨rfl,rfl⟩;have PD:=al w1 (.cells #[.slice la ln lc,.int .i64 0] 94);have HD:=dh (HL.out.deck lc);have HX2:=kp PD HX;have HP2:=dh (bwt HP.out PD hB);have HI2:=dh (HI.out.below PD);have HJ2:=dh (HJ.out.below PD);have HE2:=dh (HE.out.below PD);clear PD HL HX HP HI HJ HE;go_upto_region 2 with fail
 generalize w1.alloc _=w2 at *;rw [hsz] at HD;obtain ⟨b,hb⟩:∃ b,b=B + 1:=⟨_,rfl⟩;rw [← hb] at HD ⊢;have hBb:B < b:=by omega
 have h1b:1 < b:=by have:=HE1.out;omega
 have HDW:=dh (DW.start HD.out);clear hb hsz HE1 HD;go_cut [6] from 10 to 16 (fun a W=>∃ T,a=.pointer (some ⟨T,0,none⟩)∧GH b 0 T w2 b W∧DW b w2 W)
 case first=>
  have Q1:=al w2 (.cells #[.int .i64 0,.int .i64 10,.int .i64 30,.int .i64 (-8)] 3);have HL4:=dh (aw w2 (.cells #[.int .i64 0,.int .i64 10,.int .i64 30,.int .i64 (-8)] 3));have HD3:=dh (HDW.out.down Q1 (Nat.le_refl _));clear Q1;go_wp2_with fail
  generalize w2.alloc _=w3 at *;have HTL:Hid (b < w2.heap.size):=dh HDW.out.lt;generalize hTL:w2.heap.size=TL0 at *;refine (nxa b 4 w3 HD3.out.deck (by omega) (by omega)).mono ?_;rintro e w4 ⟨r,hr0,hr1,rfl,hD4,hB4,hs4⟩;have HD4:=dh (HD3.out.next hD4 hB4);have HL5:=dh ((hB4.block TL0 (lb HL4.out) (by have:=HTL.out;omega)).trans HL4.out);clear hD4 hB4 hs4 HL4 HD3 hTL;obtain ⟨r0,r1,r2,r3⟩:=cf HL5.out;have hr:r=0∨r=1∨r=2∨r=3:=by omega
  clear hr0 hr1;rcases hr with rfl | rfl | rfl | rfl
  ·have HC:=dh (headers_any 0 (by decide) b w4 HD4.out.deck (But.env HE2.out HD4.out.but h1b) h1b)
   go_wp2_with fail
   refine HC.out.mono ?_;rintro e w5 ⟨p1,u1,A1,C1,rfl,hk1,hI1,hJ1,hW1⟩;obtain ⟨Q5,hT5⟩:=an w5 (o8 p1 u1 A1 C1);have HG:Hid (GH b 0 w5.heap.size w2 b (w5.alloc (o8 p1 u1 A1 C1))):=dh ⟨p1,u1,A1,C1,hT5,hdk_st hk1,(hI1.imp (ok':=fun q=>b < q) fun q hq _=>by have:=hW1.lt;omega).below Q5,(hJ1.imp (ok':=fun q=>b < q) fun q hq _=>by have:=hW1.lt;omega).below Q5,by have:=hW1.lt;have:=hW1.but.size;omega⟩;have HD5:=dh ((HD4.out.next hW1.deck hW1.but).down Q5 (by have:=(HD4.out.next hW1.deck hW1.but).but.size;exact this));clear hk1 hI1 hJ1 hW1 Q5 hT5 HC HD4 r0 r1 r2 r3;go_wp2_with fail
   go_meet
   exact ⟨_,rfl,HG.out,HD5.out⟩
  ·have HC:=dh (headers_any 10 (by decide) b w4 HD4.out.deck (But.env HE2.out HD4.out.but h1b) h1b)
   go_wp2_with fail
   refine HC.out.mono ?_;rintro e w5 ⟨p1,u1,A1,C1,rfl,hk1,hI1,hJ1,hW1⟩;obtain ⟨Q5,hT5⟩:=an w5 (o8 p1 u1 A1 C1);have HG:Hid (GH b 0 w5.heap.size w2 b (w5.alloc (o8 p1 u1 A1 C1))):=dh ⟨p1,u1,A1,C1,hT5,hdk_st hk1,(hI1.imp (ok':=fun q=>b < q) fun q hq _=>by have:=hW1.lt;omega).below Q5,(hJ1.imp (ok':=fun q=>b < q) fun q hq _=>by have:=hW1.lt;omega).below Q5,by have:=hW1.lt;have:=hW1.but.size;omega⟩;have HD5:=dh ((HD4.out.next hW1.deck hW1.but).down Q5 (by have:=(HD4.out.next hW1.deck hW1.but).but.size;exact this));clear hk1 hI1 hJ1 hW1 Q5 hT5 HC HD4 r0 r1 r2 r3;go_wp2_with fail
   go_meet
   exact ⟨_,rfl,HG.out,HD5.out⟩
  ·have HC:=dh (headers_any 30 (by decide) b w4 HD4.out.deck (But.env HE2.out HD4.out.but h1b) h1b)
   go_wp2_with fail
   refine HC.out.mono ?_;rintro e w5 ⟨p1,u1,A1,C1,rfl,hk1,hI1,hJ1,hW1⟩;obtain ⟨Q5,hT5⟩:=an w5 (o8 p1 u1 A1 C1);have HG:Hid (GH b 0 w5.heap.size w2 b (w5.alloc (o8 p1 u1 A1 C1))):=dh ⟨p1,u1,A1,C1,hT5,hdk_st hk1,(hI1.imp (ok':=fun q=>b < q) fun q hq _=>by have:=hW1.lt;omega).below Q5,(hJ1.imp (ok':=fun q=>b < q) fun q hq _=>by have:=hW1.lt;omega).below Q5,by have:=hW1.lt;have:=hW1.but.size;omega⟩;have HD5:=dh ((HD4.out.next hW1.deck hW1.but).down Q5 (by have:=(HD4.out.next hW1.deck hW1.but).but.size;exact this));clear hk1 hI1 hJ1 hW1 Q5 hT5 HC HD4 r0 r1 r2 r3;go_wp2_with fail
   go_meet
   exact ⟨_,rfl,HG.out,HD5.out⟩
  ·have HC:=dh (headers_any (-8) (by decide) b w4 HD4.out.deck (But.env HE2.out HD4.out.but h1b) h1b)
   go_wp2_with fail
   refine HC.out.mono ?_;rintro e w5 ⟨p1,u1,A1,C1,rfl,hk1,hI1,hJ1,hW1⟩;obtain ⟨Q5,hT5⟩:=an w5 (o8 p1 u1 A1 C1);have HG:Hid (GH b 0 w5.heap.size w2 b (w5.alloc (o8 p1 u1 A1 C1))):=dh ⟨p1,u1,A1,C1,hT5,hdk_st hk1,(hI1.imp (ok':=fun q=>b < q) fun q hq _=>by have:=hW1.lt;omega).below Q5,(hJ1.imp (ok':=fun q=>b < q) fun q hq _=>by have:=hW1.lt;omega).below Q5,by have:=hW1.lt;have:=hW1.but.size;omega⟩;have HD5:=dh ((HD4.out.next hW1.deck hW1.but).down Q5 (by have:=(HD4.out.next hW1.deck hW1.but).but.size;exact this));clear hk1 hI1 hJ1 hW1 Q5 hT5 HC HD4 r0 r1 r2 r3;go_wp2_with fail
   go_meet
   exact ⟨_,rfl,HG.out,HD5.out⟩
 case rest=>
  obtain ⟨T6,rfl,hG,hW⟩:=hcut;obtain ⟨p1,u1,A1,C1,hT6,hst1,hI1,hJ1,hT6g⟩:=hG;have HT6:=dh hT6;have HST1:=dh hst1;have HI1:=dh hI1;have HJ1:=dh hJ1;have HT6G:=dh hT6g;have HW:=dh hW;have HX3:=dh ((hW.but.block B (lb HX2.out) (by omega)).trans HX2.out);have HI3:=dh (But.ir HI2.out hW.but (fun q hq=>by omega));have HJ3:=dh (But.ir HJ2.out hW.but (fun q hq=>by omega));clear hT6 hst1 hI1 hJ1 hT6g hW HX2 HI2 HJ2 HDW;have t:=ce HT6.out;have HC:=dh (hspoilt_any p1 u1 A1 C1 b wc _ _ HW.out.deck (But.env HE2.out HW.out.but h1b) h1b HI1.out HJ1.out HST1.out);go_wp2_with fail
  refine HC.out.mono ?_;rintro e w3 ⟨p2,u2,A2,C2,rfl,hst2,hI2,hJ2,hW2⟩;have Q3:=al w3 (o8 p2 u2 A2 C2);have HT7:=dh (aw w3 (o8 p2 u2 A2 C2));have HT6':=dh (Below.keep Q3 ((hW2.but.block T6 (lb HT6.out) (by have:=HT6G.out;omega)).trans HT6.out) (by have:=hW2.but.size;have:=lb HT6.out;omega));have HX4:=dh (Below.keep Q3 ((hW2.but.block B (lb HX3.out) (by omega)).trans HX3.out) (by have:=hW2.but.size;have:=lb HX3.out;omega));have HI4:=dh ((But.ir HI3.out hW2.but (fun q hq=>by omega)).below Q3);have HJ4:=dh ((But.ir HJ3.out hW2.but (fun q hq=>by omega)).below Q3);have HI14:=dh ((But.ir HI1.out hW2.but (fun q hq=>by omega)).below Q3);have HJ14:=dh ((But.ir HJ1.out hW2.but (fun q hq=>by omega)).below Q3);have HI24:=dh ((hI2.imp (ok':=fun q=>b < q) fun q hq _=>by have:=hW2.lt;omega).below Q3);have HJ24:=dh ((hJ2.imp (ok':=fun q=>b < q) fun q hq _=>by have:=hW2.lt;omega).below Q3);have HST2:=dh hst2;have HW4:=dh ((HW.out.next hW2.deck hW2.but).down Q3 (HW.out.next hW2.deck hW2.but).but.size);have HT7G:Hid (b < w3.heap.size):=dh (by have:=hW2.lt;have:=hW2.but.size;omega);clear hst2 hI2 hJ2 hW2 Q3 HC HT6 HX3 HI3 HJ3 HI1 HJ1 HW HST1;go_upto_region 4 with fail
  clear t;generalize w3.alloc _=w4 at *;generalize w3.heap.size=T7 at *;have HC5:Hid (∀ W,But b w4 W→Deck W b→Calls Tryz.prog 80 #[.pointer (some ⟨b,0,none⟩),.agg #[.int .i64 p2.kind,.int .u64 (p2.num:Int),.slice A2.ab A2.nb A2.cb,.slice A2.ai A2.ni A2.ci,.int .i64 u2.kind,.int .u64 (u2.num:Int),.slice C2.ab C2.nb C2.cb,.slice C2.ai C2.ni C2.ci]] W (SpP b W)):=dh fun W hW hD=>hspoilt_any p2 u2 A2 C2 b W _ _ hD (But.env HE2.out (HW4.out.but.trans hW) h1b) h1b (But.ir HI24.out hW (fun q hq=>by omega)) (But.ir HJ24.out hW (fun q hq=>by omega)) HST2.out
  have HS:Hid (∀ W,But b w4 W→(W.cell? ⟨B,0,none⟩=some (.int .i64 p.kind)∧W.cell? ⟨B,1,none⟩=some (.int .u64 (p.num:Int))∧W.cell? ⟨B,2,none⟩=some (.slice A.ab A.nb A.cb)∧W.cell? ⟨B,3,none⟩=some (.slice A.ai A.ni A.ci)∧W.cell? ⟨B,4,none⟩=some (.int .i64 u.kind)∧W.cell? ⟨B,5,none⟩=some (.int .u64 (u.num:Int))∧W.cell? ⟨B,6,none⟩=some (.slice C.ab C.nb C.cb)∧W.cell? ⟨B,7,none⟩=some (.slice C.ai C.ni C.ci))∧(W.cell? ⟨T6,0,none⟩=some (.int .i64 p1.kind)∧W.cell? ⟨T6,1,none⟩=some (.int .u64 (p1.num:Int))∧W.cell? ⟨T6,2,none⟩=some (.slice A1.ab A1.nb A1.cb)∧W.cell? ⟨T6,3,none⟩=some (.slice A1.ai A1.ni A1.ci)∧W.cell? ⟨T6,4,none⟩=some (.int .i64 u1.kind)∧W.cell? ⟨T6,5,none⟩=some (.int .u64 (u1.num:Int))∧W.cell? ⟨T6,6,none⟩=some (.slice C1.ab C1.nb C1.cb)∧W.cell? ⟨T6,7,none⟩=some (.slice C1.ai C1.ni C1.ci))∧(W.cell? ⟨T7,0,none⟩=some (.int .i64 p2.kind)∧W.cell? ⟨T7,1,none⟩=some (.int .u64 (p2.num:Int))∧W.cell? ⟨T7,2,none⟩=some (.slice A2.ab A2.nb A2.cb)∧W.cell? ⟨T7,3,none⟩=some (.slice A2.ai A2.ni A2.ci)∧W.cell? ⟨T7,4,none⟩=some (.int .i64 u2.kind)∧W.cell? ⟨T7,5,none⟩=some (.int .u64 (u2.num:Int))∧W.cell? ⟨T7,6,none⟩=some (.slice C2.ab C2.nb C2.cb)∧W.cell? ⟨T7,7,none⟩=some (.slice C2.ai C2.ni C2.ci))):=dh fun W hW=>⟨ce ((hW.block B (lb HX4.out) (by omega)).trans HX4.out),ce ((hW.block T6 (lb HT6'.out) (by have:=HT6G.out;omega)).trans HT6'.out),ce ((hW.block T7 (lb HT7.out) (by have:=HT7G.out;omega)).trans HT7.out)⟩
  have HRI:Hid (∀ W,But b w4 W→IR (fun _=>True) W p A∧IR (fun _=>True) W u C):=dh fun W hW=>⟨(But.ir HI4.out hW (fun q hq=>by omega)).imp fun _ _ _=>trivial,(But.ir HJ4.out hW (fun q hq=>by omega)).imp fun _ _ _=>trivial⟩
  have H1I:Hid (∀ W,But b w4 W→IR (fun _=>True) W p1 A1∧IR (fun _=>True) W u1 C1):=dh fun W hW=>⟨(But.ir HI14.out hW (fun q hq=>by omega)).imp fun _ _ _=>trivial,(But.ir HJ14.out hW (fun q hq=>by omega)).imp fun _ _ _=>trivial⟩
  have H2I:Hid (∀ W,But b w4 W→IR (fun _=>True) W p2 A2∧IR (fun _=>True) W u2 C2):=dh fun W hW=>⟨(But.ir HI24.out hW (fun q hq=>by omega)).imp fun _ _ _=>trivial,(But.ir HJ24.out hW (fun q hq=>by omega)).imp fun _ _ _=>trivial⟩
  have HEND:Hid (∀ W,But b w4 W→Below w.heap.size w W):=dh fun W hW=>by
   rw [hB];exact HP2.out.trans ((HW4.out.but.trans hW).below (by omega) (by have:=HW4.out.lt;omega))
  have HB:Hid (But b w4 w4.drew):=dh (But.of_below (RB'.drew w4));have HDK:Hid (Deck w4.drew b):=dh (HW4.out.deck.below (RB'.drew w4));refine wp_region_held_drew (S:=(fun w'=>(w'.cell? ⟨B,0,none⟩=some (.int .i64 p.kind)∧w'.cell? ⟨B,1,none⟩=some (.int .u64 (p.num:Int))∧w'.cell? ⟨B,2,none⟩=some (.slice A.ab A.nb A.cb)∧w'.cell? ⟨B,3,none⟩=some (.slice A.ai A.ni A.ci)∧w'.cell? ⟨B,4,none⟩=some (.int .i64 u.kind)∧w'.cell? ⟨B,5,none⟩=some (.int .u64 (u.num:Int))∧w'.cell? ⟨B,6,none⟩=some (.slice C.ab C.nb C.cb)∧w'.cell? ⟨B,7,none⟩=some (.slice C.ai C.ni C.ci))∧(w'.cell? ⟨T6,0,none⟩=some (.int .i64 p1.kind)∧w'.cell? ⟨T6,1,none⟩=some (.int .u64 (p1.num:Int))∧w'.cell? ⟨T6,2,none⟩=some (.slice A1.ab A1.nb A1.cb)∧w'.cell? ⟨T6,3,none⟩=some (.slice A1.ai A1.ni A1.ci)∧w'.cell? ⟨T6,4,none⟩=some (.int .i64 u1.kind)∧w'.cell? ⟨T6,5,none⟩=some (.int .u64 (u1.num:Int))∧w'.cell? ⟨T6,6,none⟩=some (.slice C1.ab C1.nb C1.cb)∧w'.cell? ⟨T6,7,none⟩=some (.slice C1.ai C1.ni C1.ci))∧(w'.cell? ⟨T7,0,none⟩=some (.int .i64 p2.kind)∧w'.cell? ⟨T7,1,none⟩=some (.int .u64 (p2.num:Int))∧w'.cell? ⟨T7,2,none⟩=some (.slice A2.ab A2.nb A2.cb)∧w'.cell? ⟨T7,3,none⟩=some (.slice A2.ai A2.ni A2.ci)∧w'.cell? ⟨T7,4,none⟩=some (.int .i64 u2.kind)∧w'.cell? ⟨T7,5,none⟩=some (.int .u64 (u2.num:Int))∧w'.cell? ⟨T7,6,none⟩=some (.slice C2.ab C2.nb C2.cb)∧w'.cell? ⟨T7,7,none⟩=some (.slice C2.ai C2.ni C2.ci)))) (by kernel_rfl) (HS.out _ HB.out) (fun hHeld=>?_);refine tk 0 rfl hHeld ?_;simp only [Act.put,sx]
  refine tk 1 rfl hHeld ?_;simp only [Act.put,sx]
  refine tk 2 rfl hHeld ?_;simp only [Act.put,sx]
  refine tk 3 rfl hHeld ?_;simp only [Act.put,sx]
  refine tk 4 rfl hHeld ?_;simp only [Act.put,sx]
  refine ry 5 (by kernel_rfl) rfl fun K1 hK1=>?_
  go_simp
  refine (HC5.out w4.drew HB.out HDK.out).mono ?_;rintro e V5 ⟨p3,u3,A3,C3,rfl,_,hI3,hJ3,hW3⟩
  replace HB:=dh (HB.out.trans hW3.but)
  replace HDK:=dh hW3.deck
  have HI3:=dh (hI3.imp (ok':=fun q=>b < q) fun q hq _=>by have:=hW3.lt;omega);have HJ3:=dh (hJ3.imp (ok':=fun q=>b < q) fun q hq _=>by have:=hW3.lt;omega);clear hI3 hJ3 hW3;refine hK1.out _ _ (HS.out _ HB.out) (fun hHeld=>?_);clear hK1
  try simp only [Act.put,sx]
  refine ry 6 (by kernel_rfl) rfl fun K1 hK1=>?_
  go_simp
  refine (remty_any V5).mono ?_;rintro e V6 ⟨rfl,B6⟩
  replace HB:=dh (HB.out.trans (But.of_below B6))
  replace HDK:=dh (HDK.out.below B6)
  replace HI3:=dh (HI3.out.below B6)
  replace HJ3:=dh (HJ3.out.below B6)
  clear B6;refine hK1.out _ _ (HS.out _ HB.out) (fun hHeld=>?_);clear hK1
  try simp only [Act.put,sx]
  refine ry 7 (by kernel_rfl) rfl fun K1 hK1=>?_
  rw [if_pos (by rfl)];refine wp_five (.tmp 20) (.tmp 21) (.tmp 22) (.tmp 25) (.tmp 26) p u p1 u1 p2 u2 p3 u3 (.mk 5 0 [] []) (.mk 5 0 [] []) A C A1 C1 A2 C2 A3 C3 ⟨none,0,0,none,0,0⟩ ⟨none,0,0,none,0,0⟩ rfl rfl rfl rfl rfl rfl ?_;have P7:=al V6 (.cells (List.flatMap cells8 [(p,A,u,C),(p1,A1,u1,C1),(p2,A2,u2,C2),(p3,A3,u3,C3),(.mk 5 0 [] [],⟨none,0,0,none,0,0⟩,.mk 5 0 [] [],⟨none,0,0,none,0,0⟩)]).toArray 28);have N7:=aw V6 (.cells (List.flatMap cells8 [(p,A,u,C),(p1,A1,u1,C1),(p2,A2,u2,C2),(p3,A3,u3,C3),(.mk 5 0 [] [],⟨none,0,0,none,0,0⟩,.mk 5 0 [] [],⟨none,0,0,none,0,0⟩)]).toArray 28);generalize V6.alloc (.cells (List.flatMap cells8 [(p,A,u,C),(p1,A1,u1,C1),(p2,A2,u2,C2),(p3,A3,u3,C3),(.mk 5 0 [] [],⟨none,0,0,none,0,0⟩,.mk 5 0 [] [],⟨none,0,0,none,0,0⟩)]).toArray 28)=V7 at *;have HR7:Hid (HRow V7 V6.heap.size 5):=dh (HRow.of N7 (fun e he=>by
   simp only [List.mem_cons,List.not_mem_nil,or_false] at he;rcases he with rfl | rfl | rfl | rfl | rfl
   ·exact ⟨(HRI.out _ (HB.out.trans (But.of_below P7))).1,(HRI.out _ (HB.out.trans (But.of_below P7))).2⟩
   ·exact ⟨(H1I.out _ (HB.out.trans (But.of_below P7))).1,(H1I.out _ (HB.out.trans (But.of_below P7))).2⟩
   ·exact ⟨(H2I.out _ (HB.out.trans (But.of_below P7))).1,(H2I.out _ (HB.out.trans (But.of_below P7))).2⟩
   ·exact ⟨(HI3.out.below P7).imp fun _ _ _=>trivial,(HJ3.out.below P7).imp fun _ _ _=>trivial⟩
   ·exact ⟨IR.flat _ _ (by omega),IR.flat _ _ (by omega)⟩))
  have HX7:Hid (V6.heap.size < V7.heap.size):=dh (lb N7)
  replace HB:=dh (HB.out.trans (But.of_below P7))
  clear P7 N7;generalize V6.heap.size=X7 at *;refine hK1.out _ _ (HS.out _ HB.out) (fun hHeld=>?_);clear hK1
  try simp only [Act.put,sx]
  refine tk 8 rfl hHeld ?_;simp only [Act.put,sx]
  refine wpAnyH_done (by kernel_rfl) ?_ _
  try simp only [Act.put,sx]
  go_wp2_with fail
  go_ret
  exact ⟨X7,rfl,HR7.out,HX7.out,HEND.out _ HB.out⟩
theorem put_ex:It.putP (It.mk 5 0 [] []) (It.mk 5 0 [] []) true 1 (It.int 10)=.ok (It.mk 5 0 [] [It.int 1,It.int 10]) (It.mk 5 0 [] []):=by kernel_rfl
theorem prot_ex:It.protE (It.mk 5 0 [] [It.int 1,It.int 10]) (It.mk 5 0 [] [])=0∧It.protL (It.mk 5 0 [] [It.int 1,It.int 10]) (It.mk 5 0 [] [])=[161,1,10]:=⟨by kernel_rfl,by kernel_rfl⟩
theorem alg_ex:It.algP (It.mk 5 0 [] [It.int 1,It.int 10]) (It.mk 5 0 [] [])=10:=by kernel_rfl
theorem hv_ex:It.hvalid (It.mk 0 0 [] []) (It.mk 0 0 [] [])=false:=by kernel_rfl
theorem hawake_any (w:World) (hE:Env w):Calls Tryz.prog 25 #[] w (VP true w):=by
 have HE:=dh hE;clear hE;go_enter Tryz.func25,Tryz.ntmps25
 go_wp2_with fail
 refine (hempty_any w).mono ?_;rintro e w1 ⟨rfl,B1⟩;have HP1:=dh B1;clear B1;go_wp2_with fail
 refine (h_rint 10 (by decide) w1 (fun _=>True)).mono ?_;rintro e w2 ⟨_,rfl,B2,K,rfl,hK⟩;have HP2:=dh (pt HP1.out B2);have hC:Calls Tryz.prog 32 #[.agg #[.int .i64 5,.int .u64 0,.slice none 0 0,.slice none 0 0,.int .i64 5,.int .u64 0,.slice none 0 0,.slice none 0 0],.bool true,.int .i64 1,.agg #[.int .i64 (It.int 10).kind,.int .u64 ((It.int 10).num:Int),.slice K.ab K.nb K.cb,.slice K.ai K.ni K.ci]] w2 (EndH w2 (.hr (It.putP (It.mk 5 0 [] []) (It.mk 5 0 [] []) true 1 (It.int 10)))):=hput_any (It.mk 5 0 [] []) (It.mk 5 0 [] []) ⟨none,0,0,none,0,0⟩ ⟨none,0,0,none,0,0⟩ w2 (fun _=>True) (fun _=>True) (IR.flat _ _ (by omega)) (IR.flat _ _ (by omega)) (HE.out.below HP2.out) (It.int 10) K true 1 _ hK (by decide) (by decide);rw [put_ex] at hC;have HC:=dh hC;clear B2 hK hC HP1;go_wp2_with fail
 refine HC.out.mono ?_;rintro e w3 ⟨_,rfl,B3,X,Y,rfl,hX,hY⟩;simp only [It.PH.fst,It.PH.snd,It.PH.code] at *;have Q:=pt B3 (al w3 (.cells #[.int .i64 (It.mk 5 0 [] [It.int 1,It.int 10]).kind,.int .u64 ((It.mk 5 0 [] [It.int 1,It.int 10]).num:Int),.slice X.ab X.nb X.cb,.slice X.ai X.ni X.ci,.int .i64 (It.mk 5 0 [] []).kind,.int .u64 ((It.mk 5 0 [] []).num:Int),.slice Y.ab Y.nb Y.cb,.slice Y.ai Y.ni Y.ci] 28));have HP4:=dh (pt HP2.out Q);have HT:=dh (aw w3 (.cells #[.int .i64 (It.mk 5 0 [] [It.int 1,It.int 10]).kind,.int .u64 ((It.mk 5 0 [] [It.int 1,It.int 10]).num:Int),.slice X.ab X.nb X.cb,.slice X.ai X.ni X.ci,.int .i64 (It.mk 5 0 [] []).kind,.int .u64 ((It.mk 5 0 [] []).num:Int),.slice Y.ab Y.nb Y.cb,.slice Y.ai Y.ni Y.ci] 28));have HX:=dh (hX.below (al w3 (.cells #[.int .i64 (It.mk 5 0 [] [It.int 1,It.int 10]).kind,.int .u64 ((It.mk 5 0 [] [It.int 1,It.int 10]).num:Int),.slice X.ab X.nb X.cb,.slice X.ai X.ni X.ci,.int .i64 (It.mk 5 0 [] []).kind,.int .u64 ((It.mk 5 0 [] []).num:Int),.slice Y.ab Y.nb Y.cb,.slice Y.ai Y.ni Y.ci] 28)));have HY:=dh (hY.below (al w3 (.cells #[.int .i64 (It.mk 5 0 [] [It.int 1,It.int 10]).kind,.int .u64 ((It.mk 5 0 [] [It.int 1,It.int 10]).num:Int),.slice X.ab X.nb X.cb,.slice X.ai X.ni X.ci,.int .i64 (It.mk 5 0 [] []).kind,.int .u64 ((It.mk 5 0 [] []).num:Int),.slice Y.ab Y.nb Y.cb,.slice Y.ai Y.ni Y.ci] 28)));clear B3 hX hY Q HC HP2;go_upto_region 2 with fail
 generalize w3.alloc (.cells #[.int .i64 (It.mk 5 0 [] [It.int 1,It.int 10]).kind,.int .u64 ((It.mk 5 0 [] [It.int 1,It.int 10]).num:Int),.slice X.ab X.nb X.cb,.slice X.ai X.ni X.ci,.int .i64 (It.mk 5 0 [] []).kind,.int .u64 ((It.mk 5 0 [] []).num:Int),.slice Y.ab Y.nb Y.cb,.slice Y.ai Y.ni Y.ci] 28)=w4 at *;generalize w3.heap.size=T1 at *;have HE4:=dh (HE.out.below HP4.out);have HC:=dh (hprot_any (It.mk 5 0 [] [It.int 1,It.int 10]) (It.mk 5 0 [] []) X Y w4 _ _ HX.out HY.out HE4.out);have t:=ce HT.out;go_wp2_with fail
 refine HC.out.mono ?_;rintro e w5 ⟨v,rfl,hO,B5⟩;rw [prot_ex.1];rw [prot_ex.2] at hO;obtain ⟨a5,c5,rfl,hR5,_,_⟩:=hO.br;have hstr:(convert 23 9 (.slice a5 3 c5)).run Tryz.prog w5=.ok (.string ⟨#[161,1,10]⟩) w5:=str_of hR5 c5;have HSTR:=dh hstr;have HP5:=dh (pt HP4.out B5);have HT5:=kp B5 HT;have HX5:=dh (HX.out.below B5);have HY5:=dh (HY.out.below B5);have HE5:=dh (HE.out.below HP5.out);have HC2:Hid (∀ W,Below w5.heap.size w5 W→Calls Tryz.prog 20 #[.agg #[.int .i64 0,.int .u64 0,.slice none 0 0,.slice none 0 0,.int .i64 0,.int .u64 0,.slice none 0 0,.slice none 0 0]] W (VP false W)):=dh fun W hW=>by
  have:=hva (It.mk 0 0 [] []) (It.mk 0 0 [] []) ⟨none,0,0,none,0,0⟩ ⟨none,0,0,none,0,0⟩ W (fun _=>True) (fun _=>True) (IR.flat _ _ (by omega)) (IR.flat _ _ (by omega)) (HE5.out.below hW);rw [hv_ex] at this;exact this
 clear hR5 hO hstr B5 HC HT HX HY HE4 HP4 t;go_upto_region 3 with fail
 have hstr:=HSTR.out;go_wp2_with fail
 refine (HC2.out _ (Below.refl _ _)).mono ?_;rintro e w6 ⟨rfl,B6⟩;have HP6:=dh (pt HP5.out B6);have HT6:=kp B6 HT5;have HC3:=dh (halg_any (It.mk 5 0 [] [It.int 1,It.int 10]) (It.mk 5 0 [] []) X Y w6 _ _ (HX5.out.below B6) (HY5.out.below B6) (HE.out.below HP6.out));rw [alg_ex] at HC3;clear B6 HC2 hstr HSTR;have t:=ce HT6.out;go_wp2_with fail
 refine HC3.out.mono ?_;rintro e w7 ⟨rfl,B7⟩;have HP7:=dh (pt HP6.out B7);go_wp2_with fail
 go_ret
 exact ⟨rfl,HP7.out⟩
