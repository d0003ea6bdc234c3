/- Headers of which something is spoilt. -/
import Derived.Test.YtelefkkkccilaaaGreatDoorSn
set_option linter.all false
namespace Go.Proofs.YtelefkkkccilaaaGreatDoor
open Go.RowKit
set_option maxRecDepth 100000
theorem TL.flat {ok:Nat→Prop} {w:World} {b T:Nat} {es:List (It × Ad)} (h:w.heap[b]?=some (.cells (es.flatMap cells4).toArray T (0,0))) (hb:ok b) (hI:∀ e ∈ es,IR ok w e.1 e.2) (hl:es.length≤1000):TL ok w (es.map (·.1)) (some ⟨b,0,none⟩) es.length:=by
 refine ⟨by simp,by omega,fun j hj=>?_⟩;have hj':j < es.length:=by simpa using hj
 refine ⟨b,0,es[j].2,rfl,hb,?_,by simpa using hI _ (List.getElem_mem hj')⟩;have c:∀ k,k < 4→w.cell? ⟨b,0 + j * 4 + k,none⟩=(cells4 es[j])[k]?:=fun k hk=>by
  rw [cr h,Nat.zero_add];simpa using flat4_get es j hj' k hk
 have c0:=c 0 (by decide);have c1:=c 1 (by decide);have c2:=c 2 (by decide);have c3:=c 3 (by decide);simp only [cells4,List.getElem?_cons_zero,List.getElem?_cons_succ] at c0 c1 c2 c3;refine ⟨?_,?_,?_,?_⟩
 ·simpa using c0
 ·simpa using c1
 ·simpa using c2
 ·simpa using c3
section
variable {o:Oper} {ρ:Operand→Value} {w:World}
theorem run_rows1 (x0:It) (A0:Ad) (w:World):(Instr.buildSlice 24 1 #[(0,.agg #[.int .i64 x0.kind,.int .u64 (x0.num:Int),.slice A0.ab A0.nb A0.cb,.slice A0.ai A0.ni A0.ci])]).run Tryz.prog w=.ok (.slice (some ⟨w.heap.size,0,none⟩) 1 1) (w.alloc (.cells #[.int .i64 x0.kind,.int .u64 (x0.num:Int),.slice A0.ab A0.nb A0.cb,.slice A0.ai A0.ni A0.ci] 26)):=by
 go_simp
theorem doesh_rows1 {ok:Nat→Prop} (o0:Operand) (x0:It) (ho:o.op=.buildSlice 24 1 #[(0,o0)]) (hk:ok w.heap.size) (h0:(Fh.it x0).holds ok (ρ o0) w):Rg.Does Tryz.prog o ρ w fun v w'=>RB' w w'∧True∧(Fh.rok [x0]).holds ok v w':=by
 obtain ⟨A0,e0,hI0⟩:=h0;have hr:(Instr.buildSlice 24 1 #[(0,.agg #[.int .i64 x0.kind,.int .u64 (x0.num:Int),.slice A0.ab A0.nb A0.cb,.slice A0.ai A0.ni A0.ci])]).run Tryz.prog w=.ok (.slice (some ⟨w.heap.size,0,none⟩) 1 1) (w.alloc (.cells (List.flatMap cells4 [(x0,A0)]).toArray 26)):=run_rows1 x0 A0 w;have hP:=al w (.cells (List.flatMap cells4 [(x0,A0)]).toArray 26);have hN:=aw w (.cells (List.flatMap cells4 [(x0,A0)]).toArray 26);generalize w.alloc (.cells (List.flatMap cells4 [(x0,A0)]).toArray 26)=W' at *;refine Rg.Does.value (v:=.slice (some ⟨w.heap.size,0,none⟩) 1 1) (w':=W') ?_ ⟨hP,trivial,some ⟨w.heap.size,0,none⟩,1,1,rfl,TL.flat (es:=[(x0,A0)]) hN hk (fun e he=>?_) (by simp),by simp,by simp⟩
 ·simp only [execOp,ho,List.map_toArray,List.map_cons,List.map_nil,e0,Sem.run_bind,hr,Result.andThen_ok,Sem.run_pure]
 ·simp only [List.mem_cons,List.not_mem_nil,or_false] at he
  rcases he with rfl
  ·exact hI0.below hP
theorem run_rows2 (x0 x1:It) (A0 A1:Ad) (w:World):(Instr.buildSlice 24 2 #[(0,.agg #[.int .i64 x0.kind,.int .u64 (x0.num:Int),.slice A0.ab A0.nb A0.cb,.slice A0.ai A0.ni A0.ci]),(1,.agg #[.int .i64 x1.kind,.int .u64 (x1.num:Int),.slice A1.ab A1.nb A1.cb,.slice A1.ai A1.ni A1.ci])]).run Tryz.prog w=.ok (.slice (some ⟨w.heap.size,0,none⟩) 2 2) (w.alloc (.cells #[.int .i64 x0.kind,.int .u64 (x0.num:Int),.slice A0.ab A0.nb A0.cb,.slice A0.ai A0.ni A0.ci,.int .i64 x1.kind,.int .u64 (x1.num:Int),.slice A1.ab A1.nb A1.cb,.slice A1.ai A1.ni A1.ci] 26)):=by
 go_simp
theorem doesh_rows2 {ok:Nat→Prop} (o0 o1:Operand) (x0 x1:It) (ho:o.op=.buildSlice 24 2 #[(0,o0),(1,o1)]) (hk:ok w.heap.size) (h0:(Fh.it x0).holds ok (ρ o0) w) (h1:(Fh.it x1).holds ok (ρ o1) w):Rg.Does Tryz.prog o ρ w fun v w'=>RB' w w'∧True∧(Fh.rok [x0,x1]).holds ok v w':=by
 obtain ⟨A0,e0,hI0⟩:=h0;obtain ⟨A1,e1,hI1⟩:=h1;have hr:(Instr.buildSlice 24 2 #[(0,.agg #[.int .i64 x0.kind,.int .u64 (x0.num:Int),.slice A0.ab A0.nb A0.cb,.slice A0.ai A0.ni A0.ci]),(1,.agg #[.int .i64 x1.kind,.int .u64 (x1.num:Int),.slice A1.ab A1.nb A1.cb,.slice A1.ai A1.ni A1.ci])]).run Tryz.prog w=.ok (.slice (some ⟨w.heap.size,0,none⟩) 2 2) (w.alloc (.cells (List.flatMap cells4 [(x0,A0),(x1,A1)]).toArray 26)):=run_rows2 x0 x1 A0 A1 w;have hP:=al w (.cells (List.flatMap cells4 [(x0,A0),(x1,A1)]).toArray 26);have hN:=aw w (.cells (List.flatMap cells4 [(x0,A0),(x1,A1)]).toArray 26);generalize w.alloc (.cells (List.flatMap cells4 [(x0,A0),(x1,A1)]).toArray 26)=W' at *;refine Rg.Does.value (v:=.slice (some ⟨w.heap.size,0,none⟩) 2 2) (w':=W') ?_ ⟨hP,trivial,some ⟨w.heap.size,0,none⟩,2,2,rfl,TL.flat (es:=[(x0,A0),(x1,A1)]) hN hk (fun e he=>?_) (by simp),by simp,by simp⟩
 ·simp only [execOp,ho,List.map_toArray,List.map_cons,List.map_nil,e0,e1,Sem.run_bind,hr,Result.andThen_ok,Sem.run_pure]
 ·simp only [List.mem_cons,List.not_mem_nil,or_false] at he
  rcases he with rfl | rfl
  ·exact hI0.below hP
  ·exact hI1.below hP
theorem run_rows8 (x0 x1 x2 x3 x4 x5 x6 x7:It) (A0 A1 A2 A3 A4 A5 A6 A7:Ad) (w:World):(Instr.buildSlice 24 8 #[(0,.agg #[.int .i64 x0.kind,.int .u64 (x0.num:Int),.slice A0.ab A0.nb A0.cb,.slice A0.ai A0.ni A0.ci]),(1,.agg #[.int .i64 x1.kind,.int .u64 (x1.num:Int),.slice A1.ab A1.nb A1.cb,.slice A1.ai A1.ni A1.ci]),(2,.agg #[.int .i64 x2.kind,.int .u64 (x2.num:Int),.slice A2.ab A2.nb A2.cb,.slice A2.ai A2.ni A2.ci]),(3,.agg #[.int .i64 x3.kind,.int .u64 (x3.num:Int),.slice A3.ab A3.nb A3.cb,.slice A3.ai A3.ni A3.ci]),(4,.agg #[.int .i64 x4.kind,.int .u64 (x4.num:Int),.slice A4.ab A4.nb A4.cb,.slice A4.ai A4.ni A4.ci]),(5,.agg #[.int .i64 x5.kind,.int .u64 (x5.num:Int),.slice A5.ab A5.nb A5.cb,.slice A5.ai A5.ni A5.ci]),(6,.agg #[.int .i64 x6.kind,.int .u64 (x6.num:Int),.slice A6.ab A6.nb A6.cb,.slice A6.ai A6.ni A6.ci]),(7,.agg #[.int .i64 x7.kind,.int .u64 (x7.num:Int),.slice A7.ab A7.nb A7.cb,.slice A7.ai A7.ni A7.ci])]).run Tryz.prog w=.ok (.slice (some ⟨w.heap.size,0,none⟩) 8 8) (w.alloc (.cells #[.int .i64 x0.kind,.int .u64 (x0.num:Int),.slice A0.ab A0.nb A0.cb,.slice A0.ai A0.ni A0.ci,.int .i64 x1.kind,.int .u64 (x1.num:Int),.slice A1.ab A1.nb A1.cb,.slice A1.ai A1.ni A1.ci,.int .i64 x2.kind,.int .u64 (x2.num:Int),.slice A2.ab A2.nb A2.cb,.slice A2.ai A2.ni A2.ci,.int .i64 x3.kind,.int .u64 (x3.num:Int),.slice A3.ab A3.nb A3.cb,.slice A3.ai A3.ni A3.ci,.int .i64 x4.kind,.int .u64 (x4.num:Int),.slice A4.ab A4.nb A4.cb,.slice A4.ai A4.ni A4.ci,.int .i64 x5.kind,.int .u64 (x5.num:Int),.slice A5.ab A5.nb A5.cb,.slice A5.ai A5.ni A5.ci,.int .i64 x6.kind,.int .u64 (x6.num:Int),.slice A6.ab A6.nb A6.cb,.slice A6.ai A6.ni A6.ci,.int .i64 x7.kind,.int .u64 (x7.num:Int),.slice A7.ab A7.nb A7.cb,.slice A7.ai A7.ni A7.ci] 26)):=by
 go_simp
theorem doesh_rows8 {ok:Nat→Prop} (o0 o1 o2 o3 o4 o5 o6 o7:Operand) (x0 x1 x2 x3 x4 x5 x6 x7:It) (ho:o.op=.buildSlice 24 8 #[(0,o0),(1,o1),(2,o2),(3,o3),(4,o4),(5,o5),(6,o6),(7,o7)]) (hk:ok w.heap.size) (h0:(Fh.it x0).holds ok (ρ o0) w) (h1:(Fh.it x1).holds ok (ρ o1) w) (h2:(Fh.it x2).holds ok (ρ o2) w) (h3:(Fh.it x3).holds ok (ρ o3) w) (h4:(Fh.it x4).holds ok (ρ o4) w) (h5:(Fh.it x5).holds ok (ρ o5) w) (h6:(Fh.it x6).holds ok (ρ o6) w) (h7:(Fh.it x7).holds ok (ρ o7) w):Rg.Does Tryz.prog o ρ w fun v w'=>RB' w w'∧True∧(Fh.rok [x0,x1,x2,x3,x4,x5,x6,x7]).holds ok v w':=by
 obtain ⟨A0,e0,hI0⟩:=h0;obtain ⟨A1,e1,hI1⟩:=h1;obtain ⟨A2,e2,hI2⟩:=h2;obtain ⟨A3,e3,hI3⟩:=h3;obtain ⟨A4,e4,hI4⟩:=h4;obtain ⟨A5,e5,hI5⟩:=h5;obtain ⟨A6,e6,hI6⟩:=h6;obtain ⟨A7,e7,hI7⟩:=h7;have hr:(Instr.buildSlice 24 8 #[(0,.agg #[.int .i64 x0.kind,.int .u64 (x0.num:Int),.slice A0.ab A0.nb A0.cb,.slice A0.ai A0.ni A0.ci]),(1,.agg #[.int .i64 x1.kind,.int .u64 (x1.num:Int),.slice A1.ab A1.nb A1.cb,.slice A1.ai A1.ni A1.ci]),(2,.agg #[.int .i64 x2.kind,.int .u64 (x2.num:Int),.slice A2.ab A2.nb A2.cb,.slice A2.ai A2.ni A2.ci]),(3,.agg #[.int .i64 x3.kind,.int .u64 (x3.num:Int),.slice A3.ab A3.nb A3.cb,.slice A3.ai A3.ni A3.ci]),(4,.agg #[.int .i64 x4.kind,.int .u64 (x4.num:Int),.slice A4.ab A4.nb A4.cb,.slice A4.ai A4.ni A4.ci]),(5,.agg #[.int .i64 x5.kind,.int .u64 (x5.num:Int),.slice A5.ab A5.nb A5.cb,.slice A5.ai A5.ni A5.ci]),(6,.agg #[.int .i64 x6.kind,.int .u64 (x6.num:Int),.slice A6.ab A6.nb A6.cb,.slice A6.ai A6.ni A6.ci]),(7,.agg #[.int .i64 x7.kind,.int .u64 (x7.num:Int),.slice A7.ab A7.nb A7.cb,.slice A7.ai A7.ni A7.ci])]).run Tryz.prog w=.ok (.slice (some ⟨w.heap.size,0,none⟩) 8 8) (w.alloc (.cells (List.flatMap cells4 [(x0,A0),(x1,A1),(x2,A2),(x3,A3),(x4,A4),(x5,A5),(x6,A6),(x7,A7)]).toArray 26)):=run_rows8 x0 x1 x2 x3 x4 x5 x6 x7 A0 A1 A2 A3 A4 A5 A6 A7 w;have hP:=al w (.cells (List.flatMap cells4 [(x0,A0),(x1,A1),(x2,A2),(x3,A3),(x4,A4),(x5,A5),(x6,A6),(x7,A7)]).toArray 26);have hN:=aw w (.cells (List.flatMap cells4 [(x0,A0),(x1,A1),(x2,A2),(x3,A3),(x4,A4),(x5,A5),(x6,A6),(x7,A7)]).toArray 26);generalize w.alloc (.cells (List.flatMap cells4 [(x0,A0),(x1,A1),(x2,A2),(x3,A3),(x4,A4),(x5,A5),(x6,A6),(x7,A7)]).toArray 26)=W' at *;refine Rg.Does.value (v:=.slice (some ⟨w.heap.size,0,none⟩) 8 8) (w':=W') ?_ ⟨hP,trivial,some ⟨w.heap.size,0,none⟩,8,8,rfl,TL.flat (es:=[(x0,A0),(x1,A1),(x2,A2),(x3,A3),(x4,A4),(x5,A5),(x6,A6),(x7,A7)]) hN hk (fun e he=>?_) (by simp),by simp,by simp⟩
 ·simp only [execOp,ho,List.map_toArray,List.map_cons,List.map_nil,e0,e1,e2,e3,e4,e5,e6,e7,Sem.run_bind,hr,Result.andThen_ok,Sem.run_pure]
 ·simp only [List.mem_cons,List.not_mem_nil,or_false] at he
  rcases he with rfl | rfl | rfl | rfl | rfl | rfl | rfl | rfl
  ·exact hI0.below hP
  ·exact hI1.below hP
  ·exact hI2.below hP
  ·exact hI3.below hP
  ·exact hI4.below hP
  ·exact hI5.below hP
  ·exact hI6.below hP
  ·exact hI7.below hP
theorem run_rows10 (x0 x1 x2 x3 x4 x5 x6 x7 x8 x9:It) (A0 A1 A2 A3 A4 A5 A6 A7 A8 A9:Ad) (w:World):(Instr.buildSlice 24 10 #[(0,.agg #[.int .i64 x0.kind,.int .u64 (x0.num:Int),.slice A0.ab A0.nb A0.cb,.slice A0.ai A0.ni A0.ci]),(1,.agg #[.int .i64 x1.kind,.int .u64 (x1.num:Int),.slice A1.ab A1.nb A1.cb,.slice A1.ai A1.ni A1.ci]),(2,.agg #[.int .i64 x2.kind,.int .u64 (x2.num:Int),.slice A2.ab A2.nb A2.cb,.slice A2.ai A2.ni A2.ci]),(3,.agg #[.int .i64 x3.kind,.int .u64 (x3.num:Int),.slice A3.ab A3.nb A3.cb,.slice A3.ai A3.ni A3.ci]),(4,.agg #[.int .i64 x4.kind,.int .u64 (x4.num:Int),.slice A4.ab A4.nb A4.cb,.slice A4.ai A4.ni A4.ci]),(5,.agg #[.int .i64 x5.kind,.int .u64 (x5.num:Int),.slice A5.ab A5.nb A5.cb,.slice A5.ai A5.ni A5.ci]),(6,.agg #[.int .i64 x6.kind,.int .u64 (x6.num:Int),.slice A6.ab A6.nb A6.cb,.slice A6.ai A6.ni A6.ci]),(7,.agg #[.int .i64 x7.kind,.int .u64 (x7.num:Int),.slice A7.ab A7.nb A7.cb,.slice A7.ai A7.ni A7.ci]),(8,.agg #[.int .i64 x8.kind,.int .u64 (x8.num:Int),.slice A8.ab A8.nb A8.cb,.slice A8.ai A8.ni A8.ci]),(9,.agg #[.int .i64 x9.kind,.int .u64 (x9.num:Int),.slice A9.ab A9.nb A9.cb,.slice A9.ai A9.ni A9.ci])]).run Tryz.prog w=.ok (.slice (some ⟨w.heap.size,0,none⟩) 10 10) (w.alloc (.cells #[.int .i64 x0.kind,.int .u64 (x0.num:Int),.slice A0.ab A0.nb A0.cb,.slice A0.ai A0.ni A0.ci,.int .i64 x1.kind,.int .u64 (x1.num:Int),.slice A1.ab A1.nb A1.cb,.slice A1.ai A1.ni A1.ci,.int .i64 x2.kind,.int .u64 (x2.num:Int),.slice A2.ab A2.nb A2.cb,.slice A2.ai A2.ni A2.ci,.int .i64 x3.kind,.int .u64 (x3.num:Int),.slice A3.ab A3.nb A3.cb,.slice A3.ai A3.ni A3.ci,.int .i64 x4.kind,.int .u64 (x4.num:Int),.slice A4.ab A4.nb A4.cb,.slice A4.ai A4.ni A4.ci,.int .i64 x5.kind,.int .u64 (x5.num:Int),.slice A5.ab A5.nb A5.cb,.slice A5.ai A5.ni A5.ci,.int .i64 x6.kind,.int .u64 (x6.num:Int),.slice A6.ab A6.nb A6.cb,.slice A6.ai A6.ni A6.ci,.int .i64 x7.kind,.int .u64 (x7.num:Int),.slice A7.ab A7.nb A7.cb,.slice A7.ai A7.ni A7.ci,.int .i64 x8.kind,.int .u64 (x8.num:Int),.slice A8.ab A8.nb A8.cb,.slice A8.ai A8.ni A8.ci,.int .i64 x9.kind,.int .u64 (x9.num:Int),.slice A9.ab A9.nb A9.cb,.slice A9.ai A9.ni A9.ci] 26)):=by
 go_simp
theorem doesh_rows10 {ok:Nat→Prop} (o0 o1 o2 o3 o4 o5 o6 o7 o8 o9:Operand) (x0 x1 x2 x3 x4 x5 x6 x7 x8 x9:It) (ho:o.op=.buildSlice 24 10 #[(0,o0),(1,o1),(2,o2),(3,o3),(4,o4),(5,o5),(6,o6),(7,o7),(8,o8),(9,o9)]) (hk:ok w.heap.size) (h0:(Fh.it x0).holds ok (ρ o0) w) (h1:(Fh.it x1).holds ok (ρ o1) w) (h2:(Fh.it x2).holds ok (ρ o2) w) (h3:(Fh.it x3).holds ok (ρ o3) w) (h4:(Fh.it x4).holds ok (ρ o4) w) (h5:(Fh.it x5).holds ok (ρ o5) w) (h6:(Fh.it x6).holds ok (ρ o6) w) (h7:(Fh.it x7).holds ok (ρ o7) w) (h8:(Fh.it x8).holds ok (ρ o8) w) (h9:(Fh.it x9).holds ok (ρ o9) w):Rg.Does Tryz.prog o ρ w fun v w'=>RB' w w'∧True∧(Fh.rok [x0,x1,x2,x3,x4,x5,x6,x7,x8,x9]).holds ok v w':=by
 obtain ⟨A0,e0,hI0⟩:=h0;obtain ⟨A1,e1,hI1⟩:=h1;obtain ⟨A2,e2,hI2⟩:=h2;obtain ⟨A3,e3,hI3⟩:=h3;obtain ⟨A4,e4,hI4⟩:=h4;obtain ⟨A5,e5,hI5⟩:=h5;obtain ⟨A6,e6,hI6⟩:=h6;obtain ⟨A7,e7,hI7⟩:=h7;obtain ⟨A8,e8,hI8⟩:=h8;obtain ⟨A9,e9,hI9⟩:=h9;have hr:(Instr.buildSlice 24 10 #[(0,.agg #[.int .i64 x0.kind,.int .u64 (x0.num:Int),.slice A0.ab A0.nb A0.cb,.slice A0.ai A0.ni A0.ci]),(1,.agg #[.int .i64 x1.kind,.int .u64 (x1.num:Int),.slice A1.ab A1.nb A1.cb,.slice A1.ai A1.ni A1.ci]),(2,.agg #[.int .i64 x2.kind,.int .u64 (x2.num:Int),.slice A2.ab A2.nb A2.cb,.slice A2.ai A2.ni A2.ci]),(3,.agg #[.int .i64 x3.kind,.int .u64 (x3.num:Int),.slice A3.ab A3.nb A3.cb,.slice A3.ai A3.ni A3.ci]),(4,.agg #[.int .i64 x4.kind,.int .u64 (x4.num:Int),.slice A4.ab A4.nb A4.cb,.slice A4.ai A4.ni A4.ci]),(5,.agg #[.int .i64 x5.kind,.int .u64 (x5.num:Int),.slice A5.ab A5.nb A5.cb,.slice A5.ai A5.ni A5.ci]),(6,.agg #[.int .i64 x6.kind,.int .u64 (x6.num:Int),.slice A6.ab A6.nb A6.cb,.slice A6.ai A6.ni A6.ci]),(7,.agg #[.int .i64 x7.kind,.int .u64 (x7.num:Int),.slice A7.ab A7.nb A7.cb,.slice A7.ai A7.ni A7.ci]),(8,.agg #[.int .i64 x8.kind,.int .u64 (x8.num:Int),.slice A8.ab A8.nb A8.cb,.slice A8.ai A8.ni A8.ci]),(9,.agg #[.int .i64 x9.kind,.int .u64 (x9.num:Int),.slice A9.ab A9.nb A9.cb,.slice A9.ai A9.ni A9.ci])]).run Tryz.prog w=.ok (.slice (some ⟨w.heap.size,0,none⟩) 10 10) (w.alloc (.cells (List.flatMap cells4 [(x0,A0),(x1,A1),(x2,A2),(x3,A3),(x4,A4),(x5,A5),(x6,A6),(x7,A7),(x8,A8),(x9,A9)]).toArray 26)):=run_rows10 x0 x1 x2 x3 x4 x5 x6 x7 x8 x9 A0 A1 A2 A3 A4 A5 A6 A7 A8 A9 w;have hP:=al w (.cells (List.flatMap cells4 [(x0,A0),(x1,A1),(x2,A2),(x3,A3),(x4,A4),(x5,A5),(x6,A6),(x7,A7),(x8,A8),(x9,A9)]).toArray 26);have hN:=aw w (.cells (List.flatMap cells4 [(x0,A0),(x1,A1),(x2,A2),(x3,A3),(x4,A4),(x5,A5),(x6,A6),(x7,A7),(x8,A8),(x9,A9)]).toArray 26);generalize w.alloc (.cells (List.flatMap cells4 [(x0,A0),(x1,A1),(x2,A2),(x3,A3),(x4,A4),(x5,A5),(x6,A6),(x7,A7),(x8,A8),(x9,A9)]).toArray 26)=W' at *;refine Rg.Does.value (v:=.slice (some ⟨w.heap.size,0,none⟩) 10 10) (w':=W') ?_ ⟨hP,trivial,some ⟨w.heap.size,0,none⟩,10,10,rfl,TL.flat (es:=[(x0,A0),(x1,A1),(x2,A2),(x3,A3),(x4,A4),(x5,A5),(x6,A6),(x7,A7),(x8,A8),(x9,A9)]) hN hk (fun e he=>?_) (by simp),by simp,by simp⟩
 ·simp only [execOp,ho,List.map_toArray,List.map_cons,List.map_nil,e0,e1,e2,e3,e4,e5,e6,e7,e8,e9,Sem.run_bind,hr,Result.andThen_ok,Sem.run_pure]
 ·simp only [List.mem_cons,List.not_mem_nil,or_false] at he
  rcases he with rfl | rfl | rfl | rfl | rfl | rfl | rfl | rfl | rfl | rfl
  ·exact hI0.below hP
  ·exact hI1.below hP
  ·exact hI2.below hP
  ·exact hI3.below hP
  ·exact hI4.below hP
  ·exact hI5.below hP
  ·exact hI6.below hP
  ·exact hI7.below hP
  ·exact hI8.below hP
  ·exact hI9.below hP
theorem doesh_byte {ok:Nat→Prop} (n:Int) (h0:0≤n) (h1:n < 256) (ho:o.op=.buildSlice 23 1 #[(0,.const (.int .u8 n))]) (hc:ρ (.const (.int .u8 n))=.int .u8 n):Rg.Does Tryz.prog o ρ w fun v w'=>RB' w w'∧True∧(Fh.bt [UInt8.ofNat n.toNat]).holds ok v w':=by
 have hr:(Instr.buildSlice 23 1 #[(0,.int .u8 n)]).run Tryz.prog w=.ok (.slice (some ⟨w.heap.size,0,none⟩) 1 1) (w.alloc (.cells #[.int .u8 n] 5)):=by
  go_simp
 refine Rg.Does.value (v:=.slice (some ⟨w.heap.size,0,none⟩) 1 1) (w':=w.alloc (.cells #[.int .u8 n] 5)) ?_ ⟨al w _,trivial,some ⟨w.heap.size,0,none⟩,1,1,rfl,BR.lit (aw w _) h0 h1⟩;simp only [execOp,ho,List.map_toArray,List.map_cons,List.map_nil,hc,Sem.run_bind,hr,Result.andThen_ok,Sem.run_pure]
end
theorem h_rtext (l:List UInt8) (W:World) (hl:l.length≤1000000000):Calls Tryz.prog 72 #[.string ⟨l.toArray⟩] W (EndH W (.it (.mk 3 0 l []))):=(rtext_any l W hl).mono fun _ _ h=>EndH.ip h
theorem h_rbytes {ok:Nat→Prop} {l:List UInt8} {v:Value} {W:World} (h:(Fh.bt l).holds ok v W) (hl:l.length≤1000000000):Calls Tryz.prog 31 #[v] W (EndH W (.it (.mk 2 0 l []))):=by
 obtain ⟨a,n,c,rfl,hR⟩:=h;exact (rbytes_any l a n c W _ hR hl).mono fun _ _ h=>EndH.ip h
theorem h_rbytes0 (W:World):Calls Tryz.prog 31 #[.slice none 0 0] W (EndH W (.it (.mk 2 0 [] []))):=(rbytes_any [] none 0 0 W (fun _=>True) (BR.nil _ _ _) (by decide)).mono fun _ _ h=>EndH.ip h
theorem h_rlist {l:List It} {v:Value} {W:World} {ok:Nat→Prop} (h:(Fh.rok l).holds ok v W) (hn:It.nodesL l≤90000) (hs:It.sts l=true):Calls Tryz.prog 74 #[v] W (EndH W (.it (.mk 4 0 [] l))):=by
 obtain ⟨a,n,c,rfl,hT,hc,hm⟩:=h;exact (rlist_any l a n c W _ hT hc hm hn hs).mono fun _ _ h=>EndH.ip h
theorem h_rlist0 (W:World):Calls Tryz.prog 74 #[.slice none 0 0] W (EndH W (.it (.mk 4 0 [] []))):=(rlist_any [] none 0 0 W (fun _=>True) (TL.nil _ _ _) (by decide) (by decide) (by decide) (by decide)).mono fun _ _ h=>EndH.ip h
def SBx (r:It.MR) (w5:World) (a c:Value) (W:World):Prop:=∃ (T:Nat) (Z:Ad),a=.pointer (some ⟨T,0,none⟩)∧c=.int .i64 (It.MR.code r:Int)∧W.heap[T]?=some (o4 (It.MR.item r) Z)∧IR (fun b=>w5.heap.size≤b∧b≠T) W (It.MR.item r) Z∧w5.heap.size≤T∧Below w5.heap.size w5 W
theorem SBx.below {r:It.MR} {w5 W:World} {a c:Value} (h:SBx r w5 a c W):Below w5.heap.size w5 W:=by
 obtain ⟨_,_,_,_,_,_,_,h⟩:=h;exact h
theorem SQ.a13 {w5 W:World} {l:List It} {x y:It} {Z:Ad} {T:Nat} (h:SQ w5 l x y .none .none .none (some Z) (some T) W):∃ W',(((W.setCell ⟨T,0,none⟩ (.int .i64 (It.MR.item (It.buildP (l ++ [x,y]))).kind)).setCell ⟨T,1,none⟩ (.int .u64 ((It.MR.item (It.buildP (l ++ [x,y]))).num:Int))).setCell ⟨T,2,none⟩ (.slice Z.ab Z.nb Z.cb)).setCell ⟨T,3,none⟩ (.slice Z.ai Z.ni Z.ci)=W'∧SBx (It.buildP (l ++ [x,y])) w5 (.pointer (some ⟨T,0,none⟩)) (.int .i64 (It.MR.code (It.buildP (l ++ [x,y])):Int)) W':=by
 obtain ⟨hT,hg⟩:=h.h12 T rfl;have hI:=h.h8 Z rfl;obtain ⟨W',hW',hp4,hs4,hb4⟩:=p4I (W:=W) (b:=T) hT (It.MR.item (It.buildP (l ++ [x,y]))) Z;exact ⟨W',hW',T,Z,rfl,rfl,hp4,hI.keep fun b hb _=>⟨hs4.2 b (hb.2 T rfl),hb.1,hb.2 T rfl⟩,hg,hb4 _ _ h.hB hg⟩
namespace It
def StP (x:It):Prop:=st x=true∧nodes x≤256
theorem StP.kind {x:It} (h:StP x) (k:Int):StP (mk k x.num x.bytes x.kids):=by
 cases x
 exact h
end It
theorem IR.kind {ok:Nat→Prop} {w:World} {x:It} {A:Ad} (h:IR ok w x A) (k:Int):IR ok w (.mk k x.num x.bytes x.kids) A:=by
 cases x
 exact h
def SS (b B:Nat) (w W:World):Prop:=∃ (p u:It) (A C:Ad),W.heap[B]?=some (o8 p u A C)∧(It.StP p∧It.StP u)∧IR (fun q=>B + 1 < q) W p A∧IR (fun q=>B + 1 < q) W u C∧W.heap[B + 1]?=some o8z∧DW b w W
def SpP (b:Nat) (w:World) (e:Ending) (w':World):Prop:=∃ (p u:It) (A C:Ad),e=.returned (.agg #[.int .i64 p.kind,.int .u64 (p.num:Int),.slice A.ab A.nb A.cb,.slice A.ai A.ni A.ci,.int .i64 u.kind,.int .u64 (u.num:Int),.slice C.ab C.nb C.cb,.slice C.ai C.ni C.ci])∧(It.StP p∧It.StP u)∧IR (fun q=>w.heap.size≤q) w' p A∧IR (fun q=>w.heap.size≤q) w' u C∧DW b w w'
theorem SS.below {b B:Nat} {w W W':World} (h:SS b B w W) (hB:Below W.heap.size W W'):SS b B w W':=by
 obtain ⟨p,u,A,C,h1,h2,h3,h4,h5,h6⟩:=h;exact ⟨p,u,A,C,Below.keep hB h1 (lb h1),h2,h3.below hB,h4.below hB,Below.keep hB h5 (lb h5),h6.down hB h6.but.size⟩
theorem SS.next {b B:Nat} {w W W':World} (h:SS b B w W) (hB:But b W W') (hD:Deck W' b) (hb:b < B):SS b B w W':=by
 obtain ⟨p,u,A,C,h1,h2,h3,h4,h5,h6⟩:=h;exact ⟨p,u,A,C,(hB.block B (lb h1) (by omega)).trans h1,h2,But.ir h3 hB (fun k hk=>by omega),But.ir h4 hB (fun k hk=>by omega),(hB.block (B + 1) (lb h5) (by omega)).trans h5,h6.next hD hB⟩
theorem SS.dw {b B:Nat} {w W:World} (h:SS b B w W):DW b w W:=by
 obtain ⟨_,_,_,_,_,_,_,_,_,h⟩:=h;exact h
theorem SS.lt {b B:Nat} {w W:World} (h:SS b B w W):B + 1 < W.heap.size:=by
 obtain ⟨_,_,_,_,_,_,_,_,h,_⟩:=h;exact lb h
theorem SS.store {b B:Nat} {w W W':World} {p u:It} {A C:Ad} (h:SS b B w W) (hw:w.heap.size≤B) (hp:W'.heap[B]?=some (.cells #[.int .i64 p.kind,.int .u64 (p.num:Int),.slice A.ab A.nb A.cb,.slice A.ai A.ni A.ci,.int .i64 u.kind,.int .u64 (u.num:Int),.slice C.ab C.nb C.cb,.slice C.ai C.ni C.ci] 28 (0,0))) (hs:W'.heap.size=W.heap.size∧∀ k,k≠B→W'.heap[k]?=W.heap[k]?) (hb:∀ (n:Nat) (u:World),Below n u W→n≤B→Below n u W') (hst:It.StP p∧It.StP u) (hI:IR (fun q=>B + 1 < q) W p A) (hJ:IR (fun q=>B + 1 < q) W u C):SS b B w W':=by
 obtain ⟨_,_,_,_,h1,_,_,_,h5,h6⟩:=h;exact ⟨p,u,A,C,hp,hst,hI.keep fun k hk _=>⟨hs.2 k (by omega),hk⟩,hJ.keep fun k hk _=>⟨hs.2 k (by omega),hk⟩,(hs.2 (B + 1) (by omega)).trans h5,h6.down (n:=B) (hb _ _ ((Below.refl W.heap.size W).mono (Nat.le_of_lt (lb h1))) (Nat.le_refl _)) hw⟩
theorem stp_valid {x:It} (h:It.valid x=true):It.StP x:=st_valid h
set_option maxHeartbeats 16000000 in
theorem hspoilt_any (p u:It) (A C:Ad) (b:Nat) (w:World) (ok ok':Nat→Prop) (hD:Deck w b) (hE:Env w) (h1b:1 < b) (hI:IR ok w p A) (hJ:IR ok' w u C) (hst:It.StP p∧It.StP u):Calls Tryz.prog 80 #[.pointer (some ⟨b,0,none⟩),.agg #[.int .i64 p.kind,.int .u64 (p.num:Int),.slice A.ab A.nb A.cb,.slice A.ai A.ni A.ci,.int .i64 u.kind,.int .u64 (u.num:Int),.slice C.ab C.nb C.cb,.slice C.ai C.ni C.ci]] w (SpP b w):=by
 obtain ⟨P0,N0⟩:=an w (o8 p u A C);obtain ⟨P1,N1⟩:=an (w.alloc (o8 p u A C)) o8z;have hsz1:(w.alloc (o8 p u A C)).heap.size=w.heap.size + 1:=by simp
 rw [hsz1] at N1;have HX:=dh (Below.keep P1 N0 (lb N0));have HY1:=dh N1;have HP:=dh (pt P0 P1);have HI:=dh (((hI.below P0).below P1));have HJ:=dh (((hJ.below P0).below P1));have HD0:=dh ((DW.start hD).down HP.out (Nat.le_refl _));have HST0:=dh hst;have HE:=dh hE;have hbB:=hD.lt;have hsz2:((w.alloc (o8 p u A C)).alloc o8z).heap.size=w.heap.size + 2:=by simp
 clear hI hJ hst hE hD;go_enter Tryz.func80,Tryz.ntmps80
 go_upto_region 1 with fail
 clear P0 P1 N0 N1 hsz1 HP;generalize ((w.alloc (o8 p u A C)).alloc o8z)=w1 at *;generalize hB:w.heap.size=B at *;have hwB:w.heap.size≤B:=by omega
 have HLT:Hid (B + 2≤w1.heap.size):=dh (by omega);clear hsz2;obtain ⟨x0,x1,x2,x3,x4,x5,x6,x7⟩:=ce HX.out;have HC:=dh (hcopy_any p u A C w1 _ _ HI.out HJ.out HST0.out);go_wp2_with fail
 refine HC.out.mono ?_;rintro e w0 ⟨_,rfl,B0,Y,Z,rfl,hIY,hIZ⟩;have HX0:=kp B0 HX;have HN0:=kp B0 HY1;have HDW0:=dh (HD0.out.down B0 HD0.out.but.size);have HIY:=dh (hIY.imp (ok':=fun q=>B + 1 < q) fun q hq _=>by have:=HLT.out;omega);have HIZ:=dh (hIZ.imp (ok':=fun q=>B + 1 < q) fun q hq _=>by have:=HLT.out;omega);have HLT0:Hid (B + 2≤w0.heap.size):=dh (by have:=HLT.out;have:=Below.size B0;omega);clear B0 hIY hIZ HC HX HY1 HD0 HI HJ HLT x0 x1 x2 x3 x4 x5 x6 x7;obtain ⟨f0,f1,f2,f3,f4,f5,f6,f7⟩:=fe8 HX0.out;obtain ⟨x0,x1,x2,x3,x4,x5,x6,x7⟩:=ce HX0.out;go_upto_region 2 with fail
 clear f0 f1 f2 f3 f4 f5 f6 f7 x0 x1 x2 x3 x4 x5 x6 x7;obtain ⟨W',hW',hp8,hs8,hb8⟩:=p8I (W:=w0) (b:=B) HX0.out p u Y Z;rw [hW'];clear hW';have HS2:Hid (SS b B w W'):=dh ⟨p,u,Y,Z,hp8,HST0.out,HIY.out.keep fun k hk _=>⟨hs8.2 k (by omega),hk⟩,HIZ.out.keep fun k hk _=>⟨hs8.2 k (by omega),hk⟩,(hs8.2 (B + 1) (by omega)).trans HN0.out,HDW0.out.down (n:=B) (hb8 _ _ ((Below.refl w0.heap.size w0).mono (by have:=HLT0.out;omega)) (Nat.le_refl _)) hwB⟩;have HLT:Hid (B + 2≤W'.heap.size):=dh (by rw [hs8.1];exact HLT0.out);clear hp8 hs8 hb8 HX0 HN0 HDW0 HIY HIZ HLT0 HST0;generalize W'=w2 at *;have HZ:Hid (∀ W,RB' w2 W→∀ q,W.heap.size≤q→B + 2≤q):=dh fun W hW q hq=>by have:=Below.size hW;have:=HLT.out;omega
 refine region_f (M:=11) (fun q=>B + 2≤q) [.it (It.int 1),.it (It.int 2),.it (It.int 4),.it (It.int 5),.it (It.int 6),.it (It.int 12),.it (It.mk 3 0 [120] []),.it (It.int 70000),.it (It.mk 2 0 [] []),.it (It.int 98),.rok [It.int 1,It.int 2,It.int 4,It.int 5,It.int 6,It.int 12,It.mk 3 0 [120] [],It.int 70000,It.mk 2 0 [] [],It.int 98]] (by kernel_rfl) (by kernel_rfl) ?_ ?_
 ·refine ⟨?_,?_,?_,?_,?_,?_,?_,?_,?_,?_,?_,trivial⟩<;>intro vs W hR _ hd
  ·exact dcl (vals:=#[(.int .i64 1)]) 62 (.func 62) #[.const (.int .i64 1)] _ rfl (by kernel_rfl) (by kernel_rfl) (cq Tryz.func62) (h_rint 1 (by decide) W _)
  ·exact dcl (vals:=#[(.int .i64 2)]) 62 (.func 62) #[.const (.int .i64 2)] _ rfl (by kernel_rfl) (by kernel_rfl) (cq Tryz.func62) (h_rint 2 (by decide) W _)
  ·exact dcl (vals:=#[(.int .i64 4)]) 62 (.func 62) #[.const (.int .i64 4)] _ rfl (by kernel_rfl) (by kernel_rfl) (cq Tryz.func62) (h_rint 4 (by decide) W _)
  ·exact dcl (vals:=#[(.int .i64 5)]) 62 (.func 62) #[.const (.int .i64 5)] _ rfl (by kernel_rfl) (by kernel_rfl) (cq Tryz.func62) (h_rint 5 (by decide) W _)
  ·exact dcl (vals:=#[(.int .i64 6)]) 62 (.func 62) #[.const (.int .i64 6)] _ rfl (by kernel_rfl) (by kernel_rfl) (cq Tryz.func62) (h_rint 6 (by decide) W _)
  ·exact dcl (vals:=#[(.int .i64 12)]) 62 (.func 62) #[.const (.int .i64 12)] _ rfl (by kernel_rfl) (by kernel_rfl) (cq Tryz.func62) (h_rint 12 (by decide) W _)
  ·exact dcl (vals:=#[(.string { data:=#[120] })]) 72 (.func 72) #[.const (.string { data:=#[120] })] _ rfl (by kernel_rfl) (by kernel_rfl) (cq Tryz.func72) ((h_rtext [120] W (by decide)).mono fun _ _ h=>EndH.any h (HZ.out W hR))
  ·exact dcl (vals:=#[(.int .i64 70000)]) 62 (.func 62) #[.const (.int .i64 70000)] _ rfl (by kernel_rfl) (by kernel_rfl) (cq Tryz.func62) (h_rint 70000 (by decide) W _)
  ·exact dcl (vals:=#[(.slice none 0 0)]) 31 (.func 31) #[.const (.slice none 0 0)] _ rfl (by kernel_rfl) (by kernel_rfl) (cq Tryz.func31) ((h_rbytes0 W).mono fun _ _ h=>EndH.any h (HZ.out W hR))
  ·exact dcl (vals:=#[(.int .i64 98)]) 62 (.func 62) #[.const (.int .i64 98)] _ rfl (by kernel_rfl) (by kernel_rfl) (cq Tryz.func62) (h_rint 98 (by decide) W _)
  ·exact doesh_rows10 (.tmp 13) (.tmp 14) (.tmp 15) (.tmp 16) (.tmp 17) (.tmp 18) (.tmp 19) (.tmp 20) (.tmp 21) (.tmp 22) (It.int 1) (It.int 2) (It.int 4) (It.int 5) (It.int 6) (It.int 12) (It.mk 3 0 [120] []) (It.int 70000) (It.mk 2 0 [] []) (It.int 98) rfl (HZ.out W hR _ (Nat.le_refl _)) (hd 0 (by decide)) (hd 1 (by decide)) (hd 2 (by decide)) (hd 3 (by decide)) (hd 4 (by decide)) (hd 5 (by decide)) (hd 6 (by decide)) (hd 7 (by decide)) (hd 8 (by decide)) (hd 9 (by decide))
 ·intro vs W3 hR3 hf
  obtain ⟨ra,rn,rc,e,hT,hrc,hrm⟩:=hf 10 (by decide);have hrn:rn=10:=hT.1;subst hrn;have HT:=dh hT;have HS3:=dh (HS2.out.below hR3);simp only [Rg.putAll,Rg.putFrom,List.take_succ_cons,List.take_zero,List.drop_succ_cons,List.drop_zero,Act.put,sx,Nat.zero_add,Nat.reduceAdd,e];clear hf e hT hR3 hrc hrm;go_wp2_with fail
  refine (nxa b 10 W3 HS3.out.dw.deck (by omega) (by omega)).mono ?_;rintro e w4 ⟨r,hr0,hr1,rfl,hD4,hB4,hs4⟩;obtain ⟨k,rfl⟩:=Int.eq_ofNat_of_zero_le hr0;have hk:k < ([It.int 1,It.int 2,It.int 4,It.int 5,It.int 6,It.int 12,It.mk 3 0 [120] [],It.int 70000,It.mk 2 0 [] [],It.int 98]:List It).length:=by show k < 10;omega
  have hkn:(k:Int) < 10:=hr1;obtain ⟨bl,o,X,ha,hq4,hc4,hI4⟩:=(But.tl HT.out hB4 (fun q hq=>by omega)).2.2 k hk;have HS4:=dh (HS3.out.next hB4 hD4 hbB);have HL4:Hid (B + 1 < w4.heap.size):=dh HS4.out.lt;subst ha;generalize ([It.int 1,It.int 2,It.int 4,It.int 5,It.int 6,It.int 12,It.mk 3 0 [120] [],It.int 70000,It.mk 2 0 [] [],It.int 98]:List It)[k]=x at *;obtain ⟨c0,c1,c2,c3⟩:=hc4;have P5:=al w4 (o4 x X);have T5b:=dh (aw w4 (o4 x X));have HS3x:=dh (HS4.out.below P5);have T5i:=dh ((hI4.imp (ok':=fun q=>B + 1 < q∧q < w4.heap.size) fun q hq hl=>⟨by omega,hl⟩).below P5);have T5g:Hid (B + 1 < w4.heap.size):=HL4;clear hr0 hr1 hD4 hB4 hs4 hq4 hI4 HT HS3 HS4 HL4 hk;go_upto_region 3 with fail
  clear c0 c1 c2 c3 hkn P5;generalize w4.alloc _=w3 at *;generalize w4.heap.size=T5 at *
  replace HLT:Hid (B + 2≤w3.heap.size):=dh (by have:=HS3x.out.lt;omega)
  have HT5L:=dh (lb T5b.out);clear HS2 HZ;have HZ:Hid (∀ W,RB' w3 W→∀ q,W.heap.size≤q→B + 2≤q):=dh fun W hW q hq=>by have:=Below.size hW;have:=HLT.out;omega
  refine region_f (M:=15) (fun q=>B + 2≤q) [.it (It.int 0),.it (It.int 10),.bt [UInt8.ofNat (Int.toNat 1)],.it (It.mk 2 0 [UInt8.ofNat (Int.toNat 1)] []),.it (It.int 1),.rok [It.int 1],.it (It.mk 4 0 [] [It.int 1]),.it (It.mk 4 0 [] []),.it (It.int 98),.it (It.int 4),.rok [It.int 98,It.int 4],.it (It.mk 4 0 [] [It.int 98,It.int 4]),.it (It.int (-70000)),.it (It.mk 3 0 [121] []),.rok [It.int 0,It.int 10,It.mk 2 0 [UInt8.ofNat (Int.toNat 1)] [],It.mk 4 0 [] [It.int 1],It.mk 4 0 [] [],It.mk 4 0 [] [It.int 98,It.int 4],It.int (-70000),It.mk 3 0 [121] []]] (by kernel_rfl) (by kernel_rfl) ?_ ?_
  ·refine ⟨?_,?_,?_,?_,?_,?_,?_,?_,?_,?_,?_,?_,?_,?_,?_,trivial⟩<;>intro vs W hR _ hd
   ·exact dcl (vals:=#[(.int .i64 0)]) 62 (.func 62) #[.const (.int .i64 0)] _ rfl (by kernel_rfl) (by kernel_rfl) (cq Tryz.func62) (h_rint 0 (by decide) W _)
   ·exact dcl (vals:=#[(.int .i64 10)]) 62 (.func 62) #[.const (.int .i64 10)] _ rfl (by kernel_rfl) (by kernel_rfl) (cq Tryz.func62) (h_rint 10 (by decide) W _)
   ·exact doesh_byte 1 (by decide) (by decide) rfl (by kernel_rfl)
   ·exact dcl (vals:=#[vs 2]) 31 (.func 31) #[.tmp 30] _ rfl (by kernel_rfl) (by kernel_rfl) (cq Tryz.func31) ((h_rbytes (hd 2 (by decide)) (by decide)).mono fun _ _ h=>EndH.any h (HZ.out W hR))
   ·exact dcl (vals:=#[(.int .i64 1)]) 62 (.func 62) #[.const (.int .i64 1)] _ rfl (by kernel_rfl) (by kernel_rfl) (cq Tryz.func62) (h_rint 1 (by decide) W _)
   ·exact doesh_rows1 (.tmp 32) (It.int 1) rfl (HZ.out W hR _ (Nat.le_refl _)) (hd 4 (by decide))
   ·exact dcl (vals:=#[vs 5]) 74 (.func 74) #[.tmp 33] _ rfl (by kernel_rfl) (by kernel_rfl) (cq Tryz.func74) ((h_rlist (hd 5 (by decide)) (by decide) (by decide)).mono fun _ _ h=>EndH.any h (HZ.out W hR))
   ·exact dcl (vals:=#[(.slice none 0 0)]) 74 (.func 74) #[.const (.slice none 0 0)] _ rfl (by kernel_rfl) (by kernel_rfl) (cq Tryz.func74) ((h_rlist0 W).mono fun _ _ h=>EndH.any h (HZ.out W hR))
   ·exact dcl (vals:=#[(.int .i64 98)]) 62 (.func 62) #[.const (.int .i64 98)] _ rfl (by kernel_rfl) (by kernel_rfl) (cq Tryz.func62) (h_rint 98 (by decide) W _)
   ·exact dcl (vals:=#[(.int .i64 4)]) 62 (.func 62) #[.const (.int .i64 4)] _ rfl (by kernel_rfl) (by kernel_rfl) (cq Tryz.func62) (h_rint 4 (by decide) W _)
   ·exact doesh_rows2 (.tmp 36) (.tmp 37) (It.int 98) (It.int 4) rfl (HZ.out W hR _ (Nat.le_refl _)) (hd 8 (by decide)) (hd 9 (by decide))
   ·exact dcl (vals:=#[vs 10]) 74 (.func 74) #[.tmp 38] _ rfl (by kernel_rfl) (by kernel_rfl) (cq Tryz.func74) ((h_rlist (hd 10 (by decide)) (by decide) (by decide)).mono fun _ _ h=>EndH.any h (HZ.out W hR))
   ·exact dcl (vals:=#[(.int .i64 (-70000))]) 62 (.func 62) #[.const (.int .i64 (-70000))] _ rfl (by kernel_rfl) (by kernel_rfl) (cq Tryz.func62) (h_rint (-70000) (by decide) W _)
   ·exact dcl (vals:=#[(.string { data:=#[121] })]) 72 (.func 72) #[.const (.string { data:=#[121] })] _ rfl (by kernel_rfl) (by kernel_rfl) (cq Tryz.func72) ((h_rtext [121] W (by decide)).mono fun _ _ h=>EndH.any h (HZ.out W hR))
   ·exact doesh_rows8 (.tmp 28) (.tmp 29) (.tmp 31) (.tmp 34) (.tmp 35) (.tmp 39) (.tmp 40) (.tmp 41) (It.int 0) (It.int 10) (It.mk 2 0 [UInt8.ofNat (Int.toNat 1)] []) (It.mk 4 0 [] [It.int 1]) (It.mk 4 0 [] []) (It.mk 4 0 [] [It.int 98,It.int 4]) (It.int (-70000)) (It.mk 3 0 [121] []) rfl (HZ.out W hR _ (Nat.le_refl _)) (hd 0 (by decide)) (hd 1 (by decide)) (hd 3 (by decide)) (hd 6 (by decide)) (hd 7 (by decide)) (hd 11 (by decide)) (hd 12 (by decide)) (hd 13 (by decide))
  ·intro vs W3 hR3 hf
   obtain ⟨ra,rn,rc,e,hT,hrc,hrm⟩:=hf 14 (by decide);have hrn:rn=8:=hT.1;subst hrn;have HT:=dh hT;have HS3:=dh (HS3x.out.below hR3);simp only [Rg.putAll,Rg.putFrom,List.take_succ_cons,List.take_zero,List.drop_succ_cons,List.drop_zero,Act.put,sx,Nat.zero_add,Nat.reduceAdd,e];have T5b3:=kp hR3 T5b;have T5i3:=dh (T5i.out.below hR3);clear hf e hT T5b T5i hR3 hrc hrm;go_wp2_with fail
   refine (nxa b 8 W3 HS3.out.dw.deck (by omega) (by omega)).mono ?_;rintro e w4 ⟨r,hr0,hr1,rfl,hD4,hB4,hs4⟩;obtain ⟨k,rfl⟩:=Int.eq_ofNat_of_zero_le hr0;have hk:k < ([It.int 0,It.int 10,It.mk 2 0 [UInt8.ofNat (Int.toNat 1)] [],It.mk 4 0 [] [It.int 1],It.mk 4 0 [] [],It.mk 4 0 [] [It.int 98,It.int 4],It.int (-70000),It.mk 3 0 [121] []]:List It).length:=by show k < 8;omega
   have hkn:(k:Int) < 8:=hr1;obtain ⟨bl,o,Y,ha,hq4,hc4,hI4⟩:=(But.tl HT.out hB4 (fun q hq=>by omega)).2.2 k hk;have HS4:=dh (HS3.out.next hB4 hD4 hbB);have T5b4:=dh ((hB4.block T5 (lb T5b3.out) (by have:=T5g.out;omega)).trans T5b3.out);have T5i4:=dh (But.ir T5i3.out hB4 (fun q hq=>by omega));have HL4:Hid (B + 1 < w4.heap.size):=dh HS4.out.lt;subst ha;generalize ([It.int 0,It.int 10,It.mk 2 0 [UInt8.ofNat (Int.toNat 1)] [],It.mk 4 0 [] [It.int 1],It.mk 4 0 [] [],It.mk 4 0 [] [It.int 98,It.int 4],It.int (-70000),It.mk 3 0 [121] []]:List It)[k]=y at *;obtain ⟨c0,c1,c2,c3⟩:=hc4;have P5:=al w4 (o4 y Y);have T6b:=dh (aw w4 (o4 y Y));have HSx:=dh (HS4.out.below P5);have T6i:=dh ((hI4.imp (ok':=fun q=>B + 1 < q∧q < w4.heap.size) fun q hq hl=>⟨by omega,hl⟩).below P5);have T6g:Hid (B + 1 < w4.heap.size):=HL4;have T5b:=kp P5 T5b4;have T5i:=dh (T5i4.out.below P5);clear T5b3 T5b4 T5i3 T5i4;clear hr0 hr1 hD4 hB4 hs4 hq4 hI4 HT HS3 HS4 HL4 hk;go_upto_region 4 with fail
   clear c0 c1 c2 c3 hkn P5;generalize w4.alloc _=w5 at *;generalize w4.heap.size=T6 at *;clear HS3x HZ;go_wp2_with fail
   refine (nxa b 2 w5 HSx.out.dw.deck (by omega) (by omega)).mono ?_;rintro e w6 ⟨r2,hr0,hr1,rfl,hD6,hB6,hs6⟩;have HS6:=dh (HSx.out.next hB6 hD6 hbB)
   replace T5b:=dh ((hB6.block T5 (lb T5b.out) (by have:=T5g.out;omega)).trans T5b.out)
   replace T6b:=dh ((hB6.block T6 (lb T6b.out) (by have:=T6g.out;omega)).trans T6b.out)
   replace T5i:=dh (But.ir T5i.out hB6 (fun q hq=>by omega))
   replace T6i:=dh (But.ir T6i.out hB6 (fun q hq=>by omega))
   clear hB6 hD6 hs6 hr0 hr1 HSx HLT;have HSx:=HS6;clear HS6;generalize w6=w5 at *;go_upto_if 49 with fail
   go_cut [3] from 49 to 81 (fun a W=>a=.pointer (some ⟨B,0,none⟩)∧SS b B w W)
   case first=>
    by_cases h2:r2=0
    ·have h2b:(r2==0)=true:=by simpa using h2
     clear h2;go_upto_region 5 with fail
     obtain ⟨p,u,A,C,hT,hst,hI,hJ,hN,hW⟩:=HSx.out;have HTB:=dh hT;have HST:=dh hst;have HI:=dh hI;have HJ:=dh hJ;have HTL:=dh hI.tl;have HLN:Hid (p.kids.length≤900):=dh (by have h1:=hst.1.2;have h2:=It.length_le_nodesL p.kids;have h3:It.nodes p=1 + It.nodesL p.kids:=(by cases p;rfl);omega);have HE5:=dh (But.env HE.out hW.but (by omega));have HS:Hid (∀ W,Below w5.heap.size w5 W→(W.cell? ⟨B,0,none⟩=some (.int .i64 p.kind)∧W.cell? ⟨B,1,none⟩=some (.int .u64 (p.num:Int))∧W.cell? ⟨B,2,none⟩=some (.slice A.ab A.nb A.cb)∧W.cell? ⟨B,3,none⟩=some (.slice A.ai A.ni A.ci))∧(W.cell? ⟨T5,0,none⟩=some (.int .i64 x.kind)∧W.cell? ⟨T5,1,none⟩=some (.int .u64 (x.num:Int))∧W.cell? ⟨T5,2,none⟩=some (.slice X.ab X.nb X.cb)∧W.cell? ⟨T5,3,none⟩=some (.slice X.ai X.ni X.ci))∧(W.cell? ⟨T6,0,none⟩=some (.int .i64 y.kind)∧W.cell? ⟨T6,1,none⟩=some (.int .u64 (y.num:Int))∧W.cell? ⟨T6,2,none⟩=some (.slice Y.ab Y.nb Y.cb)∧W.cell? ⟨T6,3,none⟩=some (.slice Y.ai Y.ni Y.ci))):=dh fun W hW=>by
      obtain ⟨a0,a1,a2,a3,a4,a5,a6,a7⟩:=ck8 hW HTB;obtain ⟨b0,b1,b2,b3⟩:=ck hW T5b;obtain ⟨d0,d1,d2,d3⟩:=ck hW T6b;exact ⟨⟨a0,a1,a2,a3⟩,⟨b0,b1,b2,b3⟩,d0,d1,d2,d3⟩
     have HX:=T5i;have HY:=T6i;have HE_:=HE;have HSP:=dh (SQ.start w5 p.kids x y);clear hT hst hI hJ hN hW;go_cut [7,8] from 49 to 61 (fun a c W=>SBx (It.buildP (p.kids ++ [x,y])) w5 a c W)
     case first=>
      refine wp_region_held_drew (S:=(fun w'=>(w'.cell? ⟨B,0,none⟩=some (.int .i64 p.kind)∧w'.cell? ⟨B,1,none⟩=some (.int .u64 (p.num:Int))∧w'.cell? ⟨B,2,none⟩=some (.slice A.ab A.nb A.cb)∧w'.cell? ⟨B,3,none⟩=some (.slice A.ai A.ni A.ci))∧(w'.cell? ⟨T5,0,none⟩=some (.int .i64 x.kind)∧w'.cell? ⟨T5,1,none⟩=some (.int .u64 (x.num:Int))∧w'.cell? ⟨T5,2,none⟩=some (.slice X.ab X.nb X.cb)∧w'.cell? ⟨T5,3,none⟩=some (.slice X.ai X.ni X.ci))∧(w'.cell? ⟨T6,0,none⟩=some (.int .i64 y.kind)∧w'.cell? ⟨T6,1,none⟩=some (.int .u64 (y.num:Int))∧w'.cell? ⟨T6,2,none⟩=some (.slice Y.ab Y.nb Y.cb)∧w'.cell? ⟨T6,3,none⟩=some (.slice Y.ai Y.ni Y.ci)))) (by kernel_rfl) (HS.out _ HSP.out.hB) (fun hHeld=>?_);generalize w5.drew=V at *;refine tk 0 rfl hHeld ?_;simp only [Act.put,sx]
      refine tk 1 rfl hHeld ?_;simp only [Act.put,sx]
      refine tk 2 rfl hHeld ?_;simp only [Act.put,sx]
      refine tk 4 rfl hHeld ?_;simp only [Act.put,sx]
      refine tk 5 rfl hHeld ?_;simp only [Act.put,sx]
      refine wpAnyH_ready (rs:=[3,6,12]) (by kernel_rfl) (by simp) ?_;refine AllReadyH.cons rfl (fun K1 hK1=>?_) (AllReadyH.cons rfl (fun K1 hK1=>?_) (AllReadyH.cons rfl (fun K1 hK1=>?_) AllReadyH.nil))
      focus
       obtain ⟨v3,V3,hr3,hS3⟩:=HSP.out.a3 HTL.out HLN.out;rw [if_pos (by rfl)];refine wp_app _ _ 24 rfl rfl rfl hr3 ?_
       replace HSP:=dh hS3
       clear hr3 hS3;refine hK1.out _ _ (HS.out _ HSP.out.hB) (fun hHeld=>?_);clear hK1
       try simp only [Act.put,sx]
       generalize V3=V at *
      rotate_left
      focus
       go_simp
       replace HSP:=dh (HSP.out.a6 HX.out HY.out)
       generalize hV:V.alloc (.cells #[.int .i64 x.kind,.int .u64 (x.num:Int),.slice X.ab X.nb X.cb,.slice X.ai X.ni X.ci,.int .i64 y.kind,.int .u64 (y.num:Int),.slice Y.ab Y.nb Y.cb,.slice Y.ai Y.ni Y.ci] 26)=V' at *;generalize V.heap.size=TR at *;clear hV;refine hK1.out _ _ (HS.out _ HSP.out.hB) (fun hHeld=>?_);clear hK1
       try simp only [Act.put,sx]
       generalize V'=V at *
      rotate_left
      focus
       go_simp
       replace HSP:=dh (HSP.out.a12)
       generalize hV:V.alloc o4z=V' at *;generalize V.heap.size=T12 at *;clear hV;refine hK1.out _ _ (HS.out _ HSP.out.hB) (fun hHeld=>?_);clear hK1
       try simp only [Act.put,sx]
       generalize V'=V at *
      rotate_left
      all_goals
       first
       | have hd:Hid (SQ w5 p.kids x y (some _) .none .none .none .none _):=HSP
         clear hd;refine wpAnyH_ready (rs:=[6,12]) (by kernel_rfl) (by simp) ?_;refine AllReadyH.cons rfl (fun K1 hK1=>?_) (AllReadyH.cons rfl (fun K1 hK1=>?_) AllReadyH.nil)
         focus
          go_simp
          replace HSP:=dh (HSP.out.a6 HX.out HY.out)
          generalize hV:V.alloc (.cells #[.int .i64 x.kind,.int .u64 (x.num:Int),.slice X.ab X.nb X.cb,.slice X.ai X.ni X.ci,.int .i64 y.kind,.int .u64 (y.num:Int),.slice Y.ab Y.nb Y.cb,.slice Y.ai Y.ni Y.ci] 26)=V' at *;generalize V.heap.size=TR at *;clear hV;refine hK1.out _ _ (HS.out _ HSP.out.hB) (fun hHeld=>?_);clear hK1
          try simp only [Act.put,sx]
          generalize V'=V at *
         rotate_left
         focus
          go_simp
          replace HSP:=dh (HSP.out.a12)
          generalize hV:V.alloc o4z=V' at *;generalize V.heap.size=T12 at *;clear hV;refine hK1.out _ _ (HS.out _ HSP.out.hB) (fun hHeld=>?_);clear hK1
          try simp only [Act.put,sx]
          generalize V'=V at *
         rotate_left
       | skip
      all_goals
       first
       | have hd:Hid (SQ w5 p.kids x y .none (some _) .none .none .none _):=HSP
         clear hd;refine wpAnyH_ready (rs:=[3,12]) (by kernel_rfl) (by simp) ?_;refine AllReadyH.cons rfl (fun K1 hK1=>?_) (AllReadyH.cons rfl (fun K1 hK1=>?_) AllReadyH.nil)
         focus
          obtain ⟨v3,V3,hr3,hS3⟩:=HSP.out.a3 HTL.out HLN.out;rw [if_pos (by rfl)];refine wp_app _ _ 24 rfl rfl rfl hr3 ?_
          replace HSP:=dh hS3
          clear hr3 hS3;refine hK1.out _ _ (HS.out _ HSP.out.hB) (fun hHeld=>?_);clear hK1
          try simp only [Act.put,sx]
          generalize V3=V at *
         rotate_left
         focus
          go_simp
          replace HSP:=dh (HSP.out.a12)
          generalize hV:V.alloc o4z=V' at *;generalize V.heap.size=T12 at *;clear hV;refine hK1.out _ _ (HS.out _ HSP.out.hB) (fun hHeld=>?_);clear hK1
          try simp only [Act.put,sx]
          generalize V'=V at *
         rotate_left
       | skip
      all_goals
       first
       | have hd:Hid (SQ w5 p.kids x y .none .none .none .none (some _) _):=HSP
         clear hd;refine wpAnyH_ready (rs:=[3,6]) (by kernel_rfl) (by simp) ?_;refine AllReadyH.cons rfl (fun K1 hK1=>?_) (AllReadyH.cons rfl (fun K1 hK1=>?_) AllReadyH.nil)
         focus
          obtain ⟨v3,V3,hr3,hS3⟩:=HSP.out.a3 HTL.out HLN.out;rw [if_pos (by rfl)];refine wp_app _ _ 24 rfl rfl rfl hr3 ?_
          replace HSP:=dh hS3
          clear hr3 hS3;refine hK1.out _ _ (HS.out _ HSP.out.hB) (fun hHeld=>?_);clear hK1
          try simp only [Act.put,sx]
          generalize V3=V at *
         rotate_left
         focus
          go_simp
          replace HSP:=dh (HSP.out.a6 HX.out HY.out)
          generalize hV:V.alloc (.cells #[.int .i64 x.kind,.int .u64 (x.num:Int),.slice X.ab X.nb X.cb,.slice X.ai X.ni X.ci,.int .i64 y.kind,.int .u64 (y.num:Int),.slice Y.ab Y.nb Y.cb,.slice Y.ai Y.ni Y.ci] 26)=V' at *;generalize V.heap.size=TR at *;clear hV;refine hK1.out _ _ (HS.out _ HSP.out.hB) (fun hHeld=>?_);clear hK1
          try simp only [Act.put,sx]
          generalize V'=V at *
         rotate_left
       | skip
      all_goals
       first
       | have hd:Hid (SQ w5 p.kids x y (some _) (some _) .none .none .none _):=HSP
         clear hd;refine wpAnyH_ready (rs:=[7,12]) (by kernel_rfl) (by simp) ?_;refine AllReadyH.cons rfl (fun K1 hK1=>?_) (AllReadyH.cons rfl (fun K1 hK1=>?_) AllReadyH.nil)
         focus
          obtain ⟨a7,n7,c7,V7,hr7,hS7⟩:=HSP.out.a7 HLN.out;rw [if_pos (by rfl)];refine wp_app _ _ 24 rfl rfl rfl hr7 ?_
          replace HSP:=dh hS7
          clear hr7 hS7;refine hK1.out _ _ (HS.out _ HSP.out.hB) (fun hHeld=>?_);clear hK1
          try simp only [Act.put,sx]
          generalize V7=V at *
         rotate_left
         focus
          go_simp
          replace HSP:=dh (HSP.out.a12)
          generalize hV:V.alloc o4z=V' at *;generalize V.heap.size=T12 at *;clear hV;refine hK1.out _ _ (HS.out _ HSP.out.hB) (fun hHeld=>?_);clear hK1
          try simp only [Act.put,sx]
          generalize V'=V at *
         rotate_left
       | skip
      all_goals
       first
       | have hd:Hid (SQ w5 p.kids x y (some _) .none .none .none (some _) _):=HSP
         clear hd;refine ry 6 (by kernel_rfl) rfl fun K1 hK1=>?_
         go_simp
         replace HSP:=dh (HSP.out.a6 HX.out HY.out)
         generalize hV:V.alloc (.cells #[.int .i64 x.kind,.int .u64 (x.num:Int),.slice X.ab X.nb X.cb,.slice X.ai X.ni X.ci,.int .i64 y.kind,.int .u64 (y.num:Int),.slice Y.ab Y.nb Y.cb,.slice Y.ai Y.ni Y.ci] 26)=V' at *;generalize V.heap.size=TR at *;clear hV;refine hK1.out _ _ (HS.out _ HSP.out.hB) (fun hHeld=>?_);clear hK1
         try simp only [Act.put,sx]
         generalize V'=V at *
       | skip
      all_goals
       first
       | have hd:Hid (SQ w5 p.kids x y .none (some _) .none .none (some _) _):=HSP
         clear hd;refine ry 3 (by kernel_rfl) rfl fun K1 hK1=>?_
         obtain ⟨v3,V3,hr3,hS3⟩:=HSP.out.a3 HTL.out HLN.out;rw [if_pos (by rfl)];refine wp_app _ _ 24 rfl rfl rfl hr3 ?_
         replace HSP:=dh hS3
         clear hr3 hS3;refine hK1.out _ _ (HS.out _ HSP.out.hB) (fun hHeld=>?_);clear hK1
         try simp only [Act.put,sx]
         generalize V3=V at *
       | skip
      all_goals
       first
       | have hd:Hid (SQ w5 p.kids x y .none .none (some _) .none .none _):=HSP
         clear hd;refine wpAnyH_ready (rs:=[8,12]) (by kernel_rfl) (by simp) ?_;refine AllReadyH.cons rfl (fun K1 hK1=>?_) (AllReadyH.cons rfl (fun K1 hK1=>?_) AllReadyH.nil)
         focus
          go_simp
          refine (HSP.out.a8 HE5.out HLN.out).mono ?_;rintro e V8 ⟨Z8,rfl,hS8⟩
          replace HSP:=dh hS8
          clear hS8;refine hK1.out _ _ (HS.out _ HSP.out.hB) (fun hHeld=>?_);clear hK1
          try simp only [Act.put,sx]
          generalize V8=V at *
         rotate_left
         focus
          go_simp
          replace HSP:=dh (HSP.out.a12)
          generalize hV:V.alloc o4z=V' at *;generalize V.heap.size=T12 at *;clear hV;refine hK1.out _ _ (HS.out _ HSP.out.hB) (fun hHeld=>?_);clear hK1
          try simp only [Act.put,sx]
          generalize V'=V at *
         rotate_left
       | skip
      all_goals
       first
       | have hd:Hid (SQ w5 p.kids x y (some _) (some _) .none .none (some _) _):=HSP
         clear hd;refine ry 7 (by kernel_rfl) rfl fun K1 hK1=>?_
         obtain ⟨a7,n7,c7,V7,hr7,hS7⟩:=HSP.out.a7 HLN.out;rw [if_pos (by rfl)];refine wp_app _ _ 24 rfl rfl rfl hr7 ?_
         replace HSP:=dh hS7
         clear hr7 hS7;refine hK1.out _ _ (HS.out _ HSP.out.hB) (fun hHeld=>?_);clear hK1
         try simp only [Act.put,sx]
         generalize V7=V at *
       | skip
      all_goals
       first
       | have hd:Hid (SQ w5 p.kids x y .none .none .none (some _) .none _):=HSP
         clear hd;refine tk 9 rfl hHeld ?_;simp only [Act.put,sx]
         refine tk 10 rfl hHeld ?_;simp only [Act.put,sx]
         refine tk 11 rfl hHeld ?_;simp only [Act.put,sx]
         have HM9:=dh trivial;refine ry 12 (by kernel_rfl) rfl fun K1 hK1=>?_
         go_simp
         replace HSP:=dh (HSP.out.a12)
         generalize hV:V.alloc o4z=V' at *;generalize V.heap.size=T12 at *;clear hV;refine hK1.out _ _ (HS.out _ HSP.out.hB) (fun hHeld=>?_);clear hK1
         try simp only [Act.put,sx]
         generalize V'=V at *
       | skip
      all_goals
       first
       | have hd:Hid (SQ w5 p.kids x y .none .none (some _) .none (some _) _):=HSP
         clear hd;refine ry 8 (by kernel_rfl) rfl fun K1 hK1=>?_
         go_simp
         refine (HSP.out.a8 HE5.out HLN.out).mono ?_;rintro e V8 ⟨Z8,rfl,hS8⟩
         replace HSP:=dh hS8
         clear hS8;refine hK1.out _ _ (HS.out _ HSP.out.hB) (fun hHeld=>?_);clear hK1
         try simp only [Act.put,sx]
         generalize V8=V at *
       | skip
      all_goals
       first
       | have hd:Hid (SQ w5 p.kids x y .none .none .none (some _) (some _) _):=HSP
         clear hd;have hm:=HM9;clear hm;refine ry 13 (by kernel_rfl) rfl fun K1 hK1=>?_
         obtain ⟨W',hW',hF⟩:=HSP.out.a13;have HF:=dh hF;have f:=ff (HSP.out.h12 _ rfl).1;have t:=cf (HSP.out.h12 _ rfl).1;go_simp
         clear f t hF
         try rw [hW']
         clear hW';refine hK1.out _ _ (HS.out _ HF.out.below) (fun hHeld=>?_);clear hK1
         try simp only [Act.put,sx]
       | skip
      all_goals
       first
       | have hd:Hid (SQ w5 p.kids x y .none .none .none (some _) (some _) _):=HSP
         clear hd
         fail_if_success have hm:=HM9
         refine tk 9 rfl hHeld ?_;simp only [Act.put,sx]
         refine tk 10 rfl hHeld ?_;simp only [Act.put,sx]
         refine tk 11 rfl hHeld ?_;simp only [Act.put,sx]
         refine ry 13 (by kernel_rfl) rfl fun K1 hK1=>?_
         obtain ⟨W',hW',hF⟩:=HSP.out.a13;have HF:=dh hF;have f:=ff (HSP.out.h12 _ rfl).1;have t:=cf (HSP.out.h12 _ rfl).1;go_simp
         clear f t hF
         try rw [hW']
         clear hW';refine hK1.out _ _ (HS.out _ HF.out.below) (fun hHeld=>?_);clear hK1
         try simp only [Act.put,sx]
       | skip
      all_goals
       first
       | have hd:Hid (SQ w5 p.kids x y .none .none .none (some _) (some _) _):=HSP
         clear hd;have hm:=HM9;clear hm;refine tk 14 rfl hHeld ?_;simp only [Act.put,sx]
         refine wpAnyH_done (by kernel_rfl) ?_ _
         try simp only [Act.put,sx]
         go_wp2_with fail
         go_meet
         exact HF.out
       | skip
      all_goals
       first
       | have hd:Hid (SQ w5 p.kids x y .none .none .none (some _) (some _) _):=HSP
         clear hd
         fail_if_success have hm:=HM9
         refine tk 14 rfl hHeld ?_;simp only [Act.put,sx]
         refine wpAnyH_done (by kernel_rfl) ?_ _
         try simp only [Act.put,sx]
         go_wp2_with fail
         go_meet
         exact HF.out
       | skip
     case rest=>
      obtain ⟨T9,Z9,rfl,rfl,hT9,hZ9,hT9g,hB9⟩:=hcut;generalize hr:It.buildP (p.kids ++ [x,y])=r at *;have HRR:=dh hr;have HT9:=dh hT9;have HZ9:=dh (hZ9.imp (ok':=fun q=>B + 1 < q) fun q hq _=>by have:=HSx.out.lt;have:=hq.1;omega);have HS9:=dh (HSx.out.below hB9);have HTB9:=kp hB9 HTB;have HI9:=dh (HI.out.below hB9);have HJ9:=dh (HJ.out.below hB9);clear hr hT9 hZ9 hT9g hB9 HS HSP HTL HX HY;obtain ⟨cd,hcd⟩:∃ cd:Int,((It.MR.code r:Nat):Int)=cd:=⟨_,rfl⟩;rw [hcd];have HCD:=dh hcd;clear hcd;cases r with
      | err e0=>
        obtain rfl:cd=(e0:Int):=HCD.out.symm;have hne:((e0:Int)==0)=false:=by have:=It.buildP_err HRR.out;simp;omega
        clear HCD;go_wp2_with fail
        go_meet
        exact ⟨rfl,HS9.out⟩
      | ok x9=>
        obtain rfl:cd=0:=HCD.out.symm;simp only [It.MR.item] at *;have HV9:Hid (It.StP x9):=dh (stp_valid (buildP_ok HRR.out));clear HCD;obtain ⟨f0,f1,f2,f3,f4,f5,f6,f7⟩:=fe8 HTB9.out;obtain ⟨r0,r1,r2,r3,r4,r5,r6,r7⟩:=ce HTB9.out;obtain ⟨t0,t1,t2,t3⟩:=cf HT9.out;go_wp2_with fail
        clear f0 f1 f2 f3 f4 f5 f6 f7 r0 r1 r2 r3 r4 r5 r6 r7 t0 t1 t2 t3;obtain ⟨W',hW',hp8,hs8,hb8⟩:=put8lo (W:=wc) (b:=B) HTB9.out (.int .i64 x9.kind) (.int .u64 (x9.num:Int)) (.slice Z9.ab Z9.nb Z9.cb) (.slice Z9.ai Z9.ni Z9.ci);rw [hW'];clear hW';go_meet
        exact ⟨rfl,HS9.out.store hwB hp8 hs8 hb8 ⟨HV9.out,HST.out.2⟩ HZ9.out HJ9.out⟩
    ·have h2b:(r2==0)=false:=by simpa using h2
     clear h2;go_upto_region 8 with fail
     obtain ⟨p,u,A,C,hT,hst,hI,hJ,hN,hW⟩:=HSx.out;have HTB:=dh hT;have HST:=dh hst;have HI:=dh hI;have HJ:=dh hJ;have HTL:=dh hJ.tl;have HLN:Hid (u.kids.length≤900):=dh (by have h1:=hst.2.2;have h2:=It.length_le_nodesL u.kids;have h3:It.nodes u=1 + It.nodesL u.kids:=(by cases u;rfl);omega);have HE5:=dh (But.env HE.out hW.but (by omega));have HS:Hid (∀ W,Below w5.heap.size w5 W→(W.cell? ⟨B,4,none⟩=some (.int .i64 u.kind)∧W.cell? ⟨B,5,none⟩=some (.int .u64 (u.num:Int))∧W.cell? ⟨B,6,none⟩=some (.slice C.ab C.nb C.cb)∧W.cell? ⟨B,7,none⟩=some (.slice C.ai C.ni C.ci))∧(W.cell? ⟨T5,0,none⟩=some (.int .i64 x.kind)∧W.cell? ⟨T5,1,none⟩=some (.int .u64 (x.num:Int))∧W.cell? ⟨T5,2,none⟩=some (.slice X.ab X.nb X.cb)∧W.cell? ⟨T5,3,none⟩=some (.slice X.ai X.ni X.ci))∧(W.cell? ⟨T6,0,none⟩=some (.int .i64 y.kind)∧W.cell? ⟨T6,1,none⟩=some (.int .u64 (y.num:Int))∧W.cell? ⟨T6,2,none⟩=some (.slice Y.ab Y.nb Y.cb)∧W.cell? ⟨T6,3,none⟩=some (.slice Y.ai Y.ni Y.ci))):=dh fun W hW=>by
      obtain ⟨a0,a1,a2,a3,a4,a5,a6,a7⟩:=ck8 hW HTB;obtain ⟨b0,b1,b2,b3⟩:=ck hW T5b;obtain ⟨d0,d1,d2,d3⟩:=ck hW T6b;exact ⟨⟨a4,a5,a6,a7⟩,⟨b0,b1,b2,b3⟩,d0,d1,d2,d3⟩
     have HX:=T5i;have HY:=T6i;have HE_:=HE;have HSP:=dh (SQ.start w5 u.kids x y);clear hT hst hI hJ hN hW;go_cut [9,10] from 49 to 77 (fun a c W=>SBx (It.buildP (u.kids ++ [x,y])) w5 a c W)
     case first=>
      refine wp_region_held_drew (S:=(fun w'=>(w'.cell? ⟨B,4,none⟩=some (.int .i64 u.kind)∧w'.cell? ⟨B,5,none⟩=some (.int .u64 (u.num:Int))∧w'.cell? ⟨B,6,none⟩=some (.slice C.ab C.nb C.cb)∧w'.cell? ⟨B,7,none⟩=some (.slice C.ai C.ni C.ci))∧(w'.cell? ⟨T5,0,none⟩=some (.int .i64 x.kind)∧w'.cell? ⟨T5,1,none⟩=some (.int .u64 (x.num:Int))∧w'.cell? ⟨T5,2,none⟩=some (.slice X.ab X.nb X.cb)∧w'.cell? ⟨T5,3,none⟩=some (.slice X.ai X.ni X.ci))∧(w'.cell? ⟨T6,0,none⟩=some (.int .i64 y.kind)∧w'.cell? ⟨T6,1,none⟩=some (.int .u64 (y.num:Int))∧w'.cell? ⟨T6,2,none⟩=some (.slice Y.ab Y.nb Y.cb)∧w'.cell? ⟨T6,3,none⟩=some (.slice Y.ai Y.ni Y.ci)))) (by kernel_rfl) (HS.out _ HSP.out.hB) (fun hHeld=>?_);generalize w5.drew=V at *;refine tk 0 rfl hHeld ?_;simp only [Act.put,sx]
      refine tk 1 rfl hHeld ?_;simp only [Act.put,sx]
      refine tk 2 rfl hHeld ?_;simp only [Act.put,sx]
      refine tk 4 rfl hHeld ?_;simp only [Act.put,sx]
      refine tk 5 rfl hHeld ?_;simp only [Act.put,sx]
      refine wpAnyH_ready (rs:=[3,6,12]) (by kernel_rfl) (by simp) ?_;refine AllReadyH.cons rfl (fun K1 hK1=>?_) (AllReadyH.cons rfl (fun K1 hK1=>?_) (AllReadyH.cons rfl (fun K1 hK1=>?_) AllReadyH.nil))
      focus
       obtain ⟨v3,V3,hr3,hS3⟩:=HSP.out.a3 HTL.out HLN.out;rw [if_pos (by rfl)];refine wp_app _ _ 24 rfl rfl rfl hr3 ?_
       replace HSP:=dh hS3
       clear hr3 hS3;refine hK1.out _ _ (HS.out _ HSP.out.hB) (fun hHeld=>?_);clear hK1
       try simp only [Act.put,sx]
       generalize V3=V at *
      rotate_left
      focus
       go_simp
       replace HSP:=dh (HSP.out.a6 HX.out HY.out)
       generalize hV:V.alloc (.cells #[.int .i64 x.kind,.int .u64 (x.num:Int),.slice X.ab X.nb X.cb,.slice X.ai X.ni X.ci,.int .i64 y.kind,.int .u64 (y.num:Int),.slice Y.ab Y.nb Y.cb,.slice Y.ai Y.ni Y.ci] 26)=V' at *;generalize V.heap.size=TR at *;clear hV;refine hK1.out _ _ (HS.out _ HSP.out.hB) (fun hHeld=>?_);clear hK1
       try simp only [Act.put,sx]
       generalize V'=V at *
      rotate_left
      focus
       go_simp
       replace HSP:=dh (HSP.out.a12)
       generalize hV:V.alloc o4z=V' at *;generalize V.heap.size=T12 at *;clear hV;refine hK1.out _ _ (HS.out _ HSP.out.hB) (fun hHeld=>?_);clear hK1
       try simp only [Act.put,sx]
       generalize V'=V at *
      rotate_left
      all_goals
       first
       | have hd:Hid (SQ w5 u.kids x y (some _) .none .none .none .none _):=HSP
         clear hd;refine wpAnyH_ready (rs:=[6,12]) (by kernel_rfl) (by simp) ?_;refine AllReadyH.cons rfl (fun K1 hK1=>?_) (AllReadyH.cons rfl (fun K1 hK1=>?_) AllReadyH.nil)
         focus
          go_simp
          replace HSP:=dh (HSP.out.a6 HX.out HY.out)
          generalize hV:V.alloc (.cells #[.int .i64 x.kind,.int .u64 (x.num:Int),.slice X.ab X.nb X.cb,.slice X.ai X.ni X.ci,.int .i64 y.kind,.int .u64 (y.num:Int),.slice Y.ab Y.nb Y.cb,.slice Y.ai Y.ni Y.ci] 26)=V' at *;generalize V.heap.size=TR at *;clear hV;refine hK1.out _ _ (HS.out _ HSP.out.hB) (fun hHeld=>?_);clear hK1
          try simp only [Act.put,sx]
          generalize V'=V at *
         rotate_left
         focus
          go_simp
          replace HSP:=dh (HSP.out.a12)
          generalize hV:V.alloc o4z=V' at *;generalize V.heap.size=T12 at *;clear hV;refine hK1.out _ _ (HS.out _ HSP.out.hB) (fun hHeld=>?_);clear hK1
          try simp only [Act.put,sx]
          generalize V'=V at *
         rotate_left
       | skip
      all_goals
       first
       | have hd:Hid (SQ w5 u.kids x y .none (some _) .none .none .none _):=HSP
         clear hd;refine wpAnyH_ready (rs:=[3,12]) (by kernel_rfl) (by simp) ?_;refine AllReadyH.cons rfl (fun K1 hK1=>?_) (AllReadyH.cons rfl (fun K1 hK1=>?_) AllReadyH.nil)
         focus
          obtain ⟨v3,V3,hr3,hS3⟩:=HSP.out.a3 HTL.out HLN.out;rw [if_pos (by rfl)];refine wp_app _ _ 24 rfl rfl rfl hr3 ?_
          replace HSP:=dh hS3
          clear hr3 hS3;refine hK1.out _ _ (HS.out _ HSP.out.hB) (fun hHeld=>?_);clear hK1
          try simp only [Act.put,sx]
          generalize V3=V at *
         rotate_left
         focus
          go_simp
          replace HSP:=dh (HSP.out.a12)
          generalize hV:V.alloc o4z=V' at *;generalize V.heap.size=T12 at *;clear hV;refine hK1.out _ _ (HS.out _ HSP.out.hB) (fun hHeld=>?_);clear hK1
          try simp only [Act.put,sx]
          generalize V'=V at *
         rotate_left
       | skip
      all_goals
       first
       | have hd:Hid (SQ w5 u.kids x y .none .none .none .none (some _) _):=HSP
         clear hd;refine wpAnyH_ready (rs:=[3,6]) (by kernel_rfl) (by simp) ?_;refine AllReadyH.cons rfl (fun K1 hK1=>?_) (AllReadyH.cons rfl (fun K1 hK1=>?_) AllReadyH.nil)
         focus
          obtain ⟨v3,V3,hr3,hS3⟩:=HSP.out.a3 HTL.out HLN.out;rw [if_pos (by rfl)];refine wp_app _ _ 24 rfl rfl rfl hr3 ?_
          replace HSP:=dh hS3
          clear hr3 hS3;refine hK1.out _ _ (HS.out _ HSP.out.hB) (fun hHeld=>?_);clear hK1
          try simp only [Act.put,sx]
          generalize V3=V at *
         rotate_left
         focus
          go_simp
          replace HSP:=dh (HSP.out.a6 HX.out HY.out)
          generalize hV:V.alloc (.cells #[.int .i64 x.kind,.int .u64 (x.num:Int),.slice X.ab X.nb X.cb,.slice X.ai X.ni X.ci,.int .i64 y.kind,.int .u64 (y.num:Int),.slice Y.ab Y.nb Y.cb,.slice Y.ai Y.ni Y.ci] 26)=V' at *;generalize V.heap.size=TR at *;clear hV;refine hK1.out _ _ (HS.out _ HSP.out.hB) (fun hHeld=>?_);clear hK1
          try simp only [Act.put,sx]
          generalize V'=V at *
         rotate_left
       | skip
      all_goals
       first
       | have hd:Hid (SQ w5 u.kids x y (some _) (some _) .none .none .none _):=HSP
         clear hd;refine wpAnyH_ready (rs:=[7,12]) (by kernel_rfl) (by simp) ?_;refine AllReadyH.cons rfl (fun K1 hK1=>?_) (AllReadyH.cons rfl (fun K1 hK1=>?_) AllReadyH.nil)
         focus
          obtain ⟨a7,n7,c7,V7,hr7,hS7⟩:=HSP.out.a7 HLN.out;rw [if_pos (by rfl)];refine wp_app _ _ 24 rfl rfl rfl hr7 ?_
          replace HSP:=dh hS7
          clear hr7 hS7;refine hK1.out _ _ (HS.out _ HSP.out.hB) (fun hHeld=>?_);clear hK1
          try simp only [Act.put,sx]
          generalize V7=V at *
         rotate_left
         focus
          go_simp
          replace HSP:=dh (HSP.out.a12)
          generalize hV:V.alloc o4z=V' at *;generalize V.heap.size=T12 at *;clear hV;refine hK1.out _ _ (HS.out _ HSP.out.hB) (fun hHeld=>?_);clear hK1
          try simp only [Act.put,sx]
          generalize V'=V at *
         rotate_left
       | skip
      all_goals
       first
       | have hd:Hid (SQ w5 u.kids x y (some _) .none .none .none (some _) _):=HSP
         clear hd;refine ry 6 (by kernel_rfl) rfl fun K1 hK1=>?_
         go_simp
         replace HSP:=dh (HSP.out.a6 HX.out HY.out)
         generalize hV:V.alloc (.cells #[.int .i64 x.kind,.int .u64 (x.num:Int),.slice X.ab X.nb X.cb,.slice X.ai X.ni X.ci,.int .i64 y.kind,.int .u64 (y.num:Int),.slice Y.ab Y.nb Y.cb,.slice Y.ai Y.ni Y.ci] 26)=V' at *;generalize V.heap.size=TR at *;clear hV;refine hK1.out _ _ (HS.out _ HSP.out.hB) (fun hHeld=>?_);clear hK1
         try simp only [Act.put,sx]
         generalize V'=V at *
       | skip
      all_goals
       first
       | have hd:Hid (SQ w5 u.kids x y .none (some _) .none .none (some _) _):=HSP
         clear hd;refine ry 3 (by kernel_rfl) rfl fun K1 hK1=>?_
         obtain ⟨v3,V3,hr3,hS3⟩:=HSP.out.a3 HTL.out HLN.out;rw [if_pos (by rfl)];refine wp_app _ _ 24 rfl rfl rfl hr3 ?_
         replace HSP:=dh hS3
         clear hr3 hS3;refine hK1.out _ _ (HS.out _ HSP.out.hB) (fun hHeld=>?_);clear hK1
         try simp only [Act.put,sx]
         generalize V3=V at *
       | skip
      all_goals
       first
       | have hd:Hid (SQ w5 u.kids x y .none .none (some _) .none .none _):=HSP
         clear hd;refine wpAnyH_ready (rs:=[8,12]) (by kernel_rfl) (by simp) ?_;refine AllReadyH.cons rfl (fun K1 hK1=>?_) (AllReadyH.cons rfl (fun K1 hK1=>?_) AllReadyH.nil)
         focus
          go_simp
          refine (HSP.out.a8 HE5.out HLN.out).mono ?_;rintro e V8 ⟨Z8,rfl,hS8⟩
          replace HSP:=dh hS8
          clear hS8;refine hK1.out _ _ (HS.out _ HSP.out.hB) (fun hHeld=>?_);clear hK1
          try simp only [Act.put,sx]
          generalize V8=V at *
         rotate_left
         focus
          go_simp
          replace HSP:=dh (HSP.out.a12)
          generalize hV:V.alloc o4z=V' at *;generalize V.heap.size=T12 at *;clear hV;refine hK1.out _ _ (HS.out _ HSP.out.hB) (fun hHeld=>?_);clear hK1
          try simp only [Act.put,sx]
          generalize V'=V at *
         rotate_left
       | skip
      all_goals
       first
       | have hd:Hid (SQ w5 u.kids x y (some _) (some _) .none .none (some _) _):=HSP
         clear hd;refine ry 7 (by kernel_rfl) rfl fun K1 hK1=>?_
         obtain ⟨a7,n7,c7,V7,hr7,hS7⟩:=HSP.out.a7 HLN.out;rw [if_pos (by rfl)];refine wp_app _ _ 24 rfl rfl rfl hr7 ?_
         replace HSP:=dh hS7
         clear hr7 hS7;refine hK1.out _ _ (HS.out _ HSP.out.hB) (fun hHeld=>?_);clear hK1
         try simp only [Act.put,sx]
         generalize V7=V at *
       | skip
      all_goals
       first
       | have hd:Hid (SQ w5 u.kids x y .none .none .none (some _) .none _):=HSP
         clear hd;refine tk 9 rfl hHeld ?_;simp only [Act.put,sx]
         refine tk 10 rfl hHeld ?_;simp only [Act.put,sx]
         refine tk 11 rfl hHeld ?_;simp only [Act.put,sx]
         have HM9:=dh trivial;refine ry 12 (by kernel_rfl) rfl fun K1 hK1=>?_
         go_simp
         replace HSP:=dh (HSP.out.a12)
         generalize hV:V.alloc o4z=V' at *;generalize V.heap.size=T12 at *;clear hV;refine hK1.out _ _ (HS.out _ HSP.out.hB) (fun hHeld=>?_);clear hK1
         try simp only [Act.put,sx]
         generalize V'=V at *
       | skip
      all_goals
       first
       | have hd:Hid (SQ w5 u.kids x y .none .none (some _) .none (some _) _):=HSP
         clear hd;refine ry 8 (by kernel_rfl) rfl fun K1 hK1=>?_
         go_simp
         refine (HSP.out.a8 HE5.out HLN.out).mono ?_;rintro e V8 ⟨Z8,rfl,hS8⟩
         replace HSP:=dh hS8
         clear hS8;refine hK1.out _ _ (HS.out _ HSP.out.hB) (fun hHeld=>?_);clear hK1
         try simp only [Act.put,sx]
         generalize V8=V at *
       | skip
      all_goals
       first
       | have hd:Hid (SQ w5 u.kids x y .none .none .none (some _) (some _) _):=HSP
         clear hd;have hm:=HM9;clear hm;refine ry 13 (by kernel_rfl) rfl fun K1 hK1=>?_
         obtain ⟨W',hW',hF⟩:=HSP.out.a13;have HF:=dh hF;have f:=ff (HSP.out.h12 _ rfl).1;have t:=cf (HSP.out.h12 _ rfl).1;go_simp
         clear f t hF
         try rw [hW']
         clear hW';refine hK1.out _ _ (HS.out _ HF.out.below) (fun hHeld=>?_);clear hK1
         try simp only [Act.put,sx]
       | skip
      all_goals
       first
       | have hd:Hid (SQ w5 u.kids x y .none .none .none (some _) (some _) _):=HSP
         clear hd
         fail_if_success have hm:=HM9
         refine tk 9 rfl hHeld ?_;simp only [Act.put,sx]
         refine tk 10 rfl hHeld ?_;simp only [Act.put,sx]
         refine tk 11 rfl hHeld ?_;simp only [Act.put,sx]
         refine ry 13 (by kernel_rfl) rfl fun K1 hK1=>?_
         obtain ⟨W',hW',hF⟩:=HSP.out.a13;have HF:=dh hF;have f:=ff (HSP.out.h12 _ rfl).1;have t:=cf (HSP.out.h12 _ rfl).1;go_simp
         clear f t hF
         try rw [hW']
         clear hW';refine hK1.out _ _ (HS.out _ HF.out.below) (fun hHeld=>?_);clear hK1
         try simp only [Act.put,sx]
       | skip
      all_goals
       first
       | have hd:Hid (SQ w5 u.kids x y .none .none .none (some _) (some _) _):=HSP
         clear hd;have hm:=HM9;clear hm;refine tk 14 rfl hHeld ?_;simp only [Act.put,sx]
         refine wpAnyH_done (by kernel_rfl) ?_ _
         try simp only [Act.put,sx]
         go_wp2_with fail
         go_meet
         exact HF.out
       | skip
      all_goals
       first
       | have hd:Hid (SQ w5 u.kids x y .none .none .none (some _) (some _) _):=HSP
         clear hd
         fail_if_success have hm:=HM9
         refine tk 14 rfl hHeld ?_;simp only [Act.put,sx]
         refine wpAnyH_done (by kernel_rfl) ?_ _
         try simp only [Act.put,sx]
         go_wp2_with fail
         go_meet
         exact HF.out
       | skip
     case rest=>
      obtain ⟨T9,Z9,rfl,rfl,hT9,hZ9,hT9g,hB9⟩:=hcut;generalize hr:It.buildP (u.kids ++ [x,y])=r at *;have HRR:=dh hr;have HT9:=dh hT9;have HZ9:=dh (hZ9.imp (ok':=fun q=>B + 1 < q) fun q hq _=>by have:=HSx.out.lt;have:=hq.1;omega);have HS9:=dh (HSx.out.below hB9);have HTB9:=kp hB9 HTB;have HI9:=dh (HI.out.below hB9);have HJ9:=dh (HJ.out.below hB9);clear hr hT9 hZ9 hT9g hB9 HS HSP HTL HX HY;obtain ⟨cd,hcd⟩:∃ cd:Int,((It.MR.code r:Nat):Int)=cd:=⟨_,rfl⟩;rw [hcd];have HCD:=dh hcd;clear hcd;cases r with
      | err e0=>
        obtain rfl:cd=(e0:Int):=HCD.out.symm;have hne:((e0:Int)==0)=false:=by have:=It.buildP_err HRR.out;simp;omega
        clear HCD;go_wp2_with fail
        go_meet
        exact ⟨rfl,HS9.out⟩
      | ok x9=>
        obtain rfl:cd=0:=HCD.out.symm;simp only [It.MR.item] at *;have HV9:Hid (It.StP x9):=dh (stp_valid (buildP_ok HRR.out));clear HCD;obtain ⟨f0,f1,f2,f3,f4,f5,f6,f7⟩:=fe8 HTB9.out;obtain ⟨r0,r1,r2,r3,r4,r5,r6,r7⟩:=ce HTB9.out;obtain ⟨t0,t1,t2,t3⟩:=cf HT9.out;go_wp2_with fail
        clear f0 f1 f2 f3 f4 f5 f6 f7 r0 r1 r2 r3 r4 r5 r6 r7 t0 t1 t2 t3;obtain ⟨W',hW',hp8,hs8,hb8⟩:=put8hi (W:=wc) (b:=B) HTB9.out (.int .i64 x9.kind) (.int .u64 (x9.num:Int)) (.slice Z9.ab Z9.nb Z9.cb) (.slice Z9.ai Z9.ni Z9.ci);rw [hW'];clear hW';go_meet
        exact ⟨rfl,HS9.out.store hwB hp8 hs8 hb8 ⟨HST.out.1,HV9.out⟩ HI9.out HZ9.out⟩
   case rest=>
    obtain ⟨rfl,hS⟩:=hcut;have HS7:=dh hS;clear hS HSx T5b T6b T5i T6i;go_wp2_with fail
    refine (nxa b 9 wc HS7.out.dw.deck (by omega) (by omega)).mono ?_;rintro e w8 ⟨r9,hr0,hr1,rfl,hD8,hB8,hs8⟩;have HS8:=dh (HS7.out.next hB8 hD8 hbB);clear hB8 hD8 hs8 hr0 hr1 HS7;by_cases h8:r9=8
    case neg=>
     have h8b:(r9==8)=false:=by simpa using h8
     clear h8;go_upto_region 13 with fail
     obtain ⟨p9,u9,A9,C9,hT9,hst9,hI9,hJ9,hN9,hW9⟩:=HS8.out;have HT9:=dh hT9;have HN9:=dh hN9;have HW9:=dh hW9;have HI9:=dh hI9;have HJ9:=dh hJ9;have HK9:=dh hst9;clear hT9 hst9 hI9 hJ9 hN9 hW9;obtain ⟨t0,t1,t2,t3,t4,t5,t6,t7⟩:=ce HT9.out;obtain ⟨f0,f1,f2,f3,f4,f5,f6,f7⟩:=fe8 HN9.out;obtain ⟨r0,r1,r2,r3,r4,r5,r6,r7⟩:=ce HN9.out;go_wp2_with fail
     clear f0 f1 f2 f3 f4 f5 f6 f7 t0 t1 t2 t3 t4 t5 t6 t7 r0 r1 r2 r3 r4 r5 r6 r7;obtain ⟨W',hW',hp8,hs8,hb8⟩:=p8I (W:=w8) (b:=(B + 1)) HN9.out p9 u9 A9 C9;rw [hW'];clear hW';obtain ⟨g0,g1,g2,g3,g4,g5,g6,g7⟩:=ce hp8;refine bodyPost_ret (v:=(v8 p9 u9 A9 C9)) (by simp [v8,results,Tryz.results80,go_sem,g0,g1,g2,g3,g4,g5,g6,g7]) rfl ?_;exact ⟨p9,u9,A9,C9,rfl,HK9.out,HI9.out.keep (w':=W') (ok':=fun q=>w.heap.size≤q) fun q hq _=>⟨hs8.2 q (by omega),by omega⟩,HJ9.out.keep (w':=W') (ok':=fun q=>w.heap.size≤q) fun q hq _=>⟨hs8.2 q (by omega),by omega⟩,HW9.out.down (n:=B) (hb8 B w8 ((Below.refl w8.heap.size w8).mono (by have:=lb HN9.out;omega)) (by omega)) hwB⟩
    have h8b:(r9==8)=true:=by simpa using h8
    clear h8;go_wp2_with fail
    refine (nxa b 9 w8 HS8.out.dw.deck (by omega) (by omega)).mono ?_;rintro e w9 ⟨r10,hr0,hr1,rfl,hD9,hB9,hs9⟩;have HS9:=dh (HS8.out.next hB9 hD9 hbB);clear hB9 hD9 hs9 hr0 hr1 HS8;obtain ⟨p,u,A,C,hT,hst,hI,hJ,hN,hW⟩:=HS9.out;have HT9:=dh hT;have HST9:=dh hst;have HI9:=dh hI;have HJ9:=dh hJ;clear hT hst hI hJ hN hW;obtain ⟨f0,f1,f2,f3,f4,f5,f6,f7⟩:=fe8 HT9.out;obtain ⟨t0,t1,t2,t3,t4,t5,t6,t7⟩:=ce HT9.out;go_upto_region 13 with fail
    clear f0 f1 f2 f3 f4 f5 f6 f7 t0 t1 t2 t3 t4 t5 t6 t7;have hp:(w9.setCell ⟨B,0,none⟩ (.int .i64 r10)).heap[B]?=some (.cells #[.int .i64 (It.mk r10 p.num p.bytes p.kids).kind,.int .u64 ((It.mk r10 p.num p.bytes p.kids).num:Int),.slice A.ab A.nb A.cb,.slice A.ai A.ni A.ci,.int .i64 u.kind,.int .u64 (u.num:Int),.slice C.ab C.nb C.cb,.slice C.ai C.ni C.ci] 28 (0,0)):=by
     rw [sar HT9.out]
     rfl
    have HS10:Hid (SS b B w (w9.setCell ⟨B,0,none⟩ (.int .i64 r10))):=dh (HS9.out.store hwB hp ⟨by simp [World.setCell],fun k hk=>Below.heap_setCell _ _ _ _ hk⟩ (fun n u h hn=>h.setCell (p:=⟨B,0,none⟩) hn _) ⟨HST9.out.1.kind r10,HST9.out.2⟩ (HI9.out.kind r10) HJ9.out);clear hp HS9 HT9 HI9 HJ9 HST9;generalize w9.setCell ⟨B,0,none⟩ (.int .i64 r10)=w10 at *;obtain ⟨p9,u9,A9,C9,hT9,hst9,hI9,hJ9,hN9,hW9⟩:=HS10.out;have HT9:=dh hT9;have HN9:=dh hN9;have HW9:=dh hW9;have HI9:=dh hI9;have HJ9:=dh hJ9;have HK9:=dh hst9;clear hT9 hst9 hI9 hJ9 hN9 hW9;obtain ⟨t0,t1,t2,t3,t4,t5,t6,t7⟩:=ce HT9.out;obtain ⟨f0,f1,f2,f3,f4,f5,f6,f7⟩:=fe8 HN9.out;obtain ⟨r0,r1,r2,r3,r4,r5,r6,r7⟩:=ce HN9.out;go_wp2_with fail
    clear f0 f1 f2 f3 f4 f5 f6 f7 t0 t1 t2 t3 t4 t5 t6 t7 r0 r1 r2 r3 r4 r5 r6 r7;obtain ⟨W',hW',hp8,hs8,hb8⟩:=p8I (W:=w10) (b:=(B + 1)) HN9.out p9 u9 A9 C9;rw [hW'];clear hW';obtain ⟨g0,g1,g2,g3,g4,g5,g6,g7⟩:=ce hp8;refine bodyPost_ret (v:=(v8 p9 u9 A9 C9)) (by simp [v8,results,Tryz.results80,go_sem,g0,g1,g2,g3,g4,g5,g6,g7]) rfl ?_;exact ⟨p9,u9,A9,C9,rfl,HK9.out,HI9.out.keep (w':=W') (ok':=fun q=>w.heap.size≤q) fun q hq _=>⟨hs8.2 q (by omega),by omega⟩,HJ9.out.keep (w':=W') (ok':=fun q=>w.heap.size≤q) fun q hq _=>⟨hs8.2 q (by omega),by omega⟩,HW9.out.down (n:=B) (hb8 B w10 ((Below.refl w10.heap.size w10).mono (by have:=lb HN9.out;omega)) (by omega)) hwB⟩
