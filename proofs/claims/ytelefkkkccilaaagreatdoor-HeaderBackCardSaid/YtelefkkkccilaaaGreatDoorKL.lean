/- Headers: Put. -/
import Derived.Test.YtelefkkkccilaaaGreatDoorKJ
set_option maxHeartbeats 16000000
set_option linter.all false
namespace Go.Proofs.YtelefkkkccilaaaGreatDoor
open Go.RowKit
set_option maxRecDepth 100000
theorem app_full {W:World} {ok ok' Q:Nat→Prop} {l m:List It} {a b:Option Addr} {n k c:Nat} (hT:TL ok W l a n) (hU:TL ok' W m b k) (hk0:0 < k) (ho:∀ q,ok q→q < W.heap.size→Q q) (ho':∀ q,ok' q→q < W.heap.size→Q q) (hsz:n + k≤1000000):
 ∃ v' W' es,(Builtin.append_ #[24,24] 24 #[.slice a n n,.slice b k c]).run Tryz.prog W=.ok v' W'∧es.map (·.1)=l ++ m∧OutI W' W.heap.size Q v' es∧Below W.heap.size W W':=by
 obtain ⟨i0,hi,hz0,hz1,hz2⟩:=info_parts inf26;obtain ⟨es1,e1,s1,i1⟩:=hT.src;obtain ⟨es2,e2,s2,i2⟩:=hU.src;have hn1:n=es1.length:=s1.1;have hn2:k=es2.length:=s2.1;cases a with
 | none=>
   have h1:es1=[]:=by
    cases es1 with
    | nil=>rfl
    | cons x r=>obtain ⟨b',o,h,_⟩:=s1.2 0 (.int .i64 x.1.kind) (by simp [cells4]);cases h
   subst h1;simp at hn1;subst hn1;obtain ⟨v',W',h2,h3,h4,_⟩:=(OutI.nil W W.heap.size Q).app (news:=es2) (c:=c) s2 (fun e he=>(i2 e he).imp fun q hq hl=>⟨ho' q hq hl,by simp [Value.ownBlock]⟩) (by simpa using hsz) (Nat.le_refl _);refine ⟨v',W',_,h2,?_,h3,grown_pure h4⟩;rw [← e1,← e2];rfl
 | some ad=>
   cases b with
   | none=>
     exfalso
     cases es2 with
     | nil=>simp at hn2;omega
     | cons x r=>obtain ⟨b',o,h,_⟩:=s2.2 0 (.int .i64 x.1.kind) (by simp [cells4]);cases h
   | some bd=>
     have hs:∀ {ad:Addr} {n:Nat} {es:List (It × Ad)},SrcI W (some ad) n es→∀ j u,(es.flatMap cells4)[j]?=some u→W.cell? (ad.add j)=some u:=fun h j u hu=>by
      obtain ⟨b,o,h,hcell⟩:=h.2 j u hu;cases h
      have hadd:(⟨b,o,none⟩:Addr).add j=⟨b,o + j,none⟩:=by unfold Addr.add;split <;> simp_all
      rw [hadd];exact hcell
     have hl1:(es1.flatMap cells4).length=n * i0.size:=by rw [flat4_len,hz1,hn1]
     have hl2:(es2.flatMap cells4).length=k * i0.size:=by rw [flat4_len,hz1,hn2]
     have hr:=run_append_grow (P:=Tryz.prog) W 24 24 26 i0 _ Tryz.underlying24 hi hz0 ad n n (es1.flatMap cells4) hl1 (hs s1) bd k c (es2.flatMap cells4) hl2 (hs s2) (by omega) (by omega) (by rw [hz2];exact growslice_fits (by omega) (by omega));have hge:=grownCap_ge W (n + k) n 26;have hcm:grownCap W (n + k) n 26≤maxLen:=grownCap_le_maxLen W (n + k) n 26 (by unfold maxLen;omega);have hB:Below W.heap.size W (W.drew.alloc (.cells ((es1.flatMap cells4).toArray ++ (es2.flatMap cells4).toArray ++ Builtin.zeroCells (Value.agg #[.int .i64 0,.int .u64 0,.slice none 0 0,.slice none 0 0]).cells (grownCap W (n + k) n 26 - (n + k))) 26)):=((Below.refl _ _).drew).alloc (Nat.le_refl _) _;have hk:∀ b,(ok b∨ok' b)→b < W.heap.size→(W.drew.alloc (.cells ((es1.flatMap cells4).toArray ++ (es2.flatMap cells4).toArray ++ Builtin.zeroCells (Value.agg #[.int .i64 0,.int .u64 0,.slice none 0 0,.slice none 0 0]).cells (grownCap W (n + k) n 26 - (n + k))) 26)).heap[b]?=W.heap[b]?∧okQ Q (.slice (some ⟨W.heap.size,0,none⟩) (n + k) (grownCap W (n + k) n 26)) b:=fun b hb hl=>⟨hB.block b hl,by rcases hb with hb | hb;exact ho b hb hl;exact ho' b hb hl,by simp [Value.ownBlock];omega⟩
     refine ⟨_,_,es1 ++ es2,hr,by rw [List.map_append,e1,e2],⟨⟨?_,.inr ⟨W.heap.size,_,_,?_,Nat.le_refl _,heap_alloc_new W.drew _,by rw [List.length_append,← hn1,← hn2];exact hge,hcm,?_,?_⟩⟩,fun e he=>?_⟩,hB⟩
     ·rw [flat4_len]
     ·rw [List.length_append,← hn1,← hn2]
     ·simp only [Array.size_append,List.size_toArray,size_zeroCells,hl1,hl2,hz1]
      show n * 4 + k * 4 + (grownCap W (n + k) n 26 - (n + k)) * 4=_
      omega
     ·simp only [Array.toList_append,List.append_assoc,List.flatMap_append]
      rw [← List.append_assoc];have:(es1 ++ es2).length * 4=(es1.flatMap cells4 ++ es2.flatMap cells4).length:=by rw [List.length_append,List.length_append,flat4_len,flat4_len];omega
      rw [this];exact List.take_left
     ·rcases List.mem_append.1 he with he | he
      ·exact (i1 e he).keep fun b hb hl=>hk b (.inl hb) hl
      ·exact (i2 e he).keep fun b hb hl=>hk b (.inr hb) hl
theorem put8lo {W:World} {b:Nat} {x0 x1 x2 x3 x4 x5 x6 x7:Value} {T:Nat} (h:W.heap[b]?=some (.cells #[x0,x1,x2,x3,x4,x5,x6,x7] T (0,0))) (y0 y1 y2 y3:Value):∃ W',((((W.setCell ⟨b,0,none⟩ y0).setCell ⟨b,1,none⟩ y1).setCell ⟨b,2,none⟩ y2).setCell ⟨b,3,none⟩ y3)=W'∧W'.heap[b]?=some (.cells #[y0,y1,y2,y3,x4,x5,x6,x7] T (0,0))∧(W'.heap.size=W.heap.size∧∀ k,k≠b→W'.heap[k]?=W.heap[k]?)∧∀ (n:Nat) (u:World),Below n u W→n≤b→Below n u W':=by
 refine ⟨_,rfl,?_,⟨by simp [World.setCell],fun k hk=>?_⟩,fun n u hu hb=>?_⟩
 ·have h0:=sar h 0 y0
  have h1:=sar h0 1 y1;have h2:=sar h1 2 y2;have h3:=sar h2 3 y3;rw [h3];simp
 ·have h:k≠b:=hk
  rw [Below.heap_setCell _ _ _ _ h,Below.heap_setCell _ _ _ _ h,Below.heap_setCell _ _ _ _ h,Below.heap_setCell _ _ _ _ h]
 ·exact (((hu.setCell (p:=⟨b,0,none⟩) hb y0).setCell (p:=⟨b,1,none⟩) hb y1).setCell (p:=⟨b,2,none⟩) hb y2).setCell (p:=⟨b,3,none⟩) hb y3
theorem put8hi {W:World} {b:Nat} {x0 x1 x2 x3 x4 x5 x6 x7:Value} {T:Nat} (h:W.heap[b]?=some (.cells #[x0,x1,x2,x3,x4,x5,x6,x7] T (0,0))) (y0 y1 y2 y3:Value):∃ W',((((W.setCell ⟨b,4,none⟩ y0).setCell ⟨b,5,none⟩ y1).setCell ⟨b,6,none⟩ y2).setCell ⟨b,7,none⟩ y3)=W'∧W'.heap[b]?=some (.cells #[x0,x1,x2,x3,y0,y1,y2,y3] T (0,0))∧(W'.heap.size=W.heap.size∧∀ k,k≠b→W'.heap[k]?=W.heap[k]?)∧∀ (n:Nat) (u:World),Below n u W→n≤b→Below n u W':=by
 refine ⟨_,rfl,?_,⟨by simp [World.setCell],fun k hk=>?_⟩,fun n u hu hb=>?_⟩
 ·have h0:=sar h 4 y0
  have h1:=sar h0 5 y1;have h2:=sar h1 6 y2;have h3:=sar h2 7 y3;rw [h3];simp
 ·have h:k≠b:=hk
  rw [Below.heap_setCell _ _ _ _ h,Below.heap_setCell _ _ _ _ h,Below.heap_setCell _ _ _ _ h,Below.heap_setCell _ _ _ _ h]
 ·exact (((hu.setCell (p:=⟨b,4,none⟩) hb y0).setCell (p:=⟨b,5,none⟩) hb y1).setCell (p:=⟨b,6,none⟩) hb y2).setCell (p:=⟨b,7,none⟩) hb y3
section
variable {o:Oper} {ρ:Operand→Value} {w:World}
theorem doesh_nil {ok:Nat→Prop} (x:Operand) (b q:Nat) (ho:o.op=.nilCheck x) (hx:ρ x=.pointer (some ⟨b,q,none⟩)):Rg.Does Tryz.prog o ρ w fun v' w'=>RB' w w'∧True∧(Fh.eq (.pointer (some ⟨b,q,none⟩))).holds ok v' w':=by
 refine doesh_val ?_ rfl;simp only [execOp,ho,hx];go_simp
theorem doesh_field3q {ok:Nat→Prop} (x:Operand) (b q:Nat) (ho:o.op=.fieldAddr 26 x 3) (hx:ρ x=.pointer (some ⟨b,q,none⟩)):Rg.Does Tryz.prog o ρ w fun v' w'=>RB' w w'∧True∧(Fh.eq (.pointer (some ⟨b,q + 3,none⟩))).holds ok v' w':=by
 refine doesh_val ?_ rfl;simp only [execOp,ho,hx];go_simp
theorem doesh_row2 {ok ok0 ok1:Nat→Prop} (o0 o1:Operand) (x0 x1:It) (ho:o.op=.buildSlice 24 2 #[(0,o0),(1,o1)]) (h0:(Fh.it x0).holds ok0 (ρ o0) w) (h1:(Fh.it x1).holds ok1 (ρ o1) w):Rg.Does Tryz.prog o ρ w fun v w'=>RB' w w'∧True∧(Fh.row [x0,x1]).holds ok v w':=by
 obtain ⟨A0,e0,hI0⟩:=h0;obtain ⟨A1,e1,hI1⟩:=h1;have hP:=al w (.cells #[.int .i64 x0.kind,.int .u64 (x0.num:Int),.slice A0.ab A0.nb A0.cb,.slice A0.ai A0.ni A0.ci,.int .i64 x1.kind,.int .u64 (x1.num:Int),.slice A1.ab A1.nb A1.cb,.slice A1.ai A1.ni A1.ci] 26);have hN:=aw w (.cells #[.int .i64 x0.kind,.int .u64 (x0.num:Int),.slice A0.ab A0.nb A0.cb,.slice A0.ai A0.ni A0.ci,.int .i64 x1.kind,.int .u64 (x1.num:Int),.slice A1.ab A1.nb A1.cb,.slice A1.ai A1.ni A1.ci] 26);refine Rg.Does.value (v:=.slice (some ⟨w.heap.size,0,none⟩) 2 2) (w':=w.alloc (.cells #[.int .i64 x0.kind,.int .u64 (x0.num:Int),.slice A0.ab A0.nb A0.cb,.slice A0.ai A0.ni A0.ci,.int .i64 x1.kind,.int .u64 (x1.num:Int),.slice A1.ab A1.nb A1.cb,.slice A1.ai A1.ni A1.ci] 26)) ?_ ⟨hP,trivial,some ⟨w.heap.size,0,none⟩,2,2,rfl,⟨rfl,by simp,fun j hj=>?_⟩,by simp,by simp⟩
 ·have hr:=run_row2 x0.kind (x0.num:Int) A0.ab A0.ai A0.nb A0.cb A0.ni A0.ci x1.kind (x1.num:Int) A1.ab A1.ai A1.nb A1.cb A1.ni A1.ci w
  simp only [execOp,ho,List.map_toArray,List.map_cons,List.map_nil,e0,e1,Sem.run_bind,hr,Result.andThen_ok,Sem.run_pure]
 ·have hj:j < 2:=hj
  rcases (show j=0∨j=1 by omega) with rfl | rfl
  ·exact ⟨w.heap.size,0,A0,rfl,trivial,⟨cr hN _,cr hN _,cr hN _,cr hN _⟩,(hI0.imp fun _ _ _=>trivial).below hP⟩
  ·exact ⟨w.heap.size,0,A1,rfl,trivial,⟨cr hN _,cr hN _,cr hN _,cr hN _⟩,(hI1.imp fun _ _ _=>trivial).below hP⟩
theorem doesh_full {ok ok0 ok1:Nat→Prop} (x y:Operand) (l m:List It) (a:Option Addr) (n c:Nat) (ho:o.op=.call { callee:=.builtin .append,args:=#[x,y],argTypes:=#[24,24] }) (ht:o.type=24) (hx:ρ x=.slice a n c) (hc:c=n) (hT:TL ok0 w l a n) (hy:(Fh.row m).holds ok1 (ρ y) w) (hm:0 < m.length) (hsz:l.length + m.length≤1000000):Rg.Does Tryz.prog o ρ w fun v w'=>RB' w w'∧True∧(Fh.row (l ++ m)).holds ok v w':=by
 obtain ⟨b,k,d,e,hU,_⟩:=hy;subst hc;obtain ⟨v',W',es,hr,he,hO,hB⟩:=app_full (Q:=fun _=>True) (c:=d) hT hU (by have:=hU.1;omega) (fun _ _ _=>trivial) (fun _ _ _=>trivial) (by have:=hT.1;have:=hU.1;omega);obtain ⟨a',c',e',hT',h3⟩:=hO.tl;refine Rg.Does.value (v:=v') (w':=W') ?_ ⟨hB,trivial,a',es.length,c',e',?_,h3⟩
 ·unfold execOp
  simp only [ho,ht,resolve,invoke,builtin,Sem.run_bind,Sem.run_pure,Result.andThen_ok,List.map_toArray,List.map_cons,List.map_nil,hx,e,hr]
 ·rw [← he]
  exact hT'.keep fun b _ _=>⟨rfl,trivial⟩
end
theorem late_mr0 {o:Oper} {ρ:Operand→Value} {w:World} {ok:Nat→Prop} {r:It.MR} (x:Operand) (ho:o.op=.extract x 0) (h:(Fh.mr r).holds ok (ρ x) w):∃ v,(∀ W,(execOp ρ o).run Tryz.prog W=.ok (.value v) W)∧(Fh.it (It.MR.item r)).holds ok v w:=by
 obtain ⟨A,e,hI⟩:=h;exact ⟨_,fun W=>by simp only [execOp,ho,e];go_simp,A,rfl,hI⟩
theorem late_mr1 {o:Oper} {ρ:Operand→Value} {w:World} {ok:Nat→Prop} {r:It.MR} (x:Operand) (ho:o.op=.extract x 1) (h:(Fh.mr r).holds ok (ρ x) w):∃ v,(∀ W,(execOp ρ o).run Tryz.prog W=.ok (.value v) W)∧(Fh.eq (.int .i64 (It.MR.code r:Int))).holds ok v w:=by
 obtain ⟨A,e,hI⟩:=h;exact ⟨_,fun W=>by simp only [execOp,ho,e];go_simp,rfl⟩
theorem h_cbuild {ok:Nat→Prop} {v:Value} {W:World} {l:List It} (h:(Fh.row l).holds ok v W) (hl:l.length≤1000) (hE:Env W):Calls Tryz.prog 60 #[v] W (EndH W (.mr (It.buildP l))):=by
 obtain ⟨a,n,c,rfl,hT,_⟩:=h;exact (cbuild_any l a n c W _ hT (by have:=hT.1;omega) hE).mono fun _ _ h=>EndH.mr h
def PX (p u:It) (n:Nat) (w5:World) (a:Value) (W:World):Prop:=∃ (T:Nat) (Y Z:Ad),a=.pointer (some ⟨T,0,none⟩)∧W.heap[T]?=some (.cells #[.int .i64 p.kind,.int .u64 (p.num:Int),.slice Y.ab Y.nb Y.cb,.slice Y.ai Y.ni Y.ci,.int .i64 u.kind,.int .u64 (u.num:Int),.slice Z.ab Z.nb Z.cb,.slice Z.ai Z.ni Z.ci] 28 (0,0))∧IR (fun b=>n≤b∧b≠T) W p Y∧IR (fun b=>n≤b∧b≠T) W u Z∧Y.ci=Y.ni∧Z.ci=Z.ni∧n≤T∧Below n w5 W
theorem doesh_loadEV {o:Oper} {ρ:Operand→Value} {w:World} {ok:Nat→Prop} {W:World} (x:Operand) (b:Nat) (k:It) (A:Ad) (hW:Below w.heap.size w W) (hb:w.heap[b]?=some (.cells #[.int .i64 k.kind,.int .u64 (k.num:Int),.slice A.ab A.nb A.cb,.slice A.ai A.ni A.ci] 26 (0,0))) (ho:o.op=.load 26 x) (hx:ρ x=.pointer (some ⟨b,0,none⟩)):Rg.Does Tryz.prog o ρ W fun v' w'=>RB' W w'∧True∧(Fh.eq (.agg #[.int .i64 k.kind,.int .u64 (k.num:Int),.slice A.ab A.nb A.cb,.slice A.ai A.ni A.ci])).holds ok v' w':=by
 have a:=cf (bkp hW hb (lb hb));refine doesh_val (v:=.agg #[.int .i64 k.kind,.int .u64 (k.num:Int),.slice A.ab A.nb A.cb,.slice A.ai A.ni A.ci]) ?_ rfl;have hr:(Instr.loadAt 26 (.pointer (some ⟨b,0,none⟩))).run Tryz.prog W=.ok (.agg #[.int .i64 k.kind,.int .u64 (k.num:Int),.slice A.ab A.nb A.cb,.slice A.ai A.ni A.ci]) W:=by
  go_simp
 simp only [execOp,ho,hx,Sem.run_bind,hr,Result.andThen_ok,Sem.run_pure]
theorem hput_any (p u:It) (A C:Ad) (w:World) (ok ok':Nat→Prop) (hI:IR ok w p A) (hJ:IR ok' w u C) (hE:Env w) (v:It) (K:Ad) (b:Bool) (n:Int) (ok3:Nat→Prop) (hK:IR ok3 w v K) (h0: -9223372036854775808≤n) (h1:n≤9223372036854775807):Calls Tryz.prog 32 #[.agg #[.int .i64 p.kind,.int .u64 (p.num:Int),.slice A.ab A.nb A.cb,.slice A.ai A.ni A.ci,.int .i64 u.kind,.int .u64 (u.num:Int),.slice C.ab C.nb C.cb,.slice C.ai C.ni C.ci],.bool b,.int .i64 n,.agg #[.int .i64 v.kind,.int .u64 (v.num:Int),.slice K.ab K.nb K.cb,.slice K.ai K.ni K.ci]] w (EndH w (.hr (It.putP p u b n v))):=by
 obtain ⟨P0,N0⟩:=an w (o8 p u A C);obtain ⟨P1,N1⟩:=an (w.alloc (o8 p u A C)) (o4 v K);have hsz1:(w.alloc (o8 p u A C)).heap.size=w.heap.size + 1:=by simp
 rw [hsz1] at N1;obtain ⟨P2,N2⟩:=an ((w.alloc (o8 p u A C)).alloc (o4 v K)) o8z;have hsz2:((w.alloc (o8 p u A C)).alloc (o4 v K)).heap.size=w.heap.size + 2:=by simp
 rw [hsz2] at N2;have HX1:=dh (bkp P2 (bkp P1 N0 (lb N0)) (lb (bkp P1 N0 (lb N0))));have HV1:=dh (bkp P2 N1 (lb N1));have HY1:=dh N2;have HP1:=dh (pt (pt P0 P1) P2);have HI1:=dh (((((hI.imp (ok':=fun b=>b < w.heap.size) fun b _ hb=>hb).below P0).below P1).below P2));have HJ1:=dh (((((hJ.imp (ok':=fun b=>b < w.heap.size) fun b _ hb=>hb).below P0).below P1).below P2));have HK1:=dh (((((hK.imp (ok':=fun b=>b < w.heap.size) fun b _ hb=>hb).below P0).below P1).below P2));have HE1:=dh ((((hE.below P0).below P1).below P2));have HN:=dh (And.intro h0 h1);have hsz3:(((w.alloc (o8 p u A C)).alloc (o4 v K)).alloc o8z).heap.size=w.heap.size + 3:=by simp
 clear hI hJ hK hE h0 h1;go_enter Tryz.func32,Tryz.ntmps32
 go_upto_region 1 with fail
 clear P0 P1 P2 N0 N1 N2 hsz1 hsz2;generalize (((w.alloc (o8 p u A C)).alloc (o4 v K)).alloc o8z)=w1 at *;generalize hB:w.heap.size=B at *;have HSZ:=dh hsz3;clear hsz3;obtain ⟨x0,x1,x2,x3,x4,x5,x6,x7⟩:=ce HX1.out;cases hv:It.hvalid p u with
 | false=>
   have HC:=dh (hva p u A C w1 _ _ HI1.out HJ1.out HE1.out);rw [hv] at HC;have HEE:Hid (It.putP p u b n v=.err 1):=dh (by unfold It.putP;rw [if_pos (.inl hv)]);clear hv;go_wp2_with fail
   refine HC.out.mono ?_;rintro e v1 ⟨rfl,B1⟩;have HPW:=dh (bwt HP1.out B1 hB);have HY:=kp B1 HY1;clear B1 HX1 HV1 HY1 HC x0 x1 x2 x3 x4 x5 x6 x7;have f:=fe8 HY.out;obtain ⟨r0,r1,r2,r3,r4,r5,r6,r7⟩:=ce HY.out;go_wp2_with fail
   clear f r0 r1 r2 r3 r4 r5 r6 r7;obtain ⟨W',hW',hp8,hs8,hb8⟩:=pe8 (W:=v1) (b:=(B + 2)) HY.out (.int .i64 0) (.int .u64 0) (.slice none 0 0) (.slice none 0 0) (.int .i64 0) (.int .u64 0) (.slice none 0 0) (.slice none 0 0);rw [hW'];clear hW';obtain ⟨g0,g1,g2,g3,g4,g5,g6,g7⟩:=ce hp8;refine bodyPost_ret (v:=.tuple #[vz8,.int .i64 1]) (by simp [vz8,results,Tryz.results32,go_sem,g0,g1,g2,g3,g4,g5,g6,g7]) rfl ?_;rw [HEE.out];exact ⟨_,rfl,by rw [RB',hB];exact hb8 B w HPW.out (by omega),⟨none,0,0,none,0,0⟩,⟨none,0,0,none,0,0⟩,rfl,IR.flat _ _ (by omega),IR.flat _ _ (by omega)⟩
 | true=>
   have HC:=dh (hva p u A C w1 _ _ HI1.out HJ1.out HE1.out);rw [hv] at HC;have HVAL:=dh hv;clear hv;go_wp2_with fail
   refine HC.out.mono ?_;rintro e v1 ⟨rfl,B1⟩;have HP2:=dh (bwt HP1.out B1 hB);have HX2:=kp B1 HX1;have HV2:=kp B1 HV1;have HY2:=kp B1 HY1;have HI2:=dh (HI1.out.below B1);have HJ2:=dh (HJ1.out.below B1);have HK2:=dh (HK1.out.below B1);have HE2:=dh (HE1.out.below B1);clear HP1 HX1 HV1 HY1 HI1 HJ1 HK1 HE1;have HSZ2:Hid (B + 3≤v1.heap.size):=dh (by have:=HSZ.out;have:=B1.size;omega);clear B1 HC HSZ x0 x1 x2 x3 x4 x5 x6 x7;have y:=cf HV2.out;cases hvv:It.valid v with
   | false=>
     have HC:=dh (cva v K v1 _ HK2.out HE2.out false hvv);have HEE:Hid (It.putP p u b n v=.err 1):=dh (by unfold It.putP;rw [if_pos (.inr hvv)]);clear hvv;go_wp2_with fail
     refine HC.out.mono ?_;rintro e v2 ⟨rfl,B2⟩;have HPW:=dh (bwt HP2.out B2 hB);have HY:=kp B2 HY2;clear B2 HX2 HV2 HY2 HC y;have f:=fe8 HY.out;obtain ⟨r0,r1,r2,r3,r4,r5,r6,r7⟩:=ce HY.out;go_wp2_with fail
     clear f r0 r1 r2 r3 r4 r5 r6 r7;obtain ⟨W',hW',hp8,hs8,hb8⟩:=pe8 (W:=v2) (b:=(B + 2)) HY.out (.int .i64 0) (.int .u64 0) (.slice none 0 0) (.slice none 0 0) (.int .i64 0) (.int .u64 0) (.slice none 0 0) (.slice none 0 0);rw [hW'];clear hW';obtain ⟨g0,g1,g2,g3,g4,g5,g6,g7⟩:=ce hp8;refine bodyPost_ret (v:=.tuple #[vz8,.int .i64 1]) (by simp [vz8,results,Tryz.results32,go_sem,g0,g1,g2,g3,g4,g5,g6,g7]) rfl ?_;rw [HEE.out];exact ⟨_,rfl,by rw [RB',hB];exact hb8 B w HPW.out (by omega),⟨none,0,0,none,0,0⟩,⟨none,0,0,none,0,0⟩,rfl,IR.flat _ _ (by omega),IR.flat _ _ (by omega)⟩
   | true=>
     have HC:=dh (cva v K v1 _ HK2.out HE2.out true hvv);have HVV:=dh hvv;clear hvv;obtain ⟨x0,x1,x2,x3,x4,x5,x6,x7⟩:=ce HX2.out;clear x0 x1 x2 x3 x4 x5 x6 x7;go_wp2_with fail
     refine HC.out.mono ?_;rintro e v2 ⟨rfl,B2⟩;have HP3:=dh (bwt HP2.out B2 hB);have HX3:=kp B2 HX2;have HV3:=kp B2 HV2;have HY3:=kp B2 HY2;have HI3:=dh (HI2.out.below B2);have HJ3:=dh (HJ2.out.below B2);have HK3:=dh (HK2.out.below B2);have HE3:=dh (HE2.out.below B2);clear HP2 HX2 HV2 HY2 HI2 HJ2 HK2 HE2;have HSZ3:Hid (B + 3≤v2.heap.size):=dh (by have:=HSZ2.out;have:=B2.size;omega);clear B2 HC HSZ2 y;obtain ⟨x0,x1,x2,x3,x4,x5,x6,x7⟩:=ce HX3.out;have HMO:Hid (It.mapOk p=true∧It.mapOk u=true):=dh (by have h:=HVAL.out;unfold It.hvalid at h;simp only [Bool.and_eq_true] at h;exact ⟨h.1.1.1.1.1,h.1.1.1.1.2⟩);have HF:=dh (hfind_any p u A C n v2 _ _ HN.out.1 HN.out.2 HI3.out HJ3.out HE3.out);rw [find2P_eq HMO.out.1 HMO.out.2] at HF;go_wp2_with fail
     refine HF.out.mono ?_;generalize hr:It.find2 p u n=r at *;rintro e v3 ⟨_,rfl,B3,Y,rfl,hIY⟩;have hQ:=pt B3 (al v3 (.cells #[.int .i64 (It.opt r).kind,.int .u64 ((It.opt r).num:Int),.slice Y.ab Y.nb Y.cb,.slice Y.ai Y.ni Y.ci] 26));have HP5:=dh (bwt HP3.out hQ hB);have HX5:=kp hQ HX3;have HV5:=kp hQ HV3;have HY5:=kp hQ HY3;have HI5:=dh (HI3.out.below hQ);have HJ5:=dh (HJ3.out.below hQ);have HK5:=dh (HK3.out.below hQ);have HE5:=dh (HE3.out.below hQ);clear HP3 HX3 HV3 HY3 HI3 HJ3 HK3 HE3;have HSZ5:Hid (B + 3≤(v3.alloc (.cells #[.int .i64 (It.opt r).kind,.int .u64 ((It.opt r).num:Int),.slice Y.ab Y.nb Y.cb,.slice Y.ai Y.ni Y.ci] 26)).heap.size):=dh (by have:=HSZ3.out;have:=Below.size hQ;omega);have HRR:=dh hr;clear hr HF hIY HSZ3;go_upto_region 4 with fail
     clear x0 x1 x2 x3 x4 x5 x6 x7 B3 hQ;generalize v3.alloc _=w5 at *;generalize v3.heap.size=T10 at *;cases r with
     | some z=>
       simp only [It.opt,Option.getD_some,Option.isSome_some] at *;have HEE:Hid (It.putP p u b n v=.err 7):=dh (by unfold It.putP;rw [if_neg (by rw [HVAL.out,HVV.out];decide),if_pos (by rw [HRR.out];rfl)]);have HPW:=HP5;have HY:=HY5;clear HX5 HV5 HY5 HP5;have f:=fe8 HY.out;obtain ⟨r0,r1,r2,r3,r4,r5,r6,r7⟩:=ce HY.out;go_wp2_with fail
       clear f r0 r1 r2 r3 r4 r5 r6 r7;obtain ⟨W',hW',hp8,hs8,hb8⟩:=pe8 (W:=w5) (b:=(B + 2)) HY.out (.int .i64 0) (.int .u64 0) (.slice none 0 0) (.slice none 0 0) (.int .i64 0) (.int .u64 0) (.slice none 0 0) (.slice none 0 0);rw [hW'];clear hW';obtain ⟨g0,g1,g2,g3,g4,g5,g6,g7⟩:=ce hp8;refine bodyPost_ret (v:=.tuple #[vz8,.int .i64 7]) (by simp [vz8,results,Tryz.results32,go_sem,g0,g1,g2,g3,g4,g5,g6,g7]) rfl ?_;rw [HEE.out];exact ⟨_,rfl,by rw [RB',hB];exact hb8 B w HPW.out (by omega),⟨none,0,0,none,0,0⟩,⟨none,0,0,none,0,0⟩,rfl,IR.flat _ _ (by omega),IR.flat _ _ (by omega)⟩
     | none=>
       simp only [It.opt,Option.getD_none,Option.isSome_none] at *;have HMAPS:=dh (It.hvalid_maps HVAL.out);obtain ⟨N5,hN5⟩:∃ N,N=w5.heap.size:=⟨_,rfl⟩;have HN5:=dh hN5;have pure_trans5:∀ {a c:World},Below N5 w5 a→Below a.heap.size a c→Below N5 w5 c:=fun h k=>h.trans (k.mono (by have:=h.size;omega))
       have HS:Hid (∀ W,Below N5 w5 W→(W.cell? ⟨B,0,none⟩=some (.int .i64 p.kind)∧W.cell? ⟨B,1,none⟩=some (.int .u64 (p.num:Int))∧W.cell? ⟨B,2,none⟩=some (.slice A.ab A.nb A.cb)∧W.cell? ⟨B,3,none⟩=some (.slice A.ai A.ni A.ci))∧(W.cell? ⟨B,4,none⟩=some (.int .i64 u.kind)∧W.cell? ⟨B,5,none⟩=some (.int .u64 (u.num:Int))∧W.cell? ⟨B,6,none⟩=some (.slice C.ab C.nb C.cb)∧W.cell? ⟨B,7,none⟩=some (.slice C.ai C.ni C.ci))):=dh fun W hW=>by
        rw [hN5] at hW;obtain ⟨a0,a1,a2,a3,a4,a5,a6,a7⟩:=ck8 hW HX5;exact ⟨⟨a0,a1,a2,a3⟩,a4,a5,a6,a7⟩
       have HC2:Hid (∀ W,Below N5 w5 W→Calls Tryz.prog 96 #[.agg #[.int .i64 p.kind,.int .u64 (p.num:Int),.slice A.ab A.nb A.cb,.slice A.ai A.ni A.ci]] W (IPC p W)):=dh fun W hW=>by
        rw [hN5] at hW;exact copied_cap p A W _ HMAPS.out.1.1 HMAPS.out.1.2 (HI5.out.below hW) (HE5.out.below hW)
       have HC5:Hid (∀ W,Below N5 w5 W→Calls Tryz.prog 96 #[.agg #[.int .i64 u.kind,.int .u64 (u.num:Int),.slice C.ab C.nb C.cb,.slice C.ai C.ni C.ci]] W (IPC u W)):=dh fun W hW=>by
        rw [hN5] at hW;exact copied_cap u C W _ HMAPS.out.2.1 HMAPS.out.2.2 (HJ5.out.below hW) (HE5.out.below hW)
       have HB:Hid (Below N5 w5 w5.drew):=dh ((Below.refl _ _).drew);clear hN5;go_upto_region 6 with fail
       go_cut [12] from 33 to 39 (fun a W=>PX p u N5 w5 a W)
       case first=>
        refine wp_region_held_drew (S:=(fun w'=>(w'.cell? ⟨B,0,none⟩=some (.int .i64 p.kind)∧w'.cell? ⟨B,1,none⟩=some (.int .u64 (p.num:Int))∧w'.cell? ⟨B,2,none⟩=some (.slice A.ab A.nb A.cb)∧w'.cell? ⟨B,3,none⟩=some (.slice A.ai A.ni A.ci))∧(w'.cell? ⟨B,4,none⟩=some (.int .i64 u.kind)∧w'.cell? ⟨B,5,none⟩=some (.int .u64 (u.num:Int))∧w'.cell? ⟨B,6,none⟩=some (.slice C.ab C.nb C.cb)∧w'.cell? ⟨B,7,none⟩=some (.slice C.ai C.ni C.ci)))) (by kernel_rfl) (HS.out _ HB.out) (fun hHeld=>?_);refine tk 0 rfl hHeld ?_;simp only [Act.put,sx]
        refine tk 1 rfl hHeld ?_;simp only [Act.put,sx]
        refine tk 3 rfl hHeld ?_;simp only [Act.put,sx]
        refine tk 4 rfl hHeld ?_;simp only [Act.put,sx]
        refine wpAnyH_ready (rs:=[2,7]) (by kernel_rfl) (by simp) ?_;refine AllReadyH.cons rfl (fun K1 hK1=>?_) (AllReadyH.cons rfl (fun K1 hK1=>?_) AllReadyH.nil)
        ·go_simp
         refine (HC2.out _ HB.out).mono ?_;rintro e V2 ⟨A2,rfl,hI2,hB2,hc2⟩;have HI2:=dh (hI2.imp (ok':=fun b=>N5≤b) fun b hb _=>by have:=HB.out.size;have:=HN5.out;omega);have HCA2:=dh hc2
         replace HB:=dh (pure_trans5 HB.out hB2)
         clear hI2 hB2 hc2;refine hK1.out _ _ (HS.out _ HB.out) (fun hHeld=>?_);clear hK1
         try simp only [sz]
         refine wpAnyH_ready (rs:=[5,7]) (by kernel_rfl) (by simp) ?_;refine AllReadyH.cons rfl (fun K1 hK1=>?_) (AllReadyH.cons rfl (fun K1 hK1=>?_) AllReadyH.nil)
         ·go_simp
          refine (HC5.out _ HB.out).mono ?_;rintro e V5 ⟨A5,rfl,hI5,hB5,hc5⟩;have HI5:=dh (hI5.imp (ok':=fun b=>N5≤b) fun b hb _=>by have:=HB.out.size;have:=HN5.out;omega);have HCA5:=dh hc5
          replace HI2:=dh (HI2.out.below hB5)
          replace HB:=dh (pure_trans5 HB.out hB5)
          clear hI5 hB5 hc5;refine hK1.out _ _ (HS.out _ HB.out) (fun hHeld=>?_);clear hK1
          try simp only [sz]
          refine tk 6 rfl hHeld ?_;simp only [Act.put,sx]
          refine ry 7 (by kernel_rfl) rfl fun K1 hK1=>?_
          go_simp
          obtain ⟨P7,N7⟩:=an V5 o8z;have HG7:Hid (N5≤V5.heap.size):=dh (by have:=HB.out.size;have:=HN5.out;omega)
          replace HI2:=dh ((HI2.out.imp (ok':=fun b=>N5≤b∧b≠V5.heap.size) fun b hb hl=>⟨hb,by omega⟩).below P7)
          replace HI5:=dh ((HI5.out.imp (ok':=fun b=>N5≤b∧b≠V5.heap.size) fun b hb hl=>⟨hb,by omega⟩).below P7)
          replace HB:=dh (pure_trans5 HB.out P7)
          have HT7:=dh N7;clear P7 N7;refine hK1.out _ _ (HS.out _ HB.out) (fun hHeld=>?_);clear hK1;generalize V5.alloc _=V7 at *;generalize V5.heap.size=T7 at *
          try simp only [sz]
          refine ry 8 (by kernel_rfl) rfl fun K1 hK1=>?_
          have f:=fe8 HT7.out;have t:=ce HT7.out;go_simp
          clear f t;obtain ⟨W',hW',hp8,hs8,hb8⟩:=p8I (W:=V7) (b:=T7) HT7.out p u A2 A5;rw [hW'];clear hW'
          replace HI2:=dh (HI2.out.keep (w':=W') (ok':=fun b=>N5≤b∧b≠T7) fun b hb _=>⟨hs8.2 b hb.2,hb⟩)
          replace HI5:=dh (HI5.out.keep (w':=W') (ok':=fun b=>N5≤b∧b≠T7) fun b hb _=>⟨hs8.2 b hb.2,hb⟩)
          replace HB:=dh (hb8 _ _ HB.out HG7.out)
          replace HT7:=dh hp8
          clear hp8 hs8 hb8;refine hK1.out _ _ (HS.out _ HB.out) (fun hHeld=>?_);clear hK1;generalize W'=V8 at *
          try simp only [sz]
          refine wpAnyH_done (by kernel_rfl) ?_ _
          try simp only [sz]
          go_wp2_with fail
          go_meet
          exact ⟨T7,A2,A5,rfl,HT7.out,HI2.out,HI5.out,HCA2.out,HCA5.out,HG7.out,HB.out⟩
         ·go_simp
          obtain ⟨P7,N7⟩:=an V2 o8z;have HG7:Hid (N5≤V2.heap.size):=dh (by have:=HB.out.size;have:=HN5.out;omega)
          replace HI2:=dh ((HI2.out.imp (ok':=fun b=>N5≤b∧b≠V2.heap.size) fun b hb hl=>⟨hb,by omega⟩).below P7)
          replace HB:=dh (pure_trans5 HB.out P7)
          have HT7:=dh N7;clear P7 N7;refine hK1.out _ _ (HS.out _ HB.out) (fun hHeld=>?_);clear hK1;generalize V2.alloc _=V7 at *;generalize V2.heap.size=T7 at *
          try simp only [sz]
          refine ry 5 (by kernel_rfl) rfl fun K1 hK1=>?_
          go_simp
          refine (HC5.out _ HB.out).mono ?_;rintro e V5 ⟨A5,rfl,hI5,hB5,hc5⟩;have HI5:=dh (hI5.imp (ok':=fun b=>N5≤b∧b≠T7) fun b hb _=>⟨by have:=HB.out.size;have:=HN5.out;omega,by have:=lb HT7.out;omega⟩);have HCA5:=dh hc5
          replace HI2:=dh (HI2.out.below hB5)
          replace HT7:=kp hB5 HT7
          replace HB:=dh (pure_trans5 HB.out hB5)
          clear hI5 hB5 hc5;refine hK1.out _ _ (HS.out _ HB.out) (fun hHeld=>?_);clear hK1
          try simp only [sz]
          refine tk 6 rfl hHeld ?_;simp only [Act.put,sx]
          refine ry 8 (by kernel_rfl) rfl fun K1 hK1=>?_
          have f:=fe8 HT7.out;have t:=ce HT7.out;go_simp
          clear f t;obtain ⟨W',hW',hp8,hs8,hb8⟩:=p8I (W:=V5) (b:=T7) HT7.out p u A2 A5;rw [hW'];clear hW'
          replace HI2:=dh (HI2.out.keep (w':=W') (ok':=fun b=>N5≤b∧b≠T7) fun b hb _=>⟨hs8.2 b hb.2,hb⟩)
          replace HI5:=dh (HI5.out.keep (w':=W') (ok':=fun b=>N5≤b∧b≠T7) fun b hb _=>⟨hs8.2 b hb.2,hb⟩)
          replace HB:=dh (hb8 _ _ HB.out HG7.out)
          replace HT7:=dh hp8
          clear hp8 hs8 hb8;refine hK1.out _ _ (HS.out _ HB.out) (fun hHeld=>?_);clear hK1;generalize W'=V8 at *
          try simp only [sz]
          refine wpAnyH_done (by kernel_rfl) ?_ _
          try simp only [sz]
          go_wp2_with fail
          go_meet
          exact ⟨T7,A2,A5,rfl,HT7.out,HI2.out,HI5.out,HCA2.out,HCA5.out,HG7.out,HB.out⟩
        ·go_simp
         have P7:Below N5 w5 (w5.alloc o8z).drew:=by rw [HN5.out];exact (al w5 o8z).drew
         have N7:(w5.alloc o8z).drew.heap[w5.heap.size]?=_:=aw w5 o8z;generalize (w5.alloc o8z).drew=V7 at *;obtain ⟨T7,hT7⟩:∃ b,b=w5.heap.size:=⟨_,rfl⟩;rw [← hT7] at N7;rw [← hT7]
         replace HB:=dh P7
         have HT7:=dh N7;have HG7:Hid (N5≤T7):=dh (by have:=HN5.out;omega);clear P7 N7 hT7;refine hK1.out _ _ (HS.out _ HB.out) (fun hHeld=>?_);clear hK1
         try simp only [sz]
         refine ry 2 (by kernel_rfl) rfl fun K1 hK1=>?_
         go_simp
         refine (HC2.out _ HB.out).mono ?_;rintro e V2 ⟨A2,rfl,hI2,hB2,hc2⟩;have HI2:=dh (hI2.imp (ok':=fun b=>N5≤b∧b≠T7) fun b hb _=>⟨by have:=HB.out.size;have:=HN5.out;omega,by have:=lb HT7.out;omega⟩);have HCA2:=dh hc2
         replace HT7:=kp hB2 HT7
         replace HB:=dh (pure_trans5 HB.out hB2)
         clear hI2 hB2 hc2;refine hK1.out _ _ (HS.out _ HB.out) (fun hHeld=>?_);clear hK1
         try simp only [sz]
         refine ry 5 (by kernel_rfl) rfl fun K1 hK1=>?_
         go_simp
         refine (HC5.out _ HB.out).mono ?_;rintro e V5 ⟨A5,rfl,hI5,hB5,hc5⟩;have HI5:=dh (hI5.imp (ok':=fun b=>N5≤b∧b≠T7) fun b hb _=>⟨by have:=HB.out.size;have:=HN5.out;omega,by have:=lb HT7.out;omega⟩);have HCA5:=dh hc5
         replace HT7:=kp hB5 HT7
         replace HI2:=dh (HI2.out.below hB5)
         replace HB:=dh (pure_trans5 HB.out hB5)
         clear hI5 hB5 hc5;refine hK1.out _ _ (HS.out _ HB.out) (fun hHeld=>?_);clear hK1
         try simp only [sz]
         refine tk 6 rfl hHeld ?_;simp only [Act.put,sx]
         refine ry 8 (by kernel_rfl) rfl fun K1 hK1=>?_
         have f:=fe8 HT7.out;have t:=ce HT7.out;go_simp
         clear f t;obtain ⟨W',hW',hp8,hs8,hb8⟩:=p8I (W:=V5) (b:=T7) HT7.out p u A2 A5;rw [hW'];clear hW'
         replace HI2:=dh (HI2.out.keep (w':=W') (ok':=fun b=>N5≤b∧b≠T7) fun b hb _=>⟨hs8.2 b hb.2,hb⟩)
         replace HI5:=dh (HI5.out.keep (w':=W') (ok':=fun b=>N5≤b∧b≠T7) fun b hb _=>⟨hs8.2 b hb.2,hb⟩)
         replace HB:=dh (hb8 _ _ HB.out HG7.out)
         replace HT7:=dh hp8
         clear hp8 hs8 hb8;refine hK1.out _ _ (HS.out _ HB.out) (fun hHeld=>?_);clear hK1;generalize W'=V8 at *
         try simp only [sz]
         refine wpAnyH_done (by kernel_rfl) ?_ _
         try simp only [sz]
         go_wp2_with fail
         go_meet
         exact ⟨T7,A2,A5,rfl,HT7.out,HI2.out,HI5.out,HCA2.out,HCA5.out,HG7.out,HB.out⟩
       case rest=>
        obtain ⟨T,A6,C6,rfl,hT6,hA6,hC6,hca,hcc,hTn,hB6⟩:=hcut;have HT6:=dh hT6;have HA6:=dh hA6;have HC6:=dh hC6;have HCA:=dh hca;have HCC:=dh hcc;have HTN:=dh hTn;have HB6:=dh hB6;have HGC:Hid (N5≤wc.heap.size):=dh (by have:=hB6.size;have:=HN5.out;omega);have HB6':=dh (HN5.out ▸ hB6);have HV6:=kp HB6'.out HV5;have HY6:=kp HB6'.out HY5;have HK6:=dh (HK5.out.below HB6'.out);have HE6:=dh (HE5.out.below HB6'.out);clear hT6 hA6 hC6 hca hcc hTn hB6 HS HC2 HC5 HB HB6' HX5 HV5 HY5 HI5 HJ5 HK5 pure_trans5;cases b with
        | true=>
          go_upto_region 10 with fail
          have HLB:Hid ((p.kids ++ [It.int n,v]).length≤1000):=dh (by have:=kids_le HMAPS.out.1.1;simp;omega);have HS6:Hid (∀ W,RB' wc W→∀ b,W.heap.size≤b→wc.heap.size≤b):=dh fun W hW b hb=>by have:=Below.size hW;omega
          refine rgh (M:=14) (fun b=>wc.heap.size≤b) [.eq (.pointer (some ⟨T,0,none⟩)),.eq (.pointer (some ⟨T,0,none⟩)),.eq (.pointer (some ⟨T,3,none⟩)),.eq (.slice A6.ai A6.ni A6.ci),.eq (.int .i64 n),.it (It.int n),.eq (.agg #[.int .i64 v.kind,.int .u64 (v.num:Int),.slice K.ab K.nb K.cb,.slice K.ai K.ni K.ci]),.row [It.int n,v],.row (p.kids ++ [It.int n,v]),.mr (It.buildP (p.kids ++ [It.int n,v])),.mr (It.buildP (p.kids ++ [It.int n,v])),.it (It.MR.item (It.buildP (p.kids ++ [It.int n,v]))),.eq (.int .i64 (It.MR.code (It.buildP (p.kids ++ [It.int n,v])):Int)),.bk wc.heap.size o4z] [.pl,.pl,.pl,.pl,.pl,.pl,.pl,.pl,.pl,.pa,.la,.la,.la,.pa] 9 13 (.mr (It.buildP (p.kids ++ [It.int n,v]))) (by kernel_rfl) (by kernel_rfl) (by kernel_rfl) (fun _ _ o _ _ h=>by cases o <;> exact h) ?_ ?_
          ·refine ⟨?_,?_,?_,?_,?_,?_,?_,?_,?_,?_,?_,?_,?_,?_,trivial⟩<;>intro vs W hR _ hd;exact dmv (.tmp 13) rfl (show _=_ by kernel_rfl);exact doesh_nil (.tmp 44) T 0 rfl (hd 0 (dd rfl));exact doesh_field3q (.tmp 45) T 0 rfl (hd 1 (dd rfl));exact dl24 (.tmp 46) T 3 _ _ _ rfl (hd 2 (dd rfl)) (ck8 hR HT6).2.2.2.1;exact dmv (.tmp 2) rfl (show _=_ by kernel_rfl);(have e4:vs 4=.int .i64 n:=(hd 4 (dd rfl));exact dcl (vals:=#[vs 4]) 69 (.func 69) #[.tmp 48] _ rfl (by kernel_rfl) (by kernel_rfl) (cq Tryz.func69) (by rw [e4];exact h_cint n HN.out W _));exact doesh_loadEV (.tmp 7) (B + 1) v K hR HV6.out rfl (by kernel_rfl);exact doesh_row2 (.tmp 49) (.tmp 50) (It.int n) v rfl (hd 5 (dd rfl)) ⟨K,hd 6 (dd rfl),HK6.out.below hR⟩;exact doesh_full (.tmp 47) (.tmp 51) p.kids [It.int n,v] A6.ai A6.ni A6.ci rfl rfl (hd 3 (dd rfl)) HCA.out (HA6.out.below hR).tl (hd 7 (dd rfl)) (by simp) (by have:=HLB.out;simp only [List.length_append] at this;omega);exact dfi (vals:=#[vs 8]) 60 (.func 60) #[.tmp 52] _ rfl (by kernel_rfl) (by kernel_rfl) (cq Tryz.func60) rfl rfl (by decide) (HS6.out W hR) (h_cbuild (hd 8 (dd rfl)) HLB.out (HE6.out.below hR));exact late_move (.tmp 53) rfl (hd 9 (dd rfl));exact late_mr0 (.tmp 43) rfl (hd 10 (dd rfl));exact late_mr1 (.tmp 43) rfl (hd 10 (dd rfl));exact dal rfl rfl rfl (by decide) hR.size
          ·intro vs W7 hR7 hf hD hE
           obtain ⟨T14,e13,hT14,hTn⟩:=hf 13 (dd rfl);obtain ⟨ZZ,e9,hI92⟩:=hD (by decide) (by decide) T14 e13;have e10:vs 10=_:=(exm (hE 10 _ (by decide) rfl W7) (.tmp 53) rfl).trans e9;have e11:vs 11=_:=ex0 (hE 11 _ (by decide) rfl W7) (.tmp 43) rfl e10;have e12:vs 12=_:=ex1 (hE 12 _ (by decide) rfl W7) (.tmp 43) rfl e10;have HT14:=dh hT14;have HT14N:=dh hTn;have HZ7:=dh hI92;have HB67:=dh hR7;simp only [sr,Nat.zero_add,Nat.reduceAdd,e11,e12,e13];clear hf hD hE e9 e10 e11 e12 e13 hI92 hT14 hTn hR7;generalize hr:It.buildP (p.kids ++ [It.int n,v])=r at *;have HR:=dh hr;clear hr;obtain ⟨cd,hcd⟩:∃ cd:Int,((It.MR.code r:Nat):Int)=cd:=⟨_,rfl⟩;rw [hcd];have HCD:=dh hcd;clear hcd;have f:=ff HT14.out;have t:=cf HT14.out;go_upto_region 11 with fail
           clear f t;obtain ⟨W',hW',hp4,hs4,hb4⟩:=p4I (W:=W7) (b:=T14) HT14.out (It.MR.item r) ZZ;rw [hW'];clear hW';have HB8:Hid (Below wc.heap.size wc W'):=dh (hb4 _ _ HB67.out HT14N.out);have HZ8:=dh (HZ7.out.keep (w':=W') (ok':=fun k=>k≠T14∧wc.heap.size≤k) fun b hb _=>⟨hs4.2 b hb.1,hb⟩);have HT148:=dh hp4;clear hp4 hs4 hb4 HT14 HB67 HZ7;generalize W'=w8 at *;have HT8:=kp HB8.out HT6;have HY8:=kp HB8.out HY6;have HA8:=dh (HA6.out.below HB8.out);have HC8:=dh (HC6.out.below HB8.out);have HB58:=dh (HB6.out.trans (HB8.out.mono HGC.out));have HTW:Hid (T < wc.heap.size):=dh (lb HT6.out);have f:=fe8 HT8.out;obtain ⟨r0,r1,r2,r3,r4,r5,r6,r7⟩:=ce HT8.out;have t:=cf HT148.out;go_upto_region 12 with fail
           clear f r0 r1 r2 r3 r4 r5 r6 r7 t;obtain ⟨W',hW',hp8,hs8,hb8⟩:=put8lo (W:=w8) (b:=T) HT8.out (.int .i64 (It.MR.item r).kind) (.int .u64 ((It.MR.item r).num:Int)) (.slice ZZ.ab ZZ.nb ZZ.cb) (.slice ZZ.ai ZZ.ni ZZ.ci);rw [hW'];clear hW';have HB59:=dh (hb8 _ _ HB58.out HTN.out);have HZ9:=dh (HZ8.out.keep (w':=W') (ok':=fun k=>k≠T14∧wc.heap.size≤k) fun b hb _=>⟨hs8.2 b (by have:=HTW.out;omega),hb⟩);have HO9:=dh (HC8.out.keep (w':=W') (ok':=fun k=>N5≤k∧k≠T) fun b hb _=>⟨hs8.2 b hb.2,hb⟩);have HY9:=dh ((hs8.2 (B + 2) (by have:=HTN.out;have:=HSZ5.out;have:=HN5.out;omega)).trans HY8.out);have HT9:=dh hp8;have HG9:Hid (N5≤wc.heap.size∧B + 3≤N5):=dh ⟨HGC.out,by have:=HSZ5.out;have:=HN5.out;omega⟩;clear hp8 hs8 hb8 HT8 HT148 HZ8 HA8 HC8 HB58 HB8 HY8;generalize W'=w9 at *;have HE9:=dh (HE5.out.below (HN5.out ▸ HB59.out));have HP9:=dh (bwt HP5.out (HN5.out ▸ HB59.out) hB);obtain ⟨r0,r1,r2,r3,r4,r5,r6,r7⟩:=ce HT9.out;cases r with
           | err e0=>
             obtain rfl:cd=(e0:Int):=HCD.out.symm;have hne:((e0:Int) !=0)=true:=by have:=It.buildP_err HR.out;simp;omega
             have HEE:Hid (It.putP p u true n v=.err 4):=dh (by unfold It.putP;rw [if_neg (by rw [HVAL.out,HVV.out];decide),if_neg (by rw [HRR.out];decide)];simp only [if_true,HR.out]);have HPW:=HP9;have HY:=HY9;clear HCD HP9 HY9;go_upto_region 13 with fail
             clear hne r0 r1 r2 r3 r4 r5 r6 r7;have f:=fe8 HY.out;obtain ⟨r0,r1,r2,r3,r4,r5,r6,r7⟩:=ce HY.out;go_wp2_with fail
             clear f r0 r1 r2 r3 r4 r5 r6 r7;obtain ⟨W',hW',hp8,hs8,hb8⟩:=pe8 (W:=w9) (b:=(B + 2)) HY.out (.int .i64 0) (.int .u64 0) (.slice none 0 0) (.slice none 0 0) (.int .i64 0) (.int .u64 0) (.slice none 0 0) (.slice none 0 0);rw [hW'];clear hW';obtain ⟨g0,g1,g2,g3,g4,g5,g6,g7⟩:=ce hp8;refine bodyPost_ret (v:=.tuple #[vz8,.int .i64 4]) (by simp [vz8,results,Tryz.results32,go_sem,g0,g1,g2,g3,g4,g5,g6,g7]) rfl ?_;rw [HEE.out];exact ⟨_,rfl,by rw [RB',hB];exact hb8 B w HPW.out (by omega),⟨none,0,0,none,0,0⟩,⟨none,0,0,none,0,0⟩,rfl,IR.flat _ _ (by omega),IR.flat _ _ (by omega)⟩
           | ok x=>
             obtain rfl:cd=0:=HCD.out.symm;simp only [It.MR.item] at *;have HIP:=dh (HZ9.out.imp (ok':=fun b=>B + 3≤b) fun b hb _=>by have:=HG9.out;omega);have HIU:=dh (HO9.out.imp (ok':=fun b=>B + 3≤b) fun b hb _=>by have:=HG9.out;omega);cases hvn:It.hvalid x u with
             | false=>
               have HC:=dh (hva x u ZZ C6 w9 _ _ HIP.out HIU.out HE9.out);rw [hvn] at HC;have HEE:Hid (It.putP p u true n v=.err 4):=dh (by unfold It.putP;rw [if_neg (by rw [HVAL.out,HVV.out];decide),if_neg (by rw [HRR.out];decide)];simp only [if_true,HR.out,hvn,Bool.false_eq_true,if_false]);clear hvn HCD;go_wp2_with fail
               refine HC.out.mono ?_;rintro e v10 ⟨rfl,B10⟩;have HPW:=dh (bwt HP9.out B10 hB);have HY:=kp B10 HY9;clear B10 HP9 HY9 HC r0 r1 r2 r3 r4 r5 r6 r7;have f:=fe8 HY.out;obtain ⟨r0,r1,r2,r3,r4,r5,r6,r7⟩:=ce HY.out;go_wp2_with fail
               clear f r0 r1 r2 r3 r4 r5 r6 r7;obtain ⟨W',hW',hp8,hs8,hb8⟩:=pe8 (W:=v10) (b:=(B + 2)) HY.out (.int .i64 0) (.int .u64 0) (.slice none 0 0) (.slice none 0 0) (.int .i64 0) (.int .u64 0) (.slice none 0 0) (.slice none 0 0);rw [hW'];clear hW';obtain ⟨g0,g1,g2,g3,g4,g5,g6,g7⟩:=ce hp8;refine bodyPost_ret (v:=.tuple #[vz8,.int .i64 4]) (by simp [vz8,results,Tryz.results32,go_sem,g0,g1,g2,g3,g4,g5,g6,g7]) rfl ?_;rw [HEE.out];exact ⟨_,rfl,by rw [RB',hB];exact hb8 B w HPW.out (by omega),⟨none,0,0,none,0,0⟩,⟨none,0,0,none,0,0⟩,rfl,IR.flat _ _ (by omega),IR.flat _ _ (by omega)⟩
             | true=>
               have HC:=dh (hva x u ZZ C6 w9 _ _ HIP.out HIU.out HE9.out);rw [hvn] at HC;have HEE:Hid (It.putP p u true n v=.ok x u):=dh (by unfold It.putP;rw [if_neg (by rw [HVAL.out,HVV.out];decide),if_neg (by rw [HRR.out];decide)];simp only [if_true,HR.out,hvn,if_true]);clear hvn HCD;go_wp2_with fail
               refine HC.out.mono ?_;rintro e v10 ⟨rfl,B10⟩;have HPW:=dh (bwt HP9.out B10 hB);have HY:=kp B10 HY9;have HT10:=kp B10 HT9;have HIPX:=dh (HIP.out.below B10);have HIUX:=dh (HIU.out.below B10);clear B10 HP9 HY9 HC r0 r1 r2 r3 r4 r5 r6 r7;obtain ⟨r0,r1,r2,r3,r4,r5,r6,r7⟩:=ce HT10.out;have f:=fe8 HY.out;have y:=ce HY.out;go_wp2_with fail
               clear f r0 r1 r2 r3 r4 r5 r6 r7 y;obtain ⟨W',hW',hp8,hs8,hb8⟩:=p8I (W:=v10) (b:=(B + 2)) HY.out x u ZZ C6;rw [hW'];clear hW';obtain ⟨g0,g1,g2,g3,g4,g5,g6,g7⟩:=ce hp8;refine bodyPost_ret (v:=.tuple #[(v8 x u ZZ C6),.int .i64 0]) (by simp [v8,results,Tryz.results32,go_sem,g0,g1,g2,g3,g4,g5,g6,g7]) rfl ?_;rw [HEE.out];exact ⟨_,rfl,by rw [RB',hB];exact hb8 B w HPW.out (by omega),ZZ,C6,rfl,HIPX.out.keep (w':=W') (ok':=fun b=>w.heap.size≤b) fun b hb hl=>⟨hs8.2 b (by omega),by omega⟩,HIUX.out.keep (w':=W') (ok':=fun b=>w.heap.size≤b) fun b hb hl=>⟨hs8.2 b (by omega),by omega⟩⟩
        | false=>
          go_upto_region 10 with fail
          have HLB:Hid ((u.kids ++ [It.int n,v]).length≤1000):=dh (by have:=kids_le HMAPS.out.2.1;simp;omega);have HS6:Hid (∀ W,RB' wc W→∀ b,W.heap.size≤b→wc.heap.size≤b):=dh fun W hW b hb=>by have:=Below.size hW;omega
          refine rgh (M:=14) (fun b=>wc.heap.size≤b) [.eq (.pointer (some ⟨T,4,none⟩)),.eq (.pointer (some ⟨T,4,none⟩)),.eq (.pointer (some ⟨T,7,none⟩)),.eq (.slice C6.ai C6.ni C6.ci),.eq (.int .i64 n),.it (It.int n),.eq (.agg #[.int .i64 v.kind,.int .u64 (v.num:Int),.slice K.ab K.nb K.cb,.slice K.ai K.ni K.ci]),.row [It.int n,v],.row (u.kids ++ [It.int n,v]),.mr (It.buildP (u.kids ++ [It.int n,v])),.mr (It.buildP (u.kids ++ [It.int n,v])),.it (It.MR.item (It.buildP (u.kids ++ [It.int n,v]))),.eq (.int .i64 (It.MR.code (It.buildP (u.kids ++ [It.int n,v])):Int)),.bk wc.heap.size o4z] [.pl,.pl,.pl,.pl,.pl,.pl,.pl,.pl,.pl,.pa,.la,.la,.la,.pa] 9 13 (.mr (It.buildP (u.kids ++ [It.int n,v]))) (by kernel_rfl) (by kernel_rfl) (by kernel_rfl) (fun _ _ o _ _ h=>by cases o <;> exact h) ?_ ?_
          ·refine ⟨?_,?_,?_,?_,?_,?_,?_,?_,?_,?_,?_,?_,?_,?_,trivial⟩<;>intro vs W hR _ hd;exact dmv (.tmp 13) rfl (show _=_ by kernel_rfl);exact doesh_nil (.tmp 44) T 4 rfl (hd 0 (dd rfl));exact doesh_field3q (.tmp 45) T 4 rfl (hd 1 (dd rfl));exact dl24 (.tmp 46) T 7 _ _ _ rfl (hd 2 (dd rfl)) (ck8 hR HT6).2.2.2.2.2.2.2;exact dmv (.tmp 2) rfl (show _=_ by kernel_rfl);(have e4:vs 4=.int .i64 n:=(hd 4 (dd rfl));exact dcl (vals:=#[vs 4]) 69 (.func 69) #[.tmp 48] _ rfl (by kernel_rfl) (by kernel_rfl) (cq Tryz.func69) (by rw [e4];exact h_cint n HN.out W _));exact doesh_loadEV (.tmp 7) (B + 1) v K hR HV6.out rfl (by kernel_rfl);exact doesh_row2 (.tmp 49) (.tmp 50) (It.int n) v rfl (hd 5 (dd rfl)) ⟨K,hd 6 (dd rfl),HK6.out.below hR⟩;exact doesh_full (.tmp 47) (.tmp 51) u.kids [It.int n,v] C6.ai C6.ni C6.ci rfl rfl (hd 3 (dd rfl)) HCC.out (HC6.out.below hR).tl (hd 7 (dd rfl)) (by simp) (by have:=HLB.out;simp only [List.length_append] at this;omega);exact dfi (vals:=#[vs 8]) 60 (.func 60) #[.tmp 52] _ rfl (by kernel_rfl) (by kernel_rfl) (cq Tryz.func60) rfl rfl (by decide) (HS6.out W hR) (h_cbuild (hd 8 (dd rfl)) HLB.out (HE6.out.below hR));exact late_move (.tmp 53) rfl (hd 9 (dd rfl));exact late_mr0 (.tmp 43) rfl (hd 10 (dd rfl));exact late_mr1 (.tmp 43) rfl (hd 10 (dd rfl));exact dal rfl rfl rfl (by decide) hR.size
          ·intro vs W7 hR7 hf hD hE
           obtain ⟨T14,e13,hT14,hTn⟩:=hf 13 (dd rfl);obtain ⟨ZZ,e9,hI92⟩:=hD (by decide) (by decide) T14 e13;have e10:vs 10=_:=(exm (hE 10 _ (by decide) rfl W7) (.tmp 53) rfl).trans e9;have e11:vs 11=_:=ex0 (hE 11 _ (by decide) rfl W7) (.tmp 43) rfl e10;have e12:vs 12=_:=ex1 (hE 12 _ (by decide) rfl W7) (.tmp 43) rfl e10;have HT14:=dh hT14;have HT14N:=dh hTn;have HZ7:=dh hI92;have HB67:=dh hR7;simp only [sr,Nat.zero_add,Nat.reduceAdd,e11,e12,e13];clear hf hD hE e9 e10 e11 e12 e13 hI92 hT14 hTn hR7;generalize hr:It.buildP (u.kids ++ [It.int n,v])=r at *;have HR:=dh hr;clear hr;obtain ⟨cd,hcd⟩:∃ cd:Int,((It.MR.code r:Nat):Int)=cd:=⟨_,rfl⟩;rw [hcd];have HCD:=dh hcd;clear hcd;have f:=ff HT14.out;have t:=cf HT14.out;go_upto_region 11 with fail
           clear f t;obtain ⟨W',hW',hp4,hs4,hb4⟩:=p4I (W:=W7) (b:=T14) HT14.out (It.MR.item r) ZZ;rw [hW'];clear hW';have HB8:Hid (Below wc.heap.size wc W'):=dh (hb4 _ _ HB67.out HT14N.out);have HZ8:=dh (HZ7.out.keep (w':=W') (ok':=fun k=>k≠T14∧wc.heap.size≤k) fun b hb _=>⟨hs4.2 b hb.1,hb⟩);have HT148:=dh hp4;clear hp4 hs4 hb4 HT14 HB67 HZ7;generalize W'=w8 at *;have HT8:=kp HB8.out HT6;have HY8:=kp HB8.out HY6;have HA8:=dh (HA6.out.below HB8.out);have HC8:=dh (HC6.out.below HB8.out);have HB58:=dh (HB6.out.trans (HB8.out.mono HGC.out));have HTW:Hid (T < wc.heap.size):=dh (lb HT6.out);have f:=fe8 HT8.out;obtain ⟨r0,r1,r2,r3,r4,r5,r6,r7⟩:=ce HT8.out;have t:=cf HT148.out;go_upto_region 12 with fail
           clear f r0 r1 r2 r3 r4 r5 r6 r7 t;obtain ⟨W',hW',hp8,hs8,hb8⟩:=put8hi (W:=w8) (b:=T) HT8.out (.int .i64 (It.MR.item r).kind) (.int .u64 ((It.MR.item r).num:Int)) (.slice ZZ.ab ZZ.nb ZZ.cb) (.slice ZZ.ai ZZ.ni ZZ.ci);rw [hW'];clear hW';have HB59:=dh (hb8 _ _ HB58.out HTN.out);have HZ9:=dh (HZ8.out.keep (w':=W') (ok':=fun k=>k≠T14∧wc.heap.size≤k) fun b hb _=>⟨hs8.2 b (by have:=HTW.out;omega),hb⟩);have HO9:=dh (HA8.out.keep (w':=W') (ok':=fun k=>N5≤k∧k≠T) fun b hb _=>⟨hs8.2 b hb.2,hb⟩);have HY9:=dh ((hs8.2 (B + 2) (by have:=HTN.out;have:=HSZ5.out;have:=HN5.out;omega)).trans HY8.out);have HT9:=dh hp8;have HG9:Hid (N5≤wc.heap.size∧B + 3≤N5):=dh ⟨HGC.out,by have:=HSZ5.out;have:=HN5.out;omega⟩;clear hp8 hs8 hb8 HT8 HT148 HZ8 HA8 HC8 HB58 HB8 HY8;generalize W'=w9 at *;have HE9:=dh (HE5.out.below (HN5.out ▸ HB59.out));have HP9:=dh (bwt HP5.out (HN5.out ▸ HB59.out) hB);obtain ⟨r0,r1,r2,r3,r4,r5,r6,r7⟩:=ce HT9.out;cases r with
           | err e0=>
             obtain rfl:cd=(e0:Int):=HCD.out.symm;have hne:((e0:Int) !=0)=true:=by have:=It.buildP_err HR.out;simp;omega
             have HEE:Hid (It.putP p u false n v=.err 4):=dh (by unfold It.putP;rw [if_neg (by rw [HVAL.out,HVV.out];decide),if_neg (by rw [HRR.out];decide)];simp only [Bool.false_eq_true,if_false,HR.out]);have HPW:=HP9;have HY:=HY9;clear HCD HP9 HY9;go_upto_region 13 with fail
             clear hne r0 r1 r2 r3 r4 r5 r6 r7;have f:=fe8 HY.out;obtain ⟨r0,r1,r2,r3,r4,r5,r6,r7⟩:=ce HY.out;go_wp2_with fail
             clear f r0 r1 r2 r3 r4 r5 r6 r7;obtain ⟨W',hW',hp8,hs8,hb8⟩:=pe8 (W:=w9) (b:=(B + 2)) HY.out (.int .i64 0) (.int .u64 0) (.slice none 0 0) (.slice none 0 0) (.int .i64 0) (.int .u64 0) (.slice none 0 0) (.slice none 0 0);rw [hW'];clear hW';obtain ⟨g0,g1,g2,g3,g4,g5,g6,g7⟩:=ce hp8;refine bodyPost_ret (v:=.tuple #[vz8,.int .i64 4]) (by simp [vz8,results,Tryz.results32,go_sem,g0,g1,g2,g3,g4,g5,g6,g7]) rfl ?_;rw [HEE.out];exact ⟨_,rfl,by rw [RB',hB];exact hb8 B w HPW.out (by omega),⟨none,0,0,none,0,0⟩,⟨none,0,0,none,0,0⟩,rfl,IR.flat _ _ (by omega),IR.flat _ _ (by omega)⟩
           | ok x=>
             obtain rfl:cd=0:=HCD.out.symm;simp only [It.MR.item] at *;have HIP:=dh (HO9.out.imp (ok':=fun b=>B + 3≤b) fun b hb _=>by have:=HG9.out;omega);have HIU:=dh (HZ9.out.imp (ok':=fun b=>B + 3≤b) fun b hb _=>by have:=HG9.out;omega);cases hvn:It.hvalid p x with
             | false=>
               have HC:=dh (hva p x A6 ZZ w9 _ _ HIP.out HIU.out HE9.out);rw [hvn] at HC;have HEE:Hid (It.putP p u false n v=.err 4):=dh (by unfold It.putP;rw [if_neg (by rw [HVAL.out,HVV.out];decide),if_neg (by rw [HRR.out];decide)];simp only [Bool.false_eq_true,if_false,HR.out,hvn,Bool.false_eq_true,if_false]);clear hvn HCD;go_wp2_with fail
               refine HC.out.mono ?_;rintro e v10 ⟨rfl,B10⟩;have HPW:=dh (bwt HP9.out B10 hB);have HY:=kp B10 HY9;clear B10 HP9 HY9 HC r0 r1 r2 r3 r4 r5 r6 r7;have f:=fe8 HY.out;obtain ⟨r0,r1,r2,r3,r4,r5,r6,r7⟩:=ce HY.out;go_wp2_with fail
               clear f r0 r1 r2 r3 r4 r5 r6 r7;obtain ⟨W',hW',hp8,hs8,hb8⟩:=pe8 (W:=v10) (b:=(B + 2)) HY.out (.int .i64 0) (.int .u64 0) (.slice none 0 0) (.slice none 0 0) (.int .i64 0) (.int .u64 0) (.slice none 0 0) (.slice none 0 0);rw [hW'];clear hW';obtain ⟨g0,g1,g2,g3,g4,g5,g6,g7⟩:=ce hp8;refine bodyPost_ret (v:=.tuple #[vz8,.int .i64 4]) (by simp [vz8,results,Tryz.results32,go_sem,g0,g1,g2,g3,g4,g5,g6,g7]) rfl ?_;rw [HEE.out];exact ⟨_,rfl,by rw [RB',hB];exact hb8 B w HPW.out (by omega),⟨none,0,0,none,0,0⟩,⟨none,0,0,none,0,0⟩,rfl,IR.flat _ _ (by omega),IR.flat _ _ (by omega)⟩
             | true=>
               have HC:=dh (hva p x A6 ZZ w9 _ _ HIP.out HIU.out HE9.out);rw [hvn] at HC;have HEE:Hid (It.putP p u false n v=.ok p x):=dh (by unfold It.putP;rw [if_neg (by rw [HVAL.out,HVV.out];decide),if_neg (by rw [HRR.out];decide)];simp only [Bool.false_eq_true,if_false,HR.out,hvn,if_true]);clear hvn HCD;go_wp2_with fail
               refine HC.out.mono ?_;rintro e v10 ⟨rfl,B10⟩;have HPW:=dh (bwt HP9.out B10 hB);have HY:=kp B10 HY9;have HT10:=kp B10 HT9;have HIPX:=dh (HIP.out.below B10);have HIUX:=dh (HIU.out.below B10);clear B10 HP9 HY9 HC r0 r1 r2 r3 r4 r5 r6 r7;obtain ⟨r0,r1,r2,r3,r4,r5,r6,r7⟩:=ce HT10.out;have f:=fe8 HY.out;have y:=ce HY.out;go_wp2_with fail
               clear f r0 r1 r2 r3 r4 r5 r6 r7 y;obtain ⟨W',hW',hp8,hs8,hb8⟩:=p8I (W:=v10) (b:=(B + 2)) HY.out p x A6 ZZ;rw [hW'];clear hW';obtain ⟨g0,g1,g2,g3,g4,g5,g6,g7⟩:=ce hp8;refine bodyPost_ret (v:=.tuple #[(v8 p x A6 ZZ),.int .i64 0]) (by simp [v8,results,Tryz.results32,go_sem,g0,g1,g2,g3,g4,g5,g6,g7]) rfl ?_;rw [HEE.out];exact ⟨_,rfl,by rw [RB',hB];exact hb8 B w HPW.out (by omega),A6,ZZ,rfl,HIPX.out.keep (w':=W') (ok':=fun b=>w.heap.size≤b) fun b hb hl=>⟨hs8.2 b (by omega),by omega⟩,HIUX.out.keep (w':=W') (ok':=fun b=>w.heap.size≤b) fun b hb hl=>⟨hs8.2 b (by omega),by omega⟩⟩
theorem IR.intw {ok ok':Nat→Prop} {w w':World} {k:Int} {n:Nat} {A:Ad} (h:IR ok w (.mk k n [] []) A):IR ok' w' (.mk k n [] []) A:=by
 rw [IR_iff] at h ⊢;obtain ⟨h1,⟨h2,h3⟩,h4,h5⟩:=h;exact ⟨h1,⟨⟨h2.1,h2.2.1,fun i hi=>absurd hi (by simp [It.bytes])⟩,h3⟩,⟨h4.1,h4.2.1,fun j hj=>absurd hj (by simp [It.kids])⟩,h5⟩
theorem app0 {W:World} {N:Nat} {l:List It} {a:Option Addr} {n c:Nat} (hT:TL (fun b=>b < N) W l a n) (hn:l.length≤1000000):∃ v' W' es,(Builtin.append_ #[24,24] 24 #[.slice none 0 0,.slice a n c]).run Tryz.prog W=.ok v' W'∧es.map (·.1)=l∧OutI W' W.heap.size (fun b=>b < N) v' es∧Below W.heap.size W W':=by
 obtain ⟨es,e1,s1,i1⟩:=hT.src;obtain ⟨v',W',hr,hO,hg,_⟩:=(OutI.nil W W.heap.size (fun b=>b < N)).app (news:=es) (c:=c) s1 (fun e he=>(i1 e he).imp fun b hb _=>⟨hb,by simp [Value.ownBlock]⟩) (by have:=hT.1;simp;omega) (Nat.le_refl _);exact ⟨v',W',es,hr,e1,hO,grown_pure hg⟩
theorem app1 {W:World} {N base:Nat} {v:Value} {es es2:List (It × Ad)} {a:Option Addr} {n c:Nat} (hO:OutI W base (fun b=>b < N) v es) (hS:SrcI W a n es2) (hI:∀ e ∈ es2,IR (fun b=>b < N) W e.1 e.2) (hN:N≤base) (hb:base≤W.heap.size) (hl:es.length + es2.length≤1000):∃ a' c' W',(Builtin.append_ #[24,24] 24 #[v,.slice a n c]).run Tryz.prog W=.ok (.slice a' (es.length + es2.length) c') W'∧TL (fun _=>True) W' (es.map (·.1) ++ es2.map (·.1)) a' (es.length + es2.length)∧(es.length + es2.length≤c'∧c'≤9223372036854775807)∧Below base W W'∧(∀ k,k < W.heap.size→v.ownBlock≠some k→W'.heap[k]?=W.heap[k]?):=by
 obtain ⟨v7,W',hr,hO7,hg7,_⟩:=hO.app (news:=es2) (c:=c) hS (fun e he=>(hI e he).imp fun b hb hl=>⟨hb,fun hh=>by have h1:=(olt hO.row hh).2.1;have h2:b < N:=hb;omega⟩) (by have:=hS.1;omega) hb;obtain ⟨qa,qc,rfl,hT7,hq1,hq2⟩:=hO7.tl;rw [List.map_append] at hT7;rw [List.length_append] at hT7 hr hq1;exact ⟨qa,qc,W',hr,hT7.keep fun _ _ _=>⟨rfl,trivial⟩,⟨hq1,hq2⟩,bg (Below.refl _ _) hb hO.row hg7,fun k hk hne=>hg7.block k hk (fun e=>hne e.symm)⟩
theorem src_two {w:World} {b T:Nat} {x y:It} {X Y:Ad} (h:w.heap[b]?=some (.cells #[.int .i64 x.kind,.int .u64 (x.num:Int),.slice X.ab X.nb X.cb,.slice X.ai X.ni X.ci,.int .i64 y.kind,.int .u64 (y.num:Int),.slice Y.ab Y.nb Y.cb,.slice Y.ai Y.ni Y.ci] T (0,0))):SrcI w (some ⟨b,0,none⟩) 2 [(x,X),(y,Y)]:=⟨rfl,fun j u hu=>⟨b,0,rfl,by rw [cr h];simpa [cells4] using hu⟩⟩
structure SQ (w5:World) (l:List It) (x y:It) (o3:Option Value) (o6:Option Nat) (o7:Option Value) (o8:Option Ad) (o12:Option Nat) (W:World):Prop where
 hB:Below w5.heap.size w5 W
 h3:∀ v,o3=some v→∃ es base,es.map (·.1)=l∧w5.heap.size≤base∧base≤W.heap.size∧OutI W base (fun b=>b < w5.heap.size) v es∧∀ T,o12=some T→v.ownBlock≠some T
 h6:∀ T,o6=some T→∃ es,es.map (·.1)=[x,y]∧SrcI W (some ⟨T,0,none⟩) 2 es∧∀ e ∈ es,IR (fun b=>b < w5.heap.size) W e.1 e.2
 h7:∀ v,o7=some v→(Fh.row (l ++ [x,y])).holds (fun _=>True) v W
 h8:∀ Z,o8=some Z→IR (fun b=>w5.heap.size≤b∧∀ T,o12=some T→b≠T) W (It.MR.item (It.buildP (l ++ [x,y]))) Z
 h12:∀ T,o12=some T→W.heap[T]?=some o4z∧w5.heap.size≤T
section
variable {w5 W:World} {l:List It} {x y:It} {o3 o7:Option Value} {o6 o12:Option Nat} {o8:Option Ad}
theorem SQ.start (w5:World) (l:List It) (x y:It):SQ w5 l x y .none .none .none .none .none w5.drew:=
 ⟨(Below.refl _ _).drew,fun _ h=>(by cases h),fun _ h=>(by cases h),fun _ h=>(by cases h),fun _ h=>(by cases h),fun _ h=>(by cases h)⟩
theorem SQ.a3 (h:SQ w5 l x y .none o6 .none .none o12 W) {ok:Nat→Prop} {a:Option Addr} {n c:Nat} (hT:TL ok w5 l a n) (hl:l.length≤900):∃ v W',(Builtin.append_ #[24,24] 24 #[.slice none 0 0,.slice a n c]).run Tryz.prog W=.ok v W'∧SQ w5 l x y (some v) o6 .none .none o12 W':=by
 obtain ⟨v,W',es,hr,he,hO,hB⟩:=app0 (W:=W) (N:=w5.heap.size) (c:=c) (hT.keep fun b _ hl=>⟨h.hB.block b hl,hl⟩) (by omega);refine ⟨v,W',hr,h.hB.trans (hB.mono h.hB.size),fun u hu=>?_,fun T hT=>?_,fun _ h=>(by cases h),fun _ h=>(by cases h),fun T hT=>?_⟩
 ·cases hu
  refine ⟨es,W.heap.size,he,h.hB.size,hB.size,hO,fun T hT hh=>?_⟩;have h1:=(olt hO.row hh).2.1;have h2:=lb (h.h12 T hT).1;omega
 ·obtain ⟨es,h1,h2,h3⟩:=h.h6 T hT
  exact ⟨es,h1,h2.keep fun b o _ hl=>hB.block b hl,fun e he=>(h3 e he).below hB⟩
 ·exact ⟨bkp hB (h.h12 T hT).1 (lb (h.h12 T hT).1),(h.h12 T hT).2⟩
theorem SQ.a6 (h:SQ w5 l x y o3 .none .none .none o12 W) {X Y:Ad} {ok ok':Nat→Prop} (hX:IR ok w5 x X) (hY:IR ok' w5 y Y):SQ w5 l x y o3 (some W.heap.size) .none .none o12 (W.alloc (.cells #[.int .i64 x.kind,.int .u64 (x.num:Int),.slice X.ab X.nb X.cb,.slice X.ai X.ni X.ci,.int .i64 y.kind,.int .u64 (y.num:Int),.slice Y.ab Y.nb Y.cb,.slice Y.ai Y.ni Y.ci] 26)):=by
 have hP:=al W (.cells #[.int .i64 x.kind,.int .u64 (x.num:Int),.slice X.ab X.nb X.cb,.slice X.ai X.ni X.ci,.int .i64 y.kind,.int .u64 (y.num:Int),.slice Y.ab Y.nb Y.cb,.slice Y.ai Y.ni Y.ci] 26);have hN:=aw W (.cells #[.int .i64 x.kind,.int .u64 (x.num:Int),.slice X.ab X.nb X.cb,.slice X.ai X.ni X.ci,.int .i64 y.kind,.int .u64 (y.num:Int),.slice Y.ab Y.nb Y.cb,.slice Y.ai Y.ni Y.ci] 26);have hB':=h.hB.trans (hP.mono h.hB.size);refine ⟨hB',fun u hu=>?_,fun T hT=>?_,fun _ h=>(by cases h),fun _ h=>(by cases h),fun T hT=>?_⟩
 ·obtain ⟨es,base,h1,h2,h3,h4,h5⟩:=h.h3 u hu
  exact ⟨es,base,h1,h2,Nat.le_trans h3 hP.size,h4.pure hP,h5⟩
 ·cases hT
  refine ⟨[(x,X),(y,Y)],rfl,src_two hN,fun e he=>?_⟩;simp only [List.mem_cons,List.not_mem_nil,or_false] at he;rcases he with rfl | rfl
  ·exact hX.keep fun b _ hl=>⟨hB'.block b hl,hl⟩
  ·exact hY.keep fun b _ hl=>⟨hB'.block b hl,hl⟩
 ·exact ⟨bkp hP (h.h12 T hT).1 (lb (h.h12 T hT).1),(h.h12 T hT).2⟩
theorem SQ.a12 (h:SQ w5 l x y o3 o6 o7 o8 .none W):SQ w5 l x y o3 o6 o7 o8 (some W.heap.size) (W.alloc (.cells #[.int .i64 0,.int .u64 0,.slice none 0 0,.slice none 0 0] 26)):=by
 have hP:=al W o4z;refine ⟨h.hB.trans (hP.mono h.hB.size),fun u hu=>?_,fun T hT=>?_,fun v hv=>Fh.keep hP (fun _ _ _=>trivial) (h.h7 v hv),fun Z hZ=>?_,fun T hT=>?_⟩
 ·obtain ⟨es,base,h1,h2,h3,h4,h5⟩:=h.h3 u hu
  refine ⟨es,base,h1,h2,Nat.le_trans h3 hP.size,h4.pure hP,fun T hT hh=>?_⟩;cases hT
  have:=(olt h4.row hh).1;omega
 ·obtain ⟨es,h1,h2,h3⟩:=h.h6 T hT
  exact ⟨es,h1,h2.keep fun b o _ hl=>hP.block b hl,fun e he=>(h3 e he).below hP⟩
 ·exact ((h.h8 Z hZ).imp (ok':=fun b=>w5.heap.size≤b∧∀ T,some W.heap.size=some T→b≠T) fun b hb hl=>⟨hb.1,fun T hT=>by cases hT;omega⟩).below hP
 ·cases hT
  exact ⟨aw W _,h.hB.size⟩
theorem SQ.a7 {v:Value} {T6:Nat} (h:SQ w5 l x y (some v) (some T6) .none .none o12 W) (hl:l.length≤900):∃ a n c W',(Builtin.append_ #[24,24] 24 #[v,.slice (some ⟨T6,0,none⟩) 2 2]).run Tryz.prog W=.ok (.slice a n c) W'∧SQ w5 l x y .none .none (some (.slice a n c)) .none o12 W':=by
 obtain ⟨es,base,h1,h2,h3,h4,h5⟩:=h.h3 v rfl;obtain ⟨es2,g1,g2,g3⟩:=h.h6 T6 rfl;have e1:es.length=l.length:=by rw [← h1,List.length_map]
 have e2:es2.length=2:=by have:=congrArg List.length g1;simpa using this
 obtain ⟨a,c,W',hr,hT,hc,hB,hk⟩:=app1 (c:=2) h4 g2 g3 h2 h3 (by omega);rw [h1,g1] at hT;refine ⟨a,_,c,W',hr,h.hB.trans (hB.mono h2),fun _ h=>(by cases h),fun _ h=>(by cases h),fun u hu=>?_,fun _ h=>(by cases h),fun T hT'=>?_⟩
 ·cases hu
  exact ⟨a,_,c,rfl,hT,hc⟩
 ·have hh:=h.h12 T hT'
  exact ⟨(hk T (lb hh.1) (h5 T hT')).trans hh.1,hh.2⟩
theorem SQ.a8 {v:Value} (h:SQ w5 l x y .none .none (some v) .none o12 W) (hE:Env w5) (hl:l.length≤900):Calls Tryz.prog 61 #[v] W fun e W'=>∃ Z:Ad,e=.returned (.tuple #[.agg #[.int .i64 (It.MR.item (It.buildP (l ++ [x,y]))).kind,.int .u64 ((It.MR.item (It.buildP (l ++ [x,y]))).num:Int),.slice Z.ab Z.nb Z.cb,.slice Z.ai Z.ni Z.ci],.int .i64 ((It.MR.code (It.buildP (l ++ [x,y])):Nat):Int)])∧SQ w5 l x y .none .none .none (some Z) o12 W':=by
 obtain ⟨a,n,c,rfl,hT,_⟩:=h.h7 v rfl;refine ((rbuild_any (l ++ [x,y]) a n c W _ hT (by have:=hT.1;rw [List.length_append] at this;simp at this;omega) (hE.below h.hB)).mono fun _ _ h=>EndH.mr h).mono fun e W' hh=>?_
 obtain ⟨_,rfl,hB,Z,rfl,hI⟩:=hh;have hB':Below W.heap.size W W':=hB;refine ⟨Z,rfl,h.hB.trans (hB'.mono h.hB.size),fun _ h=>(by cases h),fun _ h=>(by cases h),fun _ h=>(by cases h),fun Z' hZ=>?_,fun T hT=>?_⟩
 ·cases hZ
  exact hI.imp fun b hb _=>⟨Nat.le_trans h.hB.size hb,fun T hT=>by have:=lb (h.h12 T hT).1;have hb:W.heap.size≤b:=hb;omega⟩
 ·exact ⟨bkp hB' (h.h12 T hT).1 (lb (h.h12 T hT).1),(h.h12 T hT).2⟩
end
theorem SQ.pure {w5 W W':World} {l:List It} {x y:It} {o3 o7:Option Value} {o6 o12:Option Nat} {o8:Option Ad} (h:SQ w5 l x y o3 o6 o7 o8 o12 W) (hP:Below W.heap.size W W'):SQ w5 l x y o3 o6 o7 o8 o12 W':=by
 refine ⟨h.hB.trans (hP.mono h.hB.size),fun u hu=>?_,fun T hT=>?_,fun v hv=>Fh.keep hP (fun _ _ _=>trivial) (h.h7 v hv),fun Z hZ=>(h.h8 Z hZ).below hP,fun T hT=>?_⟩
 ·obtain ⟨es,base,h1,h2,h3,h4,h5⟩:=h.h3 u hu
  exact ⟨es,base,h1,h2,Nat.le_trans h3 hP.size,h4.pure hP,h5⟩
 ·obtain ⟨es,h1,h2,h3⟩:=h.h6 T hT
  exact ⟨es,h1,h2.keep fun b o _ hl=>hP.block b hl,fun e he=>(h3 e he).below hP⟩
 ·exact ⟨bkp hP (h.h12 T hT).1 (lb (h.h12 T hT).1),(h.h12 T hT).2⟩
def CM (r:It.MR) (T:Nat) (w9:World) (c:Value) (W:World):Prop:=∃ Z:Ad,c=.int .i64 (It.MR.code r:Int)∧W.heap[T]?=some (.cells #[.int .i64 (It.MR.item r).kind,.int .u64 ((It.MR.item r).num:Int),.slice Z.ab Z.nb Z.cb,.slice Z.ai Z.ni Z.ci] 26 (0,0))∧IR (fun b=>w9.heap.size≤b) W (It.MR.item r) Z∧Below T w9 W∧∀ k,k < w9.heap.size→k≠T→W.heap[k]?=w9.heap[k]?
theorem rput_any (p u:It) (A C:Ad) (w:World) (ok ok':Nat→Prop) (hI:IR ok w p A) (hJ:IR ok' w u C) (hE:Env w) (v:It) (K:Ad) (b:Bool) (n:Int) (ok3:Nat→Prop) (hK:IR ok3 w v K) (h0: -9223372036854775808≤n) (h1:n≤9223372036854775807):Calls Tryz.prog 33 #[.agg #[.int .i64 p.kind,.int .u64 (p.num:Int),.slice A.ab A.nb A.cb,.slice A.ai A.ni A.ci,.int .i64 u.kind,.int .u64 (u.num:Int),.slice C.ab C.nb C.cb,.slice C.ai C.ni C.ci],.bool b,.int .i64 n,.agg #[.int .i64 v.kind,.int .u64 (v.num:Int),.slice K.ab K.nb K.cb,.slice K.ai K.ni K.ci]] w (EndH w (.hr (It.putP p u b n v))):=by
 obtain ⟨P0,N0⟩:=an w (o8 p u A C);obtain ⟨P1,N1⟩:=an (w.alloc (o8 p u A C)) (o4 v K);have hsz1:(w.alloc (o8 p u A C)).heap.size=w.heap.size + 1:=by simp
 rw [hsz1] at N1;obtain ⟨P2,N2⟩:=an ((w.alloc (o8 p u A C)).alloc (o4 v K)) o8z;have hsz2:((w.alloc (o8 p u A C)).alloc (o4 v K)).heap.size=w.heap.size + 2:=by simp
 rw [hsz2] at N2;have HX1:=dh (bkp P2 (bkp P1 N0 (lb N0)) (lb (bkp P1 N0 (lb N0))));have HV1:=dh (bkp P2 N1 (lb N1));have HY1:=dh N2;have HP1:=dh (pt (pt P0 P1) P2);have HI1:=dh (((((hI.imp (ok':=fun b=>b < w.heap.size) fun b _ hb=>hb).below P0).below P1).below P2));have HJ1:=dh (((((hJ.imp (ok':=fun b=>b < w.heap.size) fun b _ hb=>hb).below P0).below P1).below P2));have HK1:=dh (((((hK.imp (ok':=fun b=>b < w.heap.size) fun b _ hb=>hb).below P0).below P1).below P2));have HE1:=dh ((((hE.below P0).below P1).below P2));have HN:=dh (And.intro h0 h1);have hsz3:(((w.alloc (o8 p u A C)).alloc (o4 v K)).alloc o8z).heap.size=w.heap.size + 3:=by simp
 clear hI hJ hK hE h0 h1;go_enter Tryz.func33,Tryz.ntmps33
 go_upto_region 1 with fail
 clear P0 P1 P2 N0 N1 N2 hsz1 hsz2;generalize (((w.alloc (o8 p u A C)).alloc (o4 v K)).alloc o8z)=w1 at *;generalize hB:w.heap.size=B at *;have HSZ:=dh hsz3;clear hsz3;obtain ⟨x0,x1,x2,x3,x4,x5,x6,x7⟩:=ce HX1.out;cases hv:It.hvalid p u with
 | false=>
   have HC:=dh (rhv_any p u A C w1 _ _ HI1.out HJ1.out HE1.out);rw [hv] at HC;have HEE:Hid (It.putP p u b n v=.err 1):=dh (by unfold It.putP;rw [if_pos (.inl hv)]);clear hv;go_wp2_with fail
   refine HC.out.mono ?_;rintro e v1 ⟨rfl,B1⟩;have HPW:=dh (bwt HP1.out B1 hB);have HY:=kp B1 HY1;clear B1 HX1 HV1 HY1 HC x0 x1 x2 x3 x4 x5 x6 x7;have f:=fe8 HY.out;obtain ⟨r0,r1,r2,r3,r4,r5,r6,r7⟩:=ce HY.out;go_wp2_with fail
   clear f r0 r1 r2 r3 r4 r5 r6 r7;obtain ⟨W',hW',hp8,hs8,hb8⟩:=pe8 (W:=v1) (b:=(B + 2)) HY.out (.int .i64 0) (.int .u64 0) (.slice none 0 0) (.slice none 0 0) (.int .i64 0) (.int .u64 0) (.slice none 0 0) (.slice none 0 0);rw [hW'];clear hW';obtain ⟨g0,g1,g2,g3,g4,g5,g6,g7⟩:=ce hp8;refine bodyPost_ret (v:=.tuple #[vz8,.int .i64 1]) (by simp [vz8,results,Tryz.results33,go_sem,g0,g1,g2,g3,g4,g5,g6,g7]) rfl ?_;rw [HEE.out];exact ⟨_,rfl,by rw [RB',hB];exact hb8 B w HPW.out (by omega),⟨none,0,0,none,0,0⟩,⟨none,0,0,none,0,0⟩,rfl,IR.flat _ _ (by omega),IR.flat _ _ (by omega)⟩
 | true=>
   have HC:=dh (rhv_any p u A C w1 _ _ HI1.out HJ1.out HE1.out);rw [hv] at HC;have HVAL:=dh hv;clear hv;go_wp2_with fail
   refine HC.out.mono ?_;rintro e v1 ⟨rfl,B1⟩;have HP2:=dh (bwt HP1.out B1 hB);have HX2:=kp B1 HX1;have HV2:=kp B1 HV1;have HY2:=kp B1 HY1;have HI2:=dh (HI1.out.below B1);have HJ2:=dh (HJ1.out.below B1);have HK2:=dh (HK1.out.below B1);have HE2:=dh (HE1.out.below B1);clear HP1 HX1 HV1 HY1 HI1 HJ1 HK1 HE1;have HSZ2:Hid (B + 3≤v1.heap.size):=dh (by have:=HSZ.out;have:=B1.size;omega);clear B1 HC HSZ x0 x1 x2 x3 x4 x5 x6 x7;have y:=cf HV2.out;cases hvv:It.valid v with
   | false=>
     have HC:=dh (rva v K v1 _ HK2.out HE2.out false hvv);have HEE:Hid (It.putP p u b n v=.err 1):=dh (by unfold It.putP;rw [if_pos (.inr hvv)]);clear hvv;go_wp2_with fail
     refine HC.out.mono ?_;rintro e v2 ⟨rfl,B2⟩;have HPW:=dh (bwt HP2.out B2 hB);have HY:=kp B2 HY2;clear B2 HX2 HV2 HY2 HC y;have f:=fe8 HY.out;obtain ⟨r0,r1,r2,r3,r4,r5,r6,r7⟩:=ce HY.out;go_wp2_with fail
     clear f r0 r1 r2 r3 r4 r5 r6 r7;obtain ⟨W',hW',hp8,hs8,hb8⟩:=pe8 (W:=v2) (b:=(B + 2)) HY.out (.int .i64 0) (.int .u64 0) (.slice none 0 0) (.slice none 0 0) (.int .i64 0) (.int .u64 0) (.slice none 0 0) (.slice none 0 0);rw [hW'];clear hW';obtain ⟨g0,g1,g2,g3,g4,g5,g6,g7⟩:=ce hp8;refine bodyPost_ret (v:=.tuple #[vz8,.int .i64 1]) (by simp [vz8,results,Tryz.results33,go_sem,g0,g1,g2,g3,g4,g5,g6,g7]) rfl ?_;rw [HEE.out];exact ⟨_,rfl,by rw [RB',hB];exact hb8 B w HPW.out (by omega),⟨none,0,0,none,0,0⟩,⟨none,0,0,none,0,0⟩,rfl,IR.flat _ _ (by omega),IR.flat _ _ (by omega)⟩
   | true=>
     have HC:=dh (rva v K v1 _ HK2.out HE2.out true hvv);have HVV:=dh hvv;clear hvv;obtain ⟨x0,x1,x2,x3,x4,x5,x6,x7⟩:=ce HX2.out;clear x0 x1 x2 x3 x4 x5 x6 x7;go_wp2_with fail
     refine HC.out.mono ?_;rintro e v2 ⟨rfl,B2⟩;have HP3:=dh (bwt HP2.out B2 hB);have HX3:=kp B2 HX2;have HV3:=kp B2 HV2;have HY3:=kp B2 HY2;have HI3:=dh (HI2.out.below B2);have HJ3:=dh (HJ2.out.below B2);have HK3:=dh (HK2.out.below B2);have HE3:=dh (HE2.out.below B2);clear HP2 HX2 HV2 HY2 HI2 HJ2 HK2 HE2;have HSZ3:Hid (B + 3≤v2.heap.size):=dh (by have:=HSZ2.out;have:=B2.size;omega);clear B2 HC HSZ2 y;obtain ⟨x0,x1,x2,x3,x4,x5,x6,x7⟩:=ce HX3.out;have HLN:Hid (p.kids.length≤1000∧u.kids.length≤1000):=dh (by have h:=It.hvalid_maps HVAL.out;have h2:=kids_le h.1.1;have h3:=kids_le h.2.1;omega);have HF:=dh (rfind2_any p u A C n v2 _ _ HN.out.1 HN.out.2 HI3.out HJ3.out HLN.out.1 HLN.out.2);go_wp2_with fail
     refine HF.out.mono ?_;generalize hr:It.find2 p u n=r at *;rintro e v3 ⟨_,rfl,B3,Y,rfl,hIY⟩;have hQ:=pt B3 (al v3 (.cells #[.int .i64 (It.opt r).kind,.int .u64 ((It.opt r).num:Int),.slice Y.ab Y.nb Y.cb,.slice Y.ai Y.ni Y.ci] 26));have HP5:=dh (bwt HP3.out hQ hB);have HX5:=kp hQ HX3;have HV5:=kp hQ HV3;have HY5:=kp hQ HY3;have HI5:=dh (HI3.out.below hQ);have HJ5:=dh (HJ3.out.below hQ);have HK5:=dh (HK3.out.below hQ);have HE5:=dh (HE3.out.below hQ);clear HP3 HX3 HV3 HY3 HI3 HJ3 HK3 HE3;have HSZ5:Hid (B + 3≤(v3.alloc (.cells #[.int .i64 (It.opt r).kind,.int .u64 ((It.opt r).num:Int),.slice Y.ab Y.nb Y.cb,.slice Y.ai Y.ni Y.ci] 26)).heap.size):=dh (by have:=HSZ3.out;have:=Below.size hQ;omega);have HRR:=dh hr;clear hr HF hIY HSZ3;go_upto_region 4 with fail
     clear x0 x1 x2 x3 x4 x5 x6 x7 B3 hQ;generalize v3.alloc _=w5 at *;generalize v3.heap.size=T10 at *;cases r with
     | some z=>
       simp only [It.opt,Option.getD_some,Option.isSome_some] at *;have HEE:Hid (It.putP p u b n v=.err 7):=dh (by unfold It.putP;rw [if_neg (by rw [HVAL.out,HVV.out];decide),if_pos (by rw [HRR.out];rfl)]);have HPW:=HP5;have HY:=HY5;clear HX5 HV5 HY5 HP5;have f:=fe8 HY.out;obtain ⟨r0,r1,r2,r3,r4,r5,r6,r7⟩:=ce HY.out;go_wp2_with fail
       clear f r0 r1 r2 r3 r4 r5 r6 r7;obtain ⟨W',hW',hp8,hs8,hb8⟩:=pe8 (W:=w5) (b:=(B + 2)) HY.out (.int .i64 0) (.int .u64 0) (.slice none 0 0) (.slice none 0 0) (.int .i64 0) (.int .u64 0) (.slice none 0 0) (.slice none 0 0);rw [hW'];clear hW';obtain ⟨g0,g1,g2,g3,g4,g5,g6,g7⟩:=ce hp8;refine bodyPost_ret (v:=.tuple #[vz8,.int .i64 7]) (by simp [vz8,results,Tryz.results33,go_sem,g0,g1,g2,g3,g4,g5,g6,g7]) rfl ?_;rw [HEE.out];exact ⟨_,rfl,by rw [RB',hB];exact hb8 B w HPW.out (by omega),⟨none,0,0,none,0,0⟩,⟨none,0,0,none,0,0⟩,rfl,IR.flat _ _ (by omega),IR.flat _ _ (by omega)⟩
     | none=>
       simp only [It.opt,Option.getD_none,Option.isSome_none] at *;have HMAPS:=dh (It.hvalid_maps HVAL.out);obtain ⟨N5,hN5⟩:∃ N,N=w5.heap.size:=⟨_,rfl⟩;have HN5:=dh hN5;have HC:=dh (hcopy_any p u A C w5 _ _ HI5.out HJ5.out ⟨st_valid HMAPS.out.1.1,st_valid HMAPS.out.2.1⟩)
       replace HSZ5:Hid (B + 3≤N5):=dh (by have:=HSZ5.out;omega)
       clear HI5 HJ5;obtain ⟨x0,x1,x2,x3,x4,x5,x6,x7⟩:=ce HX5.out;go_wp2_with fail
       refine HC.out.mono ?_;rintro e v6 ⟨_,rfl,B6,Y,Z,rfl,hIY,hIZ⟩;have hQ:=pt B6 (al v6 (o8 p u Y Z));have HP7:=dh (bwt HP5.out hQ hB);have HV7:=kp hQ HV5;have HY7:=kp hQ HY5;have HK7:=dh (HK5.out.below hQ);have HE7:=dh (HE5.out.below hQ);have HB57:Hid (Below N5 w5 (v6.alloc (o8 p u Y Z))):=dh (by rw [hN5];exact hQ);have HT7:=dh (aw v6 (o8 p u Y Z));have HIY7:=dh ((hIY.imp (ok':=fun b=>N5≤b∧b≠v6.heap.size) fun b hb hl=>⟨by omega,by omega⟩).below (al v6 (o8 p u Y Z)));have HIZ7:=dh ((hIZ.imp (ok':=fun b=>N5≤b∧b≠v6.heap.size) fun b hb hl=>⟨by omega,by omega⟩).below (al v6 (o8 p u Y Z)));have HT12G:Hid (N5≤v6.heap.size):=dh (by rw [hN5];exact Below.size B6);go_upto_region 7 with fail
       clear x0 x1 x2 x3 x4 x5 x6 x7 B6 hQ hIY hIZ HC HX5 HV5 HY5 HK5 hN5;generalize v6.alloc _=w7 at *;generalize v6.heap.size=T12 at *;obtain ⟨r0,r1,r2,r3,r4,r5,r6,r7⟩:=ce HT7.out;have HQ8:=dh (al w7 (o4 u Z));have HT138:=dh (aw w7 (o4 u Z));have HT128:=kp HQ8.out HT7;go_upto_region 8 with fail
       clear r0 r1 r2 r3 r4 r5 r6 r7;generalize w7.alloc _=w8 at *;generalize hT13:w7.heap.size=T13 at *;cases b with
       | true=>
         obtain ⟨r0,r1,r2,r3,r4,r5,r6,r7⟩:=ce HT128.out;have f:=ff HT138.out;have t:=cf HT138.out;go_upto_region 10 with fail
         clear r0 r1 r2 r3 r4 r5 r6 r7 f t;obtain ⟨W',hW',hp4,hs4,hb4⟩:=p4I (W:=w8) (b:=T13) HT138.out p Y;rw [hW'];clear hW';have hQ9:Below w7.heap.size w7 W':=by rw [hT13];exact hb4 _ _ HQ8.out (Nat.le_refl _)
         have HT139:=dh hp4;clear hp4 hs4 hb4 HT138 HT128 HQ8;generalize W'=w9 at *;have HP9:=dh (bwt HP7.out hQ9 hB);have HV9:=kp hQ9 HV7;have HR9:=kp hQ9 HY7;have HK9:=dh (HK7.out.below hQ9);have HE9:=dh (HE7.out.below hQ9);have HT129:=kp hQ9 HT7;have HT12N:Hid (N5≤T12∧T12 < T13):=dh ⟨HT12G.out,by rw [← hT13];exact lb HT7.out⟩;have HY9:=dh ((HIY7.out.imp (ok':=fun b=>N5≤b∧b≠T12∧b≠T13) fun b hb hl=>⟨hb.1,hb.2,by omega⟩).below hQ9);have HZ9:=dh ((HIZ7.out.imp (ok':=fun b=>N5≤b∧b≠T12∧b≠T13) fun b hb hl=>⟨hb.1,hb.2,by omega⟩).below hQ9);have HB59:Hid (Below N5 w5 w9):=dh (HB57.out.trans (hQ9.mono (by have:=HT12G.out;have:=lb HT7.out;omega)));clear hQ9 HP7 HV7 HY7 HK7 HE7 HT7 HIY7 HIZ7 HT12G;have HLN:Hid (p.kids.length≤900):=dh (by have:=kids_le HMAPS.out.1.1;omega);have HTL:=dh HY9.out.tl;have HKL:=dh HK9.out;have HTN0:Hid (B + 1 < T13∧T13 < w9.heap.size):=dh ⟨by have:=HT12N.out;have:=HSZ5.out;omega,lb HT139.out⟩;have HS2:Hid (∀ W:World,(∀ k,k < w9.heap.size→k≠T13→W.heap[k]?=w9.heap[k]?)→(W.cell? ⟨(B + 1),0,none⟩=some (.int .i64 v.kind)∧W.cell? ⟨(B + 1),1,none⟩=some (.int .u64 (v.num:Int))∧W.cell? ⟨(B + 1),2,none⟩=some (.slice K.ab K.nb K.cb)∧W.cell? ⟨(B + 1),3,none⟩=some (.slice K.ai K.ni K.ci))):=dh fun W hW=>by
          obtain ⟨a0,a1,a2,a3⟩:=cf ((hW (B + 1) (by have:=HTN0.out;omega) (by have:=HTN0.out;omega)).trans HV9.out);exact ⟨a0,a1,a2,a3⟩
         have HS:Hid (∀ W,Below w9.heap.size w9 W→(W.cell? ⟨(B + 1),0,none⟩=some (.int .i64 v.kind)∧W.cell? ⟨(B + 1),1,none⟩=some (.int .u64 (v.num:Int))∧W.cell? ⟨(B + 1),2,none⟩=some (.slice K.ab K.nb K.cb)∧W.cell? ⟨(B + 1),3,none⟩=some (.slice K.ai K.ni K.ci))):=dh fun W hW=>HS2.out W fun k hk _=>hW.block k hk
         have HSP:=dh (SQ.start w9 p.kids (It.int n) v);go_cut [14] from 39 to 50 (fun c W=>CM (It.buildP (p.kids ++ [It.int n,v])) T13 w9 c W)
         case first=>
          refine wp_region_held_drew (S:=(fun w'=>(w'.cell? ⟨(B + 1),0,none⟩=some (.int .i64 v.kind)∧w'.cell? ⟨(B + 1),1,none⟩=some (.int .u64 (v.num:Int))∧w'.cell? ⟨(B + 1),2,none⟩=some (.slice K.ab K.nb K.cb)∧w'.cell? ⟨(B + 1),3,none⟩=some (.slice K.ai K.ni K.ci)))) (by kernel_rfl) (HS.out _ HSP.out.hB) (fun hHeld=>?_);refine tk 0 rfl hHeld ?_;simp only [Act.put,sx]
          refine tk 3 rfl hHeld ?_;simp only [Act.put,sx]
          refine tk 5 rfl hHeld ?_;simp only [Act.put,sx]
          refine ry 1 (by kernel_rfl) rfl fun K1 hK1=>?_
          have HTc:=kp HSP.out.hB HT139;have t:=cf HTc.out;go_simp
          clear t HTc;refine hK1.out _ _ hHeld (fun hHeld=>?_);clear hK1
          try simp only [sz]
          refine ry 2 (by kernel_rfl) rfl fun K1 hK1=>?_
          obtain ⟨v3,V2,hr3,hS3⟩:=HSP.out.a3 HTL.out HLN.out;rw [if_pos (by rfl)];refine wp_app _ _ 24 rfl rfl rfl hr3 ?_
          replace HSP:=dh hS3
          clear hr3 hS3;refine hK1.out _ _ (HS.out _ HSP.out.hB) (fun hHeld=>?_);clear hK1
          try simp only [sz]
          refine ry 4 (by kernel_rfl) rfl fun K1 hK1=>?_
          go_simp
          refine (h_rint n HN.out V2 (fun _=>True)).mono ?_;rintro e V4 ⟨_,rfl,B4,X,rfl,hX⟩
          replace HSP:=dh (HSP.out.pure B4)
          have HX:Hid (IR (fun _=>True) w9 (It.int n) X):=dh (by rw [It.int_form] at hX ⊢;exact hX.intw);clear B4 hX;refine hK1.out _ _ (HS.out _ HSP.out.hB) (fun hHeld=>?_);clear hK1
          try simp only [sz]
          refine ry 6 (by kernel_rfl) rfl fun K1 hK1=>?_
          go_simp
          replace HSP:=dh (HSP.out.a6 HX.out HKL.out)
          generalize V4.alloc _=V6 at *;generalize V4.heap.size=T6 at *;refine hK1.out _ _ (HS.out _ HSP.out.hB) (fun hHeld=>?_);clear hK1
          try simp only [sz]
          refine ry 7 (by kernel_rfl) rfl fun K1 hK1=>?_
          obtain ⟨a7,n7,c7,V7,hr7,hS7⟩:=HSP.out.a7 HLN.out;rw [if_pos (by rfl)];refine wp_app _ _ 24 rfl rfl rfl hr7 ?_
          replace HSP:=dh hS7
          clear hr7 hS7;refine hK1.out _ _ (HS.out _ HSP.out.hB) (fun hHeld=>?_);clear hK1
          try simp only [sz]
          refine ry 8 (by kernel_rfl) rfl fun K1 hK1=>?_
          go_simp
          refine (HSP.out.a8 HE9.out HLN.out).mono ?_;rintro e V8 ⟨Z8,rfl,hS8⟩
          replace HSP:=dh hS8
          clear hS8;refine hK1.out _ _ (HS.out _ HSP.out.hB) (fun hHeld=>?_);clear hK1
          try simp only [sz]
          refine tk 9 rfl hHeld ?_;simp only [Act.put,sx]
          refine tk 10 rfl hHeld ?_;simp only [Act.put,sx]
          refine tk 11 rfl hHeld ?_;simp only [Act.put,sx]
          refine ry 12 (by kernel_rfl) rfl fun K1 hK1=>?_
          have HTc:=kp HSP.out.hB HT139;have HI8:=dh (HSP.out.h8 Z8 rfl);have f:=ff HTc.out;have t:=cf HTc.out;go_simp
          clear f t;obtain ⟨W',hW',hp4,hs4,hb4⟩:=p4I (W:=V8) (b:=T13) HTc.out (It.MR.item (It.buildP (p.kids ++ [It.int n,v]))) Z8;rw [hW'];clear hW';have HB12:=dh (hb4 T13 w9 (HSP.out.hB.mono (Nat.le_of_lt (lb HT139.out))) (Nat.le_refl _));have HI12:=dh (HI8.out.keep (w':=W') (ok':=fun b=>w9.heap.size≤b) fun b hb _=>⟨hs4.2 b (by have:=lb HT139.out;have:=hb.1;omega),hb.1⟩);have HT12:=dh hp4;have HK12:Hid (∀ k,k < w9.heap.size→k≠T13→W'.heap[k]?=w9.heap[k]?):=dh fun k hk hne=>(hs4.2 k hne).trans (HSP.out.hB.block k hk)
          clear hp4 hs4 hb4 HI8 HTc;refine hK1.out _ _ (HS2.out _ HK12.out) (fun hHeld=>?_);clear hK1;generalize W'=V12 at *
          try simp only [sz]
          refine tk 13 rfl hHeld ?_;simp only [Act.put,sx]
          refine wpAnyH_done (by kernel_rfl) ?_ _
          try simp only [sz]
          go_wp2_with fail
          go_meet
          exact ⟨Z8,rfl,HT12.out,HI12.out,HB12.out,HK12.out⟩
         case rest=>
          obtain ⟨ZZ,rfl,hT13,hZZ,hB13,hk13⟩:=hcut;generalize hr:It.buildP (p.kids ++ [It.int n,v])=r at *;have HR:=dh hr;obtain ⟨cd,hcd⟩:∃ cd:Int,((It.MR.code r:Nat):Int)=cd:=⟨_,rfl⟩;rw [hcd];have HCD:=dh hcd;have HZZ13:=dh hZZ;have HB13:=dh hB13;have HT1313:=dh hT13;have HTN:Hid (N5≤T12∧T12 < T13∧T13 < w9.heap.size∧B + 3≤N5):=dh ⟨HT12N.out.1,HT12N.out.2,lb HT139.out,HSZ5.out⟩;have HO13:=dh (HZ9.out.keep (w':=wc) (ok':=fun b=>N5≤b∧b≠T12) fun b hb hl=>⟨hk13 b hl hb.2.2,hb.1,hb.2.1⟩);have HT1213:=dh ((hk13 T12 (by have:=HTN.out;omega) (by have:=HTN.out;omega)).trans HT129.out);have HY13:=dh ((hk13 (B + 2) (by have:=HTN.out;omega) (by have:=HTN.out;omega)).trans HR9.out);clear hr hcd hT13 hZZ hB13 hk13 HS HS2 HSP HTL HKL HLN;generalize wc=w13 at *;have HP13:=dh (HP9.out.trans (HB13.out.mono (by have:=HTN.out;omega)));have t:=cf HT1313.out;cases r with
          | err e0=>
            obtain rfl:cd=(e0:Int):=HCD.out.symm;have hne:((e0:Int) !=0)=true:=by have:=It.buildP_err HR.out;simp;omega
            have HEE:Hid (It.putP p u true n v=.err 4):=dh (by unfold It.putP;rw [if_neg (by rw [HVAL.out,HVV.out];decide),if_neg (by rw [HRR.out];decide)];simp only [if_true,HR.out]);have HPW:=HP13;have HY:=HY13;clear HCD HP13 HY13;go_upto_region 12 with fail
            clear hne t;have f:=fe8 HY.out;obtain ⟨r0,r1,r2,r3,r4,r5,r6,r7⟩:=ce HY.out;go_wp2_with fail
            clear f r0 r1 r2 r3 r4 r5 r6 r7;obtain ⟨W',hW',hp8,hs8,hb8⟩:=pe8 (W:=w13) (b:=(B + 2)) HY.out (.int .i64 0) (.int .u64 0) (.slice none 0 0) (.slice none 0 0) (.int .i64 0) (.int .u64 0) (.slice none 0 0) (.slice none 0 0);rw [hW'];clear hW';obtain ⟨g0,g1,g2,g3,g4,g5,g6,g7⟩:=ce hp8;refine bodyPost_ret (v:=.tuple #[vz8,.int .i64 4]) (by simp [vz8,results,Tryz.results33,go_sem,g0,g1,g2,g3,g4,g5,g6,g7]) rfl ?_;rw [HEE.out];exact ⟨_,rfl,by rw [RB',hB];exact hb8 B w HPW.out (by omega),⟨none,0,0,none,0,0⟩,⟨none,0,0,none,0,0⟩,rfl,IR.flat _ _ (by omega),IR.flat _ _ (by omega)⟩
          | ok x=>
            obtain rfl:cd=0:=HCD.out.symm;simp only [It.MR.item] at *;have f:=fe8 HT1213.out;obtain ⟨r0,r1,r2,r3,r4,r5,r6,r7⟩:=ce HT1213.out;go_upto_region 16 with fail
            clear f r0 r1 r2 r3 r4 r5 r6 r7 t;obtain ⟨W',hW',hp8,hs8,hb8⟩:=put8lo (W:=w13) (b:=T12) HT1213.out (.int .i64 x.kind) (.int .u64 (x.num:Int)) (.slice ZZ.ab ZZ.nb ZZ.cb) (.slice ZZ.ai ZZ.ni ZZ.ci);rw [hW'];clear hW';have HB14:Hid (Below N5 w5 W'):=dh (hb8 _ _ (HB59.out.trans (HB13.out.mono (by have:=HTN.out;omega))) HTN.out.1);have HZZ14:=dh (HZZ13.out.keep (w':=W') (ok':=fun b=>B + 3≤b) fun b hb _=>⟨hs8.2 b (by have:=HTN.out;omega),by have:=HTN.out;omega⟩);have HO14:=dh (HO13.out.keep (w':=W') (ok':=fun b=>B + 3≤b) fun b hb _=>⟨hs8.2 b hb.2,by have:=HTN.out;omega⟩);have HY14:=dh ((hs8.2 (B + 2) (by have:=HTN.out;omega)).trans HY13.out);have HT14:=dh hp8;clear hp8 hs8 hb8 HT1213 HT1313 HZZ13 HO13 HY13;generalize W'=w14 at *;have HE14:=dh (HE5.out.below (HN5.out ▸ HB14.out));have HP14:=dh (HP5.out.trans (HB14.out.mono (by have:=HTN.out;omega)));obtain ⟨r0,r1,r2,r3,r4,r5,r6,r7⟩:=ce HT14.out;have HC:=dh (rhv_any x u ZZ Z w14 _ _ HZZ14.out HO14.out HE14.out);cases hvn:It.hvalid x u with
            | false=>
              rw [hvn] at HC;have HEE:Hid (It.putP p u true n v=.err 4):=dh (by unfold It.putP;rw [if_neg (by rw [HVAL.out,HVV.out];decide),if_neg (by rw [HRR.out];decide)];simp only [if_true,HR.out,hvn,Bool.false_eq_true,if_false]);clear hvn HCD;go_wp2_with fail
              refine HC.out.mono ?_;rintro e v15 ⟨rfl,B15⟩;have HPW:=dh (bwt HP14.out B15 hB);have HY:=kp B15 HY14;clear B15 HP14 HY14 HC r0 r1 r2 r3 r4 r5 r6 r7;have f:=fe8 HY.out;obtain ⟨r0,r1,r2,r3,r4,r5,r6,r7⟩:=ce HY.out;go_wp2_with fail
              clear f r0 r1 r2 r3 r4 r5 r6 r7;obtain ⟨W',hW',hp8,hs8,hb8⟩:=pe8 (W:=v15) (b:=(B + 2)) HY.out (.int .i64 0) (.int .u64 0) (.slice none 0 0) (.slice none 0 0) (.int .i64 0) (.int .u64 0) (.slice none 0 0) (.slice none 0 0);rw [hW'];clear hW';obtain ⟨g0,g1,g2,g3,g4,g5,g6,g7⟩:=ce hp8;refine bodyPost_ret (v:=.tuple #[vz8,.int .i64 4]) (by simp [vz8,results,Tryz.results33,go_sem,g0,g1,g2,g3,g4,g5,g6,g7]) rfl ?_;rw [HEE.out];exact ⟨_,rfl,by rw [RB',hB];exact hb8 B w HPW.out (by omega),⟨none,0,0,none,0,0⟩,⟨none,0,0,none,0,0⟩,rfl,IR.flat _ _ (by omega),IR.flat _ _ (by omega)⟩
            | true=>
              rw [hvn] at HC;have HEE:Hid (It.putP p u true n v=.ok x u):=dh (by unfold It.putP;rw [if_neg (by rw [HVAL.out,HVV.out];decide),if_neg (by rw [HRR.out];decide)];simp only [if_true,HR.out,hvn,if_true]);clear hvn HCD;go_wp2_with fail
              refine HC.out.mono ?_;rintro e v15 ⟨rfl,B15⟩;have HPW:=dh (bwt HP14.out B15 hB);have HY:=kp B15 HY14;have HT15:=kp B15 HT14;have HIPX:=dh (HZZ14.out.below B15);have HIUX:=dh (HO14.out.below B15);clear B15 HP14 HY14 HC r0 r1 r2 r3 r4 r5 r6 r7;obtain ⟨r0,r1,r2,r3,r4,r5,r6,r7⟩:=ce HT15.out;have f:=fe8 HY.out;have y:=ce HY.out;go_wp2_with fail
              clear f r0 r1 r2 r3 r4 r5 r6 r7 y;obtain ⟨W',hW',hp8,hs8,hb8⟩:=p8I (W:=v15) (b:=(B + 2)) HY.out x u ZZ Z;rw [hW'];clear hW';obtain ⟨g0,g1,g2,g3,g4,g5,g6,g7⟩:=ce hp8;refine bodyPost_ret (v:=.tuple #[(v8 x u ZZ Z),.int .i64 0]) (by simp [v8,results,Tryz.results33,go_sem,g0,g1,g2,g3,g4,g5,g6,g7]) rfl ?_;rw [HEE.out];exact ⟨_,rfl,by rw [RB',hB];exact hb8 B w HPW.out (by omega),ZZ,Z,rfl,HIPX.out.keep (w':=W') (ok':=fun b=>w.heap.size≤b) fun b hb hl=>⟨hs8.2 b (by omega),by omega⟩,HIUX.out.keep (w':=W') (ok':=fun b=>w.heap.size≤b) fun b hb hl=>⟨hs8.2 b (by omega),by omega⟩⟩
       | false=>
         go_upto_region 10 with fail
         have hQ9:Below w7.heap.size w7 w8:=by rw [hT13];exact HQ8.out
         have HT139:=HT138;clear HT138 HT128 HQ8;generalize w8=w9 at *;have HP9:=dh (bwt HP7.out hQ9 hB);have HV9:=kp hQ9 HV7;have HR9:=kp hQ9 HY7;have HK9:=dh (HK7.out.below hQ9);have HE9:=dh (HE7.out.below hQ9);have HT129:=kp hQ9 HT7;have HT12N:Hid (N5≤T12∧T12 < T13):=dh ⟨HT12G.out,by rw [← hT13];exact lb HT7.out⟩;have HY9:=dh ((HIY7.out.imp (ok':=fun b=>N5≤b∧b≠T12∧b≠T13) fun b hb hl=>⟨hb.1,hb.2,by omega⟩).below hQ9);have HZ9:=dh ((HIZ7.out.imp (ok':=fun b=>N5≤b∧b≠T12∧b≠T13) fun b hb hl=>⟨hb.1,hb.2,by omega⟩).below hQ9);have HB59:Hid (Below N5 w5 w9):=dh (HB57.out.trans (hQ9.mono (by have:=HT12G.out;have:=lb HT7.out;omega)));clear hQ9 HP7 HV7 HY7 HK7 HE7 HT7 HIY7 HIZ7 HT12G;have HLN:Hid (u.kids.length≤900):=dh (by have:=kids_le HMAPS.out.2.1;omega);have HTL:=dh HZ9.out.tl;have HKL:=dh HK9.out;have HTN0:Hid (B + 1 < T13∧T13 < w9.heap.size):=dh ⟨by have:=HT12N.out;have:=HSZ5.out;omega,lb HT139.out⟩;have HS2:Hid (∀ W:World,(∀ k,k < w9.heap.size→k≠T13→W.heap[k]?=w9.heap[k]?)→(W.cell? ⟨(B + 1),0,none⟩=some (.int .i64 v.kind)∧W.cell? ⟨(B + 1),1,none⟩=some (.int .u64 (v.num:Int))∧W.cell? ⟨(B + 1),2,none⟩=some (.slice K.ab K.nb K.cb)∧W.cell? ⟨(B + 1),3,none⟩=some (.slice K.ai K.ni K.ci))):=dh fun W hW=>by
          obtain ⟨a0,a1,a2,a3⟩:=cf ((hW (B + 1) (by have:=HTN0.out;omega) (by have:=HTN0.out;omega)).trans HV9.out);exact ⟨a0,a1,a2,a3⟩
         have HS:Hid (∀ W,Below w9.heap.size w9 W→(W.cell? ⟨(B + 1),0,none⟩=some (.int .i64 v.kind)∧W.cell? ⟨(B + 1),1,none⟩=some (.int .u64 (v.num:Int))∧W.cell? ⟨(B + 1),2,none⟩=some (.slice K.ab K.nb K.cb)∧W.cell? ⟨(B + 1),3,none⟩=some (.slice K.ai K.ni K.ci))):=dh fun W hW=>HS2.out W fun k hk _=>hW.block k hk
         have HSP:=dh (SQ.start w9 u.kids (It.int n) v);go_cut [14] from 39 to 50 (fun c W=>CM (It.buildP (u.kids ++ [It.int n,v])) T13 w9 c W)
         case first=>
          refine wp_region_held_drew (S:=(fun w'=>(w'.cell? ⟨(B + 1),0,none⟩=some (.int .i64 v.kind)∧w'.cell? ⟨(B + 1),1,none⟩=some (.int .u64 (v.num:Int))∧w'.cell? ⟨(B + 1),2,none⟩=some (.slice K.ab K.nb K.cb)∧w'.cell? ⟨(B + 1),3,none⟩=some (.slice K.ai K.ni K.ci)))) (by kernel_rfl) (HS.out _ HSP.out.hB) (fun hHeld=>?_);refine tk 0 rfl hHeld ?_;simp only [Act.put,sx]
          refine tk 3 rfl hHeld ?_;simp only [Act.put,sx]
          refine tk 5 rfl hHeld ?_;simp only [Act.put,sx]
          refine ry 1 (by kernel_rfl) rfl fun K1 hK1=>?_
          have HTc:=kp HSP.out.hB HT139;have t:=cf HTc.out;go_simp
          clear t HTc;refine hK1.out _ _ hHeld (fun hHeld=>?_);clear hK1
          try simp only [sz]
          refine ry 2 (by kernel_rfl) rfl fun K1 hK1=>?_
          obtain ⟨v3,V2,hr3,hS3⟩:=HSP.out.a3 HTL.out HLN.out;rw [if_pos (by rfl)];refine wp_app _ _ 24 rfl rfl rfl hr3 ?_
          replace HSP:=dh hS3
          clear hr3 hS3;refine hK1.out _ _ (HS.out _ HSP.out.hB) (fun hHeld=>?_);clear hK1
          try simp only [sz]
          refine ry 4 (by kernel_rfl) rfl fun K1 hK1=>?_
          go_simp
          refine (h_rint n HN.out V2 (fun _=>True)).mono ?_;rintro e V4 ⟨_,rfl,B4,X,rfl,hX⟩
          replace HSP:=dh (HSP.out.pure B4)
          have HX:Hid (IR (fun _=>True) w9 (It.int n) X):=dh (by rw [It.int_form] at hX ⊢;exact hX.intw);clear B4 hX;refine hK1.out _ _ (HS.out _ HSP.out.hB) (fun hHeld=>?_);clear hK1
          try simp only [sz]
          refine ry 6 (by kernel_rfl) rfl fun K1 hK1=>?_
          go_simp
          replace HSP:=dh (HSP.out.a6 HX.out HKL.out)
          generalize V4.alloc _=V6 at *;generalize V4.heap.size=T6 at *;refine hK1.out _ _ (HS.out _ HSP.out.hB) (fun hHeld=>?_);clear hK1
          try simp only [sz]
          refine ry 7 (by kernel_rfl) rfl fun K1 hK1=>?_
          obtain ⟨a7,n7,c7,V7,hr7,hS7⟩:=HSP.out.a7 HLN.out;rw [if_pos (by rfl)];refine wp_app _ _ 24 rfl rfl rfl hr7 ?_
          replace HSP:=dh hS7
          clear hr7 hS7;refine hK1.out _ _ (HS.out _ HSP.out.hB) (fun hHeld=>?_);clear hK1
          try simp only [sz]
          refine ry 8 (by kernel_rfl) rfl fun K1 hK1=>?_
          go_simp
          refine (HSP.out.a8 HE9.out HLN.out).mono ?_;rintro e V8 ⟨Z8,rfl,hS8⟩
          replace HSP:=dh hS8
          clear hS8;refine hK1.out _ _ (HS.out _ HSP.out.hB) (fun hHeld=>?_);clear hK1
          try simp only [sz]
          refine tk 9 rfl hHeld ?_;simp only [Act.put,sx]
          refine tk 10 rfl hHeld ?_;simp only [Act.put,sx]
          refine tk 11 rfl hHeld ?_;simp only [Act.put,sx]
          refine ry 12 (by kernel_rfl) rfl fun K1 hK1=>?_
          have HTc:=kp HSP.out.hB HT139;have HI8:=dh (HSP.out.h8 Z8 rfl);have f:=ff HTc.out;have t:=cf HTc.out;go_simp
          clear f t;obtain ⟨W',hW',hp4,hs4,hb4⟩:=p4I (W:=V8) (b:=T13) HTc.out (It.MR.item (It.buildP (u.kids ++ [It.int n,v]))) Z8;rw [hW'];clear hW';have HB12:=dh (hb4 T13 w9 (HSP.out.hB.mono (Nat.le_of_lt (lb HT139.out))) (Nat.le_refl _));have HI12:=dh (HI8.out.keep (w':=W') (ok':=fun b=>w9.heap.size≤b) fun b hb _=>⟨hs4.2 b (by have:=lb HT139.out;have:=hb.1;omega),hb.1⟩);have HT12:=dh hp4;have HK12:Hid (∀ k,k < w9.heap.size→k≠T13→W'.heap[k]?=w9.heap[k]?):=dh fun k hk hne=>(hs4.2 k hne).trans (HSP.out.hB.block k hk)
          clear hp4 hs4 hb4 HI8 HTc;refine hK1.out _ _ (HS2.out _ HK12.out) (fun hHeld=>?_);clear hK1;generalize W'=V12 at *
          try simp only [sz]
          refine tk 13 rfl hHeld ?_;simp only [Act.put,sx]
          refine wpAnyH_done (by kernel_rfl) ?_ _
          try simp only [sz]
          go_wp2_with fail
          go_meet
          exact ⟨Z8,rfl,HT12.out,HI12.out,HB12.out,HK12.out⟩
         case rest=>
          obtain ⟨ZZ,rfl,hT13,hZZ,hB13,hk13⟩:=hcut;generalize hr:It.buildP (u.kids ++ [It.int n,v])=r at *;have HR:=dh hr;obtain ⟨cd,hcd⟩:∃ cd:Int,((It.MR.code r:Nat):Int)=cd:=⟨_,rfl⟩;rw [hcd];have HCD:=dh hcd;have HZZ13:=dh hZZ;have HB13:=dh hB13;have HT1313:=dh hT13;have HTN:Hid (N5≤T12∧T12 < T13∧T13 < w9.heap.size∧B + 3≤N5):=dh ⟨HT12N.out.1,HT12N.out.2,lb HT139.out,HSZ5.out⟩;have HO13:=dh (HY9.out.keep (w':=wc) (ok':=fun b=>N5≤b∧b≠T12) fun b hb hl=>⟨hk13 b hl hb.2.2,hb.1,hb.2.1⟩);have HT1213:=dh ((hk13 T12 (by have:=HTN.out;omega) (by have:=HTN.out;omega)).trans HT129.out);have HY13:=dh ((hk13 (B + 2) (by have:=HTN.out;omega) (by have:=HTN.out;omega)).trans HR9.out);clear hr hcd hT13 hZZ hB13 hk13 HS HS2 HSP HTL HKL HLN;generalize wc=w13 at *;have HP13:=dh (HP9.out.trans (HB13.out.mono (by have:=HTN.out;omega)));have t:=cf HT1313.out;cases r with
          | err e0=>
            obtain rfl:cd=(e0:Int):=HCD.out.symm;have hne:((e0:Int) !=0)=true:=by have:=It.buildP_err HR.out;simp;omega
            have HEE:Hid (It.putP p u false n v=.err 4):=dh (by unfold It.putP;rw [if_neg (by rw [HVAL.out,HVV.out];decide),if_neg (by rw [HRR.out];decide)];simp only [Bool.false_eq_true,if_false,HR.out]);have HPW:=HP13;have HY:=HY13;clear HCD HP13 HY13;go_upto_region 12 with fail
            clear hne t;have f:=fe8 HY.out;obtain ⟨r0,r1,r2,r3,r4,r5,r6,r7⟩:=ce HY.out;go_wp2_with fail
            clear f r0 r1 r2 r3 r4 r5 r6 r7;obtain ⟨W',hW',hp8,hs8,hb8⟩:=pe8 (W:=w13) (b:=(B + 2)) HY.out (.int .i64 0) (.int .u64 0) (.slice none 0 0) (.slice none 0 0) (.int .i64 0) (.int .u64 0) (.slice none 0 0) (.slice none 0 0);rw [hW'];clear hW';obtain ⟨g0,g1,g2,g3,g4,g5,g6,g7⟩:=ce hp8;refine bodyPost_ret (v:=.tuple #[vz8,.int .i64 4]) (by simp [vz8,results,Tryz.results33,go_sem,g0,g1,g2,g3,g4,g5,g6,g7]) rfl ?_;rw [HEE.out];exact ⟨_,rfl,by rw [RB',hB];exact hb8 B w HPW.out (by omega),⟨none,0,0,none,0,0⟩,⟨none,0,0,none,0,0⟩,rfl,IR.flat _ _ (by omega),IR.flat _ _ (by omega)⟩
          | ok x=>
            obtain rfl:cd=0:=HCD.out.symm;simp only [It.MR.item] at *;have f:=fe8 HT1213.out;obtain ⟨r0,r1,r2,r3,r4,r5,r6,r7⟩:=ce HT1213.out;go_upto_region 16 with fail
            clear f r0 r1 r2 r3 r4 r5 r6 r7 t;obtain ⟨W',hW',hp8,hs8,hb8⟩:=put8hi (W:=w13) (b:=T12) HT1213.out (.int .i64 x.kind) (.int .u64 (x.num:Int)) (.slice ZZ.ab ZZ.nb ZZ.cb) (.slice ZZ.ai ZZ.ni ZZ.ci);rw [hW'];clear hW';have HB14:Hid (Below N5 w5 W'):=dh (hb8 _ _ (HB59.out.trans (HB13.out.mono (by have:=HTN.out;omega))) HTN.out.1);have HZZ14:=dh (HZZ13.out.keep (w':=W') (ok':=fun b=>B + 3≤b) fun b hb _=>⟨hs8.2 b (by have:=HTN.out;omega),by have:=HTN.out;omega⟩);have HO14:=dh (HO13.out.keep (w':=W') (ok':=fun b=>B + 3≤b) fun b hb _=>⟨hs8.2 b hb.2,by have:=HTN.out;omega⟩);have HY14:=dh ((hs8.2 (B + 2) (by have:=HTN.out;omega)).trans HY13.out);have HT14:=dh hp8;clear hp8 hs8 hb8 HT1213 HT1313 HZZ13 HO13 HY13;generalize W'=w14 at *;have HE14:=dh (HE5.out.below (HN5.out ▸ HB14.out));have HP14:=dh (HP5.out.trans (HB14.out.mono (by have:=HTN.out;omega)));obtain ⟨r0,r1,r2,r3,r4,r5,r6,r7⟩:=ce HT14.out;have HC:=dh (rhv_any p x Y ZZ w14 _ _ HO14.out HZZ14.out HE14.out);cases hvn:It.hvalid p x with
            | false=>
              rw [hvn] at HC;have HEE:Hid (It.putP p u false n v=.err 4):=dh (by unfold It.putP;rw [if_neg (by rw [HVAL.out,HVV.out];decide),if_neg (by rw [HRR.out];decide)];simp only [Bool.false_eq_true,if_false,HR.out,hvn,Bool.false_eq_true,if_false]);clear hvn HCD;go_wp2_with fail
              refine HC.out.mono ?_;rintro e v15 ⟨rfl,B15⟩;have HPW:=dh (bwt HP14.out B15 hB);have HY:=kp B15 HY14;clear B15 HP14 HY14 HC r0 r1 r2 r3 r4 r5 r6 r7;have f:=fe8 HY.out;obtain ⟨r0,r1,r2,r3,r4,r5,r6,r7⟩:=ce HY.out;go_wp2_with fail
              clear f r0 r1 r2 r3 r4 r5 r6 r7;obtain ⟨W',hW',hp8,hs8,hb8⟩:=pe8 (W:=v15) (b:=(B + 2)) HY.out (.int .i64 0) (.int .u64 0) (.slice none 0 0) (.slice none 0 0) (.int .i64 0) (.int .u64 0) (.slice none 0 0) (.slice none 0 0);rw [hW'];clear hW';obtain ⟨g0,g1,g2,g3,g4,g5,g6,g7⟩:=ce hp8;refine bodyPost_ret (v:=.tuple #[vz8,.int .i64 4]) (by simp [vz8,results,Tryz.results33,go_sem,g0,g1,g2,g3,g4,g5,g6,g7]) rfl ?_;rw [HEE.out];exact ⟨_,rfl,by rw [RB',hB];exact hb8 B w HPW.out (by omega),⟨none,0,0,none,0,0⟩,⟨none,0,0,none,0,0⟩,rfl,IR.flat _ _ (by omega),IR.flat _ _ (by omega)⟩
            | true=>
              rw [hvn] at HC;have HEE:Hid (It.putP p u false n v=.ok p x):=dh (by unfold It.putP;rw [if_neg (by rw [HVAL.out,HVV.out];decide),if_neg (by rw [HRR.out];decide)];simp only [Bool.false_eq_true,if_false,HR.out,hvn,if_true]);clear hvn HCD;go_wp2_with fail
              refine HC.out.mono ?_;rintro e v15 ⟨rfl,B15⟩;have HPW:=dh (bwt HP14.out B15 hB);have HY:=kp B15 HY14;have HT15:=kp B15 HT14;have HIPX:=dh (HO14.out.below B15);have HIUX:=dh (HZZ14.out.below B15);clear B15 HP14 HY14 HC r0 r1 r2 r3 r4 r5 r6 r7;obtain ⟨r0,r1,r2,r3,r4,r5,r6,r7⟩:=ce HT15.out;have f:=fe8 HY.out;have y:=ce HY.out;go_wp2_with fail
              clear f r0 r1 r2 r3 r4 r5 r6 r7 y;obtain ⟨W',hW',hp8,hs8,hb8⟩:=p8I (W:=v15) (b:=(B + 2)) HY.out p x Y ZZ;rw [hW'];clear hW';obtain ⟨g0,g1,g2,g3,g4,g5,g6,g7⟩:=ce hp8;refine bodyPost_ret (v:=.tuple #[(v8 p x Y ZZ),.int .i64 0]) (by simp [v8,results,Tryz.results33,go_sem,g0,g1,g2,g3,g4,g5,g6,g7]) rfl ?_;rw [HEE.out];exact ⟨_,rfl,by rw [RB',hB];exact hb8 B w HPW.out (by omega),Y,ZZ,rfl,HIPX.out.keep (w':=W') (ok':=fun b=>w.heap.size≤b) fun b hb hl=>⟨hs8.2 b (by omega),by omega⟩,HIUX.out.keep (w':=W') (ok':=fun b=>w.heap.size≤b) fun b hb hl=>⟨hs8.2 b (by omega),by omega⟩⟩
