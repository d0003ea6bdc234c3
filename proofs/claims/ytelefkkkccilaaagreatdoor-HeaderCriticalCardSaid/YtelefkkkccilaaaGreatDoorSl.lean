/- Headers: Put. -/
import Derived.Test.YtelefkkkccilaaaGreatDoorSk
import Derived.Test.YtelefkkkccilaaaGreatDoorHd
set_option linter.all false
namespace Go.Proofs.YtelefkkkccilaaaGreatDoor
open Go.RowKit
set_option maxRecDepth 100000
theorem app_full {W:World} {ok ok' Q:Nat→Prop} {l m:List It} {a b:Option Addr} {n k c:Nat} (hT:TL ok W l a n) (hU:TL ok' W m b k) (hk0:0 < k) (ho:∀ q,ok q→q < W.heap.size→Q q) (ho':∀ q,ok' q→q < W.heap.size→Q q) (hsz:n + k≤1000000):
 ∃ v' W' es,(Builtin.append_ #[24,24] 24 #[.slice a n n,.slice b k c]).run Tryz.prog W=.ok v' W'∧es.map (·.1)=l ++ m∧OutI W' W.heap.size Q v' es∧Below W.heap.size W W':=by
 obtain ⟨i0,hi,hz0,hz1,hz2⟩:=info_parts inf26;obtain ⟨es1,e1,s1,i1⟩:=hT.src;obtain ⟨es2,e2,s2,i2⟩:=hU.src;have hn1:n=es1.length:=s1.1;have hn2:k=es2.length:=s2.1;cases a with
 | none=>
   have h1:es1=[]:=by
    cases es1 with
    | nil=>rfl
    | cons x r=>obtain ⟨b',o,h,_⟩:=s1.2 0 (.int .i64 x.1.kind) (by simp [cells4]);cases h
   subst h1;simp at hn1;subst hn1;obtain ⟨v',W',h2,h3,h4,_⟩:=(OutI.nil W W.heap.size Q).app (news:=es2) (c:=c) s2 (fun e he=>(i2 e he).imp fun q hq hl=>⟨ho' q hq hl,by simp [Value.ownBlock]⟩) (by simpa using hsz) (Nat.le_refl _);refine ⟨v',W',_,h2,?_,h3,grown_pure h4⟩;rw [← e1,← e2];rfl
 | some ad=>
   cases b with
   | none=>
     exfalso
     cases es2 with
     | nil=>simp at hn2;omega
     | cons x r=>obtain ⟨b',o,h,_⟩:=s2.2 0 (.int .i64 x.1.kind) (by simp [cells4]);cases h
   | some bd=>
     have hs:∀ {ad:Addr} {n:Nat} {es:List (It × Ad)},SrcI W (some ad) n es→∀ j u,(es.flatMap cells4)[j]?=some u→W.cell? (ad.add j)=some u:=fun h j u hu=>by
      obtain ⟨b,o,h,hcell⟩:=h.2 j u hu;cases h
      have hadd:(⟨b,o,none⟩:Addr).add j=⟨b,o + j,none⟩:=by unfold Addr.add;split <;> simp_all
      rw [hadd];exact hcell
     have hl1:(es1.flatMap cells4).length=n * i0.size:=by rw [flat4_len,hz1,hn1]
     have hl2:(es2.flatMap cells4).length=k * i0.size:=by rw [flat4_len,hz1,hn2]
     have hr:=run_append_grow (P:=Tryz.prog) W 24 24 26 i0 _ Tryz.underlying24 hi hz0 ad n n (es1.flatMap cells4) hl1 (hs s1) bd k c (es2.flatMap cells4) hl2 (hs s2) (by omega) (by omega) (by rw [hz2];exact growslice_fits (by omega) (by omega));have hge:=grownCap_ge W (n + k) n 26;have hcm:grownCap W (n + k) n 26≤maxLen:=grownCap_le_maxLen W (n + k) n 26 (by unfold maxLen;omega);have hB:Below W.heap.size W (W.drew.alloc (.cells ((es1.flatMap cells4).toArray ++ (es2.flatMap cells4).toArray ++ Builtin.zeroCells (Value.agg #[.int .i64 0,.int .u64 0,.slice none 0 0,.slice none 0 0]).cells (grownCap W (n + k) n 26 - (n + k))) 26)):=((Below.refl _ _).drew).alloc (Nat.le_refl _) _;have hk:∀ b,(ok b∨ok' b)→b < W.heap.size→(W.drew.alloc (.cells ((es1.flatMap cells4).toArray ++ (es2.flatMap cells4).toArray ++ Builtin.zeroCells (Value.agg #[.int .i64 0,.int .u64 0,.slice none 0 0,.slice none 0 0]).cells (grownCap W (n + k) n 26 - (n + k))) 26)).heap[b]?=W.heap[b]?∧okQ Q (.slice (some ⟨W.heap.size,0,none⟩) (n + k) (grownCap W (n + k) n 26)) b:=fun b hb hl=>⟨hB.block b hl,by rcases hb with hb | hb;exact ho b hb hl;exact ho' b hb hl,by simp [Value.ownBlock];omega⟩
     refine ⟨_,_,es1 ++ es2,hr,by rw [List.map_append,e1,e2],⟨⟨?_,.inr ⟨W.heap.size,_,_,?_,Nat.le_refl _,heap_alloc_new W.drew _,by rw [List.length_append,← hn1,← hn2];exact hge,hcm,?_,?_⟩⟩,fun e he=>?_⟩,hB⟩
     ·rw [flat4_len]
     ·rw [List.length_append,← hn1,← hn2]
     ·simp only [Array.size_append,List.size_toArray,size_zeroCells,hl1,hl2,hz1]
      show n * 4 + k * 4 + (grownCap W (n + k) n 26 - (n + k)) * 4=_
      omega
     ·simp only [Array.toList_append,List.append_assoc,List.flatMap_append]
      rw [← List.append_assoc];have:(es1 ++ es2).length * 4=(es1.flatMap cells4 ++ es2.flatMap cells4).length:=by rw [List.length_append,List.length_append,flat4_len,flat4_len];omega
      rw [this];exact List.take_left
     ·rcases List.mem_append.1 he with he | he
      ·exact (i1 e he).keep fun b hb hl=>hk b (.inl hb) hl
      ·exact (i2 e he).keep fun b hb hl=>hk b (.inr hb) hl
theorem put8lo {W:World} {b:Nat} {x0 x1 x2 x3 x4 x5 x6 x7:Value} {T:Nat} (h:W.heap[b]?=some (.cells #[x0,x1,x2,x3,x4,x5,x6,x7] T (0,0))) (y0 y1 y2 y3:Value):∃ W',((((W.setCell ⟨b,0,none⟩ y0).setCell ⟨b,1,none⟩ y1).setCell ⟨b,2,none⟩ y2).setCell ⟨b,3,none⟩ y3)=W'∧W'.heap[b]?=some (.cells #[y0,y1,y2,y3,x4,x5,x6,x7] T (0,0))∧(W'.heap.size=W.heap.size∧∀ k,k≠b→W'.heap[k]?=W.heap[k]?)∧∀ (n:Nat) (u:World),Below n u W→n≤b→Below n u W':=by
 refine ⟨_,rfl,?_,⟨by simp [World.setCell],fun k hk=>?_⟩,fun n u hu hb=>?_⟩
 ·have h0:=sar h 0 y0
  have h1:=sar h0 1 y1;have h2:=sar h1 2 y2;have h3:=sar h2 3 y3;rw [h3];simp
 ·have h:k≠b:=hk
  rw [Below.heap_setCell _ _ _ _ h,Below.heap_setCell _ _ _ _ h,Below.heap_setCell _ _ _ _ h,Below.heap_setCell _ _ _ _ h]
 ·exact (((hu.setCell (p:=⟨b,0,none⟩) hb y0).setCell (p:=⟨b,1,none⟩) hb y1).setCell (p:=⟨b,2,none⟩) hb y2).setCell (p:=⟨b,3,none⟩) hb y3
theorem put8hi {W:World} {b:Nat} {x0 x1 x2 x3 x4 x5 x6 x7:Value} {T:Nat} (h:W.heap[b]?=some (.cells #[x0,x1,x2,x3,x4,x5,x6,x7] T (0,0))) (y0 y1 y2 y3:Value):∃ W',((((W.setCell ⟨b,4,none⟩ y0).setCell ⟨b,5,none⟩ y1).setCell ⟨b,6,none⟩ y2).setCell ⟨b,7,none⟩ y3)=W'∧W'.heap[b]?=some (.cells #[x0,x1,x2,x3,y0,y1,y2,y3] T (0,0))∧(W'.heap.size=W.heap.size∧∀ k,k≠b→W'.heap[k]?=W.heap[k]?)∧∀ (n:Nat) (u:World),Below n u W→n≤b→Below n u W':=by
 refine ⟨_,rfl,?_,⟨by simp [World.setCell],fun k hk=>?_⟩,fun n u hu hb=>?_⟩
 ·have h0:=sar h 4 y0
  have h1:=sar h0 5 y1;have h2:=sar h1 6 y2;have h3:=sar h2 7 y3;rw [h3];simp
 ·have h:k≠b:=hk
  rw [Below.heap_setCell _ _ _ _ h,Below.heap_setCell _ _ _ _ h,Below.heap_setCell _ _ _ _ h,Below.heap_setCell _ _ _ _ h]
 ·exact (((hu.setCell (p:=⟨b,4,none⟩) hb y0).setCell (p:=⟨b,5,none⟩) hb y1).setCell (p:=⟨b,6,none⟩) hb y2).setCell (p:=⟨b,7,none⟩) hb y3
section
variable {o:Oper} {ρ:Operand→Value} {w:World}
theorem doesh_nil {ok:Nat→Prop} (x:Operand) (b q:Nat) (ho:o.op=.nilCheck x) (hx:ρ x=.pointer (some ⟨b,q,none⟩)):Rg.Does Tryz.prog o ρ w fun v' w'=>RB' w w'∧True∧(Fh.eq (.pointer (some ⟨b,q,none⟩))).holds ok v' w':=by
 refine doesh_val ?_ rfl;simp only [execOp,ho,hx];go_simp
theorem doesh_field3q {ok:Nat→Prop} (x:Operand) (b q:Nat) (ho:o.op=.fieldAddr 26 x 3) (hx:ρ x=.pointer (some ⟨b,q,none⟩)):Rg.Does Tryz.prog o ρ w fun v' w'=>RB' w w'∧True∧(Fh.eq (.pointer (some ⟨b,q + 3,none⟩))).holds ok v' w':=by
 refine doesh_val ?_ rfl;simp only [execOp,ho,hx];go_simp
theorem doesh_row2 {ok ok0 ok1:Nat→Prop} (o0 o1:Operand) (x0 x1:It) (ho:o.op=.buildSlice 24 2 #[(0,o0),(1,o1)]) (h0:(Fh.it x0).holds ok0 (ρ o0) w) (h1:(Fh.it x1).holds ok1 (ρ o1) w):Rg.Does Tryz.prog o ρ w fun v w'=>RB' w w'∧True∧(Fh.row [x0,x1]).holds ok v w':=by
 obtain ⟨A0,e0,hI0⟩:=h0;obtain ⟨A1,e1,hI1⟩:=h1;have hP:=al w (.cells #[.int .i64 x0.kind,.int .u64 (x0.num:Int),.slice A0.ab A0.nb A0.cb,.slice A0.ai A0.ni A0.ci,.int .i64 x1.kind,.int .u64 (x1.num:Int),.slice A1.ab A1.nb A1.cb,.slice A1.ai A1.ni A1.ci] 26);have hN:=aw w (.cells #[.int .i64 x0.kind,.int .u64 (x0.num:Int),.slice A0.ab A0.nb A0.cb,.slice A0.ai A0.ni A0.ci,.int .i64 x1.kind,.int .u64 (x1.num:Int),.slice A1.ab A1.nb A1.cb,.slice A1.ai A1.ni A1.ci] 26);refine Rg.Does.value (v:=.slice (some ⟨w.heap.size,0,none⟩) 2 2) (w':=w.alloc (.cells #[.int .i64 x0.kind,.int .u64 (x0.num:Int),.slice A0.ab A0.nb A0.cb,.slice A0.ai A0.ni A0.ci,.int .i64 x1.kind,.int .u64 (x1.num:Int),.slice A1.ab A1.nb A1.cb,.slice A1.ai A1.ni A1.ci] 26)) ?_ ⟨hP,trivial,some ⟨w.heap.size,0,none⟩,2,2,rfl,⟨rfl,by simp,fun j hj=>?_⟩,by simp,by simp⟩
 ·have hr:=run_row2 x0.kind (x0.num:Int) A0.ab A0.ai A0.nb A0.cb A0.ni A0.ci x1.kind (x1.num:Int) A1.ab A1.ai A1.nb A1.cb A1.ni A1.ci w
  simp only [execOp,ho,List.map_toArray,List.map_cons,List.map_nil,e0,e1,Sem.run_bind,hr,Result.andThen_ok,Sem.run_pure]
 ·have hj:j < 2:=hj
  rcases (show j=0∨j=1 by omega) with rfl | rfl
  ·exact ⟨w.heap.size,0,A0,rfl,trivial,⟨cr hN _,cr hN _,cr hN _,cr hN _⟩,(hI0.imp fun _ _ _=>trivial).below hP⟩
  ·exact ⟨w.heap.size,0,A1,rfl,trivial,⟨cr hN _,cr hN _,cr hN _,cr hN _⟩,(hI1.imp fun _ _ _=>trivial).below hP⟩
theorem doesh_full {ok ok0 ok1:Nat→Prop} (x y:Operand) (l m:List It) (a:Option Addr) (n c:Nat) (ho:o.op=.call { callee:=.builtin .append,args:=#[x,y],argTypes:=#[24,24] }) (ht:o.type=24) (hx:ρ x=.slice a n c) (hc:c=n) (hT:TL ok0 w l a n) (hy:(Fh.row m).holds ok1 (ρ y) w) (hm:0 < m.length) (hsz:l.length + m.length≤1000000):Rg.Does Tryz.prog o ρ w fun v w'=>RB' w w'∧True∧(Fh.row (l ++ m)).holds ok v w':=by
 obtain ⟨b,k,d,e,hU,_⟩:=hy;subst hc;obtain ⟨v',W',es,hr,he,hO,hB⟩:=app_full (Q:=fun _=>True) (c:=d) hT hU (by have:=hU.1;omega) (fun _ _ _=>trivial) (fun _ _ _=>trivial) (by have:=hT.1;have:=hU.1;omega);obtain ⟨a',c',e',hT',h3⟩:=hO.tl;refine Rg.Does.value (v:=v') (w':=W') ?_ ⟨hB,trivial,a',es.length,c',e',?_,h3⟩
 ·unfold execOp
  simp only [ho,ht,resolve,invoke,builtin,Sem.run_bind,Sem.run_pure,Result.andThen_ok,List.map_toArray,List.map_cons,List.map_nil,hx,e,hr]
 ·rw [← he]
  exact hT'.keep fun b _ _=>⟨rfl,trivial⟩
end
theorem late_mr0 {o:Oper} {ρ:Operand→Value} {w:World} {ok:Nat→Prop} {r:It.MR} (x:Operand) (ho:o.op=.extract x 0) (h:(Fh.mr r).holds ok (ρ x) w):∃ v,(∀ W,(execOp ρ o).run Tryz.prog W=.ok (.value v) W)∧(Fh.it (It.MR.item r)).holds ok v w:=by
 obtain ⟨A,e,hI⟩:=h;exact ⟨_,fun W=>by simp only [execOp,ho,e];go_simp,A,rfl,hI⟩
theorem late_mr1 {o:Oper} {ρ:Operand→Value} {w:World} {ok:Nat→Prop} {r:It.MR} (x:Operand) (ho:o.op=.extract x 1) (h:(Fh.mr r).holds ok (ρ x) w):∃ v,(∀ W,(execOp ρ o).run Tryz.prog W=.ok (.value v) W)∧(Fh.eq (.int .i64 (It.MR.code r:Int))).holds ok v w:=by
 obtain ⟨A,e,hI⟩:=h;exact ⟨_,fun W=>by simp only [execOp,ho,e];go_simp,rfl⟩
theorem h_cbuild {ok:Nat→Prop} {v:Value} {W:World} {l:List It} (h:(Fh.row l).holds ok v W) (hl:l.length≤1000) (hE:Env W):Calls Tryz.prog 60 #[v] W (EndH W (.mr (It.buildP l))):=by
 obtain ⟨a,n,c,rfl,hT,_⟩:=h;exact (cbuild_any l a n c W _ hT (by have:=hT.1;omega) hE).mono fun _ _ h=>EndH.mr h
def PX (p u:It) (n:Nat) (w5:World) (a:Value) (W:World):Prop:=∃ (T:Nat) (Y Z:Ad),a=.pointer (some ⟨T,0,none⟩)∧W.heap[T]?=some (o8 p u Y Z)∧IR (fun b=>n≤b∧b≠T) W p Y∧IR (fun b=>n≤b∧b≠T) W u Z∧Y.ci=Y.ni∧Z.ci=Z.ni∧n≤T∧Below n w5 W
theorem doesh_loadEV {o:Oper} {ρ:Operand→Value} {w:World} {ok:Nat→Prop} {W:World} (x:Operand) (b:Nat) (k:It) (A:Ad) (hW:Below w.heap.size w W) (hb:w.heap[b]?=some (.cells #[.int .i64 k.kind,.int .u64 (k.num:Int),.slice A.ab A.nb A.cb,.slice A.ai A.ni A.ci] 26 (0,0))) (ho:o.op=.load 26 x) (hx:ρ x=.pointer (some ⟨b,0,none⟩)):Rg.Does Tryz.prog o ρ W fun v' w'=>RB' W w'∧True∧(Fh.eq (.agg #[.int .i64 k.kind,.int .u64 (k.num:Int),.slice A.ab A.nb A.cb,.slice A.ai A.ni A.ci])).holds ok v' w':=by
 have a:=cf (Below.keep hW hb (lb hb));refine doesh_val (v:=.agg #[.int .i64 k.kind,.int .u64 (k.num:Int),.slice A.ab A.nb A.cb,.slice A.ai A.ni A.ci]) ?_ rfl;have hr:(Instr.loadAt 26 (.pointer (some ⟨b,0,none⟩))).run Tryz.prog W=.ok (.agg #[.int .i64 k.kind,.int .u64 (k.num:Int),.slice A.ab A.nb A.cb,.slice A.ai A.ni A.ci]) W:=by
  go_simp
 simp only [execOp,ho,hx,Sem.run_bind,hr,Result.andThen_ok,Sem.run_pure]
set_option maxHeartbeats 16000000 in
theorem hput_any (p u:It) (A C:Ad) (w:World) (ok ok':Nat→Prop) (hI:IR ok w p A) (hJ:IR ok' w u C) (hE:Env w) (v:It) (K:Ad) (b:Bool) (n:Int) (ok3:Nat→Prop) (hK:IR ok3 w v K) (h0: -9223372036854775808≤n) (h1:n≤9223372036854775807):Calls Tryz.prog 32 #[.agg #[.int .i64 p.kind,.int .u64 (p.num:Int),.slice A.ab A.nb A.cb,.slice A.ai A.ni A.ci,.int .i64 u.kind,.int .u64 (u.num:Int),.slice C.ab C.nb C.cb,.slice C.ai C.ni C.ci],.bool b,.int .i64 n,.agg #[.int .i64 v.kind,.int .u64 (v.num:Int),.slice K.ab K.nb K.cb,.slice K.ai K.ni K.ci]] w (EndH w (.hr (It.putP p u b n v))):=by
 obtain ⟨P0,N0⟩:=an w (o8 p u A C);obtain ⟨P1,N1⟩:=an (w.alloc (o8 p u A C)) (o4 v K);have hsz1:(w.alloc (o8 p u A C)).heap.size=w.heap.size + 1:=by simp
 rw [hsz1] at N1;obtain ⟨P2,N2⟩:=an ((w.alloc (o8 p u A C)).alloc (o4 v K)) o8z;have hsz2:((w.alloc (o8 p u A C)).alloc (o4 v K)).heap.size=w.heap.size + 2:=by simp
 rw [hsz2] at N2;have HX1:=dh (Below.keep P2 (Below.keep P1 N0 (lb N0)) (lb (Below.keep P1 N0 (lb N0))));have HV1:=dh (Below.keep P2 N1 (lb N1));have HY1:=dh N2;have HP1:=dh (pt (pt P0 P1) P2);have HI1:=dh (((((hI.imp (ok':=fun b=>b < w.heap.size) fun b _ hb=>hb).below P0).below P1).below P2));have HJ1:=dh (((((hJ.imp (ok':=fun b=>b < w.heap.size) fun b _ hb=>hb).below P0).below P1).below P2));have HK1:=dh (((((hK.imp (ok':=fun b=>b < w.heap.size) fun b _ hb=>hb).below P0).below P1).below P2));have HE1:=dh ((((hE.below P0).below P1).below P2));have HN:=dh (And.intro h0 h1);have hsz3:(((w.alloc (o8 p u A C)).alloc (o4 v K)).alloc o8z).heap.size=w.heap.size + 3:=by simp
 clear hI hJ hK hE h0 h1;go_enter Tryz.func32,Tryz.ntmps32
 go_upto_region 1 with fail
 clear P0 P1 P2 N0 N1 N2 hsz1 hsz2;generalize (((w.alloc (o8 p u A C)).alloc (o4 v K)).alloc o8z)=w1 at *;generalize hB:w.heap.size=B at *;have HSZ:=dh hsz3;clear hsz3;obtain ⟨x0,x1,x2,x3,x4,x5,x6,x7⟩:=ce HX1.out;cases hv:It.hvalid p u with
 | false=>
   have HC:=dh (hva p u A C w1 _ _ HI1.out HJ1.out HE1.out);rw [hv] at HC;have HEE:Hid (It.putP p u b n v=.err 1):=dh (by unfold It.putP;rw [if_pos (.inl hv)]);clear hv;go_wp2_with fail
   refine HC.out.mono ?_;rintro e v1 ⟨rfl,B1⟩;have HPW:=dh (bwt HP1.out B1 hB);have HY:=kp B1 HY1;clear B1 HX1 HV1 HY1 HC x0 x1 x2 x3 x4 x5 x6 x7;have f:=fe8 HY.out;obtain ⟨r0,r1,r2,r3,r4,r5,r6,r7⟩:=ce HY.out;go_wp2_with fail
   clear f r0 r1 r2 r3 r4 r5 r6 r7;obtain ⟨W',hW',hp8,hs8,hb8⟩:=pe8 (W:=v1) (b:=(B + 2)) HY.out (.int .i64 0) (.int .u64 0) (.slice none 0 0) (.slice none 0 0) (.int .i64 0) (.int .u64 0) (.slice none 0 0) (.slice none 0 0);rw [hW'];clear hW';obtain ⟨g0,g1,g2,g3,g4,g5,g6,g7⟩:=ce hp8;refine bodyPost_ret (v:=.tuple #[vz8,.int .i64 1]) (by simp [vz8,results,Tryz.results32,go_sem,g0,g1,g2,g3,g4,g5,g6,g7]) rfl ?_;rw [HEE.out];exact ⟨_,rfl,by rw [RB',hB];exact hb8 B w HPW.out (by omega),⟨none,0,0,none,0,0⟩,⟨none,0,0,none,0,0⟩,rfl,IR.flat _ _ (by omega),IR.flat _ _ (by omega)⟩
 | true=>
   have HC:=dh (hva p u A C w1 _ _ HI1.out HJ1.out HE1.out);rw [hv] at HC;have HVAL:=dh hv;clear hv;go_wp2_with fail
   refine HC.out.mono ?_;rintro e v1 ⟨rfl,B1⟩;have HP2:=dh (bwt HP1.out B1 hB);have HX2:=kp B1 HX1;have HV2:=kp B1 HV1;have HY2:=kp B1 HY1;have HI2:=dh (HI1.out.below B1);have HJ2:=dh (HJ1.out.below B1);have HK2:=dh (HK1.out.below B1);have HE2:=dh (HE1.out.below B1);clear HP1 HX1 HV1 HY1 HI1 HJ1 HK1 HE1;have HSZ2:Hid (B + 3≤v1.heap.size):=dh (by have:=HSZ.out;have:=B1.size;omega);clear B1 HC HSZ x0 x1 x2 x3 x4 x5 x6 x7;have y:=cf HV2.out;cases hvv:It.valid v with
   | false=>
     have HC:=dh (cva v K v1 _ HK2.out HE2.out false hvv);have HEE:Hid (It.putP p u b n v=.err 1):=dh (by unfold It.putP;rw [if_pos (.inr hvv)]);clear hvv;go_wp2_with fail
     refine HC.out.mono ?_;rintro e v2 ⟨rfl,B2⟩;have HPW:=dh (bwt HP2.out B2 hB);have HY:=kp B2 HY2;clear B2 HX2 HV2 HY2 HC y;have f:=fe8 HY.out;obtain ⟨r0,r1,r2,r3,r4,r5,r6,r7⟩:=ce HY.out;go_wp2_with fail
     clear f r0 r1 r2 r3 r4 r5 r6 r7;obtain ⟨W',hW',hp8,hs8,hb8⟩:=pe8 (W:=v2) (b:=(B + 2)) HY.out (.int .i64 0) (.int .u64 0) (.slice none 0 0) (.slice none 0 0) (.int .i64 0) (.int .u64 0) (.slice none 0 0) (.slice none 0 0);rw [hW'];clear hW';obtain ⟨g0,g1,g2,g3,g4,g5,g6,g7⟩:=ce hp8;refine bodyPost_ret (v:=.tuple #[vz8,.int .i64 1]) (by simp [vz8,results,Tryz.results32,go_sem,g0,g1,g2,g3,g4,g5,g6,g7]) rfl ?_;rw [HEE.out];exact ⟨_,rfl,by rw [RB',hB];exact hb8 B w HPW.out (by omega),⟨none,0,0,none,0,0⟩,⟨none,0,0,none,0,0⟩,rfl,IR.flat _ _ (by omega),IR.flat _ _ (by omega)⟩
   | true=>
     have HC:=dh (cva v K v1 _ HK2.out HE2.out true hvv);have HVV:=dh hvv;clear hvv;obtain ⟨x0,x1,x2,x3,x4,x5,x6,x7⟩:=ce HX2.out;clear x0 x1 x2 x3 x4 x5 x6 x7;go_wp2_with fail
     refine HC.out.mono ?_;rintro e v2 ⟨rfl,B2⟩;have HP3:=dh (bwt HP2.out B2 hB);have HX3:=kp B2 HX2;have HV3:=kp B2 HV2;have HY3:=kp B2 HY2;have HI3:=dh (HI2.out.below B2);have HJ3:=dh (HJ2.out.below B2);have HK3:=dh (HK2.out.below B2);have HE3:=dh (HE2.out.below B2);clear HP2 HX2 HV2 HY2 HI2 HJ2 HK2 HE2;have HSZ3:Hid (B + 3≤v2.heap.size):=dh (by have:=HSZ2.out;have:=B2.size;omega);clear B2 HC HSZ2 y;obtain ⟨x0,x1,x2,x3,x4,x5,x6,x7⟩:=ce HX3.out;have HMO:Hid (It.mapOk p=true∧It.mapOk u=true):=dh (by have h:=HVAL.out;unfold It.hvalid at h;simp only [Bool.and_eq_true] at h;exact ⟨h.1.1.1.1.1,h.1.1.1.1.2⟩);have HF:=dh (hfind_any p u A C n v2 _ _ HN.out.1 HN.out.2 HI3.out HJ3.out HE3.out);rw [find2P_eq HMO.out.1 HMO.out.2] at HF;go_wp2_with fail
     refine HF.out.mono ?_;generalize hr:It.find2 p u n=r at *;rintro e v3 ⟨_,rfl,B3,Y,rfl,hIY⟩;have hQ:=pt B3 (al v3 (o4 (It.opt r) Y));have HP5:=dh (bwt HP3.out hQ hB);have HX5:=kp hQ HX3;have HV5:=kp hQ HV3;have HY5:=kp hQ HY3;have HI5:=dh (HI3.out.below hQ);have HJ5:=dh (HJ3.out.below hQ);have HK5:=dh (HK3.out.below hQ);have HE5:=dh (HE3.out.below hQ);clear HP3 HX3 HV3 HY3 HI3 HJ3 HK3 HE3;have HSZ5:Hid (B + 3≤(v3.alloc (o4 (It.opt r) Y)).heap.size):=dh (by have:=HSZ3.out;have:=Below.size hQ;omega);have HRR:=dh hr;clear hr HF hIY HSZ3;go_upto_region 4 with fail
     clear x0 x1 x2 x3 x4 x5 x6 x7 B3 hQ;generalize v3.alloc _=w5 at *;generalize v3.heap.size=T10 at *;cases r with
     | some z=>
       simp only [It.opt,Option.getD_some,Option.isSome_some] at *;have HEE:Hid (It.putP p u b n v=.err 7):=dh (by unfold It.putP;rw [if_neg (by rw [HVAL.out,HVV.out];decide),if_pos (by rw [HRR.out];rfl)]);have HPW:=HP5;have HY:=HY5;clear HX5 HV5 HY5 HP5;have f:=fe8 HY.out;obtain ⟨r0,r1,r2,r3,r4,r5,r6,r7⟩:=ce HY.out;go_wp2_with fail
       clear f r0 r1 r2 r3 r4 r5 r6 r7;obtain ⟨W',hW',hp8,hs8,hb8⟩:=pe8 (W:=w5) (b:=(B + 2)) HY.out (.int .i64 0) (.int .u64 0) (.slice none 0 0) (.slice none 0 0) (.int .i64 0) (.int .u64 0) (.slice none 0 0) (.slice none 0 0);rw [hW'];clear hW';obtain ⟨g0,g1,g2,g3,g4,g5,g6,g7⟩:=ce hp8;refine bodyPost_ret (v:=.tuple #[vz8,.int .i64 7]) (by simp [vz8,results,Tryz.results32,go_sem,g0,g1,g2,g3,g4,g5,g6,g7]) rfl ?_;rw [HEE.out];exact ⟨_,rfl,by rw [RB',hB];exact hb8 B w HPW.out (by omega),⟨none,0,0,none,0,0⟩,⟨none,0,0,none,0,0⟩,rfl,IR.flat _ _ (by omega),IR.flat _ _ (by omega)⟩
     | none=>
       simp only [It.opt,Option.getD_none,Option.isSome_none] at *;have HMAPS:=dh (It.hvalid_maps HVAL.out);obtain ⟨N5,hN5⟩:∃ N,N=w5.heap.size:=⟨_,rfl⟩;have HN5:=dh hN5;have pure_trans5:∀ {a c:World},Below N5 w5 a→Below a.heap.size a c→Below N5 w5 c:=fun h k=>h.trans (k.mono (by have:=h.size;omega))
       have HS:Hid (∀ W,Below N5 w5 W→(W.cell? ⟨B,0,none⟩=some (.int .i64 p.kind)∧W.cell? ⟨B,1,none⟩=some (.int .u64 (p.num:Int))∧W.cell? ⟨B,2,none⟩=some (.slice A.ab A.nb A.cb)∧W.cell? ⟨B,3,none⟩=some (.slice A.ai A.ni A.ci))∧(W.cell? ⟨B,4,none⟩=some (.int .i64 u.kind)∧W.cell? ⟨B,5,none⟩=some (.int .u64 (u.num:Int))∧W.cell? ⟨B,6,none⟩=some (.slice C.ab C.nb C.cb)∧W.cell? ⟨B,7,none⟩=some (.slice C.ai C.ni C.ci))):=dh fun W hW=>by
        rw [hN5] at hW;obtain ⟨a0,a1,a2,a3,a4,a5,a6,a7⟩:=ck8 hW HX5;exact ⟨⟨a0,a1,a2,a3⟩,a4,a5,a6,a7⟩
       have HC2:Hid (∀ W,Below N5 w5 W→Calls Tryz.prog 96 #[.agg #[.int .i64 p.kind,.int .u64 (p.num:Int),.slice A.ab A.nb A.cb,.slice A.ai A.ni A.ci]] W (IPC p W)):=dh fun W hW=>by
        rw [hN5] at hW;exact copied_cap p A W _ HMAPS.out.1.1 HMAPS.out.1.2 (HI5.out.below hW) (HE5.out.below hW)
       have HC5:Hid (∀ W,Below N5 w5 W→Calls Tryz.prog 96 #[.agg #[.int .i64 u.kind,.int .u64 (u.num:Int),.slice C.ab C.nb C.cb,.slice C.ai C.ni C.ci]] W (IPC u W)):=dh fun W hW=>by
        rw [hN5] at hW;exact copied_cap u C W _ HMAPS.out.2.1 HMAPS.out.2.2 (HJ5.out.below hW) (HE5.out.below hW)
       have HB:Hid (Below N5 w5 w5.drew):=dh ((Below.refl _ _).drew);clear hN5;go_upto_region 6 with fail
       go_cut [12] from 33 to 39 (fun a W=>PX p u N5 w5 a W)
       case first=>
        refine wp_region_held_drew (S:=(fun w'=>(w'.cell? ⟨B,0,none⟩=some (.int .i64 p.kind)∧w'.cell? ⟨B,1,none⟩=some (.int .u64 (p.num:Int))∧w'.cell? ⟨B,2,none⟩=some (.slice A.ab A.nb A.cb)∧w'.cell? ⟨B,3,none⟩=some (.slice A.ai A.ni A.ci))∧(w'.cell? ⟨B,4,none⟩=some (.int .i64 u.kind)∧w'.cell? ⟨B,5,none⟩=some (.int .u64 (u.num:Int))∧w'.cell? ⟨B,6,none⟩=some (.slice C.ab C.nb C.cb)∧w'.cell? ⟨B,7,none⟩=some (.slice C.ai C.ni C.ci)))) (by kernel_rfl) (HS.out _ HB.out) (fun hHeld=>?_);refine tk 0 rfl hHeld ?_;simp only [Act.put,sx]
        refine tk 1 rfl hHeld ?_;simp only [Act.put,sx]
        refine tk 3 rfl hHeld ?_;simp only [Act.put,sx]
        refine tk 4 rfl hHeld ?_;simp only [Act.put,sx]
        refine wpAnyH_ready (rs:=[2,7]) (by kernel_rfl) (by simp) ?_;refine AllReadyH.cons rfl (fun K1 hK1=>?_) (AllReadyH.cons rfl (fun K1 hK1=>?_) AllReadyH.nil)
        ·go_simp
         refine (HC2.out _ HB.out).mono ?_;rintro e V2 ⟨A2,rfl,hI2,hB2,hc2⟩;have HI2:=dh (hI2.imp (ok':=fun b=>N5≤b) fun b hb _=>by have:=HB.out.size;have:=HN5.out;omega);have HCA2:=dh hc2
         replace HB:=dh (pure_trans5 HB.out hB2)
         clear hI2 hB2 hc2;refine hK1.out _ _ (HS.out _ HB.out) (fun hHeld=>?_);clear hK1
         try simp only [Act.put,sx]
         refine wpAnyH_ready (rs:=[5,7]) (by kernel_rfl) (by simp) ?_;refine AllReadyH.cons rfl (fun K1 hK1=>?_) (AllReadyH.cons rfl (fun K1 hK1=>?_) AllReadyH.nil)
         ·go_simp
          refine (HC5.out _ HB.out).mono ?_;rintro e V5 ⟨A5,rfl,hI5,hB5,hc5⟩;have HI5:=dh (hI5.imp (ok':=fun b=>N5≤b) fun b hb _=>by have:=HB.out.size;have:=HN5.out;omega);have HCA5:=dh hc5
          replace HI2:=dh (HI2.out.below hB5)
          replace HB:=dh (pure_trans5 HB.out hB5)
          clear hI5 hB5 hc5;refine hK1.out _ _ (HS.out _ HB.out) (fun hHeld=>?_);clear hK1
          try simp only [Act.put,sx]
          refine tk 6 rfl hHeld ?_;simp only [Act.put,sx]
          refine ry 7 (by kernel_rfl) rfl fun K1 hK1=>?_
          go_simp
          obtain ⟨P7,N7⟩:=an V5 o8z;have HG7:Hid (N5≤V5.heap.size):=dh (by have:=HB.out.size;have:=HN5.out;omega)
          replace HI2:=dh ((HI2.out.imp (ok':=fun b=>N5≤b∧b≠V5.heap.size) fun b hb hl=>⟨hb,by omega⟩).below P7)
          replace HI5:=dh ((HI5.out.imp (ok':=fun b=>N5≤b∧b≠V5.heap.size) fun b hb hl=>⟨hb,by omega⟩).below P7)
          replace HB:=dh (pure_trans5 HB.out P7)
          have HT7:=dh N7;clear P7 N7;refine hK1.out _ _ (HS.out _ HB.out) (fun hHeld=>?_);clear hK1;generalize V5.alloc o8z=V7 at *;generalize V5.heap.size=T7 at *
          try simp only [Act.put,sx]
          refine ry 8 (by kernel_rfl) rfl fun K1 hK1=>?_
          have f:=fe8 HT7.out;have t:=ce HT7.out;go_simp
          clear f t;obtain ⟨W',hW',hp8,hs8,hb8⟩:=p8I (W:=V7) (b:=T7) HT7.out p u A2 A5;rw [hW'];clear hW'
          replace HI2:=dh (HI2.out.keep (w':=W') (ok':=fun b=>N5≤b∧b≠T7) fun b hb _=>⟨hs8.2 b hb.2,hb⟩)
          replace HI5:=dh (HI5.out.keep (w':=W') (ok':=fun b=>N5≤b∧b≠T7) fun b hb _=>⟨hs8.2 b hb.2,hb⟩)
          replace HB:=dh (hb8 _ _ HB.out HG7.out)
          replace HT7:=dh hp8
          clear hp8 hs8 hb8;refine hK1.out _ _ (HS.out _ HB.out) (fun hHeld=>?_);clear hK1;generalize W'=V8 at *
          try simp only [Act.put,sx]
          refine wpAnyH_done (by kernel_rfl) ?_ _
          try simp only [Act.put,sx]
          go_wp2_with fail
          go_meet
          exact ⟨T7,A2,A5,rfl,HT7.out,HI2.out,HI5.out,HCA2.out,HCA5.out,HG7.out,HB.out⟩
         ·go_simp
          obtain ⟨P7,N7⟩:=an V2 o8z;have HG7:Hid (N5≤V2.heap.size):=dh (by have:=HB.out.size;have:=HN5.out;omega)
          replace HI2:=dh ((HI2.out.imp (ok':=fun b=>N5≤b∧b≠V2.heap.size) fun b hb hl=>⟨hb,by omega⟩).below P7)
          replace HB:=dh (pure_trans5 HB.out P7)
          have HT7:=dh N7;clear P7 N7;refine hK1.out _ _ (HS.out _ HB.out) (fun hHeld=>?_);clear hK1;generalize V2.alloc o8z=V7 at *;generalize V2.heap.size=T7 at *
          try simp only [Act.put,sx]
          refine ry 5 (by kernel_rfl) rfl fun K1 hK1=>?_
          go_simp
          refine (HC5.out _ HB.out).mono ?_;rintro e V5 ⟨A5,rfl,hI5,hB5,hc5⟩;have HI5:=dh (hI5.imp (ok':=fun b=>N5≤b∧b≠T7) fun b hb _=>⟨by have:=HB.out.size;have:=HN5.out;omega,by have:=lb HT7.out;omega⟩);have HCA5:=dh hc5
          replace HI2:=dh (HI2.out.below hB5)
          replace HT7:=kp hB5 HT7
          replace HB:=dh (pure_trans5 HB.out hB5)
          clear hI5 hB5 hc5;refine hK1.out _ _ (HS.out _ HB.out) (fun hHeld=>?_);clear hK1
          try simp only [Act.put,sx]
          refine tk 6 rfl hHeld ?_;simp only [Act.put,sx]
          refine ry 8 (by kernel_rfl) rfl fun K1 hK1=>?_
          have f:=fe8 HT7.out;have t:=ce HT7.out;go_simp
          clear f t;obtain ⟨W',hW',hp8,hs8,hb8⟩:=p8I (W:=V5) (b:=T7) HT7.out p u A2 A5;rw [hW'];clear hW'
          replace HI2:=dh (HI2.out.keep (w':=W') (ok':=fun b=>N5≤b∧b≠T7) fun b hb _=>⟨hs8.2 b hb.2,hb⟩)
          replace HI5:=dh (HI5.out.keep (w':=W') (ok':=fun b=>N5≤b∧b≠T7) fun b hb _=>⟨hs8.2 b hb.2,hb⟩)
          replace HB:=dh (hb8 _ _ HB.out HG7.out)
          replace HT7:=dh hp8
          clear hp8 hs8 hb8;refine hK1.out _ _ (HS.out _ HB.out) (fun hHeld=>?_);clear hK1;generalize W'=V8 at *
          try simp only [Act.put,sx]
          refine wpAnyH_done (by kernel_rfl) ?_ _
          try simp only [Act.put,sx]
          go_wp2_with fail
          go_meet
          exact ⟨T7,A2,A5,rfl,HT7.out,HI2.out,HI5.out,HCA2.out,HCA5.out,HG7.out,HB.out⟩
        ·go_simp
         have P7:Below N5 w5 (w5.alloc o8z).drew:=by rw [HN5.out];exact (al w5 o8z).drew
         have N7:(w5.alloc o8z).drew.heap[w5.heap.size]?=_:=aw w5 o8z;generalize (w5.alloc o8z).drew=V7 at *;obtain ⟨T7,hT7⟩:∃ b,b=w5.heap.size:=⟨_,rfl⟩;rw [← hT7] at N7;rw [← hT7]
         replace HB:=dh P7
         have HT7:=dh N7;have HG7:Hid (N5≤T7):=dh (by have:=HN5.out;omega);clear P7 N7 hT7;refine hK1.out _ _ (HS.out _ HB.out) (fun hHeld=>?_);clear hK1
         try simp only [Act.put,sx]
         refine ry 2 (by kernel_rfl) rfl fun K1 hK1=>?_
         go_simp
         refine (HC2.out _ HB.out).mono ?_;rintro e V2 ⟨A2,rfl,hI2,hB2,hc2⟩;have HI2:=dh (hI2.imp (ok':=fun b=>N5≤b∧b≠T7) fun b hb _=>⟨by have:=HB.out.size;have:=HN5.out;omega,by have:=lb HT7.out;omega⟩);have HCA2:=dh hc2
         replace HT7:=kp hB2 HT7
         replace HB:=dh (pure_trans5 HB.out hB2)
         clear hI2 hB2 hc2;refine hK1.out _ _ (HS.out _ HB.out) (fun hHeld=>?_);clear hK1
         try simp only [Act.put,sx]
         refine ry 5 (by kernel_rfl) rfl fun K1 hK1=>?_
         go_simp
         refine (HC5.out _ HB.out).mono ?_;rintro e V5 ⟨A5,rfl,hI5,hB5,hc5⟩;have HI5:=dh (hI5.imp (ok':=fun b=>N5≤b∧b≠T7) fun b hb _=>⟨by have:=HB.out.size;have:=HN5.out;omega,by have:=lb HT7.out;omega⟩);have HCA5:=dh hc5
         replace HT7:=kp hB5 HT7
         replace HI2:=dh (HI2.out.below hB5)
         replace HB:=dh (pure_trans5 HB.out hB5)
         clear hI5 hB5 hc5;refine hK1.out _ _ (HS.out _ HB.out) (fun hHeld=>?_);clear hK1
         try simp only [Act.put,sx]
         refine tk 6 rfl hHeld ?_;simp only [Act.put,sx]
         refine ry 8 (by kernel_rfl) rfl fun K1 hK1=>?_
         have f:=fe8 HT7.out;have t:=ce HT7.out;go_simp
         clear f t;obtain ⟨W',hW',hp8,hs8,hb8⟩:=p8I (W:=V5) (b:=T7) HT7.out p u A2 A5;rw [hW'];clear hW'
         replace HI2:=dh (HI2.out.keep (w':=W') (ok':=fun b=>N5≤b∧b≠T7) fun b hb _=>⟨hs8.2 b hb.2,hb⟩)
         replace HI5:=dh (HI5.out.keep (w':=W') (ok':=fun b=>N5≤b∧b≠T7) fun b hb _=>⟨hs8.2 b hb.2,hb⟩)
         replace HB:=dh (hb8 _ _ HB.out HG7.out)
         replace HT7:=dh hp8
         clear hp8 hs8 hb8;refine hK1.out _ _ (HS.out _ HB.out) (fun hHeld=>?_);clear hK1;generalize W'=V8 at *
         try simp only [Act.put,sx]
         refine wpAnyH_done (by kernel_rfl) ?_ _
         try simp only [Act.put,sx]
         go_wp2_with fail
         go_meet
         exact ⟨T7,A2,A5,rfl,HT7.out,HI2.out,HI5.out,HCA2.out,HCA5.out,HG7.out,HB.out⟩
       case rest=>
        obtain ⟨T,A6,C6,rfl,hT6,hA6,hC6,hca,hcc,hTn,hB6⟩:=hcut;have HT6:=dh hT6;have HA6:=dh hA6;have HC6:=dh hC6;have HCA:=dh hca;have HCC:=dh hcc;have HTN:=dh hTn;have HB6:=dh hB6;have HGC:Hid (N5≤wc.heap.size):=dh (by have:=hB6.size;have:=HN5.out;omega);have HB6':=dh (HN5.out ▸ hB6);have HV6:=kp HB6'.out HV5;have HY6:=kp HB6'.out HY5;have HK6:=dh (HK5.out.below HB6'.out);have HE6:=dh (HE5.out.below HB6'.out);clear hT6 hA6 hC6 hca hcc hTn hB6 HS HC2 HC5 HB HB6' HX5 HV5 HY5 HI5 HJ5 HK5 pure_trans5;cases b with
        | true=>
          go_upto_region 10 with fail
          have HLB:Hid ((p.kids ++ [It.int n,v]).length≤1000):=dh (by have:=kids_le HMAPS.out.1.1;simp;omega);have HS6:Hid (∀ W,RB' wc W→∀ b,W.heap.size≤b→wc.heap.size≤b):=dh fun W hW b hb=>by have:=Below.size hW;omega
          refine rgh (M:=14) (fun b=>wc.heap.size≤b) [.eq (.pointer (some ⟨T,0,none⟩)),.eq (.pointer (some ⟨T,0,none⟩)),.eq (.pointer (some ⟨T,3,none⟩)),.eq (.slice A6.ai A6.ni A6.ci),.eq (.int .i64 n),.it (It.int n),.eq (.agg #[.int .i64 v.kind,.int .u64 (v.num:Int),.slice K.ab K.nb K.cb,.slice K.ai K.ni K.ci]),.row [It.int n,v],.row (p.kids ++ [It.int n,v]),.mr (It.buildP (p.kids ++ [It.int n,v])),.mr (It.buildP (p.kids ++ [It.int n,v])),.it (It.MR.item (It.buildP (p.kids ++ [It.int n,v]))),.eq (.int .i64 (It.MR.code (It.buildP (p.kids ++ [It.int n,v])):Int)),.bk wc.heap.size o4z] [.pl,.pl,.pl,.pl,.pl,.pl,.pl,.pl,.pl,.pa,.la,.la,.la,.pa] 9 13 (.mr (It.buildP (p.kids ++ [It.int n,v]))) (by kernel_rfl) (by kernel_rfl) (by kernel_rfl) (fun _ _ o _ _ h=>by cases o <;> exact h) ?_ ?_
          ·refine ⟨?_,?_,?_,?_,?_,?_,?_,?_,?_,?_,?_,?_,?_,?_,trivial⟩<;>intro vs W hR _ hd
           ·exact dmv (.tmp 13) rfl (show _=_ by kernel_rfl)
           ·exact doesh_nil (.tmp 44) T 0 rfl (hd 0 (by decide))
           ·exact doesh_field3q (.tmp 45) T 0 rfl (hd 1 (by decide))
           ·exact dl24 (.tmp 46) T 3 _ _ _ rfl (hd 2 (by decide)) (ck8 hR HT6).2.2.2.1
           ·exact dmv (.tmp 2) rfl (show _=_ by kernel_rfl)
           ·have e4:vs 4=.int .i64 n:=(hd 4 (by decide));exact dcl (vals:=#[vs 4]) 69 (.func 69) #[.tmp 48] _ rfl (by kernel_rfl) (by kernel_rfl) (cq Tryz.func69) (by rw [e4];exact h_cint n HN.out W _)
           ·exact doesh_loadEV (.tmp 7) (B + 1) v K hR HV6.out rfl (by kernel_rfl)
           ·exact doesh_row2 (.tmp 49) (.tmp 50) (It.int n) v rfl (hd 5 (by decide)) ⟨K,hd 6 (by decide),HK6.out.below hR⟩
           ·exact doesh_full (.tmp 47) (.tmp 51) p.kids [It.int n,v] A6.ai A6.ni A6.ci rfl rfl (hd 3 (by decide)) HCA.out (HA6.out.below hR).tl (hd 7 (by decide)) (by simp) (by have:=HLB.out;simp only [List.length_append] at this;omega)
           ·exact dfi (vals:=#[vs 8]) 60 (.func 60) #[.tmp 52] _ rfl (by kernel_rfl) (by kernel_rfl) (cq Tryz.func60) rfl rfl (by decide) (HS6.out W hR) (h_cbuild (hd 8 (by decide)) HLB.out (HE6.out.below hR))
           ·exact late_move (.tmp 53) rfl (hd 9 (by decide))
           ·exact late_mr0 (.tmp 43) rfl (hd 10 (by decide))
           ·exact late_mr1 (.tmp 43) rfl (hd 10 (by decide))
           ·exact dal rfl rfl rfl (by decide) hR.size
          ·intro vs W7 hR7 hf hD hE
           obtain ⟨T14,e13,hT14,hTn⟩:=hf 13 (by decide);obtain ⟨ZZ,e9,hI92⟩:=hD (by decide) (by decide) T14 e13;have e10:vs 10=_:=(exm (hE 10 _ (by decide) rfl W7) (.tmp 53) rfl).trans e9;have e11:vs 11=_:=ex0 (hE 11 _ (by decide) rfl W7) (.tmp 43) rfl e10;have e12:vs 12=_:=ex1 (hE 12 _ (by decide) rfl W7) (.tmp 43) rfl e10;have HT14:=dh hT14;have HT14N:=dh hTn;have HZ7:=dh hI92;have HB67:=dh hR7;simp only [Rg.putAll,Rg.putFrom,List.take_succ_cons,List.take_zero,List.drop_succ_cons,List.drop_zero,Act.put,sx,Nat.zero_add,Nat.reduceAdd,e11,e12,e13];clear hf hD hE e9 e10 e11 e12 e13 hI92 hT14 hTn hR7;generalize hr:It.buildP (p.kids ++ [It.int n,v])=r at *;have HR:=dh hr;clear hr;obtain ⟨cd,hcd⟩:∃ cd:Int,((It.MR.code r:Nat):Int)=cd:=⟨_,rfl⟩;rw [hcd];have HCD:=dh hcd;clear hcd;have f:=ff HT14.out;have t:=cf HT14.out;go_upto_region 11 with fail
           clear f t;obtain ⟨W',hW',hp4,hs4,hb4⟩:=p4I (W:=W7) (b:=T14) HT14.out (It.MR.item r) ZZ;rw [hW'];clear hW';have HB8:Hid (Below wc.heap.size wc W'):=dh (hb4 _ _ HB67.out HT14N.out);have HZ8:=dh (HZ7.out.keep (w':=W') (ok':=fun k=>k≠T14∧wc.heap.size≤k) fun b hb _=>⟨hs4.2 b hb.1,hb⟩);have HT148:=dh hp4;clear hp4 hs4 hb4 HT14 HB67 HZ7;generalize W'=w8 at *;have HT8:=kp HB8.out HT6;have HY8:=kp HB8.out HY6;have HA8:=dh (HA6.out.below HB8.out);have HC8:=dh (HC6.out.below HB8.out);have HB58:=dh (HB6.out.trans (HB8.out.mono HGC.out));have HTW:Hid (T < wc.heap.size):=dh (lb HT6.out);have f:=fe8 HT8.out;obtain ⟨r0,r1,r2,r3,r4,r5,r6,r7⟩:=ce HT8.out;have t:=cf HT148.out;go_upto_region 12 with fail
           clear f r0 r1 r2 r3 r4 r5 r6 r7 t;obtain ⟨W',hW',hp8,hs8,hb8⟩:=put8lo (W:=w8) (b:=T) HT8.out (.int .i64 (It.MR.item r).kind) (.int .u64 ((It.MR.item r).num:Int)) (.slice ZZ.ab ZZ.nb ZZ.cb) (.slice ZZ.ai ZZ.ni ZZ.ci);rw [hW'];clear hW';have HB59:=dh (hb8 _ _ HB58.out HTN.out);have HZ9:=dh (HZ8.out.keep (w':=W') (ok':=fun k=>k≠T14∧wc.heap.size≤k) fun b hb _=>⟨hs8.2 b (by have:=HTW.out;omega),hb⟩);have HO9:=dh (HC8.out.keep (w':=W') (ok':=fun k=>N5≤k∧k≠T) fun b hb _=>⟨hs8.2 b hb.2,hb⟩);have HY9:=dh ((hs8.2 (B + 2) (by have:=HTN.out;have:=HSZ5.out;have:=HN5.out;omega)).trans HY8.out);have HT9:=dh hp8;have HG9:Hid (N5≤wc.heap.size∧B + 3≤N5):=dh ⟨HGC.out,by have:=HSZ5.out;have:=HN5.out;omega⟩;clear hp8 hs8 hb8 HT8 HT148 HZ8 HA8 HC8 HB58 HB8 HY8;generalize W'=w9 at *;have HE9:=dh (HE5.out.below (HN5.out ▸ HB59.out));have HP9:=dh (bwt HP5.out (HN5.out ▸ HB59.out) hB);obtain ⟨r0,r1,r2,r3,r4,r5,r6,r7⟩:=ce HT9.out;cases r with
           | err e0=>
             obtain rfl:cd=(e0:Int):=HCD.out.symm;have hne:((e0:Int) !=0)=true:=by have:=It.buildP_err HR.out;simp;omega
             have HEE:Hid (It.putP p u true n v=.err 4):=dh (by unfold It.putP;rw [if_neg (by rw [HVAL.out,HVV.out];decide),if_neg (by rw [HRR.out];decide)];simp only [if_true,HR.out]);have HPW:=HP9;have HY:=HY9;clear HCD HP9 HY9;go_upto_region 13 with fail
             clear hne r0 r1 r2 r3 r4 r5 r6 r7;have f:=fe8 HY.out;obtain ⟨r0,r1,r2,r3,r4,r5,r6,r7⟩:=ce HY.out;go_wp2_with fail
             clear f r0 r1 r2 r3 r4 r5 r6 r7;obtain ⟨W',hW',hp8,hs8,hb8⟩:=pe8 (W:=w9) (b:=(B + 2)) HY.out (.int .i64 0) (.int .u64 0) (.slice none 0 0) (.slice none 0 0) (.int .i64 0) (.int .u64 0) (.slice none 0 0) (.slice none 0 0);rw [hW'];clear hW';obtain ⟨g0,g1,g2,g3,g4,g5,g6,g7⟩:=ce hp8;refine bodyPost_ret (v:=.tuple #[vz8,.int .i64 4]) (by simp [vz8,results,Tryz.results32,go_sem,g0,g1,g2,g3,g4,g5,g6,g7]) rfl ?_;rw [HEE.out];exact ⟨_,rfl,by rw [RB',hB];exact hb8 B w HPW.out (by omega),⟨none,0,0,none,0,0⟩,⟨none,0,0,none,0,0⟩,rfl,IR.flat _ _ (by omega),IR.flat _ _ (by omega)⟩
           | ok x=>
             obtain rfl:cd=0:=HCD.out.symm;simp only [It.MR.item] at *;have HIP:=dh (HZ9.out.imp (ok':=fun b=>B + 3≤b) fun b hb _=>by have:=HG9.out;omega);have HIU:=dh (HO9.out.imp (ok':=fun b=>B + 3≤b) fun b hb _=>by have:=HG9.out;omega);cases hvn:It.hvalid x u with
             | false=>
               have HC:=dh (hva x u ZZ C6 w9 _ _ HIP.out HIU.out HE9.out);rw [hvn] at HC;have HEE:Hid (It.putP p u true n v=.err 4):=dh (by unfold It.putP;rw [if_neg (by rw [HVAL.out,HVV.out];decide),if_neg (by rw [HRR.out];decide)];simp only [if_true,HR.out,hvn,Bool.false_eq_true,if_false]);clear hvn HCD;go_wp2_with fail
               refine HC.out.mono ?_;rintro e v10 ⟨rfl,B10⟩;have HPW:=dh (bwt HP9.out B10 hB);have HY:=kp B10 HY9;clear B10 HP9 HY9 HC r0 r1 r2 r3 r4 r5 r6 r7;have f:=fe8 HY.out;obtain ⟨r0,r1,r2,r3,r4,r5,r6,r7⟩:=ce HY.out;go_wp2_with fail
               clear f r0 r1 r2 r3 r4 r5 r6 r7;obtain ⟨W',hW',hp8,hs8,hb8⟩:=pe8 (W:=v10) (b:=(B + 2)) HY.out (.int .i64 0) (.int .u64 0) (.slice none 0 0) (.slice none 0 0) (.int .i64 0) (.int .u64 0) (.slice none 0 0) (.slice none 0 0);rw [hW'];clear hW';obtain ⟨g0,g1,g2,g3,g4,g5,g6,g7⟩:=ce hp8;refine bodyPost_ret (v:=.tuple #[vz8,.int .i64 4]) (by simp [vz8,results,Tryz.results32,go_sem,g0,g1,g2,g3,g4,g5,g6,g7]) rfl ?_;rw [HEE.out];exact ⟨_,rfl,by rw [RB',hB];exact hb8 B w HPW.out (by omega),⟨none,0,0,none,0,0⟩,⟨none,0,0,none,0,0⟩,rfl,IR.flat _ _ (by omega),IR.flat _ _ (by omega)⟩
             | true=>
               have HC:=dh (hva x u ZZ C6 w9 _ _ HIP.out HIU.out HE9.out);rw [hvn] at HC;have HEE:Hid (It.putP p u true n v=.ok x u):=dh (by unfold It.putP;rw [if_neg (by rw [HVAL.out,HVV.out];decide),if_neg (by rw [HRR.out];decide)];simp only [if_true,HR.out,hvn,if_true]);clear hvn HCD;go_wp2_with fail
               refine HC.out.mono ?_;rintro e v10 ⟨rfl,B10⟩;have HPW:=dh (bwt HP9.out B10 hB);have HY:=kp B10 HY9;have HT10:=kp B10 HT9;have HIPX:=dh (HIP.out.below B10);have HIUX:=dh (HIU.out.below B10);clear B10 HP9 HY9 HC r0 r1 r2 r3 r4 r5 r6 r7;obtain ⟨r0,r1,r2,r3,r4,r5,r6,r7⟩:=ce HT10.out;have f:=fe8 HY.out;have y:=ce HY.out;go_wp2_with fail
               clear f r0 r1 r2 r3 r4 r5 r6 r7 y;obtain ⟨W',hW',hp8,hs8,hb8⟩:=p8I (W:=v10) (b:=(B + 2)) HY.out x u ZZ C6;rw [hW'];clear hW';obtain ⟨g0,g1,g2,g3,g4,g5,g6,g7⟩:=ce hp8;refine bodyPost_ret (v:=.tuple #[(v8 x u ZZ C6),.int .i64 0]) (by simp [v8,results,Tryz.results32,go_sem,g0,g1,g2,g3,g4,g5,g6,g7]) rfl ?_;rw [HEE.out];exact ⟨_,rfl,by rw [RB',hB];exact hb8 B w HPW.out (by omega),ZZ,C6,rfl,HIPX.out.keep (w':=W') (ok':=fun b=>w.heap.size≤b) fun b hb hl=>⟨hs8.2 b (by omega),by omega⟩,HIUX.out.keep (w':=W') (ok':=fun b=>w.heap.size≤b) fun b hb hl=>⟨hs8.2 b (by omega),by omega⟩⟩
        | false=>
          go_upto_region 10 with fail
          have HLB:Hid ((u.kids ++ [It.int n,v]).length≤1000):=dh (by have:=kids_le HMAPS.out.2.1;simp;omega);have HS6:Hid (∀ W,RB' wc W→∀ b,W.heap.size≤b→wc.heap.size≤b):=dh fun W hW b hb=>by have:=Below.size hW;omega
          refine rgh (M:=14) (fun b=>wc.heap.size≤b) [.eq (.pointer (some ⟨T,4,none⟩)),.eq (.pointer (some ⟨T,4,none⟩)),.eq (.pointer (some ⟨T,7,none⟩)),.eq (.slice C6.ai C6.ni C6.ci),.eq (.int .i64 n),.it (It.int n),.eq (.agg #[.int .i64 v.kind,.int .u64 (v.num:Int),.slice K.ab K.nb K.cb,.slice K.ai K.ni K.ci]),.row [It.int n,v],.row (u.kids ++ [It.int n,v]),.mr (It.buildP (u.kids ++ [It.int n,v])),.mr (It.buildP (u.kids ++ [It.int n,v])),.it (It.MR.item (It.buildP (u.kids ++ [It.int n,v]))),.eq (.int .i64 (It.MR.code (It.buildP (u.kids ++ [It.int n,v])):Int)),.bk wc.heap.size o4z] [.pl,.pl,.pl,.pl,.pl,.pl,.pl,.pl,.pl,.pa,.la,.la,.la,.pa] 9 13 (.mr (It.buildP (u.kids ++ [It.int n,v]))) (by kernel_rfl) (by kernel_rfl) (by kernel_rfl) (fun _ _ o _ _ h=>by cases o <;> exact h) ?_ ?_
          ·refine ⟨?_,?_,?_,?_,?_,?_,?_,?_,?_,?_,?_,?_,?_,?_,trivial⟩<;>intro vs W hR _ hd
           ·exact dmv (.tmp 13) rfl (show _=_ by kernel_rfl)
           ·exact doesh_nil (.tmp 44) T 4 rfl (hd 0 (by decide))
           ·exact doesh_field3q (.tmp 45) T 4 rfl (hd 1 (by decide))
           ·exact dl24 (.tmp 46) T 7 _ _ _ rfl (hd 2 (by decide)) (ck8 hR HT6).2.2.2.2.2.2.2
           ·exact dmv (.tmp 2) rfl (show _=_ by kernel_rfl)
           ·have e4:vs 4=.int .i64 n:=(hd 4 (by decide));exact dcl (vals:=#[vs 4]) 69 (.func 69) #[.tmp 48] _ rfl (by kernel_rfl) (by kernel_rfl) (cq Tryz.func69) (by rw [e4];exact h_cint n HN.out W _)
           ·exact doesh_loadEV (.tmp 7) (B + 1) v K hR HV6.out rfl (by kernel_rfl)
           ·exact doesh_row2 (.tmp 49) (.tmp 50) (It.int n) v rfl (hd 5 (by decide)) ⟨K,hd 6 (by decide),HK6.out.below hR⟩
           ·exact doesh_full (.tmp 47) (.tmp 51) u.kids [It.int n,v] C6.ai C6.ni C6.ci rfl rfl (hd 3 (by decide)) HCC.out (HC6.out.below hR).tl (hd 7 (by decide)) (by simp) (by have:=HLB.out;simp only [List.length_append] at this;omega)
           ·exact dfi (vals:=#[vs 8]) 60 (.func 60) #[.tmp 52] _ rfl (by kernel_rfl) (by kernel_rfl) (cq Tryz.func60) rfl rfl (by decide) (HS6.out W hR) (h_cbuild (hd 8 (by decide)) HLB.out (HE6.out.below hR))
           ·exact late_move (.tmp 53) rfl (hd 9 (by decide))
           ·exact late_mr0 (.tmp 43) rfl (hd 10 (by decide))
           ·exact late_mr1 (.tmp 43) rfl (hd 10 (by decide))
           ·exact dal rfl rfl rfl (by decide) hR.size
          ·intro vs W7 hR7 hf hD hE
           obtain ⟨T14,e13,hT14,hTn⟩:=hf 13 (by decide);obtain ⟨ZZ,e9,hI92⟩:=hD (by decide) (by decide) T14 e13;have e10:vs 10=_:=(exm (hE 10 _ (by decide) rfl W7) (.tmp 53) rfl).trans e9;have e11:vs 11=_:=ex0 (hE 11 _ (by decide) rfl W7) (.tmp 43) rfl e10;have e12:vs 12=_:=ex1 (hE 12 _ (by decide) rfl W7) (.tmp 43) rfl e10;have HT14:=dh hT14;have HT14N:=dh hTn;have HZ7:=dh hI92;have HB67:=dh hR7;simp only [Rg.putAll,Rg.putFrom,List.take_succ_cons,List.take_zero,List.drop_succ_cons,List.drop_zero,Act.put,sx,Nat.zero_add,Nat.reduceAdd,e11,e12,e13];clear hf hD hE e9 e10 e11 e12 e13 hI92 hT14 hTn hR7;generalize hr:It.buildP (u.kids ++ [It.int n,v])=r at *;have HR:=dh hr;clear hr;obtain ⟨cd,hcd⟩:∃ cd:Int,((It.MR.code r:Nat):Int)=cd:=⟨_,rfl⟩;rw [hcd];have HCD:=dh hcd;clear hcd;have f:=ff HT14.out;have t:=cf HT14.out;go_upto_region 11 with fail
           clear f t;obtain ⟨W',hW',hp4,hs4,hb4⟩:=p4I (W:=W7) (b:=T14) HT14.out (It.MR.item r) ZZ;rw [hW'];clear hW';have HB8:Hid (Below wc.heap.size wc W'):=dh (hb4 _ _ HB67.out HT14N.out);have HZ8:=dh (HZ7.out.keep (w':=W') (ok':=fun k=>k≠T14∧wc.heap.size≤k) fun b hb _=>⟨hs4.2 b hb.1,hb⟩);have HT148:=dh hp4;clear hp4 hs4 hb4 HT14 HB67 HZ7;generalize W'=w8 at *;have HT8:=kp HB8.out HT6;have HY8:=kp HB8.out HY6;have HA8:=dh (HA6.out.below HB8.out);have HC8:=dh (HC6.out.below HB8.out);have HB58:=dh (HB6.out.trans (HB8.out.mono HGC.out));have HTW:Hid (T < wc.heap.size):=dh (lb HT6.out);have f:=fe8 HT8.out;obtain ⟨r0,r1,r2,r3,r4,r5,r6,r7⟩:=ce HT8.out;have t:=cf HT148.out;go_upto_region 12 with fail
           clear f r0 r1 r2 r3 r4 r5 r6 r7 t;obtain ⟨W',hW',hp8,hs8,hb8⟩:=put8hi (W:=w8) (b:=T) HT8.out (.int .i64 (It.MR.item r).kind) (.int .u64 ((It.MR.item r).num:Int)) (.slice ZZ.ab ZZ.nb ZZ.cb) (.slice ZZ.ai ZZ.ni ZZ.ci);rw [hW'];clear hW';have HB59:=dh (hb8 _ _ HB58.out HTN.out);have HZ9:=dh (HZ8.out.keep (w':=W') (ok':=fun k=>k≠T14∧wc.heap.size≤k) fun b hb _=>⟨hs8.2 b (by have:=HTW.out;omega),hb⟩);have HO9:=dh (HA8.out.keep (w':=W') (ok':=fun k=>N5≤k∧k≠T) fun b hb _=>⟨hs8.2 b hb.2,hb⟩);have HY9:=dh ((hs8.2 (B + 2) (by have:=HTN.out;have:=HSZ5.out;have:=HN5.out;omega)).trans HY8.out);have HT9:=dh hp8;have HG9:Hid (N5≤wc.heap.size∧B + 3≤N5):=dh ⟨HGC.out,by have:=HSZ5.out;have:=HN5.out;omega⟩;clear hp8 hs8 hb8 HT8 HT148 HZ8 HA8 HC8 HB58 HB8 HY8;generalize W'=w9 at *;have HE9:=dh (HE5.out.below (HN5.out ▸ HB59.out));have HP9:=dh (bwt HP5.out (HN5.out ▸ HB59.out) hB);obtain ⟨r0,r1,r2,r3,r4,r5,r6,r7⟩:=ce HT9.out;cases r with
           | err e0=>
             obtain rfl:cd=(e0:Int):=HCD.out.symm;have hne:((e0:Int) !=0)=true:=by have:=It.buildP_err HR.out;simp;omega
             have HEE:Hid (It.putP p u false n v=.err 4):=dh (by unfold It.putP;rw [if_neg (by rw [HVAL.out,HVV.out];decide),if_neg (by rw [HRR.out];decide)];simp only [Bool.false_eq_true,if_false,HR.out]);have HPW:=HP9;have HY:=HY9;clear HCD HP9 HY9;go_upto_region 13 with fail
             clear hne r0 r1 r2 r3 r4 r5 r6 r7;have f:=fe8 HY.out;obtain ⟨r0,r1,r2,r3,r4,r5,r6,r7⟩:=ce HY.out;go_wp2_with fail
             clear f r0 r1 r2 r3 r4 r5 r6 r7;obtain ⟨W',hW',hp8,hs8,hb8⟩:=pe8 (W:=w9) (b:=(B + 2)) HY.out (.int .i64 0) (.int .u64 0) (.slice none 0 0) (.slice none 0 0) (.int .i64 0) (.int .u64 0) (.slice none 0 0) (.slice none 0 0);rw [hW'];clear hW';obtain ⟨g0,g1,g2,g3,g4,g5,g6,g7⟩:=ce hp8;refine bodyPost_ret (v:=.tuple #[vz8,.int .i64 4]) (by simp [vz8,results,Tryz.results32,go_sem,g0,g1,g2,g3,g4,g5,g6,g7]) rfl ?_;rw [HEE.out];exact ⟨_,rfl,by rw [RB',hB];exact hb8 B w HPW.out (by omega),⟨none,0,0,none,0,0⟩,⟨none,0,0,none,0,0⟩,rfl,IR.flat _ _ (by omega),IR.flat _ _ (by omega)⟩
           | ok x=>
             obtain rfl:cd=0:=HCD.out.symm;simp only [It.MR.item] at *;have HIP:=dh (HO9.out.imp (ok':=fun b=>B + 3≤b) fun b hb _=>by have:=HG9.out;omega);have HIU:=dh (HZ9.out.imp (ok':=fun b=>B + 3≤b) fun b hb _=>by have:=HG9.out;omega);cases hvn:It.hvalid p x with
             | false=>
               have HC:=dh (hva p x A6 ZZ w9 _ _ HIP.out HIU.out HE9.out);rw [hvn] at HC;have HEE:Hid (It.putP p u false n v=.err 4):=dh (by unfold It.putP;rw [if_neg (by rw [HVAL.out,HVV.out];decide),if_neg (by rw [HRR.out];decide)];simp only [Bool.false_eq_true,if_false,HR.out,hvn,Bool.false_eq_true,if_false]);clear hvn HCD;go_wp2_with fail
               refine HC.out.mono ?_;rintro e v10 ⟨rfl,B10⟩;have HPW:=dh (bwt HP9.out B10 hB);have HY:=kp B10 HY9;clear B10 HP9 HY9 HC r0 r1 r2 r3 r4 r5 r6 r7;have f:=fe8 HY.out;obtain ⟨r0,r1,r2,r3,r4,r5,r6,r7⟩:=ce HY.out;go_wp2_with fail
               clear f r0 r1 r2 r3 r4 r5 r6 r7;obtain ⟨W',hW',hp8,hs8,hb8⟩:=pe8 (W:=v10) (b:=(B + 2)) HY.out (.int .i64 0) (.int .u64 0) (.slice none 0 0) (.slice none 0 0) (.int .i64 0) (.int .u64 0) (.slice none 0 0) (.slice none 0 0);rw [hW'];clear hW';obtain ⟨g0,g1,g2,g3,g4,g5,g6,g7⟩:=ce hp8;refine bodyPost_ret (v:=.tuple #[vz8,.int .i64 4]) (by simp [vz8,results,Tryz.results32,go_sem,g0,g1,g2,g3,g4,g5,g6,g7]) rfl ?_;rw [HEE.out];exact ⟨_,rfl,by rw [RB',hB];exact hb8 B w HPW.out (by omega),⟨none,0,0,none,0,0⟩,⟨none,0,0,none,0,0⟩,rfl,IR.flat _ _ (by omega),IR.flat _ _ (by omega)⟩
             | true=>
               have HC:=dh (hva p x A6 ZZ w9 _ _ HIP.out HIU.out HE9.out);rw [hvn] at HC;have HEE:Hid (It.putP p u false n v=.ok p x):=dh (by unfold It.putP;rw [if_neg (by rw [HVAL.out,HVV.out];decide),if_neg (by rw [HRR.out];decide)];simp only [Bool.false_eq_true,if_false,HR.out,hvn,if_true]);clear hvn HCD;go_wp2_with fail
               refine HC.out.mono ?_;rintro e v10 ⟨rfl,B10⟩;have HPW:=dh (bwt HP9.out B10 hB);have HY:=kp B10 HY9;have HT10:=kp B10 HT9;have HIPX:=dh (HIP.out.below B10);have HIUX:=dh (HIU.out.below B10);clear B10 HP9 HY9 HC r0 r1 r2 r3 r4 r5 r6 r7;obtain ⟨r0,r1,r2,r3,r4,r5,r6,r7⟩:=ce HT10.out;have f:=fe8 HY.out;have y:=ce HY.out;go_wp2_with fail
               clear f r0 r1 r2 r3 r4 r5 r6 r7 y;obtain ⟨W',hW',hp8,hs8,hb8⟩:=p8I (W:=v10) (b:=(B + 2)) HY.out p x A6 ZZ;rw [hW'];clear hW';obtain ⟨g0,g1,g2,g3,g4,g5,g6,g7⟩:=ce hp8;refine bodyPost_ret (v:=.tuple #[(v8 p x A6 ZZ),.int .i64 0]) (by simp [v8,results,Tryz.results32,go_sem,g0,g1,g2,g3,g4,g5,g6,g7]) rfl ?_;rw [HEE.out];exact ⟨_,rfl,by rw [RB',hB];exact hb8 B w HPW.out (by omega),A6,ZZ,rfl,HIPX.out.keep (w':=W') (ok':=fun b=>w.heap.size≤b) fun b hb hl=>⟨hs8.2 b (by omega),by omega⟩,HIUX.out.keep (w':=W') (ok':=fun b=>w.heap.size≤b) fun b hb hl=>⟨hs8.2 b (by omega),by omega⟩⟩
