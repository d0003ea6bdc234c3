/- Joined texts. -/
import Derived.Test.YtelefkkkccilaaaDoorJI
import Derived.Test.YtelefkkkccilaaaDoorJH
import Derived.Test.YtelefkkkccilaaaDoorJF
set_option linter.unusedVariables false
set_option linter.unusedSimpArgs false
namespace Go.Proofs.YtelefkkkccilaaaDoor
open Am Go.RowKit
set_option maxRecDepth 100000
theorem pL_kx {g:Cx} {w:World} {LB p:Nat} (hp:¬ g.Z p):∀ (l:List Px) (vs:List Value),agL g w (pL LB l) vs→∃ L:List KX,vs=L.flatMap KX.cells∧L.map (fun e=>(e.kb,e.q1,e.q2))=l.map (fun x=>(x.kb,x.q1,x.q2))∧∀ e ∈ L,BR (fun b=>b≠p∧LB≤b) w e.ka e.kb.length e.kb∧(e.kb.length≤e.kc∧e.kc≤9223372036854775807)
 | [],[],_=>⟨[],rfl,rfl,fun e he=>by cases he⟩
 | [],_ :: _,h=>h.elim
 | x :: l,vs,h=>by
   have h:agL g w (pxc LB x ++ pL LB l) vs:=h;have h1:=h.take 9;have h2:=h.drop 9;rw [show (pxc LB x ++ pL LB l).take 9=pxc LB x from rfl] at h1;rw [show (pxc LB x ++ pL LB l).drop 9=pL LB l from rfl] at h2;obtain ⟨L,e1,e2,e3⟩:=pL_kx hp l _ h2;generalize hv:vs.take 9=us at h1
   match us,h1 with
   | [u1,u2,u3,u4,u5,u6,u7,u8,u9],h1=>
     obtain ⟨a1,a2,a3,a4,a5,a6,a7,a8,a9,_⟩:=h1;obtain ⟨a,n,c,rfl,rfl,hc,hcell⟩:=a1;have a2:u2=_:=a2;have a3:u3=_:=a3;have a4:u4=_:=a4;have a5:u5=_:=a5;have a6:u6=_:=a6;have a7:u7=_:=a7;have a8:u8=_:=a8;have a9:u9=_:=a9;refine ⟨⟨x.kb,a,c,x.q1,x.q2⟩ :: L,?_,by simp [e2],fun e he=>?_⟩
     ·rw [← List.take_append_drop 9 vs,hv,e1,List.flatMap_cons,a2,a3,a4,a5,a6,a7,a8,a9]
      rfl
     ·rcases List.mem_cons.1 he with rfl | he
      ·refine ⟨⟨rfl,by show x.kb.length≤_;omega,fun i hi=>?_⟩,hc⟩
       rcases hcell with h0 | ⟨d,o,rfl,hd,hl,hcc⟩
       ·have hi:i < x.kb.length:=hi
        rw [h0] at hi;simp at hi
       ·exact ⟨d,o,rfl,⟨fun e=>hp (e ▸ hd),hl⟩,hcc i hi⟩
      ·exact e3 e he
theorem kx_ag {g:Cx} {w:World}:∀ (L:List KX),(∀ e ∈ L,holds g w (bsl e.kb) (.slice e.ka e.kb.length e.kc))→agL g w (kxL L) (L.flatMap KX.cells)
 | [],_=>trivial
 | e :: L,h=>by
   have ih:=kx_ag L fun x hx=>h x (List.mem_cons_of_mem _ hx)
   exact agL.append ⟨h e (List.mem_cons_self ..),rfl,rfl,rfl,rfl,rfl,rfl,rfl,rfl,trivial⟩ ih
abbrev r2x (L:List KX):Row:=⟨2,94,9,kxL L⟩
namespace Kx
variable (K:Kx)
def g3 (w:World) (p c:Nat):Cx:=⟨fun b=>b < w.heap.size∧b≠K.d∧b≠K.blk∧b≠p,fun u=>u < 3,fun u=>if u=0 then K.d else if u=1 then K.blk else p,fun u=>if u=0 then K.ic else if u=1 then K.cx else c⟩
abbrev e3 (w:World) (p c:Nat):En:=⟨w,K.g3 w p c,[0,1,2]⟩
variable {K}
theorem rel3 (h:K.Ok) {w:World} (hW:K.W w) (hE:Env w) {p c:Nat} {arr:Array Value} {L:List KX} (hp:2≤p∧p≠K.d∧p≠K.blk) (ha:w.heap[p]?=some (.cells arr 94 (0,0))) (hs9:arr.size=c * 9) (hl:L.length * 9≤arr.size) (ht:arr.toList.take (L.length * 9)=L.flatMap KX.cells) (hky:∀ e ∈ L,BR (fun b=>b≠K.d∧b≠K.blk∧b≠p) w e.ka e.kb.length e.kb∧(e.kb.length≤e.kc∧e.kc≤9223372036854775807))
 {a:Act} {fr:List (Nat × SV)} (hd:a.defers=[]) (hs:a.tmps.size=114) (hf:∀ d,holds (K.g3 w p c) w (Am.look fr d) (a.tmps.getD d undef)):Rel XU (K.e3 w p c) ⟨fr,[(1000,K.r0),(1001,K.r1),(1002,r2x L)],3,[],114⟩ a w:=by
 have hb:=h.hd;have hxu:=xu h;have h1:K.d < w.heap.size:=lb hW.1;have h2:K.blk < w.heap.size:=lb hW.2;have h3:p < w.heap.size:=lb ha;refine rel_new [K.r0,K.r1,r2x L] rfl hd hs hf (fun b hb=>hb.1) (fun u hu=>hu) (fun u hu _=>?_) hE (fun r hr=>?_) (fun i j r q hi hj hij _ _=>?_)
 ·show (if u=0 then K.d else if u=1 then K.blk else p) < _
  split
  ·exact h1
  ·split
   ·exact h2
   ·exact h3
 ·simp only [List.mem_cons,List.not_mem_nil,or_false] at hr
  rcases hr with rfl | rfl | rfl
  ·refine ⟨⟨show (0:Nat) < 3 by omega,.inr ⟨_,hW.1,?_,?_,?_⟩⟩,fun _=>⟨fun hz=>hz.2.1 rfl,hxu.1⟩⟩
   ·show K.kc.toArray.size=K.ic * 4
    simpa using h.hk
   ·show (qL K.QL ++ K.tl.map SV.v).length≤_
    rw [r0_cs];simp [Kx.kc]
   ·show agL _ _ (qL K.QL ++ K.tl.map SV.v) (K.kc.take (qL K.QL ++ K.tl.map SV.v).length)
    rw [r0_cs,List.take_of_length_le (by simp [Kx.kc])];exact agL.ofv _
  ·refine ⟨⟨show (1:Nat) < 3 by omega,.inr ⟨_,hW.2,?_,?_,?_⟩⟩,fun _=>⟨fun hz=>hz.2.2.1 rfl,hxu.2⟩⟩
   ·show K.xc.toArray.size=K.cx * 4
    simpa using h.hx
   ·show (xr K.pre K.post K.k K.n K.ba K.bl K.bc K.m).length≤_
    rw [xr_len];simp [Kx.xc,Kx.x4];omega
   ·show agL _ _ (xr K.pre K.post K.k K.n K.ba K.bl K.bc K.m) (K.xc.take (xr K.pre K.post K.k K.n K.ba K.bl K.bc K.m).length)
    rw [xr_len,List.take_of_length_le (by simp [Kx.xc,Kx.x4];omega)];refine (agL.ofv _).append ⟨rfl,rfl,rfl,⟨show (0:Nat) < 3 by omega,h.hi,.inl rfl⟩,agL.ofv _⟩
  ·refine ⟨⟨show (2:Nat) < 3 by omega,.inr ⟨arr,ha,hs9,?_,?_⟩⟩,fun _=>⟨fun hz=>hz.2.2.2 rfl,fun hd=>?_⟩⟩
   ·show (kxL L).length≤_
    rw [kxL_len];exact hl
   ·show agL _ _ (kxL L) (arr.toList.take (kxL L).length)
    rw [kxL_len,ht];exact kx_ag L fun e he=>hb_of (hky e he).1 (fun b hb hl=>⟨hl,hb⟩) (hky e he).2
   ·have hd:p=0∨p=1:=hd
    omega
 ·have hdb:=hb.2.2
  have hp1:=hp.2.1;have hp2:=hp.2.2
  match i,j,hi,hj with
  | 0,0,_,_=>exact absurd rfl hij
  | 1,1,_,_=>exact absurd rfl hij
  | 2,2,_,_=>exact absurd rfl hij
  | 0,1,hi,hj=>cases hi;cases hj;exact hdb
  | 1,0,hi,hj=>cases hi;cases hj;exact Ne.symm hdb
  | 0,2,hi,hj=>cases hi;cases hj;exact Ne.symm hp1
  | 2,0,hi,hj=>cases hi;cases hj;exact hp1
  | 1,2,hi,hj=>cases hi;cases hj;exact Ne.symm hp2
  | 2,1,hi,hj=>cases hi;cases hj;exact hp2
  | i + 3,_,hi,_=>simp at hi
  | 0,j + 3,_,hj=>simp at hj
  | 1,j + 3,_,hj=>simp at hj
  | 2,j + 3,_,hj=>simp at hj
end Kx
section
variable {K:Kx} (hK:K.Ok)
include hK
set_option maxHeartbeats 8000000 in
theorem phB {w1 w:World} {ys:List It} (hm4:K.m≤1000) (hev:K.m % 2=0) (hyl:ys.length=K.m) (hW:K.W w1) (hE:Env w1) {Post:Exit→Act→World→Prop}
 (hnext:∀ a w2 p c (arr:Array Value) (L L':List KX),FrS [] w1 w2→K.W w2→Env w2→w1.heap.size≤p→L.length=K.m / 2→MtP ys K.QL L (K.m / 2)→L'.Perm L→(L'.Pairwise fun a b=>It.cmpB a.kb b.kb≤0)→
  Rel XU (K.e3 w2 p c) ⟨[(0,.ptr 1001 1 K.pre.length),(4,.own 1002 2 (K.m / 2) 9)],[(1000,K.r0),(1001,K.r1),(1002,r2x L')],3,[],114⟩ a w2→(sB (sB (sB (sB (sB (sB k102)))))).wp Tryd.prog Post a w2)
 {a:Act} {ver u:Nat} (hr:Rel (XB w1 K.d K.blk) (K.en w1) ⟨[(0,.ptr 1001 1 K.pre.length),(4,.own 900 ver (K.m / 2) 9)],[(900,⟨ver,94,9,pL w1.heap.size (pxs ys K.QL (K.m / 2))⟩),(1000,K.r0),(1001,K.r1)],u,[],114⟩ a w):(sB (sB (sB (sB (sB k102))))).wp Tryd.prog Post a w:=by
 have hi:=hK.hi;have hm:=hK.hm;have h0:=hK.h0;have hb:=hK.hd;refine wp_seq (wp_region_list ?_);refine chain_at 1 (fun σ=>Fits σ ⟨[(0,.ptr 1001 1 K.pre.length),(4,.own 900 ver (K.m / 2) 9),(72,.own 900 ver (K.m / 2) 9)],[(900,⟨ver,94,9,pL w1.heap.size (pxs ys K.QL (K.m / 2))⟩),(1000,K.r0),(1001,K.r1)],u,[],114⟩) ?_ hr ?_
 ·go_simp
 ·intro σ a w hf hr
  replace hr:=hr.fits hf
  obtain ⟨hW1,hF1⟩:=Kx.back hK hW hr rfl rfl;have hE1:=hF1.env (by simp) hE;have hr0:=hr;obtain ⟨hd1,hs1,g,hfr,hI⟩:=hr;obtain ⟨hA,hka,hv⟩:=hfr 72;obtain ⟨hA4,_,hv4⟩:=hfr 4;have hk0:g.ka ver≠0:=by omega
  have hv:a.tmps.getD 72 undef=.slice (some ⟨g.mu ver,0,none⟩) (K.m / 2) (g.ka ver):=hv.resolve_right fun h=>hk0 h.1
  have hv4:a.tmps.getD 4 undef=.slice (some ⟨g.mu ver,0,none⟩) (K.m / 2) (g.ka ver):=hv4.resolve_right fun h=>hk0 h.1
  obtain ⟨_,h00⟩:=hfr 0;have e0:g.mu 0=K.d∧g.ka 0=K.ic:=(hI.le.a 0 (show (0:Nat) < 2 by omega)).2;have e1:g.mu 1=K.blk∧g.ka 1=K.cx:=(hI.le.a 1 (show (1:Nat) < 2 by omega)).2;have hc0:K.cx≠0:=by
   have:=hK.hx;have e:K.xc.length=K.pre.length + (4 + K.post.length):=by simp [Kx.xc,Kx.x4];omega
   omega
  have hpd:g.mu ver≠K.d:=by
   have:=hI.apart 900 1000 ⟨ver,94,9,pL w1.heap.size (pxs ys K.QL (K.m / 2))⟩ K.r0 rfl rfl (by omega) hk0 (show g.ka 0≠0 by omega);rwa [show g.mu K.r0.ver=K.d from e0.1] at this
  have hpb:g.mu ver≠K.blk:=by
   have:=hI.apart 900 1001 ⟨ver,94,9,pL w1.heap.size (pxs ys K.QL (K.m / 2))⟩ K.r1 rfl rfl (by omega) hk0 (show g.ka 1≠0 by omega);rwa [show g.mu K.r1.ver=K.blk from e1.1] at this
  have hpz:¬ g.Z (g.mu ver):=hI.free 900 ⟨ver,94,9,pL w1.heap.size (pxs ys K.QL (K.m / 2))⟩ rfl rfl hk0;have hpn:w1.heap.size≤g.mu ver:=by
   rcases hI.mine 900 ⟨ver,94,9,pL w1.heap.size (pxs ys K.QL (K.m / 2))⟩ rfl hk0 with h | h
   ·exact h
   ·omega
  have hrow:=hI.row 900 ⟨ver,94,9,pL w1.heap.size (pxs ys K.QL (K.m / 2))⟩ rfl;obtain ⟨_,⟨hk,_⟩ | ⟨arr,a1,a2,a3,a4⟩⟩:=hrow
  ·exact absurd hk hk0
  replace a1:w.heap[g.mu ver]?=some (.cells arr 94 (0,0)):=a1
  replace a2:arr.size=g.ka ver * 9:=a2
  replace a3:(pL w1.heap.size (pxs ys K.QL (K.m / 2))).length≤arr.size:=a3
  replace a4:agL g w (pL w1.heap.size (pxs ys K.QL (K.m / 2))) (arr.toList.take (pL w1.heap.size (pxs ys K.QL (K.m / 2))).length):=a4
  rw [pL_len,pxs_len] at a3 a4;obtain ⟨L,b1,b2,b3⟩:=pL_kx hpz _ _ a4;have hLl:L.length=K.m / 2:=by
   have:=congrArg List.length b2;rwa [List.length_map,List.length_map,pxs_len] at this
  have hMt:MtP ys K.QL L (K.m / 2):=fun t ht=>by
   have:=congrArg (fun l=>l[t]?) b2;simp only [List.getElem?_map] at this;rw [List.getElem?_eq_getElem (show t < L.length by omega),List.getElem?_eq_getElem (show t < (pxs ys K.QL (K.m / 2)).length by rw [pxs_len];omega)] at this;simp only [Option.map_some,Option.some.injEq,Prod.mk.injEq] at this;obtain ⟨c1,c2,c3⟩:=this;have ep:(pxs ys K.QL (K.m / 2))[t]'(by rw [pxs_len];omega)=pxAt ys K.QL t:=by simp [pxs]
   rw [ep] at c1 c2 c3;unfold pxAt at c1 c2 c3;rw [List.getElem?_eq_getElem (show 2 * t < ys.length by omega)] at c1;rw [List.getElem?_eq_getElem (show 2 * t < K.QL.length by omega)] at c2;rw [List.getElem?_eq_getElem (show 2 * t + 1 < K.QL.length by omega)] at c3;exact ⟨L[t],ys[2 * t],K.QL[2 * t],K.QL[2 * t + 1],List.getElem?_eq_getElem (by omega),List.getElem?_eq_getElem (by omega),List.getElem?_eq_getElem (by omega),List.getElem?_eq_getElem (by omega),c1,c2,c3⟩
  refine wp_callV (f:=50) rfl rfl Tryd.call50 ?_;rw [show Array.map a.eval #[Operand.tmp 72,Operand.func 51]=#[.slice (some ⟨g.mu ver,0,none⟩) (K.m / 2) (g.ka ver),.func (.func 51) #[] #[]] by simp [Act.eval,hv]];have hsrt:=sort_X (L:=L) (w:=w) (p:=g.mu ver) (c:=g.ka ver) a1 (by rw [hLl];exact b1) (by rw [hLl];exact a3) (by omega) fun e he=>⟨(b3 e he).1.1,(b3 e he).1.2.1,fun i hi=>by
   obtain ⟨b,o,x1,x2,x3⟩:=(b3 e he).1.2.2 i hi;exact ⟨b,o,x1,x2.1,x3⟩⟩
  rw [hLl] at hsrt;refine Calls.mono hsrt ?_;rintro en w2 ⟨rfl,L',hperm,hso,⟨arr',s1,s2,s3⟩,hsz,hkp,hio⟩;have hL'l:=hperm.length_eq;refine ⟨.tuple #[],rfl,?_⟩;have hdl:K.d < w.heap.size:=lb hW1.1;have hbl:K.blk < w.heap.size:=lb hW1.2;have hW2:K.W w2:=⟨(hkp _ hdl (Ne.symm hpd)).trans hW1.1,(hkp _ hbl (Ne.symm hpb)).trans hW1.2⟩;have hF2:FrS [] w1 w2:=.of (Nat.le_trans hF1.size hsz) (fun b hb=>(hkp b (Nat.lt_of_lt_of_le hb hF1.size) (by omega)).trans (hF1.keep b hb (by simp))) ⟨hio.1.trans hF1.io.1,hio.2.1.trans hF1.io.2.1,hio.2.2.trans hF1.io.2.2⟩ _;have hE2:=hF2.env (by simp) hE;have hput:=(hr0.put (dst:=some 73) (show (73:Nat) < 114 by omega) (.tuple #[]));have hpt:∀ d,d≠73→(a.put (some 73) (.tuple #[])).tmps.getD d undef=a.tmps.getD d undef:=fun d hd=>by
   simp [Act.put,Array.getElem?_setIfInBounds,Ne.symm hd]
  have hE1s:2≤w1.heap.size:=by have:=lb hW.1;omega
  have hr2:=Kx.rel3 hK hW2 hE2 (p:=g.mu ver) (c:=g.ka ver) (L:=L') (fr:=[(0,.ptr 1001 1 K.pre.length),(4,.own 1002 2 (K.m / 2) 9)]) ⟨by omega,hpd,hpb⟩ s1 (s2.trans a2) (by rw [hL'l,hLl,s2];exact a3) (by rw [hL'l,hLl];exact s3) (fun e he=>by
   have:=b3 e (hperm.mem_iff.1 he);refine ⟨⟨rfl,this.1.2.1,fun i hi=>?_⟩,this.2⟩;obtain ⟨b,o,x1,x2,x3⟩:=this.1.2.2 i hi;have hd2:=lb hW.1;have hb2:=lb hW.2;exact ⟨b,o,x1,⟨by omega,by omega,x2.1⟩,(cell_eq (hkp b (cell_lt x3) x2.1) _).trans x3⟩) hput.1 hput.2.1 (fun d=>?_)
  ·exact hnext _ w2 _ _ arr' L L' hF2 hW2 hE2 hpn hLl hMt hperm hso hr2
  ·rw [show Am.look [(0,SV.ptr 1001 1 K.pre.length),(4,.own 1002 2 (K.m / 2) 9)] d=if 0=d then .ptr 1001 1 K.pre.length else if 4=d then .own 1002 2 (K.m / 2) 9 else .any from rfl]
   split
   ·rename_i h;subst h
    rw [hpt 0 (by omega)];exact ⟨show (1:Nat) < 3 by omega,by rw [h00,e1.1];rfl⟩
   ·split
    ·rename_i h;subst h
     rw [hpt 4 (by omega)];exact ⟨show (2:Nat) < 3 by omega,hka,.inl hv4⟩
    ·trivial
end
def wrX (L:List KX) (QL:List Qd) (i:Nat):List Qd:=(L.take i).flatMap (fun e=>[e.q1,e.q2]) ++ QL.drop (2 * i)
theorem wrX_zero (L:List KX) (QL:List Qd):wrX L QL 0=QL:=by simp [wrX]
theorem two_len (L:List KX):(L.flatMap fun e=>[e.q1,e.q2]).length=2 * L.length:=by
 induction L with
 | nil=>rfl
 | cons e L ih=>rw [List.flatMap_cons,List.length_append,ih];simp;omega
theorem wrX_len {L:List KX} {QL:List Qd} {i:Nat} (h:2 * L.length=QL.length) (hi:i≤L.length):(wrX L QL i).length=QL.length:=by
 unfold wrX;rw [List.length_append,two_len,List.length_take,List.length_drop];omega
theorem wrX_succ {L:List KX} {QL:List Qd} {i:Nat} (h:2 * L.length=QL.length) (hi:i < L.length):((wrX L QL i).set (2 * i) L[i].q1).set (2 * i + 1) L[i].q2=wrX L QL (i + 1):=by
 have hl:((L.take i).flatMap fun e=>[e.q1,e.q2]).length=2 * i:=by rw [two_len,List.length_take];omega
 unfold wrX;rw [List.set_append_right _ _ (by omega),List.set_append_right _ _ (by omega),hl,Nat.sub_self,show 2 * i + 1 - 2 * i=1 by omega];rw [List.drop_eq_getElem_cons (show 2 * i < QL.length by omega),List.drop_eq_getElem_cons (show 2 * i + 1 < QL.length by omega)];rw [List.take_succ_eq_append_getElem hi,List.flatMap_append,show 2 * (i + 1)=2 * i + 1 + 1 by omega,List.append_assoc]
 rfl
theorem kxL_dt {l:List KX} {i:Nat} (h:i < l.length):((kxL l).drop (i * 9)).take 9=kxc l[i]:=by
 rw [kxL_drop l i h];rfl
theorem kxL_at {l:List KX} {i:Nat} (h:i < l.length):(kxL l)[i * 9]?=some (bsl l[i].kb):=by
 have h1:((kxL l).drop (i * 9))[0]?=(kxL l)[i * 9]?:=by rw [List.getElem?_drop,Nat.add_zero]
 rw [← h1,kxL_drop l i h];rfl
theorem qL_put (l:List Qd) (q:Qd) (i:Nat) (T:List SV) (h:i < l.length):List.take (i * 4) (qL l ++ T) ++ .v (.int .i64 q.k) :: .v (.int .u64 q.n) :: .v (.slice q.A.ab q.A.nb q.A.cb) :: .v (.slice q.A.ai q.A.ni q.A.ci) :: List.drop (i * 4 + 4) (qL l ++ T)=qL (l.set i q) ++ T:=by
 have:=qL_ovw l q i T h;unfold ovw at this;rw [List.append_assoc] at this;exact this
def PcQ (K:Kx) (L:List KX) (en:Exit) (τ:AS):Prop:=en=.ret∧((∃ QX u,QX.length=K.m∧(∃ (i:Nat) (h:i + 1 < L.length),L[i].kb=L[i + 1].kb)∧Fits τ ⟨[(2,bov false)],[(1000,rK QX K.tl),(1001,K.r1)],u,[],114⟩)∨
 (∃ u,(∀ (i:Nat) (h:i + 1 < L.length),L[i].kb≠L[i + 1].kb)∧Fits τ ⟨[(2,bov true)],[(1000,rK (wrX L K.QL L.length) K.tl),(1001,K.r1)],u,[],114⟩))
def ApP (L:List KX) (i:Nat):Prop:=i≤L.length∧∀ (t:Nat) (h:t + 1 < L.length),t + 1 < i→L[t].kb≠L[t + 1].kb
section
variable {K:Kx} (hK:K.Ok)
include hK
set_option maxHeartbeats 8000000 in
theorem phC {w2:World} {p c:Nat} {L:List KX} (hm4:K.m≤1000) (hev:K.m % 2=0) (hL:L.length=K.m / 2):AW Tryd.prog XU (K.e3 w2 p c) (sB (sB (sB (sB (sB (sB k102)))))) (PcQ K L) ⟨[(0,.ptr 1001 1 K.pre.length),(4,.own 1002 2 (K.m / 2) 9)],[(1000,K.r0),(1001,K.r1),(1002,r2x L)],3,[],114⟩:=by
 have hi:=hK.hi;have hm:=hK.hm;have h2l:=dh (show 2 * L.length=K.QL.length by omega);have hmL:=dh (show K.m=2 * L.length by omega);rw [← hL];clear hL;refine sqc ?_;go_simp
 refine lp (α:=Nat × Nat) (fun x=>Hid (ApP L x.2)) (fun x=>⟨[(0,.ptr 1001 1 K.pre.length),(4,.own 1002 2 L.length 9),(74,.own 1002 2 L.length 9),(75,iv L.length),(76,iv x.2)],[(1000,rK (wrX L K.QL x.2) K.tl),(1001,K.r1),(1002,r2x L)],x.1,[],114⟩) (fun x=>L.length - x.2) [] [] (3,0) ?_ ?_
 ·go_simp
  exact ⟨dh ⟨Nat.zero_le _,fun t _ h=>by omega⟩,by rw [wrX_zero]⟩
 ·rintro ⟨u,i⟩ hap
  replace hap:Hid (ApP L i):=hap
  have hil:i≤L.length:=hap.out.1;have hl5:L.length≤500:=by have:=hmL.out;omega
  dsimp only
  refine sqc ?_;go_simp;refine sqc ?_;go_simp;refine ifd (fun h=>?_) (fun h=>?_)
  ·have eK:((kxL L).drop (i * 9)).take 9=kxc L[i]:=kxL_dt h
   have eN:i * 9 + 9≤L.length * 9:=by omega
   go_simp
   refine sqA (blk ?_);refine sqc ?_;go_simp;refine ct (α:=Unit) (fun _=>Hid (ApP L (i + 1))) (fun _=>⟨[(0,.ptr 1001 1 K.pre.length),(4,.own 1002 2 L.length 9),(74,.own 1002 2 L.length 9),(75,iv L.length),(76,iv i),(8,iv i),(9,.ptr 9 u 0)],[(1000,rK (wrX L K.QL i) K.tl),(1001,K.r1),(1002,r2x L),(9,⟨u,94,9,kxc L[i]⟩)],u + 1 + 1,[],114⟩) [] (gw ?_) ?_
   ·go_simp
    rcases Nat.eq_zero_or_pos i with h0 | h0
    ·subst h0
     refine rg hmx (by kernel_rfl) ?_;go_simp
     exact dh ⟨h,fun t _ ht=>by omega⟩
    ·obtain ⟨t,rfl⟩:∃ t,i=t + 1:=⟨i - 1,by omega⟩
     have ht:t < L.length:=by omega
     have ew:IntKind.i64.wrap (t:Int)=(t:Int):=Go.IntWalk.i64_in _ (by omega);have eg:∀ hh:t * 9 < (kxL L).length,(kxL L)[t * 9]'hh=bsl L[t].kb:=fun hh=>by
      have:=kxL_at ht;rw [List.getElem?_eq_getElem hh] at this;exact Option.some.inj this
     have ex:t * 9 + 1≤L.length * 9:=by omega
     refine rg hmx (by kernel_rfl) ?_;go_simp
     refine cl [] [] (equal_c XU L[t].kb L[t + 1].kb) (by go_simp <;> kernel_rfl) ?_
     rintro r rows ⟨rfl,rfl⟩;by_cases he:L[t].kb=L[t + 1].kb
     ·have hd:decide (L[t].kb=L[t + 1].kb)=true:=decide_eq_true he
      rw [hd];have HE:=dh he;clear he hd;go_simp
      refine ⟨rfl,.inl ⟨wrX L K.QL (t + 1),u + 1 + 1,by rw [wrX_len h2l.out hil];exact hm,⟨t,h,HE.out⟩,?_⟩⟩;go_simp
     ·have hd:decide (L[t].kb=L[t + 1].kb)=false:=decide_eq_false he
      rw [hd];have HE:=dh he;clear he hd;go_simp
      refine dh ⟨h,fun s hs hs2=>?_⟩;rcases Nat.lt_or_ge (s + 1) (t + 1) with h1 | h1
      ·exact hap.out.2 s hs h1
      ·obtain rfl:s=t:=by omega
       exact HE.out
   ·rintro - hap2
    replace hap2:Hid (ApP L (i + 1)):=hap2
    have hW:=wrX_len h2l.out hil;have h2i:2 * i < (wrX L K.QL i).length:=by have:=h2l.out;omega
    have h2j:2 * i + 1 < ((wrX L K.QL i).set (2 * i) L[i].q1).length:=by have:=h2l.out;rw [List.length_set];omega
    have HS:=dh (wrX_succ h2l.out h);have es1:=qL_put (wrX L K.QL i) L[i].q1 (2 * i) (K.tl.map SV.v) h2i;have es2:=qL_put ((wrX L K.QL i).set (2 * i) L[i].q1) L[i].q2 (2 * i + 1) (K.tl.map SV.v) h2j;have em:IntKind.i64.wrap (2 * (i:Int))=2 * (i:Int):=Go.IntWalk.i64_in _ (by omega);have en:IntKind.i64.wrap (2 * (i:Int) + 1)=2 * (i:Int) + 1:=Go.IntWalk.i64_in _ (by omega);have et:(2 * (i:Int)).toNat=2 * i:=by omega
    have eu:(2 * (i:Int) + 1).toNat=2 * i + 1:=by omega
    have ef:K.pre.length + 3 + 1≤K.pre.length + (4 + K.post.length):=by omega
    refine gw ?_;go_simp
    refine rg hmx (by kernel_rfl) ?_;go_simp
    have hk2:=hmL.out;refine ⟨by omega,by omega,by omega,by omega,by kernel_rfl,?_⟩;rw [HS.out];refine gw ?_;go_simp
    exact ⟨_,i + 1,hap2,by omega,Nat.le_refl _,by rw [Go.IntWalk.i64_in _ (by omega)];omega,rfl⟩
  ·obtain rfl:i=L.length:=by omega
   go_simp
   refine gw ?_;go_simp
   refine ⟨rfl,.inr ⟨u,fun t ht=>hap.out.2 t ht ht,?_⟩⟩;go_simp
end
theorem ret102 {X:Ev} {e:En} {a:Act} {w:World} {b:Bool} {hp:List (Nat × Row)} {u:Nat} (h:Rel X e ⟨[(2,bov b)],hp,u,[],114⟩ a w):a.defers=[]∧∃ v,(results Tryd.f24 a.tmps).run Tryd.prog w=.ok v w∧v=.bool b:=by
 obtain ⟨hd,hs,g,hf,hI⟩:=h;obtain ⟨v,h1,h2⟩:=run_results (P:=Tryd.prog) (fn:=Tryd.f24) hf hI ⟨trivial,trivial⟩;exact ⟨hd,v,h1,h2⟩
theorem sorted_nil {w:World} (hE:Env w) {blk off:Nat} {k:Int} {n:Nat} {ba ia:Option Addr} {bl bc ic:Nat} {arr:Array Value} (hic:ic≤9223372036854775807) (h1:w.heap[blk]?=some (.cells arr 31 (0,0))) (hv:(arr.toList.drop off).take 4=[.int .i64 k,.int .u64 (n:Int),.slice ba bl bc,.slice ia 0 ic]):Calls Tryd.prog 24 #[.pointer (some ⟨blk,off,none⟩)] w fun e w'=>e=.returned (.bool true)∧FrS [] w w':=by
 refine calls_of_wp Tryd.func24 (c:=k102) rfl ?_;have hrel:Rel XU ⟨w,⟨fun b=>b=blk,fun _=>False,fun _=>0,fun _=>0⟩,[]⟩ ⟨[(0,.rp (xC k n ba bl bc 0 []))],[],0,[],114⟩ { tmps:=#[.pointer (some ⟨blk,off,none⟩)] ++ Array.replicate (Tryd.f24.ntmps - 1) undef,defers:=[] } w:=by
  refine rel_new [] rfl rfl (by simp [Tryd.ntmps24]) (fun d=>?_) (fun b hb=>?_) (fun u hu=>hu.elim) (fun u hu=>hu.elim) hE (fun r hr=>by cases hr) (fun i j r q hr=>by simp at hr)
  ·rw [show Am.look [(0,SV.rp (xC k n ba bl bc 0 []))] d=if 0=d then .rp (xC k n ba bl bc 0 []) else .any from rfl]
   split
   ·rename_i h;subst h
    have:=xC_holds (g:=⟨fun b=>b=blk,fun _=>False,fun _=>0,fun _=>0⟩) (w:=w) (QL:=[]) h1 hv rfl rfl ⟨Nat.zero_le _,hic⟩ (.inl rfl);simpa using this
   ·trivial
  ·rw [show b=blk from hb];exact lb h1
 refine aw_gen hrel (fun en τ=>en=.ret∧∃ u,Fits τ ⟨[(2,bov true)],[],u,[],114⟩) ?_ ?_
 ·have hsn:=AC.pure1 (P:=Tryd.prog) (X:=XU) (f:=50) (v:=.tuple #[]) [.slice none 0 0,.func (.func 51) #[] #[]] Tryd.call50 fun w=>(sort_none none 0 w).mono fun e w' h=>⟨h.1,h.2.symm⟩
  refine sqc ?_;go_simp;refine sqc ?_;go_simp;refine lp (α:=Unit) (fun _=>True) (fun _=>⟨[(0,.rp (xC k n ba bl bc 0 [])),(14,iv 0),(15,iv 0)],[],0,[],114⟩) (fun _=>0) [] [] () ?_ ?_
  ·go_simp
  ·rintro - -
   refine gw ?_;go_simp
   refine sqc ?_;by_cases h5:k=5
   ·subst h5
    go_simp
    refine sqc ?_;go_simp;refine sqc ?_;go_simp;refine lp (α:=Unit) (fun _=>True) (fun _=>⟨[(0,.rp (xC 5 n ba bl bc 0 [])),(4,.v (.slice none 0 0)),(5,iv 0)],[],0,[],114⟩) (fun _=>0) [] [] () ?_ ?_
    ·go_simp
    ·rintro - -
     refine gw ?_;go_simp
     refine sqc ?_;go_simp;refine cl [] [] hsn (by go_simp) ?_;rintro r rows ⟨rfl,rfl⟩;go_simp
     refine sqc ?_;go_simp;refine lp (α:=Unit) (fun _=>True) (fun _=>⟨[(74,.v (.slice none 0 0)),(75,iv 0),(76,iv 0)],[],0,[],114⟩) (fun _=>0) [] [] () ?_ ?_
     ·go_simp
     ·rintro - -
      refine gw ?_;go_simp
      refine gw ?_;go_simp
   ·go_simp
 ·rintro en τ a w' ⟨rfl,u,hf⟩ hr
  have hr:=hr.fits hf;obtain ⟨h1,v,h2,rfl⟩:=ret102 hr;have:=hr.frame rfl;exact ⟨h1,_,h2,rfl,.of this.1 this.2.1 this.2.2 _⟩
theorem Kx.back3 {K:Kx} (h:K.Ok) {w w':World} {p c:Nat} (hp:p≠K.d∧p≠K.blk) (hW:K.W w) {σ:AS} {a:Act} {QX:List Qd} (hQ:QX.length=K.m) (hr:Rel XU (K.e3 w p c) σ a w') (h0:lookR σ.hp 1000=some (rK QX K.tl)) (h1:lookR σ.hp 1001=some K.r1):
 w'.heap[K.d]?=some (.cells (QX.flatMap qv ++ K.tl).toArray 31 (0,0))∧w'.heap[K.blk]?=w.heap[K.blk]?∧(∀ b,b < w.heap.size→b≠K.d→b≠p→w'.heap[b]?=w.heap[b]?)∧w.heap.size≤w'.heap.size∧(w'.os=w.os∧w'.tape=w.tape∧w'.output=w.output):=by
 obtain ⟨_,_,g,hf,hI⟩:=hr;have hi0:K.ic≠0:=by have:=h.h0;have:=h.hi;omega
 have hc0:K.cx≠0:=by
  have:=h.hx;have e:K.xc.length=K.pre.length + (4 + K.post.length):=by simp [Kx.xc,Kx.x4];omega
  omega
 have e0:g.A 0∧g.mu 0=K.d∧g.ka 0=K.ic:=hI.le.a 0 (show (0:Nat) < 3 by omega);have e1:g.A 1∧g.mu 1=K.blk∧g.ka 1=K.cx:=hI.le.a 1 (show (1:Nat) < 3 by omega);have hqq:(qL QX ++ K.tl.map SV.v).length=K.ic * 4:=by
  have h2:=h.hk;unfold Kx.kc at h2;rw [List.length_append,qvs_len,h.hm] at h2;rw [List.length_append,qL_len,hQ,List.length_map];omega
 have hblk:w'.heap[K.blk]?=w.heap[K.blk]?:=by
  obtain ⟨_,⟨hk,_⟩ | ⟨arr,a1,a2,a3,a4⟩⟩:=hI.row 1001 _ h1
  ·have hk:g.ka 1=0:=hk
   omega
  ·have a1:w'.heap[g.mu 1]?=some (.cells arr 31 (0,0)):=a1
   have a2:arr.size=g.ka 1 * 4:=a2;have a4:agL g w' (xr K.pre K.post K.k K.n K.ba K.bl K.bc K.m) (arr.toList.take (xr K.pre K.post K.k K.n K.ba K.bl K.bc K.m).length):=a4;rw [xr_len,List.take_of_length_le (by have h1:=h.hx;simp only [Kx.xc,Kx.x4,List.length_append,List.length_cons,List.length_nil] at h1;rw [Array.length_toList];omega)] at a4;have a5:=agE (w:=w) (vs:=K.xc) (g:=K.g fun _=>False) hi0 ⟨e0.2.1,e0.2.2⟩ (xr_ex ..) (Kx.ag1 h _ w) a4;rw [← e1.2.1,a1,e1.2.1,hW.2,a5]
 refine ⟨?_,hblk,fun b hb hbd hbp=>?_,hI.size,hI.io⟩
 ·obtain ⟨_,⟨hk,_⟩ | ⟨arr,a1,a2,a3,a4⟩⟩:=hI.row 1000 _ h0
  ·have hk:g.ka 0=0:=hk
   omega
  ·have a1:w'.heap[g.mu 0]?=some (.cells arr 31 (0,0)):=a1
   have a2:arr.size=g.ka 0 * 4:=a2;have a4:agL g w' (qL QX ++ K.tl.map SV.v) (arr.toList.take (qL QX ++ K.tl.map SV.v).length):=a4;rw [hqq,List.take_of_length_le (by rw [Array.length_toList];omega),r0_cs] at a4;have a5:=agL_v a4;rw [← e0.2.1,a1,← a5]
 ·by_cases hbx:b=K.blk
  ·rw [hbx,hblk]
  refine hI.keep b hb fun u hu _=>?_
  rcases List.mem_cons.1 hu with rfl | hu
  ·exact hbd
  ·rcases List.mem_cons.1 hu with rfl | hu
   ·exact hbx
   ·rcases List.mem_cons.1 hu with rfl | hu
    ·exact hbp
    ·cases hu
theorem qv_u8 (q:Qd) (i:Nat) (v:Int):(qv q)[i]?≠some (.int .u8 v):=by
 match i with
 | 0=>simp [qv]
 | 1=>simp [qv]
 | 2=>simp [qv]
 | 3=>simp [qv]
 | i + 4=>simp [qv]
theorem qvs_u8:∀ (l:List Qd) (i:Nat) (v:Int),(l.flatMap qv)[i]?≠some (.int .u8 v)
 | [],i,v=>by simp
 | q :: l,i,v=>by
   rw [List.flatMap_cons];rcases Nat.lt_or_ge i 4 with h | h
   ·rw [List.getElem?_append_left (by rw [qv_len];exact h)];exact qv_u8 q i v
   ·rw [List.getElem?_append_right (by rw [qv_len];exact h)];exact qvs_u8 l _ v
theorem two_qv (L:List KX):(L.flatMap fun e=>[e.q1,e.q2]).flatMap qv=L.flatMap fun e=>qv e.q1 ++ qv e.q2:=by
 induction L with
 | nil=>rfl
 | cons e L ih=>rw [List.flatMap_cons,List.flatMap_cons,List.flatMap_append,ih];simp
theorem wrX_all {L:List KX} {QL:List Qd} (h:QL.length=2 * L.length):(wrX L QL L.length).flatMap qv=L.flatMap fun e=>qv e.q1 ++ qv e.q2:=by
 unfold wrX;rw [List.take_length,← h,List.drop_length,List.append_nil,two_qv]
theorem srt_none {k:Int} {n:Nat} {b:List UInt8} {ks:List It} (h:It.srts ks=none):It.srt (.mk k n b ks)=none:=by rw [It.srt,h]
theorem srt_ne {k:Int} {n:Nat} {b:List UInt8} {ks ys:List It} (h:It.srts ks=some ys) (hk:k≠5):It.srt (.mk k n b ks)=some (.mk k n b ys):=by rw [It.srt,h];simp only;rw [if_neg hk]
theorem srt_map {n:Nat} {b:List UInt8} {ks ys:List It} (h:It.srts ks=some ys):It.srt (.mk 5 n b ks)=(It.mapC ys).map (.mk 5 n b ·):=by rw [It.srt,h];simp
theorem twi_put {Z:Nat→Prop} {w0 w':World} {k:Int} {n:Nat} {b:List UInt8} {ys:List It} {ba:Option Addr} {bc ic d m:Nat} {QX:List Qd} {tl:List Value} {S' S2:List Nat} (hbc:b.length≤bc∧bc≤9223372036854775807) (hb:TWb Z w0 b ba) (hu:U8 w0 w') (hic:m≤ic∧ic≤9223372036854775807) (hd:Z d) (hc:w'.heap[d]?=some (.cells (QX.flatMap qv ++ tl).toArray 31 (0,0))) (hs:(QX.flatMap qv ++ tl).length=ic * 4) (hQ:QX.length=m) (hy:ys.length=m) (hT:TWl (fun b=>Z b∧b≠d) w' ys (QX.flatMap qv) S') (hp:S'.Perm S2):
 ∃ S'':List Nat,S''.Perm (d :: S2)∧TWi Z w' (.mk k n b ys) [.int .i64 k,.int .u64 (n:Int),.slice ba b.length bc,.slice (some ⟨d,0,none⟩) m ic] S'':=by
 refine ⟨d :: S',hp.cons d,?_⟩;unfold TWi;refine ⟨ba,bc,some ⟨d,0,none⟩,ic,by rw [hy],hbc,hb.keep hu,by rw [hy];exact hic,.inr ⟨d,_,S',rfl,hd,hc,by simpa using hs,?_,rfl⟩⟩;have:((QX.flatMap qv ++ tl).toArray.toList).take (ys.length * 4)=QX.flatMap qv:=by
  show (QX.flatMap qv ++ tl).take _=_
  rw [List.take_append_of_le_length (by rw [qvs_len];omega),List.take_of_length_le (by rw [qvs_len];omega)]
 rw [this];exact hT
set_option maxHeartbeats 8000000 in
theorem sorted_step (M:Nat) (ih:SoK M):SoK (M + 1):=by
 rintro ⟨k,n,bs,ks⟩ hM hsv hfit Z w0 blk off vs S hE hT hN hS2 hbS hb2 hZ ⟨arrX,capX,hX1,hX2,hX3,hX4⟩;have hT0:=hT;obtain ⟨ba,bc,ia,ic,KV,S2,rfl,hbc,hTb,hic,hcase⟩:=hT.open;obtain ⟨hev,hk1000,hsvs⟩:=hsv;by_cases h0:ks=[]
 ·subst h0
  refine (sorted_nil hE hic.2 hX1 hX4).mono fun e w' ⟨h1,h2⟩=>?_
  refine ⟨h2.mono (by simp),?_⟩;have hs:It.srt (.mk k n bs [])=some (.mk k n bs []):=by
   by_cases h5:k=5
   ·subst h5;rw [srt_map (ys:=[]) rfl];rfl
   ·rw [srt_ne (ys:=[]) rfl h5]
  rw [hs];have hlt:=TWi.lt _ hT0;exact ⟨h1,S,.refl _,TWi.keep h2.u8 _ (fun b hb=>h2.keep b (hlt b hb) (by simp)) hT0⟩
 have hpos:0 < ks.length:=List.length_pos_iff.2 h0;obtain ⟨d,arr,rfl,hd,e2,e3,e4,rfl,hTl⟩:=hcase.resolve_left fun h=>h0 h.1
 obtain ⟨QL,rfl,hQ⟩:=hTl.qds;have hNd:=List.nodup_cons.1 hN;have hdd:=hZ d hd;have htl:QL.flatMap qv ++ arr.toList.drop (ks.length * 4)=arr.toList:=by rw [← e4,List.take_append_drop]
 have hpre:(arrX.toList.take off).length=off:=by rw [List.length_take,Array.length_toList];omega
 have hxx:arrX.toList.take off ++ ([.int .i64 k,.int .u64 (n:Int),.slice ba bs.length bc,.slice (some ⟨d,0,none⟩) ks.length ic] ++ arrX.toList.drop (off + 4))=arrX.toList:=by
  rw [← hX4,← List.drop_drop,List.take_append_drop,List.take_append_drop]
 let K:Kx:=⟨k,n,ba,bs.length,bc,ks.length,ic,capX,d,blk,QL,arr.toList.drop (ks.length * 4),arrX.toList.take off,arrX.toList.drop (off + 4)⟩
 have hkc:K.kc=arr.toList:=htl;have hxc:K.xc=arrX.toList:=hxx;have hK:K.Ok:=⟨hQ,hpos,by rw [hkc,Array.length_toList];exact e3,by rw [hxc,Array.length_toList];exact hX2,hic,hS2 d (by simp),hb2,hdd.2⟩;have hW:K.W w0:=⟨by rw [hkc];exact e2,by rw [hxc];exact hX1⟩;have hKs:(QL.flatMap qv ++ arr.toList.drop (ks.length * 4)).length=ic * 4:=by rw [htl,Array.length_toList];exact e3
 have hoff:K.pre.length=off:=hpre;refine calls_of_wp Tryd.func24 (c:=k102) rfl ?_;have hrel:Rel XU (K.en w0) (K.st [(0,.ptr 1001 1 K.pre.length)]) { tmps:=#[.pointer (some ⟨blk,off,none⟩)] ++ Array.replicate (Tryd.f24.ntmps - 1) undef,defers:=[] } w0:=by
  refine Kx.rel hK hW hE rfl (by simp [Tryd.ntmps24]) fun d=>?_
  rw [show Am.look [(0,SV.ptr 1001 1 K.pre.length)] d=if 0=d then .ptr 1001 1 K.pre.length else .any from rfl]
  split
  ·rename_i h;subst h
   exact ⟨show (1:Nat) < 2 by omega,by rw [hoff];simp [gX];rfl⟩
  ·trivial
 refine wp_seq ?_;refine aw_run hrel (K.st [(0,.ptr 1001 1 K.pre.length)]) ?_ fun a w hr=>?_
 ·go_simp
 obtain ⟨hW1,hF1⟩:=Kx.back hK hW hr rfl rfl;have hE1:=hF1.env (by simp) hE
 replace hr:=Kx.again hK hr rfl hW1 hE1
 refine wp_seq ?_;have hfinF:∀ (a:Act) (w:World) {hp:List (Nat × Row)} {u:Nat} {e:En},Rel XU e ⟨[(2,bov false)],hp,u,[],114⟩ a w→FrS (d :: S2) w0 w→It.srt (.mk k n bs ks)=none→bodyPost Tryd.prog Tryd.f24 (SoP Z w0 (It.srt (.mk k n bs ks)) [.int .i64 k,.int .u64 (n:Int),.slice ba bs.length bc,.slice (some ⟨d,0,none⟩) ks.length ic] (d :: S2)) .ret a w:=fun a w hp u e hr hF hs=>by
  obtain ⟨h1,v,h2,rfl⟩:=ret102 hr;exact ⟨h1,_,h2,hF,by rw [hs]⟩
 have hfinT:∀ (a:Act) (w:World) {hp:List (Nat × Row)} {u:Nat} {e:En} {y:It},Rel XU e ⟨[(2,bov true)],hp,u,[],114⟩ a w→FrS (d :: S2) w0 w→It.srt (.mk k n bs ks)=some y→(∃ S'':List Nat,S''.Perm (d :: S2)∧TWi Z w y [.int .i64 k,.int .u64 (n:Int),.slice ba bs.length bc,.slice (some ⟨d,0,none⟩) ks.length ic] S'')→bodyPost Tryd.prog Tryd.f24 (SoP Z w0 (It.srt (.mk k n bs ks)) [.int .i64 k,.int .u64 (n:Int),.slice ba bs.length bc,.slice (some ⟨d,0,none⟩) ks.length ic] (d :: S2)) .ret a w:=fun a w hp u e y hr hF hs hy=>by
  obtain ⟨h1,v,h2,rfl⟩:=ret102 hr;exact ⟨h1,_,h2,hF,by rw [hs];exact ⟨rfl,hy⟩⟩
 refine ph1 hK ih (Z:=fun b=>Z b∧b≠d) (w0:=w0) (ks:=ks) (S2:=S2) hQ hNd.2 (fun b hb=>hS2 b (by simp [hb])) hNd.1 (fun hm=>hbS (List.mem_cons_of_mem _ hm)) (fun b hb=>⟨(hZ b hb.1).1,hb.2⟩) (by
  have h1:It.nodes (.mk k n bs ks)=1 + It.nodesL ks:=by rw [It.nodes]
  rw [h1] at hM;omega) hsvs hfit.2 ?_ ?_ ((L1.zero hTl).keep hF1) hW1 hE1 hr
 ·intro a w hr hF hs
  exact hfinF a w hr (hF.mono fun b hb=>by simp [hb]) (srt_none hs)
 ·intro a w1 hL hW hE hr
  obtain ⟨hF1,ys,S',hys,hTy,hperm⟩:=hL;rw [show K.m=ks.length from rfl,List.take_length] at hys;rw [show K.m=ks.length from rfl,List.drop_length,List.append_nil] at hTy;have hyl:ys.length=ks.length:=It.srts_len hys;have hn':=hperm.nodup_iff.2 hNd.2;by_cases h5:k=5
  ·subst h5
   obtain ⟨hev2,hval⟩:=hev rfl;have hS'Z:∀ b ∈ S',b < w0.heap.size∧b≠d:=fun b hb=>by
    have:=TWl.z _ hTy b hb;exact ⟨(hZ b this.1).1,this.2⟩
   refine phA hK rfl (Z:=fun b=>Z b∧b≠d) (ys:=ys) (S':=S') hTy hn' (fun b hb=>⟨Nat.lt_of_lt_of_le (hZ b hb.1).1 hF1.size,hb.2,(hZ b hb.1).2⟩) hyl hev2 hk1000 (fun y hy=>hval ys hys y hy) hW hE (fun a w ver u hr=>?_) ?_
   ·refine phB hK (ys:=ys) hk1000 hev2 hyl hW hE (fun a w2 p c arr2 L L' hF2 hW2 hE2 hp hLl hMt hpm hso hr=>?_) hr
    have hL'l:L'.length=K.m / 2:=by rw [hpm.length_eq];exact hLl
    have hdl:d < w1.heap.size:=lb hW.1;have hbl:blk < w1.heap.size:=lb hW.2;have hpd:p≠K.d∧p≠K.blk:=⟨fun e=>by have:p=d:=e;omega,fun e=>by have:p=blk:=e;omega⟩;have hTy2:TWl (fun b=>Z b∧b≠d) w2 ys (QL.flatMap qv) S':=by
     have hlt:=TWl.lt _ hTy;exact TWl.keep hF2.u8 _ (fun b hb=>hF2.keep b (hlt b hb) (by simp)) hTy
    obtain ⟨T,t1,t2,t3,t4⟩:=pts_of (ks.length / 2) ys QL L S' (by omega) (by omega) hLl hMt hTy2;obtain ⟨T',p1,p2⟩:=perm_lift hpm T t1;have hTp:(T'.map PT.p).Perm (It.pairsK ys):=t2 ▸ p1.map _;have hok2:∀ t ∈ T',t.ok (fun b=>Z b∧b≠d) w2:=fun t ht=>t4 t (p1.mem_iff.1 ht)
    have hTS:(T'.flatMap PT.S).Perm S':=t3 ▸ p1.flatMap_right _;refine aw_gen hr (PcQ K L') (phC hK hk1000 hev2 hL'l) fun en τ a w3 hq hr=>?_
    obtain ⟨rfl,hq⟩:=hq;have hkc2:w2.heap[d]?=some (.cells (QL.flatMap qv ++ K.tl).toArray 31 (0,0)):=hW2.1;have hpw:w0.heap.size≤p:=Nat.le_trans hF1.size hp;have key:∀ (QX:List Qd) (u:Nat) (bb:Bool),QX.length=ks.length→Fits τ ⟨[(2,bov bb)],[(1000,rK QX K.tl),(1001,K.r1)],u,[],114⟩→Rel XU (K.e3 w2 p c) ⟨[(2,bov bb)],[(1000,rK QX K.tl),(1001,K.r1)],u,[],114⟩ a w3∧FrS (d :: S2) w0 w3∧w3.heap[d]?=some (.cells (QX.flatMap qv ++ K.tl).toArray 31 (0,0))∧(∀ b,b < w2.heap.size→b≠d→b≠p→w3.heap[b]?=w2.heap[b]?):=fun QX u bb hQX hf=>by
     have hr:=hr.fits hf;obtain ⟨c1,c2,c3,c4,c5⟩:=Kx.back3 hK hpd hW2 hQX hr rfl rfl
     replace c1:w3.heap[d]?=some (.cells (QX.flatMap qv ++ K.tl).toArray 31 (0,0)):=c1
     have hu:∀ b o v,b≠p→w2.cell? ⟨b,o,none⟩=some (.int .u8 v)→w3.cell? ⟨b,o,none⟩=some (.int .u8 v):=fun b o v hbp hc=>by
      by_cases hbd:b=d
      ·rw [hbd] at hc ⊢
       rw [cr hkc2] at hc;rw [cr c1];have hc':(QL.flatMap qv ++ K.tl)[o]?=some (.int .u8 v):=by simpa using hc
       show (QX.flatMap qv ++ K.tl).toArray[o]?=_
       rw [List.getElem?_toArray];rcases Nat.lt_or_ge o (4 * ks.length) with ho | ho
       ·rw [List.getElem?_append_left (by rw [qvs_len,hQ];exact ho)] at hc'
        exact absurd hc' (qvs_u8 _ _ _)
       ·rw [List.getElem?_append_right (by rw [qvs_len,hQ];exact ho),qvs_len,hQ] at hc'
        rw [List.getElem?_append_right (by rw [qvs_len,hQX];exact ho),qvs_len,hQX];exact hc'
      ·exact (cell_eq (c3 b (cell_lt hc) hbd hbp) o).trans hc
     have hF02:FrS S2 w0 w2:=hF1.trans hF2 (fun _ h=>h) (fun _ h=>by cases h);refine ⟨hr,⟨Nat.le_trans hF02.size c4,fun b hb hm=>?_,fun b o v hc=>?_,c5.1.trans hF02.io.1,c5.2.1.trans hF02.io.2.1,c5.2.2.trans hF02.io.2.2⟩,c1,c3⟩
     ·have hbd:b≠d:=fun e=>hm (by simp [e])
      exact (c3 b (Nat.lt_of_lt_of_le hb hF02.size) hbd (by omega)).trans (hF02.keep b hb fun h=>hm (by simp [h]))
     ·have hb:b < w0.heap.size:=cell_lt hc
      exact hu b o v (by omega) (hF02.u8 b o v hc)
    subst p2;rcases hq with ⟨QX,u,hQX,⟨i,hi,he⟩,hf⟩ | ⟨u,hne,hf⟩
    ·obtain ⟨hr3,hF3,_,_⟩:=key QX u false hQX hf
     exact hfinF a w3 hr3 hF3 (by rw [srt_map hys,map_twice hTp hok2 hi he];rfl)
    ·have hl2:2 * (T'.map PT.e).length=QL.length:=by rw [hL'l,show K.m=ks.length from rfl];omega
     have hwl:(wrX (T'.map PT.e) QL (T'.map PT.e).length).length=ks.length:=(wrX_len hl2 (Nat.le_refl _)).trans hQ;obtain ⟨hr3,hF3,hc3,hk3⟩:=key (wrX (T'.map PT.e) QL (T'.map PT.e).length) u true hwl hf;have hok3:∀ t ∈ T',t.ok (fun b=>Z b∧b≠d) w3:=fun t ht=>by
      obtain ⟨q1,q2,q3⟩:=hok2 t ht;have hsame:∀ b,(Z b∧b≠d)→w3.heap[b]?=w2.heap[b]?:=fun b hb=>by
       have:=(hZ b hb.1).1;exact hk3 b (Nat.lt_of_lt_of_le this (Nat.le_trans hF1.size hF2.size)) hb.2 (by omega)
      exact ⟨q1,TWi.mono (fun _ h=>h) hsame _ _ _ q2,TWi.mono (fun _ h=>h) hsame _ _ _ q3⟩
     have hT3:=twl_pt T' hok3;rw [← wrX_all hl2.symm] at hT3;refine hfinT a w3 hr3 hF3 (by rw [srt_map hys,map_once hTp hok2 hso hne];rfl) (twi_put (QX:=wrX (T'.map PT.e) QL (T'.map PT.e).length) (tl:=K.tl) hbc hTb hF3.u8 hic hd hc3 ?_ hwl ?_ hT3 (hTS.trans hperm))
     ·rw [List.length_append,qvs_len] at hKs ⊢
      rw [hwl,← hQ];exact hKs
     ·rw [It.flatK_len,List.length_map]
      rw [List.length_map] at hL'l;rw [hL'l,show K.m=ks.length from rfl];omega
   ·obtain ⟨hd',hs',g,hf,hI⟩:=hr
    exact Kx.relX hK (Kx.xb w1) hW ⟨Nat.le_refl _,fun _ _ _=>rfl⟩ hd' hs' fun x=>okS_holds (A:=fun u=>decide (u < 2)) (look_ok (fr:=[(0,.ptr 1001 1 K.pre.length)]) rfl x) (fun u hu=>show u < 2 by simpa using hu) hI.le (hf x)
  ·refine aw_gen (c:=.seq _ _) hr (fun en τ=>en=.ret∧Fits τ (K.st [(2,bov true)])) (gw ?_) fun en τ a w' ⟨he,hf⟩ hr=>?_
   ·have h5':¬ K.k=5:=h5
    clear hoff hpre;go_simp
    omega
   ·subst he
    have hr:=hr.fits hf;obtain ⟨hW',hF'⟩:=Kx.back hK hW hr rfl rfl;have hlt:=TWl.lt _ hTy;have hF:FrS S2 w0 w':=hF1.trans hF' (fun _ h=>h) (fun _ h=>by cases h);exact hfinT a w' hr (hF.mono fun b hb=>by simp [hb]) (srt_ne hys h5) (twi_put hbc hTb hF.u8 hic hd hW'.1 hKs hQ hyl (TWl.keep hF'.u8 _ (fun b hb=>hF'.keep b (hlt b hb) (by simp)) hTy) hperm)
theorem sorted_any:∀ M,SoK M
 | 0=>fun x hx=>by cases x;simp [It.nodes] at hx
 | M + 1=>sorted_step M (sorted_any M)
def RdZ (LB:Nat) (b:List UInt8) (R:Except Nat (Gt × Nat × Nat)) (r:SV) (rows:List Row):Prop:=match R with
 | .error e=>(∃ a,zI a∧r=.tup [.ptr 2000 0 0,a,iv e])∧∃ p it lo bt,rows=[RR 0 (b.take 4096) p it lo bt]
 | .ok (t,p,it)=>∃ S:List Nat,S.Nodup∧(∀ c ∈ S,LB≤c)∧r=.tup [.ptr 2000 0 0,.agg (itz (t.it (b.take 4096)) S),iv 0]∧rows=[RR 0 (b.take 4096) p it t.loose (t.bad (b.take 4096))]
theorem readz_c (LB:Nat) (b:List UInt8) (hb:b.length≤1000000000):AC Tryd.prog (XL LB) 22 [bsl b] [] (RdZ LB b (readP b)):=by
 have hsev:=sev_c (b.take 4096);have hl4:(b.take 4096).length≤4096:=by rw [List.length_take];exact Nat.min_le_left ..
 obtain ⟨R,hR⟩:∃ R,R=readP b:=⟨_,rfl⟩;rw [← hR];have HR:=dh hR;clear hR;refine AC.bodyW true Tryd.func22 rfl Tryd.call22 Tryd.ntmps22 (by simp) fun e nx=>gw ?_
 go_simp
 have e1:(min (b.length:Int) 4096).toNat=(b.take 4096).length:=by rw [List.length_take];omega
 have e2:b.take ((b.take 4096).length)=b.take 4096:=by rw [List.length_take];by_cases h:4096≤b.length;rw [Nat.min_eq_left h];rw [Nat.min_eq_right (by omega),List.take_of_length_le (by omega),List.take_of_length_le (by omega)]
 rw [e1,e2];clear e1 e2;refine ⟨by omega,?_⟩;refine cl [] [14] (itemz_c (b.take 4096) hl4 hsev 600 LB 14 (nx + 1) 0 0 0 false false (by omega) (by omega) (by omega) (by omega)) (by go_simp) ?_;rintro r rows hI;have HR2:gi (b.take 4096) 600 0 0 0 8=R:=HR.out.symm;rw [HR2] at hI;clear HR2;cases R with
 | error e'=>
   obtain ⟨⟨a,⟨kz,rfl⟩,rfl⟩,p2,it2,lo2,bt2,rfl⟩:=hI;go_simp
   refine rg hmx (by kernel_rfl) ?_;go_simp
   rw [show min 4096 b.length=(b.take 4096).length from List.length_take.symm];exact ⟨⟨_,⟨_,rfl⟩,rfl⟩,_,_,_,_,rfl⟩
 | ok y=>
   obtain ⟨t,p2,it2⟩:=y;obtain ⟨⟨a,⟨S,hS1,hS2,rfl⟩,rfl⟩,rfl⟩:=hI;have HS1:=dh hS1;have HS2:=dh hS2;clear hS1 hS2;go_simp
   refine rg hmx (by kernel_rfl) ?_;go_simp
   rw [show min 4096 b.length=(b.take 4096).length from List.length_take.symm];exact ⟨S,HS1.out,HS2.out,rfl,rfl⟩
section
variable {P:Program} {e:En}
theorem AW.xl {c:Code} {Q:Exit→AS→Prop} {σ:AS} (h:AW P (XL e.w0.heap.size) e c Q σ):AW P XU e c Q σ:=fun a w hr=>by
 obtain ⟨hd,hs,g,hf,hI⟩:=hr;refine wp_mono (h a w ⟨hd,hs,g,hf,⟨hI.le,hI.row,hI.apart,hI.free,hI.mine,hI.ver,hI.blk,hI.zlt,hI.znew,hI.keep,hI.size,hI.io,⟨hI.env,hI.size⟩,hI.nd⟩⟩) fun en a w ⟨σ',hq,hr⟩=>?_
 obtain ⟨hd,hs,g,hf,hI⟩:=hr;exact ⟨σ',hq,hd,hs,g,hf,⟨hI.le,hI.row,hI.apart,hI.free,hI.mine,hI.ver,hI.blk,hI.zlt,hI.znew,hI.keep,hI.size,hI.io,hI.env.1,hI.nd⟩⟩
theorem cdA {X:Ev} {c:Operand} {t f:Code} {Q:Exit→AS→Prop} {σ:AS} (h:cnd (fun σ=>AW P X e t Q σ) (fun σ=>AW P X e f Q σ) σ (Am.ev σ.fr c)):AW P X e (.cond c t f) Q σ:=fun a w hr=>by
 have h0:=hr;obtain ⟨hd,hs,g,hf,hI⟩:=hr;have hc:=Rel.ev hf c;generalize Am.ev σ.fr c=s at h hc;unfold cnd at h
 split at h
 ·rename_i b
  have hc:a.eval c=.bool b:=hc;exact wp_cond_split hc (fun hb=>h.1 hb a w h0) (fun hb=>h.2 hb a w h0)
 ·exact h.elim
end
theorem sv_leaf (k:Int) (n:Nat) (b:List UInt8):It.sv (.mk k n b []):=by
 unfold It.sv;exact ⟨fun _=>⟨rfl,fun ys h y hy=>by rw [It.srts] at h;cases h;cases hy⟩,by simp,by unfold It.svs;trivial⟩
theorem Gt.cns_val {b:List UInt8}:∀ {l:List Gt} {ys:List It},Gt.vds b l→Gt.cns b l=some ys→∀ y ∈ ys,y.valid=true
 | [],ys,_,h,y,hy=>by rw [Gt.cns] at h;cases h;cases hy
 | t :: l,ys,hv,h,y,hy=>by
   rw [Gt.cns] at h;cases ht:Gt.cn b t with
   | none=>rw [ht] at h;cases h
   | some z=>
     rw [ht] at h;simp only at h;cases hl:Gt.cns b l with
     | none=>rw [hl] at h;cases h
     | some zs=>
       rw [hl] at h;cases h
       rcases List.mem_cons.1 hy with rfl | hy
       ·have h1:=hv.1
        cases t
        exact h1.2.2.2.1 _ ht
       ·exact Gt.cns_val hv.2 hl y hy
mutual
theorem Gt.sv_it (b:List UInt8):∀ t:Gt,t.ok→t.vd b→(t.it b).sv
 | .mk mj lw a en n sub,⟨h1,h2,h3,h4,h5,h6,h7⟩,⟨v1,v2,v3,v4,v5,v6⟩=>by
   rw [Gt.it]
   split
   ·exact sv_leaf ..
   ·split
    ·exact sv_leaf ..
    ·split
     ·split
      ·exact sv_leaf ..
      ·exact sv_leaf ..
     ·have hv:=v6 (by omega)
      unfold It.sv;refine ⟨fun h=>⟨?_,fun ys hy=>?_⟩,?_,Gt.svs_its b sub h7 hv⟩
      ·rw [Gt.its_len];exact v2 (by omega)
      ·rw [← Gt.cns_srts b sub h7] at hy
       exact Gt.cns_val hv hy
      ·rw [Gt.its_len];omega
theorem Gt.svs_its (b:List UInt8):∀ l:List Gt,Gt.oks l→Gt.vds b l→It.svs (Gt.its b l)
 | [],_,_=>by rw [Gt.its];unfold It.svs;trivial
 | t :: l,h,hv=>by
   rw [Gt.its];unfold It.svs;exact ⟨Gt.sv_it b t h.1 hv.1,Gt.svs_its b l h.2 hv.2⟩
end
mutual
theorem Gt.fits_it (b:List UInt8):∀ t:Gt,t.ok→(t.it b).fits
 | .mk mj lw a en n sub,⟨h1,h2,h3,h4,h5,h6,h7⟩=>by
   rw [Gt.it]
   split
   ·exact ⟨by omega,trivial⟩
   ·split
    ·exact ⟨h3,trivial⟩
    ·split
     ·split
      ·exact ⟨(valP_ok h3 h4 h5).1,trivial⟩
      ·exact ⟨h3,trivial⟩
     ·refine ⟨?_,Gt.fitsL_its b sub h7⟩
      split
      ·exact h3
      ·omega
theorem Gt.fitsL_its (b:List UInt8):∀ l:List Gt,Gt.oks l→It.fitsL (Gt.its b l)
 | [],_=>trivial
 | t :: l,h=>⟨Gt.fits_it b t h.1,Gt.fitsL_its b l h.2⟩
end
abbrev g2x (g:Cx) (w1 w2:World):Cx:=⟨fun b=>g.Z b∨(w1.heap.size≤b∧b < w2.heap.size),g.A,g.mu,g.ka⟩
theorem ok_move {g:Cx} {w w':World} {Z':Nat→Prop} {s:SV} {v:Value} (hs:okS (fun _=>true) s=true) (h:holds g w s v):holds ⟨Z',g.A,g.mu,g.ka⟩ w' s v:=by
 cases s with
 | any=>trivial
 | v x=>exact h
 | ptr s u o=>exact h
 | own s u n k=>exact h
 | _=>cases hs
theorem ok_moves {g:Cx} {w w':World} {Z':Nat→Prop}:∀ {cs:List SV} {vs:List Value},cs.all (okS fun _=>true)=true→agL g w cs vs→agL ⟨Z',g.A,g.mu,g.ka⟩ w' cs vs
 | [],[],_,_=>trivial
 | c :: cs,v :: vs,h,k=>by
   rw [List.all_cons,Bool.and_eq_true] at h;exact ⟨ok_move h.1 k.1,ok_moves h.2 k.2⟩
 | [],_ :: _,_,k=>k.elim
 | _ :: _,[],_,k=>k.elim
theorem Rel.over {e:En} {fr fr':List (Nat × SV)} {hp hp':List (Nat × Row)} {u N:Nat} {a:Act} {w1 w2:World} {g1:Cx} (hd:a.defers=[]) (hs:a.tmps.size=N) (hf:∀ d,holds g1 w1 (Am.look fr d) (a.tmps.getD d undef)) (hI:Inv (XL e.w0.heap.size) e g1 w1 (lookR hp) (· < u) []) {S:List Nat} (hF:FrS S w1 w2) (hS:∀ b ∈ S,e.w0.heap.size≤b) (hS2:∀ b ∈ S,2≤b)
 (hfr:fr'.all (fun p=>okS (fun _=>true) p.2)=true) (hsub:∀ d,Am.look fr' d=Am.look fr d∨Am.look fr' d=.any) (hcor:∀ s r,lookR hp' s=some r→∃ r0,lookR hp s=some r0∧r0.ver=r.ver) (hrow:∀ s r,lookR hp' s=some r→rowIn (g2x g1 w1 w2) w2 r):Rel (XL e.w0.heap.size) e ⟨fr',hp',u,[],N⟩ a w2:=by
 refine ⟨hd,hs,g2x g1 w1 w2,fun d=>?_,⟨hI.le.trans ⟨fun b hb=>.inl hb,fun _ h=>⟨h,rfl,rfl⟩⟩,hrow,fun s t r q h1 h2 hst=>?_,fun s r h1 _ hk hz=>?_,fun s r h1 hk=>?_,hI.ver,fun v hv hk=>Nat.lt_of_lt_of_le (hI.blk v hv hk) hF.size,fun b hb=>?_,fun b hb=>?_,fun b hb hl=>?_,Nat.le_trans hI.size hF.size,⟨hF.io.1.trans hI.io.1,hF.io.2.1.trans hI.io.2.1,hF.io.2.2.trans hI.io.2.2⟩,⟨hF.env hS2 hI.env.1,Nat.le_trans hI.size hF.size⟩,hI.nd⟩⟩
 ·show holds _ _ (Am.look fr' d) _
  have h1:=look_ok hfr d;rcases hsub d with h | h
  ·rw [h] at h1 ⊢
   exact ok_move h1 (hf d)
  ·rw [h];trivial
 ·obtain ⟨r0,a1,a2⟩:=hcor s r h1
  obtain ⟨q0,b1,b2⟩:=hcor t q h2;rw [← a2,← b2];exact hI.apart s t r0 q0 a1 b1 hst
 ·obtain ⟨r0,a1,a2⟩:=hcor s r h1
  rw [← a2] at hk hz;rcases hz with hz | hz
  ·exact hI.free s r0 a1 rfl hk hz
  ·have:=hI.blk _ (hI.row s r0 a1).1 hk
   exact absurd hz.1 (by show ¬ w1.heap.size≤g1.mu r0.ver;omega)
 ·obtain ⟨r0,a1,a2⟩:=hcor s r h1
  rw [← a2] at hk ⊢;exact hI.mine s r0 a1 hk
 ·rcases hb with hb | hb
  ·exact Nat.lt_of_lt_of_le (hI.zlt b hb) hF.size
  ·exact hb.2
 ·rcases hb with hb | hb
  ·exact hI.znew b hb
  ·exact .inr (Nat.le_trans hI.size hb.1)
 ·refine (hF.keep b (Nat.lt_of_lt_of_le hb hI.size) fun hm=>?_).trans (hI.keep b hb hl)
  have:=hS b hm;omega
abbrev zrow46 (v:Nat):Row:=⟨v,31,4,[iv 0,uv 0,.v (.slice none 0 0),.v (.slice none 0 0)]⟩
theorem call46 {e:En} {v2 v5 u:Nat} {x:It} {S:List Nat} {a:Act} {w:World} {fr:List (Nat × SV)} {hp:List (Nat × Row)} (h2:Am.look fr 2=.ptr 2 v2 0) (h5:Am.look fr 5=.ptr 5 v5 0) (r2:lookR hp 2=some (zrow46 v2)) (r5:lookR hp 5=some ⟨v5,31,4,itz x S⟩) (hn:S.Nodup) (hge:∀ c ∈ S,e.w0.heap.size≤c) (hsv:x.sv) (hfit:x.fits) (hyf:∀ y,x.srt=some y→y.fits) (hr:Rel (XL e.w0.heap.size) e ⟨fr,hp,u,[],47⟩ a w):
 ∃ blk,a.tmps.getD 5 undef=.pointer (some ⟨blk,0,none⟩)∧Calls Tryd.prog 24 #[.pointer (some ⟨blk,0,none⟩)] w fun en w'=>(en=.returned (.bool false)∧x.srt=none∧Rel (XL e.w0.heap.size) e ⟨[(2,.ptr 2 v2 0)],[(2,zrow46 v2)],u,[],47⟩ a w')∨
  ∃ y,en=.returned (.bool true)∧x.srt=some y∧Rel (XL e.w0.heap.size) e ⟨[(2,.ptr 2 v2 0),(5,.ptr 5 v5 0)],[(2,zrow46 v2),(5,⟨v5,31,4,itc y⟩)],u,[],47⟩ a w':=by
 obtain ⟨hd,hs,g1,hf,hI⟩:=hr;have hrow:=hI.row 5 _ r5;obtain ⟨hk,arr,a1,a2,a3,a4⟩:=hrow.arr (by simp)
 replace hk:g1.ka v5≠0:=hk
 replace a1:w.heap[g1.mu v5]?=some (.cells arr 31 (0,0)):=a1
 replace a2:arr.size=g1.ka v5 * 4:=a2
 replace a3:4≤arr.size:=a3
 replace a4:agL g1 w (itz x S) (arr.toList.take 4):=a4
 have hT:=twi_of a4;have hZf:¬ g1.Z (g1.mu v5):=hI.free 5 _ r5 rfl hk;have hmine:e.w0.heap.size≤g1.mu v5:=by
  rcases hI.mine 5 _ r5 hk with h | h
  ·exact h
  ·omega
 have hw2:2≤e.w0.heap.size:=hI.nd.1 1 (.inr rfl);have hS2:∀ c ∈ S,2≤c:=fun c hc=>Nat.le_trans hw2 (hge c hc)
 obtain ⟨_,hp5⟩:g1.A v5∧a.tmps.getD 5 undef=.pointer (some ⟨g1.mu v5,0,none⟩):=by
  have:=hf 5;rw [show Am.look (⟨fr,hp,u,[],47⟩:AS).fr 5=.ptr 5 v5 0 from h5] at this;exact this
 refine ⟨g1.mu v5,hp5,?_⟩;have hc:=sorted_any x.nodes x (Nat.le_refl _) hsv hfit g1.Z w (g1.mu v5) 0 (arr.toList.take 4) S hI.env.1 hT hn hS2 (fun hm=>hZf (TWi.z _ hT _ hm)) (Nat.le_trans hw2 hmine) (fun b hb=>⟨hI.zlt b hb,fun e=>hZf (e ▸ hb)⟩) ⟨arr,g1.ka v5,a1,a2,by omega,by simp⟩;refine hc.mono fun en w' ⟨hF,hR⟩=>?_
 have hz2:g1.ka v2≠0→w'.heap[g1.mu v2]?=w.heap[g1.mu v2]?:=fun hk2=>by
  have hrow2:=hI.row 2 _ r2;refine hF.keep _ (hI.blk _ hrow2.1 hk2) fun hm=>?_
  exact hI.free 2 _ r2 rfl hk2 (TWi.z _ hT _ hm)
 have hrow2:rowIn (g2x g1 w w') w' (zrow46 v2):=by
  obtain ⟨hA,hq⟩:=hI.row 2 _ r2;refine ⟨hA,?_⟩;rcases hq with hq | ⟨arr2,b1,b2,b3,b4⟩
  ·exact .inl hq
  ·by_cases hk2:g1.ka v2=0
   ·have b2:arr2.size=g1.ka v2 * 4:=b2
    have b3:4≤arr2.size:=b3;rw [hk2] at b2;omega
   ·exact .inr ⟨arr2,(hz2 hk2).trans b1,b2,b3,ok_moves rfl b4⟩
 cases hsr:x.srt with
 | none=>
   rw [hsr] at hR;refine .inl ⟨hR,rfl,Rel.over hd hs hf hI hF hge hS2 rfl (fun d=>?_) (fun s r h=>?_) (fun s r h=>?_)⟩
   ·rw [show Am.look [(2,SV.ptr 2 v2 0)] d=if 2=d then .ptr 2 v2 0 else .any from rfl]
    split
    ·rename_i h;subst h;exact .inl h2.symm
    ·exact .inr rfl
   ·unfold lookR at h
    split at h
    ·rename_i hs;subst hs;cases h;exact ⟨_,r2,rfl⟩
    ·cases h
   ·unfold lookR at h
    split at h
    ·cases h;exact hrow2
    ·cases h
 | some y=>
   rw [hsr] at hR;obtain ⟨he,S',hp',hT'⟩:=hR;have hrow5:rowIn (g2x g1 w w') w' ⟨v5,31,4,itc y⟩:=by
    refine ⟨hrow.1,.inr ⟨arr,?_,a2,a3,?_⟩⟩
    ·refine (hF.keep _ (hI.blk _ hrow.1 hk) fun hm=>?_).trans a1
     exact hZf (TWi.z _ hT _ hm)
    ·have:=hi_tw (g:=g2x g1 w w') hT' (hyf y hsr) (fun b hb _=>.inl hb)
     obtain ⟨us,e1,e2⟩:=this;have e1:(arr.toList.take 4).toArray=us.toArray:=by injection e1
     have e1:arr.toList.take 4=us:=by simpa using congrArg Array.toList e1
     show agL _ _ (itc y) (arr.toList.take 4)
     rw [e1];exact e2
   refine .inr ⟨y,he,rfl,Rel.over hd hs hf hI hF hge hS2 rfl (fun d=>?_) (fun s r h=>?_) (fun s r h=>?_)⟩
   ·rw [show Am.look [(2,SV.ptr 2 v2 0),(5,.ptr 5 v5 0)] d=if 2=d then .ptr 2 v2 0 else if 5=d then .ptr 5 v5 0 else .any from rfl]
    split
    ·rename_i h;subst h;exact .inl h2.symm
    ·split
     ·rename_i h;subst h;exact .inl h5.symm
     ·exact .inr rfl
   ·unfold lookR at h
    split at h
    ·rename_i hs;subst hs;cases h;exact ⟨_,r2,rfl⟩
    ·unfold lookR at h
     split at h
     ·rename_i hs;subst hs;cases h;exact ⟨_,r5,rfl⟩
     ·cases h
   ·unfold lookR at h
    split at h
    ·cases h;exact hrow2
    ·unfold lookR at h
     split at h
     ·cases h;exact hrow5
     ·cases h
set_option maxHeartbeats 4000000 in
theorem item46_any (b:List UInt8) (hb:b.length≤1000000000):AC Tryd.prog XU 9 [bsl b] [] (IcN isI (cnP b)):=by
 have HR:=dh (cnP.eq_1 b);have HX:=dh (fun x (h:cnP b=.ok x)=>cnP_ok h);generalize cnP b=R at *;refine AC.bodyW false Tryd.func9 rfl Tryd.call9 Tryd.ntmps9 (by simp) fun e nx=>AW.xl ?_
 generalize hLB:e.w0.heap.size=LB;go_simp
 refine sqc ?_;go_simp;refine sqc ?_;go_simp;refine ifd (fun h=>?_) (fun h=>?_) <;> go_simp
 ·exact IcN.err (e:=8) (by rw [HR.out,if_pos (by omega)])
 have hl:b.length≤4096:=by omega
 have HR:=dh (HR.out.trans (if_neg (by omega)));have hrr:=readz_c LB b (by omega);refine sqc ?_;go_simp;refine cl [] [] hrr (by go_simp) ?_;rintro r rows hI;cases hR:readP b with
 | error e'=>
   rw [hR] at hI;have hne:e'≠0:=gi_err hR;have HE:=dh (HR.out.trans (by rw [hR]));clear hR HR;obtain ⟨⟨a,⟨kz,rfl⟩,rfl⟩,p2,it2,lo2,bt2,rfl⟩:=hI;go_simp
   refine sqA (blk (gw ?_));go_simp
   exact IcN.err HE.out
 | ok y=>
   obtain ⟨t,p2,it2⟩:=y;rw [hR] at hI;have HE:=dh (HR.out.trans (by rw [hR]));have hen:t.en=p2:=gi_en hR;have hok:t.ok:=gi_ok hR (by omega) (by omega);have hp2:p2≤b.length:=by
    have:=gi_bd hR (by omega) (by omega);have:=this.2.2.2;rw [List.length_take] at this;omega
   have e1:b.take 4096=b:=List.take_of_length_le hl;have hv0:t.bad b=false→t.vd b:=fun hbad=>by
    have:=gi_vd (by rw [List.length_take];omega) hR (by omega) (by omega) (by omega) (by rw [e1];exact hbad);rw [e1] at this;exact this
   have HV:=dh hv0;clear hR HR hv0;obtain ⟨S,hS1,hS2,rfl,rfl⟩:=hI;have HS1:=dh hS1;have HS2:=dh hS2;clear hS1 hS2;rw [e1] at *;simp only at HE;have hcs:=Gt.cn_srt b t hok;have hfit:=Gt.fits_it b t hok;have HSV:=dh fun hb=>Gt.sv_it b t hok (HV.out hb)
   rw [hcs] at HE;clear hcs hen hok HV HR;generalize t.it b=x at *;generalize hB:t.bad b=B at *;generalize t.loose=lo at *;clear hB;go_simp
   refine sqA (blk ?_);refine sqc ?_;go_simp;refine cdA ?_;go_simp;refine sqc ?_;go_simp;refine cdA ?_;by_cases hpb:p2 < b.length
   ·go_simp
    refine gw ?_;go_simp
    exact IcN.err (e:=9) (by rw [HE.out,if_pos hpb])
   ·obtain rfl:p2=b.length:=by omega
    have HE:=dh (HE.out.trans (if_neg (by omega)));go_simp
    refine sqc ?_;go_simp;refine cdA ?_;cases B with
    | true=>
      go_simp
      refine gw ?_;go_simp
      exact IcN.err (e:=5) HE.out
    | false=>
      have HE:=dh (HE.out.trans (if_neg Bool.false_ne_true));have hsv:=HSV.out rfl;go_simp
      intro a w hr;subst hLB;obtain ⟨blk,hp5,hcall⟩:=call46 rfl rfl rfl rfl HS1.out HS2.out hsv hfit (fun y hy=>It.valid_fits (HX.out y (by rw [HE.out,hy]))) hr;refine wp_seq (wp_region_list ?_);refine wp_callV (f:=24) rfl rfl Tryd.call24 ?_;rw [show Array.map a.eval #[Operand.tmp 5]=#[.pointer (some ⟨blk,0,none⟩)] by simp [Act.eval,hp5]];refine Calls.mono hcall ?_;rintro en w2 (⟨rfl,hsr,hr2⟩ | ⟨y,rfl,hsr,hr2⟩)
      ·refine ⟨_,rfl,?_⟩
       have hr3:=hr2.put (dst:=some 38) (show (38:Nat) < 47 by omega) (.bool false);refine chain_wp (K:=fun σ=>Fits σ ⟨[(2,.ptr 2 nx 0),(37,bov true)],[(2,zrow46 nx)],nx + 1 + 1 + 1 + 1,[],47⟩) ?_ _ _ [] [] _ _ ?_ hr3
       ·intro σ a w hf hr
        refine gw (X:=XL e.w0.heap.size) ?_ a w (hr.fits hf);go_simp
        exact IcN.err (e:=7) (by rw [HE.out,hsr])
       ·go_simp
      ·refine ⟨_,rfl,?_⟩
       have hr3:=hr2.put (dst:=some 38) (show (38:Nat) < 47 by omega) (.bool true);refine chain_wp (K:=fun σ=>Fits σ ⟨[(2,.ptr 2 nx 0),(5,.ptr 5 (nx + 1 + 1) 0),(37,bov false)],[(2,zrow46 nx),(5,⟨nx + 1 + 1,31,4,itc y⟩)],nx + 1 + 1 + 1 + 1,[],47⟩) ?_ _ _ [] [] _ _ ?_ hr3
       ·intro σ a w hf hr
        have hxv:=HX.out y (by rw [HE.out,hsr]);have hva:=AC.up e.w0.heap.size (valid8_c y (It.valid_fits hxv));rw [hxv] at hva;refine gw (X:=XL e.w0.heap.size) ?_ a w (hr.fits hf);go_simp
        refine cl [] [] hva (by go_simp) ?_;rintro r rows ⟨rfl,rfl⟩;go_simp
        refine gw ?_;go_simp
        exact IcN.ok (I:=isI) (R:=R) (x:=y) (a:=itS y) (by rw [HE.out,hsr]) rfl
       ·go_simp
theorem canon48_c (b:List UInt8) (hb:b.length≤1000000000):AC Tryd.prog XU 17 [bsl b] [] (CaC (cnP b)):=by
 have HI:=item46_any b hb;have HE0:=dh (fun e (h:cnP b=.error e)=>cnP_err h);have HX:=dh (fun x (h:cnP b=.ok x)=>cnP_ok h);generalize cnP b=R at *;refine AC.bodyW false Tryd.func17 rfl Tryd.call17 Tryd.ntmps17 (by simp) fun e nx=>gw ?_
 go_simp
 refine cl [] [] HI (by go_simp) ?_;intro r rows hr;cases R with
 | error e'=>
   obtain ⟨rfl,rfl⟩:=hr;have hne:=HE0.out e' rfl;go_simp
   exact ⟨rfl,rfl⟩
 | ok x=>
   obtain ⟨a,rfl,rfl,rfl⟩:=hr;have hxv:=HX.out x rfl;have hen:=encode_c x (It.valid_fits hxv) hxv;go_simp
   refine cl [] [] hen (by go_simp) ?_;rintro r rows ⟨rfl,rfl⟩;go_simp
   exact ⟨rfl,rfl⟩
theorem scanz_c (b:List UInt8) (hb:b.length≤1000000000):AC Tryd.prog XU 7 [bsl b] [] fun r rows=>r=.tup [iv (scanP (readP b)).1,iv (scanP (readP b)).2]∧rows=[]:=by
 refine AC.bodyW false Tryd.func7 rfl Tryd.call7 Tryd.ntmps7 (by simp) fun e nx=>AW.xl (gw ?_)
 go_simp
 refine cl [] [] (readz_c e.w0.heap.size b hb) (by go_simp) ?_;rintro r rows hI;cases hR:readP b with
 | error e'=>
   rw [hR] at hI;have hne:e'≠0:=gi_err hR;clear hR;obtain ⟨⟨a,⟨kz,rfl⟩,rfl⟩,p2,it2,lo2,bt2,rfl⟩:=hI;go_simp
   exact ⟨rfl,rfl⟩
 | ok y=>
   obtain ⟨t,p2,it2⟩:=y;rw [hR] at hI;clear hR;obtain ⟨S,_,_,rfl,rfl⟩:=hI;go_simp
   exact ⟨rfl,rfl⟩
theorem scz_95:scanP (readP [95,65,1,65,2,255])=(6,0):=by kernel_rfl
theorem scz_191:scanP (readP [191,1,255])=(0,4):=by kernel_rfl
theorem cnz_159:cnP [159,1,255]=.ok (.mk 4 0 [] [.mk 0 1 [] []]):=by kernel_rfl
theorem enz_129:It.enc (.mk 4 0 [] [.mk 0 1 [] []])=[129,1]:=by kernel_rfl
theorem awakez_c:AC Tryd.prog XU 12 [] [] fun r rows=>r=bov true∧rows=[]:=by
 have hs1:=scanz_c [95,65,1,65,2,255] (by decide);rw [scz_95] at hs1;have hs2:=scanz_c [191,1,255] (by decide);rw [scz_191] at hs2;have hcn:=canon48_c [159,1,255] (by decide);rw [cnz_159] at hcn;unfold CaC at hcn;simp only [enz_129] at hcn;refine AC.bodyW false Tryd.func12 rfl Tryd.call12 Tryd.ntmps12 (by simp) fun e nx=>gw ?_
 go_simp
 refine cl (C:=fun r rows=>r=.tup [iv 6,iv 0]∧rows=[]) [8] [] (by simp [arg,cv,frzH,go_sem];exact hs1) (by go_simp) ?_;rintro r rows ⟨rfl,rfl⟩;go_simp
 refine cl (C:=fun r rows=>r=.tup [bsl [129,1],iv 0]∧rows=[]) [13] [] (by simp [arg,cv,frzH,go_sem];exact hcn) (by go_simp) ?_;rintro r rows ⟨rfl,rfl⟩;go_simp
 refine cl (C:=fun r rows=>r=.tup [iv 0,iv 4]∧rows=[]) [18] [] (by simp [arg,cv,frzH,go_sem];exact hs2) (by go_simp) ?_;rintro r rows ⟨rfl,rfl⟩;go_simp
theorem same_i (X:Ev) (x:It) (hv:x.valid=true):AC Tryd.prog X 11 [itS x,itS x] [] fun r rows=>r=bov true∧rows=[]:=by
 have hz:=(It.valid_gsz hv).2;have h:=same_c (X:=X) x.nodes x x (Nat.le_refl _) (by omega) (by omega);rw [It.sm_iff.2 rfl] at h;exact h
end Go.Proofs.YtelefkkkccilaaaDoor
