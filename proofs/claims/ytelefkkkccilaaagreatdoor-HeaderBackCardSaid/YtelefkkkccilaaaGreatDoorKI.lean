/- Headers: rows of parameters; pairs. -/
import Derived.Test.YtelefkkkccilaaaGreatDoorKH
set_option maxHeartbeats 16000000
set_option linter.all false
namespace Go.Proofs.YtelefkkkccilaaaGreatDoor
open Go.RowKit
set_option maxRecDepth 100000
structure PE where
 p:It.KV
 A:Ad
 C:Ad
def PE.cells (e:PE):List Value:=[.int .i64 e.p.1.kind,.int .u64 (e.p.1.num:Int),.slice e.A.ab e.A.nb e.A.cb,.slice e.A.ai e.A.ni e.A.ci,.int .i64 e.p.2.kind,.int .u64 (e.p.2.num:Int),.slice e.C.ab e.C.nb e.C.cb,.slice e.C.ai e.C.ni e.C.ci]
theorem inf90:(Tryz.prog.info? 90).map (fun i=>(i.zero,i.size,i.bytes))=some (some (.agg #[.int .i64 0,.int .u64 0,.slice none 0 0,.slice none 0 0,.int .i64 0,.int .u64 0,.slice none 0 0,.slice none 0 0]),8,128):=by kernel_rfl
def RowP (W:World) (base:Nat) (v:Value) (L:List PE):Prop:=W.ownsRow base 90 8 v L.length (L.flatMap PE.cells)
theorem PE.cells_len (e:PE):e.cells.length=8:=by simp [PE.cells]
theorem flatP_one (L:List PE):∀ u ∈ L.flatMap PE.cells,u.oneCell'=true:=fun u hu=>by
 obtain ⟨e,_,h⟩:=List.mem_flatMap.1 hu;simp [PE.cells] at h;rcases h with rfl | rfl | rfl | rfl | rfl | rfl | rfl | rfl <;> rfl
theorem flatP_get:∀ (L:List PE) (q:Nat) (h:q < L.length * 8),(L.flatMap PE.cells)[q]?=((L[q / 8]?).map PE.cells).bind (·[q % 8]?)
 | [],q,h=>by simp at h
 | e :: L,q,h=>by
   rw [List.flatMap_cons];rcases Nat.lt_or_ge q 8 with h1 | h1
   ·rw [List.getElem?_append_left (by rw [PE.cells_len];exact h1),show q / 8=0 by omega,show q % 8=q by omega];rfl
   ·rw [List.getElem?_append_right (by rw [PE.cells_len];exact h1),PE.cells_len,flatP_get L (q - 8) (by simp at h;omega),show q / 8=(q - 8) / 8 + 1 by omega,show q % 8=(q - 8) % 8 by omega];rfl
theorem RowP.nil (W:World) (base:Nat):RowP W base (.slice none 0 0) []:=⟨rfl,.inl ⟨rfl,rfl⟩⟩
theorem RowP.push {W:World} {base:Nat} {v:Value} {L:List PE} (h:RowP W base v L) {b T:Nat} {e:PE} {c:Nat} (hb:W.heap[b]?=some (.cells e.cells.toArray T (0,0))) (hsz:L.length≤1000) (hbase:base≤W.heap.size):
 ∃ v' W',(Builtin.append_ #[87,87] 87 #[v,.slice (some ⟨b,0,none⟩) 1 c]).run Tryz.prog W=.ok v' W'∧RowP W' base v' (L ++ [e])∧W.grownBy W' v.ownBlock∧(v'.ownBlock=v.ownBlock∨v'.ownBlock=some W.heap.size):=by
 obtain ⟨i0,hi,hz0,hz1,hz2⟩:=info_parts inf90;obtain ⟨v',W',h2,h3,h4,_,h5⟩:=run_append_own_at (P:=Tryz.prog) W base 87 87 90 i0 _ 8 128 Tryz.underlying87 hi hz0 hz1 hz2 rfl (by omega) v L.length _ h ⟨b,0,none⟩ 1 c e.cells (by rw [PE.cells_len]) (fun j u hu=>by
  have hadd:(⟨b,0,none⟩:Addr).add j=⟨b,j,none⟩:=by unfold Addr.add;split <;> simp_all
  rw [hadd,cr hb];simpa using hu) (fun u hu=>flatP_one [e] u (by simpa using hu)) (by unfold maxLen;omega) (by omega) hbase
 refine ⟨v',W',h2,?_,h4,h5⟩;unfold RowP;rw [List.length_append,List.flatMap_append];simpa using h3
def PT (w:World) (L:List PE) (a:Option Addr) (n:Nat):Prop:=n=L.length∧∀ j (h:j < L.length),∃ b o,a=some ⟨b,o,none⟩∧(w.cell? ⟨b,o + j * 8,none⟩=some (.int .i64 L[j].p.1.kind)∧w.cell? ⟨b,o + j * 8 + 1,none⟩=some (.int .u64 (L[j].p.1.num:Int))∧w.cell? ⟨b,o + j * 8 + 2,none⟩=some (.slice L[j].A.ab L[j].A.nb L[j].A.cb)∧w.cell? ⟨b,o + j * 8 + 3,none⟩=some (.slice L[j].A.ai L[j].A.ni L[j].A.ci))∧(w.cell? ⟨b,o + j * 8 + 4,none⟩=some (.int .i64 L[j].p.2.kind)∧w.cell? ⟨b,o + j * 8 + 4 + 1,none⟩=some (.int .u64 (L[j].p.2.num:Int))∧w.cell? ⟨b,o + j * 8 + 4 + 2,none⟩=some (.slice L[j].C.ab L[j].C.nb L[j].C.cb)∧w.cell? ⟨b,o + j * 8 + 4 + 3,none⟩=some (.slice L[j].C.ai L[j].C.ni L[j].C.ci))∧IR (fun _=>True) w L[j].p.1 L[j].A∧IR (fun _=>True) w L[j].p.2 L[j].C
theorem PT.below {w w':World} {L:List PE} {a:Option Addr} {n:Nat} (h:PT w L a n) (k:Below w.heap.size w w'):PT w' L a n:=by
 refine ⟨h.1,fun j hj=>?_⟩;obtain ⟨b,o,e,⟨c0,c1,c2,c3⟩,⟨d0,d1,d2,d3⟩,hI,hJ⟩:=h.2 j hj;have hb:=lg c0;have hc:∀ q,w'.cell? ⟨b,q,none⟩=w.cell? ⟨b,q,none⟩:=fun q=>cu (k.block b hb)
 exact ⟨b,o,e,⟨(hc _).trans c0,(hc _).trans c1,(hc _).trans c2,(hc _).trans c3⟩,⟨(hc _).trans d0,(hc _).trans d1,(hc _).trans d2,(hc _).trans d3⟩,hI.below k,hJ.below k⟩
theorem RowP.pt {W:World} {base:Nat} {v:Value} {L:List PE} (h:RowP W base v L) (hI:∀ e ∈ L,IR (fun _=>True) W e.p.1 e.A∧IR (fun _=>True) W e.p.2 e.C):∃ a c,v=.slice a L.length c∧PT W L a L.length:=by
 obtain ⟨hl,⟨rfl,h0⟩ | ⟨g,cap,cur,rfl,hb,hh,hn,hc,hsz,ht⟩⟩:=h
 ·exact ⟨none,0,by rw [h0],rfl,fun j hj=>by omega⟩
 refine ⟨some ⟨g,0,none⟩,cap,rfl,rfl,fun j hj=>?_⟩;have hc:∀ t,t < 8→W.cell? ⟨g,0 + j * 8 + t,none⟩=(L[j].cells)[t]?:=fun t h=>by
  rw [Nat.zero_add,cr hh];have h1:j * 8 + t < L.length * 8:=by omega
  have h2:(L.flatMap PE.cells)[j * 8 + t]?=cur[j * 8 + t]?:=by
   rw [← ht,List.getElem?_take_of_lt h1];simp
  rw [← h2,flatP_get _ _ h1,show (j * 8 + t) / 8=j by omega,show (j * 8 + t) % 8=t by omega,List.getElem?_eq_getElem hj]
  rfl
 exact ⟨g,0,rfl,⟨hc 0 (by omega),hc 1 (by omega),hc 2 (by omega),hc 3 (by omega)⟩,⟨hc 4 (by omega),hc 5 (by omega),hc 6 (by omega),hc 7 (by omega)⟩,hI _ (List.getElem_mem _)⟩
theorem pairsK_take:∀ (l:List It) (t:Nat) (k v:It),l[2 * t]?=some k→l[2 * t + 1]?=some v→It.pairsK (l.take (2 * (t + 1)))=It.pairsK (l.take (2 * t)) ++ [(k,v)]
 | [],t,k,v,h,_=>by simp at h
 | [x],t,k,v,h,h'=>by
   rw [List.getElem?_eq_none (by simp)] at h';cases h'
 | a :: b :: l,0,k,v,h,h'=>by
   simp at h h';subst h;subst h';simp [It.pairsK]
 | a :: b :: l,t + 1,k,v,h,h'=>by
   have e2:2 * (t + 1)=2 * t + 1 + 1:=by omega
   have h3:=pairsK_take l t k v (by rw [e2] at h;simpa using h) (by rw [e2] at h';simpa using h');have e1:2 * (t + 1 + 1)=2 * (t + 1) + 1 + 1:=by omega
   rw [e1,List.take_succ_cons,List.take_succ_cons,e2,List.take_succ_cons,List.take_succ_cons];rw [e2] at h3;simp only [It.pairsK,h3,List.cons_append]
theorem pairsK_all {l:List It} {t:Nat} (h:l.length≤2 * t + 1):It.pairsK (l.take (2 * t))=It.pairsK l:=by
 have:∀ (l:List It) (t:Nat),l.length≤2 * t + 1→It.pairsK (l.take (2 * t))=It.pairsK l:=by
  intro l
  induction l using It.pairsK.induct with
  | case1 k v l ih=>
    intro t ht;cases t with
    | zero=>simp at ht
    | succ t=>
      rw [show 2 * (t + 1)=2 * t + 1 + 1 by omega,List.take_succ_cons,List.take_succ_cons];simp only [It.pairsK];rw [ih t (by simp at ht;omega)]
  | case2 l hl=>
    intro t ht
    match l,hl with
    | [],_=>simp
    | [x],_=>
      cases t with
      | zero=>simp [It.pairsK]
      | succ t=>rw [List.take_of_length_le (by simp;omega)]
    | k :: v :: l,hl=>exact absurd rfl (hl k v l)
 exact this l t h
def PairsP (l:List It) (w:World) (e:Ending) (w':World):Prop:=∃ (L:List PE) (a:Option Addr) (c:Nat),e=.returned (.slice a L.length c)∧L.map PE.p=It.pairsK l∧PT w' L a L.length∧Below w.heap.size w w'
def PLR (l:List It) (w1:World) (v i:Value) (W:World):Prop:=∃ (t:Nat) (L:List PE),i=.int .i64 ((2 * t:Nat):Int)∧2 * t≤l.length∧L.length=t∧L.map PE.p=It.pairsK (l.take (2 * t))∧RowP W w1.heap.size v L∧(∀ e ∈ L,IR (fun b=>b < w1.heap.size) W e.p.1 e.A∧IR (fun b=>b < w1.heap.size) W e.p.2 e.C)∧Below w1.heap.size w1 W
theorem pairs_any (m:It) (A:Ad) (w:World) (ok:Nat→Prop) (hI:IR ok w m A) (hlen:m.kids.length≤1000):Calls Tryz.prog 81 #[.agg #[.int .i64 m.kind,.int .u64 (m.num:Int),.slice A.ab A.nb A.cb,.slice A.ai A.ni A.ci]] w (PairsP m.kids w):=by
 obtain ⟨P0,N0⟩:=an w (o4 m A);have HX1:=dh N0;have HP1:=dh P0;have HI1:=dh ((hI.imp (ok':=fun b=>b < w.heap.size) fun b _ hb=>hb).below P0);have HTL:=dh HI1.out.tl;have HNI:Hid (A.ni=m.kids.length):=dh HTL.out.1;have hsz0:(w.alloc (o4 m A)).heap.size=w.heap.size + 1:=by simp
 have HSZ:=dh hsz0;rw [← HNI.out] at hlen;clear hI N0 P0 hsz0;obtain ⟨x0,x1,x2,x3⟩:=cf HX1.out;go_enter Tryz.func81,Tryz.ntmps81
 go_upto_region 1 with fail
 generalize w.alloc _=w1 at *;generalize hB:w.heap.size=B at *;go_wp2_with fail
 go_loopw [3,4] (PLR m.kids w1) (fun _ i _=>A.ni - (intOf i).toNat)
 case atStart=>exact ⟨0,[],rfl,by omega,rfl,rfl,RowP.nil _ _,fun e he=>by simp at he,Below.refl _ _⟩
 case round=>
  obtain ⟨u,hu⟩:∃ u,u=wr:=⟨_,rfl⟩;subst hu;obtain ⟨t,L,rfl,ht,hLt,hLm,hRow,hLI,hBl⟩:=hrel;obtain ⟨T,hT⟩:∃ T,T=2 * t:=⟨_,rfl⟩;rw [← hT] at ht hLm ⊢;have HT:=dh hT;clear hT;have hx3:u.cell? ⟨B,3,none⟩=some (.slice A.ai A.ni A.ci):=(hBl.cell (p:=⟨B,3,none⟩) (lb HX1.out)).trans x3;have hw1:IntKind.i64.wrap ((T:Int) + 1)=((T + 1:Nat):Int):=by have:=HNI.out;rw [IntWalk.i64_in _ (by omega)];omega
  have hw2:IntKind.i64.wrap ((T:Int) + 2)=((T + 2:Nat):Int):=by have:=HNI.out;rw [IntWalk.i64_in _ (by omega)];omega
  by_cases hTn:T + 1 < A.ni
  ·have hTm:T + 1 < m.kids.length:=by have:=HNI.out;omega
   have hT1:=(HTL.out.below (hBl.mono (Nat.le_refl _))).2.2 T (by omega);have hT2:=(HTL.out.below (hBl.mono (Nat.le_refl _))).2.2 (T + 1) hTm;have hz:((T + 1:Nat):Int) < (A.ni:Int):=by omega
   have hg1:m.kids[T]?=some m.kids[T]:=List.getElem?_eq_getElem (by omega);have hg2:m.kids[T + 1]?=some m.kids[T + 1]:=List.getElem?_eq_getElem hTm;have hnx:It.pairsK (m.kids.take (T + 2))=L.map PE.p ++ [(m.kids[T],m.kids[T + 1])]:=by
    have:=HT.out;subst this;rw [hLm];exact pairsK_take m.kids t _ _ hg1 hg2
   generalize m.kids[T]=p at *;generalize m.kids[T + 1]=z at *;obtain ⟨b1,o1,X,e1,_,⟨c0,c1,c2,c3⟩,hIx⟩:=hT1;obtain ⟨b2,o2,Y,e2,_,⟨d0,d1,d2,d3⟩,hIy⟩:=hT2;rw [e1] at e2;cases e2
   rw [e1] at hx3;clear e1 hg1 hg2;have HS:Hid (∀ W,Below u.heap.size u W→W.cell? ⟨B,3,none⟩=some (.slice (some ⟨b1,o1,none⟩) A.ni A.ci)∧(W.cell? ⟨b1,o1 + T * 4,none⟩=some (.int .i64 p.kind)∧W.cell? ⟨b1,o1 + T * 4 + 1,none⟩=some (.int .u64 (p.num:Int))∧W.cell? ⟨b1,o1 + T * 4 + 2,none⟩=some (.slice X.ab X.nb X.cb)∧W.cell? ⟨b1,o1 + T * 4 + 3,none⟩=some (.slice X.ai X.ni X.ci))∧(W.cell? ⟨b1,o1 + (T + 1) * 4,none⟩=some (.int .i64 z.kind)∧W.cell? ⟨b1,o1 + (T + 1) * 4 + 1,none⟩=some (.int .u64 (z.num:Int))∧W.cell? ⟨b1,o1 + (T + 1) * 4 + 2,none⟩=some (.slice Y.ab Y.nb Y.cb)∧W.cell? ⟨b1,o1 + (T + 1) * 4 + 3,none⟩=some (.slice Y.ai Y.ni Y.ci))):=dh fun W hW=>
    ⟨(hW.cell (p:=⟨B,3,none⟩) (lg hx3)).trans hx3,⟨(hW.cell (p:=⟨b1,o1 + T * 4,none⟩) (lg c0)).trans c0,(hW.cell (p:=⟨b1,o1 + T * 4 + 1,none⟩) (lg c1)).trans c1,(hW.cell (p:=⟨b1,o1 + T * 4 + 2,none⟩) (lg c2)).trans c2,(hW.cell (p:=⟨b1,o1 + T * 4 + 3,none⟩) (lg c3)).trans c3⟩,(hW.cell (p:=⟨b1,o1 + (T + 1) * 4,none⟩) (lg d0)).trans d0,(hW.cell (p:=⟨b1,o1 + (T + 1) * 4 + 1,none⟩) (lg d1)).trans d1,(hW.cell (p:=⟨b1,o1 + (T + 1) * 4 + 2,none⟩) (lg d2)).trans d2,(hW.cell (p:=⟨b1,o1 + (T + 1) * 4 + 3,none⟩) (lg d3)).trans d3⟩
   have HIX:=dh hIx;have HIY:=dh hIy;have HROW:=dh hRow;have HLI:=dh hLI;have HLT:=dh hLt;have HNX:=dh hnx;have HBL:=dh hBl;obtain ⟨la,lc,rfl⟩:=og HROW.out;rw [hLt];clear hIx hIy hRow hLI hLt hnx hBl d0 d1 d2 d3 c0 c1 c2 c3 hLm;go_upto_region 5 with fail
   clear hx3;refine rgh (M:=12) (fun b=>b < w1.heap.size) [.eq (.slice la t lc),.eq (.pointer (some ⟨B,3,none⟩)),.eq (.slice (some ⟨b1,o1,none⟩) A.ni A.ci),.eq (.int .i64 (T:Int)),.eq (.pointer (some ⟨b1,o1 + T * 4,none⟩)),.it p,.eq (.pointer (some ⟨B,3,none⟩)),.eq (.slice (some ⟨b1,o1,none⟩) A.ni A.ci),.eq (.int .i64 (T:Int)),.eq (.int .i64 ((T + 1:Nat):Int)),.eq (.pointer (some ⟨b1,o1 + (T + 1) * 4,none⟩)),.it z] [.la,.pl,.pl,.pl,.pl,.pl,.pl,.pl,.pl,.pl,.pl,.pl] 12 12 .any (by kernel_rfl) (by kernel_rfl) (by kernel_rfl) (fun _ _ o _ _ h=>by cases o <;> exact h) ?_ ?_
   ·refine ⟨?_,?_,?_,?_,?_,?_,?_,?_,?_,?_,?_,?_,trivial⟩<;>intro vs W hR _ hd
    ·exact late_move (.tmp 3) rfl (show _=_ by kernel_rfl)
    ·exact df3 (.tmp 1) B rfl (by kernel_rfl)
    ·exact dl24 (.tmp 14) B 3 (some ⟨b1,o1,none⟩) A.ni A.ci rfl (hd 1 (dd rfl)) (HS.out W hR).1
    ·exact dmv (.tmp 4) rfl (show _=_ by kernel_rfl)
    ·exact di24 (.tmp 15) (.tmp 16) b1 o1 A.ni A.ci T (by omega) rfl (hd 2 (dd rfl)) (hd 3 (dd rfl))
    ·obtain ⟨h0,h1,h2,h3⟩:=(HS.out W hR).2.1
     exact dld (.tmp 17) b1 (o1 + T * 4) p X rfl (hd 4 (dd rfl)) h0 h1 h2 h3 ((HIX.out.imp fun b hb _=>by have:=HSZ.out;omega).below hR)
    ·exact df3 (.tmp 1) B rfl (by kernel_rfl)
    ·exact dl24 (.tmp 19) B 3 (some ⟨b1,o1,none⟩) A.ni A.ci rfl (hd 6 (dd rfl)) (HS.out W hR).1
    ·exact dmv (.tmp 4) rfl (show _=_ by kernel_rfl)
    ·exact does_add3 (.tmp 21) (.const (.int .i64 1)) (T:Int) 1 ((T + 1:Nat):Int) rfl (hd 8 (dd rfl)) (by kernel_rfl) (by omega) (by omega) (by omega)
    ·exact di24 (.tmp 20) (.tmp 22) b1 o1 A.ni A.ci (T + 1) hTn rfl (hd 7 (dd rfl)) (hd 9 (dd rfl))
    ·obtain ⟨h0,h1,h2,h3⟩:=(HS.out W hR).2.2
     exact dld (.tmp 23) b1 (o1 + (T + 1) * 4) z Y rfl (hd 10 (dd rfl)) h0 h1 h2 h3 ((HIY.out.imp fun b hb _=>by have:=HSZ.out;omega).below hR)
   ·intro vs W2 hR2 hf _ hE
    have e0:vs 0=.slice la t lc:=hf 0 (dd rfl);obtain ⟨X',e5,hI5⟩:=hf 5 (dd rfl);obtain ⟨Y',e11,hI11⟩:=hf 11 (dd rfl);simp only [sr,e0,e5,e11];clear hf hE e0 e5 e11;have P3:=al W2 (.cells #[.int .i64 p.kind,.int .u64 (p.num:Int),.slice X'.ab X'.nb X'.cb,.slice X'.ai X'.ni X'.ci,.int .i64 z.kind,.int .u64 (z.num:Int),.slice Y'.ab Y'.nb Y'.cb,.slice Y'.ai Y'.ni Y'.ci] 90);have N3:=aw W2 (.cells #[.int .i64 p.kind,.int .u64 (p.num:Int),.slice X'.ab X'.nb X'.cb,.slice X'.ai X'.ni X'.ci,.int .i64 z.kind,.int .u64 (z.num:Int),.slice Y'.ab Y'.nb Y'.cb,.slice Y'.ai Y'.ni Y'.ci] 90);have h3:=pt hR2 P3;have hsu:=HBL.out.size;have hsW:=Below.size hR2;have hsA:=P3.size;have hrw:=own_pure HROW.out h3;obtain ⟨v',W4,hrun,hRow4,hgr,hown⟩:=RowP.push (c:=1) hrw (e:=⟨(p,z),X',Y'⟩) (b:=W2.heap.size) (T:=90) N3 (by have:=HLT.out;have:=HNI.out;have:=HT.out;omega) (by omega);have hB4:=bg (h3.mono hsu) (by omega) hrw hgr;have HB4:=dh hB4;have HROW4:=dh hRow4;have HI5:=dh (((hI5.below P3).belowB (bg (Below.refl _ _) (by omega) hrw hgr)));have HI11:=dh (((hI11.below P3).belowB (bg (Below.refl _ _) (by omega) hrw hgr)));rw [HLT.out] at hrun;clear P3 N3 h3 hrw hRow4 hgr hown hB4 hI5 hI11 hR2 hsu hsW hsA HS HIX HIY HROW;go_wp2_with (at_builtin;refine wj rfl _ _ 87 rfl rfl rfl hrun ?_;clear hrun)
    go_roundw
    case rel=>
     refine ⟨t + 1,L ++ [⟨(p,z),X',Y'⟩],by have:=HT.out;subst this;go_num,by have:=HT.out;omega,by rw [List.length_append,HLT.out];rfl,?_,HROW4.out,fun e he=>?_,HBL.out.trans HB4.out⟩
     ·have:=HT.out
      subst this;rw [List.map_append];exact HNX.out.symm
     ·rcases List.mem_append.1 he with h | h
      ·exact ⟨(HLI.out e h).1.belowB HB4.out,(HLI.out e h).2.belowB HB4.out⟩
      ·simp only [List.mem_singleton] at h
       subst h;exact ⟨HI5.out,HI11.out⟩
    case measure=>simp [intOf];omega
  ·have hz:¬ ((T + 1:Nat):Int) < (A.ni:Int):=by omega
   have hall:L.map PE.p=It.pairsK m.kids:=by
    rw [hLm,HT.out];exact pairsK_all (by have:=HNI.out;have:=HT.out;omega)
   obtain ⟨a,c,rfl,hPT⟩:=RowP.pt hRow fun e he=>⟨(hLI e he).1.imp fun _ _ _=>trivial,(hLI e he).2.imp fun _ _ _=>trivial⟩
   have HPT:=dh hPT;have HALL:=dh hall;have HPW:=dh (HP1.out.trans (hBl.mono (by have:=HSZ.out;omega)));clear hPT hall hBl hRow hLI hLm hLt;go_wp2_with fail
   go_ret
   exact ⟨L,a,c,rfl,HALL.out,HPT.out,by rw [hB];exact HPW.out⟩
def HL1 (p u:It) (w2:World) (i:Value) (W:World):Prop:=∃ k:Nat,i=.int .i64 (k:Int)∧k≤2∧(0 < k→It.mapOk p=true)∧(1 < k→It.mapOk u=true)∧Below w2.heap.size w2 W
def HL2 (L:List PE) (u3:World) (i:Value) (W:World):Prop:=∃ q:Nat,i=.int .i64 (q:Int)∧q≤L.length∧(∀ e ∈ L.take q,It.permit e.p=true)∧Below u3.heap.size u3 W
theorem bwt {B:Nat} {w u v:World} (h:Below B w u) (k:Below u.heap.size u v) (hB:w.heap.size=B):Below B w v:=h.trans (k.mono (by have:=h.size;omega))
theorem hvalid_nop {p u:It} (h:It.mapOk p=false):It.hvalid p u=false:=by unfold It.hvalid;simp [h]
theorem hvalid_nou {p u:It} (h:It.mapOk u=false):It.hvalid p u=false:=by unfold It.hvalid;simp [h]
theorem mapOk_kind {m:It} (h:¬ m.kind=5):It.mapOk m=false:=by unfold It.mapOk;simp [h]
theorem mapOk_valid {m:It} (h:It.valid m=false):It.mapOk m=false:=by unfold It.mapOk;simp [h]
theorem mapOk_permit {m:It} {q:It.KV} (hq:q ∈ It.pairsK m.kids) (h:It.permit q=false):It.mapOk m=false:=by
 cases hm:It.mapOk m with
 | false=>rfl
 | true=>
   unfold It.mapOk at hm;simp only [Bool.and_eq_true,List.all_eq_true] at hm;rw [hm.2 q hq] at h;cases h
theorem mapOk_of {m:It} (hk:m.kind=5) (hv:It.valid m=true) (h:∀ q ∈ It.pairsK m.kids,It.permit q=true):It.mapOk m=true:=by
 unfold It.mapOk;simp only [Bool.and_eq_true,decide_eq_true_eq,List.all_eq_true];exact ⟨⟨hk,hv⟩,h⟩
def HL3 (L:List PE) (u:It) (u3:World) (i:Value) (W:World):Prop:=∃ q:Nat,i=.int .i64 (q:Int)∧q≤L.length∧(∀ e ∈ L.take q,It.hasK u.kids e.p.1=false)∧Below u3.heap.size u3 W
def HL4 (l:List It) (p:It) (u3:World) (i:Value) (W:World):Prop:=∃ q:Nat,i=.int .i64 (q:Int)∧q≤l.length∧(∀ y ∈ l.take q,It.hasK p.kids y=true)∧Below u3.heap.size u3 W
theorem findP_look {m q:It} (h:It.mapOk m=true):It.findP m q=It.look m.kids q:=by
 unfold It.mapOk at h;simp only [Bool.and_eq_true,decide_eq_true_eq] at h;unfold It.findP;rw [if_pos h.1]
theorem find2P_eq {p u:It} (hp:It.mapOk p=true) (hu:It.mapOk u=true) (n:Int):It.find2P p u n=It.find2 p u n:=by
 unfold It.find2P It.find2;rw [findP_look hp,findP_look hu]
 rfl
theorem hvalid_dup {p u:It} {q:It.KV} (hq:q ∈ It.pairsK p.kids) (h:It.hasK u.kids q.1=true):It.hvalid p u=false:=by
 cases hv:It.hvalid p u with
 | false=>rfl
 | true=>
   unfold It.hvalid at hv;simp only [Bool.and_eq_true,List.all_eq_true,Bool.not_eq_true'] at hv;rw [hv.1.1.1.2 q hq] at h;cases h
theorem hvalid_end {p u:It} (hp:It.mapOk p=true) (hu:It.mapOk u=true) (hd:∀ q ∈ It.pairsK p.kids,It.hasK u.kids q.1=false):It.hvalid p u=(!It.hasK u.kids (It.int 2) && !((It.find2 p u 5).isSome && (It.find2 p u 6).isSome) && It.critOk p):=by
 unfold It.hvalid;rw [hp,hu];have:((It.pairsK p.kids).all fun q=> !It.hasK u.kids q.1)=true:=by
  rw [List.all_eq_true];intro q hq;rw [hd q hq];rfl
 rw [this];simp
theorem kids_le {x:It} (h:It.valid x=true):x.kids.length≤256:=by
 cases x with
 | mk k n b ks=>
   unfold It.valid at h;simp only [Bool.and_eq_true,decide_eq_true_eq] at h;have h4:It.nodes (.mk k n b ks)=1 + It.nodesL ks:=by unfold It.nodes;rfl
   have h5:=It.length_le_nodesL ks
   show ks.length≤256
   omega
theorem hva (p u:It) (A C:Ad) (w:World) (ok ok':Nat→Prop) (hI:IR ok w p A) (hJ:IR ok' w u C) (hE:Env w):Calls Tryz.prog 20 #[.agg #[.int .i64 p.kind,.int .u64 (p.num:Int),.slice A.ab A.nb A.cb,.slice A.ai A.ni A.ci,.int .i64 u.kind,.int .u64 (u.num:Int),.slice C.ab C.nb C.cb,.slice C.ai C.ni C.ci]] w (VP (It.hvalid p u) w):=by
 obtain ⟨P0,N0⟩:=an w (o8 p u A C);have P1:=al (w.alloc (o8 p u A C)) (.cells #[.int .i64 p.kind,.int .u64 (p.num:Int),.slice A.ab A.nb A.cb,.slice A.ai A.ni A.ci,.int .i64 u.kind,.int .u64 (u.num:Int),.slice C.ab C.nb C.cb,.slice C.ai C.ni C.ci] 26);have N1:=aw (w.alloc (o8 p u A C)) (.cells #[.int .i64 p.kind,.int .u64 (p.num:Int),.slice A.ab A.nb A.cb,.slice A.ai A.ni A.ci,.int .i64 u.kind,.int .u64 (u.num:Int),.slice C.ab C.nb C.cb,.slice C.ai C.ni C.ci] 26);have hsz0:(w.alloc (o8 p u A C)).heap.size=w.heap.size + 1:=by simp
 rw [hsz0] at N1;have HX:=dh (bkp P1 N0 (lb N0));have HROW:=dh N1;have HP:=dh (pt P0 P1);have HI:=dh (((hI.imp (ok':=fun b=>b < w.heap.size) fun b _ hb=>hb).below P0).below P1);have HJ:=dh (((hJ.imp (ok':=fun b=>b < w.heap.size) fun b _ hb=>hb).below P0).below P1);have HE:=dh ((hE.below P0).below P1);have x:=ce N0;have HT1:=dh hE.lt;clear hI hJ hE N0 N1 P0 P1 hsz0;obtain ⟨R,hRR⟩:∃ R,It.hvalid p u=R:=⟨_,rfl⟩;rw [hRR];have HRR:=dh hRR;clear hRR;go_enter Tryz.func20,Tryz.ntmps20
 go_upto_region 2 with fail
 clear x;generalize (w.alloc (o8 p u A C)).alloc (.cells #[.int .i64 p.kind,.int .u64 (p.num:Int),.slice A.ab A.nb A.cb,.slice A.ai A.ni A.ci,.int .i64 u.kind,.int .u64 (u.num:Int),.slice C.ab C.nb C.cb,.slice C.ai C.ni C.ci] 26)=w2 at *;generalize hB:w.heap.size=B at *;go_loopw [29] (HL1 p u w2) (fun i _=>2 - (intOf i).toNat)
 case atStart=>exact ⟨0,rfl,by omega,fun h=>absurd h (by omega),fun h=>absurd h (by omega),Below.refl _ _⟩
 case round=>
  obtain ⟨u0,hu0⟩:∃ u0,u0=wr:=⟨_,rfl⟩;subst hu0;obtain ⟨k,rfl,hk,hp,hu,hB0⟩:=hrel;have HB0:=dh hB0;have HX0:=kp hB0 HX;have HROW0:=kp hB0 HROW;have HI0:=dh (HI.out.below hB0);have HJ0:=dh (HJ.out.below hB0);have HE0:=dh (HE.out.below hB0);have HP0:=dh (HP.out.trans (hB0.mono (by have:=HP.out.size;omega)));have HK:=dh (And.intro hp hu);clear hp hu hB0;by_cases hk2:k < 2
  ·have hkz:(k:Int) < 2:=by omega
   rcases (show k=0∨k=1 by omega) with rfl | rfl
   ·obtain ⟨y0,y1,y2,y3,y4,y5,y6,y7⟩:=ce HROW0.out
    obtain ⟨P1,N1⟩:=an u0 (o4 p A);have HPW:=dh (bwt HP0.out P1 hB);by_cases hkind:p.kind=5
    case neg=>
     have hkb:(p.kind !=5)=true:=by simpa using hkind
     have HNO:Hid (R=false):=dh (HRR.out.symm.trans (hvalid_nop (mapOk_kind hkind)));obtain ⟨z0,z1,z2,z3⟩:=cf N1;clear P1 N1;go_wp2_with fail
     go_ret
     exact ⟨by rw [HNO.out];try rfl,by rw [hB];exact HPW.out⟩
    have hkb:(p.kind !=5)=false:=by simpa using hkind
    have HKD:=dh hkind;have HB1:=dh (pt HB0.out (P1.mono (Nat.le_refl _)));have HX1:=kp P1 HX0;have HM1:=dh N1;have HI1:=dh (HI0.out.below P1);have HE1:=dh (HE0.out.below P1);clear P1 N1 hkind;go_upto_region 4 with fail
    clear y0 y1 y2 y3 y4 y5 y6 y7;generalize u0.alloc _=u1 at *;generalize u0.heap.size=T at *;obtain ⟨z0,z1,z2,z3⟩:=cf HM1.out;cases hv:It.valid p with
    | false=>
      have HC:=dh (cva p A u1 _ HI1.out HE1.out false hv);have HNO:Hid (R=false):=dh (HRR.out.symm.trans (hvalid_nop (mapOk_valid hv)));go_wp2_with fail
      refine HC.out.mono ?_;rintro e u2 ⟨rfl,B2⟩;have HPW':=dh (bwt HPW.out B2 hB);clear HPW B2 HC;have HPW:=HPW';go_wp2_with fail
      go_ret
      exact ⟨by rw [HNO.out];try rfl,by rw [hB];exact HPW.out⟩
    | true=>
      have HC:=dh (cva p A u1 _ HI1.out HE1.out true hv);have HV:=dh hv;clear hv;go_wp2_with fail
      refine HC.out.mono ?_;rintro e u2 ⟨rfl,B2⟩;have HM2:=kp B2 HM1;have HP2:=dh (bwt HPW.out B2 hB);have HB2:=dh (pt HB1.out B2);have HCP:=dh (pairs_any p A u2 _ (HI1.out.below B2) (by have:=(It.mev HV.out HKD.out).2;omega));clear B2 HC HPW HB1 HX1 HM1 HI1 HE1 z0 z1 z2 z3;obtain ⟨z0,z1,z2,z3⟩:=cf HM2.out;go_wp2_with fail
      refine HCP.out.mono ?_;rintro e u3 ⟨L,a,c,rfl,hLm,hPT,B3⟩;have HP3:=dh (bwt HP2.out B3 hB);have HB3:=dh (pt HB2.out B3);have HLM:=dh hLm;have HLEN:Hid (L.length≤1000):=dh (by have h1:=congrArg List.length hLm;have h2:=It.mev HV.out HKD.out;have h3:=It.pairsK_length _ h2.1;rw [List.length_map] at h1;omega);have HPT:=dh hPT;clear hLm hPT B3 HCP HM2 HP2 HB2 z0 z1 z2 z3;go_upto_region 7 with fail
      go_loopw [44] (HL2 L u3) (fun i _=>L.length - (intOf i).toNat)
      case atStart=>exact ⟨0,rfl,by omega,fun e he=>by simp at he,Below.refl _ _⟩
      case round=>
       obtain ⟨v0,hv0⟩:∃ v0,v0=wr:=⟨_,rfl⟩;subst hv0;obtain ⟨q,rfl,hq,hall,hB4⟩:=hrel;by_cases hqL:q < L.length
       ·have hqz:(q:Int) < (L.length:Int):=by omega
        have hwq:IntKind.i64.wrap ((q:Int) + 1)=((q + 1:Nat):Int):=by have:=HLEN.out;rw [IntWalk.i64_in _ (by omega)];omega
        obtain ⟨b,o,hab,⟨c0,c1,c2,c3⟩,⟨d0,d1,d2,d3⟩,hIe,hJe⟩:=(HPT.out.below hB4).2 q hqL;subst hab;have hmem:L[q].p ∈ It.pairsK p.kids:=by rw [← HLM.out];exact List.mem_map_of_mem (List.getElem_mem _)
        have htake:L.take (q + 1)=L.take q ++ [L[q]]:=List.take_succ_eq_append_getElem hqL;have HMEM:=dh hmem;have HQL:=dh hqL;have HTAKE:=dh htake;clear hmem htake hIe hJe;generalize L[q]=e at *;have P5:=al v0 (.cells #[.int .i64 e.p.1.kind,.int .u64 (e.p.1.num:Int),.slice e.A.ab e.A.nb e.A.cb,.slice e.A.ai e.A.ni e.A.ci,.int .i64 e.p.2.kind,.int .u64 (e.p.2.num:Int),.slice e.C.ab e.C.nb e.C.cb,.slice e.C.ai e.C.ni e.C.ci] 90);have N5:=aw v0 (.cells #[.int .i64 e.p.1.kind,.int .u64 (e.p.1.num:Int),.slice e.A.ab e.A.nb e.A.cb,.slice e.A.ai e.A.ni e.A.ci,.int .i64 e.p.2.kind,.int .u64 (e.p.2.num:Int),.slice e.C.ab e.C.nb e.C.cb,.slice e.C.ai e.C.ni e.C.ci] 90);have HP5:=dh (bwt HP3.out (hB4.trans (P5.mono hB4.size)) hB);have HB5:=dh (hB4.trans (P5.mono hB4.size));have HN5:=dh N5;have HALL:=dh hall;clear P5 N5 hB4 hall;go_upto_region 9 with fail
        clear c0 c1 c2 c3 d0 d1 d2 d3;generalize v0.alloc _=v1 at *;generalize v0.heap.size=T5 at *;obtain ⟨c0,c1,c2,c3,d0,d1,d2,d3⟩:=ce HN5.out;have HCQ:=dh (permit_any e.p.1 e.p.2 e.A e.C v1);cases hpm:It.permit e.p with
        | false=>
          have hpm':It.permit (e.p.1,e.p.2)=false:=hpm;rw [hpm'] at HCQ;have HNO:Hid (R=false):=dh (HRR.out.symm.trans (hvalid_nop (mapOk_permit HMEM.out hpm)));go_wp2_with fail
          refine HCQ.out.mono ?_;rintro e6 v6 ⟨rfl,B6⟩;have HPW:=dh (bwt HP5.out B6 hB);clear B6 HCQ;go_wp2_with fail
          go_ret
          exact ⟨by rw [HNO.out];try rfl,by rw [hB];exact HPW.out⟩
        | true=>
          have hpm':It.permit (e.p.1,e.p.2)=true:=hpm;rw [hpm'] at HCQ;have HPM:=dh hpm;clear hpm hpm';go_wp2_with fail
          refine HCQ.out.mono ?_;rintro e6 v6 ⟨rfl,B6⟩;have HB6:=dh (HB5.out.trans (B6.mono HB5.out.size));clear B6 HCQ;go_wp2_with fail
          go_roundw
          case rel=>
           refine ⟨q + 1,by go_num,by have:=HQL.out;omega,fun e' he'=>?_,HB6.out⟩;rw [HTAKE.out] at he';rcases List.mem_append.1 he' with h | h
           ·exact HALL.out e' h
           ·simp only [List.mem_singleton] at h;subst h;exact HPM.out
          case measure=>have:=HQL.out;simp [intOf];omega
       ·have hqz:¬ (q:Int) < (L.length:Int):=by omega
        have hok:It.mapOk p=true:=mapOk_of HKD.out HV.out fun r hr=>by
         rw [← HLM.out] at hr;obtain ⟨e,he,rfl⟩:=List.mem_map.1 hr;exact hall e (by rw [List.take_of_length_le (by omega)];exact he)
        have HOK:=dh hok;have HB4:=dh (HB3.out.trans (hB4.mono HB3.out.size));clear hok hall hB4;go_wp2_with fail
        go_roundw
        case rel=>exact ⟨1,by go_num,by omega,fun _=>HOK.out,fun h=>absurd h (by omega),HB4.out⟩
        case measure=>simp [intOf]
   ·obtain ⟨y0,y1,y2,y3,y4,y5,y6,y7⟩:=ce HROW0.out
    obtain ⟨P1,N1⟩:=an u0 (o4 u C);have HPW:=dh (bwt HP0.out P1 hB);by_cases hkind:u.kind=5
    case neg=>
     have hkb:(u.kind !=5)=true:=by simpa using hkind
     have HNO:Hid (R=false):=dh (HRR.out.symm.trans (hvalid_nou (mapOk_kind hkind)));obtain ⟨z0,z1,z2,z3⟩:=cf N1;clear P1 N1;go_wp2_with fail
     go_ret
     exact ⟨by rw [HNO.out];try rfl,by rw [hB];exact HPW.out⟩
    have hkb:(u.kind !=5)=false:=by simpa using hkind
    have HKD:=dh hkind;have HB1:=dh (pt HB0.out (P1.mono (Nat.le_refl _)));have HX1:=kp P1 HX0;have HM1:=dh N1;have HI1:=dh (HJ0.out.below P1);have HE1:=dh (HE0.out.below P1);clear P1 N1 hkind;go_upto_region 4 with fail
    clear y0 y1 y2 y3 y4 y5 y6 y7;generalize u0.alloc _=u1 at *;generalize u0.heap.size=T at *;obtain ⟨z0,z1,z2,z3⟩:=cf HM1.out;cases hv:It.valid u with
    | false=>
      have HC:=dh (cva u C u1 _ HI1.out HE1.out false hv);have HNO:Hid (R=false):=dh (HRR.out.symm.trans (hvalid_nou (mapOk_valid hv)));go_wp2_with fail
      refine HC.out.mono ?_;rintro e u2 ⟨rfl,B2⟩;have HPW':=dh (bwt HPW.out B2 hB);clear HPW B2 HC;have HPW:=HPW';go_wp2_with fail
      go_ret
      exact ⟨by rw [HNO.out];try rfl,by rw [hB];exact HPW.out⟩
    | true=>
      have HC:=dh (cva u C u1 _ HI1.out HE1.out true hv);have HV:=dh hv;clear hv;go_wp2_with fail
      refine HC.out.mono ?_;rintro e u2 ⟨rfl,B2⟩;have HM2:=kp B2 HM1;have HP2:=dh (bwt HPW.out B2 hB);have HB2:=dh (pt HB1.out B2);have HCP:=dh (pairs_any u C u2 _ (HI1.out.below B2) (by have:=(It.mev HV.out HKD.out).2;omega));clear B2 HC HPW HB1 HX1 HM1 HI1 HE1 z0 z1 z2 z3;obtain ⟨z0,z1,z2,z3⟩:=cf HM2.out;go_wp2_with fail
      refine HCP.out.mono ?_;rintro e u3 ⟨L,a,c,rfl,hLm,hPT,B3⟩;have HP3:=dh (bwt HP2.out B3 hB);have HB3:=dh (pt HB2.out B3);have HLM:=dh hLm;have HLEN:Hid (L.length≤1000):=dh (by have h1:=congrArg List.length hLm;have h2:=It.mev HV.out HKD.out;have h3:=It.pairsK_length _ h2.1;rw [List.length_map] at h1;omega);have HPT:=dh hPT;clear hLm hPT B3 HCP HM2 HP2 HB2 z0 z1 z2 z3;go_upto_region 7 with fail
      go_loopw [44] (HL2 L u3) (fun i _=>L.length - (intOf i).toNat)
      case atStart=>exact ⟨0,rfl,by omega,fun e he=>by simp at he,Below.refl _ _⟩
      case round=>
       obtain ⟨v0,hv0⟩:∃ v0,v0=wr:=⟨_,rfl⟩;subst hv0;obtain ⟨q,rfl,hq,hall,hB4⟩:=hrel;by_cases hqL:q < L.length
       ·have hqz:(q:Int) < (L.length:Int):=by omega
        have hwq:IntKind.i64.wrap ((q:Int) + 1)=((q + 1:Nat):Int):=by have:=HLEN.out;rw [IntWalk.i64_in _ (by omega)];omega
        obtain ⟨b,o,hab,⟨c0,c1,c2,c3⟩,⟨d0,d1,d2,d3⟩,hIe,hJe⟩:=(HPT.out.below hB4).2 q hqL;subst hab;have hmem:L[q].p ∈ It.pairsK u.kids:=by rw [← HLM.out];exact List.mem_map_of_mem (List.getElem_mem _)
        have htake:L.take (q + 1)=L.take q ++ [L[q]]:=List.take_succ_eq_append_getElem hqL;have HMEM:=dh hmem;have HQL:=dh hqL;have HTAKE:=dh htake;clear hmem htake hIe hJe;generalize L[q]=e at *;have P5:=al v0 (.cells #[.int .i64 e.p.1.kind,.int .u64 (e.p.1.num:Int),.slice e.A.ab e.A.nb e.A.cb,.slice e.A.ai e.A.ni e.A.ci,.int .i64 e.p.2.kind,.int .u64 (e.p.2.num:Int),.slice e.C.ab e.C.nb e.C.cb,.slice e.C.ai e.C.ni e.C.ci] 90);have N5:=aw v0 (.cells #[.int .i64 e.p.1.kind,.int .u64 (e.p.1.num:Int),.slice e.A.ab e.A.nb e.A.cb,.slice e.A.ai e.A.ni e.A.ci,.int .i64 e.p.2.kind,.int .u64 (e.p.2.num:Int),.slice e.C.ab e.C.nb e.C.cb,.slice e.C.ai e.C.ni e.C.ci] 90);have HP5:=dh (bwt HP3.out (hB4.trans (P5.mono hB4.size)) hB);have HB5:=dh (hB4.trans (P5.mono hB4.size));have HN5:=dh N5;have HALL:=dh hall;clear P5 N5 hB4 hall;go_upto_region 9 with fail
        clear c0 c1 c2 c3 d0 d1 d2 d3;generalize v0.alloc _=v1 at *;generalize v0.heap.size=T5 at *;obtain ⟨c0,c1,c2,c3,d0,d1,d2,d3⟩:=ce HN5.out;have HCQ:=dh (permit_any e.p.1 e.p.2 e.A e.C v1);cases hpm:It.permit e.p with
        | false=>
          have hpm':It.permit (e.p.1,e.p.2)=false:=hpm;rw [hpm'] at HCQ;have HNO:Hid (R=false):=dh (HRR.out.symm.trans (hvalid_nou (mapOk_permit HMEM.out hpm)));go_wp2_with fail
          refine HCQ.out.mono ?_;rintro e6 v6 ⟨rfl,B6⟩;have HPW:=dh (bwt HP5.out B6 hB);clear B6 HCQ;go_wp2_with fail
          go_ret
          exact ⟨by rw [HNO.out];try rfl,by rw [hB];exact HPW.out⟩
        | true=>
          have hpm':It.permit (e.p.1,e.p.2)=true:=hpm;rw [hpm'] at HCQ;have HPM:=dh hpm;clear hpm hpm';go_wp2_with fail
          refine HCQ.out.mono ?_;rintro e6 v6 ⟨rfl,B6⟩;have HB6:=dh (HB5.out.trans (B6.mono HB5.out.size));clear B6 HCQ;go_wp2_with fail
          go_roundw
          case rel=>
           refine ⟨q + 1,by go_num,by have:=HQL.out;omega,fun e' he'=>?_,HB6.out⟩;rw [HTAKE.out] at he';rcases List.mem_append.1 he' with h | h
           ·exact HALL.out e' h
           ·simp only [List.mem_singleton] at h;subst h;exact HPM.out
          case measure=>have:=HQL.out;simp [intOf];omega
       ·have hqz:¬ (q:Int) < (L.length:Int):=by omega
        have hok:It.mapOk u=true:=mapOk_of HKD.out HV.out fun r hr=>by
         rw [← HLM.out] at hr;obtain ⟨e,he,rfl⟩:=List.mem_map.1 hr;exact hall e (by rw [List.take_of_length_le (by omega)];exact he)
        have HOK:=dh hok;have HB4:=dh (HB3.out.trans (hB4.mono HB3.out.size));clear hok hall hB4;go_wp2_with fail
        go_roundw
        case rel=>exact ⟨2,by go_num,by omega,fun _=>HK.out.1 (by omega),fun h=>HOK.out,HB4.out⟩
        case measure=>simp [intOf]
  ·have hkz:¬ (k:Int) < 2:=by omega
   have HMO:Hid (It.mapOk p=true∧It.mapOk u=true):=dh ⟨HK.out.1 (by omega),HK.out.2 (by omega)⟩;have hmp:=HMO.out.1;have hmu:=HMO.out.2;have HKV:Hid ((p.kind=5∧It.valid p=true)∧u.kind=5∧It.valid u=true):=dh (by
    unfold It.mapOk at hmp hmu;simp only [Bool.and_eq_true,decide_eq_true_eq] at hmp hmu;exact ⟨hmp.1,hmu.1⟩)
   clear hmp hmu;have HCP:=dh (pairs_any p A u0 _ HI0.out (by have:=(It.mev HKV.out.1.2 HKV.out.1.1).2;omega));have x:=ce HX0.out;go_wp2_with fail
   refine HCP.out.mono ?_;rintro e u3 ⟨L,a,c,rfl,hLm,hPT,B3⟩;have HP3:=dh (bwt HP0.out B3 hB);have HX3:=kp B3 HX0;have HI3:=dh (HI0.out.below B3);have HJ3:=dh (HJ0.out.below B3);have HE3:=dh (HE0.out.below B3);have HLM:=dh hLm;have HLEN:Hid (L.length≤1000):=dh (by have h1:=congrArg List.length hLm;have h2:=It.mev HKV.out.1.2 HKV.out.1.1;have h3:=It.pairsK_length _ h2.1;rw [List.length_map] at h1;omega);have HPT:=dh hPT;clear hLm hPT B3 HCP HP0 HX0 HI0 HJ0 HE0 HROW0 HB0 HX HROW HI HJ HE HP x;go_upto_region 14 with fail
   go_loopw [57] (HL3 L u u3) (fun i _=>L.length - (intOf i).toNat)
   case atStart=>exact ⟨0,rfl,by omega,fun e he=>by simp at he,Below.refl _ _⟩
   case round=>
    obtain ⟨v0,hv0⟩:∃ v0,v0=wr:=⟨_,rfl⟩;subst hv0;obtain ⟨q,rfl,hq,hall,hB4⟩:=hrel;by_cases hqL:q < L.length
    ·have hqz:(q:Int) < (L.length:Int):=by omega
     have hwq:IntKind.i64.wrap ((q:Int) + 1)=((q + 1:Nat):Int):=by have:=HLEN.out;rw [IntWalk.i64_in _ (by omega)];omega
     obtain ⟨b,o,hab,⟨c0,c1,c2,c3⟩,⟨d0,d1,d2,d3⟩,hIe,hJe⟩:=(HPT.out.below hB4).2 q hqL;subst hab;have hmem:L[q].p ∈ It.pairsK p.kids:=by rw [← HLM.out];exact List.mem_map_of_mem (List.getElem_mem _)
     have htake:L.take (q + 1)=L.take q ++ [L[q]]:=List.take_succ_eq_append_getElem hqL;have HMEM:=dh hmem;have HQL:=dh hqL;have HTAKE:=dh htake;clear hmem htake hJe;generalize L[q]=e at *;have P5:=al v0 (.cells #[.int .i64 e.p.1.kind,.int .u64 (e.p.1.num:Int),.slice e.A.ab e.A.nb e.A.cb,.slice e.A.ai e.A.ni e.A.ci,.int .i64 e.p.2.kind,.int .u64 (e.p.2.num:Int),.slice e.C.ab e.C.nb e.C.cb,.slice e.C.ai e.C.ni e.C.ci] 90);have N5:=aw v0 (.cells #[.int .i64 e.p.1.kind,.int .u64 (e.p.1.num:Int),.slice e.A.ab e.A.nb e.A.cb,.slice e.A.ai e.A.ni e.A.ci,.int .i64 e.p.2.kind,.int .u64 (e.p.2.num:Int),.slice e.C.ab e.C.nb e.C.cb,.slice e.C.ai e.C.ni e.C.ci] 90);have HB5:=dh (hB4.trans (P5.mono hB4.size));have HP5:=dh (bwt HP3.out HB5.out hB);have HN5:=dh N5;have HX5:=kp HB5.out HX3;have HALL:=dh hall;have HCF:=dh (cfind_any u e.p.1 C e.A (v0.alloc (.cells #[.int .i64 e.p.1.kind,.int .u64 (e.p.1.num:Int),.slice e.A.ab e.A.nb e.A.cb,.slice e.A.ai e.A.ni e.A.ci,.int .i64 e.p.2.kind,.int .u64 (e.p.2.num:Int),.slice e.C.ab e.C.nb e.C.cb,.slice e.C.ai e.C.ni e.C.ci] 90)) _ _ (HJ3.out.below HB5.out) (hIe.below P5) (HE3.out.below HB5.out));rw [findP_look HMO.out.2] at HCF;clear P5 N5 hB4 hall hIe;go_upto_region 16 with fail
     clear c0 c1 c2 c3 d0 d1 d2 d3;generalize v0.alloc _=v1 at *;generalize v0.heap.size=T5 at *;obtain ⟨c0,c1,c2,c3,d0,d1,d2,d3⟩:=ce HN5.out;have x:=ce HX5.out;cases hlk:It.look u.kids e.p.1 with
     | some z=>
       rw [hlk] at HCF;have HNO:Hid (R=false):=dh (HRR.out.symm.trans (hvalid_dup HMEM.out (by unfold It.hasK;rw [hlk];rfl)));clear hlk;go_wp2_with fail
       refine HCF.out.mono ?_;rintro e6 v6 ⟨ZZ,rfl,_,B6⟩;have HPW:=dh (bwt (bwt HP5.out B6 hB) (al v6 (o4 z ZZ)) hB);clear B6 HCF;go_wp2_with fail
       go_ret
       exact ⟨by rw [HNO.out];try rfl,by rw [hB];exact HPW.out⟩
     | none=>
       rw [hlk] at HCF;have HNK:Hid (It.hasK u.kids e.p.1=false):=dh (by unfold It.hasK;rw [hlk];rfl);clear hlk;go_wp2_with fail
       refine HCF.out.mono ?_;rintro e6 v6 ⟨rfl,B6⟩;have HB6:=dh ((HB5.out.trans (B6.mono HB5.out.size)).trans ((al v6 o4z).mono (Nat.le_trans HB5.out.size B6.size)));clear B6 HCF;go_wp2_with fail
       go_roundw
       case rel=>
        refine ⟨q + 1,by go_num,by have:=HQL.out;omega,fun e' he'=>?_,HB6.out⟩;rw [HTAKE.out] at he';rcases List.mem_append.1 he' with h | h
        ·exact HALL.out e' h
        ·simp only [List.mem_singleton] at h;subst h;exact HNK.out
       case measure=>have:=HQL.out;simp [intOf];omega
    ·have hqz:¬ (q:Int) < (L.length:Int):=by omega
     have HEND:Hid (R=(!It.hasK u.kids (It.int 2) && !((It.find2 p u 5).isSome && (It.find2 p u 6).isSome) && It.critOk p)):=dh (by
      rw [← HRR.out];refine hvalid_end HMO.out.1 HMO.out.2 fun r hr=>?_
      rw [← HLM.out] at hr;obtain ⟨e,he,rfl⟩:=List.mem_map.1 hr;exact hall e (by rw [List.take_of_length_le (by omega)];exact he))
     have HP4:=dh (bwt HP3.out hB4 hB);have HX4:=kp hB4 HX3;have HI4:=dh (HI3.out.below hB4);have HJ4:=dh (HJ3.out.below hB4);have HE4:=dh (HE3.out.below hB4);clear hall hB4 HP3 HX3 HI3 HJ3 HE3 HLM HPT HLEN HRR;have HC5:=dh (hfind_any p u A C 5 v0 _ _ (by omega) (by omega) HI4.out HJ4.out HE4.out);rw [find2P_eq HMO.out.1 HMO.out.2] at HC5;generalize hf5:It.find2 p u 5=r5 at *;have x:=ce HX4.out;go_wp2_with fail
     refine HC5.out.mono ?_;rintro e v5 ⟨_,rfl,hB5,A5,rfl,_⟩;have hQ5:=pt hB5 (al v5 (.cells #[.int .i64 (It.opt r5).kind,.int .u64 ((It.opt r5).num:Int),.slice A5.ab A5.nb A5.cb,.slice A5.ai A5.ni A5.ci] 26));have HP5:=dh (bwt HP4.out hQ5 hB);have HX5:=kp hQ5 HX4;have HI5:=dh (HI4.out.below hQ5);have HJ5:=dh (HJ4.out.below hQ5);have HE5:=dh (HE4.out.below hQ5);clear HP4 HX4 HI4 HJ4 HE4;go_upto_region 21 with fail
     generalize v5.alloc _=w5 at *;generalize v5.heap.size=T11 at *;generalize Option.isSome r5=b5 at *;clear hB5 hQ5 x HC5;have HC6:=dh (hfind_any p u A C 6 w5 _ _ (by omega) (by omega) HI5.out HJ5.out HE5.out);rw [find2P_eq HMO.out.1 HMO.out.2] at HC6;generalize hf6:It.find2 p u 6=r6 at *;have x:=ce HX5.out;go_wp2_with fail
     refine HC6.out.mono ?_;rintro e v6 ⟨_,rfl,hB6,A6,rfl,_⟩;have hQ6:=pt hB6 (al v6 (.cells #[.int .i64 (It.opt r6).kind,.int .u64 ((It.opt r6).num:Int),.slice A6.ab A6.nb A6.cb,.slice A6.ai A6.ni A6.ci] 26));have HP6:=dh (bwt HP5.out hQ6 hB);have HX6:=kp hQ6 HX5;have HI6:=dh (HI5.out.below hQ6);have HJ6:=dh (HJ5.out.below hQ6);have HE6:=dh (HE5.out.below hQ6);clear HP5 HX5 HI5 HJ5 HE5;go_upto_region 22 with fail
     generalize v6.alloc _=w6 at *;generalize v6.heap.size=T13 at *;generalize Option.isSome r6=b6 at *;clear hB6 hQ6 x HC6;have HI6':=dh (HI6.out.imp (ok':=fun _=>True) fun _ _ _=>trivial);have HJ6':=dh (HJ6.out.imp (ok':=fun _=>True) fun _ _ _=>trivial);have HBL:Hid (B < w6.heap.size):=dh (lb HX6.out);refine rgh (M:=8) (fun _=>True) [.eq (.pointer (some ⟨B,4,none⟩)),.it u,.it (It.int 2),.op (It.look u.kids (It.int 2)),.op (It.look u.kids (It.int 2)),.it (It.opt (It.look u.kids (It.int 2))),.eq (.bool (It.look u.kids (It.int 2)).isSome),.bk w6.heap.size o4z] [.pl,.pl,.pl,.pa,.la,.la,.la,.pa] 3 7 (.op (It.look u.kids (It.int 2))) (by kernel_rfl) (by kernel_rfl) (by kernel_rfl) (fun _ _ o _ _ h=>by cases o <;> exact h) ?_ ?_
     ·refine ⟨?_,?_,?_,?_,?_,?_,?_,?_,trivial⟩<;>intro vs W hR _ hd;exact dfd 28 (.tmp 1) (B) 1 4 rfl (by kernel_rfl) (fieldH1 _);exact dlU (.tmp 82) (B) p u A C hR HX6.out HJ6'.out rfl (hd 0 (dd rfl));exact dcl (vals:=#[(.int .i64 2)]) 69 (.func 69) #[.const (.int .i64 2)] _ rfl (by kernel_rfl) (by kernel_rfl) (cq Tryz.func69) (h_cint 2 ⟨by decide,by decide⟩ W _);exact dfi (vals:=#[vs 1,vs 2]) 63 (.func 63) #[.tmp 83,.tmp 84] _ rfl (by kernel_rfl) (by kernel_rfl) (cq Tryz.func63) rfl rfl (by decide) (fun _ _=>trivial) ((by have h:=h_cfind (hd 1 (dd rfl)) (hd 2 (dd rfl)) (HE6.out.below hR);rw [findP_look HMO.out.2] at h;exact h));exact late_move (.tmp 85) rfl (hd 3 (dd rfl));exact late_op0 (.tmp 81) rfl (hd 4 (dd rfl));exact late_op1 (.tmp 81) rfl (hd 4 (dd rfl));exact dal rfl rfl rfl (by decide) hR.size
     ·intro vs W7 hR7 hf hD hE
      obtain ⟨ZZ,e3,hI3⟩:=hf 3 (dd rfl);obtain ⟨T15,e7,hT15,hTn⟩:=hf 7 (dd rfl);have e4:vs 4=_:=(exm (hE 4 _ (by decide) rfl W7) (.tmp 85) rfl).trans e3;have e5:vs 5=_:=ex0 (hE 5 _ (by decide) rfl W7) (.tmp 81) rfl e4;have e6:vs 6=_:=ex1 (hE 6 _ (by decide) rfl W7) (.tmp 81) rfl e4;have HT15:=dh hT15;have HTN:=dh hTn;have hQ7:Below w6.heap.size w6 W7:=hR7;have HP7:=dh (bwt HP6.out hQ7 hB);have HX7:=kp hQ7 HX6;have HI7:=dh (HI6.out.below hQ7);have HJ7:=dh (HJ6.out.below hQ7);have HE7:=dh (HE6.out.below hQ7);have HBW7:=dh hQ7;simp only [sr,Nat.zero_add,Nat.reduceAdd,e5,e6,e7];clear hf hD hE e3 e4 e5 e6 e7 hI3 hT15 hTn hR7 hQ7;have HB22:Hid (It.hasK u.kids (It.int 2)=(It.look u.kids (It.int 2)).isSome):=dh rfl;generalize It.look u.kids (It.int 2)=r22 at *;have f:=ff HT15.out;have t:=cf HT15.out;go_upto_region 23 with fail
      clear t f;have hT:=HTN.out;have hBl:=HBL.out;obtain ⟨W',hW',hp4,hs4,hb4⟩:=p4I (W:=W7) (b:=T15) HT15.out (It.opt r22) ZZ;rw [hW'];clear hW';have HP8:=dh (hb4 B w HP7.out (by omega));have HX8:=dh ((hs4.2 B (by omega)).trans HX7.out);have HI8:=dh (HI7.out.keep (w':=W') (ok':=fun b=>b < B) fun b hb hl=>⟨hs4.2 b (by omega),hb⟩);have HJ8:=dh (HJ7.out.keep (w':=W') (ok':=fun b=>b < B) fun b hb hl=>⟨hs4.2 b (by omega),hb⟩);have hB8:=hb4 T15 W7 (Below.refl _ _) (Nat.le_refl _);have HE8:=dh (But.env HE7.out (⟨hB8.os,hB8.tape,hB8.output,hB8.size,fun k _ hne=>hs4.2 k hne⟩:But T15 W7 W') (by have:=HT1.out;omega));clear hp4 hs4 hb4 hB8 hT hBl HP7 HX7 HI7 HJ7 HE7 HT15 HTN HBL HBW7 HP6 HX6 HI6 HJ6 HE6 HI6' HJ6';generalize W'=w8 at *;generalize Option.isSome r22=b22 at *;rw [HB22.out] at HEND;clear HB22;go_cut [94] from 88 to 94 (fun v W=>v=.bool (b22 || b5 && b6)∧W=w8)
      case first=>
       cases b22 <;> cases b5 <;> cases b6 <;> (go_wp2_with fail;go_meet;exact ⟨rfl,rfl⟩)
      case rest=>
       obtain ⟨rfl,hwc⟩:=hcut;subst hwc;cases hg:(b22 || b5 && b6) with
       | true=>
         have HNO:Hid (R=false):=dh (by rw [HEND.out];cases b22 <;> cases b5 <;> cases b6 <;> simp_all)
         have HPW:=HP8;go_wp2_with fail
         go_ret
         exact ⟨by rw [HNO.out];try rfl,by rw [hB];exact HPW.out⟩
       | false=>
         have HEC:Hid (R=It.critOk p):=dh (by rw [HEND.out];cases b22 <;> cases b5 <;> cases b6 <;> simp_all)
         have HBL:Hid (B < wc.heap.size):=dh (lb HX8.out);have HI8':=dh (HI8.out.imp (ok':=fun _=>True) fun _ _ _=>trivial);have HJ8':=dh (HJ8.out.imp (ok':=fun _=>True) fun _ _ _=>trivial);clear HEND hg;go_upto_region 25 with fail
         refine rgh (M:=8) (fun _=>True) [.eq (.pointer (some ⟨B,0,none⟩)),.it p,.it (It.int 2),.op (It.look p.kids (It.int 2)),.op (It.look p.kids (It.int 2)),.it (It.opt (It.look p.kids (It.int 2))),.eq (.bool (It.look p.kids (It.int 2)).isSome),.bk wc.heap.size o4z] [.pl,.pl,.pl,.pa,.la,.la,.la,.pa] 3 7 (.op (It.look p.kids (It.int 2))) (by kernel_rfl) (by kernel_rfl) (by kernel_rfl) (fun _ _ o _ _ h=>by cases o <;> exact h) ?_ ?_
         ·refine ⟨?_,?_,?_,?_,?_,?_,?_,?_,trivial⟩<;>intro vs W hR _ hd;exact dfd 28 (.tmp 1) (B) 0 0 rfl (by kernel_rfl) (fieldH0 _);exact dlP (.tmp 96) (B) p u A C hR HX8.out HI8'.out rfl (hd 0 (dd rfl));exact dcl (vals:=#[(.int .i64 2)]) 69 (.func 69) #[.const (.int .i64 2)] _ rfl (by kernel_rfl) (by kernel_rfl) (cq Tryz.func69) (h_cint 2 ⟨by decide,by decide⟩ W _);exact dfi (vals:=#[vs 1,vs 2]) 63 (.func 63) #[.tmp 97,.tmp 98] _ rfl (by kernel_rfl) (by kernel_rfl) (cq Tryz.func63) rfl rfl (by decide) (fun _ _=>trivial) ((by have h:=h_cfind (hd 1 (dd rfl)) (hd 2 (dd rfl)) (HE8.out.below hR);rw [findP_look HMO.out.1] at h;exact h));exact late_move (.tmp 99) rfl (hd 3 (dd rfl));exact late_op0 (.tmp 95) rfl (hd 4 (dd rfl));exact late_op1 (.tmp 95) rfl (hd 4 (dd rfl));exact dal rfl rfl rfl (by decide) hR.size
         ·intro vs W9 hR9 hf hD hE
          obtain ⟨ZZ,e3,hI3⟩:=hf 3 (dd rfl);obtain ⟨T17,e7,hT17,hTn⟩:=hf 7 (dd rfl);have hD3:=hD (by decide) (by decide) T17 e7;obtain ⟨Z2,e32,hI32⟩:=hD3;obtain rfl:ZZ=Z2:=by
           rw [e3] at e32;cases ZZ;cases Z2
           simp only [Value.tuple.injEq,Value.agg.injEq,Value.slice.injEq,Array.mk.injEq,List.cons.injEq,and_true,true_and] at e32;obtain ⟨⟨r1,r2,r3⟩,r4,r5,r6⟩:=e32;subst r1;subst r2;subst r3;subst r4;subst r5;subst r6;rfl
          have e4:vs 4=_:=(exm (hE 4 _ (by decide) rfl W9) (.tmp 99) rfl).trans e3;have e5:vs 5=_:=ex0 (hE 5 _ (by decide) rfl W9) (.tmp 95) rfl e4;have e6:vs 6=_:=ex1 (hE 6 _ (by decide) rfl W9) (.tmp 95) rfl e4;have HT17:=dh hT17;have HTN:=dh hTn;have HIZ:=dh hI32;have hQ9:Below wc.heap.size wc W9:=hR9;have HP9:=dh (bwt HP8.out hQ9 hB);have HX9:=kp hQ9 HX8;have HI9:=dh (HI8.out.below hQ9);have HE9:=dh (HE8.out.below hQ9);simp only [sr,Nat.zero_add,Nat.reduceAdd,e5,e6,e7];clear hf hD hE e3 e4 e5 e6 e7 e32 hI3 hI32 hT17 hTn hR9 hQ9;have HCR:Hid (It.critOk p=(match It.look p.kids (It.int 2) with | .none=>true | some c=>c.kids.all (It.hasK p.kids) && decide (c.kind=4) && decide (0 < c.kids.length))):=dh rfl
          have HLV:Hid (∀ c,It.look p.kids (It.int 2)=some c→It.valid c=true):=dh fun c hc=>It.valid_kid HKV.out.1.2 (It.look_mem hc)
          generalize It.look p.kids (It.int 2)=r25 at *;have f:=ff HT17.out;have t:=cf HT17.out;go_upto_region 26 with fail
          clear t f;have hT:=HTN.out;have hBl:=HBL.out;obtain ⟨W',hW',hp4,hs4,hb4⟩:=p4I (W:=W9) (b:=T17) HT17.out (It.opt r25) ZZ;rw [hW'];clear hW';have HP10:=dh (hb4 B w HP9.out (by omega));have HX10:=dh ((hs4.2 B (by omega)).trans HX9.out);have HI10:=dh (HI9.out.keep (w':=W') (ok':=fun b=>b < B) fun b hb hl=>⟨hs4.2 b (by omega),hb⟩);have HIZ10:=dh (HIZ.out.keep (w':=W') (ok':=fun _=>True) fun b hb hl=>⟨hs4.2 b hb.1,trivial⟩);have HTC:=dh hp4;have hB10:=hb4 T17 W9 (Below.refl _ _) (Nat.le_refl _);have HE10:=dh (But.env HE9.out (⟨hB10.os,hB10.tape,hB10.output,hB10.size,fun k _ hne=>hs4.2 k hne⟩:But T17 W9 W') (by have:=HT1.out;omega));clear hp4 hs4 hb4 hB10 hT hBl HP9 HX9 HI9 HE9 HT17 HTN HBL HP8 HX8 HI8 HJ8 HE8 HI8' HJ8' HIZ;generalize W'=w10 at *;cases r25 with
          | none=>
            have HNO:Hid (R=true):=dh (by rw [HEC.out,HCR.out]);simp only [It.opt,Option.getD_none,Option.isSome_none] at *;have HPW:=HP10;go_wp2_with fail
            go_ret
            exact ⟨by rw [HNO.out];try rfl,by rw [hB];exact HPW.out⟩
          | some c=>
            have HRC:Hid (R=(c.kids.all (It.hasK p.kids) && decide (c.kind=4) && decide (0 < c.kids.length))):=dh (by rw [HEC.out,HCR.out]);have HVC:=dh (HLV.out c rfl);clear HEC HCR HLV;simp only [It.opt,Option.getD_some,Option.isSome_some] at *;obtain ⟨zab,znb,zcb,zai,zni,zci⟩:=ZZ
            dsimp only at *
            have HNI:Hid (zni=c.kids.length):=dh HIZ10.out.tl.1;have HKL:=dh (kids_le HVC.out);have t:=cf HTC.out;go_upto_region 29 with fail
            go_loopw [107] (HL4 c.kids p w10) (fun i _=>c.kids.length - (intOf i).toNat)
            case atStart=>exact ⟨0,rfl,by omega,fun y hy=>by simp at hy,Below.refl _ _⟩
            case round=>
             obtain ⟨v0,hv0⟩:∃ v0,v0=wr:=⟨_,rfl⟩;subst hv0;obtain ⟨q,rfl,hq,hall,hB11⟩:=hrel;by_cases hqL:q < c.kids.length
             ·have hqz:(q:Int) < (zni:Int):=by have:=HNI.out;omega
              have hwq:IntKind.i64.wrap ((q:Int) + 1)=((q + 1:Nat):Int):=by have:=HKL.out;rw [IntWalk.i64_in _ (by omega)];omega
              obtain ⟨b,o,Y,hab,_,⟨c0,c1,c2,c3⟩,hIe⟩:=(HIZ10.out.tl.below hB11).2.2 q hqL;have htake:c.kids.take (q + 1)=c.kids.take q ++ [c.kids[q]]:=List.take_succ_eq_append_getElem hqL;have HQL:=dh hqL;have HTAKE:=dh htake;clear htake;generalize c.kids[q]=y at *;have hab:zai=some ⟨b,o,none⟩:=hab;subst hab;obtain ⟨P5,N5⟩:=an v0 (o4 y Y);have HB5:=dh (hB11.trans (P5.mono hB11.size));have HP5:=dh (bwt HP10.out HB5.out hB);have HN5:=dh N5;have HX5:=kp HB5.out HX10;have HALL:=dh hall;have HCF:=dh (cfind_any p y A Y (v0.alloc (o4 y Y)) _ _ (HI10.out.below HB5.out) (hIe.below P5) (HE10.out.below HB5.out));rw [findP_look HMO.out.1] at HCF;clear P5 N5 hB11 hall hIe t;go_upto_region 31 with fail
              clear c0 c1 c2 c3;generalize v0.alloc _=v1 at *;generalize v0.heap.size=T5 at *;obtain ⟨c0,c1,c2,c3⟩:=cf HN5.out;have x:=ce HX5.out;cases hlk:It.look p.kids y with
              | none=>
                rw [hlk] at HCF;have HNO:Hid (R=false):=dh (by
                 rw [HRC.out];have hm:y ∈ c.kids:=List.mem_of_mem_take (by rw [HTAKE.out];simp);have:c.kids.all (It.hasK p.kids)=false:=by
                  rw [Bool.eq_false_iff];intro h;rw [List.all_eq_true] at h;have:=h y hm;unfold It.hasK at this;rw [hlk] at this;cases this
                 rw [this];rfl)
                clear hlk;go_wp2_with fail
                refine HCF.out.mono ?_;rintro e6 v6 ⟨rfl,B6⟩;have HPW:=dh (bwt (bwt HP5.out B6 hB) (al v6 o4z) hB);clear B6 HCF;go_wp2_with fail
                go_ret
                exact ⟨by rw [HNO.out];try rfl,by rw [hB];exact HPW.out⟩
              | some z=>
                rw [hlk] at HCF;have HNK:Hid (It.hasK p.kids y=true):=dh (by unfold It.hasK;rw [hlk];rfl);clear hlk;go_wp2_with fail
                refine HCF.out.mono ?_;rintro e6 v6 ⟨ZB,rfl,_,B6⟩;have HB6:=dh ((HB5.out.trans (B6.mono HB5.out.size)).trans ((al v6 (o4 z ZB)).mono (Nat.le_trans HB5.out.size B6.size)));clear B6 HCF;go_wp2_with fail
                go_roundw
                case rel=>
                 refine ⟨q + 1,by go_num,by have:=HQL.out;omega,fun e' he'=>?_,HB6.out⟩;rw [HTAKE.out] at he';rcases List.mem_append.1 he' with h | h
                 ·exact HALL.out e' h
                 ·simp only [List.mem_singleton] at h;subst h;exact HNK.out
                case measure=>have:=HQL.out;simp [intOf];omega
             ·have hqz:¬ (q:Int) < (zni:Int):=by have:=HNI.out;omega
              have hAll:c.kids.all (It.hasK p.kids)=true:=by
               rw [List.all_eq_true];intro y hy;exact hall y (by rw [List.take_of_length_le (by omega)];exact hy)
              have HRC2:Hid (R=(decide (c.kind=4) && decide (0 < c.kids.length))):=dh (by rw [HRC.out,hAll];simp);have HPW:=dh (bwt HP10.out hB11 hB);have t:=ck hB11 HTC;clear hall hAll hB11;by_cases hk4:c.kind=4
              ·have hk4b:(c.kind==4)=true:=by simpa using hk4
               by_cases hl0:0 < c.kids.length
               ·have hl0z:0 < zni:=by have:=HNI.out;omega
                have hgb:decide ((0:Int) < (zni:Int))=true:=dt (by have:=HNI.out;omega);have HNO:Hid (R=true):=dh (by rw [HRC2.out,dt hk4,dt hl0];rfl);go_wp2_with fail
                go_ret
                exact ⟨by rw [HNO.out];try rfl,by rw [hB];exact HPW.out⟩
               ·have hl0z:¬ 0 < zni:=by have:=HNI.out;omega
                have hl0e:zni=0:=by omega
                have hgb:decide ((0:Int) < (zni:Int))=false:=df (by have:=HNI.out;omega);have HNO:Hid (R=false):=dh (by rw [HRC2.out,dt hk4,df hl0];rfl);go_wp2_with fail
                go_ret
                exact ⟨by rw [HNO.out];try rfl,by rw [hB];exact HPW.out⟩
              ·have hk4b:(c.kind==4)=false:=by simpa using hk4
               have HNO:Hid (R=false):=dh (by rw [HRC2.out,df hk4];rfl);go_wp2_with fail
               go_ret
               exact ⟨by rw [HNO.out];try rfl,by rw [hB];exact HPW.out⟩
theorem h_same {ok:Nat→Prop} {v1 v2:Value} {W:World} {x y:It} (h1:(Fh.it x).holds ok v1 W) (h2:(Fh.it y).holds ok v2 W):Calls Tryz.prog 30 #[v1,v2] W (EndO ok W (.eq (.bool (It.same x y)))):=by
 obtain ⟨A,rfl,hI⟩:=h1;obtain ⟨K,rfl,hK⟩:=h2;exact (same_any x y A K W _ _ hI hK).mono fun _ _ h=>⟨_,h.1,h.2,rfl⟩
theorem dlV {o:Oper} {ρ:Operand→Value} {w:World} {ok:Nat→Prop} {W:World} (x:Operand) (b:Nat) (k:It) (A:Ad) (hW:Below w.heap.size w W) (hb:w.heap[b]?=some (.cells #[.int .i64 k.kind,.int .u64 (k.num:Int),.slice A.ab A.nb A.cb,.slice A.ai A.ni A.ci] 26 (0,0))) (hI:IR ok w k A) (ho:o.op=.load 26 x) (hx:ρ x=.pointer (some ⟨b,0,none⟩)):Rg.Does Tryz.prog o ρ W fun v' w'=>RB' W w'∧True∧(Fh.it k).holds ok v' w':=by
 obtain ⟨a0,a1,a2,a3⟩:=cf (bkp hW hb (lb hb));exact dld x b 0 k A ho hx a0 a1 a2 a3 (hI.below hW)
def labs (q:Nat):Int:=if q=0 then 4 else if q=1 then 5 else if q=2 then 6 else 12
def VL1 (l ks:List It) (w1:World) (i:Value) (W:World):Prop:=∃ q:Nat,i=.int .i64 (q:Int)∧q≤ks.length∧(∀ y ∈ ks.take q,It.hasK l y=true)∧Below w1.heap.size w1 W
def VL2 (key:It) (w1:World) (i:Value) (W:World):Prop:=∃ q:Nat,i=.int .i64 (q:Int)∧q≤4∧(∀ j,j < q→It.same key (It.int (labs j))=false)∧Below w1.heap.size w1 W
theorem rvalue_any (key v m:It) (K A M:Ad) (w:World) (ok ok' ok2:Nat→Prop) (hI:IR ok w key K) (hJ:IR ok' w v A) (hM:IR ok2 w m M) (hvl:v.kids.length≤1000) (hml:m.kids.length≤1000):Calls Tryz.prog 86 #[.agg #[.int .i64 key.kind,.int .u64 (key.num:Int),.slice K.ab K.nb K.cb,.slice K.ai K.ni K.ci],.agg #[.int .i64 v.kind,.int .u64 (v.num:Int),.slice A.ab A.nb A.cb,.slice A.ai A.ni A.ci],.agg #[.int .i64 m.kind,.int .u64 (m.num:Int),.slice M.ab M.nb M.cb,.slice M.ai M.ni M.ci]] w (VP (It.valR key v m.kids) w):=by
 obtain ⟨P0,N0⟩:=an w (o4 key K);obtain ⟨P1,N1⟩:=an (w.alloc (o4 key K)) (o4 v A);obtain ⟨P2,N2⟩:=an ((w.alloc (o4 key K)).alloc (o4 v A)) (o4 m M);have hsz0:(w.alloc (o4 key K)).heap.size=w.heap.size + 1:=by simp
 have hsz1:((w.alloc (o4 key K)).alloc (o4 v A)).heap.size=w.heap.size + 2:=by simp
 rw [hsz0] at N1;rw [hsz1] at N2;have HX:=dh (bkp P2 (bkp P1 N0 (lb N0)) (lb (bkp P1 N0 (lb N0))));have HY:=dh (bkp P2 N1 (lb N1));have HZ:=dh N2;have HP:=dh (pt (pt P0 P1) P2);have HI:=dh (((((hI.imp (ok':=fun _=>True) fun _ _ _=>trivial).below P0).below P1).below P2));have HJ:=dh (((((hJ.imp (ok':=fun _=>True) fun _ _ _=>trivial).below P0).below P1).below P2));have HM:=dh (((((hM.imp (ok':=fun _=>True) fun _ _ _=>trivial).below P0).below P1).below P2));have HLN:=dh (And.intro hvl hml);clear hI hJ hM hvl hml N0 N1 N2 P0 P1 P2 hsz0 hsz1;obtain ⟨R,hRR⟩:∃ R,It.valR key v m.kids=R:=⟨_,rfl⟩;rw [hRR];have HRR:=dh hRR;clear hRR;go_enter Tryz.func86,Tryz.ntmps86
 go_upto_region 1 with fail
 generalize (((w.alloc (o4 key K)).alloc (o4 v A)).alloc (o4 m M))=w1 at *;generalize hB:w.heap.size=B at *;refine rgh (M:=4) (fun _=>True) [.it key,.it (It.int 1),.eq (.bool (It.same key (It.int 1))),.eq (.bool (It.same key (It.int 1)))] [.pl,.pl,.pl,.pl] 4 4 (.any) (by kernel_rfl) (by kernel_rfl) (by kernel_rfl) (fun _ _ o _ _ h=>by cases o <;> exact h) ?_ ?_
 ·refine ⟨?_,?_,?_,?_,trivial⟩<;>intro vs W hR _ hd;exact dlV (.tmp 3) B key K hR HX.out HI.out rfl (by kernel_rfl);exact dcl (vals:=#[(.int .i64 1)]) 62 (.func 62) #[.const (.int .i64 1)] _ rfl (by kernel_rfl) (by kernel_rfl) (cq Tryz.func62) (h_rint 1 ⟨by decide,by decide⟩ W _);exact dcl (vals:=#[vs 0,vs 1]) 30 (.func 30) #[.tmp 14,.tmp 15] _ rfl (by kernel_rfl) (by kernel_rfl) (cq Tryz.func30) (h_same (hd 0 (dd rfl)) (hd 1 (dd rfl)));exact doesh_assign (.tmp 16) rfl (hd 2 (dd rfl))
 ·intro vs W2 hR2 hf hD hE
  have e3:vs 3=.bool (It.same key (It.int 1)):=hf 3 (dd rfl);have hQ2:Below w1.heap.size w1 W2:=hR2;have HP2:=dh (bwt HP.out hQ2 hB);have HX2:=kp hQ2 HX;have HY2:=kp hQ2 HY;have HZ2:=kp hQ2 HZ;have HI2:=dh (HI.out.below hQ2);have HJ2:=dh (HJ.out.below hQ2);have HM2:=dh (HM.out.below hQ2);clear HP HX HY HZ HI HJ HM;simp only [sr,Nat.zero_add,Nat.reduceAdd,e3];clear hf hD hE e3 hR2 hQ2;cases hs1:It.same key (It.int 1) with
  | true=>
    have HRV:Hid (R=((decide (v.kind=0) && decide (0 < v.num) || decide (v.kind=1)) && decide (v.num≤65535))):=dh (by rw [← HRR.out];unfold It.valR;rw [if_pos hs1]);obtain ⟨y0,y1,y2,y3⟩:=cf HY2.out;clear hs1 HRR;have hkk:(v.kind=0∧(v.kind==0)=true∧(v.kind==1)=false)∨(v.kind=1∧(v.kind==0)=false∧(v.kind==1)=true)∨(¬ v.kind=0∧¬ v.kind=1∧(v.kind==0)=false∧(v.kind==1)=false):=by
     by_cases k0:v.kind=0
     ·exact .inl ⟨k0,by rw [k0];rfl,by rw [k0];rfl⟩
     by_cases k1:v.kind=1
     ·exact .inr (.inl ⟨k1,by rw [k1];rfl,by rw [k1];rfl⟩)
     ·exact .inr (.inr ⟨k0,k1,by simpa using k0,by simpa using k1⟩)
    have hll:((v.num≤65535∧decide ((v.num:Int)≤65535)=true)∨(¬ v.num≤65535∧decide ((v.num:Int)≤65535)=false)):=by
     by_cases l:v.num≤65535
     ·exact .inl ⟨l,dt (by omega)⟩
     ·exact .inr ⟨l,df (by omega)⟩
    by_cases hn0:v.num=0
    ·have hn0b:decide ((0:Int) < (v.num:Int))=false:=df (by omega)
     rcases hkk with ⟨k0,k0b,k1b⟩ | ⟨k1,k0b,k1b⟩ | ⟨k0,k1,k0b,k1b⟩ <;> rcases hll with ⟨l,lb⟩ | ⟨l,lb⟩ <;> first | (exfalso;omega) | (go_wp2_with fail;go_ret;exact ⟨by rw [HRV.out];simp [*],by rw [hB];exact HP2.out⟩)
    ·have hn0b:decide ((0:Int) < (v.num:Int))=true:=dt (by omega)
     have hn0c:0 < v.num:=by omega
     rcases hkk with ⟨k0,k0b,k1b⟩ | ⟨k1,k0b,k1b⟩ | ⟨k0,k1,k0b,k1b⟩ <;> rcases hll with ⟨l,lb⟩ | ⟨l,lb⟩ <;> first | (exfalso;omega) | (go_wp2_with fail;go_ret;exact ⟨by rw [HRV.out];simp [*],by rw [hB];exact HP2.out⟩)
  | false=>
    have HS1:=dh hs1;clear hs1;go_upto_region 3 with fail
    refine rgh (M:=4) (fun _=>True) [.it key,.it (It.int 2),.eq (.bool (It.same key (It.int 2))),.eq (.bool (It.same key (It.int 2)))] [.pl,.pl,.pl,.pl] 4 4 (.any) (by kernel_rfl) (by kernel_rfl) (by kernel_rfl) (fun _ _ o _ _ h=>by cases o <;> exact h) ?_ ?_
    ·refine ⟨?_,?_,?_,?_,trivial⟩<;>intro vs W hR _ hd;exact dlV (.tmp 3) B key K hR HX2.out HI2.out rfl (by kernel_rfl);exact dcl (vals:=#[(.int .i64 2)]) 62 (.func 62) #[.const (.int .i64 2)] _ rfl (by kernel_rfl) (by kernel_rfl) (cq Tryz.func62) (h_rint 2 ⟨by decide,by decide⟩ W _);exact dcl (vals:=#[vs 0,vs 1]) 30 (.func 30) #[.tmp 36,.tmp 37] _ rfl (by kernel_rfl) (by kernel_rfl) (cq Tryz.func30) (h_same (hd 0 (dd rfl)) (hd 1 (dd rfl)));exact doesh_assign (.tmp 38) rfl (hd 2 (dd rfl))
    ·intro vs W3 hR3 hf hD hE
     have e3:vs 3=.bool (It.same key (It.int 2)):=hf 3 (dd rfl);have hQ3:Below W2.heap.size W2 W3:=hR3;have HP3:=dh (bwt HP2.out hQ3 hB);have HX3:=kp hQ3 HX2;have HY3:=kp hQ3 HY2;have HZ3:=kp hQ3 HZ2;have HI3:=dh (HI2.out.below hQ3);have HJ3:=dh (HJ2.out.below hQ3);have HM3:=dh (HM2.out.below hQ3);clear HP2 HX2 HY2 HZ2 HI2 HJ2 HM2;simp only [sr,Nat.zero_add,Nat.reduceAdd,e3];clear hf hD hE e3 hR3 hQ3;cases hs2:It.same key (It.int 2) with
     | true=>
       have HRV:Hid (R=(if v.kind≠4∨v.kids.length=0 then false else v.kids.all (It.hasK m.kids))):=dh (by rw [← HRR.out];unfold It.valR;rw [if_neg (by rw [HS1.out];decide),if_pos hs2]);obtain ⟨y0,y1,y2,y3⟩:=cf HY3.out;have HNI:Hid (A.ni=v.kids.length):=dh HJ3.out.tl.1;clear hs2 HRR;by_cases hk4:v.kind=4
       case neg=>
        have hk4b:(v.kind !=4)=true:=by simpa using hk4
        have HNO:Hid (R=false):=dh (by rw [HRV.out,if_pos (.inl hk4)]);go_wp2_with fail
        go_ret
        exact ⟨by rw [HNO.out];try rfl,by rw [hB];exact HP3.out⟩
       have hk4b:(v.kind !=4)=false:=by simpa using hk4
       by_cases hl0:v.kids.length=0
       ·have hl0z:A.ni=0:=by have:=HNI.out;omega
        have hl0b:((A.ni:Int)==0)=true:=by simpa using hl0z
        have HNO:Hid (R=false):=dh (by rw [HRV.out,if_pos (.inr hl0)]);go_wp2_with fail
        go_ret
        exact ⟨by rw [HNO.out];try rfl,by rw [hB];exact HP3.out⟩
       have hl0b:((A.ni:Int)==0)=false:=by have:=HNI.out;simpa using (show ¬ (A.ni:Int)=0 by omega)
       have HRA:Hid (R=v.kids.all (It.hasK m.kids)):=dh (by rw [HRV.out,if_neg (by omega)]);clear HRV hk4 hl0;obtain ⟨ab,nb,cb,ai,ni,ci⟩:=A
       dsimp only at *
       go_upto_region 7 with fail
       go_loopw [51] (VL1 m.kids v.kids W3) (fun i _=>v.kids.length - (intOf i).toNat)
       case atStart=>exact ⟨0,rfl,by omega,fun y hy=>by simp at hy,Below.refl _ _⟩
       case round=>
        obtain ⟨v0,hv0⟩:∃ v0,v0=wr:=⟨_,rfl⟩;subst hv0;obtain ⟨q,rfl,hq,hall,hB11⟩:=hrel;by_cases hqL:q < v.kids.length
        ·have hqz:(q:Int) < (ni:Int):=by have:=HNI.out;omega
         have hwq:IntKind.i64.wrap ((q:Int) + 1)=((q + 1:Nat):Int):=by have:=HLN.out.1;rw [IntWalk.i64_in _ (by omega)];omega
         obtain ⟨b,o,Y,hab,_,⟨c0,c1,c2,c3⟩,hIe⟩:=(HJ3.out.tl.below hB11).2.2 q hqL;have htake:v.kids.take (q + 1)=v.kids.take q ++ [v.kids[q]]:=List.take_succ_eq_append_getElem hqL;have HQL:=dh hqL;have HTAKE:=dh htake;clear htake;generalize v.kids[q]=y at *;have hab:ai=some ⟨b,o,none⟩:=hab;subst hab;obtain ⟨P5,N5⟩:=an v0 (o4 y Y);have HB5:=dh (hB11.trans (P5.mono hB11.size));have HP5:=dh (bwt HP3.out HB5.out hB);have HN5:=dh N5;have HZ5:=kp HB5.out HZ3;have HALL:=dh hall;have HCF:=dh (at_any m y M Y (v0.alloc (o4 y Y)) _ _ (HM3.out.below HB5.out) (hIe.below P5) HLN.out.2);clear P5 N5 hB11 hall hIe y0 y1 y2 y3;go_upto_region 9 with fail
         clear c0 c1 c2 c3;generalize v0.alloc _=v1 at *;generalize v0.heap.size=T5 at *;obtain ⟨c0,c1,c2,c3⟩:=cf HN5.out;have x:=cf HZ5.out;cases hlk:It.look m.kids y with
         | none=>
           rw [hlk] at HCF;have HNO:Hid (R=false):=dh (by
            rw [HRA.out];have hm:y ∈ v.kids:=List.mem_of_mem_take (by rw [HTAKE.out];simp);rw [Bool.eq_false_iff];intro h;rw [List.all_eq_true] at h;have:=h y hm;unfold It.hasK at this;rw [hlk] at this;cases this)
           clear hlk;go_wp2_with fail
           refine HCF.out.mono ?_;rintro e6 v6 ⟨rfl,B6⟩;have HPW:=dh (bwt (bwt HP5.out B6 hB) (al v6 o4z) hB);clear B6 HCF;go_wp2_with fail
           go_ret
           exact ⟨by rw [HNO.out];try rfl,by rw [hB];exact HPW.out⟩
         | some z=>
           rw [hlk] at HCF;have HNK:Hid (It.hasK m.kids y=true):=dh (by unfold It.hasK;rw [hlk];rfl);clear hlk;go_wp2_with fail
           refine HCF.out.mono ?_;rintro e6 v6 ⟨ZB,rfl,_,B6⟩;have HB6:=dh ((HB5.out.trans (B6.mono HB5.out.size)).trans ((al v6 (o4 z ZB)).mono (Nat.le_trans HB5.out.size B6.size)));clear B6 HCF;go_wp2_with fail
           go_roundw
           case rel=>
            refine ⟨q + 1,by go_num,by have:=HQL.out;omega,fun e' he'=>?_,HB6.out⟩;rw [HTAKE.out] at he';rcases List.mem_append.1 he' with h | h
            ·exact HALL.out e' h
            ·simp only [List.mem_singleton] at h;subst h;exact HNK.out
           case measure=>have:=HQL.out;simp [intOf];omega
        ·have hqz:¬ (q:Int) < (ni:Int):=by have:=HNI.out;omega
         have HNO:Hid (R=true):=dh (by
          rw [HRA.out,List.all_eq_true];intro y hy;exact hall y (by rw [List.take_of_length_le (by omega)];exact hy))
         have HPW:=dh (bwt HP3.out hB11 hB);clear hall hB11;go_wp2_with fail
         go_ret
         exact ⟨by rw [HNO.out];try rfl,by rw [hB];exact HPW.out⟩
     | false=>
       have HS2:=dh hs2;clear hs2;have P4:=al W3 (.cells #[.int .i64 4,.int .i64 5,.int .i64 6,.int .i64 12] 3);have N4:=aw W3 (.cells #[.int .i64 4,.int .i64 5,.int .i64 6,.int .i64 12] 3);have HROW:=dh N4;have HP4:=dh (bwt HP3.out P4 hB);have HX4:=kp P4 HX3;have HY4:=kp P4 HY3;have HZ4:=kp P4 HZ3;have HI4:=dh (HI3.out.below P4);have HJ4:=dh (HJ3.out.below P4);have HM4:=dh (HM3.out.below P4);clear HP3 HX3 HY3 HZ3 HI3 HJ3 HM3;clear N4 P4;go_upto_region 15 with fail
       generalize W3.alloc _=w4 at *;generalize W3.heap.size=T at *;go_loopw [66] (VL2 key w4) (fun i _=>4 - (intOf i).toNat)
       case atStart=>exact ⟨0,rfl,by omega,fun j hj=>absurd hj (by omega),Below.refl _ _⟩
       case round=>
        obtain ⟨v0,hv0⟩:∃ v0,v0=wr:=⟨_,rfl⟩;subst hv0;obtain ⟨q,rfl,hq,hall,hB5⟩:=hrel;by_cases hqL:q < 4
        ·have hqz:(q:Int) < 4:=by omega
         obtain ⟨z,hz⟩:∃ z:Int,labs q=z:=⟨_,rfl⟩;have hcell:v0.cell? ⟨T,q,none⟩=some (.int .i64 z):=by
          have hk:=bkp hB5 HROW.out (lb HROW.out);rw [cr hk,← hz];rcases (show q=0∨q=1∨q=2∨q=3 by omega) with rfl | rfl | rfl | rfl <;> rfl
         have hzz:z=4∨z=5∨z=6∨z=12:=by
          rw [← hz];rcases (show q=0∨q=1∨q=2∨q=3 by omega) with rfl | rfl | rfl | rfl <;> simp [labs]
         have HNB:Hid (-9223372036854775808≤z∧z≤9223372036854775807):=dh (by omega);have HZZ:=dh hzz;have HZQ:=dh hz;have HQL:=dh hqL;have HALL:=dh hall;have HB5:=dh hB5;have HP5:=dh (bwt HP4.out hB5 hB);have HX5:=kp hB5 HX4;have HY5:=kp hB5 HY4;have HI5:=dh (HI4.out.below hB5);clear hz hzz hB5 hall;go_upto_region 17 with fail
         clear hcell;refine rgh (M:=4) (fun _=>True) [.it key,.eq (.int .i64 z),.it (It.int z),.eq (.bool (It.same key (It.int z)))] [.pl,.pl,.pl,.pl] 4 4 (.any) (by kernel_rfl) (by kernel_rfl) (by kernel_rfl) (fun _ _ o _ _ h=>by cases o <;> exact h) ?_ ?_
         ·refine ⟨?_,?_,?_,?_,trivial⟩<;>intro vs W hR _ hd;exact dlV (.tmp 3) B key K hR HX5.out HI5.out rfl (by kernel_rfl);exact dmv (.tmp 12) rfl (show _=_ by kernel_rfl);(have e1:vs 1=.int .i64 z:=(hd 1 (dd rfl));exact dcl (vals:=#[vs 1]) 62 (.func 62) #[.tmp 71] _ rfl (by kernel_rfl) (by kernel_rfl) (cq Tryz.func62) (by rw [e1];exact h_rint z HNB.out W _));exact dcl (vals:=#[vs 0,vs 2]) 30 (.func 30) #[.tmp 70,.tmp 72] _ rfl (by kernel_rfl) (by kernel_rfl) (cq Tryz.func30) (h_same (hd 0 (dd rfl)) (hd 2 (dd rfl)))
         ·intro vs W6 hR6 hf hD hE
          have e3:vs 3=.bool (It.same key (It.int z)):=hf 3 (dd rfl);have hQ6:Below v0.heap.size v0 W6:=hR6;have HP6:=dh (bwt HP5.out hQ6 hB);have HB6:=dh (HB5.out.trans (hQ6.mono HB5.out.size));have HY6:=kp hQ6 HY5;simp only [sr,Nat.zero_add,Nat.reduceAdd,e3];clear hf hD hE e3 hR6 hQ6;cases hsz:It.same key (It.int z) with
          | true=>
            obtain ⟨y0,y1,y2,y3⟩:=cf HY6.out;have HNO:Hid (R=(v.kind==2)):=dh (by
             rw [← HRR.out];unfold It.valR;rw [if_neg (by rw [HS1.out];decide),if_neg (by rw [HS2.out];decide),if_pos (by
              rcases HZZ.out with h | h | h | h
              ·subst h;exact .inl hsz
              ·subst h;exact .inr (.inl hsz)
              ·subst h;exact .inr (.inr (.inl hsz))
              ·subst h;exact .inr (.inr (.inr hsz)))]
             rfl)
            clear hsz;obtain ⟨r,hr⟩:∃ r,(v.kind==2)=r:=⟨_,rfl⟩;rw [hr] at HNO;have HPW:=HP6;go_wp2_with fail
            go_ret
            exact ⟨by rw [HNO.out];try rfl,by rw [hB];exact HPW.out⟩
          | false=>
            have HSZ:=dh hsz;clear hsz;go_wp2_with fail
            go_roundw
            case rel=>
             refine ⟨q + 1,by go_num,by have:=HQL.out;omega,fun j hj=>?_,HB6.out⟩;by_cases hjq:j < q
             ·exact HALL.out j hjq
             ·obtain rfl:j=q:=by omega
              rw [HZQ.out];exact HSZ.out
            case measure=>have:=HQL.out;simp [intOf];omega
        ·have hqz:¬ (q:Int) < 4:=by omega
         have HNO:Hid (R=true):=dh (by
          rw [← HRR.out];unfold It.valR;have h0:=hall 0 (by omega);have h1:=hall 1 (by omega);have h2:=hall 2 (by omega);have h3:=hall 3 (by omega);simp only [labs,if_true,if_false,Nat.one_ne_zero,Nat.succ_ne_self,reduceCtorEq] at h0 h1 h2 h3;rw [if_neg (by rw [HS1.out];decide),if_neg (by rw [HS2.out];decide),if_neg];simp at h0 h1 h2 h3;rw [h0,h1,h2,h3];decide)
         have HPW:=dh (bwt HP4.out hB5 hB);clear hall hB5;go_wp2_with fail
         go_ret
         exact ⟨by rw [HNO.out];try rfl,by rw [hB];exact HPW.out⟩
