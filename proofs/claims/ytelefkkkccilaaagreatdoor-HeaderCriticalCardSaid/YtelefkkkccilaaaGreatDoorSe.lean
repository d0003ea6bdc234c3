/- Headers: rows of parameters; pairs. -/
import Derived.Test.YtelefkkkccilaaaGreatDoorSd
import Derived.Test.YtelefkkkccilaaaGreatDoorGq
set_option linter.all false
namespace Go.Proofs.YtelefkkkccilaaaGreatDoor
open Go.RowKit
set_option maxRecDepth 100000
structure PE where
 p:It.KV
 A:Ad
 C:Ad
def PE.cells (e:PE):List Value:=[.int .i64 e.p.1.kind,.int .u64 (e.p.1.num:Int),.slice e.A.ab e.A.nb e.A.cb,.slice e.A.ai e.A.ni e.A.ci,.int .i64 e.p.2.kind,.int .u64 (e.p.2.num:Int),.slice e.C.ab e.C.nb e.C.cb,.slice e.C.ai e.C.ni e.C.ci]
theorem inf90:(Tryz.prog.info? 90).map (fun i=>(i.zero,i.size,i.bytes))=some (some (.agg #[.int .i64 0,.int .u64 0,.slice none 0 0,.slice none 0 0,.int .i64 0,.int .u64 0,.slice none 0 0,.slice none 0 0]),8,128):=by kernel_rfl
def RowP (W:World) (base:Nat) (v:Value) (L:List PE):Prop:=W.ownsRow base 90 8 v L.length (L.flatMap PE.cells)
theorem PE.cells_len (e:PE):e.cells.length=8:=by simp [PE.cells]
theorem flatP_len (L:List PE):(L.flatMap PE.cells).length=L.length * 8:=by
 induction L with
 | nil=>rfl
 | cons e L ih=>simp only [List.flatMap_cons,List.length_append,ih,List.length_cons,PE.cells_len];omega
theorem flatP_one (L:List PE):∀ u ∈ L.flatMap PE.cells,u.oneCell'=true:=fun u hu=>by
 obtain ⟨e,_,h⟩:=List.mem_flatMap.1 hu;simp [PE.cells] at h;rcases h with rfl | rfl | rfl | rfl | rfl | rfl | rfl | rfl <;> rfl
theorem flatP_get:∀ (L:List PE) (q:Nat) (h:q < L.length * 8),(L.flatMap PE.cells)[q]?=((L[q / 8]?).map PE.cells).bind (·[q % 8]?)
 | [],q,h=>by simp at h
 | e :: L,q,h=>by
   rw [List.flatMap_cons];rcases Nat.lt_or_ge q 8 with h1 | h1
   ·rw [List.getElem?_append_left (by rw [PE.cells_len];exact h1),show q / 8=0 by omega,show q % 8=q by omega];rfl
   ·rw [List.getElem?_append_right (by rw [PE.cells_len];exact h1),PE.cells_len,flatP_get L (q - 8) (by simp at h;omega),show q / 8=(q - 8) / 8 + 1 by omega,show q % 8=(q - 8) % 8 by omega];rfl
theorem RowP.nil (W:World) (base:Nat):RowP W base (.slice none 0 0) []:=⟨rfl,.inl ⟨rfl,rfl⟩⟩
theorem RowP.push {W:World} {base:Nat} {v:Value} {L:List PE} (h:RowP W base v L) {b T:Nat} {e:PE} {c:Nat} (hb:W.heap[b]?=some (.cells e.cells.toArray T (0,0))) (hsz:L.length≤1000) (hbase:base≤W.heap.size):
 ∃ v' W',(Builtin.append_ #[87,87] 87 #[v,.slice (some ⟨b,0,none⟩) 1 c]).run Tryz.prog W=.ok v' W'∧RowP W' base v' (L ++ [e])∧W.grownBy W' v.ownBlock∧(v'.ownBlock=v.ownBlock∨v'.ownBlock=some W.heap.size):=by
 obtain ⟨i0,hi,hz0,hz1,hz2⟩:=info_parts inf90;obtain ⟨v',W',h2,h3,h4,_,h5⟩:=run_append_own_at (P:=Tryz.prog) W base 87 87 90 i0 _ 8 128 Tryz.underlying87 hi hz0 hz1 hz2 rfl (by omega) v L.length _ h ⟨b,0,none⟩ 1 c e.cells (by rw [PE.cells_len]) (fun j u hu=>by
  have hadd:(⟨b,0,none⟩:Addr).add j=⟨b,j,none⟩:=by unfold Addr.add;split <;> simp_all
  rw [hadd,cr hb];simpa using hu) (fun u hu=>flatP_one [e] u (by simpa using hu)) (by unfold maxLen;omega) (by omega) hbase
 refine ⟨v',W',h2,?_,h4,h5⟩;unfold RowP;rw [List.length_append,List.flatMap_append];simpa using h3
def PT (w:World) (L:List PE) (a:Option Addr) (n:Nat):Prop:=n=L.length∧∀ j (h:j < L.length),∃ b o,a=some ⟨b,o,none⟩∧(w.cell? ⟨b,o + j * 8,none⟩=some (.int .i64 L[j].p.1.kind)∧w.cell? ⟨b,o + j * 8 + 1,none⟩=some (.int .u64 (L[j].p.1.num:Int))∧w.cell? ⟨b,o + j * 8 + 2,none⟩=some (.slice L[j].A.ab L[j].A.nb L[j].A.cb)∧w.cell? ⟨b,o + j * 8 + 3,none⟩=some (.slice L[j].A.ai L[j].A.ni L[j].A.ci))∧(w.cell? ⟨b,o + j * 8 + 4,none⟩=some (.int .i64 L[j].p.2.kind)∧w.cell? ⟨b,o + j * 8 + 4 + 1,none⟩=some (.int .u64 (L[j].p.2.num:Int))∧w.cell? ⟨b,o + j * 8 + 4 + 2,none⟩=some (.slice L[j].C.ab L[j].C.nb L[j].C.cb)∧w.cell? ⟨b,o + j * 8 + 4 + 3,none⟩=some (.slice L[j].C.ai L[j].C.ni L[j].C.ci))∧IR (fun _=>True) w L[j].p.1 L[j].A∧IR (fun _=>True) w L[j].p.2 L[j].C
theorem PT.below {w w':World} {L:List PE} {a:Option Addr} {n:Nat} (h:PT w L a n) (k:Below w.heap.size w w'):PT w' L a n:=by
 refine ⟨h.1,fun j hj=>?_⟩;obtain ⟨b,o,e,⟨c0,c1,c2,c3⟩,⟨d0,d1,d2,d3⟩,hI,hJ⟩:=h.2 j hj;have hb:=lg c0;have hc:∀ q,w'.cell? ⟨b,q,none⟩=w.cell? ⟨b,q,none⟩:=fun q=>cu (k.block b hb)
 exact ⟨b,o,e,⟨(hc _).trans c0,(hc _).trans c1,(hc _).trans c2,(hc _).trans c3⟩,⟨(hc _).trans d0,(hc _).trans d1,(hc _).trans d2,(hc _).trans d3⟩,hI.below k,hJ.below k⟩
theorem RowP.pt {W:World} {base:Nat} {v:Value} {L:List PE} (h:RowP W base v L) (hI:∀ e ∈ L,IR (fun _=>True) W e.p.1 e.A∧IR (fun _=>True) W e.p.2 e.C):∃ a c,v=.slice a L.length c∧PT W L a L.length:=by
 obtain ⟨hl,⟨rfl,h0⟩ | ⟨g,cap,cur,rfl,hb,hh,hn,hc,hsz,ht⟩⟩:=h
 ·exact ⟨none,0,by rw [h0],rfl,fun j hj=>by omega⟩
 refine ⟨some ⟨g,0,none⟩,cap,rfl,rfl,fun j hj=>?_⟩;have hc:∀ t,t < 8→W.cell? ⟨g,0 + j * 8 + t,none⟩=(L[j].cells)[t]?:=fun t h=>by
  rw [Nat.zero_add,cr hh];have h1:j * 8 + t < L.length * 8:=by omega
  have h2:(L.flatMap PE.cells)[j * 8 + t]?=cur[j * 8 + t]?:=by
   rw [← ht,List.getElem?_take_of_lt h1];simp
  rw [← h2,flatP_get _ _ h1,show (j * 8 + t) / 8=j by omega,show (j * 8 + t) % 8=t by omega,List.getElem?_eq_getElem hj]
  rfl
 exact ⟨g,0,rfl,⟨hc 0 (by omega),hc 1 (by omega),hc 2 (by omega),hc 3 (by omega)⟩,⟨hc 4 (by omega),hc 5 (by omega),hc 6 (by omega),hc 7 (by omega)⟩,hI _ (List.getElem_mem _)⟩
theorem pairsK_take:∀ (l:List It) (t:Nat) (k v:It),l[2 * t]?=some k→l[2 * t + 1]?=some v→It.pairsK (l.take (2 * (t + 1)))=It.pairsK (l.take (2 * t)) ++ [(k,v)]
 | [],t,k,v,h,_=>by simp at h
 | [x],t,k,v,h,h'=>by
   rw [List.getElem?_eq_none (by simp)] at h';cases h'
 | a :: b :: l,0,k,v,h,h'=>by
   simp at h h';subst h;subst h';simp [It.pairsK]
 | a :: b :: l,t + 1,k,v,h,h'=>by
   have e2:2 * (t + 1)=2 * t + 1 + 1:=by omega
   have h3:=pairsK_take l t k v (by rw [e2] at h;simpa using h) (by rw [e2] at h';simpa using h');have e1:2 * (t + 1 + 1)=2 * (t + 1) + 1 + 1:=by omega
   rw [e1,List.take_succ_cons,List.take_succ_cons,e2,List.take_succ_cons,List.take_succ_cons];rw [e2] at h3;simp only [It.pairsK,h3,List.cons_append]
theorem pairsK_all {l:List It} {t:Nat} (h:l.length≤2 * t + 1):It.pairsK (l.take (2 * t))=It.pairsK l:=by
 have:∀ (l:List It) (t:Nat),l.length≤2 * t + 1→It.pairsK (l.take (2 * t))=It.pairsK l:=by
  intro l
  induction l using It.pairsK.induct with
  | case1 k v l ih=>
    intro t ht;cases t with
    | zero=>simp at ht
    | succ t=>
      rw [show 2 * (t + 1)=2 * t + 1 + 1 by omega,List.take_succ_cons,List.take_succ_cons];simp only [It.pairsK];rw [ih t (by simp at ht;omega)]
  | case2 l hl=>
    intro t ht
    match l,hl with
    | [],_=>simp
    | [x],_=>
      cases t with
      | zero=>simp [It.pairsK]
      | succ t=>rw [List.take_of_length_le (by simp;omega)]
    | k :: v :: l,hl=>exact absurd rfl (hl k v l)
 exact this l t h
def PairsP (l:List It) (w:World) (e:Ending) (w':World):Prop:=∃ (L:List PE) (a:Option Addr) (c:Nat),e=.returned (.slice a L.length c)∧L.map PE.p=It.pairsK l∧PT w' L a L.length∧Below w.heap.size w w'
def PLR (l:List It) (w1:World) (v i:Value) (W:World):Prop:=∃ (t:Nat) (L:List PE),i=.int .i64 ((2 * t:Nat):Int)∧2 * t≤l.length∧L.length=t∧L.map PE.p=It.pairsK (l.take (2 * t))∧RowP W w1.heap.size v L∧(∀ e ∈ L,IR (fun b=>b < w1.heap.size) W e.p.1 e.A∧IR (fun b=>b < w1.heap.size) W e.p.2 e.C)∧Below w1.heap.size w1 W
set_option maxHeartbeats 8000000 in
theorem pairs_any (m:It) (A:Ad) (w:World) (ok:Nat→Prop) (hI:IR ok w m A) (hlen:m.kids.length≤1000):Calls Tryz.prog 81 #[.agg #[.int .i64 m.kind,.int .u64 (m.num:Int),.slice A.ab A.nb A.cb,.slice A.ai A.ni A.ci]] w (PairsP m.kids w):=by
 obtain ⟨P0,N0⟩:=an w (o4 m A);have HX1:=dh N0;have HP1:=dh P0;have HI1:=dh ((hI.imp (ok':=fun b=>b < w.heap.size) fun b _ hb=>hb).below P0);have HTL:=dh HI1.out.tl;have HNI:Hid (A.ni=m.kids.length):=dh HTL.out.1;have hsz0:(w.alloc (o4 m A)).heap.size=w.heap.size + 1:=by simp
 have HSZ:=dh hsz0;rw [← HNI.out] at hlen;clear hI N0 P0 hsz0;obtain ⟨x0,x1,x2,x3⟩:=cf HX1.out;go_enter Tryz.func81,Tryz.ntmps81
 go_upto_region 1 with fail
 generalize w.alloc _=w1 at *;generalize hB:w.heap.size=B at *;go_wp2_with fail
 go_loopw [3,4] (PLR m.kids w1) (fun _ i _=>A.ni - (intOf i).toNat)
 case atStart=>exact ⟨0,[],rfl,by omega,rfl,rfl,RowP.nil _ _,fun e he=>by simp at he,Below.refl _ _⟩
 case round=>
  obtain ⟨u,hu⟩:∃ u,u=wr:=⟨_,rfl⟩;subst hu;obtain ⟨t,L,rfl,ht,hLt,hLm,hRow,hLI,hBl⟩:=hrel;obtain ⟨T,hT⟩:∃ T,T=2 * t:=⟨_,rfl⟩;rw [← hT] at ht hLm ⊢;have HT:=dh hT;clear hT;have hx3:u.cell? ⟨B,3,none⟩=some (.slice A.ai A.ni A.ci):=(hBl.cell (p:=⟨B,3,none⟩) (lb HX1.out)).trans x3;have hw1:IntKind.i64.wrap ((T:Int) + 1)=((T + 1:Nat):Int):=by have:=HNI.out;rw [IntWalk.i64_in _ (by omega)];omega
  have hw2:IntKind.i64.wrap ((T:Int) + 2)=((T + 2:Nat):Int):=by have:=HNI.out;rw [IntWalk.i64_in _ (by omega)];omega
  by_cases hTn:T + 1 < A.ni
  ·have hTm:T + 1 < m.kids.length:=by have:=HNI.out;omega
   have hT1:=(HTL.out.below (hBl.mono (Nat.le_refl _))).2.2 T (by omega);have hT2:=(HTL.out.below (hBl.mono (Nat.le_refl _))).2.2 (T + 1) hTm;have hz:((T + 1:Nat):Int) < (A.ni:Int):=by omega
   have hg1:m.kids[T]?=some m.kids[T]:=List.getElem?_eq_getElem (by omega);have hg2:m.kids[T + 1]?=some m.kids[T + 1]:=List.getElem?_eq_getElem hTm;have hnx:It.pairsK (m.kids.take (T + 2))=L.map PE.p ++ [(m.kids[T],m.kids[T + 1])]:=by
    have:=HT.out;subst this;rw [hLm];exact pairsK_take m.kids t _ _ hg1 hg2
   generalize m.kids[T]=p at *;generalize m.kids[T + 1]=z at *;obtain ⟨b1,o1,X,e1,_,⟨c0,c1,c2,c3⟩,hIx⟩:=hT1;obtain ⟨b2,o2,Y,e2,_,⟨d0,d1,d2,d3⟩,hIy⟩:=hT2;rw [e1] at e2;cases e2
   rw [e1] at hx3;clear e1 hg1 hg2;have HS:Hid (∀ W,Below u.heap.size u W→W.cell? ⟨B,3,none⟩=some (.slice (some ⟨b1,o1,none⟩) A.ni A.ci)∧(W.cell? ⟨b1,o1 + T * 4,none⟩=some (.int .i64 p.kind)∧W.cell? ⟨b1,o1 + T * 4 + 1,none⟩=some (.int .u64 (p.num:Int))∧W.cell? ⟨b1,o1 + T * 4 + 2,none⟩=some (.slice X.ab X.nb X.cb)∧W.cell? ⟨b1,o1 + T * 4 + 3,none⟩=some (.slice X.ai X.ni X.ci))∧(W.cell? ⟨b1,o1 + (T + 1) * 4,none⟩=some (.int .i64 z.kind)∧W.cell? ⟨b1,o1 + (T + 1) * 4 + 1,none⟩=some (.int .u64 (z.num:Int))∧W.cell? ⟨b1,o1 + (T + 1) * 4 + 2,none⟩=some (.slice Y.ab Y.nb Y.cb)∧W.cell? ⟨b1,o1 + (T + 1) * 4 + 3,none⟩=some (.slice Y.ai Y.ni Y.ci))):=dh fun W hW=>
    ⟨(hW.cell (p:=⟨B,3,none⟩) (lg hx3)).trans hx3,⟨(hW.cell (p:=⟨b1,o1 + T * 4,none⟩) (lg c0)).trans c0,(hW.cell (p:=⟨b1,o1 + T * 4 + 1,none⟩) (lg c1)).trans c1,(hW.cell (p:=⟨b1,o1 + T * 4 + 2,none⟩) (lg c2)).trans c2,(hW.cell (p:=⟨b1,o1 + T * 4 + 3,none⟩) (lg c3)).trans c3⟩,(hW.cell (p:=⟨b1,o1 + (T + 1) * 4,none⟩) (lg d0)).trans d0,(hW.cell (p:=⟨b1,o1 + (T + 1) * 4 + 1,none⟩) (lg d1)).trans d1,(hW.cell (p:=⟨b1,o1 + (T + 1) * 4 + 2,none⟩) (lg d2)).trans d2,(hW.cell (p:=⟨b1,o1 + (T + 1) * 4 + 3,none⟩) (lg d3)).trans d3⟩
   have HIX:=dh hIx;have HIY:=dh hIy;have HROW:=dh hRow;have HLI:=dh hLI;have HLT:=dh hLt;have HNX:=dh hnx;have HBL:=dh hBl;obtain ⟨la,lc,rfl⟩:=og HROW.out;rw [hLt];clear hIx hIy hRow hLI hLt hnx hBl d0 d1 d2 d3 c0 c1 c2 c3 hLm;go_upto_region 5 with fail
   clear hx3;refine rgh (M:=12) (fun b=>b < w1.heap.size) [.eq (.slice la t lc),.eq (.pointer (some ⟨B,3,none⟩)),.eq (.slice (some ⟨b1,o1,none⟩) A.ni A.ci),.eq (.int .i64 (T:Int)),.eq (.pointer (some ⟨b1,o1 + T * 4,none⟩)),.it p,.eq (.pointer (some ⟨B,3,none⟩)),.eq (.slice (some ⟨b1,o1,none⟩) A.ni A.ci),.eq (.int .i64 (T:Int)),.eq (.int .i64 ((T + 1:Nat):Int)),.eq (.pointer (some ⟨b1,o1 + (T + 1) * 4,none⟩)),.it z] [.la,.pl,.pl,.pl,.pl,.pl,.pl,.pl,.pl,.pl,.pl,.pl] 12 12 .any (by kernel_rfl) (by kernel_rfl) (by kernel_rfl) (fun _ _ o _ _ h=>by cases o <;> exact h) ?_ ?_
   ·refine ⟨?_,?_,?_,?_,?_,?_,?_,?_,?_,?_,?_,?_,trivial⟩<;>intro vs W hR _ hd
    ·exact late_move (.tmp 3) rfl (show _=_ by kernel_rfl)
    ·exact df3 (.tmp 1) B rfl (by kernel_rfl)
    ·exact dl24 (.tmp 14) B 3 (some ⟨b1,o1,none⟩) A.ni A.ci rfl (hd 1 (by decide)) (HS.out W hR).1
    ·exact dmv (.tmp 4) rfl (show _=_ by kernel_rfl)
    ·exact di24 (.tmp 15) (.tmp 16) b1 o1 A.ni A.ci T (by omega) rfl (hd 2 (by decide)) (hd 3 (by decide))
    ·obtain ⟨h0,h1,h2,h3⟩:=(HS.out W hR).2.1
     exact dld (.tmp 17) b1 (o1 + T * 4) p X rfl (hd 4 (by decide)) h0 h1 h2 h3 ((HIX.out.imp fun b hb _=>by have:=HSZ.out;omega).below hR)
    ·exact df3 (.tmp 1) B rfl (by kernel_rfl)
    ·exact dl24 (.tmp 19) B 3 (some ⟨b1,o1,none⟩) A.ni A.ci rfl (hd 6 (by decide)) (HS.out W hR).1
    ·exact dmv (.tmp 4) rfl (show _=_ by kernel_rfl)
    ·exact does_add3 (.tmp 21) (.const (.int .i64 1)) (T:Int) 1 ((T + 1:Nat):Int) rfl (hd 8 (by decide)) (by kernel_rfl) (by omega) (by omega) (by omega)
    ·exact di24 (.tmp 20) (.tmp 22) b1 o1 A.ni A.ci (T + 1) hTn rfl (hd 7 (by decide)) (hd 9 (by decide))
    ·obtain ⟨h0,h1,h2,h3⟩:=(HS.out W hR).2.2
     exact dld (.tmp 23) b1 (o1 + (T + 1) * 4) z Y rfl (hd 10 (by decide)) h0 h1 h2 h3 ((HIY.out.imp fun b hb _=>by have:=HSZ.out;omega).below hR)
   ·intro vs W2 hR2 hf _ hE
    have e0:vs 0=.slice la t lc:=hf 0 (by decide);obtain ⟨X',e5,hI5⟩:=hf 5 (by decide);obtain ⟨Y',e11,hI11⟩:=hf 11 (by decide);simp only [Rg.putAll,Rg.putFrom,List.take_succ_cons,List.take_zero,List.drop_succ_cons,List.drop_zero,Act.put,sx,e0,e5,e11];clear hf hE e0 e5 e11;have P3:=al W2 (.cells #[.int .i64 p.kind,.int .u64 (p.num:Int),.slice X'.ab X'.nb X'.cb,.slice X'.ai X'.ni X'.ci,.int .i64 z.kind,.int .u64 (z.num:Int),.slice Y'.ab Y'.nb Y'.cb,.slice Y'.ai Y'.ni Y'.ci] 90);have N3:=aw W2 (.cells #[.int .i64 p.kind,.int .u64 (p.num:Int),.slice X'.ab X'.nb X'.cb,.slice X'.ai X'.ni X'.ci,.int .i64 z.kind,.int .u64 (z.num:Int),.slice Y'.ab Y'.nb Y'.cb,.slice Y'.ai Y'.ni Y'.ci] 90);have h3:=pt hR2 P3;have hsu:=HBL.out.size;have hsW:=Below.size hR2;have hsA:=P3.size;have hrw:=own_pure HROW.out h3;obtain ⟨v',W4,hrun,hRow4,hgr,hown⟩:=RowP.push (c:=1) hrw (e:=⟨(p,z),X',Y'⟩) (b:=W2.heap.size) (T:=90) N3 (by have:=HLT.out;have:=HNI.out;have:=HT.out;omega) (by omega);have hB4:=bg (h3.mono hsu) (by omega) hrw hgr;have HB4:=dh hB4;have HROW4:=dh hRow4;have HI5:=dh (((hI5.below P3).belowB (bg (Below.refl _ _) (by omega) hrw hgr)));have HI11:=dh (((hI11.below P3).belowB (bg (Below.refl _ _) (by omega) hrw hgr)));rw [HLT.out] at hrun;clear P3 N3 h3 hrw hRow4 hgr hown hB4 hI5 hI11 hR2 hsu hsW hsA HS HIX HIY HROW;go_wp2_with (at_builtin;refine wj rfl _ _ 87 rfl rfl rfl hrun ?_;clear hrun)
    go_roundw
    case rel=>
     refine ⟨t + 1,L ++ [⟨(p,z),X',Y'⟩],by have:=HT.out;subst this;go_num,by have:=HT.out;omega,by rw [List.length_append,HLT.out];rfl,?_,HROW4.out,fun e he=>?_,HBL.out.trans HB4.out⟩
     ·have:=HT.out
      subst this;rw [List.map_append];exact HNX.out.symm
     ·rcases List.mem_append.1 he with h | h
      ·exact ⟨(HLI.out e h).1.belowB HB4.out,(HLI.out e h).2.belowB HB4.out⟩
      ·simp only [List.mem_singleton] at h
       subst h;exact ⟨HI5.out,HI11.out⟩
    case measure=>simp [intOf];omega
  ·have hz:¬ ((T + 1:Nat):Int) < (A.ni:Int):=by omega
   have hall:L.map PE.p=It.pairsK m.kids:=by
    rw [hLm,HT.out];exact pairsK_all (by have:=HNI.out;have:=HT.out;omega)
   obtain ⟨a,c,rfl,hPT⟩:=RowP.pt hRow fun e he=>⟨(hLI e he).1.imp fun _ _ _=>trivial,(hLI e he).2.imp fun _ _ _=>trivial⟩
   have HPT:=dh hPT;have HALL:=dh hall;have HPW:=dh (HP1.out.trans (hBl.mono (by have:=HSZ.out;omega)));clear hPT hall hBl hRow hLI hLm hLt;go_wp2_with fail
   go_ret
   exact ⟨L,a,c,rfl,HALL.out,HPT.out,by rw [hB];exact HPW.out⟩
