/- The reference's Prefix and Decode of any bytes. -/
import Derived.Test.YtelefkkkccilaaaDoorRd
import Derived.Test.YtelefkkkccilaaaDoorNa
set_option linter.unusedVariables false
set_option linter.unusedSimpArgs false
namespace Go.Proofs.YtelefkkkccilaaaDoor
open Go.RowKit
set_option maxRecDepth 100000
set_option maxHeartbeats 4000000 in
theorem ritem_e (P c:Nat) (a:Option Addr) (it lv:Int) (w:World) (hA:w.heap[P]?=some (.cells #[.slice a 0 c,.int .i64 0,.int .i64 it] 86 (0,0))) (hi:0≤it) (hi2:it < 256):
 Calls Tryd.prog 43 #[.pointer (some ⟨P,0,none⟩),.int .i64 lv] w fun e w'=>But P w w'∧NoItem 2 e:=by
 have P0:=al w (.cells #[.int .i64 0,.int .u64 0,.slice none 0 0,.slice none 0 0] 31);have HN0:=dh (aw w (.cells #[.int .i64 0,.int .u64 0,.slice none 0 0,.slice none 0 0] 31));have hPl:=lb hA;have HA1:=dh (Below.keep P0 hA hPl);have HB1:=dh (But.of_below (b:=P) P0);have hRP:w.heap.size≠P:=by omega
 have x2:=cr HA1.out 2;have f2:(w.alloc (.cells #[.int .i64 0,.int .u64 0,.slice none 0 0,.slice none 0 0] 31)).frozen? ⟨P,2,none⟩=false:=frozen_of_arr HA1.out 2;simp at x2;have hge:¬ (256:Int)≤it:=by omega
 have hgeb:decide ((256:Int)≤it)=false:=decide_eq_false hge;obtain ⟨it1,hit1⟩:∃ it1,it1=it + 1:=⟨_,rfl⟩;have hw:IntKind.i64.wrap (it + 1)=it1:=by rw [hit1];exact IntWalk.i64_in _ (by omega)
 clear hA P0 hPl hit1;go_enter Tryd.func43,Tryd.ntmps43
 go_upto_region 3 with fail
 generalize w.alloc (.cells #[.int .i64 0,.int .u64 0,.slice none 0 0,.slice none 0 0] 31)=w1 at *;generalize hBq:w.heap.size=B at *;have HA2:Hid ((w1.setCell ⟨P,2,none⟩ (.int .i64 it1)).heap[P]?=some (.cells #[.slice a 0 c,.int .i64 0,.int .i64 it1] 86 (0,0))):=dh (by have:=set_arr HA1.out 2 (.int .i64 it1);simpa using this);have HB2:Hid (But P w (w1.setCell ⟨P,2,none⟩ (.int .i64 it1))):=dh (HB1.out.setCell (p:=⟨P,2,none⟩) rfl _);have HN2:=dh ((Below.heap_setCell w1 ⟨P,2,none⟩ (.int .i64 it1) B hRP).trans HN0.out);go_upto_region 4 with fail
 clear x2 f2;generalize w1.setCell ⟨P,2,none⟩ (.int .i64 it1)=w2 at *;have x0:=cr HA2.out 0;have x1:=cr HA2.out 1;simp at x0 x1
 go_quiet (fail)
 have HN3:Hid ((w2.drewN nq).heap[B]?=some (.cells #[.int .i64 0,.int .u64 0,.slice none 0 0,.slice none 0 0] 31 (0,0))):=dh HN2.out;have HB3:=dh (HB2.out.drewN nq);clear x0 x1;generalize w2.drewN nq=w3 at *;obtain ⟨r0,r1,r2,r3⟩:=cf HN3.out;obtain ⟨q0,q1,q2,q3⟩:=ff HN3.out;go_wp2_with fail
 clear r0 r1 r2 r3 q0 q1 q2 q3;have hp4:=put4 (HN3.out) (.int .i64 0) (.int .u64 0) (.slice none 0 0) (.slice none 0 0);have hs4:=pk (W:=w3) (b:=B) (.int .i64 0) (.int .u64 0) (.slice none 0 0) (.slice none 0 0);have hz4:=pm (W:=w3) (b:=B) (.int .i64 0) (.int .u64 0) (.slice none 0 0) (.slice none 0 0);generalize ((((w3).setCell ⟨B,0,none⟩ (.int .i64 0)).setCell ⟨B,1,none⟩ (.int .u64 0)).setCell ⟨B,2,none⟩ (.slice none 0 0)).setCell ⟨B,3,none⟩ (.slice none 0 0)=W' at *;obtain ⟨g0,g1,g2,g3⟩:=cf hp4;refine bodyPost_ret (v:=.tuple #[.agg #[.int .i64 0,.int .u64 0,.slice none 0 0,.slice none 0 0],.int .i64 2]) (by simp [results,Tryd.results43,go_sem,g0,g1,g2,g3]) rfl ?_;have HBW:But P w W':=⟨hz4.1.trans HB3.out.os,hz4.2.1.trans HB3.out.tape,hz4.2.2.trans HB3.out.output,by have:=HB3.out.size;rw [hs4.1];exact this,fun j hj hne=>(hs4.2 j (by omega)).trans (HB3.out.block j hj hne)⟩;exact ⟨HBW,rfl⟩
def ItemR (P:Nat) (sl:Value) (l:List UInt8) (w:World) (r:It.PR It) (e:Ending) (w':World):Prop:=But P w w'∧match r with
 | .err er=>er≠0∧NoItem er e
 | .ok x _ s=>∃ A:Ad,e=.returned (.tuple #[.agg #[.int .i64 x.kind,.int .u64 (x.num:Int),.slice A.ab A.nb A.cb,.slice A.ai A.ni A.ci],.int .i64 0])∧IR (fun j=>w.heap.size≤j) w' x A∧∃ (j:Nat) (it:Int),w'.heap[P]?=some (.cells #[sl,.int .i64 (j:Int),.int .i64 it] 86 (0,0))∧j≤l.length∧s=l.drop j
theorem ritem_top (P c N:Nat) (a:Option Addr) (l:List UInt8) (w:World) (hP:w.heap[P]?=some (.cells #[.slice a N c,.int .i64 0,.int .i64 0] 86 (0,0))) (hR:BR (fun b=>b≠P) w a N l) (hc:N≤c) (hN:N≤4096) (hP1:1 < P) (hE:Env w):
 Calls Tryd.prog 43 #[.pointer (some ⟨P,0,none⟩),.int .i64 0] w (ItemR P (.slice a N c) l w (It.item 8 256 l)):=by
 have hlen:=hR.1;rcases Nat.eq_zero_or_pos N with h0 | h0
 ·have hl:l=[]:=List.length_eq_zero_iff.1 (by omega)
  subst hl;subst h0;exact (ritem_e P c a 0 0 w hP (by omega) (by omega)).mono fun e w' h=>⟨h.1,by decide,h.2⟩
 ·obtain ⟨b,o,rfl,_,_⟩:=hR.2.2 0 (by omega)
  subst hlen;refine (rd_any 8 (by omega) P 0 c b o l 256 0 0 w ⟨hP,Nat.zero_le _⟩ hR hc hN (by omega) (by omega) (by omega) hP1 hE).mono fun e w' h=>?_
  rw [List.drop_zero] at h;refine ⟨h.1,?_⟩;have h2:=h.2;cases hr:It.item 8 256 l with
  | err er=>
   rw [hr] at h2;exact ⟨It.item_errs _ _ _ _ hr,h2⟩
  | ok x f s=>
   rw [hr] at h2;obtain ⟨A,h3,h4,j,h5,h6⟩:=h2;exact ⟨A,h3,h4,j,_,h5.1,h5.2,h6⟩
set_option maxHeartbeats 8000000 in
theorem rprefix_any (l:List UInt8) (a:Option Addr) (n c:Nat) (w:World) (ok:Nat→Prop) (hR:BR ok w a n l) (hc:n≤c) (hcm:c≤9223372036854775807) (hE:Env w):
 Calls Tryd.prog 20 #[.slice a n c] w (PrefP (l.take 4096) (It.prefixP l) w):=by
 have h1:=hE.lt;obtain ⟨N,hN⟩:∃ N,N=min n 4096:=⟨_,rfl⟩;have P0:=al w (.cells #[.int .i64 0,.int .u64 0,.slice none 0 0,.slice none 0 0] 31);have N0:=aw w (.cells #[.int .i64 0,.int .u64 0,.slice none 0 0,.slice none 0 0] 31);have P1:=al (w.alloc (.cells #[.int .i64 0,.int .u64 0,.slice none 0 0,.slice none 0 0] 31)) (.cells #[.slice a N c,.int .i64 0,.int .i64 0] 86);have hsz0:(w.alloc (.cells #[.int .i64 0,.int .u64 0,.slice none 0 0,.slice none 0 0] 31)).heap.size=w.heap.size + 1:=by simp
 have N1:=alloc_new' (w.alloc (.cells #[.int .i64 0,.int .u64 0,.slice none 0 0,.slice none 0 0] 31)) (.cells #[.slice a N c,.int .i64 0,.int .i64 0] 86) (w.heap.size + 1) hsz0.symm;have hR1:BR (fun q=>q≠w.heap.size + 1) ((w.alloc (.cells #[.int .i64 0,.int .u64 0,.slice none 0 0,.slice none 0 0] 31)).alloc (.cells #[.slice a N c,.int .i64 0,.int .i64 0] 86)) a N (l.take 4096):=by
  have:=hR.1;refine ⟨by rw [List.length_take];omega,by omega,fun i hi=>?_⟩;have hi':i < l.length:=by rw [List.length_take] at hi;omega
  obtain ⟨b',o',e,_,h⟩:=hR.2.2 i hi';have hb:=lg h;refine ⟨b',o',e,by omega,?_⟩;rw [List.getElem_take];exact ((pt P0 P1).cell (p:=⟨b',o' + i,none⟩) hb).trans h
 have HC:=dh (ritem_top (w.heap.size + 1) c N a (l.take 4096) _ N1 hR1 (by omega) (by omega) (by omega) (hE.below (pt P0 P1)));have HB1:=dh (pt P0 P1);have HR9:=dh (Below.keep P1 N0 (lb N0));have hmin:min (n:Int) 4096=(N:Int):=by omega
 have hmin2:min n 4096=N:=hN.symm;have hNc:N≤c:=by omega
 have HPD:Hid (It.prefixP l=It.item 8 256 (l.take 4096)):=dh rfl;generalize l.take 4096=lp at *;generalize It.prefixP l=R at *;clear hR hR1 P0 P1 N0 N1 hE hN;go_enter Tryd.func20,Tryd.ntmps20
 go_wp2_with fail
 refine HC.out.mono ?_;rintro e u0 ⟨hB,h9⟩;rw [← HPD.out] at h9;have hsz1:=HB1.out.size;have HB2:Hid (Below w.heap.size w u0):=dh ⟨hB.os.trans HB1.out.os,hB.tape.trans HB1.out.tape,hB.output.trans HB1.out.output,Nat.le_trans HB1.out.size hB.size,fun j hj=>(hB.block j (by omega) (by omega)).trans (HB1.out.block j hj)⟩;have HN0:=dh ((hB.block _ (lb HR9.out) (by omega)).trans HR9.out);have HSU:Hid (w.heap.size < u0.heap.size∧((w.alloc (.cells #[.int .i64 0,.int .u64 0,.slice none 0 0,.slice none 0 0] 31)).alloc (.cells #[.slice a N c,.int .i64 0,.int .i64 0] 86)).heap.size=w.heap.size + 2):=dh ⟨lb HN0.out,by simp⟩;clear hB HC HB1 HR9 hsz1 hsz0;cases R with
 | err er=>
  obtain ⟨h0,rfl⟩:=h9;have he:¬ (er:Int)=0:=by omega
  have heb:((er:Int) !=0)=true:=by simpa using he
  have hen:¬ er=0:=h0;have P3:=al u0 (.cells #[.int .i64 0,.int .u64 0,.slice none 0 0,.slice none 0 0] 31);have HNU:=dh (Below.keep P3 HN0.out (lb HN0.out));have HBU:Hid (Below w.heap.size w (u0.alloc (.cells #[.int .i64 0,.int .u64 0,.slice none 0 0,.slice none 0 0] 31))):=dh (HB2.out.trans (P3.mono HB2.out.size));obtain ⟨r0,r1,r2,r3⟩:=cf HNU.out;obtain ⟨q0,q1,q2,q3⟩:=ff HNU.out;have HEE:=dh h0;clear P3 h0;go_wp2_with fail
  clear r0 r1 r2 r3 q0 q1 q2 q3;generalize u0.alloc (.cells #[.int .i64 0,.int .u64 0,.slice none 0 0,.slice none 0 0] 31)=u at *;generalize hBq:w.heap.size=B at *;have hp4:=put4 (HNU.out) (.int .i64 0) (.int .u64 0) (.slice none 0 0) (.slice none 0 0);have hb4:=fun (n9:Nat) (u9:World) (h9:Below n9 u9 (u)) (hb9:n9≤B)=>put4_below h9 hb9 (.int .i64 0) (.int .u64 0) (.slice none 0 0) (.slice none 0 0)
  generalize ((((u).setCell ⟨B,0,none⟩ (.int .i64 0)).setCell ⟨B,1,none⟩ (.int .u64 0)).setCell ⟨B,2,none⟩ (.slice none 0 0)).setCell ⟨B,3,none⟩ (.slice none 0 0)=W' at *;obtain ⟨g0,g1,g2,g3⟩:=cf hp4;refine bodyPost_ret (v:=.tuple #[(.agg #[.int .i64 0,.int .u64 0,.slice none 0 0,.slice none 0 0]),.int .i64 0,.int .i64 (er:Int)]) (by simp [results,Tryd.results20,go_sem,g0,g1,g2,g3]) rfl ?_;exact ⟨by subst hBq;exact hb4 _ w HBU.out (Nat.le_refl _),HEE.out,rfl⟩
 | ok x f s=>
  obtain ⟨A,rfl,hI,j,it,hAt,hj,hs⟩:=h9;have P3:=al u0 (.cells #[.int .i64 x.kind,.int .u64 (x.num:Int),.slice A.ab A.nb A.cb,.slice A.ai A.ni A.ci] 31);have HNX:=dh (aw u0 (.cells #[.int .i64 x.kind,.int .u64 (x.num:Int),.slice A.ab A.nb A.cb,.slice A.ai A.ni A.ci] 31));have HNU:=dh (Below.keep P3 HN0.out (lb HN0.out));have HNP:=dh (Below.keep P3 hAt (lb hAt));have HBU:Hid (Below w.heap.size w (u0.alloc (.cells #[.int .i64 x.kind,.int .u64 (x.num:Int),.slice A.ab A.nb A.cb,.slice A.ai A.ni A.ci] 31))):=dh (HB2.out.trans (P3.mono HB2.out.size));have HI:=dh (hI.below P3);have HJ:=dh (And.intro hj hs);clear hI hAt hj hs P3;go_upto_region 5 with fail
  generalize hXq:u0.heap.size=X at *;generalize u0.alloc (.cells #[.int .i64 x.kind,.int .u64 (x.num:Int),.slice A.ab A.nb A.cb,.slice A.ai A.ni A.ci] 31)=u at *;generalize hBq:w.heap.size=B at *;have HXB:Hid (X≠B∧B + 1≠B):=dh (by have:=HSU.out;omega);obtain ⟨x0,x1,x2,x3⟩:=cf HNX.out;have y1:=cr HNP.out 1;simp at y1;obtain ⟨r0,r1,r2,r3⟩:=cf HNU.out;obtain ⟨q0,q1,q2,q3⟩:=ff HNU.out;refine wp_region_held_drew (S:=(fun w'=>(w'.cell? ⟨X,0,none⟩=some (.int .i64 x.kind)∧w'.cell? ⟨X,1,none⟩=some (.int .u64 (x.num:Int))∧w'.cell? ⟨X,2,none⟩=some (.slice A.ab A.nb A.cb)∧w'.cell? ⟨X,3,none⟩=some (.slice A.ai A.ni A.ci))∧w'.cell? ⟨B + 1,1,none⟩=some (.int .i64 (j:Int)))) (by kernel_rfl) ⟨⟨x0,x1,x2,x3⟩,y1⟩ (fun hHeld=>?_);refine tk 0 (v:=?_) rfl hHeld ?_ ?_;rotate_left
  ·intro W h;(try dsimp only at h);go_simp;try with_reducible rfl
  try simp only [Act.put,sx]
  refine tk 1 (v:=?_) rfl hHeld ?_ ?_;rotate_left
  ·intro W h;(try dsimp only at h);go_simp;try with_reducible rfl
  try simp only [Act.put,sx]
  refine tk 2 (v:=?_) rfl hHeld ?_ ?_;rotate_left
  ·intro W h;(try dsimp only at h);go_simp;try with_reducible rfl
  try simp only [Act.put,sx]
  refine tk 3 (v:=?_) rfl hHeld ?_ ?_;rotate_left
  ·intro W h;(try dsimp only at h);go_simp;try with_reducible rfl
  try simp only [Act.put,sx]
  refine tk 4 (v:=?_) rfl hHeld ?_ ?_;rotate_left
  ·intro W h;(try dsimp only at h);go_simp;try with_reducible rfl
  try simp only [Act.put,sx]
  refine wpAnyH_ready (rs:=[5]) (by kernel_rfl) (by simp) ?_;refine AllReadyH.cons rfl (fun K1 hK1=>?_) AllReadyH.nil;have hp4:=put4 (W:=u) HNU.out (.int .i64 x.kind) (.int .u64 (x.num:Int)) (.slice A.ab A.nb A.cb) (.slice A.ai A.ni A.ci);have hs4:=pk (W:=u) (b:=B) (.int .i64 x.kind) (.int .u64 (x.num:Int)) (.slice A.ab A.nb A.cb) (.slice A.ai A.ni A.ci);have hb4:=put4_below (W:=u) (b:=B) HBU.out (Nat.le_refl _) (.int .i64 x.kind) (.int .u64 (x.num:Int)) (.slice A.ab A.nb A.cb) (.slice A.ai A.ni A.ci);have hx4:=(hs4.2 X HXB.out.1).trans HNX.out;have hy4:=(hs4.2 (B + 1) HXB.out.2).trans HNP.out;go_simp
  generalize ((((u).setCell ⟨B,0,none⟩ (.int .i64 x.kind)).setCell ⟨B,1,none⟩ (.int .u64 (x.num:Int))).setCell ⟨B,2,none⟩ (.slice A.ab A.nb A.cb)).setCell ⟨B,3,none⟩ (.slice A.ai A.ni A.ci)=W4 at *
  replace hp4:W4.drew.heap[B]?=_:=hp4
  replace hx4:W4.drew.heap[X]?=_:=hx4
  replace hy4:W4.drew.heap[B + 1]?=_:=hy4
  replace hs4:W4.drew.heap.size=u.heap.size∧∀ k,k≠B→W4.drew.heap[k]?=u.heap[k]?:=hs4
  replace hb4:=hb4.drew
  generalize W4.drew=W' at *;clear r0 r1 r2 r3 q0 q1 q2 q3;refine hK1.out _ _ ⟨cf hx4,by have:=cr hy4 1;simpa using this⟩ (fun hHeld=>?_);clear hK1;refine tk 6 (v:=?_) rfl hHeld ?_ ?_;rotate_left
  ·intro W h;(try dsimp only at h);go_simp;try with_reducible rfl
  try simp only [Act.put,sx]
  refine tk 7 (v:=?_) rfl hHeld ?_ ?_;rotate_left
  ·intro W h;(try dsimp only at h);go_simp;try with_reducible rfl
  try simp only [Act.put,sx]
  refine wpAnyH_done (by kernel_rfl) ?_ _
  try simp only [Act.put,sx]
  go_wp2_with fail
  obtain ⟨g0,g1,g2,g3⟩:=cf hp4;refine bodyPost_ret (v:=.tuple #[.agg #[.int .i64 x.kind,.int .u64 (x.num:Int),.slice A.ab A.nb A.cb,.slice A.ai A.ni A.ci],.int .i64 (j:Int),.int .i64 0]) (by simp [results,Tryd.results20,go_sem,g0,g1,g2,g3]) rfl ?_;exact ⟨by subst hBq;exact hb4,A,j,rfl,HI.out.keep (fun q hq _=>⟨hs4.2 q (by have h1:_≤q:=hq;have:=HSU.out;omega),by have h1:_≤q:=hq;have:=HSU.out;show w.heap.size≤q;omega⟩),HJ.out⟩
end Go.Proofs.YtelefkkkccilaaaDoor
