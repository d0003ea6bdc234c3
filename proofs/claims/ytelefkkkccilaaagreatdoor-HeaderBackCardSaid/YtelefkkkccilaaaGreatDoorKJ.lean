/- The reference's Valid of headers. -/
import Derived.Test.YtelefkkkccilaaaGreatDoorKI
import Derived.Test.YtelefkkkccilaaaGreatDoorXv
set_option maxHeartbeats 16000000
set_option linter.all false
namespace Go.Proofs.YtelefkkkccilaaaGreatDoor
open Go.RowKit
set_option maxRecDepth 100000
section
variable {o:Oper} {ρ:Operand→Value} {w:World}
theorem dpt {ok:Nat→Prop} {q:Fh} (c x y:Operand) (ho:o.op=.pick c x y) (hc:ρ c=.bool true) (hk:q.holds ok (ρ x) w):Rg.Does Tryz.prog o ρ w fun v w'=>RB' w w'∧True∧q.holds ok v w':=Rg.Does.value (v:=ρ x) (w':=w) (by simp [execOp,ho,hc,asBool]) ⟨RB'.refl _,trivial,hk⟩
theorem dpf {ok:Nat→Prop} {q:Fh} (c x y:Operand) (ho:o.op=.pick c x y) (hc:ρ c=.bool false) (hk:q.holds ok (ρ y) w):Rg.Does Tryz.prog o ρ w fun v w'=>RB' w w'∧True∧q.holds ok v w':=Rg.Does.value (v:=ρ y) (w':=w) (by simp [execOp,ho,hc,asBool]) ⟨RB'.refl _,trivial,hk⟩
theorem doesh_allocP {ok:Nat→Prop} {n:Nat} (ho:o.op=.alloc 26) (hn:n≤w.heap.size):Rg.Does Tryz.prog o ρ w fun v w'=>RB' w w'∧True∧(Fh.bk n (.cells #[.int .i64 0,.int .u64 0,.slice none 0 0,.slice none 0 0] 26 (0,0))).holds ok v w':=by
 have hP:=al w o4z;refine Rg.Does.value (v:=.pointer (some ⟨w.heap.size,0,none⟩)) (w':=w.alloc o4z) ?_ ⟨hP,trivial,w.heap.size,rfl,aw _ _,hn⟩;simp only [execOp,ho];go_simp
end
theorem h_lab {ok:Nat→Prop} {v1:Value} {W:World} {x:It} (h1:(Fh.it x).holds ok v1 W):Calls Tryz.prog 85 #[v1] W (EndO ok W (.eq (.bool (It.labR x)))):=by
 obtain ⟨A,rfl,hI⟩:=h1;exact (labr_any x A W).mono fun _ _ h=>⟨_,h.1,h.2,rfl⟩
theorem h_val {ok:Nat→Prop} {v1 v2 v3:Value} {W:World} {x y m:It} (h1:(Fh.it x).holds ok v1 W) (h2:(Fh.it y).holds ok v2 W) (h3:(Fh.it m).holds ok v3 W) (hy:y.kids.length≤1000) (hm:m.kids.length≤1000):Calls Tryz.prog 86 #[v1,v2,v3] W (EndO ok W (.eq (.bool (It.valR x y m.kids)))):=by
 obtain ⟨A,rfl,hI⟩:=h1;obtain ⟨K,rfl,hK⟩:=h2;obtain ⟨M,rfl,hM⟩:=h3;exact (rvalue_any x y m A K M W _ _ _ hI hK hM hy hm).mono fun _ _ h=>⟨_,h.1,h.2,rfl⟩
def BX (p u:It) (A C:Ad) (B:Nat) (w1:World) (a b:Value) (W:World):Prop:=∃ T3 T4,a=.pointer (some ⟨T3,0,none⟩)∧b=.pointer (some ⟨T4,0,none⟩)∧W.heap[T3]?=some (.cells #[.int .i64 p.kind,.int .u64 (p.num:Int),.slice A.ab A.nb A.cb,.slice A.ai A.ni A.ci] 26 (0,0))∧W.heap[T4]?=some (.cells #[.int .i64 u.kind,.int .u64 (u.num:Int),.slice C.ab C.nb C.cb,.slice C.ai C.ni C.ci] 26 (0,0))∧Below w1.heap.size w1 W
def RL1 (p u:It) (w2:World) (i:Value) (W:World):Prop:=∃ k:Nat,i=.int .i64 (k:Int)∧k≤2∧(0 < k→It.parR p=true)∧(1 < k→It.parR u=true)∧Below w2.heap.size w2 W
def RL2 (m:It) (w2:World) (i:Value) (W:World):Prop:=∃ T:Nat,i=.int .i64 (T:Int)∧T % 2=0∧T≤m.kids.length∧(∀ q ∈ It.pairsK (m.kids.take T),It.labR q.1=true∧It.valR q.1 q.2 m.kids=true)∧Below w2.heap.size w2 W
def RL3 (p u:It) (w2:World) (i:Value) (W:World):Prop:=∃ T:Nat,i=.int .i64 (T:Int)∧T % 2=0∧T≤u.kids.length∧(∀ q ∈ It.pairsK (u.kids.take T),It.hasK p.kids q.1=false∧It.same q.1 (It.int 2)=false)∧Below w2.heap.size w2 W
theorem pairsK_takeT {l:List It} {T:Nat} (h:T % 2=0) (h1:T < l.length) (h2:T + 1 < l.length):It.pairsK (l.take (T + 2))=It.pairsK (l.take T) ++ [(l[T],l[T + 1])]:=by
 obtain ⟨t,rfl⟩:∃ t,T=2 * t:=⟨T / 2,by omega⟩;exact pairsK_take l t _ _ (List.getElem?_eq_getElem h1) (List.getElem?_eq_getElem h2)
theorem pKi {l:List It} {T:Nat} {q:It.KV} (h:T % 2=0) (h1:T≤l.length) (hq:q ∈ It.pairsK (l.take T)):q ∈ It.pairsK l:=by
 have e:=It.pairsK_append (l:=l.take T) (m:=l.drop T) (by rw [List.length_take];omega);rw [List.take_append_drop] at e;rw [e];exact List.mem_append_left _ hq
theorem el_all {ok:Nat→Prop} {w:World} {x:It} {a:Option Addr} {j:Nat} (h:EL ok w x a j):∃ b o Y,a=some ⟨b,o,none⟩∧∀ W,Below w.heap.size w W→(W.cell? ⟨b,o + j * 4,none⟩=some (.int .i64 x.kind)∧W.cell? ⟨b,o + j * 4 + 1,none⟩=some (.int .u64 (x.num:Int))∧W.cell? ⟨b,o + j * 4 + 2,none⟩=some (.slice Y.ab Y.nb Y.cb)∧W.cell? ⟨b,o + j * 4 + 3,none⟩=some (.slice Y.ai Y.ni Y.ci))∧IR ok W x Y:=by
 obtain ⟨b,o,Y,e,_,c,hI⟩:=h;refine ⟨b,o,Y,e,fun W hW=>⟨?_,hI.below hW⟩⟩;have hk:=hW.block b (lg c.1);exact ⟨(cu hk).trans c.1,(cu hk).trans c.2.1,(cu hk).trans c.2.2.1,(cu hk).trans c.2.2.2⟩
theorem hvR_kp {p u:It} (h:¬ p.kind=5):It.hvalidR p u=false:=by unfold It.hvalidR;simp [h]
theorem hvR_ku {p u:It} (h:¬ u.kind=5):It.hvalidR p u=false:=by unfold It.hvalidR;simp [h]
theorem hvR_vp {p u:It} (h:It.valid p=false):It.hvalidR p u=false:=by unfold It.hvalidR;simp [h]
theorem hvR_vu {p u:It} (h:It.valid u=false):It.hvalidR p u=false:=by unfold It.hvalidR;simp [h]
theorem hvR_pp {p u:It} (h:It.parR p=false):It.hvalidR p u=false:=by unfold It.hvalidR;simp [h]
theorem hvR_pu {p u:It} (h:It.parR u=false):It.hvalidR p u=false:=by unfold It.hvalidR;simp [h]
theorem parR_no {m:It} {q:It.KV} (hq:q ∈ It.pairsK m.kids) (h:(It.labR q.1 && It.valR q.1 q.2 m.kids)=false):It.parR m=false:=by
 cases hm:It.parR m with
 | false=>rfl
 | true=>
   unfold It.parR at hm;rw [List.all_eq_true] at hm;rw [hm q hq] at h;cases h
theorem parR_yes {m:It} (h:∀ q ∈ It.pairsK m.kids,It.labR q.1=true∧It.valR q.1 q.2 m.kids=true):It.parR m=true:=by
 unfold It.parR;rw [List.all_eq_true];intro q hq;rw [(h q hq).1,(h q hq).2];rfl
theorem hvR_dup {p u:It} {q:It.KV} (hq:q ∈ It.pairsK u.kids) (h:(It.hasK p.kids q.1 || It.same q.1 (It.int 2))=true):It.hvalidR p u=false:=by
 have:((It.pairsK u.kids).all fun q=> !(It.hasK p.kids q.1 || It.same q.1 (It.int 2)))=false:=by
  rw [Bool.eq_false_iff];intro hh;rw [List.all_eq_true] at hh;have:=hh q hq;rw [h] at this;cases this
 unfold It.hvalidR;rw [this];simp
theorem hvR_end {p u:It} (k1:p.kind=5) (k2:u.kind=5) (v1:It.valid p=true) (v2:It.valid u=true) (r1:It.parR p=true) (r2:It.parR u=true) (h:∀ q ∈ It.pairsK u.kids,It.hasK p.kids q.1=false∧It.same q.1 (It.int 2)=false):It.hvalidR p u=(!(It.find2 p u 5).isSome || !(It.find2 p u 6).isSome):=by
 have:((It.pairsK u.kids).all fun q=> !(It.hasK p.kids q.1 || It.same q.1 (It.int 2)))=true:=by
  rw [List.all_eq_true];intro q hq;rw [(h q hq).1,(h q hq).2];rfl
 unfold It.hvalidR;rw [this,k1,k2,v1,v2,r1,r2];rfl
theorem rhvalid_any (p u:It) (A C:Ad) (w:World) (ok ok':Nat→Prop) (hI:IR ok w p A) (hJ:IR ok' w u C) (hE:Env w):Calls Tryz.prog 21 #[.agg #[.int .i64 p.kind,.int .u64 (p.num:Int),.slice A.ab A.nb A.cb,.slice A.ai A.ni A.ci,.int .i64 u.kind,.int .u64 (u.num:Int),.slice C.ab C.nb C.cb,.slice C.ai C.ni C.ci]] w (VP (It.hvalidR p u) w):=by
 obtain ⟨P0,N0⟩:=an w (o8 p u A C);have HX:=dh N0;have HP:=dh P0;have HI:=dh ((hI.imp (ok':=fun b=>b < w.heap.size) fun b _ hb=>hb).below P0);have HJ:=dh ((hJ.imp (ok':=fun b=>b < w.heap.size) fun b _ hb=>hb).below P0);have HE:=dh (hE.below P0);have HT1:=dh hE.lt;clear hI hJ hE N0 P0;obtain ⟨R,hRR⟩:∃ R,It.hvalidR p u=R:=⟨_,rfl⟩;rw [hRR];have HRR:=dh hRR;clear hRR;go_enter Tryz.func21,Tryz.ntmps21
 go_upto_region 1 with fail
 generalize w.alloc _=w1 at *;generalize hB:w.heap.size=B at *;have HS:Hid (∀ W,Below w1.heap.size w1 W→(W.cell? ⟨B,0,none⟩=some (.int .i64 p.kind)∧W.cell? ⟨B,1,none⟩=some (.int .u64 (p.num:Int))∧W.cell? ⟨B,2,none⟩=some (.slice A.ab A.nb A.cb)∧W.cell? ⟨B,3,none⟩=some (.slice A.ai A.ni A.ci))∧(W.cell? ⟨B,4,none⟩=some (.int .i64 u.kind)∧W.cell? ⟨B,5,none⟩=some (.int .u64 (u.num:Int))∧W.cell? ⟨B,6,none⟩=some (.slice C.ab C.nb C.cb)∧W.cell? ⟨B,7,none⟩=some (.slice C.ai C.ni C.ci))):=dh fun W hW=>by
  obtain ⟨a0,a1,a2,a3,a4,a5,a6,a7⟩:=ck8 hW HX;exact ⟨⟨a0,a1,a2,a3⟩,a4,a5,a6,a7⟩
 go_cut [3,4] from 15 to 18 (fun a b W=>BX p u A C B w1 a b W)
 case first=>
  refine wp_region_held_drew (S:=(fun w'=>(w'.cell? ⟨B,0,none⟩=some (.int .i64 p.kind)∧w'.cell? ⟨B,1,none⟩=some (.int .u64 (p.num:Int))∧w'.cell? ⟨B,2,none⟩=some (.slice A.ab A.nb A.cb)∧w'.cell? ⟨B,3,none⟩=some (.slice A.ai A.ni A.ci))∧(w'.cell? ⟨B,4,none⟩=some (.int .i64 u.kind)∧w'.cell? ⟨B,5,none⟩=some (.int .u64 (u.num:Int))∧w'.cell? ⟨B,6,none⟩=some (.slice C.ab C.nb C.cb)∧w'.cell? ⟨B,7,none⟩=some (.slice C.ai C.ni C.ci)))) (by kernel_rfl) (HS.out _ (Below.refl _ _).drew) (fun hHeld=>?_);refine tk 0 rfl hHeld ?_;simp only [Act.put,sx]
  refine tk 1 rfl hHeld ?_;simp only [Act.put,sx]
  refine tk 2 rfl hHeld ?_;simp only [Act.put,sx]
  refine tk 3 rfl hHeld ?_;simp only [Act.put,sx]
  refine wpAnyH_ready (rs:=[4,5]) (by kernel_rfl) (by simp) ?_;refine AllReadyH.cons rfl (fun K1 hK1=>?_) (AllReadyH.cons rfl (fun K1 hK1=>?_) AllReadyH.nil)
  ·go_simp
   have P4:Below w1.heap.size w1 (w1.alloc o4z).drew:=(al w1 o4z).drew;have N4:(w1.alloc o4z).drew.heap[w1.heap.size]?=_:=aw w1 o4z;generalize (w1.alloc o4z).drew=V4 at *;obtain ⟨b4,hb4⟩:∃ b,b=w1.heap.size:=⟨_,rfl⟩;rw [← hb4] at N4;rw [← hb4];have HB:=dh P4;have HT4:=dh N4;have HG4:Hid (w1.heap.size≤b4):=dh (Nat.le_of_eq hb4.symm);clear P4 N4 hb4;refine hK1.out _ _ (HS.out _ HB.out) (fun hHeld=>?_);clear hK1
   try simp only [sz]
   refine ry 5 (by kernel_rfl) rfl fun K1 hK1=>?_
   go_simp
   obtain ⟨P5,N5⟩:=an V4 o4z;have HNE:Hid (b4≠V4.heap.size):=dh (by have:=lb HT4.out;omega);have HG5:Hid (w1.heap.size≤V4.heap.size):=dh HB.out.size;have HT4':=kp P5 HT4;have HB':=dh (pt HB.out P5);have HT5:=dh N5;clear HB HT4 P5 N5;have HB:=HB';have HT4:=HT4';clear HB' HT4';refine hK1.out _ _ (HS.out _ HB.out) (fun hHeld=>?_);clear hK1;generalize V4.alloc _=V5 at *;generalize V4.heap.size=b5 at *
   try simp only [sz]
   refine ry 6 (by kernel_rfl) rfl fun K1 hK1=>?_
   have f:=ff HT4.out;have t:=cf HT4.out;go_simp
   clear f t;obtain ⟨W',hW',hp4,hs4,hb4⟩:=p4I (W:=V5) (b:=b4) HT4.out p A;rw [hW'];clear hW';have HT5':=dh ((hs4.2 b5 (by have:=HNE.out;omega)).trans HT5.out);have HB':=dh (hb4 _ _ HB.out HG4.out);have HT4':=dh hp4;clear HB HT5 HT4 hp4 hs4 hb4;have HB:=HB';have HT5:=HT5';have HT4:=HT4';clear HB' HT5' HT4';refine hK1.out _ _ (HS.out _ HB.out) (fun hHeld=>?_);clear hK1;generalize W'=V6 at *
   try simp only [sz]
   refine ry 7 (by kernel_rfl) rfl fun K1 hK1=>?_
   have f:=ff HT5.out;have t:=cf HT5.out;go_simp
   clear f t;obtain ⟨W',hW',hp4,hs4,hb4⟩:=p4I (W:=V6) (b:=b5) HT5.out u C;rw [hW'];clear hW';have HT4':=dh ((hs4.2 b4 (by have:=HNE.out;omega)).trans HT4.out);have HB':=dh (hb4 _ _ HB.out HG5.out);have HT5':=dh hp4;clear HB HT4 HT5 hp4 hs4 hb4;have HB:=HB';have HT4:=HT4';have HT5:=HT5';clear HB' HT4' HT5';refine hK1.out _ _ (HS.out _ HB.out) (fun hHeld=>?_);clear hK1;generalize W'=V7 at *
   try simp only [sz]
   refine wpAnyH_done (by kernel_rfl) ?_ _
   try simp only [sz]
   go_wp2_with fail
   go_meet
   exact ⟨b4,b5,rfl,rfl,HT4.out,HT5.out,HB.out⟩
  ·go_simp
   have P5:Below w1.heap.size w1 (w1.alloc o4z).drew:=(al w1 o4z).drew;have N5:(w1.alloc o4z).drew.heap[w1.heap.size]?=_:=aw w1 o4z;generalize (w1.alloc o4z).drew=V5 at *;obtain ⟨b5,hb5⟩:∃ b,b=w1.heap.size:=⟨_,rfl⟩;rw [← hb5] at N5;rw [← hb5];have HB:=dh P5;have HT5:=dh N5;have HG5:Hid (w1.heap.size≤b5):=dh (Nat.le_of_eq hb5.symm);clear P5 N5 hb5;refine hK1.out _ _ (HS.out _ HB.out) (fun hHeld=>?_);clear hK1
   try simp only [sz]
   refine ry 4 (by kernel_rfl) rfl fun K1 hK1=>?_
   go_simp
   obtain ⟨P4,N4⟩:=an V5 o4z;have HNE:Hid (b5≠V5.heap.size):=dh (by have:=lb HT5.out;omega);have HG4:Hid (w1.heap.size≤V5.heap.size):=dh HB.out.size;have HT5':=kp P4 HT5;have HB':=dh (pt HB.out P4);have HT4:=dh N4;clear HB HT5 P4 N4;have HB:=HB';have HT5:=HT5';clear HB' HT5';refine hK1.out _ _ (HS.out _ HB.out) (fun hHeld=>?_);clear hK1;generalize V5.alloc _=V4 at *;generalize V5.heap.size=b4 at *
   try simp only [sz]
   refine ry 6 (by kernel_rfl) rfl fun K1 hK1=>?_
   have f:=ff HT4.out;have t:=cf HT4.out;go_simp
   clear f t;obtain ⟨W',hW',hp4,hs4,hb4⟩:=p4I (W:=V4) (b:=b4) HT4.out p A;rw [hW'];clear hW';have HT5':=dh ((hs4.2 b5 (by have:=HNE.out;omega)).trans HT5.out);have HB':=dh (hb4 _ _ HB.out HG4.out);have HT4':=dh hp4;clear HB HT5 HT4 hp4 hs4 hb4;have HB:=HB';have HT5:=HT5';have HT4:=HT4';clear HB' HT5' HT4';refine hK1.out _ _ (HS.out _ HB.out) (fun hHeld=>?_);clear hK1;generalize W'=V6 at *
   try simp only [sz]
   refine ry 7 (by kernel_rfl) rfl fun K1 hK1=>?_
   have f:=ff HT5.out;have t:=cf HT5.out;go_simp
   clear f t;obtain ⟨W',hW',hp4,hs4,hb4⟩:=p4I (W:=V6) (b:=b5) HT5.out u C;rw [hW'];clear hW';have HT4':=dh ((hs4.2 b4 (by have:=HNE.out;omega)).trans HT4.out);have HB':=dh (hb4 _ _ HB.out HG5.out);have HT5':=dh hp4;clear HB HT4 HT5 hp4 hs4 hb4;have HB:=HB';have HT4:=HT4';have HT5:=HT5';clear HB' HT4' HT5';refine hK1.out _ _ (HS.out _ HB.out) (fun hHeld=>?_);clear hK1;generalize W'=V7 at *
   try simp only [sz]
   refine wpAnyH_done (by kernel_rfl) ?_ _
   try simp only [sz]
   go_wp2_with fail
   go_meet
   exact ⟨b4,b5,rfl,rfl,HT4.out,HT5.out,HB.out⟩
 case rest=>
  obtain ⟨T3,T4,rfl,rfl,h3,h4,hB1⟩:=hcut;have HT3:=dh h3;have HT4:=dh h4;have HX1:=kp hB1 HX;have HP1:=dh (bwt HP.out hB1 hB);have HI1:=dh (HI.out.below hB1);have HJ1:=dh (HJ.out.below hB1);have HE1:=dh (HE.out.below hB1);clear h3 h4 hB1 HX HP HI HJ HE HS;have HT31:=HT3;have HT41:=HT4;clear HT3 HT4;have t:=cf HT31.out;have s:=cf HT41.out;by_cases kp:p.kind=5
  case neg=>
   have hkb:(p.kind !=5)=true:=by simpa using kp
   have HNO:Hid (R=false):=dh (HRR.out.symm.trans (hvR_kp kp));go_wp2_with fail
   go_ret
   exact ⟨by rw [HNO.out];try rfl,by rw [hB];exact HP1.out⟩
  have hkb:(p.kind !=5)=false:=by simpa using kp
  have HKP:=dh kp;clear kp;by_cases ku:u.kind=5
  case neg=>
   have hkc:(u.kind !=5)=true:=by simpa using ku
   have HNO:Hid (R=false):=dh (HRR.out.symm.trans (hvR_ku ku));go_wp2_with fail
   go_ret
   exact ⟨by rw [HNO.out];try rfl,by rw [hB];exact HP1.out⟩
  have hkc:(u.kind !=5)=false:=by simpa using ku
  have HKU:=dh ku;clear ku;have HCV:=dh (fun V=>rva p A wc _ HI1.out HE1.out V);cases hv:It.valid p with
  | false=>
    have HNO:Hid (R=false):=dh (HRR.out.symm.trans (hvR_vp hv));go_wp2_with fail
    refine (HCV.out false hv).mono ?_;rintro e v1 ⟨rfl,B2⟩;have HPW:=dh (bwt HP1.out B2 hB);clear B2 HCV;go_wp2_with fail
    go_ret
    exact ⟨by rw [HNO.out];try rfl,by rw [hB];exact HPW.out⟩
  | true=>
    have HCP:=dh (HCV.out true hv);clear HCV;go_wp2_with fail
    refine HCP.out.mono ?_;rintro e v1 ⟨rfl,B2⟩;have HP2:=dh (bwt HP1.out B2 hB);have HT32:=kp B2 HT31;have HT42:=kp B2 HT41;have HX2:=kp B2 HX1;have HI2:=dh (HI1.out.below B2);have HJ2:=dh (HJ1.out.below B2);have HE2:=dh (HE1.out.below B2);clear HP1 HT31 HT41 HX1 HI1 HJ1 HE1;clear B2 HCP t s;have t:=cf HT32.out;have s:=cf HT42.out;have HCV:=dh (fun V=>rva u C v1 _ HJ2.out HE2.out V);cases hv':It.valid u with
    | false=>
      have HNO:Hid (R=false):=dh (HRR.out.symm.trans (hvR_vu hv'));go_wp2_with fail
      refine (HCV.out false hv').mono ?_;rintro e v2 ⟨rfl,B2⟩;have HPW:=dh (bwt HP2.out B2 hB);clear B2 HCV;go_wp2_with fail
      go_ret
      exact ⟨by rw [HNO.out];try rfl,by rw [hB];exact HPW.out⟩
    | true=>
      have HCP:=dh (HCV.out true hv');have HK5:Hid ((p.kind=5∧u.kind=5)∧It.valid p=true∧It.valid u=true):=dh ⟨⟨HKP.out,HKU.out⟩,hv,hv'⟩;clear HCV hv hv' HKP HKU;go_wp2_with fail
      refine HCP.out.mono ?_;rintro e v2 ⟨rfl,B2⟩;have HP3:=dh (bwt HP2.out B2 hB);have HT33:=kp B2 HT32;have HT43:=kp B2 HT42;have HX3:=kp B2 HX2;have HI3:=dh (HI2.out.below B2);have HJ3:=dh (HJ2.out.below B2);have HE3:=dh (HE2.out.below B2);clear HP2 HT32 HT42 HX2 HI2 HJ2 HE2;clear B2 HCP t s;have t:=cf HT33.out;have s:=cf HT43.out;have P4:=al v2 (.cells #[.int .i64 p.kind,.int .u64 (p.num:Int),.slice A.ab A.nb A.cb,.slice A.ai A.ni A.ci,.int .i64 u.kind,.int .u64 (u.num:Int),.slice C.ab C.nb C.cb,.slice C.ai C.ni C.ci] 26);have HR4:=dh (aw v2 (.cells #[.int .i64 p.kind,.int .u64 (p.num:Int),.slice A.ab A.nb A.cb,.slice A.ai A.ni A.ci,.int .i64 u.kind,.int .u64 (u.num:Int),.slice C.ab C.nb C.cb,.slice C.ai C.ni C.ci] 26));have HP4:=dh (bwt HP3.out P4 hB);have HT34:=kp P4 HT33;have HT44:=kp P4 HT43;have HX4:=kp P4 HX3;have HI4:=dh (HI3.out.below P4);have HJ4:=dh (HJ3.out.below P4);have HE4:=dh (HE3.out.below P4);clear HP3 HT33 HT43 HX3 HI3 HJ3 HE3;clear P4;obtain ⟨⟨pab,pnb,pcb,pai,pni,pci⟩,hA⟩:∃ A',A'=A:=⟨_,rfl⟩;obtain ⟨⟨uab,unb,ucb,uai,uni,uci⟩,hC⟩:∃ C',C'=C:=⟨_,rfl⟩;subst hA hC
      dsimp only at *
      go_upto_region 5 with fail
      clear t s hkb hkc;generalize v2.alloc _=w4 at *;generalize v2.heap.size=T5 at *;go_loopw [41] (RL1 p u w4) (fun i _=>2 - (intOf i).toNat)
      case atStart=>exact ⟨0,rfl,by omega,fun h=>absurd h (by omega),fun h=>absurd h (by omega),Below.refl _ _⟩
      case round=>
       obtain ⟨u0,hu0⟩:∃ u0,u0=wr:=⟨_,rfl⟩;subst hu0;obtain ⟨k,rfl,hk,hp,hu,hB0⟩:=hrel;have HK:=dh (And.intro hp hu);have HP5:=dh (bwt HP4.out hB0 hB);have HT35:=kp hB0 HT34;have HT45:=kp hB0 HT44;have HX5:=kp hB0 HX4;have HR5:=kp hB0 HR4;have HI5:=dh (HI4.out.below hB0);have HJ5:=dh (HJ4.out.below hB0);have HE5:=dh (HE4.out.below hB0);have HB5:=dh hB0;clear hp hu hB0;by_cases hk2:k < 2
       ·have hkz:(k:Int) < 2:=by omega
        rcases (show k=0∨k=1 by omega) with rfl | rfl
        ·obtain ⟨r0,r1,r2,r3,r4,r5,r6,r7⟩:=ce HR5.out
         have P6:=al u0 (oc p.kind (p.num:Int) pab pnb pcb pai pni pci);have HBX6:=dh (aw u0 (oc p.kind (p.num:Int) pab pnb pcb pai pni pci));have HP6:=dh (bwt HP5.out P6 hB);have HT36:=kp P6 HT35;have HT46:=kp P6 HT45;have HX6:=kp P6 HX5;have HI6:=dh (HI5.out.below P6);have HJ6:=dh (HJ5.out.below P6);have HE6:=dh (HE5.out.below P6);have HB6:=dh (HB5.out.trans (P6.mono HB5.out.size));clear HP5 HT35 HT45 HX5 HI5 HJ5 HE5 HR5;clear P6 HB5;go_upto_region 8 with fail
         clear r0 r1 r2 r3 r4 r5 r6 r7;generalize u0.alloc _=w6 at *;generalize u0.heap.size=T6 at *;go_loopw [7] (RL2 p w6) (fun i _=>p.kids.length - (intOf i).toNat)
         case atStart=>exact ⟨0,rfl,rfl,by omega,fun q hq=>by simp [It.pairsK] at hq,Below.refl _ _⟩
         case round=>
          obtain ⟨v0,hv0⟩:∃ v0,v0=wr:=⟨_,rfl⟩;subst hv0;obtain ⟨T,rfl,hT2,hTn,hall,hB7⟩:=hrel;have HBX7:=kp hB7 HBX6;have HP7:=dh (bwt HP6.out hB7 hB);have HT37:=kp hB7 HT36;have HT47:=kp hB7 HT46;have HX7:=kp hB7 HX6;have HI7:=dh (HI6.out.below hB7);have HJ7:=dh (HJ6.out.below hB7);have HE7:=dh (HE6.out.below hB7);have HB7:=dh (HB6.out.trans (hB7.mono HB6.out.size));have HBW:=dh hB7;have HALL:=dh hall;have HNI:Hid (pni=p.kids.length):=dh HI7.out.tl.1;have HLEN:Hid (p.kids.length % 2=0∧p.kids.length≤256):=dh ⟨(It.mev HK5.out.2.1 HK5.out.1.1).1,kids_le HK5.out.2.1⟩;obtain ⟨z0,z1,z2,z3⟩:=cf HBX7.out;clear hB7 hall;by_cases hqL:T < p.kids.length
          ·have hT1:T + 1 < p.kids.length:=by have:=HLEN.out;omega
           have hqn:T < pni:=by have:=HNI.out;omega
           have hqn1:T + 1 < pni:=by have:=HNI.out;omega
           have hqz:(T:Int) < (pni:Int):=by omega
           have hwq:IntKind.i64.wrap ((T:Int) + 2)=((T + 2:Nat):Int):=by have:=HLEN.out;rw [IntWalk.i64_in _ (by omega)];omega
           obtain ⟨b,o,Y,hab,hE1⟩:=el_all (HI7.out.tl.2.2 T hqL);obtain ⟨b',o',Z,hab',hE2⟩:=el_all (HI7.out.tl.2.2 (T + 1) hT1);have hab:pai=some ⟨b,o,none⟩:=hab;have hab':pai=some ⟨b',o',none⟩:=hab';have hbb:b'=b∧o'=o:=by rw [hab] at hab';simp at hab';exact ⟨hab'.1.symm,hab'.2.symm⟩
           rw [hbb.1,hbb.2] at hE2;clear hab' hbb;subst hab;have htake:=pairsK_takeT hT2 hqL hT1;have hin:(p.kids[T],p.kids[T + 1]) ∈ It.pairsK p.kids:=pKi (T:=T + 2) (by omega) (by omega) (by rw [htake];simp);have hzl:p.kids[T + 1].kids.length≤1000:=by have:=kids_le (It.valid_kid HK5.out.2.1 (List.getElem_mem hT1));omega
           have HEL0:=dh hE1;have HEL1:=dh hE2;have HTAKE:=dh htake;have HIN:=dh hin;have HZL:=dh hzl;have HQL:=dh (And.intro hqL hT1);clear hE1 hE2 htake hin hzl;generalize p.kids[T]=y at *;generalize p.kids[T + 1]=z at *;clear hqL hT1;go_upto_region 10 with fail
           clear z0 z1 z2 z3;cases hlab:It.labR y with
           | false=>
             have HNO:Hid (R=false):=dh (HRR.out.symm.trans (hvR_pp (parR_no HIN.out (by show (It.labR y && _)=false;rw [hlab];rfl))));refine rgh (M:=23) (fun b=>b < B) [.eq (.pointer (some ⟨T6,3,none⟩)),.eq (.slice (some ⟨b,o,none⟩) pni pci),.eq (.int .i64 (T:Int)),.eq (.pointer (some ⟨b,o + T * 4,none⟩)),.it y,.eq (.bool false),.eq (.bool (!false)),.eq (.bool (!false)),.any,.any,.any,.any,.any,.any,.any,.any,.any,.any,.any,.any,.any,.any,.eq (.bool true)] [.pl,.pl,.pl,.pl,.pl,.pl,.pl,.pl,.pl,.pl,.pl,.pl,.pl,.pl,.pl,.pl,.pl,.pl,.pl,.pl,.pl,.pl,.pl] 23 23 (.any) (by kernel_rfl) (by kernel_rfl) (by kernel_rfl) (fun _ _ o _ _ h=>by cases o <;> exact h) ?_ ?_
             ·refine ⟨?_,?_,?_,?_,?_,?_,?_,?_,?_,?_,?_,?_,?_,?_,?_,?_,?_,?_,?_,?_,?_,?_,?_,trivial⟩<;>intro vs W hR _ hd;exact df3 (.tmp 6) (T6) rfl (by kernel_rfl);exact dl24 (.tmp 52) (T6) 3 _ _ _ rfl (hd 0 (dd rfl)) (ck hR HBX7).2.2.2;exact dmv (.tmp 7) rfl (show _=_ by kernel_rfl);exact di24 (.tmp 53) (.tmp 54) b o pni pci T hqn rfl (hd 1 (dd rfl)) (hd 2 (dd rfl));exact dld (.tmp 55) b (o + T * 4) y Y rfl (hd 3 (dd rfl)) (HEL0.out _ hR).1.1 (HEL0.out _ hR).1.2.1 (HEL0.out _ hR).1.2.2.1 (HEL0.out _ hR).1.2.2.2 (HEL0.out _ hR).2;exact dcl (vals:=#[vs 4]) 85 (.func 85) #[.tmp 56] _ rfl (by kernel_rfl) (by kernel_rfl) (cq Tryz.func85) ((by have h:=h_lab (hd 4 (dd rfl));rw [hlab] at h;exact h));exact does_not (.tmp 57) false rfl (hd 5 (dd rfl));exact dmv (.tmp 58) rfl (hd 6 (dd rfl));(iterate 14 exact ⟨fun h=>by have e:=h.symm.trans (hd 7 (dd rfl));simp at e,fun _=>trivial⟩);exact dpt (.tmp 59) (.const (.bool true)) (.tmp 73) rfl (hd 7 (dd rfl)) (show _=_ by kernel_rfl)
             ·intro vs W8 hR8 hf hD hE
              have e22:vs 22=.bool true:=hf 22 (dd rfl);have HPW:=dh (bwt HP7.out hR8 hB);simp only [sr,Nat.zero_add,Nat.reduceAdd,e22];clear hf hD hE e22 hR8;go_wp2_with fail
              go_ret
              exact ⟨by rw [HNO.out];try rfl,by rw [hB];exact HPW.out⟩
           | true=>
             cases hvr:It.valR y z p.kids with
             | false=>
               have HNO:Hid (R=false):=dh (HRR.out.symm.trans (hvR_pp (parR_no HIN.out (by show (It.labR y && It.valR y z p.kids)=false;rw [hvr];simp))));refine rgh (M:=23) (fun b=>b < B) [.eq (.pointer (some ⟨T6,3,none⟩)),.eq (.slice (some ⟨b,o,none⟩) pni pci),.eq (.int .i64 (T:Int)),.eq (.pointer (some ⟨b,o + T * 4,none⟩)),.it y,.eq (.bool true),.eq (.bool (!true)),.eq (.bool (!true)),.eq (.pointer (some ⟨T6,3,none⟩)),.eq (.slice (some ⟨b,o,none⟩) pni pci),.eq (.int .i64 (T:Int)),.eq (.pointer (some ⟨b,o + T * 4,none⟩)),.it y,.eq (.pointer (some ⟨T6,3,none⟩)),.eq (.slice (some ⟨b,o,none⟩) pni pci),.eq (.int .i64 (T:Int)),.eq (.int .i64 ((T + 1:Nat):Int)),.eq (.pointer (some ⟨b,o + (T + 1) * 4,none⟩)),.it z,.it p,.eq (.bool false),.eq (.bool (!false)),.eq (.bool (!false))] [.pl,.pl,.pl,.pl,.pl,.pl,.pl,.pl,.pl,.pl,.pl,.pl,.pl,.pl,.pl,.pl,.pl,.pl,.pl,.pl,.pl,.pl,.pl] 23 23 (.any) (by kernel_rfl) (by kernel_rfl) (by kernel_rfl) (fun _ _ o _ _ h=>by cases o <;> exact h) ?_ ?_
               ·refine ⟨?_,?_,?_,?_,?_,?_,?_,?_,?_,?_,?_,?_,?_,?_,?_,?_,?_,?_,?_,?_,?_,?_,?_,trivial⟩<;>intro vs W hR _ hd;exact df3 (.tmp 6) (T6) rfl (by kernel_rfl);exact dl24 (.tmp 52) (T6) 3 _ _ _ rfl (hd 0 (dd rfl)) (ck hR HBX7).2.2.2;exact dmv (.tmp 7) rfl (show _=_ by kernel_rfl);exact di24 (.tmp 53) (.tmp 54) b o pni pci T hqn rfl (hd 1 (dd rfl)) (hd 2 (dd rfl));exact dld (.tmp 55) b (o + T * 4) y Y rfl (hd 3 (dd rfl)) (HEL0.out _ hR).1.1 (HEL0.out _ hR).1.2.1 (HEL0.out _ hR).1.2.2.1 (HEL0.out _ hR).1.2.2.2 (HEL0.out _ hR).2;exact dcl (vals:=#[vs 4]) 85 (.func 85) #[.tmp 56] _ rfl (by kernel_rfl) (by kernel_rfl) (cq Tryz.func85) ((by have h:=h_lab (hd 4 (dd rfl));rw [hlab] at h;exact h));exact does_not (.tmp 57) true rfl (hd 5 (dd rfl));exact dmv (.tmp 58) rfl (hd 6 (dd rfl));exact ⟨fun _=>df3 (.tmp 6) (T6) rfl (by kernel_rfl),fun h=>absurd (hd 7 (dd rfl)) h⟩;exact ⟨fun _=>dl24 (.tmp 60) (T6) 3 _ _ _ rfl (hd 8 (dd rfl)) (ck hR HBX7).2.2.2,fun h=>absurd (hd 7 (dd rfl)) h⟩;exact ⟨fun _=>dmv (.tmp 7) rfl (show _=_ by kernel_rfl),fun h=>absurd (hd 7 (dd rfl)) h⟩;exact ⟨fun _=>di24 (.tmp 61) (.tmp 62) b o pni pci T hqn rfl (hd 9 (dd rfl)) (hd 10 (dd rfl)),fun h=>absurd (hd 7 (dd rfl)) h⟩;exact ⟨fun _=>dld (.tmp 63) b (o + T * 4) y Y rfl (hd 11 (dd rfl)) (HEL0.out _ hR).1.1 (HEL0.out _ hR).1.2.1 (HEL0.out _ hR).1.2.2.1 (HEL0.out _ hR).1.2.2.2 (HEL0.out _ hR).2,fun h=>absurd (hd 7 (dd rfl)) h⟩;exact ⟨fun _=>df3 (.tmp 6) (T6) rfl (by kernel_rfl),fun h=>absurd (hd 7 (dd rfl)) h⟩;exact ⟨fun _=>dl24 (.tmp 65) (T6) 3 _ _ _ rfl (hd 13 (dd rfl)) (ck hR HBX7).2.2.2,fun h=>absurd (hd 7 (dd rfl)) h⟩;exact ⟨fun _=>dmv (.tmp 7) rfl (show _=_ by kernel_rfl),fun h=>absurd (hd 7 (dd rfl)) h⟩;exact ⟨fun _=>does_add3 (.tmp 67) (.const (.int .i64 1)) (T:Int) 1 ((T + 1:Nat):Int) rfl (hd 15 (dd rfl)) (show _=_ by kernel_rfl) (by omega) (by omega) (by have:=HLEN.out;omega),fun h=>absurd (hd 7 (dd rfl)) h⟩;exact ⟨fun _=>di24 (.tmp 66) (.tmp 68) b o pni pci (T + 1) hqn1 rfl (hd 14 (dd rfl)) (hd 16 (dd rfl)),fun h=>absurd (hd 7 (dd rfl)) h⟩;exact ⟨fun _=>dld (.tmp 69) b (o + (T + 1) * 4) z Z rfl (hd 17 (dd rfl)) (HEL1.out _ hR).1.1 (HEL1.out _ hR).1.2.1 (HEL1.out _ hR).1.2.2.1 (HEL1.out _ hR).1.2.2.2 (HEL1.out _ hR).2,fun h=>absurd (hd 7 (dd rfl)) h⟩;exact ⟨fun _=>dlV (.tmp 6) (T6) p (⟨pab,pnb,pcb,some ⟨b,o,none⟩,pni,pci⟩:Ad) hR HBX7.out HI7.out rfl (by kernel_rfl),fun h=>absurd (hd 7 (dd rfl)) h⟩;exact ⟨fun _=>dcl (vals:=#[vs 12,vs 18,vs 19]) 86 (.func 86) #[.tmp 64,.tmp 70,.tmp 71] _ rfl (by kernel_rfl) (by kernel_rfl) (cq Tryz.func86) ((by have h:=h_val (x:=y) (y:=z) (m:=p) (hd 12 (dd rfl)) (hd 18 (dd rfl)) (hd 19 (dd rfl)) HZL.out (by have:=HLEN.out;omega);rw [hvr] at h;exact h)),fun h=>absurd (hd 7 (dd rfl)) h⟩;exact ⟨fun _=>does_not (.tmp 72) false rfl (hd 20 (dd rfl)),fun h=>absurd (hd 7 (dd rfl)) h⟩;exact dpf (.tmp 59) (.const (.bool true)) (.tmp 73) rfl (hd 7 (dd rfl)) (hd 21 (dd rfl))
               ·intro vs W8 hR8 hf hD hE
                have e22:vs 22=.bool true:=hf 22 (dd rfl);have HPW:=dh (bwt HP7.out hR8 hB);simp only [sr,Nat.zero_add,Nat.reduceAdd,e22];clear hf hD hE e22 hR8;go_wp2_with fail
                go_ret
                exact ⟨by rw [HNO.out];try rfl,by rw [hB];exact HPW.out⟩
             | true=>
               have HPM:=dh (And.intro hlab hvr);refine rgh (M:=23) (fun b=>b < B) [.eq (.pointer (some ⟨T6,3,none⟩)),.eq (.slice (some ⟨b,o,none⟩) pni pci),.eq (.int .i64 (T:Int)),.eq (.pointer (some ⟨b,o + T * 4,none⟩)),.it y,.eq (.bool true),.eq (.bool (!true)),.eq (.bool (!true)),.eq (.pointer (some ⟨T6,3,none⟩)),.eq (.slice (some ⟨b,o,none⟩) pni pci),.eq (.int .i64 (T:Int)),.eq (.pointer (some ⟨b,o + T * 4,none⟩)),.it y,.eq (.pointer (some ⟨T6,3,none⟩)),.eq (.slice (some ⟨b,o,none⟩) pni pci),.eq (.int .i64 (T:Int)),.eq (.int .i64 ((T + 1:Nat):Int)),.eq (.pointer (some ⟨b,o + (T + 1) * 4,none⟩)),.it z,.it p,.eq (.bool true),.eq (.bool (!true)),.eq (.bool (!true))] [.pl,.pl,.pl,.pl,.pl,.pl,.pl,.pl,.pl,.pl,.pl,.pl,.pl,.pl,.pl,.pl,.pl,.pl,.pl,.pl,.pl,.pl,.pl] 23 23 (.any) (by kernel_rfl) (by kernel_rfl) (by kernel_rfl) (fun _ _ o _ _ h=>by cases o <;> exact h) ?_ ?_
               ·refine ⟨?_,?_,?_,?_,?_,?_,?_,?_,?_,?_,?_,?_,?_,?_,?_,?_,?_,?_,?_,?_,?_,?_,?_,trivial⟩<;>intro vs W hR _ hd;exact df3 (.tmp 6) (T6) rfl (by kernel_rfl);exact dl24 (.tmp 52) (T6) 3 _ _ _ rfl (hd 0 (dd rfl)) (ck hR HBX7).2.2.2;exact dmv (.tmp 7) rfl (show _=_ by kernel_rfl);exact di24 (.tmp 53) (.tmp 54) b o pni pci T hqn rfl (hd 1 (dd rfl)) (hd 2 (dd rfl));exact dld (.tmp 55) b (o + T * 4) y Y rfl (hd 3 (dd rfl)) (HEL0.out _ hR).1.1 (HEL0.out _ hR).1.2.1 (HEL0.out _ hR).1.2.2.1 (HEL0.out _ hR).1.2.2.2 (HEL0.out _ hR).2;exact dcl (vals:=#[vs 4]) 85 (.func 85) #[.tmp 56] _ rfl (by kernel_rfl) (by kernel_rfl) (cq Tryz.func85) ((by have h:=h_lab (hd 4 (dd rfl));rw [hlab] at h;exact h));exact does_not (.tmp 57) true rfl (hd 5 (dd rfl));exact dmv (.tmp 58) rfl (hd 6 (dd rfl));exact ⟨fun _=>df3 (.tmp 6) (T6) rfl (by kernel_rfl),fun h=>absurd (hd 7 (dd rfl)) h⟩;exact ⟨fun _=>dl24 (.tmp 60) (T6) 3 _ _ _ rfl (hd 8 (dd rfl)) (ck hR HBX7).2.2.2,fun h=>absurd (hd 7 (dd rfl)) h⟩;exact ⟨fun _=>dmv (.tmp 7) rfl (show _=_ by kernel_rfl),fun h=>absurd (hd 7 (dd rfl)) h⟩;exact ⟨fun _=>di24 (.tmp 61) (.tmp 62) b o pni pci T hqn rfl (hd 9 (dd rfl)) (hd 10 (dd rfl)),fun h=>absurd (hd 7 (dd rfl)) h⟩;exact ⟨fun _=>dld (.tmp 63) b (o + T * 4) y Y rfl (hd 11 (dd rfl)) (HEL0.out _ hR).1.1 (HEL0.out _ hR).1.2.1 (HEL0.out _ hR).1.2.2.1 (HEL0.out _ hR).1.2.2.2 (HEL0.out _ hR).2,fun h=>absurd (hd 7 (dd rfl)) h⟩;exact ⟨fun _=>df3 (.tmp 6) (T6) rfl (by kernel_rfl),fun h=>absurd (hd 7 (dd rfl)) h⟩;exact ⟨fun _=>dl24 (.tmp 65) (T6) 3 _ _ _ rfl (hd 13 (dd rfl)) (ck hR HBX7).2.2.2,fun h=>absurd (hd 7 (dd rfl)) h⟩;exact ⟨fun _=>dmv (.tmp 7) rfl (show _=_ by kernel_rfl),fun h=>absurd (hd 7 (dd rfl)) h⟩;exact ⟨fun _=>does_add3 (.tmp 67) (.const (.int .i64 1)) (T:Int) 1 ((T + 1:Nat):Int) rfl (hd 15 (dd rfl)) (show _=_ by kernel_rfl) (by omega) (by omega) (by have:=HLEN.out;omega),fun h=>absurd (hd 7 (dd rfl)) h⟩;exact ⟨fun _=>di24 (.tmp 66) (.tmp 68) b o pni pci (T + 1) hqn1 rfl (hd 14 (dd rfl)) (hd 16 (dd rfl)),fun h=>absurd (hd 7 (dd rfl)) h⟩;exact ⟨fun _=>dld (.tmp 69) b (o + (T + 1) * 4) z Z rfl (hd 17 (dd rfl)) (HEL1.out _ hR).1.1 (HEL1.out _ hR).1.2.1 (HEL1.out _ hR).1.2.2.1 (HEL1.out _ hR).1.2.2.2 (HEL1.out _ hR).2,fun h=>absurd (hd 7 (dd rfl)) h⟩;exact ⟨fun _=>dlV (.tmp 6) (T6) p (⟨pab,pnb,pcb,some ⟨b,o,none⟩,pni,pci⟩:Ad) hR HBX7.out HI7.out rfl (by kernel_rfl),fun h=>absurd (hd 7 (dd rfl)) h⟩;exact ⟨fun _=>dcl (vals:=#[vs 12,vs 18,vs 19]) 86 (.func 86) #[.tmp 64,.tmp 70,.tmp 71] _ rfl (by kernel_rfl) (by kernel_rfl) (cq Tryz.func86) ((by have h:=h_val (x:=y) (y:=z) (m:=p) (hd 12 (dd rfl)) (hd 18 (dd rfl)) (hd 19 (dd rfl)) HZL.out (by have:=HLEN.out;omega);rw [hvr] at h;exact h)),fun h=>absurd (hd 7 (dd rfl)) h⟩;exact ⟨fun _=>does_not (.tmp 72) true rfl (hd 20 (dd rfl)),fun h=>absurd (hd 7 (dd rfl)) h⟩;exact dpf (.tmp 59) (.const (.bool true)) (.tmp 73) rfl (hd 7 (dd rfl)) (hd 21 (dd rfl))
               ·intro vs W8 hR8 hf hD hE
                have e22:vs 22=.bool false:=hf 22 (dd rfl);have HB8:=dh (HBW.out.trans (Below.mono hR8 HBW.out.size));simp only [sr,Nat.zero_add,Nat.reduceAdd,e22];clear hf hD hE e22 hR8;go_wp2_with fail
                go_roundw
                case rel=>
                 refine ⟨T + 2,by go_num,by omega,by have:=HQL.out;omega,fun q' hq'=>?_,HB8.out⟩;rw [HTAKE.out] at hq';rcases List.mem_append.1 hq' with h | h
                 ·exact HALL.out q' h
                 ·simp only [List.mem_singleton] at h;subst h;exact HPM.out
                case measure=>have:=HQL.out;simp [intOf];omega
          ·have hqz:¬ (T:Int) < (pni:Int):=by have:=HNI.out;omega
           have hok:It.parR p=true:=parR_yes fun r hr=>HALL.out r (by rw [List.take_of_length_le (by omega)];exact hr)
           have HOK:=dh hok;clear hok;go_wp2_with fail
           go_roundw
           case rel=>exact ⟨1,by go_num,by omega,fun _=>HOK.out,fun h=>absurd h (by omega),HB7.out⟩
           case measure=>simp [intOf]
        ·obtain ⟨r0,r1,r2,r3,r4,r5,r6,r7⟩:=ce HR5.out
         have P6:=al u0 (oc u.kind (u.num:Int) uab unb ucb uai uni uci);have HBX6:=dh (aw u0 (oc u.kind (u.num:Int) uab unb ucb uai uni uci));have HP6:=dh (bwt HP5.out P6 hB);have HT36:=kp P6 HT35;have HT46:=kp P6 HT45;have HX6:=kp P6 HX5;have HI6:=dh (HI5.out.below P6);have HJ6:=dh (HJ5.out.below P6);have HE6:=dh (HE5.out.below P6);have HB6:=dh (HB5.out.trans (P6.mono HB5.out.size));clear HP5 HT35 HT45 HX5 HI5 HJ5 HE5 HR5;clear P6 HB5;go_upto_region 8 with fail
         clear r0 r1 r2 r3 r4 r5 r6 r7;generalize u0.alloc _=w6 at *;generalize u0.heap.size=T6 at *;go_loopw [7] (RL2 u w6) (fun i _=>u.kids.length - (intOf i).toNat)
         case atStart=>exact ⟨0,rfl,rfl,by omega,fun q hq=>by simp [It.pairsK] at hq,Below.refl _ _⟩
         case round=>
          obtain ⟨v0,hv0⟩:∃ v0,v0=wr:=⟨_,rfl⟩;subst hv0;obtain ⟨T,rfl,hT2,hTn,hall,hB7⟩:=hrel;have HBX7:=kp hB7 HBX6;have HP7:=dh (bwt HP6.out hB7 hB);have HT37:=kp hB7 HT36;have HT47:=kp hB7 HT46;have HX7:=kp hB7 HX6;have HI7:=dh (HI6.out.below hB7);have HJ7:=dh (HJ6.out.below hB7);have HE7:=dh (HE6.out.below hB7);have HB7:=dh (HB6.out.trans (hB7.mono HB6.out.size));have HBW:=dh hB7;have HALL:=dh hall;have HNI:Hid (uni=u.kids.length):=dh HJ7.out.tl.1;have HLEN:Hid (u.kids.length % 2=0∧u.kids.length≤256):=dh ⟨(It.mev HK5.out.2.2 HK5.out.1.2).1,kids_le HK5.out.2.2⟩;obtain ⟨z0,z1,z2,z3⟩:=cf HBX7.out;clear hB7 hall;by_cases hqL:T < u.kids.length
          ·have hT1:T + 1 < u.kids.length:=by have:=HLEN.out;omega
           have hqn:T < uni:=by have:=HNI.out;omega
           have hqn1:T + 1 < uni:=by have:=HNI.out;omega
           have hqz:(T:Int) < (uni:Int):=by omega
           have hwq:IntKind.i64.wrap ((T:Int) + 2)=((T + 2:Nat):Int):=by have:=HLEN.out;rw [IntWalk.i64_in _ (by omega)];omega
           obtain ⟨b,o,Y,hab,hE1⟩:=el_all (HJ7.out.tl.2.2 T hqL);obtain ⟨b',o',Z,hab',hE2⟩:=el_all (HJ7.out.tl.2.2 (T + 1) hT1);have hab:uai=some ⟨b,o,none⟩:=hab;have hab':uai=some ⟨b',o',none⟩:=hab';have hbb:b'=b∧o'=o:=by rw [hab] at hab';simp at hab';exact ⟨hab'.1.symm,hab'.2.symm⟩
           rw [hbb.1,hbb.2] at hE2;clear hab' hbb;subst hab;have htake:=pairsK_takeT hT2 hqL hT1;have hin:(u.kids[T],u.kids[T + 1]) ∈ It.pairsK u.kids:=pKi (T:=T + 2) (by omega) (by omega) (by rw [htake];simp);have hzl:u.kids[T + 1].kids.length≤1000:=by have:=kids_le (It.valid_kid HK5.out.2.2 (List.getElem_mem hT1));omega
           have HEL0:=dh hE1;have HEL1:=dh hE2;have HTAKE:=dh htake;have HIN:=dh hin;have HZL:=dh hzl;have HQL:=dh (And.intro hqL hT1);clear hE1 hE2 htake hin hzl;generalize u.kids[T]=y at *;generalize u.kids[T + 1]=z at *;clear hqL hT1;go_upto_region 10 with fail
           clear z0 z1 z2 z3;cases hlab:It.labR y with
           | false=>
             have HNO:Hid (R=false):=dh (HRR.out.symm.trans (hvR_pu (parR_no HIN.out (by show (It.labR y && _)=false;rw [hlab];rfl))));refine rgh (M:=23) (fun b=>b < B) [.eq (.pointer (some ⟨T6,3,none⟩)),.eq (.slice (some ⟨b,o,none⟩) uni uci),.eq (.int .i64 (T:Int)),.eq (.pointer (some ⟨b,o + T * 4,none⟩)),.it y,.eq (.bool false),.eq (.bool (!false)),.eq (.bool (!false)),.any,.any,.any,.any,.any,.any,.any,.any,.any,.any,.any,.any,.any,.any,.eq (.bool true)] [.pl,.pl,.pl,.pl,.pl,.pl,.pl,.pl,.pl,.pl,.pl,.pl,.pl,.pl,.pl,.pl,.pl,.pl,.pl,.pl,.pl,.pl,.pl] 23 23 (.any) (by kernel_rfl) (by kernel_rfl) (by kernel_rfl) (fun _ _ o _ _ h=>by cases o <;> exact h) ?_ ?_
             ·refine ⟨?_,?_,?_,?_,?_,?_,?_,?_,?_,?_,?_,?_,?_,?_,?_,?_,?_,?_,?_,?_,?_,?_,?_,trivial⟩<;>intro vs W hR _ hd;exact df3 (.tmp 6) (T6) rfl (by kernel_rfl);exact dl24 (.tmp 52) (T6) 3 _ _ _ rfl (hd 0 (dd rfl)) (ck hR HBX7).2.2.2;exact dmv (.tmp 7) rfl (show _=_ by kernel_rfl);exact di24 (.tmp 53) (.tmp 54) b o uni uci T hqn rfl (hd 1 (dd rfl)) (hd 2 (dd rfl));exact dld (.tmp 55) b (o + T * 4) y Y rfl (hd 3 (dd rfl)) (HEL0.out _ hR).1.1 (HEL0.out _ hR).1.2.1 (HEL0.out _ hR).1.2.2.1 (HEL0.out _ hR).1.2.2.2 (HEL0.out _ hR).2;exact dcl (vals:=#[vs 4]) 85 (.func 85) #[.tmp 56] _ rfl (by kernel_rfl) (by kernel_rfl) (cq Tryz.func85) ((by have h:=h_lab (hd 4 (dd rfl));rw [hlab] at h;exact h));exact does_not (.tmp 57) false rfl (hd 5 (dd rfl));exact dmv (.tmp 58) rfl (hd 6 (dd rfl));(iterate 14 exact ⟨fun h=>by have e:=h.symm.trans (hd 7 (dd rfl));simp at e,fun _=>trivial⟩);exact dpt (.tmp 59) (.const (.bool true)) (.tmp 73) rfl (hd 7 (dd rfl)) (show _=_ by kernel_rfl)
             ·intro vs W8 hR8 hf hD hE
              have e22:vs 22=.bool true:=hf 22 (dd rfl);have HPW:=dh (bwt HP7.out hR8 hB);simp only [sr,Nat.zero_add,Nat.reduceAdd,e22];clear hf hD hE e22 hR8;go_wp2_with fail
              go_ret
              exact ⟨by rw [HNO.out];try rfl,by rw [hB];exact HPW.out⟩
           | true=>
             cases hvr:It.valR y z u.kids with
             | false=>
               have HNO:Hid (R=false):=dh (HRR.out.symm.trans (hvR_pu (parR_no HIN.out (by show (It.labR y && It.valR y z u.kids)=false;rw [hvr];simp))));refine rgh (M:=23) (fun b=>b < B) [.eq (.pointer (some ⟨T6,3,none⟩)),.eq (.slice (some ⟨b,o,none⟩) uni uci),.eq (.int .i64 (T:Int)),.eq (.pointer (some ⟨b,o + T * 4,none⟩)),.it y,.eq (.bool true),.eq (.bool (!true)),.eq (.bool (!true)),.eq (.pointer (some ⟨T6,3,none⟩)),.eq (.slice (some ⟨b,o,none⟩) uni uci),.eq (.int .i64 (T:Int)),.eq (.pointer (some ⟨b,o + T * 4,none⟩)),.it y,.eq (.pointer (some ⟨T6,3,none⟩)),.eq (.slice (some ⟨b,o,none⟩) uni uci),.eq (.int .i64 (T:Int)),.eq (.int .i64 ((T + 1:Nat):Int)),.eq (.pointer (some ⟨b,o + (T + 1) * 4,none⟩)),.it z,.it u,.eq (.bool false),.eq (.bool (!false)),.eq (.bool (!false))] [.pl,.pl,.pl,.pl,.pl,.pl,.pl,.pl,.pl,.pl,.pl,.pl,.pl,.pl,.pl,.pl,.pl,.pl,.pl,.pl,.pl,.pl,.pl] 23 23 (.any) (by kernel_rfl) (by kernel_rfl) (by kernel_rfl) (fun _ _ o _ _ h=>by cases o <;> exact h) ?_ ?_
               ·refine ⟨?_,?_,?_,?_,?_,?_,?_,?_,?_,?_,?_,?_,?_,?_,?_,?_,?_,?_,?_,?_,?_,?_,?_,trivial⟩<;>intro vs W hR _ hd;exact df3 (.tmp 6) (T6) rfl (by kernel_rfl);exact dl24 (.tmp 52) (T6) 3 _ _ _ rfl (hd 0 (dd rfl)) (ck hR HBX7).2.2.2;exact dmv (.tmp 7) rfl (show _=_ by kernel_rfl);exact di24 (.tmp 53) (.tmp 54) b o uni uci T hqn rfl (hd 1 (dd rfl)) (hd 2 (dd rfl));exact dld (.tmp 55) b (o + T * 4) y Y rfl (hd 3 (dd rfl)) (HEL0.out _ hR).1.1 (HEL0.out _ hR).1.2.1 (HEL0.out _ hR).1.2.2.1 (HEL0.out _ hR).1.2.2.2 (HEL0.out _ hR).2;exact dcl (vals:=#[vs 4]) 85 (.func 85) #[.tmp 56] _ rfl (by kernel_rfl) (by kernel_rfl) (cq Tryz.func85) ((by have h:=h_lab (hd 4 (dd rfl));rw [hlab] at h;exact h));exact does_not (.tmp 57) true rfl (hd 5 (dd rfl));exact dmv (.tmp 58) rfl (hd 6 (dd rfl));exact ⟨fun _=>df3 (.tmp 6) (T6) rfl (by kernel_rfl),fun h=>absurd (hd 7 (dd rfl)) h⟩;exact ⟨fun _=>dl24 (.tmp 60) (T6) 3 _ _ _ rfl (hd 8 (dd rfl)) (ck hR HBX7).2.2.2,fun h=>absurd (hd 7 (dd rfl)) h⟩;exact ⟨fun _=>dmv (.tmp 7) rfl (show _=_ by kernel_rfl),fun h=>absurd (hd 7 (dd rfl)) h⟩;exact ⟨fun _=>di24 (.tmp 61) (.tmp 62) b o uni uci T hqn rfl (hd 9 (dd rfl)) (hd 10 (dd rfl)),fun h=>absurd (hd 7 (dd rfl)) h⟩;exact ⟨fun _=>dld (.tmp 63) b (o + T * 4) y Y rfl (hd 11 (dd rfl)) (HEL0.out _ hR).1.1 (HEL0.out _ hR).1.2.1 (HEL0.out _ hR).1.2.2.1 (HEL0.out _ hR).1.2.2.2 (HEL0.out _ hR).2,fun h=>absurd (hd 7 (dd rfl)) h⟩;exact ⟨fun _=>df3 (.tmp 6) (T6) rfl (by kernel_rfl),fun h=>absurd (hd 7 (dd rfl)) h⟩;exact ⟨fun _=>dl24 (.tmp 65) (T6) 3 _ _ _ rfl (hd 13 (dd rfl)) (ck hR HBX7).2.2.2,fun h=>absurd (hd 7 (dd rfl)) h⟩;exact ⟨fun _=>dmv (.tmp 7) rfl (show _=_ by kernel_rfl),fun h=>absurd (hd 7 (dd rfl)) h⟩;exact ⟨fun _=>does_add3 (.tmp 67) (.const (.int .i64 1)) (T:Int) 1 ((T + 1:Nat):Int) rfl (hd 15 (dd rfl)) (show _=_ by kernel_rfl) (by omega) (by omega) (by have:=HLEN.out;omega),fun h=>absurd (hd 7 (dd rfl)) h⟩;exact ⟨fun _=>di24 (.tmp 66) (.tmp 68) b o uni uci (T + 1) hqn1 rfl (hd 14 (dd rfl)) (hd 16 (dd rfl)),fun h=>absurd (hd 7 (dd rfl)) h⟩;exact ⟨fun _=>dld (.tmp 69) b (o + (T + 1) * 4) z Z rfl (hd 17 (dd rfl)) (HEL1.out _ hR).1.1 (HEL1.out _ hR).1.2.1 (HEL1.out _ hR).1.2.2.1 (HEL1.out _ hR).1.2.2.2 (HEL1.out _ hR).2,fun h=>absurd (hd 7 (dd rfl)) h⟩;exact ⟨fun _=>dlV (.tmp 6) (T6) u (⟨uab,unb,ucb,some ⟨b,o,none⟩,uni,uci⟩:Ad) hR HBX7.out HJ7.out rfl (by kernel_rfl),fun h=>absurd (hd 7 (dd rfl)) h⟩;exact ⟨fun _=>dcl (vals:=#[vs 12,vs 18,vs 19]) 86 (.func 86) #[.tmp 64,.tmp 70,.tmp 71] _ rfl (by kernel_rfl) (by kernel_rfl) (cq Tryz.func86) ((by have h:=h_val (x:=y) (y:=z) (m:=u) (hd 12 (dd rfl)) (hd 18 (dd rfl)) (hd 19 (dd rfl)) HZL.out (by have:=HLEN.out;omega);rw [hvr] at h;exact h)),fun h=>absurd (hd 7 (dd rfl)) h⟩;exact ⟨fun _=>does_not (.tmp 72) false rfl (hd 20 (dd rfl)),fun h=>absurd (hd 7 (dd rfl)) h⟩;exact dpf (.tmp 59) (.const (.bool true)) (.tmp 73) rfl (hd 7 (dd rfl)) (hd 21 (dd rfl))
               ·intro vs W8 hR8 hf hD hE
                have e22:vs 22=.bool true:=hf 22 (dd rfl);have HPW:=dh (bwt HP7.out hR8 hB);simp only [sr,Nat.zero_add,Nat.reduceAdd,e22];clear hf hD hE e22 hR8;go_wp2_with fail
                go_ret
                exact ⟨by rw [HNO.out];try rfl,by rw [hB];exact HPW.out⟩
             | true=>
               have HPM:=dh (And.intro hlab hvr);refine rgh (M:=23) (fun b=>b < B) [.eq (.pointer (some ⟨T6,3,none⟩)),.eq (.slice (some ⟨b,o,none⟩) uni uci),.eq (.int .i64 (T:Int)),.eq (.pointer (some ⟨b,o + T * 4,none⟩)),.it y,.eq (.bool true),.eq (.bool (!true)),.eq (.bool (!true)),.eq (.pointer (some ⟨T6,3,none⟩)),.eq (.slice (some ⟨b,o,none⟩) uni uci),.eq (.int .i64 (T:Int)),.eq (.pointer (some ⟨b,o + T * 4,none⟩)),.it y,.eq (.pointer (some ⟨T6,3,none⟩)),.eq (.slice (some ⟨b,o,none⟩) uni uci),.eq (.int .i64 (T:Int)),.eq (.int .i64 ((T + 1:Nat):Int)),.eq (.pointer (some ⟨b,o + (T + 1) * 4,none⟩)),.it z,.it u,.eq (.bool true),.eq (.bool (!true)),.eq (.bool (!true))] [.pl,.pl,.pl,.pl,.pl,.pl,.pl,.pl,.pl,.pl,.pl,.pl,.pl,.pl,.pl,.pl,.pl,.pl,.pl,.pl,.pl,.pl,.pl] 23 23 (.any) (by kernel_rfl) (by kernel_rfl) (by kernel_rfl) (fun _ _ o _ _ h=>by cases o <;> exact h) ?_ ?_
               ·refine ⟨?_,?_,?_,?_,?_,?_,?_,?_,?_,?_,?_,?_,?_,?_,?_,?_,?_,?_,?_,?_,?_,?_,?_,trivial⟩<;>intro vs W hR _ hd;exact df3 (.tmp 6) (T6) rfl (by kernel_rfl);exact dl24 (.tmp 52) (T6) 3 _ _ _ rfl (hd 0 (dd rfl)) (ck hR HBX7).2.2.2;exact dmv (.tmp 7) rfl (show _=_ by kernel_rfl);exact di24 (.tmp 53) (.tmp 54) b o uni uci T hqn rfl (hd 1 (dd rfl)) (hd 2 (dd rfl));exact dld (.tmp 55) b (o + T * 4) y Y rfl (hd 3 (dd rfl)) (HEL0.out _ hR).1.1 (HEL0.out _ hR).1.2.1 (HEL0.out _ hR).1.2.2.1 (HEL0.out _ hR).1.2.2.2 (HEL0.out _ hR).2;exact dcl (vals:=#[vs 4]) 85 (.func 85) #[.tmp 56] _ rfl (by kernel_rfl) (by kernel_rfl) (cq Tryz.func85) ((by have h:=h_lab (hd 4 (dd rfl));rw [hlab] at h;exact h));exact does_not (.tmp 57) true rfl (hd 5 (dd rfl));exact dmv (.tmp 58) rfl (hd 6 (dd rfl));exact ⟨fun _=>df3 (.tmp 6) (T6) rfl (by kernel_rfl),fun h=>absurd (hd 7 (dd rfl)) h⟩;exact ⟨fun _=>dl24 (.tmp 60) (T6) 3 _ _ _ rfl (hd 8 (dd rfl)) (ck hR HBX7).2.2.2,fun h=>absurd (hd 7 (dd rfl)) h⟩;exact ⟨fun _=>dmv (.tmp 7) rfl (show _=_ by kernel_rfl),fun h=>absurd (hd 7 (dd rfl)) h⟩;exact ⟨fun _=>di24 (.tmp 61) (.tmp 62) b o uni uci T hqn rfl (hd 9 (dd rfl)) (hd 10 (dd rfl)),fun h=>absurd (hd 7 (dd rfl)) h⟩;exact ⟨fun _=>dld (.tmp 63) b (o + T * 4) y Y rfl (hd 11 (dd rfl)) (HEL0.out _ hR).1.1 (HEL0.out _ hR).1.2.1 (HEL0.out _ hR).1.2.2.1 (HEL0.out _ hR).1.2.2.2 (HEL0.out _ hR).2,fun h=>absurd (hd 7 (dd rfl)) h⟩;exact ⟨fun _=>df3 (.tmp 6) (T6) rfl (by kernel_rfl),fun h=>absurd (hd 7 (dd rfl)) h⟩;exact ⟨fun _=>dl24 (.tmp 65) (T6) 3 _ _ _ rfl (hd 13 (dd rfl)) (ck hR HBX7).2.2.2,fun h=>absurd (hd 7 (dd rfl)) h⟩;exact ⟨fun _=>dmv (.tmp 7) rfl (show _=_ by kernel_rfl),fun h=>absurd (hd 7 (dd rfl)) h⟩;exact ⟨fun _=>does_add3 (.tmp 67) (.const (.int .i64 1)) (T:Int) 1 ((T + 1:Nat):Int) rfl (hd 15 (dd rfl)) (show _=_ by kernel_rfl) (by omega) (by omega) (by have:=HLEN.out;omega),fun h=>absurd (hd 7 (dd rfl)) h⟩;exact ⟨fun _=>di24 (.tmp 66) (.tmp 68) b o uni uci (T + 1) hqn1 rfl (hd 14 (dd rfl)) (hd 16 (dd rfl)),fun h=>absurd (hd 7 (dd rfl)) h⟩;exact ⟨fun _=>dld (.tmp 69) b (o + (T + 1) * 4) z Z rfl (hd 17 (dd rfl)) (HEL1.out _ hR).1.1 (HEL1.out _ hR).1.2.1 (HEL1.out _ hR).1.2.2.1 (HEL1.out _ hR).1.2.2.2 (HEL1.out _ hR).2,fun h=>absurd (hd 7 (dd rfl)) h⟩;exact ⟨fun _=>dlV (.tmp 6) (T6) u (⟨uab,unb,ucb,some ⟨b,o,none⟩,uni,uci⟩:Ad) hR HBX7.out HJ7.out rfl (by kernel_rfl),fun h=>absurd (hd 7 (dd rfl)) h⟩;exact ⟨fun _=>dcl (vals:=#[vs 12,vs 18,vs 19]) 86 (.func 86) #[.tmp 64,.tmp 70,.tmp 71] _ rfl (by kernel_rfl) (by kernel_rfl) (cq Tryz.func86) ((by have h:=h_val (x:=y) (y:=z) (m:=u) (hd 12 (dd rfl)) (hd 18 (dd rfl)) (hd 19 (dd rfl)) HZL.out (by have:=HLEN.out;omega);rw [hvr] at h;exact h)),fun h=>absurd (hd 7 (dd rfl)) h⟩;exact ⟨fun _=>does_not (.tmp 72) true rfl (hd 20 (dd rfl)),fun h=>absurd (hd 7 (dd rfl)) h⟩;exact dpf (.tmp 59) (.const (.bool true)) (.tmp 73) rfl (hd 7 (dd rfl)) (hd 21 (dd rfl))
               ·intro vs W8 hR8 hf hD hE
                have e22:vs 22=.bool false:=hf 22 (dd rfl);have HB8:=dh (HBW.out.trans (Below.mono hR8 HBW.out.size));simp only [sr,Nat.zero_add,Nat.reduceAdd,e22];clear hf hD hE e22 hR8;go_wp2_with fail
                go_roundw
                case rel=>
                 refine ⟨T + 2,by go_num,by omega,by have:=HQL.out;omega,fun q' hq'=>?_,HB8.out⟩;rw [HTAKE.out] at hq';rcases List.mem_append.1 hq' with h | h
                 ·exact HALL.out q' h
                 ·simp only [List.mem_singleton] at h;subst h;exact HPM.out
                case measure=>have:=HQL.out;simp [intOf];omega
          ·have hqz:¬ (T:Int) < (uni:Int):=by have:=HNI.out;omega
           have hok:It.parR u=true:=parR_yes fun r hr=>HALL.out r (by rw [List.take_of_length_le (by omega)];exact hr)
           have HOK:=dh hok;clear hok;go_wp2_with fail
           go_roundw
           case rel=>exact ⟨2,by go_num,by omega,fun _=>HK.out.1 (by omega),fun h=>HOK.out,HB7.out⟩
           case measure=>simp [intOf]
       ·have hkz:¬ (k:Int) < 2:=by omega
        have HMO:Hid (It.parR p=true∧It.parR u=true):=dh ⟨HK.out.1 (by omega),HK.out.2 (by omega)⟩;have s:=cf HT45.out;clear HR5 HB5;go_upto_region 14 with fail
        clear s;go_loopw [8] (RL3 p u u0) (fun i _=>u.kids.length - (intOf i).toNat)
        case atStart=>exact ⟨0,rfl,rfl,by omega,fun q hq=>by simp [It.pairsK] at hq,Below.refl _ _⟩
        case round=>
         obtain ⟨v0,hv0⟩:∃ v0,v0=wr:=⟨_,rfl⟩;subst hv0;obtain ⟨T,rfl,hT2,hTn,hall,hB7⟩:=hrel;have HP7:=dh (bwt HP5.out hB7 hB);have HT37:=kp hB7 HT35;have HT47:=kp hB7 HT45;have HX7:=kp hB7 HX5;have HI7:=dh (HI5.out.below hB7);have HJ7:=dh (HJ5.out.below hB7);have HE7:=dh (HE5.out.below hB7);have HBW:=dh hB7;have HALL:=dh hall;have HNI:Hid (uni=u.kids.length):=dh HJ7.out.tl.1;have HLEN:Hid (u.kids.length % 2=0∧u.kids.length≤256):=dh ⟨(It.mev HK5.out.2.2 HK5.out.1.2).1,kids_le HK5.out.2.2⟩;have HLP:Hid (p.kids.length≤256):=dh (kids_le HK5.out.2.1);have s:=cf HT47.out;clear hB7 hall;by_cases hqL:T < u.kids.length
         ·have hT1:T + 1 < u.kids.length:=by have:=HLEN.out;omega
          have hqn:T < uni:=by have:=HNI.out;omega
          have hqz:(T:Int) < (uni:Int):=by omega
          have hwq:IntKind.i64.wrap ((T:Int) + 2)=((T + 2:Nat):Int):=by have:=HLEN.out;rw [IntWalk.i64_in _ (by omega)];omega
          obtain ⟨b,o,Y,hab,hE1⟩:=el_all (HJ7.out.tl.2.2 T hqL);have hab:uai=some ⟨b,o,none⟩:=hab;subst hab;have htake:=pairsK_takeT hT2 hqL hT1;have hin:(u.kids[T],u.kids[T + 1]) ∈ It.pairsK u.kids:=pKi (T:=T + 2) (by omega) (by omega) (by rw [htake];simp);have HEL0:=dh hE1;have HTAKE:=dh htake;have HIN:=dh hin;have HQL:=dh (And.intro hqL hT1);clear hE1 htake hin;generalize u.kids[T]=y at *;generalize u.kids[T + 1]=z at *;clear hqL hT1;go_upto_region 16 with fail
          clear s;refine rgh (M:=11) (fun b=>b < B) [.it p,.eq (.pointer (some ⟨T4,3,none⟩)),.eq (.slice (some ⟨b,o,none⟩) uni uci),.eq (.int .i64 (T:Int)),.eq (.pointer (some ⟨b,o + T * 4,none⟩)),.it y,.op (It.look p.kids y),.op (It.look p.kids y),.it (It.opt (It.look p.kids y)),.eq (.bool (It.look p.kids y).isSome),.bk v0.heap.size o4z] [.pl,.pl,.pl,.pl,.pl,.pl,.pl,.la,.la,.la,.pl] 11 11 (.any) (by kernel_rfl) (by kernel_rfl) (by kernel_rfl) (fun _ _ o _ _ h=>by cases o <;> exact h) ?_ ?_
          ·refine ⟨?_,?_,?_,?_,?_,?_,?_,?_,?_,?_,?_,trivial⟩<;>intro vs W hR _ hd;exact dlV (.tmp 3) (T3) p (⟨pab,pnb,pcb,pai,pni,pci⟩:Ad) hR HT37.out HI7.out rfl (by kernel_rfl);exact df3 (.tmp 4) (T4) rfl (by kernel_rfl);exact dl24 (.tmp 85) (T4) 3 _ _ _ rfl (hd 1 (dd rfl)) (ck hR HT47).2.2.2;exact dmv (.tmp 8) rfl (show _=_ by kernel_rfl);exact di24 (.tmp 86) (.tmp 87) b o uni uci T hqn rfl (hd 2 (dd rfl)) (hd 3 (dd rfl));exact dld (.tmp 88) b (o + T * 4) y Y rfl (hd 4 (dd rfl)) (HEL0.out _ hR).1.1 (HEL0.out _ hR).1.2.1 (HEL0.out _ hR).1.2.2.1 (HEL0.out _ hR).1.2.2.2 (HEL0.out _ hR).2;exact dcl (vals:=#[vs 0,vs 5]) 87 (.func 87) #[.tmp 84,.tmp 89] _ rfl (by kernel_rfl) (by kernel_rfl) (cq Tryz.func87) (h_at (m:=p) (q:=y) (hd 0 (dd rfl)) (hd 5 (dd rfl)) (by have:=HLP.out;omega));exact late_move (.tmp 90) rfl (hd 6 (dd rfl));exact late_op0 (.tmp 83) rfl (hd 7 (dd rfl));exact late_op1 (.tmp 83) rfl (hd 7 (dd rfl));exact doesh_allocP rfl (Below.size hR)
          ·intro vs W8 hR8 hf hD hE
           obtain ⟨Z1,e8,_⟩:=hf 8 (dd rfl);have e9:vs 9=.bool (It.look p.kids y).isSome:=hf 9 (dd rfl);obtain ⟨T9,e10,hT9,hTn⟩:=hf 10 (dd rfl);have HT9:=dh hT9;have HTN:=dh hTn;have HR8:=dh hR8;simp only [sr,Nat.zero_add,Nat.reduceAdd,e8,e9,e10];clear hf hD hE e8 e9 e10 hT9 hTn hR8;have HHK:Hid (It.hasK p.kids y=(It.look p.kids y).isSome):=dh rfl;generalize It.look p.kids y=r at *;have f:=ff HT9.out;have t:=cf HT9.out;go_upto_region 17 with fail
           clear t f;obtain ⟨W',hW',hp4,hs4,hb4⟩:=p4I (W:=W8) (b:=T9) HT9.out (It.opt r) Z1;rw [hW'];clear hW';have HBW9:=dh (hb4 _ _ HR8.out HTN.out);clear hp4 hs4 hb4 HT9 HTN HR8;generalize W'=w9 at *;have HP9:=dh (bwt HP7.out HBW9.out hB);have HT39:=kp HBW9.out HT37;have HT49:=kp HBW9.out HT47;have HX9:=kp HBW9.out HX7;have HI9:=dh (HI7.out.below HBW9.out);have HJ9:=dh (HJ7.out.below HBW9.out);have HE9:=dh (HE7.out.below HBW9.out);have HEL9:Hid (∀ W,Below w9.heap.size w9 W→_):=dh fun W hW=>HEL0.out W (HBW9.out.trans (hW.mono HBW9.out.size))
           clear HP7 HT37 HT47 HX7 HI7 HJ7 HE7;clear HEL0;generalize Option.isSome r=bb at *;cases bb with
           | true=>
             have HNO:Hid (R=false):=dh (HRR.out.symm.trans (hvR_dup HIN.out (by show (It.hasK p.kids y || _)=true;rw [HHK.out];rfl)));refine rgh (M:=10) (fun b=>b < B) [.eq (.bool true),.eq (.bool true),.any,.any,.any,.any,.any,.any,.any,.eq (.bool true)] [.pl,.pl,.pl,.pl,.pl,.pl,.pl,.pl,.pl,.pl] 10 10 (.any) (by kernel_rfl) (by kernel_rfl) (by kernel_rfl) (fun _ _ o _ _ h=>by cases o <;> exact h) ?_ ?_
             ·refine ⟨?_,?_,?_,?_,?_,?_,?_,?_,?_,?_,trivial⟩<;>intro vs W hR _ hd;exact dmv (.tmp 10) rfl (show _=_ by kernel_rfl);exact dmv (.tmp 93) rfl (hd 0 (dd rfl));(iterate 7 exact ⟨fun h=>by have e:=h.symm.trans (hd 1 (dd rfl));simp at e,fun _=>trivial⟩);exact dpt (.tmp 94) (.const (.bool true)) (.tmp 101) rfl (hd 1 (dd rfl)) (show _=_ by kernel_rfl)
             ·intro vs W10 hR10 hf hD hE
              have e9:vs 9=.bool true:=hf 9 (dd rfl);have HPW:=dh (bwt HP9.out hR10 hB);have HB10:=dh (HBW9.out.trans (Below.mono hR10 HBW9.out.size));simp only [sr,Nat.zero_add,Nat.reduceAdd,e9];clear hf hD hE e9 hR10;go_wp2_with fail
              go_ret
              exact ⟨by rw [HNO.out];try rfl,by rw [hB];exact HPW.out⟩
           | false=>
             cases hsm:It.same y (It.int 2) with
             | true=>
               have HNO:Hid (R=false):=dh (HRR.out.symm.trans (hvR_dup HIN.out (by show (It.hasK p.kids y || It.same y (It.int 2))=true;rw [hsm];simp)));refine rgh (M:=10) (fun b=>b < B) [.eq (.bool false),.eq (.bool false),.eq (.pointer (some ⟨T4,3,none⟩)),.eq (.slice (some ⟨b,o,none⟩) uni uci),.eq (.int .i64 (T:Int)),.eq (.pointer (some ⟨b,o + T * 4,none⟩)),.it y,.it (It.int 2),.eq (.bool true),.eq (.bool true)] [.pl,.pl,.pl,.pl,.pl,.pl,.pl,.pl,.pl,.pl] 10 10 (.any) (by kernel_rfl) (by kernel_rfl) (by kernel_rfl) (fun _ _ o _ _ h=>by cases o <;> exact h) ?_ ?_
               ·refine ⟨?_,?_,?_,?_,?_,?_,?_,?_,?_,?_,trivial⟩<;>intro vs W hR _ hd;exact dmv (.tmp 10) rfl (show _=_ by kernel_rfl);exact dmv (.tmp 93) rfl (hd 0 (dd rfl));exact ⟨fun _=>df3 (.tmp 4) (T4) rfl (by kernel_rfl),fun h=>absurd (hd 1 (dd rfl)) h⟩;exact ⟨fun _=>dl24 (.tmp 95) (T4) 3 _ _ _ rfl (hd 2 (dd rfl)) (ck hR HT49).2.2.2,fun h=>absurd (hd 1 (dd rfl)) h⟩;exact ⟨fun _=>dmv (.tmp 8) rfl (show _=_ by kernel_rfl),fun h=>absurd (hd 1 (dd rfl)) h⟩;exact ⟨fun _=>di24 (.tmp 96) (.tmp 97) b o uni uci T hqn rfl (hd 3 (dd rfl)) (hd 4 (dd rfl)),fun h=>absurd (hd 1 (dd rfl)) h⟩;exact ⟨fun _=>dld (.tmp 98) b (o + T * 4) y Y rfl (hd 5 (dd rfl)) (HEL9.out _ hR).1.1 (HEL9.out _ hR).1.2.1 (HEL9.out _ hR).1.2.2.1 (HEL9.out _ hR).1.2.2.2 (HEL9.out _ hR).2,fun h=>absurd (hd 1 (dd rfl)) h⟩;exact ⟨fun _=>dcl (vals:=#[(.int .i64 2)]) 62 (.func 62) #[.const (.int .i64 2)] _ rfl (by kernel_rfl) (by kernel_rfl) (cq Tryz.func62) (h_rint 2 ⟨by decide,by decide⟩ W _),fun h=>absurd (hd 1 (dd rfl)) h⟩;exact ⟨fun _=>dcl (vals:=#[vs 6,vs 7]) 30 (.func 30) #[.tmp 99,.tmp 100] _ rfl (by kernel_rfl) (by kernel_rfl) (cq Tryz.func30) ((by have h:=h_same (x:=y) (y:=It.int 2) (hd 6 (dd rfl)) (hd 7 (dd rfl));rw [hsm] at h;exact h)),fun h=>absurd (hd 1 (dd rfl)) h⟩;exact dpf (.tmp 94) (.const (.bool true)) (.tmp 101) rfl (hd 1 (dd rfl)) (hd 8 (dd rfl))
               ·intro vs W10 hR10 hf hD hE
                have e9:vs 9=.bool true:=hf 9 (dd rfl);have HPW:=dh (bwt HP9.out hR10 hB);have HB10:=dh (HBW9.out.trans (Below.mono hR10 HBW9.out.size));simp only [sr,Nat.zero_add,Nat.reduceAdd,e9];clear hf hD hE e9 hR10;go_wp2_with fail
                go_ret
                exact ⟨by rw [HNO.out];try rfl,by rw [hB];exact HPW.out⟩
             | false=>
               have HPM:=dh (And.intro HHK.out hsm);refine rgh (M:=10) (fun b=>b < B) [.eq (.bool false),.eq (.bool false),.eq (.pointer (some ⟨T4,3,none⟩)),.eq (.slice (some ⟨b,o,none⟩) uni uci),.eq (.int .i64 (T:Int)),.eq (.pointer (some ⟨b,o + T * 4,none⟩)),.it y,.it (It.int 2),.eq (.bool false),.eq (.bool false)] [.pl,.pl,.pl,.pl,.pl,.pl,.pl,.pl,.pl,.pl] 10 10 (.any) (by kernel_rfl) (by kernel_rfl) (by kernel_rfl) (fun _ _ o _ _ h=>by cases o <;> exact h) ?_ ?_
               ·refine ⟨?_,?_,?_,?_,?_,?_,?_,?_,?_,?_,trivial⟩<;>intro vs W hR _ hd;exact dmv (.tmp 10) rfl (show _=_ by kernel_rfl);exact dmv (.tmp 93) rfl (hd 0 (dd rfl));exact ⟨fun _=>df3 (.tmp 4) (T4) rfl (by kernel_rfl),fun h=>absurd (hd 1 (dd rfl)) h⟩;exact ⟨fun _=>dl24 (.tmp 95) (T4) 3 _ _ _ rfl (hd 2 (dd rfl)) (ck hR HT49).2.2.2,fun h=>absurd (hd 1 (dd rfl)) h⟩;exact ⟨fun _=>dmv (.tmp 8) rfl (show _=_ by kernel_rfl),fun h=>absurd (hd 1 (dd rfl)) h⟩;exact ⟨fun _=>di24 (.tmp 96) (.tmp 97) b o uni uci T hqn rfl (hd 3 (dd rfl)) (hd 4 (dd rfl)),fun h=>absurd (hd 1 (dd rfl)) h⟩;exact ⟨fun _=>dld (.tmp 98) b (o + T * 4) y Y rfl (hd 5 (dd rfl)) (HEL9.out _ hR).1.1 (HEL9.out _ hR).1.2.1 (HEL9.out _ hR).1.2.2.1 (HEL9.out _ hR).1.2.2.2 (HEL9.out _ hR).2,fun h=>absurd (hd 1 (dd rfl)) h⟩;exact ⟨fun _=>dcl (vals:=#[(.int .i64 2)]) 62 (.func 62) #[.const (.int .i64 2)] _ rfl (by kernel_rfl) (by kernel_rfl) (cq Tryz.func62) (h_rint 2 ⟨by decide,by decide⟩ W _),fun h=>absurd (hd 1 (dd rfl)) h⟩;exact ⟨fun _=>dcl (vals:=#[vs 6,vs 7]) 30 (.func 30) #[.tmp 99,.tmp 100] _ rfl (by kernel_rfl) (by kernel_rfl) (cq Tryz.func30) ((by have h:=h_same (x:=y) (y:=It.int 2) (hd 6 (dd rfl)) (hd 7 (dd rfl));rw [hsm] at h;exact h)),fun h=>absurd (hd 1 (dd rfl)) h⟩;exact dpf (.tmp 94) (.const (.bool true)) (.tmp 101) rfl (hd 1 (dd rfl)) (hd 8 (dd rfl))
               ·intro vs W10 hR10 hf hD hE
                have e9:vs 9=.bool false:=hf 9 (dd rfl);have HPW:=dh (bwt HP9.out hR10 hB);have HB10:=dh (HBW9.out.trans (Below.mono hR10 HBW9.out.size));simp only [sr,Nat.zero_add,Nat.reduceAdd,e9];clear hf hD hE e9 hR10;go_wp2_with fail
                go_roundw
                case rel=>
                 refine ⟨T + 2,by go_num,by omega,by have:=HQL.out;omega,fun q' hq'=>?_,HBW.out.trans (Below.mono HB10.out HBW.out.size)⟩;rw [HTAKE.out] at hq';rcases List.mem_append.1 hq' with h | h
                 ·exact HALL.out q' h
                 ·simp only [List.mem_singleton] at h;subst h;exact HPM.out
                case measure=>have:=HQL.out;simp [intOf];omega
         ·have hqz:¬ (T:Int) < (uni:Int):=by have:=HNI.out;omega
          have HEND:Hid (R=(!(It.find2 p u 5).isSome || !(It.find2 p u 6).isSome)):=dh (HRR.out.symm.trans (hvR_end HK5.out.1.1 HK5.out.1.2 HK5.out.2.1 HK5.out.2.2 HMO.out.1 HMO.out.2 fun r hr=>HALL.out r (by rw [List.take_of_length_le (by omega)];exact hr)));have HC5:=dh (rfind2_any p u ⟨pab,pnb,pcb,pai,pni,pci⟩ ⟨uab,unb,ucb,uai,uni,uci⟩ 5 v0 _ _ (by omega) (by omega) HI7.out HJ7.out (by have:=HLP.out;omega) (by have:=HLEN.out;omega))
          dsimp only at HC5
          generalize hf5:It.find2 p u 5=r5 at *;obtain ⟨x0,x1,x2,x3,x4,x5,x6,x7⟩:=ce HX7.out;clear HALL HBW HT37 HT47 HE7;go_wp2_with fail
          refine HC5.out.mono ?_;rintro e v5 ⟨_,rfl,hB5,A5,rfl,_⟩;have hQ5:=pt hB5 (al v5 (.cells #[.int .i64 (It.opt r5).kind,.int .u64 ((It.opt r5).num:Int),.slice A5.ab A5.nb A5.cb,.slice A5.ai A5.ni A5.ci] 26));have HP8:=dh (bwt HP7.out hQ5 hB);have HX8:=kp hQ5 HX7;have HI8:=dh (HI7.out.below hQ5);have HJ8:=dh (HJ7.out.below hQ5);clear HP7 HX7 HI7 HJ7;go_upto_region 20 with fail
          generalize v5.alloc _=w5 at *;generalize v5.heap.size=T11 at *;generalize Option.isSome r5=b5 at *;clear hB5 hQ5 x0 x1 x2 x3 x4 x5 x6 x7 HC5;have HC6:=dh (rfind2_any p u ⟨pab,pnb,pcb,pai,pni,pci⟩ ⟨uab,unb,ucb,uai,uni,uci⟩ 6 w5 _ _ (by omega) (by omega) HI8.out HJ8.out (by have:=HLP.out;omega) (by have:=HLEN.out;omega))
          dsimp only at HC6
          generalize hf6:It.find2 p u 6=r6 at *;obtain ⟨x0,x1,x2,x3,x4,x5,x6,x7⟩:=ce HX8.out;go_wp2_with fail
          refine HC6.out.mono ?_;rintro e v6 ⟨_,rfl,hB6,A6,rfl,_⟩;have hQ6:=pt hB6 (al v6 (.cells #[.int .i64 (It.opt r6).kind,.int .u64 ((It.opt r6).num:Int),.slice A6.ab A6.nb A6.cb,.slice A6.ai A6.ni A6.ci] 26));have HPW:=dh (bwt HP8.out hQ6 hB);clear HP8 HX8 HI8 HJ8;go_upto_region 21 with fail
          generalize v6.alloc _=w6 at *;generalize v6.heap.size=T13 at *;generalize Option.isSome r6=b6 at *;clear hB6 hQ6 x0 x1 x2 x3 x4 x5 x6 x7 HC6;cases b5 <;> cases b6 <;> (go_wp2_with fail;go_ret;exact ⟨by rw [HEND.out];try rfl,by rw [hB];exact HPW.out⟩)
namespace It
def protL (p u:It):List UInt8:=if hvalid p u=true then (if p.kids.length=0 then [] else enc p) else []
def protE (p u:It):Nat:=if hvalid p u=true then 0 else 1
end It
def PrP (p u:It) (w:World) (e:Ending) (w':World):Prop:=∃ v,e=.returned (.tuple #[v,.int .i64 (It.protE p u:Int)])∧OwnB w' w.heap.size v (It.protL p u)∧Below w.heap.size w w'
theorem rhv_any (p u:It) (A C:Ad) (w:World) (ok ok':Nat→Prop) (hI:IR ok w p A) (hJ:IR ok' w u C) (hE:Env w):Calls Tryz.prog 21 #[.agg #[.int .i64 p.kind,.int .u64 (p.num:Int),.slice A.ab A.nb A.cb,.slice A.ai A.ni A.ci,.int .i64 u.kind,.int .u64 (u.num:Int),.slice C.ab C.nb C.cb,.slice C.ai C.ni C.ci]] w (VP (It.hvalid p u) w):=by
 rw [It.hvalid_eq];exact rhvalid_any p u A C w ok ok' hI hJ hE
theorem ep_valid {x:It} {w:World} {e:Ending} {w':World} (h:EP x w e w') (hv:It.valid x=true):∃ v,e=.returned (.tuple #[v,.int .i64 0])∧OwnB w' w.heap.size v (It.enc x)∧Below w.heap.size w w':=by
 obtain ⟨v,he,hO,hB⟩:=h;rw [if_pos hv] at he hO;exact ⟨v,he,hO,hB⟩
theorem hprot_any (p u:It) (A C:Ad) (w:World) (ok ok':Nat→Prop) (hI:IR ok w p A) (hJ:IR ok' w u C) (hE:Env w):Calls Tryz.prog 18 #[.agg #[.int .i64 p.kind,.int .u64 (p.num:Int),.slice A.ab A.nb A.cb,.slice A.ai A.ni A.ci,.int .i64 u.kind,.int .u64 (u.num:Int),.slice C.ab C.nb C.cb,.slice C.ai C.ni C.ci]] w (PrP p u w):=by
 obtain ⟨P0,N0⟩:=an w (o8 p u A C);have HX:=dh N0;have HP:=dh P0;have HI:=dh (((hI.imp (ok':=fun b=>b < w.heap.size) fun b _ hb=>hb).below P0));have HJ:=dh (((hJ.imp (ok':=fun b=>b < w.heap.size) fun b _ hb=>hb).below P0));have HE:=dh ((hE.below P0));clear hI hJ hE;go_enter Tryz.func18,Tryz.ntmps18
 go_upto_region 1 with fail
 clear P0 N0;generalize (w.alloc (o8 p u A C))=w1 at *;generalize hB:w.heap.size=B at *;have x:=ce HX.out;cases hv:It.hvalid p u with
 | false=>
   have HC:=dh (hva p u A C w1 _ _ HI.out HJ.out HE.out);rw [hv] at HC;have HEE:Hid (It.protE p u=1∧It.protL p u=[]):=dh (by unfold It.protE It.protL;rw [if_neg (by rw [hv];decide),if_neg (by rw [hv];decide)];exact ⟨rfl,rfl⟩);clear hv;go_wp2_with fail
   refine HC.out.mono ?_;rintro e v1 ⟨rfl,B1⟩;have HPW:=dh (bwt HP.out B1 hB);go_wp2_with fail
   go_ret2
   exact ⟨_,by rw [HEE.out.1];rfl,by rw [HEE.out.2];exact OwnB.nil _ _,by rw [hB];exact HPW.out⟩
 | true=>
   have HC:=dh (hva p u A C w1 _ _ HI.out HJ.out HE.out);rw [hv] at HC;have HEE:Hid (It.protE p u=0∧It.protL p u=if p.kids.length=0 then [] else It.enc p):=dh (by unfold It.protE It.protL;rw [if_pos hv,if_pos hv];exact ⟨rfl,rfl⟩);have HVP:=dh (It.hvalid_maps hv).1.1;have HNI:Hid (A.ni=p.kids.length):=dh HI.out.tl.1;clear hv;go_wp2_with fail
   refine HC.out.mono ?_;rintro e v1 ⟨rfl,B1⟩;have HPW:=dh (bwt HP.out B1 hB);have HX1:=kp B1 HX;have HI1:=dh (HI.out.below B1);have HE1:=dh (HE.out.below B1);clear HX HI HE HC HP B1 x;have x:=ce HX1.out;by_cases hl:p.kids.length=0
   ·have hlb:((A.ni:Int)==0)=true:=by have:=HNI.out;simpa using (show (A.ni:Int)=0 by omega)
    have HL:Hid (It.protL p u=[]):=dh (by rw [HEE.out.2,if_pos hl]);clear hl;go_wp2_with fail
    go_ret2
    exact ⟨_,by rw [HEE.out.1];rfl,by rw [HL.out];exact OwnB.nil _ _,by rw [hB];exact HPW.out⟩
   ·have hlb:((A.ni:Int)==0)=false:=by have:=HNI.out;simpa using (show ¬ (A.ni:Int)=0 by omega)
    have HL:Hid (It.protL p u=It.enc p):=dh (by rw [HEE.out.2,if_neg hl]);have HC:=dh ((cencode_any p A v1 _ HI1.out HE1.out).mono fun _ _ h=>ep_valid h HVP.out);clear hl;go_wp2_with fail
    refine HC.out.mono ?_;rintro e v2 ⟨v,rfl,hO,B2⟩;have HO:=dh hO;have HPX:=dh (bwt HPW.out B2 hB);have HS:=dh HPW.out.size;clear hO B2;go_wp2_with fail
    go_ret2
    exact ⟨_,by rw [HEE.out.1];rfl,by rw [HL.out];exact HO.out.lower (by have:=HPW.out.size;have:=lb HX1.out;omega),by rw [hB];exact HPX.out⟩
theorem hget_any (p u:It) (A C:Ad) (w:World) (ok ok':Nat→Prop) (hI:IR ok w p A) (hJ:IR ok' w u C) (hE:Env w) (n:Int) (h0: -9223372036854775808≤n) (h1:n≤9223372036854775807):Calls Tryz.prog 28 #[.agg #[.int .i64 p.kind,.int .u64 (p.num:Int),.slice A.ab A.nb A.cb,.slice A.ai A.ni A.ci,.int .i64 u.kind,.int .u64 (u.num:Int),.slice C.ab C.nb C.cb,.slice C.ai C.ni C.ci],.int .i64 n] w (EndO (fun _=>True) w (.op (It.getP p u n))):=by
 obtain ⟨P0,N0⟩:=an w (o8 p u A C);obtain ⟨P1,N1⟩:=an (w.alloc (o8 p u A C)) o4z;have hsz1:(w.alloc (o8 p u A C)).heap.size=w.heap.size + 1:=by simp
 rw [hsz1] at N1;have HX:=dh (bkp P1 N0 (lb N0));have HY1:=dh N1;have HP:=dh (pt P0 P1);have HI:=dh ((((hI.imp (ok':=fun b=>b < w.heap.size) fun b _ hb=>hb).below P0).below P1));have HJ:=dh ((((hJ.imp (ok':=fun b=>b < w.heap.size) fun b _ hb=>hb).below P0).below P1));have HE:=dh (((hE.below P0).below P1));clear hI hJ hE;go_enter Tryz.func28,Tryz.ntmps28
 go_upto_region 1 with fail
 clear P0 N0 P1 N1 hsz1;generalize ((w.alloc (o8 p u A C)).alloc o4z)=w1 at *;generalize hB:w.heap.size=B at *;have x:=ce HX.out;cases hv:It.hvalid p u with
 | false=>
   have HC:=dh (hva p u A C w1 _ _ HI.out HJ.out HE.out);rw [hv] at HC;have HEE:Hid (It.getP p u n=.none):=dh (by unfold It.getP;rw [if_neg (by rw [hv];decide)]);clear hv;go_wp2_with fail
   refine HC.out.mono ?_;rintro e v1 ⟨rfl,B1⟩;have HPW:=dh (bwt HP.out B1 hB);have HY2:=kp B1 HY1;clear B1 HY1 HX x;have f:=ff HY2.out;obtain ⟨r0,r1,r2,r3⟩:=cf HY2.out;go_wp2_with fail
   clear f r0 r1 r2 r3;obtain ⟨W',hW',hp4,hs4,hb4⟩:=pq0 (W:=v1) (b:=(B + 1)) HY2.out;rw [hW'];clear hW';obtain ⟨g0,g1,g2,g3⟩:=cf hp4;refine bodyPost_ret (v:=.tuple #[vz,.bool false]) (by simp [vz,results,Tryz.results28,go_sem,g0,g1,g2,g3]) rfl ?_;rw [HEE.out];exact ⟨_,rfl,by rw [RB',hB];exact hb4 B w HPW.out (by omega),⟨none,0,0,none,0,0⟩,rfl,IR.flat _ _ (by omega)⟩
 | true=>
   have HC:=dh (hva p u A C w1 _ _ HI.out HJ.out HE.out);rw [hv] at HC;have HEE:Hid (It.getP p u n=It.find2 p u n):=dh (by unfold It.getP;rw [if_pos hv]);have HV:=dh hv;clear hv;go_wp2_with fail
   refine HC.out.mono ?_;rintro e v1 ⟨rfl,B1⟩;have HPW:=dh (bwt HP.out B1 hB);have HX1:=kp B1 HX;have HY2:=kp B1 HY1;have HI1:=dh (HI.out.below B1);have HJ1:=dh (HJ.out.below B1);have HE1:=dh (HE.out.below B1);clear HX HI HJ HE HC HP B1 HY1 x;have x:=ce HX1.out;have HMO:Hid (It.mapOk p=true∧It.mapOk u=true):=dh (by have h:=HV.out;unfold It.hvalid at h;simp only [Bool.and_eq_true] at h;exact ⟨h.1.1.1.1.1,h.1.1.1.1.2⟩);have HF:=dh (hfind_ok p u A C n v1 _ _ h0 h1 HI1.out HJ1.out HE1.out (fun b=>b≠B + 1) (fun b hb _=>by omega) (fun b hb _=>by omega) (fun b hb=>by have:=lb HY2.out;omega));rw [find2P_eq HMO.out.1 HMO.out.2] at HF;clear h0 h1;go_wp2_with fail
   refine HF.out.mono ?_;generalize hr:It.find2 p u n=r at *;rintro e v2 ⟨_,rfl,B2,Z,rfl,hIZ⟩;have HPX:=dh (bwt HPW.out B2 hB);have HY3:=kp B2 HY2;have HIZ:=dh hIZ;have HLT:=dh (lb HY2.out);clear B2 HY2 hIZ HF hr x;have f:=ff HY3.out;obtain ⟨r0,r1,r2,r3⟩:=cf HY3.out;go_wp2_with fail
   clear f r0 r1 r2 r3;obtain ⟨W',hW',hp4,hs4,hb4⟩:=p4I (W:=v2) (b:=(B + 1)) HY3.out (It.opt r) Z;rw [hW'];clear hW';obtain ⟨g0,g1,g2,g3⟩:=cf hp4;refine bodyPost_ret (v:=.tuple #[.agg #[.int .i64 (It.opt r).kind,.int .u64 ((It.opt r).num:Int),.slice Z.ab Z.nb Z.cb,.slice Z.ai Z.ni Z.ci],.bool (Option.isSome r)]) (by simp [results,Tryz.results28,go_sem,g0,g1,g2,g3]) rfl ?_;rw [HEE.out];exact ⟨_,rfl,by rw [RB',hB];exact hb4 B w HPX.out (by omega),Z,rfl,HIZ.out.keep (w':=W') (ok':=fun _=>True) fun b hb hl=>⟨hs4.2 b hb,trivial⟩⟩
theorem alg_small {p u x:It} (h:It.getP p u 1=some x):x.num≤65535:=by
 unfold It.getP at h
 split at h
 case isFalse=>cases h
 case isTrue hv=>
 have key:∀ m:It,It.mapOk m=true→It.look m.kids (It.int 1)=some x→x.num≤65535:=fun m hm hl=>by
  have h1:=It.look_some hl;unfold It.mapOk at hm;simp only [Bool.and_eq_true,List.all_eq_true] at hm;have h2:=hm.2 _ h1;have e:It.int 1=.mk 0 1 [] []:=rfl;rw [e] at h2;unfold It.permit at h2
  dsimp only at h2
  rw [if_neg (show ¬ (It.mk 0 1 [] []).kind=3 by decide),if_neg (show ¬ (It.mk 0 1 [] []).numb=false by decide),if_neg (show ¬ (It.mk 0 1 [] []).kind=1 by decide),if_pos (show (It.mk 0 1 [] []).num=1 from rfl)] at h2;simp only [Bool.and_eq_true] at h2;have h3:=h2.1;unfold It.numb at h3;simp only [Bool.and_eq_true,decide_eq_true_eq] at h3;exact h3.2
 unfold It.hvalid at hv;simp only [Bool.and_eq_true] at hv;unfold It.find2 at h
 split at h
 case h_1 y hl=>cases h;exact key p hv.1.1.1.1.1 hl
 case h_2=>exact key u hv.1.1.1.1.2 h
def AlP (r:Int) (w:World) (e:Ending) (w':World):Prop:=e=.returned (.int .i64 r)∧Below w.heap.size w w'
theorem halg_any (p u:It) (A C:Ad) (w:World) (ok ok':Nat→Prop) (hI:IR ok w p A) (hJ:IR ok' w u C) (hE:Env w):Calls Tryz.prog 39 #[.agg #[.int .i64 p.kind,.int .u64 (p.num:Int),.slice A.ab A.nb A.cb,.slice A.ai A.ni A.ci,.int .i64 u.kind,.int .u64 (u.num:Int),.slice C.ab C.nb C.cb,.slice C.ai C.ni C.ci]] w (AlP (It.algP p u) w):=by
 obtain ⟨P0,N0⟩:=an w (o8 p u A C);have HX:=dh N0;have HP:=dh P0;have HI:=dh (((hI.imp (ok':=fun b=>b < w.heap.size) fun b _ hb=>hb).below P0));have HJ:=dh (((hJ.imp (ok':=fun b=>b < w.heap.size) fun b _ hb=>hb).below P0));have HE:=dh ((hE.below P0));clear hI hJ hE;go_enter Tryz.func39,Tryz.ntmps39
 go_upto_region 1 with fail
 clear P0 N0;generalize (w.alloc (o8 p u A C))=w1 at *;generalize hB:w.heap.size=B at *;obtain ⟨x0,x1,x2,x3,x4,x5,x6,x7⟩:=ce HX.out;have HC:=dh (hget_any p u A C w1 _ _ HI.out HJ.out HE.out 1 (by decide) (by decide));have HSM:Hid (∀ x,It.getP p u 1=some x→x.num≤65535):=dh fun x h=>alg_small h
 have HAL:Hid (It.algP p u=match It.getP p u 1 with | .none=>0 | some x=>if x.kind=1 then -1 - (x.num:Int) else x.num):=dh rfl
 go_wp2_with fail
 refine HC.out.mono ?_;generalize It.getP p u 1=r at *;rintro e v2 ⟨_,rfl,B2,Y,rfl,hIY⟩;have hQ2:=pt B2 (al v2 (.cells #[.int .i64 (It.opt r).kind,.int .u64 ((It.opt r).num:Int),.slice Y.ab Y.nb Y.cb,.slice Y.ai Y.ni Y.ci] 26));have HPX:=dh (bwt HP.out hQ2 hB);have HB3:=dh (aw v2 (.cells #[.int .i64 (It.opt r).kind,.int .u64 ((It.opt r).num:Int),.slice Y.ab Y.nb Y.cb,.slice Y.ai Y.ni Y.ci] 26));clear hIY HC;cases r with
 | none=>
   simp only [It.opt,Option.getD_none,Option.isSome_none] at *;have HR:Hid (It.algP p u=0):=dh HAL.out;go_wp2_with fail
   go_ret
   exact ⟨by rw [HR.out];try rfl,by rw [hB];exact HPX.out⟩
 | some x=>
   simp only [It.opt,Option.getD_some,Option.isSome_some] at *;have hx:=HSM.out x rfl;have hw1:IntKind.i64.wrap (x.num:Int)=(x.num:Int):=by rw [IntWalk.i64_in _ (by omega)]
   have hw2:IntKind.i64.wrap (-1 - (x.num:Int))= -1 - (x.num:Int):=by rw [IntWalk.i64_in _ (by omega)]
   clear hx;by_cases hk:x.kind=1
   ·have hkb:(x.kind==1)=true:=by simpa using hk
    have HR:Hid (It.algP p u= -1 - (x.num:Int)):=dh (by rw [HAL.out];exact if_pos hk);clear hk;go_upto_region 2 with fail
    clear x0 x1 x2 x3 x4 x5 x6 x7 B2 hQ2;generalize v2.alloc _=w3 at *;generalize v2.heap.size=T6 at *;have t:=cf HB3.out;go_wp2_with fail
    go_ret
    exact ⟨by rw [HR.out];try rfl,by rw [hB];exact HPX.out⟩
   ·have hkb:(x.kind==1)=false:=by simpa using hk
    have HR:Hid (It.algP p u=(x.num:Int)):=dh (by rw [HAL.out];exact if_neg hk);clear hk;go_upto_region 2 with fail
    clear x0 x1 x2 x3 x4 x5 x6 x7 B2 hQ2;generalize v2.alloc _=w3 at *;generalize v2.heap.size=T6 at *;have t:=cf HB3.out;go_wp2_with fail
    go_ret
    exact ⟨by rw [HR.out];try rfl,by rw [hB];exact HPX.out⟩
section
variable {o:Oper} {ρ:Operand→Value} {w:World}
theorem doesh_loadEP {ok:Nat→Prop} {W:World} (x:Operand) (b:Nat) (p u:It) (A C:Ad) (hW:Below w.heap.size w W) (hb:w.heap[b]?=some (.cells #[.int .i64 p.kind,.int .u64 (p.num:Int),.slice A.ab A.nb A.cb,.slice A.ai A.ni A.ci,.int .i64 u.kind,.int .u64 (u.num:Int),.slice C.ab C.nb C.cb,.slice C.ai C.ni C.ci] 28 (0,0))) (ho:o.op=.load 26 x) (hx:ρ x=.pointer (some ⟨b,0,none⟩)):Rg.Does Tryz.prog o ρ W fun v' w'=>RB' W w'∧True∧(Fh.eq (.agg #[.int .i64 p.kind,.int .u64 (p.num:Int),.slice A.ab A.nb A.cb,.slice A.ai A.ni A.ci])).holds ok v' w':=by
 have a:=ce (bkp hW hb (lb hb));refine doesh_val (v:=.agg #[.int .i64 p.kind,.int .u64 (p.num:Int),.slice A.ab A.nb A.cb,.slice A.ai A.ni A.ci]) ?_ rfl;have hr:(Instr.loadAt 26 (.pointer (some ⟨b,0,none⟩))).run Tryz.prog W=.ok (.agg #[.int .i64 p.kind,.int .u64 (p.num:Int),.slice A.ab A.nb A.cb,.slice A.ai A.ni A.ci]) W:=by
  go_simp
 simp only [execOp,ho,hx,Sem.run_bind,hr,Result.andThen_ok,Sem.run_pure]
theorem doesh_loadEU {ok:Nat→Prop} {W:World} (x:Operand) (b:Nat) (p u:It) (A C:Ad) (hW:Below w.heap.size w W) (hb:w.heap[b]?=some (.cells #[.int .i64 p.kind,.int .u64 (p.num:Int),.slice A.ab A.nb A.cb,.slice A.ai A.ni A.ci,.int .i64 u.kind,.int .u64 (u.num:Int),.slice C.ab C.nb C.cb,.slice C.ai C.ni C.ci] 28 (0,0))) (ho:o.op=.load 26 x) (hx:ρ x=.pointer (some ⟨b,4,none⟩)):Rg.Does Tryz.prog o ρ W fun v' w'=>RB' W w'∧True∧(Fh.eq (.agg #[.int .i64 u.kind,.int .u64 (u.num:Int),.slice C.ab C.nb C.cb,.slice C.ai C.ni C.ci])).holds ok v' w':=by
 have a:=ce (bkp hW hb (lb hb));refine doesh_val (v:=.agg #[.int .i64 u.kind,.int .u64 (u.num:Int),.slice C.ab C.nb C.cb,.slice C.ai C.ni C.ci]) ?_ rfl;have hr:(Instr.loadAt 26 (.pointer (some ⟨b,4,none⟩))).run Tryz.prog W=.ok (.agg #[.int .i64 u.kind,.int .u64 (u.num:Int),.slice C.ab C.nb C.cb,.slice C.ai C.ni C.ci]) W:=by
  go_simp
 simp only [execOp,ho,hx,Sem.run_bind,hr,Result.andThen_ok,Sem.run_pure]
end
theorem EndH.any' {P:Program} {f:FuncId} {args:Array Value} {ok:Nat→Prop} {w:World} {q:Fh} (h:Calls P f args w (EndH w q)) (hw:∀ b,w.heap.size≤b→ok b):Calls P f args w (EndO ok w q):=h.mono fun _ _ h=>h.any hw
theorem copy_st {x:It} (A:Ad) (w:World) (ok:Nat→Prop) (hv:It.st x=true∧It.nodes x≤256) (hI:IR ok w x A):Calls Tryz.prog 94 #[.agg #[.int .i64 x.kind,.int .u64 (x.num:Int),.slice A.ab A.nb A.cb,.slice A.ai A.ni A.ci]] w (EndH w (.it x)):=
 (copy_any 256 x A w ok hv.2 (by omega) hv.1 hI).mono fun _ _ h=>EndH.ip (h.ir hI.num)
theorem st_valid {x:It} (hv:It.valid x=true):It.st x=true∧It.nodes x≤256:=by
 have hw:=It.valid_wf8 hv;unfold It.valid at hv;simp only [Bool.and_eq_true,decide_eq_true_eq] at hv;exact ⟨It.st_of hw hv.2,hv.1.2⟩
theorem hcopy_any (p u:It) (A C:Ad) (w:World) (ok ok':Nat→Prop) (hI:IR ok w p A) (hJ:IR ok' w u C) (hst:(It.st p=true∧It.nodes p≤256)∧It.st u=true∧It.nodes u≤256):Calls Tryz.prog 97 #[.agg #[.int .i64 p.kind,.int .u64 (p.num:Int),.slice A.ab A.nb A.cb,.slice A.ai A.ni A.ci,.int .i64 u.kind,.int .u64 (u.num:Int),.slice C.ab C.nb C.cb,.slice C.ai C.ni C.ci]] w (EndH w (.hd p u)):=by
 obtain ⟨P0,N0⟩:=an w (o8 p u A C);obtain ⟨P1,N1⟩:=an (w.alloc (o8 p u A C)) o8z;have hsz1:(w.alloc (o8 p u A C)).heap.size=w.heap.size + 1:=by simp
 rw [hsz1] at N1;have HX:=dh (bkp P1 N0 (lb N0));have HY1:=dh N1;have HP:=dh (pt P0 P1);have HI:=dh (((hI.below P0).below P1));have HJ:=dh (((hJ.below P0).below P1));have HST:=dh hst;have hsz2:((w.alloc (o8 p u A C)).alloc o8z).heap.size=w.heap.size + 2:=by simp
 clear hI hJ hst;go_enter Tryz.func97,Tryz.ntmps97
 go_upto_region 1 with fail
 clear P0 P1 N0 N1 hsz1;generalize ((w.alloc (o8 p u A C)).alloc o8z)=w1 at *;generalize hB:w.heap.size=B at *;have HSZ:Hid (∀ W,RB' w1 W→∀ b,W.heap.size≤b→B + 2≤b):=dh fun W hW b hb=>by have:=Below.size hW;omega
 clear hsz2;refine rgh (M:=6) (fun b=>B + 2≤b) [.eq (.pointer (some ⟨B,0,none⟩)),.eq (.agg #[.int .i64 p.kind,.int .u64 (p.num:Int),.slice A.ab A.nb A.cb,.slice A.ai A.ni A.ci]),.it p,.eq (.pointer (some ⟨B,4,none⟩)),.eq (.agg #[.int .i64 u.kind,.int .u64 (u.num:Int),.slice C.ab C.nb C.cb,.slice C.ai C.ni C.ci]),.it u] [.pl,.pl,.pl,.pl,.pl,.pl] 6 6 (.any) (by kernel_rfl) (by kernel_rfl) (by kernel_rfl) (fun _ _ o _ _ h=>by cases o <;> exact h) ?_ ?_
 ·refine ⟨?_,?_,?_,?_,?_,?_,trivial⟩<;>intro vs W hR _ hd;exact dfd 28 (.tmp 1) (B) 0 0 rfl (by kernel_rfl) (fieldH0 _);exact doesh_loadEP (.tmp 3) B p u A C hR HX.out rfl (hd 0 (dd rfl));(have e1:vs 1=.agg #[.int .i64 p.kind,.int .u64 (p.num:Int),.slice A.ab A.nb A.cb,.slice A.ai A.ni A.ci]:=(hd 1 (dd rfl));exact dcl (vals:=#[vs 1]) 94 (.func 94) #[.tmp 4] _ rfl (by kernel_rfl) (by kernel_rfl) (cq Tryz.func94) (by rw [e1];exact EndH.any' (copy_st A W _ HST.out.1 (HI.out.below hR)) (HSZ.out W hR)));exact dfd 28 (.tmp 1) (B) 1 4 rfl (by kernel_rfl) (fieldH1 _);exact doesh_loadEU (.tmp 6) B p u A C hR HX.out rfl (hd 3 (dd rfl));(have e4:vs 4=.agg #[.int .i64 u.kind,.int .u64 (u.num:Int),.slice C.ab C.nb C.cb,.slice C.ai C.ni C.ci]:=(hd 4 (dd rfl));exact dcl (vals:=#[vs 4]) 94 (.func 94) #[.tmp 7] _ rfl (by kernel_rfl) (by kernel_rfl) (cq Tryz.func94) (by rw [e4];exact EndH.any' (copy_st C W _ HST.out.2 (HJ.out.below hR)) (HSZ.out W hR)))
 ·intro vs W2 hR2 hf hD hE
  obtain ⟨Y,e2,hI2⟩:=hf 2 (dd rfl);obtain ⟨Z,e5,hI5⟩:=hf 5 (dd rfl);have HY2:=kp hR2 HY1;have HPX:=dh (bwt HP.out hR2 hB);have HI2:=dh hI2;have HI5:=dh hI5;simp only [sr,Nat.zero_add,Nat.reduceAdd,e2,e5];clear hf hD hE e2 e5 hI2 hI5 hR2;have f:=fe8 HY2.out;have r:=ce HY2.out;go_wp2_with fail
  clear f r;obtain ⟨W',hW',hp8,hs8,hb8⟩:=p8I (W:=W2) (b:=(B + 1)) HY2.out p u Y Z;rw [hW'];clear hW';obtain ⟨g0,g1,g2,g3,g4,g5,g6,g7⟩:=ce hp8;refine bodyPost_ret (v:=(v8 p u Y Z)) (by simp [v8,results,Tryz.results97,go_sem,g0,g1,g2,g3,g4,g5,g6,g7]) rfl ?_;exact ⟨_,rfl,by rw [RB',hB];exact hb8 B w HPX.out (by omega),Y,Z,rfl,HI2.out.keep (w':=W') (ok':=fun b=>w.heap.size≤b) fun b hb hl=>⟨hs8.2 b (by omega),by omega⟩,HI5.out.keep (w':=W') (ok':=fun b=>w.heap.size≤b) fun b hb hl=>⟨hs8.2 b (by omega),by omega⟩⟩
theorem bpostc_ok {r:It.MR} {x:It} {w:World} {e:Ending} {w':World} (h:BPostC r w e w') (hr:r=.ok x):∃ A:Ad,e=.returned (.tuple #[.agg #[.int .i64 x.kind,.int .u64 (x.num:Int),.slice A.ab A.nb A.cb,.slice A.ai A.ni A.ci],.int .i64 0])∧IR (fun b=>w.heap.size≤b) w' x A∧Below w.heap.size w w'∧A.ci=A.ni:=by
 subst hr;exact h
theorem copied_cap (x:It) (A:Ad) (w:World) (ok:Nat→Prop) (hv:It.valid x=true) (hk:x.kind=5) (hI:IR ok w x A) (hE:Env w):Calls Tryz.prog 96 #[.agg #[.int .i64 x.kind,.int .u64 (x.num:Int),.slice A.ab A.nb A.cb,.slice A.ai A.ni A.ci]] w (IPC x w):=by
 obtain ⟨P0,N0⟩:=an w (o4 x A);obtain ⟨P1,N1⟩:=an (w.alloc (o4 x A)) o4z;have hsz1:(w.alloc (o4 x A)).heap.size=w.heap.size + 1:=by simp
 rw [hsz1] at N1;have HX:=dh (bkp P1 N0 (lb N0));have HY1:=dh N1;have HP:=dh (pt P0 P1);have HI:=dh (((hI.below P0).below P1));have HE:=dh (((hE.below P0).below P1));have HK:Hid (It.buildP x.kids=.ok x∧x.kids.length≤256):=dh ⟨It.build_same hv hk,kids_le hv⟩;clear hI hE hv hk;go_enter Tryz.func96,Tryz.ntmps96
 go_upto_region 1 with fail
 clear P0 P1 N0 N1 hsz1;generalize ((w.alloc (o4 x A)).alloc o4z)=w1 at *;generalize hB:w.heap.size=B at *;obtain ⟨x0,x1,x2,x3⟩:=cf HX.out;have HC:=dh ((cbuild_cap x.kids A.ai A.ni A.ci w1 _ HI.out.tl (by have:=HI.out.ni;have:=HK.out.2;omega) HE.out).mono fun _ _ h=>bpostc_ok h HK.out.1);go_wp2_with fail
 refine HC.out.mono ?_;rintro e v2 ⟨Y,rfl,hIY,B2,hCAP⟩;have HCAP:=dh hCAP;clear hCAP;have hQ2:=pt B2 (al v2 (o4 x Y));have HPX:=dh (bwt HP.out hQ2 hB);have HY2:=kp hQ2 HY1;have HB3:=dh (aw v2 (o4 x Y));have HIY:=dh (hIY.below (al v2 (o4 x Y)));have HLT:=dh (lb HY1.out);go_upto_region 2 with fail
 clear x0 x1 x2 x3 B2 hQ2 hIY HC;generalize v2.alloc _=w3 at *;generalize v2.heap.size=T6 at *;have t:=cf HB3.out;have f:=ff HY2.out;have r:=cf HY2.out;go_wp2_with fail
 clear f r t;obtain ⟨W',hW',hp4,hs4,hb4⟩:=p4I (W:=w3) (b:=(B + 1)) HY2.out x Y;rw [hW'];clear hW';obtain ⟨g0,g1,g2,g3⟩:=cf hp4;refine bodyPost_ret (v:=(v4 x Y)) (by simp [v4,results,Tryz.results96,go_sem,g0,g1,g2,g3]) rfl ?_;exact ⟨Y,rfl,HIY.out.keep (w':=W') (ok':=fun b=>w.heap.size≤b) fun b hb hl=>⟨hs4.2 b (by have:=HLT.out;omega),by have:=HLT.out;omega⟩,by rw [hB];exact hb4 B w HPX.out (by omega),HCAP.out⟩
