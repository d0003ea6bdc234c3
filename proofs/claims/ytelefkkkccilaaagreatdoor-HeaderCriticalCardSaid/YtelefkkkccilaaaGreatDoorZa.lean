/- The reference's Same. -/
import Derived.Test.YtelefkkkccilaaaGreatDoorLJ
set_option linter.all false
namespace Go.Proofs.YtelefkkkccilaaaGreatDoor
open Go.RowKit
set_option maxRecDepth 100000
theorem cmpB_ne {a b:List UInt8} (h:a≠b):It.cmpB a b≠0:=fun e=>h (It.cmpB_eq e)
theorem sames_drop {ks ks':List It} {j:Nat} (h:j < ks.length) (h':j < ks'.length):It.sames (ks.drop j) (ks'.drop j)=(It.same ks[j] ks'[j] && It.sames (ks.drop (j + 1)) (ks'.drop (j + 1))):=by
 rw [List.drop_eq_getElem_cons h,List.drop_eq_getElem_cons h']
 conv=>lhs;unfold It.sames
def SameC (m:Nat):Prop:=∀ (x y:It) (A C:Ad) (w:World) (ok ok':Nat→Prop),It.nodes x≤m→IR ok w x A→IR ok' w y C→Calls Tryz.prog 30 #[.agg #[.int .i64 x.kind,.int .u64 (x.num:Int),.slice A.ab A.nb A.cb,.slice A.ai A.ni A.ci],.agg #[.int .i64 y.kind,.int .u64 (y.num:Int),.slice C.ab C.nb C.cb,.slice C.ai C.ni C.ci]] w (VP (It.same x y) w)
set_option maxHeartbeats 8000000 in
theorem same_one (k N:Int) (bs:List UInt8) (ks:List It) (ab ai:Option Addr) (nb cb ni ci:Nat) (n:Nat) (hN:N=n) (k' N':Int) (bs':List UInt8) (ks':List It) (ab' ai':Option Addr) (nb' cb' ni' ci':Nat) (n':Nat) (hN':N'=n') (w:World) (ok ok':Nat→Prop) (hR:BR ok w ab nb bs) (hT:TL ok w ks ai ni) (hR':BR ok' w ab' nb' bs') (hT':TL ok' w ks' ai' ni')
 (hkid:∀ (j:Nat) (h:j < ks.length) (y:It) (A C:Ad) (W:World),IR ok W ks[j] A→IR ok' W y C→Calls Tryz.prog 30 #[.agg #[.int .i64 ks[j].kind,.int .u64 (ks[j].num:Int),.slice A.ab A.nb A.cb,.slice A.ai A.ni A.ci],.agg #[.int .i64 y.kind,.int .u64 (y.num:Int),.slice C.ab C.nb C.cb,.slice C.ai C.ni C.ci]] W (VP (It.same ks[j] y) W)):
 Calls Tryz.prog 30 #[.agg #[.int .i64 k,.int .u64 N,.slice ab nb cb,.slice ai ni ci],.agg #[.int .i64 k',.int .u64 N',.slice ab' nb' cb',.slice ai' ni' ci']] w (VP (It.same (.mk k n bs ks) (.mk k' n' bs' ks')) w):=by
 obtain ⟨P0,N0⟩:=an w (oc k N ab nb cb ai ni ci);obtain ⟨P1,N1⟩:=an (w.alloc (oc k N ab nb cb ai ni ci)) (oc k' N' ab' nb' cb' ai' ni' ci');have hsz0:(w.alloc (oc k N ab nb cb ai ni ci)).heap.size=w.heap.size + 1:=by simp
 rw [hsz0] at N1;have HX:=dh (Below.keep P1 N0 (lb N0));have HY:=dh N1;have HP:=dh (pt P0 P1);have HC0:=dh (fun R hRR=>rcompare_any (c:=cb) (d:=cb') (hR.below (pt P0 P1)) (hR'.below (pt P0 P1)) R hRR);have HT:=dh (hT.below (pt P0 P1));have HT':=dh (hT'.below (pt P0 P1));have HNI:Hid (ni=ks.length∧ni'=ks'.length):=dh ⟨hT.1,hT'.1⟩;have hnm:ni≤9223372036854775807:=hT.2.1;have HKID:=dh hkid;have HNN:=dh (And.intro hN hN');have x:=cf HX.out;obtain ⟨y0,y1,y2,y3⟩:=cf HY.out;clear hR hT hR' hT' hkid hN hN' N0 N1 P0 P1 hsz0;have hsame:It.same (.mk k n bs ks) (.mk k' n' bs' ks')=(decide (k=k') && decide (n=n') && decide (bs=bs') && It.sames ks ks'):=by unfold It.same;rfl
 obtain ⟨V,hV⟩:∃ V,It.same (.mk k n bs ks) (.mk k' n' bs' ks')=V:=⟨_,rfl⟩;rw [hV];have HV:=dh (hsame.symm.trans hV);clear hsame hV;go_enter Tryz.func30,Tryz.ntmps30
 go_upto_region 1 with fail
 generalize (w.alloc (oc k N ab nb cb ai ni ci)).alloc (oc k' N' ab' nb' cb' ai' ni' ci')=w1 at *;generalize hB:w.heap.size=B at *;by_cases hk:k=k'
 case neg=>
  have hkb:(k !=k')=true:=by simpa using hk
  have HVF:Hid (V=false):=dh (by rw [← HV.out,df hk];rfl);go_wp2_with fail
  go_ret
  exact ⟨by rw [HVF.out];rfl,hB ▸ HP.out⟩
 subst hk;by_cases hn:N=N'
 case neg=>
  have hnb:(N !=N')=true:=by simpa using hn
  have hnn:¬ n=n':=fun e=>hn (by rw [HNN.out.1,HNN.out.2,e])
  have HVF:Hid (V=false):=dh (by rw [← HV.out,df hnn];simp);clear hnn;go_wp2_with fail
  go_ret
  exact ⟨by rw [HVF.out];rfl,hB ▸ HP.out⟩
 subst hn;have HN2:Hid (n=n'):=dh (by have:=HNN.out;omega);by_cases hb:bs=bs'
 case neg=>
  have HVF:Hid (V=false):=dh (by rw [← HV.out,df hb];simp);have HC:=dh (HC0.out _ rfl);have hz:=cmpB_ne hb;generalize It.cmpB bs bs'=z at *;have hzb:(z !=0)=true:=by simpa using hz
  go_wp2_with fail
  refine HC.out.mono ?_;rintro e w2 ⟨rfl,q2,rfl⟩;go_wp2_with fail
  go_ret
  exact ⟨by rw [HVF.out];rfl,hB ▸ bd HP.out _⟩
 have HB2:=dh hb;have HC:=dh (HC0.out 0 (by rw [hb];exact It.cmpB_self _));clear hb;by_cases hl:ni=ni'
 case neg=>
  have hlb:((ni:Int) !=(ni':Int))=true:=by simp;omega
  have hli:¬ (ni:Int)=(ni':Int):=by omega
  have hsm:It.sames ks ks'=false:=by
   cases hc:It.sames ks ks' with
   | false=>rfl
   | true=>have:=It.sames_len hc;have:=HNI.out;omega
  have HVF:Hid (V=false):=dh (by rw [← HV.out,hsm];simp);clear hsm;go_wp2_with fail
  refine HC.out.mono ?_;rintro e w2 ⟨rfl,q2,rfl⟩;go_wp2_with fail
  go_ret
  exact ⟨by rw [HVF.out];rfl,hB ▸ bd HP.out _⟩
 have HLL:=dh hl;subst hl;go_wp2_with fail
 refine HC.out.mono ?_;rintro e w2 ⟨rfl,q2,rfl⟩;obtain ⟨R,hRR⟩:∃ R,It.sames ks ks'=R:=⟨_,rfl⟩;have hVR:V=R:=by rw [← HV.out,dt HN2.out,dt HB2.out,← hRR];simp
 subst hVR;have HRR:=dh hRR;clear hRR HV;go_wp2_with fail
 go_loopw [39] (fun i W=>∃ j:Nat,i=.int .i64 (j:Int)∧j≤ni∧It.sames (ks.drop j) (ks'.drop j)=V∧Below w1.heap.size w1 W) (fun i _=>ni - (intOf i).toNat)
 case atStart=>exact ⟨0,rfl,by omega,by simpa using HRR.out,bd (Below.refl _ _) _⟩
 case round=>
  obtain ⟨u,hu⟩:∃ u,u=wr:=⟨_,rfl⟩;subst hu;obtain ⟨j,rfl,hj,hs,hBl⟩:=hrel;by_cases hj3:j < ni
  ·have hjk:j < ks.length:=by have:=HNI.out;omega
   have hjk':j < ks'.length:=by have:=HNI.out;omega
   rw [sames_drop hjk hjk'] at hs;have HKJ:=dh (HKID.out j hjk ks'[j]);have hT1:=(HT.out.below hBl).2.2 j hjk;have hT2:=(HT'.out.below hBl).2.2 j hjk';have hjz:(j:Int) < (ni:Int):=by omega
   generalize ks[j]=p at *;generalize ks'[j]=q at *;obtain ⟨b1,o1,X,e1,_,⟨c0,c1,c2,c3⟩,hIx⟩:=hT1;obtain ⟨b2,o2,Y,e2,_,⟨d0,d1,d2,d3⟩,hIy⟩:=hT2;subst e1;subst e2;have PT:=al u (o4 p X);have hy3:u.cell? ⟨B + 1,3,none⟩=some (.slice (some ⟨b2,o2,none⟩) ni ci'):=(hBl.cell (p:=⟨B + 1,3,none⟩) (lb HY.out)).trans y3;have NT:=aw u (o4 p X);have HBl:=dh (pt hBl PT);have HS:Hid (∀ W,Below (u.alloc (o4 p X)).heap.size (u.alloc (o4 p X)) W→(W.cell? ⟨u.heap.size,0,none⟩=some (.int .i64 p.kind)∧W.cell? ⟨u.heap.size,1,none⟩=some (.int .u64 (p.num:Int))∧W.cell? ⟨u.heap.size,2,none⟩=some (.slice X.ab X.nb X.cb)∧W.cell? ⟨u.heap.size,3,none⟩=some (.slice X.ai X.ni X.ci))∧W.cell? ⟨B + 1,3,none⟩=some (.slice (some ⟨b2,o2,none⟩) ni ci')∧(W.cell? ⟨b2,o2 + j * 4,none⟩=some (.int .i64 q.kind)∧W.cell? ⟨b2,o2 + j * 4 + 1,none⟩=some (.int .u64 (q.num:Int))∧W.cell? ⟨b2,o2 + j * 4 + 2,none⟩=some (.slice Y.ab Y.nb Y.cb)∧W.cell? ⟨b2,o2 + j * 4 + 3,none⟩=some (.slice Y.ai Y.ni Y.ci))):=dh fun W hW=>by
    have hW2:=pt PT hW;exact ⟨cf (Below.keep hW NT (lb NT)),(hW2.cell (p:=⟨B + 1,3,none⟩) (lg hy3)).trans hy3,(hW2.cell (p:=⟨b2,o2 + j * 4,none⟩) (lg d0)).trans d0,(hW2.cell (p:=⟨b2,o2 + j * 4 + 1,none⟩) (lg d1)).trans d1,(hW2.cell (p:=⟨b2,o2 + j * 4 + 2,none⟩) (lg d2)).trans d2,(hW2.cell (p:=⟨b2,o2 + j * 4 + 3,none⟩) (lg d3)).trans d3⟩
   have HC9:=dh (fun W (hW:Below (u.alloc (o4 p X)).heap.size (u.alloc (o4 p X)) W)=>HKJ.out X Y W ((hIx.below PT).below hW) ((hIy.below PT).below hW));have HSS:=dh hs;clear hIx hIy PT NT hy3 d0 d1 d2 d3 HKJ hs hBl;go_upto_region 6 with fail
   clear c0 c1 c2 c3;generalize u.heap.size=T at *;generalize u.alloc _=u at *;have HC:=HC9;clear HC9;refine wp_region_held_drew (S:=(fun w'=>(w'.cell? ⟨T,0,none⟩=some (.int .i64 p.kind)∧w'.cell? ⟨T,1,none⟩=some (.int .u64 (p.num:Int))∧w'.cell? ⟨T,2,none⟩=some (.slice X.ab X.nb X.cb)∧w'.cell? ⟨T,3,none⟩=some (.slice X.ai X.ni X.ci))∧w'.cell? ⟨B + 1,3,none⟩=some (.slice (some ⟨b2,o2,none⟩) ni ci')∧(w'.cell? ⟨b2,o2 + j * 4,none⟩=some (.int .i64 q.kind)∧w'.cell? ⟨b2,o2 + j * 4 + 1,none⟩=some (.int .u64 (q.num:Int))∧w'.cell? ⟨b2,o2 + j * 4 + 2,none⟩=some (.slice Y.ab Y.nb Y.cb)∧w'.cell? ⟨b2,o2 + j * 4 + 3,none⟩=some (.slice Y.ai Y.ni Y.ci)))) (by kernel_rfl) (HS.out _ (Below.refl _ _).drew) (fun hHeld=>?_);refine tk 0 rfl hHeld ?_;simp only [Act.put,sx]
   refine tk 1 rfl hHeld ?_;simp only [Act.put,sx]
   refine tk 2 rfl hHeld ?_;simp only [Act.put,sx]
   refine tk 3 rfl hHeld ?_;simp only [Act.put,sx]
   refine tk 4 rfl hHeld ?_;simp only [Act.put,sx]
   refine tk 5 rfl hHeld ?_;simp only [Act.put,sx]
   refine ry 6 (by kernel_rfl) rfl fun K1 hK1=>?_
   go_simp
   refine (HC.out _ (bd (Below.refl _ _) 1)).mono ?_;rintro e v8 ⟨rfl,hB8⟩;have HB8:=dh (pt (bd (Below.refl u.heap.size u) 1) hB8);refine hK1.out _ _ (HS.out _ HB8.out) (fun hHeld=>?_);clear hK1 hB8
   try simp only [Act.put,sx]
   refine tk 7 rfl hHeld ?_;simp only [Act.put,sx]
   refine wpAnyH_done (by kernel_rfl) ?_ _
   try simp only [Act.put,sx]
   have HBW:=dh (pt HBl.out HB8.out);clear HS hHeld HB8 HBl HC;have hss:=HSS.out;cases hQ:It.same p q with
   | true=>
     rw [hQ] at hss;simp only [Bool.true_and] at hss;have HS2:=dh hss;clear hss hQ;go_wp2_with fail
     go_roundw
     case rel=>exact ⟨j + 1,by go_num,by omega,HS2.out,HBW.out⟩
     case measure=>simp [intOf];omega
   | false=>
     rw [hQ] at hss;simp only [Bool.false_and] at hss;subst hss;clear hQ;go_wp2_with fail
     go_ret
     exact ⟨rfl,hB ▸ HP.out.trans (HBW.out.mono (by have:=HP.out.size;omega))⟩
  ·have hjn:j=ni:=by omega
   have e1:ks.drop j=[]:=List.drop_eq_nil_of_le (by have:=HNI.out;omega);have e2:ks'.drop j=[]:=List.drop_eq_nil_of_le (by have:=HNI.out;omega);rw [e1,e2] at hs;have hR:V=true:=by rw [← hs];unfold It.sames;rfl
   subst hR;have hjz:¬ (j:Int) < (ni:Int):=by omega
   have HBl:=dh hBl;clear hjn e1 e2 hs hBl;go_wp2_with fail
   go_ret
   exact ⟨rfl,hB ▸ HP.out.trans (HBl.out.mono (by have:=HP.out.size;omega))⟩
theorem same_rec:∀ m,SameC m
 | 0=>fun x _ _ _ _ _ _ hm _ _=>by have:=It.nodes_pos x;omega
 | m + 1=>fun x y A C w ok ok' hm hI hI'=>by
   cases x with
   | mk k n b ks=>
     cases y with
     | mk k' n' b' ks'=>
       have hnn:It.nodes (.mk k n b ks)=1 + It.nodesL ks:=rfl;exact same_one k n b ks _ _ _ _ _ _ n rfl k' n' b' ks' _ _ _ _ _ _ n' rfl w ok ok' hI.br hI.tl hI'.br hI'.tl fun j hj y A' C' W h1 h2=>same_rec m ks[j] y A' C' W ok ok' (by have:=It.nodes_mem (List.getElem_mem hj);omega) h1 h2
theorem same_any (x y:It) (A C:Ad) (w:World) (ok ok':Nat→Prop) (hI:IR ok w x A) (hI':IR ok' w y C):Calls Tryz.prog 30 #[.agg #[.int .i64 x.kind,.int .u64 (x.num:Int),.slice A.ab A.nb A.cb,.slice A.ai A.ni A.ci],.agg #[.int .i64 y.kind,.int .u64 (y.num:Int),.slice C.ab C.nb C.cb,.slice C.ai C.ni C.ci]] w (VP (It.same x y) w):=
 same_rec _ x y A C w ok ok' (Nat.le_refl _) hI hI'
