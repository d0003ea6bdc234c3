/- The reference's Same. -/
import Derived.Test.YtelefkkkccilaaaGreatDoorLM
import Derived.Test.YtelefkkkccilaaaGreatDoorKB
import Derived.Test.YtelefkkkccilaaaGreatDoorXp
set_option maxHeartbeats 8000000
set_option linter.all false
namespace Go.Proofs.YtelefkkkccilaaaGreatDoor
open Go.RowKit
set_option maxRecDepth 100000
theorem cmpB_ne {a b:List UInt8} (h:a≠b):It.cmpB a b≠0:=fun e=>h (It.cmpB_eq e)
theorem sames_drop {ks ks':List It} {j:Nat} (h:j < ks.length) (h':j < ks'.length):It.sames (ks.drop j) (ks'.drop j)=(It.same ks[j] ks'[j] && It.sames (ks.drop (j + 1)) (ks'.drop (j + 1))):=by
 rw [List.drop_eq_getElem_cons h,List.drop_eq_getElem_cons h']
 conv=>lhs;unfold It.sames
def SameC (m:Nat):Prop:=∀ (x y:It) (A C:Ad) (w:World) (ok ok':Nat→Prop),It.nodes x≤m→IR ok w x A→IR ok' w y C→Calls Tryz.prog 30 #[.agg #[.int .i64 x.kind,.int .u64 (x.num:Int),.slice A.ab A.nb A.cb,.slice A.ai A.ni A.ci],.agg #[.int .i64 y.kind,.int .u64 (y.num:Int),.slice C.ab C.nb C.cb,.slice C.ai C.ni C.ci]] w (VP (It.same x y) w)
theorem same_one (k N:Int) (bs:List UInt8) (ks:List It) (ab ai:Option Addr) (nb cb ni ci:Nat) (n:Nat) (hN:N=n) (k' N':Int) (bs':List UInt8) (ks':List It) (ab' ai':Option Addr) (nb' cb' ni' ci':Nat) (n':Nat) (hN':N'=n') (w:World) (ok ok':Nat→Prop) (hR:BR ok w ab nb bs) (hT:TL ok w ks ai ni) (hR':BR ok' w ab' nb' bs') (hT':TL ok' w ks' ai' ni')
 (hkid:∀ (j:Nat) (h:j < ks.length) (y:It) (A C:Ad) (W:World),IR ok W ks[j] A→IR ok' W y C→Calls Tryz.prog 30 #[.agg #[.int .i64 ks[j].kind,.int .u64 (ks[j].num:Int),.slice A.ab A.nb A.cb,.slice A.ai A.ni A.ci],.agg #[.int .i64 y.kind,.int .u64 (y.num:Int),.slice C.ab C.nb C.cb,.slice C.ai C.ni C.ci]] W (VP (It.same ks[j] y) W)):
 Calls Tryz.prog 30 #[.agg #[.int .i64 k,.int .u64 N,.slice ab nb cb,.slice ai ni ci],.agg #[.int .i64 k',.int .u64 N',.slice ab' nb' cb',.slice ai' ni' ci']] w (VP (It.same (.mk k n bs ks) (.mk k' n' bs' ks')) w):=by
 obtain ⟨P0,N0⟩:=an w (oc k N ab nb cb ai ni ci);obtain ⟨P1,N1⟩:=an (w.alloc (oc k N ab nb cb ai ni ci)) (oc k' N' ab' nb' cb' ai' ni' ci');have hsz0:(w.alloc (oc k N ab nb cb ai ni ci)).heap.size=w.heap.size + 1:=by simp
 rw [hsz0] at N1;have HX:=dh (bkp P1 N0 (lb N0));have HY:=dh N1;have HP:=dh (pt P0 P1);have HC0:=dh (fun R hRR=>rcompare_any (c:=cb) (d:=cb') (hR.below (pt P0 P1)) (hR'.below (pt P0 P1)) R hRR);have HT:=dh (hT.below (pt P0 P1));have HT':=dh (hT'.below (pt P0 P1));have HNI:Hid (ni=ks.length∧ni'=ks'.length):=dh ⟨hT.1,hT'.1⟩;have hnm:ni≤9223372036854775807:=hT.2.1;have HKID:=dh hkid;have HNN:=dh (And.intro hN hN');have x:=cf HX.out;obtain ⟨y0,y1,y2,y3⟩:=cf HY.out;clear hR hT hR' hT' hkid hN hN' N0 N1 P0 P1 hsz0;have hsame:It.same (.mk k n bs ks) (.mk k' n' bs' ks')=(decide (k=k') && decide (n=n') && decide (bs=bs') && It.sames ks ks'):=by unfold It.same;rfl
 obtain ⟨V,hV⟩:∃ V,It.same (.mk k n bs ks) (.mk k' n' bs' ks')=V:=⟨_,rfl⟩;rw [hV];have HV:=dh (hsame.symm.trans hV);clear hsame hV;go_enter Tryz.func30,Tryz.ntmps30
 go_upto_region 1 with fail
 generalize (w.alloc (oc k N ab nb cb ai ni ci)).alloc (oc k' N' ab' nb' cb' ai' ni' ci')=w1 at *;generalize hB:w.heap.size=B at *;by_cases hk:k=k'
 case neg=>
  have hkb:(k !=k')=true:=by simpa using hk
  have HVF:Hid (V=false):=dh (by rw [← HV.out,df hk];rfl);go_wp2_with fail
  go_ret
  exact ⟨by rw [HVF.out];rfl,hB ▸ HP.out⟩
 subst hk;by_cases hn:N=N'
 case neg=>
  have hnb:(N !=N')=true:=by simpa using hn
  have hnn:¬ n=n':=fun e=>hn (by rw [HNN.out.1,HNN.out.2,e])
  have HVF:Hid (V=false):=dh (by rw [← HV.out,df hnn];simp);clear hnn;go_wp2_with fail
  go_ret
  exact ⟨by rw [HVF.out];rfl,hB ▸ HP.out⟩
 subst hn;have HN2:Hid (n=n'):=dh (by have:=HNN.out;omega);by_cases hb:bs=bs'
 case neg=>
  have HVF:Hid (V=false):=dh (by rw [← HV.out,df hb];simp);have HC:=dh (HC0.out _ rfl);have hz:=cmpB_ne hb;generalize It.cmpB bs bs'=z at *;have hzb:(z !=0)=true:=by simpa using hz
  go_wp2_with fail
  refine HC.out.mono ?_;rintro e w2 ⟨rfl,q2,rfl⟩;go_wp2_with fail
  go_ret
  exact ⟨by rw [HVF.out];rfl,hB ▸ bd HP.out _⟩
 have HB2:=dh hb;have HC:=dh (HC0.out 0 (by rw [hb];exact It.cmpB_self _));clear hb;by_cases hl:ni=ni'
 case neg=>
  have hlb:((ni:Int) !=(ni':Int))=true:=by simp;omega
  have hli:¬ (ni:Int)=(ni':Int):=by omega
  have hsm:It.sames ks ks'=false:=by
   cases hc:It.sames ks ks' with
   | false=>rfl
   | true=>have:=It.sames_len hc;have:=HNI.out;omega
  have HVF:Hid (V=false):=dh (by rw [← HV.out,hsm];simp);clear hsm;go_wp2_with fail
  refine HC.out.mono ?_;rintro e w2 ⟨rfl,q2,rfl⟩;go_wp2_with fail
  go_ret
  exact ⟨by rw [HVF.out];rfl,hB ▸ bd HP.out _⟩
 have HLL:=dh hl;subst hl;go_wp2_with fail
 refine HC.out.mono ?_;rintro e w2 ⟨rfl,q2,rfl⟩;obtain ⟨R,hRR⟩:∃ R,It.sames ks ks'=R:=⟨_,rfl⟩;have hVR:V=R:=by rw [← HV.out,dt HN2.out,dt HB2.out,← hRR];simp
 subst hVR;have HRR:=dh hRR;clear hRR HV;go_wp2_with fail
 go_loopw [39] (fun i W=>∃ j:Nat,i=.int .i64 (j:Int)∧j≤ni∧It.sames (ks.drop j) (ks'.drop j)=V∧Below w1.heap.size w1 W) (fun i _=>ni - (intOf i).toNat)
 case atStart=>exact ⟨0,rfl,by omega,by simpa using HRR.out,bd (Below.refl _ _) _⟩
 case round=>
  obtain ⟨u,hu⟩:∃ u,u=wr:=⟨_,rfl⟩;subst hu;obtain ⟨j,rfl,hj,hs,hBl⟩:=hrel;by_cases hj3:j < ni
  ·have hjk:j < ks.length:=by have:=HNI.out;omega
   have hjk':j < ks'.length:=by have:=HNI.out;omega
   rw [sames_drop hjk hjk'] at hs;have HKJ:=dh (HKID.out j hjk ks'[j]);have hT1:=(HT.out.below hBl).2.2 j hjk;have hT2:=(HT'.out.below hBl).2.2 j hjk';have hjz:(j:Int) < (ni:Int):=by omega
   generalize ks[j]=p at *;generalize ks'[j]=q at *;obtain ⟨b1,o1,X,e1,_,⟨c0,c1,c2,c3⟩,hIx⟩:=hT1;obtain ⟨b2,o2,Y,e2,_,⟨d0,d1,d2,d3⟩,hIy⟩:=hT2;subst e1;subst e2;have PT:=al u (o4 p X);have hy3:u.cell? ⟨B + 1,3,none⟩=some (.slice (some ⟨b2,o2,none⟩) ni ci'):=(hBl.cell (p:=⟨B + 1,3,none⟩) (lb HY.out)).trans y3;have NT:=aw u (o4 p X);have HBl:=dh (pt hBl PT);have HS:Hid (∀ W,Below (u.alloc (o4 p X)).heap.size (u.alloc (o4 p X)) W→(W.cell? ⟨u.heap.size,0,none⟩=some (.int .i64 p.kind)∧W.cell? ⟨u.heap.size,1,none⟩=some (.int .u64 (p.num:Int))∧W.cell? ⟨u.heap.size,2,none⟩=some (.slice X.ab X.nb X.cb)∧W.cell? ⟨u.heap.size,3,none⟩=some (.slice X.ai X.ni X.ci))∧W.cell? ⟨B + 1,3,none⟩=some (.slice (some ⟨b2,o2,none⟩) ni ci')∧(W.cell? ⟨b2,o2 + j * 4,none⟩=some (.int .i64 q.kind)∧W.cell? ⟨b2,o2 + j * 4 + 1,none⟩=some (.int .u64 (q.num:Int))∧W.cell? ⟨b2,o2 + j * 4 + 2,none⟩=some (.slice Y.ab Y.nb Y.cb)∧W.cell? ⟨b2,o2 + j * 4 + 3,none⟩=some (.slice Y.ai Y.ni Y.ci))):=dh fun W hW=>by
    have hW2:=pt PT hW;exact ⟨cf (bkp hW NT (lb NT)),(hW2.cell (p:=⟨B + 1,3,none⟩) (lg hy3)).trans hy3,(hW2.cell (p:=⟨b2,o2 + j * 4,none⟩) (lg d0)).trans d0,(hW2.cell (p:=⟨b2,o2 + j * 4 + 1,none⟩) (lg d1)).trans d1,(hW2.cell (p:=⟨b2,o2 + j * 4 + 2,none⟩) (lg d2)).trans d2,(hW2.cell (p:=⟨b2,o2 + j * 4 + 3,none⟩) (lg d3)).trans d3⟩
   have HC9:=dh (fun W (hW:Below (u.alloc (o4 p X)).heap.size (u.alloc (o4 p X)) W)=>HKJ.out X Y W ((hIx.below PT).below hW) ((hIy.below PT).below hW));have HSS:=dh hs;clear hIx hIy PT NT hy3 d0 d1 d2 d3 HKJ hs hBl;go_upto_region 6 with fail
   clear c0 c1 c2 c3;generalize u.heap.size=T at *;generalize u.alloc _=u at *;have HC:=HC9;clear HC9;refine wp_region_held_drew (S:=(fun w'=>(w'.cell? ⟨T,0,none⟩=some (.int .i64 p.kind)∧w'.cell? ⟨T,1,none⟩=some (.int .u64 (p.num:Int))∧w'.cell? ⟨T,2,none⟩=some (.slice X.ab X.nb X.cb)∧w'.cell? ⟨T,3,none⟩=some (.slice X.ai X.ni X.ci))∧w'.cell? ⟨B + 1,3,none⟩=some (.slice (some ⟨b2,o2,none⟩) ni ci')∧(w'.cell? ⟨b2,o2 + j * 4,none⟩=some (.int .i64 q.kind)∧w'.cell? ⟨b2,o2 + j * 4 + 1,none⟩=some (.int .u64 (q.num:Int))∧w'.cell? ⟨b2,o2 + j * 4 + 2,none⟩=some (.slice Y.ab Y.nb Y.cb)∧w'.cell? ⟨b2,o2 + j * 4 + 3,none⟩=some (.slice Y.ai Y.ni Y.ci)))) (by kernel_rfl) (HS.out _ (Below.refl _ _).drew) (fun hHeld=>?_);refine tk 0 rfl hHeld ?_;simp only [Act.put,sx]
   refine tk 1 rfl hHeld ?_;simp only [Act.put,sx]
   refine tk 2 rfl hHeld ?_;simp only [Act.put,sx]
   refine tk 3 rfl hHeld ?_;simp only [Act.put,sx]
   refine tk 4 rfl hHeld ?_;simp only [Act.put,sx]
   refine tk 5 rfl hHeld ?_;simp only [Act.put,sx]
   refine ry 6 (by kernel_rfl) rfl fun K1 hK1=>?_
   go_simp
   refine (HC.out _ (bd (Below.refl _ _) 1)).mono ?_;rintro e v8 ⟨rfl,hB8⟩;have HB8:=dh (pt (bd (Below.refl u.heap.size u) 1) hB8);refine hK1.out _ _ (HS.out _ HB8.out) (fun hHeld=>?_);clear hK1 hB8
   try simp only [sz]
   refine tk 7 rfl hHeld ?_;simp only [Act.put,sx]
   refine wpAnyH_done (by kernel_rfl) ?_ _
   try simp only [sz]
   have HBW:=dh (pt HBl.out HB8.out);clear HS hHeld HB8 HBl HC;have hss:=HSS.out;cases hQ:It.same p q with
   | true=>
     rw [hQ] at hss;simp only [Bool.true_and] at hss;have HS2:=dh hss;clear hss hQ;go_wp2_with fail
     go_roundw
     case rel=>exact ⟨j + 1,by go_num,by omega,HS2.out,HBW.out⟩
     case measure=>simp [intOf];omega
   | false=>
     rw [hQ] at hss;simp only [Bool.false_and] at hss;subst hss;clear hQ;go_wp2_with fail
     go_ret
     exact ⟨rfl,hB ▸ HP.out.trans (HBW.out.mono (by have:=HP.out.size;omega))⟩
  ·have hjn:j=ni:=by omega
   have e1:ks.drop j=[]:=List.drop_eq_nil_of_le (by have:=HNI.out;omega);have e2:ks'.drop j=[]:=List.drop_eq_nil_of_le (by have:=HNI.out;omega);rw [e1,e2] at hs;have hR:V=true:=by rw [← hs];unfold It.sames;rfl
   subst hR;have hjz:¬ (j:Int) < (ni:Int):=by omega
   have HBl:=dh hBl;clear hjn e1 e2 hs hBl;go_wp2_with fail
   go_ret
   exact ⟨rfl,hB ▸ HP.out.trans (HBl.out.mono (by have:=HP.out.size;omega))⟩
theorem same_rec:∀ m,SameC m
 | 0=>fun x _ _ _ _ _ _ hm _ _=>by have:=It.nodes_pos x;omega
 | m + 1=>fun x y A C w ok ok' hm hI hI'=>by
   cases x with
   | mk k n b ks=>
     cases y with
     | mk k' n' b' ks'=>
       have hnn:It.nodes (.mk k n b ks)=1 + It.nodesL ks:=rfl;exact same_one k n b ks _ _ _ _ _ _ n rfl k' n' b' ks' _ _ _ _ _ _ n' rfl w ok ok' hI.br hI.tl hI'.br hI'.tl fun j hj y A' C' W h1 h2=>same_rec m ks[j] y A' C' W ok ok' (by have:=It.nodes_mem (List.getElem_mem hj);omega) h1 h2
theorem same_any (x y:It) (A C:Ad) (w:World) (ok ok':Nat→Prop) (hI:IR ok w x A) (hI':IR ok' w y C):Calls Tryz.prog 30 #[.agg #[.int .i64 x.kind,.int .u64 (x.num:Int),.slice A.ab A.nb A.cb,.slice A.ai A.ni A.ci],.agg #[.int .i64 y.kind,.int .u64 (y.num:Int),.slice C.ab C.nb C.cb,.slice C.ai C.ni C.ci]] w (VP (It.same x y) w):=
 same_rec _ x y A C w ok ok' (Nat.le_refl _) hI hI'
def FP (r:Option It) (w:World) (e:Ending) (w':World):Prop:=match r with
 | .none=>e=.returned (.tuple #[.agg #[.int .i64 0,.int .u64 0,.slice none 0 0,.slice none 0 0],.bool false])∧Below w.heap.size w w'
 | some z=>∃ Z:Ad,e=.returned (.tuple #[.agg #[.int .i64 z.kind,.int .u64 (z.num:Int),.slice Z.ab Z.nb Z.cb,.slice Z.ai Z.ni Z.ci],.bool true])∧IR (fun b=>w.heap.size≤b) w' z Z∧Below w.heap.size w w'
theorem cfind_any (m q:It) (A K:Ad) (w:World) (ok ok':Nat→Prop) (hI:IR ok w m A) (hQ:IR ok' w q K) (hE:Env w):
 Calls Tryz.prog 63 #[.agg #[.int .i64 m.kind,.int .u64 (m.num:Int),.slice A.ab A.nb A.cb,.slice A.ai A.ni A.ci],.agg #[.int .i64 q.kind,.int .u64 (q.num:Int),.slice K.ab K.nb K.cb,.slice K.ai K.ni K.ci]] w (FP (It.findP m q) w):=by
 obtain ⟨P0,N0⟩:=an w (o4 m A);obtain ⟨P1,N1⟩:=an (w.alloc (o4 m A)) (o4 q K);obtain ⟨P2,N2⟩:=an ((w.alloc (o4 m A)).alloc (o4 q K)) o4z;have hsz0:(w.alloc (o4 m A)).heap.size=w.heap.size + 1:=by simp
 have hsz1:((w.alloc (o4 m A)).alloc (o4 q K)).heap.size=w.heap.size + 2:=by simp
 rw [hsz0] at N1;rw [hsz1] at N2;have HX1:=dh (bkp P2 (bkp P1 N0 (lb N0)) (lb (bkp P1 N0 (lb N0))));have HY1:=dh (bkp P2 N1 (lb N1));have HR1:=dh N2;have HP1:=dh (pt (pt P0 P1) P2);have HI1:=dh (((hI.below P0).below P1).below P2);have HQ1:=dh (((hQ.below P0).below P1).below P2);have HE1:=dh (((hE.below P0).below P1).below P2);obtain ⟨x0,x1,x2,x3⟩:=cf HX1.out;obtain ⟨y0,y1,y2,y3⟩:=cf HY1.out;clear hI hQ hE N0 N1 N2 P0 P1 P2 hsz0 hsz1;obtain ⟨R,hRR⟩:∃ R,It.findP m q=R:=⟨_,rfl⟩;rw [hRR];have HRR:=dh hRR;clear hRR;go_enter Tryz.func63,Tryz.ntmps63
 go_upto_region 1 with fail
 generalize ((w.alloc (o4 m A)).alloc (o4 q K)).alloc o4z=w1 at *;generalize hB:w.heap.size=B at *;by_cases hk:m.kind=5
 case neg=>
  have hkb:(m.kind !=5)=true:=by simpa using hk
  have HN9:Hid (R=.none):=dh (HRR.out.symm.trans (if_neg (fun h=>hk h.1)));have r:=cf HR1.out;have f:=ff HR1.out;go_wp2_with fail
  clear r f;obtain ⟨W',hW',hp4,hs4,hb4⟩:=pq0 (W:=w1) (b:=B + 2) (HR1.out);rw [hW'];clear hW';obtain ⟨g0,g1,g2,g3⟩:=cf hp4;refine bodyPost_ret (v:=.tuple #[vz,.bool false]) (by simp [vz,results,Tryz.results63,go_sem,g0,g1,g2,g3]) rfl ?_;rw [HN9.out];exact ⟨rfl,by rw [hB];exact hb4 B w HP1.out (by omega)⟩
 have hkb:(m.kind !=5)=false:=by simpa using hk
 have HK:=dh hk;clear hk;cases hv:It.valid m with
 | false=>
   have HC:=dh (cva m A w1 _ HI1.out HE1.out false hv);go_wp2_with fail
   refine HC.out.mono ?_;rintro e w2 ⟨rfl,B2⟩;have HX2:=kp B2 HX1;have HY2:=kp B2 HY1;have HR2:=kp B2 HR1;have HI2:=dh (HI1.out.below B2);have HQ2:=dh (HQ1.out.below B2);have HE2:=dh (HE1.out.below B2);have HP2:=dh (HP1.out.trans (B2.mono (by have:=HP1.out.size;omega)));clear B2 HX1 HY1 HR1 HI1 HQ1 HE1 HP1 x0 x1 x2 x3 y0 y1 y2 y3;obtain ⟨x0,x1,x2,x3⟩:=cf HX2.out;obtain ⟨y0,y1,y2,y3⟩:=cf HY2.out;clear HC;have HN9:Hid (R=.none):=dh (HRR.out.symm.trans (if_neg (fun h=>by rw [hv] at h;cases h.2)));have r:=cf HR2.out;have f:=ff HR2.out;go_wp2_with fail
   clear r f;obtain ⟨W',hW',hp4,hs4,hb4⟩:=pq0 (W:=w2) (b:=B + 2) (HR2.out);rw [hW'];clear hW';obtain ⟨g0,g1,g2,g3⟩:=cf hp4;refine bodyPost_ret (v:=.tuple #[vz,.bool false]) (by simp [vz,results,Tryz.results63,go_sem,g0,g1,g2,g3]) rfl ?_;rw [HN9.out];exact ⟨rfl,by rw [hB];exact hb4 B w HP2.out (by omega)⟩
 | true=>
   have HC:=dh (cva m A w1 _ HI1.out HE1.out true hv);go_wp2_with fail
   refine HC.out.mono ?_;rintro e w2 ⟨rfl,B2⟩;have HX2:=kp B2 HX1;have HY2:=kp B2 HY1;have HR2:=kp B2 HR1;have HI2:=dh (HI1.out.below B2);have HQ2:=dh (HQ1.out.below B2);have HE2:=dh (HE1.out.below B2);have HP2:=dh (HP1.out.trans (B2.mono (by have:=HP1.out.size;omega)));clear B2 HX1 HY1 HR1 HI1 HQ1 HE1 HP1 x0 x1 x2 x3 y0 y1 y2 y3;obtain ⟨x0,x1,x2,x3⟩:=cf HX2.out;obtain ⟨y0,y1,y2,y3⟩:=cf HY2.out;clear HC;cases hvq:It.valid q with
   | false=>
     have HC:=dh (cva q K w2 _ HQ2.out HE2.out false hvq);go_wp2_with fail
     refine HC.out.mono ?_;rintro e w3 ⟨rfl,B3⟩;have HX3:=kp B3 HX2;have HY3:=kp B3 HY2;have HR3:=kp B3 HR2;have HI3:=dh (HI2.out.below B3);have HQ3:=dh (HQ2.out.below B3);have HE3:=dh (HE2.out.below B3);have HP3:=dh (HP2.out.trans (B3.mono (by have:=HP2.out.size;omega)));clear B3 HX2 HY2 HR2 HI2 HQ2 HE2 HP2 x0 x1 x2 x3 y0 y1 y2 y3;obtain ⟨x0,x1,x2,x3⟩:=cf HX3.out;obtain ⟨y0,y1,y2,y3⟩:=cf HY3.out;clear HC;have HN9:Hid (R=.none):=dh (HRR.out.symm.trans ((if_pos ⟨HK.out,hv⟩).trans (It.look_bad (fun y hy=>It.valid_kid hv hy) hvq)));have r:=cf HR3.out;have f:=ff HR3.out;go_wp2_with fail
     clear r f;obtain ⟨W',hW',hp4,hs4,hb4⟩:=pq0 (W:=w3) (b:=B + 2) (HR3.out);rw [hW'];clear hW';obtain ⟨g0,g1,g2,g3⟩:=cf hp4;refine bodyPost_ret (v:=.tuple #[vz,.bool false]) (by simp [vz,results,Tryz.results63,go_sem,g0,g1,g2,g3]) rfl ?_;rw [HN9.out];exact ⟨rfl,by rw [hB];exact hb4 B w HP3.out (by omega)⟩
   | true=>
     have HC:=dh (cva q K w2 _ HQ2.out HE2.out true hvq);go_wp2_with fail
     refine HC.out.mono ?_;rintro e w3 ⟨rfl,B3⟩;have HX3:=kp B3 HX2;have HY3:=kp B3 HY2;have HR3:=kp B3 HR2;have HI3:=dh (HI2.out.below B3);have HQ3:=dh (HQ2.out.below B3);have HE3:=dh (HE2.out.below B3);have HP3:=dh (HP2.out.trans (B3.mono (by have:=HP2.out.size;omega)));clear B3 HX2 HY2 HR2 HI2 HQ2 HE2 HP2 x0 x1 x2 x3 y0 y1 y2 y3;obtain ⟨x0,x1,x2,x3⟩:=cf HX3.out;obtain ⟨y0,y1,y2,y3⟩:=cf HY3.out;clear HC;have hvw:=valid_wf hvq;have HC:=dh (add_new hvw.1 HQ3.out (by omega) w3 (Below.refl _ _));clear hvw;go_wp2_with fail
     refine HC.out.mono ?_;rintro e w4 h4;obtain ⟨a4,c4,rfl,_,R4,_,_,B4⟩:=h4.open;have HK4:=dh (R4.imp (ok':=fun _=>True) fun _ _ _=>trivial);have HX4:=kp B4 HX3;have HY4:=kp B4 HY3;have HR4:=kp B4 HR3;have HI4:=dh (HI3.out.below B4);have HQ4:=dh (HQ3.out.below B4);have HE4:=dh (HE3.out.below B4);have HP4:=dh (HP3.out.trans (B4.mono (by have:=HP3.out.size;omega)));clear B4 HX3 HY3 HR3 HI3 HQ3 HE3 HP3 x0 x1 x2 x3 y0 y1 y2 y3;obtain ⟨x0,x1,x2,x3⟩:=cf HX4.out;obtain ⟨y0,y1,y2,y3⟩:=cf HY4.out;clear HC R4 h4;obtain ⟨KL,hKL⟩:∃ KL,KL=(It.enc q).length:=⟨_,rfl⟩;rw [← hKL] at HK4;rw [← hKL];clear hKL;have HL:Hid (It.look m.kids q=R):=dh ((if_pos ⟨HK.out,hv⟩).symm.trans HRR.out);have HEV:=dh (It.mev hv HK.out);have HTL:=dh HI4.out.tl;have HNI:Hid (A.ni=m.kids.length):=dh HTL.out.1;have hni:=HEV.out.2;rw [← HNI.out] at hni;have HV:=dh (And.intro hv hvq);clear hv hvq HRR;go_wp2_with fail
     go_loopw [7] (fun i W=>∃ t:Nat,i=.int .i64 ((2 * t:Nat):Int)∧2 * t≤A.ni∧It.look (m.kids.drop (2 * t)) q=R∧Below w4.heap.size w4 W) (fun i _=>A.ni - (intOf i).toNat)
     case atStart=>exact ⟨0,rfl,by omega,by simpa using HL.out,Below.refl _ _⟩
     case round=>
      obtain ⟨u,hu⟩:∃ u,u=wr:=⟨_,rfl⟩;subst hu;obtain ⟨t,rfl,ht,hlk,hBl⟩:=hrel;obtain ⟨T,hT⟩:∃ T,T=2 * t:=⟨_,rfl⟩;rw [← hT] at hlk ht ⊢;have HT:=dh hT;clear hT;have hx3:u.cell? ⟨B,3,none⟩=some (.slice A.ai A.ni A.ci):=(hBl.cell (p:=⟨B,3,none⟩) (lb HX4.out)).trans x3;by_cases hTn:T < A.ni
      ·have hTm:T + 1 < m.kids.length:=by have:=HEV.out.1;have:=HNI.out;have:=HT.out;omega
       rw [It.drop_two hTm] at hlk;unfold It.look at hlk;have hT1:=(HTL.out.below hBl).2.2 T (by omega);have hT2:=(HTL.out.below hBl).2.2 (T + 1) hTm;have hvp:It.valid m.kids[T]=true:=It.valid_kid HV.out.1 (List.getElem_mem _);have hvz:It.valid m.kids[T + 1]=true:=It.valid_kid HV.out.1 (List.getElem_mem _);have hz:(T:Int) < (A.ni:Int):=by omega
       have hcm:(A.ni:Int)≤256:=by omega
       have hw1:IntKind.i64.wrap ((T:Int) + 1)=((T + 1:Nat):Int):=by rw [IntWalk.i64_in _ (by omega)];omega
       have hw2:IntKind.i64.wrap ((T:Int) + 2)=((T + 2:Nat):Int):=by rw [IntWalk.i64_in _ (by omega)];omega
       generalize m.kids[T]=p at *;generalize m.kids[T + 1]=z at *;obtain ⟨b1,o1,X,e1,_,⟨c0,c1,c2,c3⟩,hIx⟩:=hT1;obtain ⟨b2,o2,Y,e2,_,⟨d0,d1,d2,d3⟩,hIy⟩:=hT2;rw [e1] at e2;cases e2
       rw [e1] at hx3;clear e1;have hvw:=valid_wf hvp;have HC:=dh (add_new hvw.1 hIx (by omega) u (Below.refl _ _));clear hvw;have HBl:=dh hBl;have HLK:=dh hlk;have HIY:=dh hIy;have hTc:T + 1 < A.ni:=by have:=HNI.out;omega
       have hzc:((T + 1:Nat):Int) < (A.ni:Int):=by omega
       clear hBl hlk hIx hIy;go_wp2_with fail
       refine HC.out.mono ?_;rintro e w5 h5;obtain ⟨a5,c5,rfl,_,R5,_,_,B5⟩:=h5.open;have HC5:=dh (equal_any (c:=c5) (d:=c4) R5 (HK4.out.below (pt HBl.out B5)));have HSE:=dh (It.same_enc hvp HV.out.2);rw [HSE.out] at HC5;have HB5:=dh (pt HBl.out B5);have HIY5:=dh (HIY.out.below B5);have hx3':=(B5.cell (p:=⟨B,3,none⟩) (lg hx3)).trans hx3;have g0:=(B5.cell (p:=⟨b1,o1 + (T + 1) * 4,none⟩) (lg d0)).trans d0;have g1:=(B5.cell (p:=⟨b1,o1 + (T + 1) * 4 + 1,none⟩) (lg d1)).trans d1;have g2:=(B5.cell (p:=⟨b1,o1 + (T + 1) * 4 + 2,none⟩) (lg d2)).trans d2;have g3:=(B5.cell (p:=⟨b1,o1 + (T + 1) * 4 + 3,none⟩) (lg d3)).trans d3;have hss:=HLK.out;clear hx3 c0 c1 c2 c3 d0 d1 d2 d3 R5 B5 h5 HC HLK HIY HBl HSE;generalize (It.enc p).length=PL at *;go_wp2_with fail
       refine HC5.out.mono ?_;rintro e w' ⟨rfl,rfl⟩;cases hs:It.same p q with
       | true=>
         rw [if_pos hs] at hss;subst hss;have hzw:=valid_wf hvz;have HC6:=dh (cpd_any 256 z Y w5 _ hzw.2.2 (by omega) (It.st_of hzw.1 hzw.2.1) HIY5.out);clear hzw hs;go_wp2_with fail
         refine HC6.out.mono ?_;rintro e w6 ⟨Z,rfl,hI6,B6⟩;have HR6:=kp (pt HB5.out B6) HR4;have hp4:=HP4.out.size;have hp5:=HB5.out.size;have hr4:=lb HR4.out;have HP6:=dh (HP4.out.trans ((pt HB5.out B6).mono (by have:=HP4.out.size;omega)));have HI6:=dh (hI6.imp (ok':=fun b=>B + 3≤b) fun b hb _=>by omega);clear hI6 B6 g0 g1 g2 g3 hx3';have r:=cf HR6.out;have f:=ff HR6.out;go_wp2_with fail
         clear r f;obtain ⟨W',hW',hp4,hs4,hb4⟩:=p4I (W:=w6) (b:=B + 2) (HR6.out) z Z;rw [hW'];clear hW';obtain ⟨g0,g1,g2,g3⟩:=cf hp4;refine bodyPost_ret (v:=.tuple #[(v4 z Z),.bool true]) (by simp [v4,results,Tryz.results63,go_sem,g0,g1,g2,g3]) rfl ?_;exact ⟨Z,rfl,HI6.out.keep fun b hb _=>⟨hs4.2 b (by omega),by omega⟩,by rw [hB];exact hb4 B w HP6.out (by omega)⟩
       | false=>
         rw [if_neg (by rw [hs];decide)] at hss;have HSS:=dh hss;clear hs hss g0 g1 g2 g3 hx3';go_wp2_with fail
         go_roundw
         case rel=>exact ⟨t + 1,by have:=HT.out;subst this;go_num,by have:=HT.out;omega,by have:=HT.out;subst this;exact HSS.out,HB5.out⟩
         case measure=>simp [intOf];omega
      ·have hTe:m.kids.drop T=[]:=List.drop_eq_nil_of_le (by have:=HNI.out;omega)
       rw [hTe] at hlk;unfold It.look at hlk;subst hlk;have hz:¬ (T:Int) < (A.ni:Int):=by omega
       have HR6:=kp hBl HR4;have HP6:=dh (HP4.out.trans (hBl.mono (by have:=HP4.out.size;omega)));clear hBl hTe;have r:=cf HR6.out;have f:=ff HR6.out;go_wp2_with fail
       clear r f;obtain ⟨W',hW',hp4,hs4,hb4⟩:=pq0 (W:=u) (b:=B + 2) (HR6.out);rw [hW'];clear hW';obtain ⟨g0,g1,g2,g3⟩:=cf hp4;refine bodyPost_ret (v:=.tuple #[vz,.bool false]) (by simp [vz,results,Tryz.results63,go_sem,g0,g1,g2,g3]) rfl ?_;exact ⟨rfl,by rw [hB];exact hb4 B w HP6.out (by omega)⟩
theorem cint_pos (n:Int) (h0:n≤9223372036854775807) (h:¬ n < 0) (w:World):Calls Tryz.prog 69 #[.int .i64 n] w fun e w'=>e=.returned (.agg #[.int .i64 0,.int .u64 n,.slice none 0 0,.slice none 0 0])∧Below w.heap.size w w':=by
 have P0:=al w o4z;have HN:=dh (aw w o4z);have HP:=dh P0;clear P0;go_enter Tryz.func69,Tryz.ntmps69
 go_upto_region 1 with fail
 generalize w.alloc _=w1 at *;generalize hB:w.heap.size=B at *;go_wp2_with fail
 refine (cuint_any n w1).mono ?_;rintro e w2 ⟨rfl,B2⟩;have HN2:=kp B2 HN;have HP2:=dh (HP.out.trans (B2.mono (by have:=HP.out.size;omega)));clear B2;have r:=cf HN2.out;have q:=ff HN2.out;go_wp2_with fail
 clear r q;obtain ⟨W',hW',hp4,hs4,hb4⟩:=pq (W:=w2) (b:=B) (HN2.out) (.int .i64 0) (.int .u64 n) (.slice none 0 0) (.slice none 0 0);rw [hW'];clear hW';obtain ⟨g0,g1,g2,g3⟩:=cf hp4;refine bodyPost_ret (v:=.agg #[.int .i64 0,.int .u64 n,.slice none 0 0,.slice none 0 0]) (by simp [results,Tryz.results69,go_sem,g0,g1,g2,g3]) rfl ?_;exact ⟨rfl,by rw [hB];exact hb4 B w HP2.out (by omega)⟩
theorem cint_any (n:Int) (h0: -9223372036854775808≤n) (h1:n≤9223372036854775807) (w:World):Calls Tryz.prog 69 #[.int .i64 n] w (IP (intIt n) w):=by
 by_cases h:n < 0
 ·refine (cint_neg n h0 h w).mono ?_
  rintro e w' ⟨rfl,hB⟩;refine ⟨⟨none,0,0,none,0,0⟩,?_,?_,hB⟩
  ·unfold intIt;rw [if_pos h];simp only [It.kind,It.num];rw [Int.toNat_of_nonneg (by omega)]
  ·unfold intIt;rw [if_pos h];exact IR.flat _ _ (by omega)
 ·refine (cint_pos n h1 h w).mono ?_
  rintro e w' ⟨rfl,hB⟩;refine ⟨⟨none,0,0,none,0,0⟩,?_,?_,hB⟩
  ·unfold intIt;rw [if_neg h];simp only [It.kind,It.num];rw [Int.toNat_of_nonneg (by omega)]
  ·unfold intIt;rw [if_neg h];exact IR.flat _ _ (by omega)
theorem rlist_any (l:List It) (a:Option Addr) (n c:Nat) (w:World) (ok:Nat→Prop) (hT:TL ok w l a n) (hc:n≤c) (hcm:c≤9223372036854775807) (hn:It.nodesL l≤90000) (hs:It.sts l=true):
 Calls Tryz.prog 74 #[.slice a n c] w (IP (.mk 4 0 [] l) w):=by
 have P0:=al w o4z;have HN:=dh (aw w o4z);have hI:IR ok (w.alloc o4z) (.mk 4 0 [] l) ⟨none,0,0,a,n,c⟩:=IR_iff.2 ⟨by show 0 < _;omega,⟨BR.nil _ _ _,by simp,by simp⟩,hT.below P0,hc,hcm⟩;have HC:=dh (copy_any 100000 (.mk 4 0 [] l) ⟨none,0,0,a,n,c⟩ _ ok (by show 1 + It.nodesL l≤_;omega) (by omega) (by unfold It.st;simp [hs]) hI);have HP:=dh P0;have hw:(w.alloc o4z).heap.size=w.heap.size + 1:=by simp
 have HW:=dh hw;simp only [It.kind,It.num] at HC;clear P0 hT hI hw;go_enter Tryz.func74,Tryz.ntmps74
 go_upto_region 1 with fail
 generalize w.alloc _=w1 at *;generalize hB:w.heap.size=B at *;go_wp2_with fail
 refine HC.out.mono ?_;rintro e W4 h4;obtain ⟨Z,rfl,hI4,B4⟩:=h4.ir (by show 0 < _;omega);simp only [It.kind,It.num];have HI4:=dh hI4;have HN4:=kp B4 HN;have HB4:=dh (HP.out.trans (B4.mono (by have:=HP.out.size;omega)));have hsw:=HW.out;clear hI4 B4 h4 HC;have r:=cf HN4.out;have q:=ff HN4.out;go_wp2_with fail
 clear r q;obtain ⟨W',hW',hp4,hs4,hb4⟩:=pq (W:=W4) (b:=B) (HN4.out) (.int .i64 4) (.int .u64 0) (.slice Z.ab Z.nb Z.cb) (.slice Z.ai Z.ni Z.ci);rw [hW'];clear hW';obtain ⟨g0,g1,g2,g3⟩:=cf hp4;refine bodyPost_ret (v:=.agg #[.int .i64 4,.int .u64 0,.slice Z.ab Z.nb Z.cb,.slice Z.ai Z.ni Z.ci]) (by simp [results,Tryz.results74,go_sem,g0,g1,g2,g3]) rfl ?_;exact ⟨Z,rfl,HI4.out.keep fun b hb _=>⟨hs4.2 b (by omega),by omega⟩,by rw [hB];exact hb4 B w HB4.out (by omega)⟩
def RB (w w':World):Prop:=Below w.heap.size w w'
theorem RB.refl (w:World):RB w w:=Below.refl _ _
theorem RB.trans (u v w:World) (h:RB u v) (k:RB v w):RB u w:=pt h k
theorem RB.drew (w:World):RB w w.drew:=(Below.refl _ _).drew
inductive Fq where
 | eq (v:Value)
 | it (x:It)
 | rw (l:List It)
 | any
def Fq.holds:Fq→Value→World→Prop
 | .eq v0,v,_=>v=v0
 | .it x,v,w=>∃ A:Ad,v=.agg #[.int .i64 x.kind,.int .u64 (x.num:Int),.slice A.ab A.nb A.cb,.slice A.ai A.ni A.ci]∧IR (fun _=>True) w x A
 | .rw l,v,w=>∃ (a:Option Addr) (c:Nat),v=.slice a l.length c∧TL (fun _=>True) w l a l.length∧l.length≤c∧c≤9223372036854775807
 | .any,_,_=>True
theorem Fq.stable (f:Fq) (v:Value) (w w':World) (h:RB w w') (hf:f.holds v w):f.holds v w':=by
 cases f with
 | eq v0=>exact hf
 | it x=>
   obtain ⟨A,e,hI⟩:=hf;exact ⟨A,e,hI.below h⟩
 | rw l=>
   obtain ⟨a,c,e,hT,hc⟩:=hf;exact ⟨a,c,e,hT.below h,hc⟩
 | any=>trivial
def EndQ (w:World) (f:Fq) (e:Ending) (w':World):Prop:=∃ v,e=.returned v∧RB w w'∧True∧f.holds v w'
theorem EndQ.ip {x:It} {w:World} {e:Ending} {w':World} (h:IP x w e w'):EndQ w (.it x) e w':=by
 obtain ⟨A,rfl,hI,hB⟩:=h;exact ⟨_,rfl,hB,trivial,A,rfl,hI.imp fun _ _ _=>trivial⟩
theorem EndQ.bool {b:Bool} {w:World} {e:Ending} {w':World} (h:e=.returned (.bool b)∧Below w.heap.size w w'):EndQ w (.eq (.bool b)) e w':=⟨_,h.1,h.2,trivial,rfl⟩
theorem run_row1 (k0 N0:Int) (ab0 ai0:Option Addr) (nb0 cb0 ni0 ci0:Nat) (w:World):(Instr.buildSlice 24 1 #[(0,.agg #[.int .i64 k0,.int .u64 N0,.slice ab0 nb0 cb0,.slice ai0 ni0 ci0])]).run Tryz.prog w=.ok (.slice (some ⟨w.heap.size,0,none⟩) 1 1) (w.alloc (.cells #[.int .i64 k0,.int .u64 N0,.slice ab0 nb0 cb0,.slice ai0 ni0 ci0] 26)):=by
 go_simp
theorem run_row2 (k0 N0:Int) (ab0 ai0:Option Addr) (nb0 cb0 ni0 ci0:Nat) (k1 N1:Int) (ab1 ai1:Option Addr) (nb1 cb1 ni1 ci1:Nat) (w:World):(Instr.buildSlice 24 2 #[(0,.agg #[.int .i64 k0,.int .u64 N0,.slice ab0 nb0 cb0,.slice ai0 ni0 ci0]),(1,.agg #[.int .i64 k1,.int .u64 N1,.slice ab1 nb1 cb1,.slice ai1 ni1 ci1])]).run Tryz.prog w=.ok (.slice (some ⟨w.heap.size,0,none⟩) 2 2) (w.alloc (.cells #[.int .i64 k0,.int .u64 N0,.slice ab0 nb0 cb0,.slice ai0 ni0 ci0,.int .i64 k1,.int .u64 N1,.slice ab1 nb1 cb1,.slice ai1 ni1 ci1] 26)):=by
 go_simp
section ops
variable {o:Oper} {ρ:Operand→Value} {w:World}
theorem does_val {v:Value} (h:(execOp ρ o).run Tryz.prog w=.ok (.value v) w):Rg.Does Tryz.prog o ρ w fun v' w'=>RB w w'∧True∧(Fq.eq v).holds v' w':=Rg.Does.value h ⟨RB.refl _,trivial,rfl⟩
theorem does_not (x:Operand) (b:Bool) (ho:o.op=.unOp .not 4 x) (hx:ρ x=.bool b):Rg.Does Tryz.prog o ρ w fun v' w'=>RB w w'∧True∧(Fq.eq (.bool (!b))).holds v' w':=by
 refine does_val ?_;simp only [execOp,ho,hx];go_simp
theorem df3 (x:Operand) (b:Nat) (ho:o.op=.fieldAddr 26 x 3) (hx:ρ x=.pointer (some ⟨b,0,none⟩)):Rg.Does Tryz.prog o ρ w fun v' w'=>RB w w'∧True∧(Fq.eq (.pointer (some ⟨b,3,none⟩))).holds v' w':=by
 refine does_val ?_;simp only [execOp,ho,hx];go_simp
theorem dl24 (x:Operand) (b q:Nat) (a:Option Addr) (n c:Nat) (ho:o.op=.load 24 x) (hx:ρ x=.pointer (some ⟨b,q,none⟩)) (hc:w.cell? ⟨b,q,none⟩=some (.slice a n c)):Rg.Does Tryz.prog o ρ w fun v' w'=>RB w w'∧True∧(Fq.eq (.slice a n c)).holds v' w':=by
 refine does_val ?_;simp only [execOp,ho,hx];go_simp
theorem di24 (x y:Operand) (b q n c j:Nat) (hj:j < n) (ho:o.op=.indexAddr 24 x y) (hx:ρ x=.slice (some ⟨b,q,none⟩) n c) (hy:ρ y=.int .i64 j):Rg.Does Tryz.prog o ρ w fun v' w'=>RB w w'∧True∧(Fq.eq (.pointer (some ⟨b,q + j * 4,none⟩))).holds v' w':=by
 refine does_val ?_;have hlt:(j:Int) < n:=by omega
 simp only [execOp,ho,hx,hy];go_simp
theorem does_add3 (x y:Operand) (a b c:Int) (ho:o.op=.binOp .add 3 x y 3) (hx:ρ x=.int .i64 a) (hy:ρ y=.int .i64 b) (h:a + b=c) (h1: -9223372036854775808≤c) (h2:c≤9223372036854775807):Rg.Does Tryz.prog o ρ w fun v' w'=>RB w w'∧True∧(Fq.eq (.int .i64 c)).holds v' w':=by
 refine does_val ?_;have hw:IntKind.i64.wrap (a + b)=c:=by rw [h];exact IntWalk.i64_in _ ⟨h1,h2⟩
 clear h;simp only [execOp,ho,hx,hy];go_simp
theorem does_eql3 (x y:Operand) (a b:Int) (r:Bool) (ho:o.op=.binOp .eql 3 x y 3) (hx:ρ x=.int .i64 a) (hy:ρ y=.int .i64 b) (h:(a==b)=r):Rg.Does Tryz.prog o ρ w fun v' w'=>RB w w'∧True∧(Fq.eq (.bool r)).holds v' w':=by
 refine does_val ?_;simp only [execOp,ho,hx,hy];go_simp
theorem does_gtr3 (x y:Operand) (a b:Int) (r:Bool) (ho:o.op=.binOp .gtr 3 x y 3) (hx:ρ x=.int .i64 a) (hy:ρ y=.int .i64 b) (h:decide (b < a)=r):Rg.Does Tryz.prog o ρ w fun v' w'=>RB w w'∧True∧(Fq.eq (.bool r)).holds v' w':=by
 refine does_val ?_;simp only [execOp,ho,hx,hy];go_simp
end ops
theorem OutI.two {w:World} {b base:Nat} {Q:Nat→Prop} {e f:It × Ad} (h:w.heap[b]?=some (.cells #[.int .i64 e.1.kind,.int .u64 (e.1.num:Int),.slice e.2.ab e.2.nb e.2.cb,.slice e.2.ai e.2.ni e.2.ci,.int .i64 f.1.kind,.int .u64 (f.1.num:Int),.slice f.2.ab f.2.nb f.2.cb,.slice f.2.ai f.2.ni f.2.ci] 26 (0,0))) (hb:base≤b)
 (he:IR (fun q=>Q q∧q≠b) w e.1 e.2) (hf:IR (fun q=>Q q∧q≠b) w f.1 f.2):OutI w base Q (.slice (some ⟨b,0,none⟩) 2 2) [e,f]:=by
 refine ⟨⟨rfl,.inr ⟨b,2,_,rfl,hb,h,Nat.le_refl _,by unfold maxLen;omega,rfl,rfl⟩⟩,fun x hx=>?_⟩;have hq:∀ q,Q q∧q≠b→okQ Q (.slice (some ⟨b,0,none⟩) 2 2) q:=fun q h=>⟨h.1,fun e=>h.2 (Option.some.inj e).symm⟩
 simp only [List.mem_cons,List.not_mem_nil,or_false] at hx;rcases hx with rfl | rfl
 ·exact he.imp fun q h _=>hq q h
 ·exact hf.imp fun q h _=>hq q h
theorem BPost.out (r:It.MR):∃ (x:It) (k:Int),∀ w e w',BPost r w e w'→∃ A:Ad,e=.returned (.tuple #[.agg #[.int .i64 x.kind,.int .u64 (x.num:Int),.slice A.ab A.nb A.cb,.slice A.ai A.ni A.ci],.int .i64 k])∧IR (fun _=>True) w' x A∧Below w.heap.size w w':=by
 cases r with
 | err n=>exact ⟨.mk 0 0 [] [],n,fun w e w' h=>⟨⟨none,0,0,none,0,0⟩,h.1,IR.flat _ _ (by omega),h.2⟩⟩
 | ok x=>
   refine ⟨x,0,fun w e w' h=>?_⟩;obtain ⟨A,h1,h2,h3⟩:=h;exact ⟨A,h1,h2.imp fun _ _ _=>trivial,h3⟩
theorem DW.pure {w u:World} {o:Obj} (h:DW w.heap.size (w.alloc o) u):Below w.heap.size w u:=by
 have P:=al w o;exact ⟨h.but.os.trans P.os,h.but.tape.trans P.tape,h.but.output.trans P.output,Nat.le_trans P.size h.but.size,fun k hk=>(h.but.block k (Nat.lt_of_lt_of_le hk P.size) (by omega)).trans (P.block k hk)⟩
