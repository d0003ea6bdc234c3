/- Headers: Protected, Same, Copy, Get, Alg. -/
import Derived.Test.YtelefkkkccilaaaGreatDoorSh
set_option maxHeartbeats 8000000
set_option linter.all false
namespace Go.Proofs.YtelefkkkccilaaaGreatDoor
open Go.RowKit
set_option maxRecDepth 100000
namespace It
def protL (p u:It):List UInt8:=if hvalid p u=true then (if p.kids.length=0 then [] else enc p) else []
def protE (p u:It):Nat:=if hvalid p u=true then 0 else 1
end It
def PrP (p u:It) (w:World) (e:Ending) (w':World):Prop:=∃ v,e=.returned (.tuple #[v,.int .i64 (It.protE p u:Int)])∧OwnB w' w.heap.size v (It.protL p u)∧Below w.heap.size w w'
theorem rhv_any (p u:It) (A C:Ad) (w:World) (ok ok':Nat→Prop) (hI:IR ok w p A) (hJ:IR ok' w u C) (hE:Env w):Calls Tryz.prog 21 #[.agg #[.int .i64 p.kind,.int .u64 (p.num:Int),.slice A.ab A.nb A.cb,.slice A.ai A.ni A.ci,.int .i64 u.kind,.int .u64 (u.num:Int),.slice C.ab C.nb C.cb,.slice C.ai C.ni C.ci]] w (VP (It.hvalid p u) w):=by
 rw [It.hvalid_eq];exact rhvalid_any p u A C w ok ok' hI hJ hE
theorem ep_valid {x:It} {w:World} {e:Ending} {w':World} (h:EP x w e w') (hv:It.valid x=true):∃ v,e=.returned (.tuple #[v,.int .i64 0])∧OwnB w' w.heap.size v (It.enc x)∧Below w.heap.size w w':=by
 obtain ⟨v,he,hO,hB⟩:=h;rw [if_pos hv] at he hO;exact ⟨v,he,hO,hB⟩
theorem copy_valid {x:It} (A:Ad) (w:World) (ok:Nat→Prop) (hv:It.valid x=true) (hI:IR ok w x A):Calls Tryz.prog 94 #[.agg #[.int .i64 x.kind,.int .u64 (x.num:Int),.slice A.ab A.nb A.cb,.slice A.ai A.ni A.ci]] w (IP x w):=by
 have hw:=It.valid_wf8 hv;have hs:(It.enc x).length≤4096∧It.nodes x≤256:=by
  unfold It.valid at hv;simp only [Bool.and_eq_true,decide_eq_true_eq] at hv;exact ⟨hv.2,hv.1.2⟩
 exact (copy_any 256 x A w ok hs.2 (by omega) (It.st_of hw hs.1) hI).mono fun _ _ h=>h.ir hI.num
theorem hprot_any (p u:It) (A C:Ad) (w:World) (ok ok':Nat→Prop) (hI:IR ok w p A) (hJ:IR ok' w u C) (hE:Env w):Calls Tryz.prog 18 #[.agg #[.int .i64 p.kind,.int .u64 (p.num:Int),.slice A.ab A.nb A.cb,.slice A.ai A.ni A.ci,.int .i64 u.kind,.int .u64 (u.num:Int),.slice C.ab C.nb C.cb,.slice C.ai C.ni C.ci]] w (PrP p u w):=by
 obtain ⟨P0,N0⟩:=an w (o8 p u A C);have HX:=dh N0;have HP:=dh P0;have HI:=dh (((hI.imp (ok':=fun b=>b < w.heap.size) fun b _ hb=>hb).below P0));have HJ:=dh (((hJ.imp (ok':=fun b=>b < w.heap.size) fun b _ hb=>hb).below P0));have HE:=dh ((hE.below P0));clear hI hJ hE;go_enter Tryz.func18,Tryz.ntmps18
 go_upto_region 1 with fail
 clear P0 N0;generalize (w.alloc (o8 p u A C))=w1 at *;generalize hB:w.heap.size=B at *;have x:=ce HX.out;cases hv:It.hvalid p u with
 | false=>
   have HC:=dh (hva p u A C w1 _ _ HI.out HJ.out HE.out);rw [hv] at HC;have HEE:Hid (It.protE p u=1∧It.protL p u=[]):=dh (by unfold It.protE It.protL;rw [if_neg (by rw [hv];decide),if_neg (by rw [hv];decide)];exact ⟨rfl,rfl⟩);clear hv;go_wp2_with fail
   refine HC.out.mono ?_;rintro e v1 ⟨rfl,B1⟩;have HPW:=dh (bwt HP.out B1 hB);go_wp2_with fail
   go_ret2
   exact ⟨_,by rw [HEE.out.1];rfl,by rw [HEE.out.2];exact OwnB.nil _ _,by rw [hB];exact HPW.out⟩
 | true=>
   have HC:=dh (hva p u A C w1 _ _ HI.out HJ.out HE.out);rw [hv] at HC;have HEE:Hid (It.protE p u=0∧It.protL p u=if p.kids.length=0 then [] else It.enc p):=dh (by unfold It.protE It.protL;rw [if_pos hv,if_pos hv];exact ⟨rfl,rfl⟩);have HVP:=dh (It.hvalid_maps hv).1.1;have HNI:Hid (A.ni=p.kids.length):=dh HI.out.tl.1;clear hv;go_wp2_with fail
   refine HC.out.mono ?_;rintro e v1 ⟨rfl,B1⟩;have HPW:=dh (bwt HP.out B1 hB);have HX1:=kp B1 HX;have HI1:=dh (HI.out.below B1);have HE1:=dh (HE.out.below B1);clear HX HI HE HC HP B1 x;have x:=ce HX1.out;by_cases hl:p.kids.length=0
   ·have hlb:((A.ni:Int)==0)=true:=by have:=HNI.out;simpa using (show (A.ni:Int)=0 by omega)
    have HL:Hid (It.protL p u=[]):=dh (by rw [HEE.out.2,if_pos hl]);clear hl;go_wp2_with fail
    go_ret2
    exact ⟨_,by rw [HEE.out.1];rfl,by rw [HL.out];exact OwnB.nil _ _,by rw [hB];exact HPW.out⟩
   ·have hlb:((A.ni:Int)==0)=false:=by have:=HNI.out;simpa using (show ¬ (A.ni:Int)=0 by omega)
    have HL:Hid (It.protL p u=It.enc p):=dh (by rw [HEE.out.2,if_neg hl]);have HC:=dh ((cencode_any p A v1 _ HI1.out HE1.out).mono fun _ _ h=>ep_valid h HVP.out);clear hl;go_wp2_with fail
    refine HC.out.mono ?_;rintro e v2 ⟨v,rfl,hO,B2⟩;have HO:=dh hO;have HPX:=dh (bwt HPW.out B2 hB);have HS:=dh HPW.out.size;clear hO B2;go_wp2_with fail
    go_ret2
    exact ⟨_,by rw [HEE.out.1];rfl,by rw [HL.out];exact HO.out.lower (by have:=HPW.out.size;have:=lb HX1.out;omega),by rw [hB];exact HPX.out⟩
theorem find2_valid {p u:It} (h:It.hvalid p u=true) (n:Int):It.valid (It.opt (It.find2 p u n))=true∨It.find2 p u n=.none:=by
 obtain ⟨⟨hp,_⟩,hu,_⟩:=It.hvalid_maps h;unfold It.find2;cases h1:It.look p.kids (It.int n) with
 | some x=>exact .inl (It.valid_kid hp (It.look_mem h1))
 | none=>
   cases h2:It.look u.kids (It.int n) with
   | some x=>exact .inl (It.valid_kid hu (It.look_mem h2))
   | none=>exact .inr rfl
theorem copy_opt {r:Option It} (A:Ad) (w:World) (ok:Nat→Prop) (hv:It.valid (It.opt r)=true∨r=.none) (hI:IR ok w (It.opt r) A):Calls Tryz.prog 94 #[.agg #[.int .i64 (It.opt r).kind,.int .u64 ((It.opt r).num:Int),.slice A.ab A.nb A.cb,.slice A.ai A.ni A.ci]] w (IP (It.opt r) w):=by
 rcases hv with hv | rfl
 ·exact copy_valid A w ok hv hI
 ·exact (copy_any 256 _ A w ok (by decide) (by omega) (by rfl) hI).mono fun _ _ h=>h.ir hI.num
theorem hget_any (p u:It) (A C:Ad) (w:World) (ok ok':Nat→Prop) (hI:IR ok w p A) (hJ:IR ok' w u C) (hE:Env w) (n:Int) (h0: -9223372036854775808≤n) (h1:n≤9223372036854775807):Calls Tryz.prog 28 #[.agg #[.int .i64 p.kind,.int .u64 (p.num:Int),.slice A.ab A.nb A.cb,.slice A.ai A.ni A.ci,.int .i64 u.kind,.int .u64 (u.num:Int),.slice C.ab C.nb C.cb,.slice C.ai C.ni C.ci],.int .i64 n] w (EndO (fun _=>True) w (.op (It.getP p u n))):=by
 obtain ⟨P0,N0⟩:=an w (o8 p u A C);obtain ⟨P1,N1⟩:=an (w.alloc (o8 p u A C)) o4z;have hsz1:(w.alloc (o8 p u A C)).heap.size=w.heap.size + 1:=by simp
 rw [hsz1] at N1;have HX:=dh (Below.keep P1 N0 (lb N0));have HY1:=dh N1;have HP:=dh (pt P0 P1);have HI:=dh ((((hI.imp (ok':=fun b=>b < w.heap.size) fun b _ hb=>hb).below P0).below P1));have HJ:=dh ((((hJ.imp (ok':=fun b=>b < w.heap.size) fun b _ hb=>hb).below P0).below P1));have HE:=dh (((hE.below P0).below P1));clear hI hJ hE;go_enter Tryz.func28,Tryz.ntmps28
 go_upto_region 1 with fail
 clear P0 N0 P1 N1 hsz1;generalize ((w.alloc (o8 p u A C)).alloc o4z)=w1 at *;generalize hB:w.heap.size=B at *;have x:=ce HX.out;cases hv:It.hvalid p u with
 | false=>
   have HC:=dh (hva p u A C w1 _ _ HI.out HJ.out HE.out);rw [hv] at HC;have HEE:Hid (It.getP p u n=.none):=dh (by unfold It.getP;rw [if_neg (by rw [hv];decide)]);clear hv;go_wp2_with fail
   refine HC.out.mono ?_;rintro e v1 ⟨rfl,B1⟩;have HPW:=dh (bwt HP.out B1 hB);have HY2:=kp B1 HY1;clear B1 HY1 HX x;have f:=ff HY2.out;obtain ⟨r0,r1,r2,r3⟩:=cf HY2.out;go_wp2_with fail
   clear f r0 r1 r2 r3;obtain ⟨W',hW',hp4,hs4,hb4⟩:=pq0 (W:=v1) (b:=(B + 1)) HY2.out;rw [hW'];clear hW';obtain ⟨g0,g1,g2,g3⟩:=cf hp4;refine bodyPost_ret (v:=.tuple #[vz,.bool false]) (by simp [vz,results,Tryz.results28,go_sem,g0,g1,g2,g3]) rfl ?_;rw [HEE.out];exact ⟨_,rfl,by rw [RB',hB];exact hb4 B w HPW.out (by omega),⟨none,0,0,none,0,0⟩,rfl,IR.flat _ _ (by omega)⟩
 | true=>
   have HC:=dh (hva p u A C w1 _ _ HI.out HJ.out HE.out);rw [hv] at HC;have HEE:Hid (It.getP p u n=It.find2 p u n):=dh (by unfold It.getP;rw [if_pos hv]);have HV:=dh hv;clear hv;go_wp2_with fail
   refine HC.out.mono ?_;rintro e v1 ⟨rfl,B1⟩;have HPW:=dh (bwt HP.out B1 hB);have HX1:=kp B1 HX;have HY2:=kp B1 HY1;have HI1:=dh (HI.out.below B1);have HJ1:=dh (HJ.out.below B1);have HE1:=dh (HE.out.below B1);clear HX HI HJ HE HC HP B1 HY1 x;have x:=ce HX1.out;have HMO:Hid (It.mapOk p=true∧It.mapOk u=true):=dh (by have h:=HV.out;unfold It.hvalid at h;simp only [Bool.and_eq_true] at h;exact ⟨h.1.1.1.1.1,h.1.1.1.1.2⟩);have HF:=dh (hfind_ok p u A C n v1 _ _ h0 h1 HI1.out HJ1.out HE1.out (fun b=>b≠B + 1) (fun b hb _=>by omega) (fun b hb _=>by omega) (fun b hb=>by have:=lb HY2.out;omega));rw [find2P_eq HMO.out.1 HMO.out.2] at HF;clear h0 h1;go_wp2_with fail
   refine HF.out.mono ?_;generalize hr:It.find2 p u n=r at *;rintro e v2 ⟨_,rfl,B2,Z,rfl,hIZ⟩;have HPX:=dh (bwt HPW.out B2 hB);have HY3:=kp B2 HY2;have HIZ:=dh hIZ;have HLT:=dh (lb HY2.out);clear B2 HY2 hIZ HF hr x;have f:=ff HY3.out;obtain ⟨r0,r1,r2,r3⟩:=cf HY3.out;go_wp2_with fail
   clear f r0 r1 r2 r3;obtain ⟨W',hW',hp4,hs4,hb4⟩:=p4I (W:=v2) (b:=(B + 1)) HY3.out (It.opt r) Z;rw [hW'];clear hW';obtain ⟨g0,g1,g2,g3⟩:=cf hp4;refine bodyPost_ret (v:=.tuple #[.agg #[.int .i64 (It.opt r).kind,.int .u64 ((It.opt r).num:Int),.slice Z.ab Z.nb Z.cb,.slice Z.ai Z.ni Z.ci],.bool (Option.isSome r)]) (by simp [results,Tryz.results28,go_sem,g0,g1,g2,g3]) rfl ?_;rw [HEE.out];exact ⟨_,rfl,by rw [RB',hB];exact hb4 B w HPX.out (by omega),Z,rfl,HIZ.out.keep (w':=W') (ok':=fun _=>True) fun b hb hl=>⟨hs4.2 b hb,trivial⟩⟩
theorem rget_any (p u:It) (A C:Ad) (w:World) (ok ok':Nat→Prop) (hI:IR ok w p A) (hJ:IR ok' w u C) (hE:Env w) (n:Int) (h0: -9223372036854775808≤n) (h1:n≤9223372036854775807):Calls Tryz.prog 29 #[.agg #[.int .i64 p.kind,.int .u64 (p.num:Int),.slice A.ab A.nb A.cb,.slice A.ai A.ni A.ci,.int .i64 u.kind,.int .u64 (u.num:Int),.slice C.ab C.nb C.cb,.slice C.ai C.ni C.ci],.int .i64 n] w (EndH w (.op (It.getP p u n))):=by
 obtain ⟨P0,N0⟩:=an w (o8 p u A C);obtain ⟨P1,N1⟩:=an (w.alloc (o8 p u A C)) o4z;have hsz1:(w.alloc (o8 p u A C)).heap.size=w.heap.size + 1:=by simp
 rw [hsz1] at N1;have HX:=dh (Below.keep P1 N0 (lb N0));have HY1:=dh N1;have HP:=dh (pt P0 P1);have HI:=dh ((((hI.imp (ok':=fun b=>b < w.heap.size) fun b _ hb=>hb).below P0).below P1));have HJ:=dh ((((hJ.imp (ok':=fun b=>b < w.heap.size) fun b _ hb=>hb).below P0).below P1));have HE:=dh (((hE.below P0).below P1));clear hI hJ hE;go_enter Tryz.func29,Tryz.ntmps29
 go_upto_region 1 with fail
 clear P0 N0 P1 N1 hsz1;generalize ((w.alloc (o8 p u A C)).alloc o4z)=w1 at *;generalize hB:w.heap.size=B at *;have x:=ce HX.out;cases hv:It.hvalid p u with
 | false=>
   have HC:=dh (rhv_any p u A C w1 _ _ HI.out HJ.out HE.out);rw [hv] at HC;have HEE:Hid (It.getP p u n=.none):=dh (by unfold It.getP;rw [if_neg (by rw [hv];decide)]);clear hv;go_wp2_with fail
   refine HC.out.mono ?_;rintro e v1 ⟨rfl,B1⟩;have HPW:=dh (bwt HP.out B1 hB);have HY2:=kp B1 HY1;clear B1 HY1 HX x;have f:=ff HY2.out;obtain ⟨r0,r1,r2,r3⟩:=cf HY2.out;go_wp2_with fail
   clear f r0 r1 r2 r3;obtain ⟨W',hW',hp4,hs4,hb4⟩:=pq0 (W:=v1) (b:=(B + 1)) HY2.out;rw [hW'];clear hW';obtain ⟨g0,g1,g2,g3⟩:=cf hp4;refine bodyPost_ret (v:=.tuple #[vz,.bool false]) (by simp [vz,results,Tryz.results29,go_sem,g0,g1,g2,g3]) rfl ?_;rw [HEE.out];exact ⟨_,rfl,by rw [RB',hB];exact hb4 B w HPW.out (by omega),⟨none,0,0,none,0,0⟩,rfl,IR.flat _ _ (by omega)⟩
 | true=>
   have HC:=dh (rhv_any p u A C w1 _ _ HI.out HJ.out HE.out);rw [hv] at HC;have HEE:Hid (It.getP p u n=It.find2 p u n):=dh (by unfold It.getP;rw [if_pos hv]);have HV:=dh hv;clear hv;go_wp2_with fail
   refine HC.out.mono ?_;rintro e v1 ⟨rfl,B1⟩;have HPW:=dh (bwt HP.out B1 hB);have HX1:=kp B1 HX;have HY2:=kp B1 HY1;have HI1:=dh (HI.out.below B1);have HJ1:=dh (HJ.out.below B1);have HE1:=dh (HE.out.below B1);clear HX HI HJ HE HC HP B1 HY1 x;have x:=ce HX1.out;have HLN:Hid (p.kids.length≤1000∧u.kids.length≤1000):=dh (by have h:=It.hvalid_maps HV.out;have h2:=kids_le h.1.1;have h3:=kids_le h.2.1;omega);have HF:=dh (rfind2_any p u A C n v1 _ _ h0 h1 HI1.out HJ1.out HLN.out.1 HLN.out.2);have HVR:Hid (It.valid (It.opt (It.find2 p u n))=true∨It.find2 p u n=.none):=dh (find2_valid HV.out n);clear h0 h1;go_wp2_with fail
   refine HF.out.mono ?_;generalize hr:It.find2 p u n=r at *;rintro e v2 ⟨_,rfl,B2,Y,rfl,hIY⟩;have hQ2:=pt B2 (al v2 (o4 (It.opt r) Y));have HPX:=dh (bwt HPW.out hQ2 hB);have HY3:=kp hQ2 HY2;have HB3:=dh (aw v2 (o4 (It.opt r) Y));have HIY:=dh (hIY.below (al v2 (o4 (It.opt r) Y)));clear hIY HF hr;go_upto_region 4 with fail
   clear x B2 hQ2;generalize v2.alloc _=w3 at *;generalize v2.heap.size=T6 at *;have t:=cf HB3.out;have HCC:=dh (copy_opt Y w3 _ HVR.out HIY.out);go_wp2_with fail
   refine HCC.out.mono ?_;rintro e v4 ⟨Z,rfl,hIZ,B4⟩;have HPY:=dh (bwt HPX.out B4 hB);have HY4:=kp B4 HY3;have HIZ:=dh hIZ;have HLT:=dh (lb HY3.out);clear B4 HY3 hIZ t HCC;have f:=ff HY4.out;obtain ⟨r0,r1,r2,r3⟩:=cf HY4.out;go_wp2_with fail
   clear f r0 r1 r2 r3;obtain ⟨W',hW',hp4,hs4,hb4⟩:=p4I (W:=v4) (b:=(B + 1)) HY4.out (It.opt r) Z;rw [hW'];clear hW';obtain ⟨g0,g1,g2,g3⟩:=cf hp4;refine bodyPost_ret (v:=.tuple #[.agg #[.int .i64 (It.opt r).kind,.int .u64 ((It.opt r).num:Int),.slice Z.ab Z.nb Z.cb,.slice Z.ai Z.ni Z.ci],.bool (Option.isSome r)]) (by simp [results,Tryz.results29,go_sem,g0,g1,g2,g3]) rfl ?_;rw [HEE.out];exact ⟨_,rfl,by rw [RB',hB];exact hb4 B w HPY.out (by omega),Z,rfl,HIZ.out.keep (w':=W') (ok':=fun b=>w.heap.size≤b) fun b hb hl=>⟨hs4.2 b (by have:=HLT.out;omega),by have:=HLT.out;omega⟩⟩
theorem alg_small {p u x:It} (h:It.getP p u 1=some x):x.num≤65535:=by
 unfold It.getP at h
 split at h
 case isFalse=>cases h
 case isTrue hv=>
 have key:∀ m:It,It.mapOk m=true→It.look m.kids (It.int 1)=some x→x.num≤65535:=fun m hm hl=>by
  have h1:=It.look_some hl;unfold It.mapOk at hm;simp only [Bool.and_eq_true,List.all_eq_true] at hm;have h2:=hm.2 _ h1;have e:It.int 1=.mk 0 1 [] []:=rfl;rw [e] at h2;unfold It.permit at h2
  dsimp only at h2
  rw [if_neg (show ¬ (It.mk 0 1 [] []).kind=3 by decide),if_neg (show ¬ (It.mk 0 1 [] []).numb=false by decide),if_neg (show ¬ (It.mk 0 1 [] []).kind=1 by decide),if_pos (show (It.mk 0 1 [] []).num=1 from rfl)] at h2;simp only [Bool.and_eq_true] at h2;have h3:=h2.1;unfold It.numb at h3;simp only [Bool.and_eq_true,decide_eq_true_eq] at h3;exact h3.2
 unfold It.hvalid at hv;simp only [Bool.and_eq_true] at hv;unfold It.find2 at h
 split at h
 case h_1 y hl=>cases h;exact key p hv.1.1.1.1.1 hl
 case h_2=>exact key u hv.1.1.1.1.2 h
def AlP (r:Int) (w:World) (e:Ending) (w':World):Prop:=e=.returned (.int .i64 r)∧Below w.heap.size w w'
theorem halg_any (p u:It) (A C:Ad) (w:World) (ok ok':Nat→Prop) (hI:IR ok w p A) (hJ:IR ok' w u C) (hE:Env w):Calls Tryz.prog 39 #[.agg #[.int .i64 p.kind,.int .u64 (p.num:Int),.slice A.ab A.nb A.cb,.slice A.ai A.ni A.ci,.int .i64 u.kind,.int .u64 (u.num:Int),.slice C.ab C.nb C.cb,.slice C.ai C.ni C.ci]] w (AlP (It.algP p u) w):=by
 obtain ⟨P0,N0⟩:=an w (o8 p u A C);have HX:=dh N0;have HP:=dh P0;have HI:=dh (((hI.imp (ok':=fun b=>b < w.heap.size) fun b _ hb=>hb).below P0));have HJ:=dh (((hJ.imp (ok':=fun b=>b < w.heap.size) fun b _ hb=>hb).below P0));have HE:=dh ((hE.below P0));clear hI hJ hE;go_enter Tryz.func39,Tryz.ntmps39
 go_upto_region 1 with fail
 clear P0 N0;generalize (w.alloc (o8 p u A C))=w1 at *;generalize hB:w.heap.size=B at *;obtain ⟨x0,x1,x2,x3,x4,x5,x6,x7⟩:=ce HX.out;have HC:=dh (hget_any p u A C w1 _ _ HI.out HJ.out HE.out 1 (by decide) (by decide));have HSM:Hid (∀ x,It.getP p u 1=some x→x.num≤65535):=dh fun x h=>alg_small h
 have HAL:Hid (It.algP p u=match It.getP p u 1 with | .none=>0 | some x=>if x.kind=1 then -1 - (x.num:Int) else x.num):=dh rfl
 go_wp2_with fail
 refine HC.out.mono ?_;generalize It.getP p u 1=r at *;rintro e v2 ⟨_,rfl,B2,Y,rfl,hIY⟩;have hQ2:=pt B2 (al v2 (o4 (It.opt r) Y));have HPX:=dh (bwt HP.out hQ2 hB);have HB3:=dh (aw v2 (o4 (It.opt r) Y));clear hIY HC;cases r with
 | none=>
   simp only [It.opt,Option.getD_none,Option.isSome_none] at *;have HR:Hid (It.algP p u=0):=dh HAL.out;go_wp2_with fail
   go_ret
   exact ⟨by rw [HR.out];try rfl,by rw [hB];exact HPX.out⟩
 | some x=>
   simp only [It.opt,Option.getD_some,Option.isSome_some] at *;have hx:=HSM.out x rfl;have hw1:IntKind.i64.wrap (x.num:Int)=(x.num:Int):=by rw [IntWalk.i64_in _ (by omega)]
   have hw2:IntKind.i64.wrap (-1 - (x.num:Int))= -1 - (x.num:Int):=by rw [IntWalk.i64_in _ (by omega)]
   clear hx;by_cases hk:x.kind=1
   ·have hkb:(x.kind==1)=true:=by simpa using hk
    have HR:Hid (It.algP p u= -1 - (x.num:Int)):=dh (by rw [HAL.out];exact if_pos hk);clear hk;go_upto_region 2 with fail
    clear x0 x1 x2 x3 x4 x5 x6 x7 B2 hQ2;generalize v2.alloc _=w3 at *;generalize v2.heap.size=T6 at *;have t:=cf HB3.out;go_wp2_with fail
    go_ret
    exact ⟨by rw [HR.out];try rfl,by rw [hB];exact HPX.out⟩
   ·have hkb:(x.kind==1)=false:=by simpa using hk
    have HR:Hid (It.algP p u=(x.num:Int)):=dh (by rw [HAL.out];exact if_neg hk);clear hk;go_upto_region 2 with fail
    clear x0 x1 x2 x3 x4 x5 x6 x7 B2 hQ2;generalize v2.alloc _=w3 at *;generalize v2.heap.size=T6 at *;have t:=cf HB3.out;go_wp2_with fail
    go_ret
    exact ⟨by rw [HR.out];try rfl,by rw [hB];exact HPX.out⟩
theorem ralg_any (p u:It) (A C:Ad) (w:World) (ok ok':Nat→Prop) (hI:IR ok w p A) (hJ:IR ok' w u C) (hE:Env w):Calls Tryz.prog 40 #[.agg #[.int .i64 p.kind,.int .u64 (p.num:Int),.slice A.ab A.nb A.cb,.slice A.ai A.ni A.ci,.int .i64 u.kind,.int .u64 (u.num:Int),.slice C.ab C.nb C.cb,.slice C.ai C.ni C.ci]] w (AlP (It.algP p u) w):=by
 obtain ⟨P0,N0⟩:=an w (o8 p u A C);have HX:=dh N0;have HP:=dh P0;have HI:=dh (((hI.imp (ok':=fun b=>b < w.heap.size) fun b _ hb=>hb).below P0));have HJ:=dh (((hJ.imp (ok':=fun b=>b < w.heap.size) fun b _ hb=>hb).below P0));have HE:=dh ((hE.below P0));clear hI hJ hE;go_enter Tryz.func40,Tryz.ntmps40
 go_upto_region 1 with fail
 clear P0 N0;generalize (w.alloc (o8 p u A C))=w1 at *;generalize hB:w.heap.size=B at *;obtain ⟨x0,x1,x2,x3,x4,x5,x6,x7⟩:=ce HX.out;have HC:=dh (rget_any p u A C w1 _ _ HI.out HJ.out HE.out 1 (by decide) (by decide));have HSM:Hid (∀ x,It.getP p u 1=some x→x.num≤65535):=dh fun x h=>alg_small h
 have HAL:Hid (It.algP p u=match It.getP p u 1 with | .none=>0 | some x=>if x.kind=1 then -1 - (x.num:Int) else x.num):=dh rfl
 go_wp2_with fail
 refine HC.out.mono ?_;generalize It.getP p u 1=r at *;rintro e v2 ⟨_,rfl,B2,Y,rfl,hIY⟩;have hQ2:=pt B2 (al v2 (o4 (It.opt r) Y));have HPX:=dh (bwt HP.out hQ2 hB);have HB3:=dh (aw v2 (o4 (It.opt r) Y));clear hIY HC;cases r with
 | none=>
   simp only [It.opt,Option.getD_none,Option.isSome_none] at *;have HR:Hid (It.algP p u=0):=dh HAL.out;go_wp2_with fail
   go_ret
   exact ⟨by rw [HR.out];try rfl,by rw [hB];exact HPX.out⟩
 | some x=>
   simp only [It.opt,Option.getD_some,Option.isSome_some] at *;have hx:=HSM.out x rfl;have hw1:IntKind.i64.wrap (x.num:Int)=(x.num:Int):=by rw [IntWalk.i64_in _ (by omega)]
   have hw2:IntKind.i64.wrap (-1 - (x.num:Int))= -1 - (x.num:Int):=by rw [IntWalk.i64_in _ (by omega)]
   clear hx;by_cases hk:x.kind=1
   ·have hkb:(x.kind==1)=true:=by simpa using hk
    have HR:Hid (It.algP p u= -1 - (x.num:Int)):=dh (by rw [HAL.out];exact if_pos hk);clear hk;go_upto_region 2 with fail
    clear x0 x1 x2 x3 x4 x5 x6 x7 B2 hQ2;generalize v2.alloc _=w3 at *;generalize v2.heap.size=T6 at *;have t:=cf HB3.out;go_wp2_with fail
    go_ret
    exact ⟨by rw [HR.out];try rfl,by rw [hB];exact HPX.out⟩
   ·have hkb:(x.kind==1)=false:=by simpa using hk
    have HR:Hid (It.algP p u=(x.num:Int)):=dh (by rw [HAL.out];exact if_neg hk);clear hk;go_upto_region 2 with fail
    clear x0 x1 x2 x3 x4 x5 x6 x7 B2 hQ2;generalize v2.alloc _=w3 at *;generalize v2.heap.size=T6 at *;have t:=cf HB3.out;go_wp2_with fail
    go_ret
    exact ⟨by rw [HR.out];try rfl,by rw [hB];exact HPX.out⟩
theorem hsame_any (p u q v:It) (A C D F:Ad) (w:World) (ok ok' ok2 ok3:Nat→Prop) (hI:IR ok w p A) (hJ:IR ok' w u C) (hK:IR ok2 w q D) (hL:IR ok3 w v F):Calls Tryz.prog 22 #[.agg #[.int .i64 p.kind,.int .u64 (p.num:Int),.slice A.ab A.nb A.cb,.slice A.ai A.ni A.ci,.int .i64 u.kind,.int .u64 (u.num:Int),.slice C.ab C.nb C.cb,.slice C.ai C.ni C.ci],.agg #[.int .i64 q.kind,.int .u64 (q.num:Int),.slice D.ab D.nb D.cb,.slice D.ai D.ni D.ci,.int .i64 v.kind,.int .u64 (v.num:Int),.slice F.ab F.nb F.cb,.slice F.ai F.ni F.ci]] w (VP (It.same p q && It.same u v) w):=by
 obtain ⟨P0,N0⟩:=an w (o8 p u A C);obtain ⟨P1,N1⟩:=an (w.alloc (o8 p u A C)) (o8 q v D F);have hsz1:(w.alloc (o8 p u A C)).heap.size=w.heap.size + 1:=by simp
 rw [hsz1] at N1;have HX:=dh (Below.keep P1 N0 (lb N0));have HY1:=dh N1;have HP:=dh (pt P0 P1);have HI:=dh (((hI.below P0).below P1));have HJ:=dh (((hJ.below P0).below P1));have HK:=dh (((hK.below P0).below P1));have HL:=dh (((hL.below P0).below P1));clear hI hJ hK hL;go_enter Tryz.func22,Tryz.ntmps22
 go_upto_region 1 with fail
 clear P0 P1 N0 N1 hsz1;generalize ((w.alloc (o8 p u A C)).alloc (o8 q v D F))=w1 at *;generalize hB:w.heap.size=B at *;have x:=ce HX.out;have y:=ce HY1.out;have HC:=dh (same_any p q A D w1 _ _ HI.out HK.out);obtain ⟨sb,hsb⟩:∃ sb,It.same u v=sb:=⟨_,rfl⟩;have HSB:=dh hsb;clear hsb;generalize It.same p q=sa at *;cases sa with
 | false=>
   go_wp2_with fail
   refine HC.out.mono ?_;rintro e v1 ⟨rfl,B1⟩;have HPW:=dh (bwt HP.out B1 hB);go_wp2_with fail
   go_ret
   exact ⟨rfl,by rw [hB];exact HPW.out⟩
 | true=>
   go_wp2_with fail
   refine HC.out.mono ?_;rintro e v1 ⟨rfl,B1⟩;have HPW:=dh (bwt HP.out B1 hB);have HX1:=kp B1 HX;have HY2:=kp B1 HY1;have HC2:=dh (same_any u v C F v1 _ _ (HJ.out.below B1) (HL.out.below B1));rw [HSB.out] at HC2;clear HX HY1 HC HP B1 x y;have x:=ce HX1.out;have y:=ce HY2.out;go_wp2_with fail
   refine HC2.out.mono ?_;rintro e v2 ⟨rfl,B2⟩;have HPX:=dh (bwt HPW.out B2 hB);cases sb <;> (go_wp2_with fail;go_ret;exact ⟨by rw [HSB.out];try rfl,by rw [hB];exact HPX.out⟩)
section
variable {o:Oper} {ρ:Operand→Value} {w:World}
theorem doesh_loadEP {ok:Nat→Prop} {W:World} (x:Operand) (b:Nat) (p u:It) (A C:Ad) (hW:Below w.heap.size w W) (hb:w.heap[b]?=some (.cells #[.int .i64 p.kind,.int .u64 (p.num:Int),.slice A.ab A.nb A.cb,.slice A.ai A.ni A.ci,.int .i64 u.kind,.int .u64 (u.num:Int),.slice C.ab C.nb C.cb,.slice C.ai C.ni C.ci] 28 (0,0))) (ho:o.op=.load 26 x) (hx:ρ x=.pointer (some ⟨b,0,none⟩)):Rg.Does Tryz.prog o ρ W fun v' w'=>RB' W w'∧True∧(Fh.eq (.agg #[.int .i64 p.kind,.int .u64 (p.num:Int),.slice A.ab A.nb A.cb,.slice A.ai A.ni A.ci])).holds ok v' w':=by
 have a:=ce (Below.keep hW hb (lb hb));refine doesh_val (v:=.agg #[.int .i64 p.kind,.int .u64 (p.num:Int),.slice A.ab A.nb A.cb,.slice A.ai A.ni A.ci]) ?_ rfl;have hr:(Instr.loadAt 26 (.pointer (some ⟨b,0,none⟩))).run Tryz.prog W=.ok (.agg #[.int .i64 p.kind,.int .u64 (p.num:Int),.slice A.ab A.nb A.cb,.slice A.ai A.ni A.ci]) W:=by
  go_simp
 simp only [execOp,ho,hx,Sem.run_bind,hr,Result.andThen_ok,Sem.run_pure]
theorem doesh_loadEU {ok:Nat→Prop} {W:World} (x:Operand) (b:Nat) (p u:It) (A C:Ad) (hW:Below w.heap.size w W) (hb:w.heap[b]?=some (.cells #[.int .i64 p.kind,.int .u64 (p.num:Int),.slice A.ab A.nb A.cb,.slice A.ai A.ni A.ci,.int .i64 u.kind,.int .u64 (u.num:Int),.slice C.ab C.nb C.cb,.slice C.ai C.ni C.ci] 28 (0,0))) (ho:o.op=.load 26 x) (hx:ρ x=.pointer (some ⟨b,4,none⟩)):Rg.Does Tryz.prog o ρ W fun v' w'=>RB' W w'∧True∧(Fh.eq (.agg #[.int .i64 u.kind,.int .u64 (u.num:Int),.slice C.ab C.nb C.cb,.slice C.ai C.ni C.ci])).holds ok v' w':=by
 have a:=ce (Below.keep hW hb (lb hb));refine doesh_val (v:=.agg #[.int .i64 u.kind,.int .u64 (u.num:Int),.slice C.ab C.nb C.cb,.slice C.ai C.ni C.ci]) ?_ rfl;have hr:(Instr.loadAt 26 (.pointer (some ⟨b,4,none⟩))).run Tryz.prog W=.ok (.agg #[.int .i64 u.kind,.int .u64 (u.num:Int),.slice C.ab C.nb C.cb,.slice C.ai C.ni C.ci]) W:=by
  go_simp
 simp only [execOp,ho,hx,Sem.run_bind,hr,Result.andThen_ok,Sem.run_pure]
end
theorem EndH.any' {P:Program} {f:FuncId} {args:Array Value} {ok:Nat→Prop} {w:World} {q:Fh} (h:Calls P f args w (EndH w q)) (hw:∀ b,w.heap.size≤b→ok b):Calls P f args w (EndO ok w q):=h.mono fun _ _ h=>h.any hw
theorem copy_st {x:It} (A:Ad) (w:World) (ok:Nat→Prop) (hv:It.st x=true∧It.nodes x≤256) (hI:IR ok w x A):Calls Tryz.prog 94 #[.agg #[.int .i64 x.kind,.int .u64 (x.num:Int),.slice A.ab A.nb A.cb,.slice A.ai A.ni A.ci]] w (EndH w (.it x)):=
 (copy_any 256 x A w ok hv.2 (by omega) hv.1 hI).mono fun _ _ h=>EndH.ip (h.ir hI.num)
theorem st_valid {x:It} (hv:It.valid x=true):It.st x=true∧It.nodes x≤256:=by
 have hw:=It.valid_wf8 hv;unfold It.valid at hv;simp only [Bool.and_eq_true,decide_eq_true_eq] at hv;exact ⟨It.st_of hw hv.2,hv.1.2⟩
theorem hcopy_any (p u:It) (A C:Ad) (w:World) (ok ok':Nat→Prop) (hI:IR ok w p A) (hJ:IR ok' w u C) (hst:(It.st p=true∧It.nodes p≤256)∧It.st u=true∧It.nodes u≤256):Calls Tryz.prog 97 #[.agg #[.int .i64 p.kind,.int .u64 (p.num:Int),.slice A.ab A.nb A.cb,.slice A.ai A.ni A.ci,.int .i64 u.kind,.int .u64 (u.num:Int),.slice C.ab C.nb C.cb,.slice C.ai C.ni C.ci]] w (EndH w (.hd p u)):=by
 obtain ⟨P0,N0⟩:=an w (o8 p u A C);obtain ⟨P1,N1⟩:=an (w.alloc (o8 p u A C)) o8z;have hsz1:(w.alloc (o8 p u A C)).heap.size=w.heap.size + 1:=by simp
 rw [hsz1] at N1;have HX:=dh (Below.keep P1 N0 (lb N0));have HY1:=dh N1;have HP:=dh (pt P0 P1);have HI:=dh (((hI.below P0).below P1));have HJ:=dh (((hJ.below P0).below P1));have HST:=dh hst;have hsz2:((w.alloc (o8 p u A C)).alloc o8z).heap.size=w.heap.size + 2:=by simp
 clear hI hJ hst;go_enter Tryz.func97,Tryz.ntmps97
 go_upto_region 1 with fail
 clear P0 P1 N0 N1 hsz1;generalize ((w.alloc (o8 p u A C)).alloc o8z)=w1 at *;generalize hB:w.heap.size=B at *;have HSZ:Hid (∀ W,RB' w1 W→∀ b,W.heap.size≤b→B + 2≤b):=dh fun W hW b hb=>by have:=Below.size hW;omega
 clear hsz2;refine rgh (M:=6) (fun b=>B + 2≤b) [.eq (.pointer (some ⟨B,0,none⟩)),.eq (.agg #[.int .i64 p.kind,.int .u64 (p.num:Int),.slice A.ab A.nb A.cb,.slice A.ai A.ni A.ci]),.it p,.eq (.pointer (some ⟨B,4,none⟩)),.eq (.agg #[.int .i64 u.kind,.int .u64 (u.num:Int),.slice C.ab C.nb C.cb,.slice C.ai C.ni C.ci]),.it u] [.pl,.pl,.pl,.pl,.pl,.pl] 6 6 (.any) (by kernel_rfl) (by kernel_rfl) (by kernel_rfl) (fun _ _ o _ _ h=>by cases o <;> exact h) ?_ ?_
 ·refine ⟨?_,?_,?_,?_,?_,?_,trivial⟩<;>intro vs W hR _ hd
  ·exact dfd 28 (.tmp 1) (B) 0 0 rfl (by kernel_rfl) (fieldH0 _)
  ·exact doesh_loadEP (.tmp 3) B p u A C hR HX.out rfl (hd 0 (by decide))
  ·have e1:vs 1=.agg #[.int .i64 p.kind,.int .u64 (p.num:Int),.slice A.ab A.nb A.cb,.slice A.ai A.ni A.ci]:=(hd 1 (by decide));exact dcl (vals:=#[vs 1]) 94 (.func 94) #[.tmp 4] _ rfl (by kernel_rfl) (by kernel_rfl) (cq Tryz.func94) (by rw [e1];exact EndH.any' (copy_st A W _ HST.out.1 (HI.out.below hR)) (HSZ.out W hR))
  ·exact dfd 28 (.tmp 1) (B) 1 4 rfl (by kernel_rfl) (fieldH1 _)
  ·exact doesh_loadEU (.tmp 6) B p u A C hR HX.out rfl (hd 3 (by decide))
  ·have e4:vs 4=.agg #[.int .i64 u.kind,.int .u64 (u.num:Int),.slice C.ab C.nb C.cb,.slice C.ai C.ni C.ci]:=(hd 4 (by decide));exact dcl (vals:=#[vs 4]) 94 (.func 94) #[.tmp 7] _ rfl (by kernel_rfl) (by kernel_rfl) (cq Tryz.func94) (by rw [e4];exact EndH.any' (copy_st C W _ HST.out.2 (HJ.out.below hR)) (HSZ.out W hR))
 ·intro vs W2 hR2 hf hD hE
  obtain ⟨Y,e2,hI2⟩:=hf 2 (by decide);obtain ⟨Z,e5,hI5⟩:=hf 5 (by decide);have HY2:=kp hR2 HY1;have HPX:=dh (bwt HP.out hR2 hB);have HI2:=dh hI2;have HI5:=dh hI5;simp only [Rg.putAll,Rg.putFrom,List.take_succ_cons,List.take_zero,List.drop_succ_cons,List.drop_zero,Act.put,sx,Nat.zero_add,Nat.reduceAdd,e2,e5];clear hf hD hE e2 e5 hI2 hI5 hR2;have f:=fe8 HY2.out;have r:=ce HY2.out;go_wp2_with fail
  clear f r;obtain ⟨W',hW',hp8,hs8,hb8⟩:=p8I (W:=W2) (b:=(B + 1)) HY2.out p u Y Z;rw [hW'];clear hW';obtain ⟨g0,g1,g2,g3,g4,g5,g6,g7⟩:=ce hp8;refine bodyPost_ret (v:=(v8 p u Y Z)) (by simp [v8,results,Tryz.results97,go_sem,g0,g1,g2,g3,g4,g5,g6,g7]) rfl ?_;exact ⟨_,rfl,by rw [RB',hB];exact hb8 B w HPX.out (by omega),Y,Z,rfl,HI2.out.keep (w':=W') (ok':=fun b=>w.heap.size≤b) fun b hb hl=>⟨hs8.2 b (by omega),by omega⟩,HI5.out.keep (w':=W') (ok':=fun b=>w.heap.size≤b) fun b hb hl=>⟨hs8.2 b (by omega),by omega⟩⟩
