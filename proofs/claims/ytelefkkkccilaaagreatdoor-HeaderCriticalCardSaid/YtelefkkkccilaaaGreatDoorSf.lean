/- header.Valid. -/
import Derived.Test.YtelefkkkccilaaaGreatDoorSe
set_option linter.all false
namespace Go.Proofs.YtelefkkkccilaaaGreatDoor
open Go.RowKit
set_option maxRecDepth 100000
def HL1 (p u:It) (w2:World) (i:Value) (W:World):Prop:=∃ k:Nat,i=.int .i64 (k:Int)∧k≤2∧(0 < k→It.mapOk p=true)∧(1 < k→It.mapOk u=true)∧Below w2.heap.size w2 W
def HL2 (L:List PE) (u3:World) (i:Value) (W:World):Prop:=∃ q:Nat,i=.int .i64 (q:Int)∧q≤L.length∧(∀ e ∈ L.take q,It.permit e.p=true)∧Below u3.heap.size u3 W
theorem bwt {B:Nat} {w u v:World} (h:Below B w u) (k:Below u.heap.size u v) (hB:w.heap.size=B):Below B w v:=h.trans (k.mono (by have:=h.size;omega))
theorem hvalid_nop {p u:It} (h:It.mapOk p=false):It.hvalid p u=false:=by unfold It.hvalid;simp [h]
theorem hvalid_nou {p u:It} (h:It.mapOk u=false):It.hvalid p u=false:=by unfold It.hvalid;simp [h]
theorem mapOk_kind {m:It} (h:¬ m.kind=5):It.mapOk m=false:=by unfold It.mapOk;simp [h]
theorem mapOk_valid {m:It} (h:It.valid m=false):It.mapOk m=false:=by unfold It.mapOk;simp [h]
theorem mapOk_permit {m:It} {q:It.KV} (hq:q ∈ It.pairsK m.kids) (h:It.permit q=false):It.mapOk m=false:=by
 cases hm:It.mapOk m with
 | false=>rfl
 | true=>
   unfold It.mapOk at hm;simp only [Bool.and_eq_true,List.all_eq_true] at hm;rw [hm.2 q hq] at h;cases h
theorem mapOk_of {m:It} (hk:m.kind=5) (hv:It.valid m=true) (h:∀ q ∈ It.pairsK m.kids,It.permit q=true):It.mapOk m=true:=by
 unfold It.mapOk;simp only [Bool.and_eq_true,decide_eq_true_eq,List.all_eq_true];exact ⟨⟨hk,hv⟩,h⟩
def HL3 (L:List PE) (u:It) (u3:World) (i:Value) (W:World):Prop:=∃ q:Nat,i=.int .i64 (q:Int)∧q≤L.length∧(∀ e ∈ L.take q,It.hasK u.kids e.p.1=false)∧Below u3.heap.size u3 W
def HL4 (l:List It) (p:It) (u3:World) (i:Value) (W:World):Prop:=∃ q:Nat,i=.int .i64 (q:Int)∧q≤l.length∧(∀ y ∈ l.take q,It.hasK p.kids y=true)∧Below u3.heap.size u3 W
theorem findP_look {m q:It} (h:It.mapOk m=true):It.findP m q=It.look m.kids q:=by
 unfold It.mapOk at h;simp only [Bool.and_eq_true,decide_eq_true_eq] at h;unfold It.findP;rw [if_pos h.1]
theorem find2P_eq {p u:It} (hp:It.mapOk p=true) (hu:It.mapOk u=true) (n:Int):It.find2P p u n=It.find2 p u n:=by
 unfold It.find2P It.find2;rw [findP_look hp,findP_look hu]
 rfl
theorem hvalid_dup {p u:It} {q:It.KV} (hq:q ∈ It.pairsK p.kids) (h:It.hasK u.kids q.1=true):It.hvalid p u=false:=by
 cases hv:It.hvalid p u with
 | false=>rfl
 | true=>
   unfold It.hvalid at hv;simp only [Bool.and_eq_true,List.all_eq_true,Bool.not_eq_true'] at hv;rw [hv.1.1.1.2 q hq] at h;cases h
theorem hvalid_end {p u:It} (hp:It.mapOk p=true) (hu:It.mapOk u=true) (hd:∀ q ∈ It.pairsK p.kids,It.hasK u.kids q.1=false):It.hvalid p u=(!It.hasK u.kids (It.int 2) && !((It.find2 p u 5).isSome && (It.find2 p u 6).isSome) && It.critOk p):=by
 unfold It.hvalid;rw [hp,hu];have:((It.pairsK p.kids).all fun q=> !It.hasK u.kids q.1)=true:=by
  rw [List.all_eq_true];intro q hq;rw [hd q hq];rfl
 rw [this];simp
theorem kids_le {x:It} (h:It.valid x=true):x.kids.length≤256:=by
 cases x with
 | mk k n b ks=>
   unfold It.valid at h;simp only [Bool.and_eq_true,decide_eq_true_eq] at h;have h4:It.nodes (.mk k n b ks)=1 + It.nodesL ks:=by unfold It.nodes;rfl
   have h5:=It.length_le_nodesL ks
   show ks.length≤256
   omega
set_option maxHeartbeats 16000000 in
theorem hva (p u:It) (A C:Ad) (w:World) (ok ok':Nat→Prop) (hI:IR ok w p A) (hJ:IR ok' w u C) (hE:Env w):Calls Tryz.prog 20 #[.agg #[.int .i64 p.kind,.int .u64 (p.num:Int),.slice A.ab A.nb A.cb,.slice A.ai A.ni A.ci,.int .i64 u.kind,.int .u64 (u.num:Int),.slice C.ab C.nb C.cb,.slice C.ai C.ni C.ci]] w (VP (It.hvalid p u) w):=by
 obtain ⟨P0,N0⟩:=an w (o8 p u A C);have P1:=al (w.alloc (o8 p u A C)) (.cells #[.int .i64 p.kind,.int .u64 (p.num:Int),.slice A.ab A.nb A.cb,.slice A.ai A.ni A.ci,.int .i64 u.kind,.int .u64 (u.num:Int),.slice C.ab C.nb C.cb,.slice C.ai C.ni C.ci] 26);have N1:=aw (w.alloc (o8 p u A C)) (.cells #[.int .i64 p.kind,.int .u64 (p.num:Int),.slice A.ab A.nb A.cb,.slice A.ai A.ni A.ci,.int .i64 u.kind,.int .u64 (u.num:Int),.slice C.ab C.nb C.cb,.slice C.ai C.ni C.ci] 26);have hsz0:(w.alloc (o8 p u A C)).heap.size=w.heap.size + 1:=by simp
 rw [hsz0] at N1;have HX:=dh (Below.keep P1 N0 (lb N0));have HROW:=dh N1;have HP:=dh (pt P0 P1);have HI:=dh (((hI.imp (ok':=fun b=>b < w.heap.size) fun b _ hb=>hb).below P0).below P1);have HJ:=dh (((hJ.imp (ok':=fun b=>b < w.heap.size) fun b _ hb=>hb).below P0).below P1);have HE:=dh ((hE.below P0).below P1);have x:=ce N0;have HT1:=dh hE.lt;clear hI hJ hE N0 N1 P0 P1 hsz0;obtain ⟨R,hRR⟩:∃ R,It.hvalid p u=R:=⟨_,rfl⟩;rw [hRR];have HRR:=dh hRR;clear hRR;go_enter Tryz.func20,Tryz.ntmps20
 go_upto_region 2 with fail
 clear x;generalize (w.alloc (o8 p u A C)).alloc (.cells #[.int .i64 p.kind,.int .u64 (p.num:Int),.slice A.ab A.nb A.cb,.slice A.ai A.ni A.ci,.int .i64 u.kind,.int .u64 (u.num:Int),.slice C.ab C.nb C.cb,.slice C.ai C.ni C.ci] 26)=w2 at *;generalize hB:w.heap.size=B at *;go_loopw [29] (HL1 p u w2) (fun i _=>2 - (intOf i).toNat)
 case atStart=>exact ⟨0,rfl,by omega,fun h=>absurd h (by omega),fun h=>absurd h (by omega),Below.refl _ _⟩
 case round=>
  obtain ⟨u0,hu0⟩:∃ u0,u0=wr:=⟨_,rfl⟩;subst hu0;obtain ⟨k,rfl,hk,hp,hu,hB0⟩:=hrel;have HB0:=dh hB0;have HX0:=kp hB0 HX;have HROW0:=kp hB0 HROW;have HI0:=dh (HI.out.below hB0);have HJ0:=dh (HJ.out.below hB0);have HE0:=dh (HE.out.below hB0);have HP0:=dh (HP.out.trans (hB0.mono (by have:=HP.out.size;omega)));have HK:=dh (And.intro hp hu);clear hp hu hB0;by_cases hk2:k < 2
  ·have hkz:(k:Int) < 2:=by omega
   rcases (show k=0∨k=1 by omega) with rfl | rfl
   ·obtain ⟨y0,y1,y2,y3,y4,y5,y6,y7⟩:=ce HROW0.out
    obtain ⟨P1,N1⟩:=an u0 (o4 p A);have HPW:=dh (bwt HP0.out P1 hB);by_cases hkind:p.kind=5
    case neg=>
     have hkb:(p.kind !=5)=true:=by simpa using hkind
     have HNO:Hid (R=false):=dh (HRR.out.symm.trans (hvalid_nop (mapOk_kind hkind)));obtain ⟨z0,z1,z2,z3⟩:=cf N1;clear P1 N1;go_wp2_with fail
     go_ret
     exact ⟨by rw [HNO.out];try rfl,by rw [hB];exact HPW.out⟩
    have hkb:(p.kind !=5)=false:=by simpa using hkind
    have HKD:=dh hkind;have HB1:=dh (pt HB0.out (P1.mono (Nat.le_refl _)));have HX1:=kp P1 HX0;have HM1:=dh N1;have HI1:=dh (HI0.out.below P1);have HE1:=dh (HE0.out.below P1);clear P1 N1 hkind;go_upto_region 4 with fail
    clear y0 y1 y2 y3 y4 y5 y6 y7;generalize u0.alloc _=u1 at *;generalize u0.heap.size=T at *;obtain ⟨z0,z1,z2,z3⟩:=cf HM1.out;cases hv:It.valid p with
    | false=>
      have HC:=dh (cva p A u1 _ HI1.out HE1.out false hv);have HNO:Hid (R=false):=dh (HRR.out.symm.trans (hvalid_nop (mapOk_valid hv)));go_wp2_with fail
      refine HC.out.mono ?_;rintro e u2 ⟨rfl,B2⟩;have HPW':=dh (bwt HPW.out B2 hB);clear HPW B2 HC;have HPW:=HPW';go_wp2_with fail
      go_ret
      exact ⟨by rw [HNO.out];try rfl,by rw [hB];exact HPW.out⟩
    | true=>
      have HC:=dh (cva p A u1 _ HI1.out HE1.out true hv);have HV:=dh hv;clear hv;go_wp2_with fail
      refine HC.out.mono ?_;rintro e u2 ⟨rfl,B2⟩;have HM2:=kp B2 HM1;have HP2:=dh (bwt HPW.out B2 hB);have HB2:=dh (pt HB1.out B2);have HCP:=dh (pairs_any p A u2 _ (HI1.out.below B2) (by have:=(It.mev HV.out HKD.out).2;omega));clear B2 HC HPW HB1 HX1 HM1 HI1 HE1 z0 z1 z2 z3;obtain ⟨z0,z1,z2,z3⟩:=cf HM2.out;go_wp2_with fail
      refine HCP.out.mono ?_;rintro e u3 ⟨L,a,c,rfl,hLm,hPT,B3⟩;have HP3:=dh (bwt HP2.out B3 hB);have HB3:=dh (pt HB2.out B3);have HLM:=dh hLm;have HLEN:Hid (L.length≤1000):=dh (by have h1:=congrArg List.length hLm;have h2:=It.mev HV.out HKD.out;have h3:=It.pairsK_length _ h2.1;rw [List.length_map] at h1;omega);have HPT:=dh hPT;clear hLm hPT B3 HCP HM2 HP2 HB2 z0 z1 z2 z3;go_upto_region 7 with fail
      go_loopw [44] (HL2 L u3) (fun i _=>L.length - (intOf i).toNat)
      case atStart=>exact ⟨0,rfl,by omega,fun e he=>by simp at he,Below.refl _ _⟩
      case round=>
       obtain ⟨v0,hv0⟩:∃ v0,v0=wr:=⟨_,rfl⟩;subst hv0;obtain ⟨q,rfl,hq,hall,hB4⟩:=hrel;by_cases hqL:q < L.length
       ·have hqz:(q:Int) < (L.length:Int):=by omega
        have hwq:IntKind.i64.wrap ((q:Int) + 1)=((q + 1:Nat):Int):=by have:=HLEN.out;rw [IntWalk.i64_in _ (by omega)];omega
        obtain ⟨b,o,hab,⟨c0,c1,c2,c3⟩,⟨d0,d1,d2,d3⟩,hIe,hJe⟩:=(HPT.out.below hB4).2 q hqL;subst hab;have hmem:L[q].p ∈ It.pairsK p.kids:=by rw [← HLM.out];exact List.mem_map_of_mem (List.getElem_mem _)
        have htake:L.take (q + 1)=L.take q ++ [L[q]]:=List.take_succ_eq_append_getElem hqL;have HMEM:=dh hmem;have HQL:=dh hqL;have HTAKE:=dh htake;clear hmem htake hIe hJe;generalize L[q]=e at *;have P5:=al v0 (.cells #[.int .i64 e.p.1.kind,.int .u64 (e.p.1.num:Int),.slice e.A.ab e.A.nb e.A.cb,.slice e.A.ai e.A.ni e.A.ci,.int .i64 e.p.2.kind,.int .u64 (e.p.2.num:Int),.slice e.C.ab e.C.nb e.C.cb,.slice e.C.ai e.C.ni e.C.ci] 90);have N5:=aw v0 (.cells #[.int .i64 e.p.1.kind,.int .u64 (e.p.1.num:Int),.slice e.A.ab e.A.nb e.A.cb,.slice e.A.ai e.A.ni e.A.ci,.int .i64 e.p.2.kind,.int .u64 (e.p.2.num:Int),.slice e.C.ab e.C.nb e.C.cb,.slice e.C.ai e.C.ni e.C.ci] 90);have HP5:=dh (bwt HP3.out (hB4.trans (P5.mono hB4.size)) hB);have HB5:=dh (hB4.trans (P5.mono hB4.size));have HN5:=dh N5;have HALL:=dh hall;clear P5 N5 hB4 hall;go_upto_region 9 with fail
        clear c0 c1 c2 c3 d0 d1 d2 d3;generalize v0.alloc _=v1 at *;generalize v0.heap.size=T5 at *;obtain ⟨c0,c1,c2,c3,d0,d1,d2,d3⟩:=ce HN5.out;have HCQ:=dh (permit_any e.p.1 e.p.2 e.A e.C v1);cases hpm:It.permit e.p with
        | false=>
          have hpm':It.permit (e.p.1,e.p.2)=false:=hpm;rw [hpm'] at HCQ;have HNO:Hid (R=false):=dh (HRR.out.symm.trans (hvalid_nop (mapOk_permit HMEM.out hpm)));go_wp2_with fail
          refine HCQ.out.mono ?_;rintro e6 v6 ⟨rfl,B6⟩;have HPW:=dh (bwt HP5.out B6 hB);clear B6 HCQ;go_wp2_with fail
          go_ret
          exact ⟨by rw [HNO.out];try rfl,by rw [hB];exact HPW.out⟩
        | true=>
          have hpm':It.permit (e.p.1,e.p.2)=true:=hpm;rw [hpm'] at HCQ;have HPM:=dh hpm;clear hpm hpm';go_wp2_with fail
          refine HCQ.out.mono ?_;rintro e6 v6 ⟨rfl,B6⟩;have HB6:=dh (HB5.out.trans (B6.mono HB5.out.size));clear B6 HCQ;go_wp2_with fail
          go_roundw
          case rel=>
           refine ⟨q + 1,by go_num,by have:=HQL.out;omega,fun e' he'=>?_,HB6.out⟩;rw [HTAKE.out] at he';rcases List.mem_append.1 he' with h | h
           ·exact HALL.out e' h
           ·simp only [List.mem_singleton] at h;subst h;exact HPM.out
          case measure=>have:=HQL.out;simp [intOf];omega
       ·have hqz:¬ (q:Int) < (L.length:Int):=by omega
        have hok:It.mapOk p=true:=mapOk_of HKD.out HV.out fun r hr=>by
         rw [← HLM.out] at hr;obtain ⟨e,he,rfl⟩:=List.mem_map.1 hr;exact hall e (by rw [List.take_of_length_le (by omega)];exact he)
        have HOK:=dh hok;have HB4:=dh (HB3.out.trans (hB4.mono HB3.out.size));clear hok hall hB4;go_wp2_with fail
        go_roundw
        case rel=>exact ⟨1,by go_num,by omega,fun _=>HOK.out,fun h=>absurd h (by omega),HB4.out⟩
        case measure=>simp [intOf]
   ·obtain ⟨y0,y1,y2,y3,y4,y5,y6,y7⟩:=ce HROW0.out
    obtain ⟨P1,N1⟩:=an u0 (o4 u C);have HPW:=dh (bwt HP0.out P1 hB);by_cases hkind:u.kind=5
    case neg=>
     have hkb:(u.kind !=5)=true:=by simpa using hkind
     have HNO:Hid (R=false):=dh (HRR.out.symm.trans (hvalid_nou (mapOk_kind hkind)));obtain ⟨z0,z1,z2,z3⟩:=cf N1;clear P1 N1;go_wp2_with fail
     go_ret
     exact ⟨by rw [HNO.out];try rfl,by rw [hB];exact HPW.out⟩
    have hkb:(u.kind !=5)=false:=by simpa using hkind
    have HKD:=dh hkind;have HB1:=dh (pt HB0.out (P1.mono (Nat.le_refl _)));have HX1:=kp P1 HX0;have HM1:=dh N1;have HI1:=dh (HJ0.out.below P1);have HE1:=dh (HE0.out.below P1);clear P1 N1 hkind;go_upto_region 4 with fail
    clear y0 y1 y2 y3 y4 y5 y6 y7;generalize u0.alloc _=u1 at *;generalize u0.heap.size=T at *;obtain ⟨z0,z1,z2,z3⟩:=cf HM1.out;cases hv:It.valid u with
    | false=>
      have HC:=dh (cva u C u1 _ HI1.out HE1.out false hv);have HNO:Hid (R=false):=dh (HRR.out.symm.trans (hvalid_nou (mapOk_valid hv)));go_wp2_with fail
      refine HC.out.mono ?_;rintro e u2 ⟨rfl,B2⟩;have HPW':=dh (bwt HPW.out B2 hB);clear HPW B2 HC;have HPW:=HPW';go_wp2_with fail
      go_ret
      exact ⟨by rw [HNO.out];try rfl,by rw [hB];exact HPW.out⟩
    | true=>
      have HC:=dh (cva u C u1 _ HI1.out HE1.out true hv);have HV:=dh hv;clear hv;go_wp2_with fail
      refine HC.out.mono ?_;rintro e u2 ⟨rfl,B2⟩;have HM2:=kp B2 HM1;have HP2:=dh (bwt HPW.out B2 hB);have HB2:=dh (pt HB1.out B2);have HCP:=dh (pairs_any u C u2 _ (HI1.out.below B2) (by have:=(It.mev HV.out HKD.out).2;omega));clear B2 HC HPW HB1 HX1 HM1 HI1 HE1 z0 z1 z2 z3;obtain ⟨z0,z1,z2,z3⟩:=cf HM2.out;go_wp2_with fail
      refine HCP.out.mono ?_;rintro e u3 ⟨L,a,c,rfl,hLm,hPT,B3⟩;have HP3:=dh (bwt HP2.out B3 hB);have HB3:=dh (pt HB2.out B3);have HLM:=dh hLm;have HLEN:Hid (L.length≤1000):=dh (by have h1:=congrArg List.length hLm;have h2:=It.mev HV.out HKD.out;have h3:=It.pairsK_length _ h2.1;rw [List.length_map] at h1;omega);have HPT:=dh hPT;clear hLm hPT B3 HCP HM2 HP2 HB2 z0 z1 z2 z3;go_upto_region 7 with fail
      go_loopw [44] (HL2 L u3) (fun i _=>L.length - (intOf i).toNat)
      case atStart=>exact ⟨0,rfl,by omega,fun e he=>by simp at he,Below.refl _ _⟩
      case round=>
       obtain ⟨v0,hv0⟩:∃ v0,v0=wr:=⟨_,rfl⟩;subst hv0;obtain ⟨q,rfl,hq,hall,hB4⟩:=hrel;by_cases hqL:q < L.length
       ·have hqz:(q:Int) < (L.length:Int):=by omega
        have hwq:IntKind.i64.wrap ((q:Int) + 1)=((q + 1:Nat):Int):=by have:=HLEN.out;rw [IntWalk.i64_in _ (by omega)];omega
        obtain ⟨b,o,hab,⟨c0,c1,c2,c3⟩,⟨d0,d1,d2,d3⟩,hIe,hJe⟩:=(HPT.out.below hB4).2 q hqL;subst hab;have hmem:L[q].p ∈ It.pairsK u.kids:=by rw [← HLM.out];exact List.mem_map_of_mem (List.getElem_mem _)
        have htake:L.take (q + 1)=L.take q ++ [L[q]]:=List.take_succ_eq_append_getElem hqL;have HMEM:=dh hmem;have HQL:=dh hqL;have HTAKE:=dh htake;clear hmem htake hIe hJe;generalize L[q]=e at *;have P5:=al v0 (.cells #[.int .i64 e.p.1.kind,.int .u64 (e.p.1.num:Int),.slice e.A.ab e.A.nb e.A.cb,.slice e.A.ai e.A.ni e.A.ci,.int .i64 e.p.2.kind,.int .u64 (e.p.2.num:Int),.slice e.C.ab e.C.nb e.C.cb,.slice e.C.ai e.C.ni e.C.ci] 90);have N5:=aw v0 (.cells #[.int .i64 e.p.1.kind,.int .u64 (e.p.1.num:Int),.slice e.A.ab e.A.nb e.A.cb,.slice e.A.ai e.A.ni e.A.ci,.int .i64 e.p.2.kind,.int .u64 (e.p.2.num:Int),.slice e.C.ab e.C.nb e.C.cb,.slice e.C.ai e.C.ni e.C.ci] 90);have HP5:=dh (bwt HP3.out (hB4.trans (P5.mono hB4.size)) hB);have HB5:=dh (hB4.trans (P5.mono hB4.size));have HN5:=dh N5;have HALL:=dh hall;clear P5 N5 hB4 hall;go_upto_region 9 with fail
        clear c0 c1 c2 c3 d0 d1 d2 d3;generalize v0.alloc _=v1 at *;generalize v0.heap.size=T5 at *;obtain ⟨c0,c1,c2,c3,d0,d1,d2,d3⟩:=ce HN5.out;have HCQ:=dh (permit_any e.p.1 e.p.2 e.A e.C v1);cases hpm:It.permit e.p with
        | false=>
          have hpm':It.permit (e.p.1,e.p.2)=false:=hpm;rw [hpm'] at HCQ;have HNO:Hid (R=false):=dh (HRR.out.symm.trans (hvalid_nou (mapOk_permit HMEM.out hpm)));go_wp2_with fail
          refine HCQ.out.mono ?_;rintro e6 v6 ⟨rfl,B6⟩;have HPW:=dh (bwt HP5.out B6 hB);clear B6 HCQ;go_wp2_with fail
          go_ret
          exact ⟨by rw [HNO.out];try rfl,by rw [hB];exact HPW.out⟩
        | true=>
          have hpm':It.permit (e.p.1,e.p.2)=true:=hpm;rw [hpm'] at HCQ;have HPM:=dh hpm;clear hpm hpm';go_wp2_with fail
          refine HCQ.out.mono ?_;rintro e6 v6 ⟨rfl,B6⟩;have HB6:=dh (HB5.out.trans (B6.mono HB5.out.size));clear B6 HCQ;go_wp2_with fail
          go_roundw
          case rel=>
           refine ⟨q + 1,by go_num,by have:=HQL.out;omega,fun e' he'=>?_,HB6.out⟩;rw [HTAKE.out] at he';rcases List.mem_append.1 he' with h | h
           ·exact HALL.out e' h
           ·simp only [List.mem_singleton] at h;subst h;exact HPM.out
          case measure=>have:=HQL.out;simp [intOf];omega
       ·have hqz:¬ (q:Int) < (L.length:Int):=by omega
        have hok:It.mapOk u=true:=mapOk_of HKD.out HV.out fun r hr=>by
         rw [← HLM.out] at hr;obtain ⟨e,he,rfl⟩:=List.mem_map.1 hr;exact hall e (by rw [List.take_of_length_le (by omega)];exact he)
        have HOK:=dh hok;have HB4:=dh (HB3.out.trans (hB4.mono HB3.out.size));clear hok hall hB4;go_wp2_with fail
        go_roundw
        case rel=>exact ⟨2,by go_num,by omega,fun _=>HK.out.1 (by omega),fun h=>HOK.out,HB4.out⟩
        case measure=>simp [intOf]
  ·have hkz:¬ (k:Int) < 2:=by omega
   have HMO:Hid (It.mapOk p=true∧It.mapOk u=true):=dh ⟨HK.out.1 (by omega),HK.out.2 (by omega)⟩;have hmp:=HMO.out.1;have hmu:=HMO.out.2;have HKV:Hid ((p.kind=5∧It.valid p=true)∧u.kind=5∧It.valid u=true):=dh (by
    unfold It.mapOk at hmp hmu;simp only [Bool.and_eq_true,decide_eq_true_eq] at hmp hmu;exact ⟨hmp.1,hmu.1⟩)
   clear hmp hmu;have HCP:=dh (pairs_any p A u0 _ HI0.out (by have:=(It.mev HKV.out.1.2 HKV.out.1.1).2;omega));have x:=ce HX0.out;go_wp2_with fail
   refine HCP.out.mono ?_;rintro e u3 ⟨L,a,c,rfl,hLm,hPT,B3⟩;have HP3:=dh (bwt HP0.out B3 hB);have HX3:=kp B3 HX0;have HI3:=dh (HI0.out.below B3);have HJ3:=dh (HJ0.out.below B3);have HE3:=dh (HE0.out.below B3);have HLM:=dh hLm;have HLEN:Hid (L.length≤1000):=dh (by have h1:=congrArg List.length hLm;have h2:=It.mev HKV.out.1.2 HKV.out.1.1;have h3:=It.pairsK_length _ h2.1;rw [List.length_map] at h1;omega);have HPT:=dh hPT;clear hLm hPT B3 HCP HP0 HX0 HI0 HJ0 HE0 HROW0 HB0 HX HROW HI HJ HE HP x;go_upto_region 14 with fail
   go_loopw [57] (HL3 L u u3) (fun i _=>L.length - (intOf i).toNat)
   case atStart=>exact ⟨0,rfl,by omega,fun e he=>by simp at he,Below.refl _ _⟩
   case round=>
    obtain ⟨v0,hv0⟩:∃ v0,v0=wr:=⟨_,rfl⟩;subst hv0;obtain ⟨q,rfl,hq,hall,hB4⟩:=hrel;by_cases hqL:q < L.length
    ·have hqz:(q:Int) < (L.length:Int):=by omega
     have hwq:IntKind.i64.wrap ((q:Int) + 1)=((q + 1:Nat):Int):=by have:=HLEN.out;rw [IntWalk.i64_in _ (by omega)];omega
     obtain ⟨b,o,hab,⟨c0,c1,c2,c3⟩,⟨d0,d1,d2,d3⟩,hIe,hJe⟩:=(HPT.out.below hB4).2 q hqL;subst hab;have hmem:L[q].p ∈ It.pairsK p.kids:=by rw [← HLM.out];exact List.mem_map_of_mem (List.getElem_mem _)
     have htake:L.take (q + 1)=L.take q ++ [L[q]]:=List.take_succ_eq_append_getElem hqL;have HMEM:=dh hmem;have HQL:=dh hqL;have HTAKE:=dh htake;clear hmem htake hJe;generalize L[q]=e at *;have P5:=al v0 (.cells #[.int .i64 e.p.1.kind,.int .u64 (e.p.1.num:Int),.slice e.A.ab e.A.nb e.A.cb,.slice e.A.ai e.A.ni e.A.ci,.int .i64 e.p.2.kind,.int .u64 (e.p.2.num:Int),.slice e.C.ab e.C.nb e.C.cb,.slice e.C.ai e.C.ni e.C.ci] 90);have N5:=aw v0 (.cells #[.int .i64 e.p.1.kind,.int .u64 (e.p.1.num:Int),.slice e.A.ab e.A.nb e.A.cb,.slice e.A.ai e.A.ni e.A.ci,.int .i64 e.p.2.kind,.int .u64 (e.p.2.num:Int),.slice e.C.ab e.C.nb e.C.cb,.slice e.C.ai e.C.ni e.C.ci] 90);have HB5:=dh (hB4.trans (P5.mono hB4.size));have HP5:=dh (bwt HP3.out HB5.out hB);have HN5:=dh N5;have HX5:=kp HB5.out HX3;have HALL:=dh hall;have HCF:=dh (cfind_any u e.p.1 C e.A (v0.alloc (.cells #[.int .i64 e.p.1.kind,.int .u64 (e.p.1.num:Int),.slice e.A.ab e.A.nb e.A.cb,.slice e.A.ai e.A.ni e.A.ci,.int .i64 e.p.2.kind,.int .u64 (e.p.2.num:Int),.slice e.C.ab e.C.nb e.C.cb,.slice e.C.ai e.C.ni e.C.ci] 90)) _ _ (HJ3.out.below HB5.out) (hIe.below P5) (HE3.out.below HB5.out));rw [findP_look HMO.out.2] at HCF;clear P5 N5 hB4 hall hIe;go_upto_region 16 with fail
     clear c0 c1 c2 c3 d0 d1 d2 d3;generalize v0.alloc _=v1 at *;generalize v0.heap.size=T5 at *;obtain ⟨c0,c1,c2,c3,d0,d1,d2,d3⟩:=ce HN5.out;have x:=ce HX5.out;cases hlk:It.look u.kids e.p.1 with
     | some z=>
       rw [hlk] at HCF;have HNO:Hid (R=false):=dh (HRR.out.symm.trans (hvalid_dup HMEM.out (by unfold It.hasK;rw [hlk];rfl)));clear hlk;go_wp2_with fail
       refine HCF.out.mono ?_;rintro e6 v6 ⟨ZZ,rfl,_,B6⟩;have HPW:=dh (bwt (bwt HP5.out B6 hB) (al v6 (o4 z ZZ)) hB);clear B6 HCF;go_wp2_with fail
       go_ret
       exact ⟨by rw [HNO.out];try rfl,by rw [hB];exact HPW.out⟩
     | none=>
       rw [hlk] at HCF;have HNK:Hid (It.hasK u.kids e.p.1=false):=dh (by unfold It.hasK;rw [hlk];rfl);clear hlk;go_wp2_with fail
       refine HCF.out.mono ?_;rintro e6 v6 ⟨rfl,B6⟩;have HB6:=dh ((HB5.out.trans (B6.mono HB5.out.size)).trans ((al v6 o4z).mono (Nat.le_trans HB5.out.size B6.size)));clear B6 HCF;go_wp2_with fail
       go_roundw
       case rel=>
        refine ⟨q + 1,by go_num,by have:=HQL.out;omega,fun e' he'=>?_,HB6.out⟩;rw [HTAKE.out] at he';rcases List.mem_append.1 he' with h | h
        ·exact HALL.out e' h
        ·simp only [List.mem_singleton] at h;subst h;exact HNK.out
       case measure=>have:=HQL.out;simp [intOf];omega
    ·have hqz:¬ (q:Int) < (L.length:Int):=by omega
     have HEND:Hid (R=(!It.hasK u.kids (It.int 2) && !((It.find2 p u 5).isSome && (It.find2 p u 6).isSome) && It.critOk p)):=dh (by
      rw [← HRR.out];refine hvalid_end HMO.out.1 HMO.out.2 fun r hr=>?_
      rw [← HLM.out] at hr;obtain ⟨e,he,rfl⟩:=List.mem_map.1 hr;exact hall e (by rw [List.take_of_length_le (by omega)];exact he))
     have HP4:=dh (bwt HP3.out hB4 hB);have HX4:=kp hB4 HX3;have HI4:=dh (HI3.out.below hB4);have HJ4:=dh (HJ3.out.below hB4);have HE4:=dh (HE3.out.below hB4);clear hall hB4 HP3 HX3 HI3 HJ3 HE3 HLM HPT HLEN HRR;have HC5:=dh (hfind_any p u A C 5 v0 _ _ (by omega) (by omega) HI4.out HJ4.out HE4.out);rw [find2P_eq HMO.out.1 HMO.out.2] at HC5;generalize hf5:It.find2 p u 5=r5 at *;have x:=ce HX4.out;go_wp2_with fail
     refine HC5.out.mono ?_;rintro e v5 ⟨_,rfl,hB5,A5,rfl,_⟩;have hQ5:=pt hB5 (al v5 (o4 (It.opt r5) A5));have HP5:=dh (bwt HP4.out hQ5 hB);have HX5:=kp hQ5 HX4;have HI5:=dh (HI4.out.below hQ5);have HJ5:=dh (HJ4.out.below hQ5);have HE5:=dh (HE4.out.below hQ5);clear HP4 HX4 HI4 HJ4 HE4;go_upto_region 21 with fail
     generalize v5.alloc _=w5 at *;generalize v5.heap.size=T11 at *;generalize Option.isSome r5=b5 at *;clear hB5 hQ5 x HC5;have HC6:=dh (hfind_any p u A C 6 w5 _ _ (by omega) (by omega) HI5.out HJ5.out HE5.out);rw [find2P_eq HMO.out.1 HMO.out.2] at HC6;generalize hf6:It.find2 p u 6=r6 at *;have x:=ce HX5.out;go_wp2_with fail
     refine HC6.out.mono ?_;rintro e v6 ⟨_,rfl,hB6,A6,rfl,_⟩;have hQ6:=pt hB6 (al v6 (o4 (It.opt r6) A6));have HP6:=dh (bwt HP5.out hQ6 hB);have HX6:=kp hQ6 HX5;have HI6:=dh (HI5.out.below hQ6);have HJ6:=dh (HJ5.out.below hQ6);have HE6:=dh (HE5.out.below hQ6);clear HP5 HX5 HI5 HJ5 HE5;go_upto_region 22 with fail
     generalize v6.alloc _=w6 at *;generalize v6.heap.size=T13 at *;generalize Option.isSome r6=b6 at *;clear hB6 hQ6 x HC6;have HI6':=dh (HI6.out.imp (ok':=fun _=>True) fun _ _ _=>trivial);have HJ6':=dh (HJ6.out.imp (ok':=fun _=>True) fun _ _ _=>trivial);have HBL:Hid (B < w6.heap.size):=dh (lb HX6.out);refine rgh (M:=8) (fun _=>True) [.eq (.pointer (some ⟨B,4,none⟩)),.it u,.it (It.int 2),.op (It.look u.kids (It.int 2)),.op (It.look u.kids (It.int 2)),.it (It.opt (It.look u.kids (It.int 2))),.eq (.bool (It.look u.kids (It.int 2)).isSome),.bk w6.heap.size o4z] [.pl,.pl,.pl,.pa,.la,.la,.la,.pa] 3 7 (.op (It.look u.kids (It.int 2))) (by kernel_rfl) (by kernel_rfl) (by kernel_rfl) (fun _ _ o _ _ h=>by cases o <;> exact h) ?_ ?_
     ·refine ⟨?_,?_,?_,?_,?_,?_,?_,?_,trivial⟩<;>intro vs W hR _ hd
      ·exact dfd 28 (.tmp 1) (B) 1 4 rfl (by kernel_rfl) (fieldH1 _)
      ·exact dlU (.tmp 82) (B) p u A C hR HX6.out HJ6'.out rfl (hd 0 (by decide))
      ·exact dcl (vals:=#[(.int .i64 2)]) 69 (.func 69) #[.const (.int .i64 2)] _ rfl (by kernel_rfl) (by kernel_rfl) (cq Tryz.func69) (h_cint 2 ⟨by decide,by decide⟩ W _)
      ·exact dfi (vals:=#[vs 1,vs 2]) 63 (.func 63) #[.tmp 83,.tmp 84] _ rfl (by kernel_rfl) (by kernel_rfl) (cq Tryz.func63) rfl rfl (by decide) (fun _ _=>trivial) ((by have h:=h_cfind (hd 1 (by decide)) (hd 2 (by decide)) (HE6.out.below hR);rw [findP_look HMO.out.2] at h;exact h))
      ·exact late_move (.tmp 85) rfl (hd 3 (by decide))
      ·exact late_op0 (.tmp 81) rfl (hd 4 (by decide))
      ·exact late_op1 (.tmp 81) rfl (hd 4 (by decide))
      ·exact dal rfl rfl rfl (by decide) hR.size
     ·intro vs W7 hR7 hf hD hE
      obtain ⟨ZZ,e3,hI3⟩:=hf 3 (by decide);obtain ⟨T15,e7,hT15,hTn⟩:=hf 7 (by decide);have e4:vs 4=_:=(exm (hE 4 _ (by decide) rfl W7) (.tmp 85) rfl).trans e3;have e5:vs 5=_:=ex0 (hE 5 _ (by decide) rfl W7) (.tmp 81) rfl e4;have e6:vs 6=_:=ex1 (hE 6 _ (by decide) rfl W7) (.tmp 81) rfl e4;have HT15:=dh hT15;have HTN:=dh hTn;have hQ7:Below w6.heap.size w6 W7:=hR7;have HP7:=dh (bwt HP6.out hQ7 hB);have HX7:=kp hQ7 HX6;have HI7:=dh (HI6.out.below hQ7);have HJ7:=dh (HJ6.out.below hQ7);have HE7:=dh (HE6.out.below hQ7);have HBW7:=dh hQ7;simp only [Rg.putAll,Rg.putFrom,List.take_succ_cons,List.take_zero,List.drop_succ_cons,List.drop_zero,Act.put,sx,Nat.zero_add,Nat.reduceAdd,e5,e6,e7];clear hf hD hE e3 e4 e5 e6 e7 hI3 hT15 hTn hR7 hQ7;have HB22:Hid (It.hasK u.kids (It.int 2)=(It.look u.kids (It.int 2)).isSome):=dh rfl;generalize It.look u.kids (It.int 2)=r22 at *;have f:=ff HT15.out;have t:=cf HT15.out;go_upto_region 23 with fail
      clear t f;have hT:=HTN.out;have hBl:=HBL.out;obtain ⟨W',hW',hp4,hs4,hb4⟩:=p4I (W:=W7) (b:=T15) HT15.out (It.opt r22) ZZ;rw [hW'];clear hW';have HP8:=dh (hb4 B w HP7.out (by omega));have HX8:=dh ((hs4.2 B (by omega)).trans HX7.out);have HI8:=dh (HI7.out.keep (w':=W') (ok':=fun b=>b < B) fun b hb hl=>⟨hs4.2 b (by omega),hb⟩);have HJ8:=dh (HJ7.out.keep (w':=W') (ok':=fun b=>b < B) fun b hb hl=>⟨hs4.2 b (by omega),hb⟩);have hB8:=hb4 T15 W7 (Below.refl _ _) (Nat.le_refl _);have HE8:=dh (But.env HE7.out (⟨hB8.os,hB8.tape,hB8.output,hB8.size,fun k _ hne=>hs4.2 k hne⟩:But T15 W7 W') (by have:=HT1.out;omega));clear hp4 hs4 hb4 hB8 hT hBl HP7 HX7 HI7 HJ7 HE7 HT15 HTN HBL HBW7 HP6 HX6 HI6 HJ6 HE6 HI6' HJ6';generalize W'=w8 at *;generalize Option.isSome r22=b22 at *;rw [HB22.out] at HEND;clear HB22;go_cut [94] from 88 to 94 (fun v W=>v=.bool (b22 || b5 && b6)∧W=w8)
      case first=>
       cases b22 <;> cases b5 <;> cases b6 <;> (go_wp2_with fail;go_meet;exact ⟨rfl,rfl⟩)
      case rest=>
       obtain ⟨rfl,hwc⟩:=hcut;subst hwc;cases hg:(b22 || b5 && b6) with
       | true=>
         have HNO:Hid (R=false):=dh (by rw [HEND.out];cases b22 <;> cases b5 <;> cases b6 <;> simp_all)
         have HPW:=HP8;go_wp2_with fail
         go_ret
         exact ⟨by rw [HNO.out];try rfl,by rw [hB];exact HPW.out⟩
       | false=>
         have HEC:Hid (R=It.critOk p):=dh (by rw [HEND.out];cases b22 <;> cases b5 <;> cases b6 <;> simp_all)
         have HBL:Hid (B < wc.heap.size):=dh (lb HX8.out);have HI8':=dh (HI8.out.imp (ok':=fun _=>True) fun _ _ _=>trivial);have HJ8':=dh (HJ8.out.imp (ok':=fun _=>True) fun _ _ _=>trivial);clear HEND hg;go_upto_region 25 with fail
         refine rgh (M:=8) (fun _=>True) [.eq (.pointer (some ⟨B,0,none⟩)),.it p,.it (It.int 2),.op (It.look p.kids (It.int 2)),.op (It.look p.kids (It.int 2)),.it (It.opt (It.look p.kids (It.int 2))),.eq (.bool (It.look p.kids (It.int 2)).isSome),.bk wc.heap.size o4z] [.pl,.pl,.pl,.pa,.la,.la,.la,.pa] 3 7 (.op (It.look p.kids (It.int 2))) (by kernel_rfl) (by kernel_rfl) (by kernel_rfl) (fun _ _ o _ _ h=>by cases o <;> exact h) ?_ ?_
         ·refine ⟨?_,?_,?_,?_,?_,?_,?_,?_,trivial⟩<;>intro vs W hR _ hd
          ·exact dfd 28 (.tmp 1) (B) 0 0 rfl (by kernel_rfl) (fieldH0 _)
          ·exact dlP (.tmp 96) (B) p u A C hR HX8.out HI8'.out rfl (hd 0 (by decide))
          ·exact dcl (vals:=#[(.int .i64 2)]) 69 (.func 69) #[.const (.int .i64 2)] _ rfl (by kernel_rfl) (by kernel_rfl) (cq Tryz.func69) (h_cint 2 ⟨by decide,by decide⟩ W _)
          ·exact dfi (vals:=#[vs 1,vs 2]) 63 (.func 63) #[.tmp 97,.tmp 98] _ rfl (by kernel_rfl) (by kernel_rfl) (cq Tryz.func63) rfl rfl (by decide) (fun _ _=>trivial) ((by have h:=h_cfind (hd 1 (by decide)) (hd 2 (by decide)) (HE8.out.below hR);rw [findP_look HMO.out.1] at h;exact h))
          ·exact late_move (.tmp 99) rfl (hd 3 (by decide))
          ·exact late_op0 (.tmp 95) rfl (hd 4 (by decide))
          ·exact late_op1 (.tmp 95) rfl (hd 4 (by decide))
          ·exact dal rfl rfl rfl (by decide) hR.size
         ·intro vs W9 hR9 hf hD hE
          obtain ⟨ZZ,e3,hI3⟩:=hf 3 (by decide);obtain ⟨T17,e7,hT17,hTn⟩:=hf 7 (by decide);have hD3:=hD (by decide) (by decide) T17 e7;obtain ⟨Z2,e32,hI32⟩:=hD3;obtain rfl:ZZ=Z2:=by
           rw [e3] at e32;cases ZZ;cases Z2
           simp only [Value.tuple.injEq,Value.agg.injEq,Value.slice.injEq,Array.mk.injEq,List.cons.injEq,and_true,true_and] at e32;obtain ⟨⟨r1,r2,r3⟩,r4,r5,r6⟩:=e32;subst r1;subst r2;subst r3;subst r4;subst r5;subst r6;rfl
          have e4:vs 4=_:=(exm (hE 4 _ (by decide) rfl W9) (.tmp 99) rfl).trans e3;have e5:vs 5=_:=ex0 (hE 5 _ (by decide) rfl W9) (.tmp 95) rfl e4;have e6:vs 6=_:=ex1 (hE 6 _ (by decide) rfl W9) (.tmp 95) rfl e4;have HT17:=dh hT17;have HTN:=dh hTn;have HIZ:=dh hI32;have hQ9:Below wc.heap.size wc W9:=hR9;have HP9:=dh (bwt HP8.out hQ9 hB);have HX9:=kp hQ9 HX8;have HI9:=dh (HI8.out.below hQ9);have HE9:=dh (HE8.out.below hQ9);simp only [Rg.putAll,Rg.putFrom,List.take_succ_cons,List.take_zero,List.drop_succ_cons,List.drop_zero,Act.put,sx,Nat.zero_add,Nat.reduceAdd,e5,e6,e7];clear hf hD hE e3 e4 e5 e6 e7 e32 hI3 hI32 hT17 hTn hR9 hQ9;have HCR:Hid (It.critOk p=(match It.look p.kids (It.int 2) with | .none=>true | some c=>c.kids.all (It.hasK p.kids) && decide (c.kind=4) && decide (0 < c.kids.length))):=dh rfl
          have HLV:Hid (∀ c,It.look p.kids (It.int 2)=some c→It.valid c=true):=dh fun c hc=>It.valid_kid HKV.out.1.2 (It.look_mem hc)
          generalize It.look p.kids (It.int 2)=r25 at *;have f:=ff HT17.out;have t:=cf HT17.out;go_upto_region 26 with fail
          clear t f;have hT:=HTN.out;have hBl:=HBL.out;obtain ⟨W',hW',hp4,hs4,hb4⟩:=p4I (W:=W9) (b:=T17) HT17.out (It.opt r25) ZZ;rw [hW'];clear hW';have HP10:=dh (hb4 B w HP9.out (by omega));have HX10:=dh ((hs4.2 B (by omega)).trans HX9.out);have HI10:=dh (HI9.out.keep (w':=W') (ok':=fun b=>b < B) fun b hb hl=>⟨hs4.2 b (by omega),hb⟩);have HIZ10:=dh (HIZ.out.keep (w':=W') (ok':=fun _=>True) fun b hb hl=>⟨hs4.2 b hb.1,trivial⟩);have HTC:=dh hp4;have hB10:=hb4 T17 W9 (Below.refl _ _) (Nat.le_refl _);have HE10:=dh (But.env HE9.out (⟨hB10.os,hB10.tape,hB10.output,hB10.size,fun k _ hne=>hs4.2 k hne⟩:But T17 W9 W') (by have:=HT1.out;omega));clear hp4 hs4 hb4 hB10 hT hBl HP9 HX9 HI9 HE9 HT17 HTN HBL HP8 HX8 HI8 HJ8 HE8 HI8' HJ8' HIZ;generalize W'=w10 at *;cases r25 with
          | none=>
            have HNO:Hid (R=true):=dh (by rw [HEC.out,HCR.out]);simp only [It.opt,Option.getD_none,Option.isSome_none] at *;have HPW:=HP10;go_wp2_with fail
            go_ret
            exact ⟨by rw [HNO.out];try rfl,by rw [hB];exact HPW.out⟩
          | some c=>
            have HRC:Hid (R=(c.kids.all (It.hasK p.kids) && decide (c.kind=4) && decide (0 < c.kids.length))):=dh (by rw [HEC.out,HCR.out]);have HVC:=dh (HLV.out c rfl);clear HEC HCR HLV;simp only [It.opt,Option.getD_some,Option.isSome_some] at *;obtain ⟨zab,znb,zcb,zai,zni,zci⟩:=ZZ
            dsimp only at *
            have HNI:Hid (zni=c.kids.length):=dh HIZ10.out.tl.1;have HKL:=dh (kids_le HVC.out);have t:=cf HTC.out;go_upto_region 29 with fail
            go_loopw [107] (HL4 c.kids p w10) (fun i _=>c.kids.length - (intOf i).toNat)
            case atStart=>exact ⟨0,rfl,by omega,fun y hy=>by simp at hy,Below.refl _ _⟩
            case round=>
             obtain ⟨v0,hv0⟩:∃ v0,v0=wr:=⟨_,rfl⟩;subst hv0;obtain ⟨q,rfl,hq,hall,hB11⟩:=hrel;by_cases hqL:q < c.kids.length
             ·have hqz:(q:Int) < (zni:Int):=by have:=HNI.out;omega
              have hwq:IntKind.i64.wrap ((q:Int) + 1)=((q + 1:Nat):Int):=by have:=HKL.out;rw [IntWalk.i64_in _ (by omega)];omega
              obtain ⟨b,o,Y,hab,_,⟨c0,c1,c2,c3⟩,hIe⟩:=(HIZ10.out.tl.below hB11).2.2 q hqL;have htake:c.kids.take (q + 1)=c.kids.take q ++ [c.kids[q]]:=List.take_succ_eq_append_getElem hqL;have HQL:=dh hqL;have HTAKE:=dh htake;clear htake;generalize c.kids[q]=y at *;have hab:zai=some ⟨b,o,none⟩:=hab;subst hab;obtain ⟨P5,N5⟩:=an v0 (o4 y Y);have HB5:=dh (hB11.trans (P5.mono hB11.size));have HP5:=dh (bwt HP10.out HB5.out hB);have HN5:=dh N5;have HX5:=kp HB5.out HX10;have HALL:=dh hall;have HCF:=dh (cfind_any p y A Y (v0.alloc (o4 y Y)) _ _ (HI10.out.below HB5.out) (hIe.below P5) (HE10.out.below HB5.out));rw [findP_look HMO.out.1] at HCF;clear P5 N5 hB11 hall hIe t;go_upto_region 31 with fail
              clear c0 c1 c2 c3;generalize v0.alloc _=v1 at *;generalize v0.heap.size=T5 at *;obtain ⟨c0,c1,c2,c3⟩:=cf HN5.out;have x:=ce HX5.out;cases hlk:It.look p.kids y with
              | none=>
                rw [hlk] at HCF;have HNO:Hid (R=false):=dh (by
                 rw [HRC.out];have hm:y ∈ c.kids:=List.mem_of_mem_take (by rw [HTAKE.out];simp);have:c.kids.all (It.hasK p.kids)=false:=by
                  rw [Bool.eq_false_iff];intro h;rw [List.all_eq_true] at h;have:=h y hm;unfold It.hasK at this;rw [hlk] at this;cases this
                 rw [this];rfl)
                clear hlk;go_wp2_with fail
                refine HCF.out.mono ?_;rintro e6 v6 ⟨rfl,B6⟩;have HPW:=dh (bwt (bwt HP5.out B6 hB) (al v6 o4z) hB);clear B6 HCF;go_wp2_with fail
                go_ret
                exact ⟨by rw [HNO.out];try rfl,by rw [hB];exact HPW.out⟩
              | some z=>
                rw [hlk] at HCF;have HNK:Hid (It.hasK p.kids y=true):=dh (by unfold It.hasK;rw [hlk];rfl);clear hlk;go_wp2_with fail
                refine HCF.out.mono ?_;rintro e6 v6 ⟨ZB,rfl,_,B6⟩;have HB6:=dh ((HB5.out.trans (B6.mono HB5.out.size)).trans ((al v6 (o4 z ZB)).mono (Nat.le_trans HB5.out.size B6.size)));clear B6 HCF;go_wp2_with fail
                go_roundw
                case rel=>
                 refine ⟨q + 1,by go_num,by have:=HQL.out;omega,fun e' he'=>?_,HB6.out⟩;rw [HTAKE.out] at he';rcases List.mem_append.1 he' with h | h
                 ·exact HALL.out e' h
                 ·simp only [List.mem_singleton] at h;subst h;exact HNK.out
                case measure=>have:=HQL.out;simp [intOf];omega
             ·have hqz:¬ (q:Int) < (zni:Int):=by have:=HNI.out;omega
              have hAll:c.kids.all (It.hasK p.kids)=true:=by
               rw [List.all_eq_true];intro y hy;exact hall y (by rw [List.take_of_length_le (by omega)];exact hy)
              have HRC2:Hid (R=(decide (c.kind=4) && decide (0 < c.kids.length))):=dh (by rw [HRC.out,hAll];simp);have HPW:=dh (bwt HP10.out hB11 hB);have t:=ck hB11 HTC;clear hall hAll hB11;by_cases hk4:c.kind=4
              ·have hk4b:(c.kind==4)=true:=by simpa using hk4
               by_cases hl0:0 < c.kids.length
               ·have hl0z:0 < zni:=by have:=HNI.out;omega
                have hgb:decide ((0:Int) < (zni:Int))=true:=dt (by have:=HNI.out;omega);have HNO:Hid (R=true):=dh (by rw [HRC2.out,dt hk4,dt hl0];rfl);go_wp2_with fail
                go_ret
                exact ⟨by rw [HNO.out];try rfl,by rw [hB];exact HPW.out⟩
               ·have hl0z:¬ 0 < zni:=by have:=HNI.out;omega
                have hl0e:zni=0:=by omega
                have hgb:decide ((0:Int) < (zni:Int))=false:=df (by have:=HNI.out;omega);have HNO:Hid (R=false):=dh (by rw [HRC2.out,dt hk4,df hl0];rfl);go_wp2_with fail
                go_ret
                exact ⟨by rw [HNO.out];try rfl,by rw [hB];exact HPW.out⟩
              ·have hk4b:(c.kind==4)=false:=by simpa using hk4
               have HNO:Hid (R=false):=dh (by rw [HRC2.out,df hk4];rfl);go_wp2_with fail
               go_ret
               exact ⟨by rw [HNO.out];try rfl,by rw [hB];exact HPW.out⟩
