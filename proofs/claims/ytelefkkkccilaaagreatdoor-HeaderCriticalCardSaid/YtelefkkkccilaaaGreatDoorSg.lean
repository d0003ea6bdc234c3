/- The reference's value: whether a label may have a value. -/
import Derived.Test.YtelefkkkccilaaaGreatDoorSf
set_option linter.all false
namespace Go.Proofs.YtelefkkkccilaaaGreatDoor
open Go.RowKit
set_option maxRecDepth 100000
theorem h_same {ok:Nat→Prop} {v1 v2:Value} {W:World} {x y:It} (h1:(Fh.it x).holds ok v1 W) (h2:(Fh.it y).holds ok v2 W):Calls Tryz.prog 30 #[v1,v2] W (EndO ok W (.eq (.bool (It.same x y)))):=by
 obtain ⟨A,rfl,hI⟩:=h1;obtain ⟨K,rfl,hK⟩:=h2;exact (same_any x y A K W _ _ hI hK).mono fun _ _ h=>⟨_,h.1,h.2,rfl⟩
theorem dlV {o:Oper} {ρ:Operand→Value} {w:World} {ok:Nat→Prop} {W:World} (x:Operand) (b:Nat) (k:It) (A:Ad) (hW:Below w.heap.size w W) (hb:w.heap[b]?=some (.cells #[.int .i64 k.kind,.int .u64 (k.num:Int),.slice A.ab A.nb A.cb,.slice A.ai A.ni A.ci] 26 (0,0))) (hI:IR ok w k A) (ho:o.op=.load 26 x) (hx:ρ x=.pointer (some ⟨b,0,none⟩)):Rg.Does Tryz.prog o ρ W fun v' w'=>RB' W w'∧True∧(Fh.it k).holds ok v' w':=by
 obtain ⟨a0,a1,a2,a3⟩:=cf (Below.keep hW hb (lb hb));exact dld x b 0 k A ho hx a0 a1 a2 a3 (hI.below hW)
def labs (q:Nat):Int:=if q=0 then 4 else if q=1 then 5 else if q=2 then 6 else 12
def VL1 (l ks:List It) (w1:World) (i:Value) (W:World):Prop:=∃ q:Nat,i=.int .i64 (q:Int)∧q≤ks.length∧(∀ y ∈ ks.take q,It.hasK l y=true)∧Below w1.heap.size w1 W
def VL2 (key:It) (w1:World) (i:Value) (W:World):Prop:=∃ q:Nat,i=.int .i64 (q:Int)∧q≤4∧(∀ j,j < q→It.same key (It.int (labs j))=false)∧Below w1.heap.size w1 W
set_option maxHeartbeats 16000000 in
theorem rvalue_any (key v m:It) (K A M:Ad) (w:World) (ok ok' ok2:Nat→Prop) (hI:IR ok w key K) (hJ:IR ok' w v A) (hM:IR ok2 w m M) (hvl:v.kids.length≤1000) (hml:m.kids.length≤1000):Calls Tryz.prog 86 #[.agg #[.int .i64 key.kind,.int .u64 (key.num:Int),.slice K.ab K.nb K.cb,.slice K.ai K.ni K.ci],.agg #[.int .i64 v.kind,.int .u64 (v.num:Int),.slice A.ab A.nb A.cb,.slice A.ai A.ni A.ci],.agg #[.int .i64 m.kind,.int .u64 (m.num:Int),.slice M.ab M.nb M.cb,.slice M.ai M.ni M.ci]] w (VP (It.valR key v m.kids) w):=by
 obtain ⟨P0,N0⟩:=an w (o4 key K);obtain ⟨P1,N1⟩:=an (w.alloc (o4 key K)) (o4 v A);obtain ⟨P2,N2⟩:=an ((w.alloc (o4 key K)).alloc (o4 v A)) (o4 m M);have hsz0:(w.alloc (o4 key K)).heap.size=w.heap.size + 1:=by simp
 have hsz1:((w.alloc (o4 key K)).alloc (o4 v A)).heap.size=w.heap.size + 2:=by simp
 rw [hsz0] at N1;rw [hsz1] at N2;have HX:=dh (Below.keep P2 (Below.keep P1 N0 (lb N0)) (lb (Below.keep P1 N0 (lb N0))));have HY:=dh (Below.keep P2 N1 (lb N1));have HZ:=dh N2;have HP:=dh (pt (pt P0 P1) P2);have HI:=dh (((((hI.imp (ok':=fun _=>True) fun _ _ _=>trivial).below P0).below P1).below P2));have HJ:=dh (((((hJ.imp (ok':=fun _=>True) fun _ _ _=>trivial).below P0).below P1).below P2));have HM:=dh (((((hM.imp (ok':=fun _=>True) fun _ _ _=>trivial).below P0).below P1).below P2));have HLN:=dh (And.intro hvl hml);clear hI hJ hM hvl hml N0 N1 N2 P0 P1 P2 hsz0 hsz1;obtain ⟨R,hRR⟩:∃ R,It.valR key v m.kids=R:=⟨_,rfl⟩;rw [hRR];have HRR:=dh hRR;clear hRR;go_enter Tryz.func86,Tryz.ntmps86
 go_upto_region 1 with fail
 generalize (((w.alloc (o4 key K)).alloc (o4 v A)).alloc (o4 m M))=w1 at *;generalize hB:w.heap.size=B at *;refine rgh (M:=4) (fun _=>True) [.it key,.it (It.int 1),.eq (.bool (It.same key (It.int 1))),.eq (.bool (It.same key (It.int 1)))] [.pl,.pl,.pl,.pl] 4 4 (.any) (by kernel_rfl) (by kernel_rfl) (by kernel_rfl) (fun _ _ o _ _ h=>by cases o <;> exact h) ?_ ?_
 ·refine ⟨?_,?_,?_,?_,trivial⟩<;>intro vs W hR _ hd
  ·exact dlV (.tmp 3) B key K hR HX.out HI.out rfl (by kernel_rfl)
  ·exact dcl (vals:=#[(.int .i64 1)]) 62 (.func 62) #[.const (.int .i64 1)] _ rfl (by kernel_rfl) (by kernel_rfl) (cq Tryz.func62) (h_rint 1 ⟨by decide,by decide⟩ W _)
  ·exact dcl (vals:=#[vs 0,vs 1]) 30 (.func 30) #[.tmp 14,.tmp 15] _ rfl (by kernel_rfl) (by kernel_rfl) (cq Tryz.func30) (h_same (hd 0 (by decide)) (hd 1 (by decide)))
  ·exact doesh_assign (.tmp 16) rfl (hd 2 (by decide))
 ·intro vs W2 hR2 hf hD hE
  have e3:vs 3=.bool (It.same key (It.int 1)):=hf 3 (by decide);have hQ2:Below w1.heap.size w1 W2:=hR2;have HP2:=dh (bwt HP.out hQ2 hB);have HX2:=kp hQ2 HX;have HY2:=kp hQ2 HY;have HZ2:=kp hQ2 HZ;have HI2:=dh (HI.out.below hQ2);have HJ2:=dh (HJ.out.below hQ2);have HM2:=dh (HM.out.below hQ2);clear HP HX HY HZ HI HJ HM;simp only [Rg.putAll,Rg.putFrom,List.take_succ_cons,List.take_zero,List.drop_succ_cons,List.drop_zero,Act.put,sx,Nat.zero_add,Nat.reduceAdd,e3];clear hf hD hE e3 hR2 hQ2;cases hs1:It.same key (It.int 1) with
  | true=>
    have HRV:Hid (R=((decide (v.kind=0) && decide (0 < v.num) || decide (v.kind=1)) && decide (v.num≤65535))):=dh (by rw [← HRR.out];unfold It.valR;rw [if_pos hs1]);obtain ⟨y0,y1,y2,y3⟩:=cf HY2.out;clear hs1 HRR;have hkk:(v.kind=0∧(v.kind==0)=true∧(v.kind==1)=false)∨(v.kind=1∧(v.kind==0)=false∧(v.kind==1)=true)∨(¬ v.kind=0∧¬ v.kind=1∧(v.kind==0)=false∧(v.kind==1)=false):=by
     by_cases k0:v.kind=0
     ·exact .inl ⟨k0,by rw [k0];rfl,by rw [k0];rfl⟩
     by_cases k1:v.kind=1
     ·exact .inr (.inl ⟨k1,by rw [k1];rfl,by rw [k1];rfl⟩)
     ·exact .inr (.inr ⟨k0,k1,by simpa using k0,by simpa using k1⟩)
    have hll:((v.num≤65535∧decide ((v.num:Int)≤65535)=true)∨(¬ v.num≤65535∧decide ((v.num:Int)≤65535)=false)):=by
     by_cases l:v.num≤65535
     ·exact .inl ⟨l,dt (by omega)⟩
     ·exact .inr ⟨l,df (by omega)⟩
    by_cases hn0:v.num=0
    ·have hn0b:decide ((0:Int) < (v.num:Int))=false:=df (by omega)
     rcases hkk with ⟨k0,k0b,k1b⟩ | ⟨k1,k0b,k1b⟩ | ⟨k0,k1,k0b,k1b⟩ <;> rcases hll with ⟨l,lb⟩ | ⟨l,lb⟩ <;> first | (exfalso;omega) | (go_wp2_with fail;go_ret;exact ⟨by rw [HRV.out];simp [*],by rw [hB];exact HP2.out⟩)
    ·have hn0b:decide ((0:Int) < (v.num:Int))=true:=dt (by omega)
     have hn0c:0 < v.num:=by omega
     rcases hkk with ⟨k0,k0b,k1b⟩ | ⟨k1,k0b,k1b⟩ | ⟨k0,k1,k0b,k1b⟩ <;> rcases hll with ⟨l,lb⟩ | ⟨l,lb⟩ <;> first | (exfalso;omega) | (go_wp2_with fail;go_ret;exact ⟨by rw [HRV.out];simp [*],by rw [hB];exact HP2.out⟩)
  | false=>
    have HS1:=dh hs1;clear hs1;go_upto_region 3 with fail
    refine rgh (M:=4) (fun _=>True) [.it key,.it (It.int 2),.eq (.bool (It.same key (It.int 2))),.eq (.bool (It.same key (It.int 2)))] [.pl,.pl,.pl,.pl] 4 4 (.any) (by kernel_rfl) (by kernel_rfl) (by kernel_rfl) (fun _ _ o _ _ h=>by cases o <;> exact h) ?_ ?_
    ·refine ⟨?_,?_,?_,?_,trivial⟩<;>intro vs W hR _ hd
     ·exact dlV (.tmp 3) B key K hR HX2.out HI2.out rfl (by kernel_rfl)
     ·exact dcl (vals:=#[(.int .i64 2)]) 62 (.func 62) #[.const (.int .i64 2)] _ rfl (by kernel_rfl) (by kernel_rfl) (cq Tryz.func62) (h_rint 2 ⟨by decide,by decide⟩ W _)
     ·exact dcl (vals:=#[vs 0,vs 1]) 30 (.func 30) #[.tmp 36,.tmp 37] _ rfl (by kernel_rfl) (by kernel_rfl) (cq Tryz.func30) (h_same (hd 0 (by decide)) (hd 1 (by decide)))
     ·exact doesh_assign (.tmp 38) rfl (hd 2 (by decide))
    ·intro vs W3 hR3 hf hD hE
     have e3:vs 3=.bool (It.same key (It.int 2)):=hf 3 (by decide);have hQ3:Below W2.heap.size W2 W3:=hR3;have HP3:=dh (bwt HP2.out hQ3 hB);have HX3:=kp hQ3 HX2;have HY3:=kp hQ3 HY2;have HZ3:=kp hQ3 HZ2;have HI3:=dh (HI2.out.below hQ3);have HJ3:=dh (HJ2.out.below hQ3);have HM3:=dh (HM2.out.below hQ3);clear HP2 HX2 HY2 HZ2 HI2 HJ2 HM2;simp only [Rg.putAll,Rg.putFrom,List.take_succ_cons,List.take_zero,List.drop_succ_cons,List.drop_zero,Act.put,sx,Nat.zero_add,Nat.reduceAdd,e3];clear hf hD hE e3 hR3 hQ3;cases hs2:It.same key (It.int 2) with
     | true=>
       have HRV:Hid (R=(if v.kind≠4∨v.kids.length=0 then false else v.kids.all (It.hasK m.kids))):=dh (by rw [← HRR.out];unfold It.valR;rw [if_neg (by rw [HS1.out];decide),if_pos hs2]);obtain ⟨y0,y1,y2,y3⟩:=cf HY3.out;have HNI:Hid (A.ni=v.kids.length):=dh HJ3.out.tl.1;clear hs2 HRR;by_cases hk4:v.kind=4
       case neg=>
        have hk4b:(v.kind !=4)=true:=by simpa using hk4
        have HNO:Hid (R=false):=dh (by rw [HRV.out,if_pos (.inl hk4)]);go_wp2_with fail
        go_ret
        exact ⟨by rw [HNO.out];try rfl,by rw [hB];exact HP3.out⟩
       have hk4b:(v.kind !=4)=false:=by simpa using hk4
       by_cases hl0:v.kids.length=0
       ·have hl0z:A.ni=0:=by have:=HNI.out;omega
        have hl0b:((A.ni:Int)==0)=true:=by simpa using hl0z
        have HNO:Hid (R=false):=dh (by rw [HRV.out,if_pos (.inr hl0)]);go_wp2_with fail
        go_ret
        exact ⟨by rw [HNO.out];try rfl,by rw [hB];exact HP3.out⟩
       have hl0b:((A.ni:Int)==0)=false:=by have:=HNI.out;simpa using (show ¬ (A.ni:Int)=0 by omega)
       have HRA:Hid (R=v.kids.all (It.hasK m.kids)):=dh (by rw [HRV.out,if_neg (by omega)]);clear HRV hk4 hl0;obtain ⟨ab,nb,cb,ai,ni,ci⟩:=A
       dsimp only at *
       go_upto_region 7 with fail
       go_loopw [51] (VL1 m.kids v.kids W3) (fun i _=>v.kids.length - (intOf i).toNat)
       case atStart=>exact ⟨0,rfl,by omega,fun y hy=>by simp at hy,Below.refl _ _⟩
       case round=>
        obtain ⟨v0,hv0⟩:∃ v0,v0=wr:=⟨_,rfl⟩;subst hv0;obtain ⟨q,rfl,hq,hall,hB11⟩:=hrel;by_cases hqL:q < v.kids.length
        ·have hqz:(q:Int) < (ni:Int):=by have:=HNI.out;omega
         have hwq:IntKind.i64.wrap ((q:Int) + 1)=((q + 1:Nat):Int):=by have:=HLN.out.1;rw [IntWalk.i64_in _ (by omega)];omega
         obtain ⟨b,o,Y,hab,_,⟨c0,c1,c2,c3⟩,hIe⟩:=(HJ3.out.tl.below hB11).2.2 q hqL;have htake:v.kids.take (q + 1)=v.kids.take q ++ [v.kids[q]]:=List.take_succ_eq_append_getElem hqL;have HQL:=dh hqL;have HTAKE:=dh htake;clear htake;generalize v.kids[q]=y at *;have hab:ai=some ⟨b,o,none⟩:=hab;subst hab;obtain ⟨P5,N5⟩:=an v0 (o4 y Y);have HB5:=dh (hB11.trans (P5.mono hB11.size));have HP5:=dh (bwt HP3.out HB5.out hB);have HN5:=dh N5;have HZ5:=kp HB5.out HZ3;have HALL:=dh hall;have HCF:=dh (at_any m y M Y (v0.alloc (o4 y Y)) _ _ (HM3.out.below HB5.out) (hIe.below P5) HLN.out.2);clear P5 N5 hB11 hall hIe y0 y1 y2 y3;go_upto_region 9 with fail
         clear c0 c1 c2 c3;generalize v0.alloc _=v1 at *;generalize v0.heap.size=T5 at *;obtain ⟨c0,c1,c2,c3⟩:=cf HN5.out;have x:=cf HZ5.out;cases hlk:It.look m.kids y with
         | none=>
           rw [hlk] at HCF;have HNO:Hid (R=false):=dh (by
            rw [HRA.out];have hm:y ∈ v.kids:=List.mem_of_mem_take (by rw [HTAKE.out];simp);rw [Bool.eq_false_iff];intro h;rw [List.all_eq_true] at h;have:=h y hm;unfold It.hasK at this;rw [hlk] at this;cases this)
           clear hlk;go_wp2_with fail
           refine HCF.out.mono ?_;rintro e6 v6 ⟨rfl,B6⟩;have HPW:=dh (bwt (bwt HP5.out B6 hB) (al v6 o4z) hB);clear B6 HCF;go_wp2_with fail
           go_ret
           exact ⟨by rw [HNO.out];try rfl,by rw [hB];exact HPW.out⟩
         | some z=>
           rw [hlk] at HCF;have HNK:Hid (It.hasK m.kids y=true):=dh (by unfold It.hasK;rw [hlk];rfl);clear hlk;go_wp2_with fail
           refine HCF.out.mono ?_;rintro e6 v6 ⟨ZB,rfl,_,B6⟩;have HB6:=dh ((HB5.out.trans (B6.mono HB5.out.size)).trans ((al v6 (o4 z ZB)).mono (Nat.le_trans HB5.out.size B6.size)));clear B6 HCF;go_wp2_with fail
           go_roundw
           case rel=>
            refine ⟨q + 1,by go_num,by have:=HQL.out;omega,fun e' he'=>?_,HB6.out⟩;rw [HTAKE.out] at he';rcases List.mem_append.1 he' with h | h
            ·exact HALL.out e' h
            ·simp only [List.mem_singleton] at h;subst h;exact HNK.out
           case measure=>have:=HQL.out;simp [intOf];omega
        ·have hqz:¬ (q:Int) < (ni:Int):=by have:=HNI.out;omega
         have HNO:Hid (R=true):=dh (by
          rw [HRA.out,List.all_eq_true];intro y hy;exact hall y (by rw [List.take_of_length_le (by omega)];exact hy))
         have HPW:=dh (bwt HP3.out hB11 hB);clear hall hB11;go_wp2_with fail
         go_ret
         exact ⟨by rw [HNO.out];try rfl,by rw [hB];exact HPW.out⟩
     | false=>
       have HS2:=dh hs2;clear hs2;have P4:=al W3 (.cells #[.int .i64 4,.int .i64 5,.int .i64 6,.int .i64 12] 3);have N4:=aw W3 (.cells #[.int .i64 4,.int .i64 5,.int .i64 6,.int .i64 12] 3);have HROW:=dh N4;have HP4:=dh (bwt HP3.out P4 hB);have HX4:=kp P4 HX3;have HY4:=kp P4 HY3;have HZ4:=kp P4 HZ3;have HI4:=dh (HI3.out.below P4);have HJ4:=dh (HJ3.out.below P4);have HM4:=dh (HM3.out.below P4);clear HP3 HX3 HY3 HZ3 HI3 HJ3 HM3;clear N4 P4;go_upto_region 15 with fail
       generalize W3.alloc _=w4 at *;generalize W3.heap.size=T at *;go_loopw [66] (VL2 key w4) (fun i _=>4 - (intOf i).toNat)
       case atStart=>exact ⟨0,rfl,by omega,fun j hj=>absurd hj (by omega),Below.refl _ _⟩
       case round=>
        obtain ⟨v0,hv0⟩:∃ v0,v0=wr:=⟨_,rfl⟩;subst hv0;obtain ⟨q,rfl,hq,hall,hB5⟩:=hrel;by_cases hqL:q < 4
        ·have hqz:(q:Int) < 4:=by omega
         obtain ⟨z,hz⟩:∃ z:Int,labs q=z:=⟨_,rfl⟩;have hcell:v0.cell? ⟨T,q,none⟩=some (.int .i64 z):=by
          have hk:=Below.keep hB5 HROW.out (lb HROW.out);rw [cr hk,← hz];rcases (show q=0∨q=1∨q=2∨q=3 by omega) with rfl | rfl | rfl | rfl <;> rfl
         have hzz:z=4∨z=5∨z=6∨z=12:=by
          rw [← hz];rcases (show q=0∨q=1∨q=2∨q=3 by omega) with rfl | rfl | rfl | rfl <;> simp [labs]
         have HNB:Hid (-9223372036854775808≤z∧z≤9223372036854775807):=dh (by omega);have HZZ:=dh hzz;have HZQ:=dh hz;have HQL:=dh hqL;have HALL:=dh hall;have HB5:=dh hB5;have HP5:=dh (bwt HP4.out hB5 hB);have HX5:=kp hB5 HX4;have HY5:=kp hB5 HY4;have HI5:=dh (HI4.out.below hB5);clear hz hzz hB5 hall;go_upto_region 17 with fail
         clear hcell;refine rgh (M:=4) (fun _=>True) [.it key,.eq (.int .i64 z),.it (It.int z),.eq (.bool (It.same key (It.int z)))] [.pl,.pl,.pl,.pl] 4 4 (.any) (by kernel_rfl) (by kernel_rfl) (by kernel_rfl) (fun _ _ o _ _ h=>by cases o <;> exact h) ?_ ?_
         ·refine ⟨?_,?_,?_,?_,trivial⟩<;>intro vs W hR _ hd
          ·exact dlV (.tmp 3) B key K hR HX5.out HI5.out rfl (by kernel_rfl)
          ·exact dmv (.tmp 12) rfl (show _=_ by kernel_rfl)
          ·have e1:vs 1=.int .i64 z:=(hd 1 (by decide));exact dcl (vals:=#[vs 1]) 62 (.func 62) #[.tmp 71] _ rfl (by kernel_rfl) (by kernel_rfl) (cq Tryz.func62) (by rw [e1];exact h_rint z HNB.out W _)
          ·exact dcl (vals:=#[vs 0,vs 2]) 30 (.func 30) #[.tmp 70,.tmp 72] _ rfl (by kernel_rfl) (by kernel_rfl) (cq Tryz.func30) (h_same (hd 0 (by decide)) (hd 2 (by decide)))
         ·intro vs W6 hR6 hf hD hE
          have e3:vs 3=.bool (It.same key (It.int z)):=hf 3 (by decide);have hQ6:Below v0.heap.size v0 W6:=hR6;have HP6:=dh (bwt HP5.out hQ6 hB);have HB6:=dh (HB5.out.trans (hQ6.mono HB5.out.size));have HY6:=kp hQ6 HY5;simp only [Rg.putAll,Rg.putFrom,List.take_succ_cons,List.take_zero,List.drop_succ_cons,List.drop_zero,Act.put,sx,Nat.zero_add,Nat.reduceAdd,e3];clear hf hD hE e3 hR6 hQ6;cases hsz:It.same key (It.int z) with
          | true=>
            obtain ⟨y0,y1,y2,y3⟩:=cf HY6.out;have HNO:Hid (R=(v.kind==2)):=dh (by
             rw [← HRR.out];unfold It.valR;rw [if_neg (by rw [HS1.out];decide),if_neg (by rw [HS2.out];decide),if_pos (by
              rcases HZZ.out with h | h | h | h
              ·subst h;exact .inl hsz
              ·subst h;exact .inr (.inl hsz)
              ·subst h;exact .inr (.inr (.inl hsz))
              ·subst h;exact .inr (.inr (.inr hsz)))]
             rfl)
            clear hsz;obtain ⟨r,hr⟩:∃ r,(v.kind==2)=r:=⟨_,rfl⟩;rw [hr] at HNO;have HPW:=HP6;go_wp2_with fail
            go_ret
            exact ⟨by rw [HNO.out];try rfl,by rw [hB];exact HPW.out⟩
          | false=>
            have HSZ:=dh hsz;clear hsz;go_wp2_with fail
            go_roundw
            case rel=>
             refine ⟨q + 1,by go_num,by have:=HQL.out;omega,fun j hj=>?_,HB6.out⟩;by_cases hjq:j < q
             ·exact HALL.out j hjq
             ·obtain rfl:j=q:=by omega
              rw [HZQ.out];exact HSZ.out
            case measure=>have:=HQL.out;simp [intOf];omega
        ·have hqz:¬ (q:Int) < 4:=by omega
         have HNO:Hid (R=true):=dh (by
          rw [← HRR.out];unfold It.valR;have h0:=hall 0 (by omega);have h1:=hall 1 (by omega);have h2:=hall 2 (by omega);have h3:=hall 3 (by omega);simp only [labs,if_true,if_false,Nat.one_ne_zero,Nat.succ_ne_self,reduceCtorEq] at h0 h1 h2 h3;rw [if_neg (by rw [HS1.out];decide),if_neg (by rw [HS2.out];decide),if_neg];simp at h0 h1 h2 h3;rw [h0,h1,h2,h3];decide)
         have HPW:=dh (bwt HP4.out hB5 hB);clear hall hB5;go_wp2_with fail
         go_ret
         exact ⟨by rw [HNO.out];try rfl,by rw [hB];exact HPW.out⟩
