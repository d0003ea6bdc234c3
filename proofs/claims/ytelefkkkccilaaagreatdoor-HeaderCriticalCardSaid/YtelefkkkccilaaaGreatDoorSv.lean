/- Headers: Critical. -/
import Derived.Test.YtelefkkkccilaaaGreatDoorSt
set_option maxHeartbeats 16000000
set_option linter.all false
namespace Go.Proofs.YtelefkkkccilaaaGreatDoor
open Go.RowKit
set_option maxRecDepth 100000
def NL (w:World) (a:Option Addr) (n:Nat) (l:List Int):Prop:=n=l.length∧n≤9223372036854775807∧∀ j (h:j < l.length),∃ bl ol,a=some ⟨bl,ol,none⟩∧w.cell? ⟨bl,ol + j,none⟩=some (.int .i64 l[j])∧-9223372036854775808≤l[j]∧l[j]≤9223372036854775807
theorem NL.below {w w':World} {a:Option Addr} {n:Nat} {l:List Int} (h:NL w a n l) (k:Below w.heap.size w w'):NL w' a n l:=
 ⟨h.1,h.2.1,fun j hj=>by
  obtain ⟨bl,ol,e,hc,hb⟩:=h.2.2 j hj;exact ⟨bl,ol,e,(k.cell (p:=⟨bl,ol + j,none⟩) (lg hc)).trans hc,hb⟩⟩
def fitL (n:Int) (y:It):Bool:=decide (y.kind=(It.int n).kind) && decide (y.num=(It.int n).num)
def CrP (r:Nat) (w:World) (e:Ending) (w':World):Prop:=e=.returned (.int .i64 (r:Int))∧Below w.heap.size w w'
theorem any_next {f:Int→Bool} {l:List Int} {q:Nat} (h:q < l.length):(l.take (q + 1)).any f=((l.take q).any f || f l[q]):=by
 rw [List.take_succ_eq_append_getElem h,List.any_append];simp
theorem all_no {f:It→Bool} {l:List It} {j:Nat} (h:j < l.length) (hf:f l[j]=false):l.all f=false:=by
 rw [Bool.eq_false_iff];intro hh;rw [List.all_eq_true] at hh;rw [hh _ (List.getElem_mem h)] at hf;cases hf
theorem critL_of {p u:It} {known:List Int} (hv:It.hvalid p u=true) {r:Option It} (hr:It.look p.kids (It.int 2)=r):It.critL p u known=if (It.opt r).kids.all (It.knowsL known)=true then 0 else 14:=by
 unfold It.critL;rw [if_neg (by rw [hv];decide),hr];cases r with
 | none=>rfl
 | some c=>rfl
theorem critP_of {p u:It} {known:List Int} (hv:It.hvalid p u=true) {r:Option It} (hr:It.look p.kids (It.int 2)=r):It.critP p u known=if (It.opt r).kids.all (It.knows known)=true then 0 else 14:=by
 unfold It.critP;rw [if_neg (by rw [hv];decide),hr];cases r with
 | none=>rfl
 | some c=>rfl
def CL1 (F:It→Bool) (l:List It) (w5:World) (i:Value) (W:World):Prop:=∃ j:Nat,i=.int .i64 (j:Int)∧j≤l.length∧(∀ y ∈ l.take j,F y=true)∧Below w5.heap.size w5 W
def CL2 (F:Int→Bool) (l:List Int) (w8:World) (u i:Value) (W:World):Prop:=∃ q:Nat,i=.int .i64 (q:Int)∧u=.bool ((l.take q).any F)∧q≤l.length∧Below w8.heap.size w8 W
theorem is_any (n:Int) (w:World) (h0: -9223372036854775808≤n) (h1:n≤9223372036854775807):Calls Tryz.prog 98 #[.int .i64 n] w fun e w'=>(∃ (T:Nat) (K:Ad),e=.returned (.func (.func 122) #[] #[.pointer (some ⟨T,0,none⟩)])∧w'.heap[T]?=some (.cells #[.int .i64 (It.int n).kind,.int .u64 ((It.int n).num:Int),.slice K.ab K.nb K.cb,.slice K.ai K.ni K.ci] 26 (0,0)))∧Below w.heap.size w w':=by
 go_enter Tryz.func98,Tryz.ntmps98
 go_wp2_with fail
 refine (h_cint n ⟨h0,h1⟩ w (fun _=>True)).mono ?_;rintro e w1 ⟨_,rfl,B1,K,rfl,_⟩;have hQ:=dh (pt B1 (al w1 (o4 (It.int n) K)));have hT:=dh (aw w1 (o4 (It.int n) K));clear B1 h0 h1;go_upto_region 2 with fail
 generalize w1.alloc _=w2 at *;generalize w1.heap.size=T at *;go_wp2_with fail
 go_ret
 exact ⟨⟨T,K,rfl,hT.out⟩,hQ.out⟩
theorem fit_any (n:Int) (y:It) (Y K:Ad) (T:Nat) (w:World) (hT:w.heap[T]?=some (.cells #[.int .i64 (It.int n).kind,.int .u64 ((It.int n).num:Int),.slice K.ab K.nb K.cb,.slice K.ai K.ni K.ci] 26 (0,0))):Calls Tryz.prog 122 #[.agg #[.int .i64 y.kind,.int .u64 (y.num:Int),.slice Y.ab Y.nb Y.cb,.slice Y.ai Y.ni Y.ci],.pointer (some ⟨T,0,none⟩)] w (VP (fitL n y) w):=by
 have P0:=al w (o4 y Y);have HB:=dh (aw w (o4 y Y));have HT:=dh (Below.keep P0 hT (lb hT));have HP:=dh P0;clear P0 hT;go_enter Tryz.func122,Tryz.ntmps122
 go_upto_region 1 with fail
 generalize w.alloc _=w1 at *;generalize hB:w.heap.size=B at *;have t:=cf HT.out;have z:=cf HB.out;have HF:Hid (fitL n y=(decide (y.kind=(It.int n).kind) && decide (y.num=(It.int n).num))):=dh rfl;by_cases hk:y.kind=(It.int n).kind
 ·have hkb:(y.kind==(It.int n).kind)=true:=by simpa using hk
  by_cases hn:y.num=(It.int n).num
  ·have hnb:((y.num:Int)==((It.int n).num:Int))=true:=by simp [hn]
   have HR:Hid (fitL n y=true):=dh (by rw [HF.out,hk,hn];simp);clear hk hn;go_wp2_with fail
   go_ret
   exact ⟨by rw [HR.out];rfl,by rw [hB];exact HP.out⟩
  ·have hnb:((y.num:Int)==((It.int n).num:Int))=false:=by simp;omega
   have HR:Hid (fitL n y=false):=dh (by rw [HF.out];simp [hn]);clear hk hn;go_wp2_with fail
   go_ret
   exact ⟨by rw [HR.out];rfl,by rw [hB];exact HP.out⟩
 ·have hkb:(y.kind==(It.int n).kind)=false:=by simpa using hk
  have HR:Hid (fitL n y=false):=dh (by rw [HF.out];simp [hk]);clear hk;go_wp2_with fail
  go_ret
  exact ⟨by rw [HR.out];rfl,by rw [hB];exact HP.out⟩
theorem hcrit_any (p u:It) (A C:Ad) (w:World) (ok ok':Nat→Prop) (hI:IR ok w p A) (hJ:IR ok' w u C) (hE:Env w) (known:List Int) (ka:Option Addr) (kn kc:Nat) (hK:NL w ka kn known):Calls Tryz.prog 37 #[.agg #[.int .i64 p.kind,.int .u64 (p.num:Int),.slice A.ab A.nb A.cb,.slice A.ai A.ni A.ci,.int .i64 u.kind,.int .u64 (u.num:Int),.slice C.ab C.nb C.cb,.slice C.ai C.ni C.ci],.slice ka kn kc] w (CrP (It.critL p u known) w):=by
 have P0:=al w (o8 p u A C);have HX:=dh (aw w (o8 p u A C));have HP:=dh P0;have HI:=dh ((hI.imp (ok':=fun _=>True) fun _ _ _=>trivial).below P0);have HJ:=dh ((hJ.imp (ok':=fun _=>True) fun _ _ _=>trivial).below P0);have HE:=dh (hE.below P0);have HK:=dh (hK.below P0);clear P0 hI hJ hE hK;go_enter Tryz.func37,Tryz.ntmps37
 go_upto_region 1 with fail
 generalize w.alloc _=w1 at *;generalize hB:w.heap.size=B at *;have x:=ce HX.out;cases hv:It.hvalid p u with
 | false=>
   have HC:=dh (hva p u A C w1 _ _ HI.out HJ.out HE.out);rw [hv] at HC;have HR:Hid (It.critL p u known=1):=dh (by unfold It.critL;rw [if_pos hv]);clear hv;go_wp2_with fail
   refine HC.out.mono ?_;rintro e v1 ⟨rfl,B1⟩;have HPW:=dh (bwt HP.out B1 hB);clear B1 HC HX x;go_wp2_with fail
   go_ret
   exact ⟨by rw [HR.out];rfl,by rw [hB];exact HPW.out⟩
 | true=>
   have HC:=dh (hva p u A C w1 _ _ HI.out HJ.out HE.out);rw [hv] at HC;have HV:=dh hv;clear hv;go_wp2_with fail
   refine HC.out.mono ?_;rintro e w2 ⟨rfl,B1⟩;have HP2:=dh (bwt HP.out B1 hB);have HX2:=kp B1 HX;have HI2:=dh (HI.out.below B1);have HJ2:=dh (HJ.out.below B1);have HE2:=dh (HE.out.below B1);have HK2:=dh (HK.out.below B1);clear B1 HC HX HP HI HJ HE HK x;have HFL:=dh (findP_look (q:=It.int 2) (by have h:=HV.out;unfold It.hvalid at h;simp only [Bool.and_eq_true] at h;exact h.1.1.1.1.1:It.mapOk p=true));go_upto_region 3 with fail
   refine rgh (M:=8) (fun _=>True) [.eq (.pointer (some ⟨B,0,none⟩)),.it p,.it (It.int 2),.op (It.findP p (It.int 2)),.op (It.findP p (It.int 2)),.it (It.opt (It.findP p (It.int 2))),.eq (.bool (It.findP p (It.int 2)).isSome),.bk w2.heap.size o4z] [.pl,.pl,.pl,.pa,.la,.la,.la,.pa] 3 7 (.op (It.findP p (It.int 2))) (by kernel_rfl) (by kernel_rfl) (by kernel_rfl) (fun _ _ o _ _ h=>by cases o <;> exact h) ?_ ?_
   ·refine ⟨?_,?_,?_,?_,?_,?_,?_,?_,trivial⟩<;>intro vs W hR _ hd
    ·exact dfd 28 (.tmp 2) (B) 0 0 rfl (by kernel_rfl) (fieldH0 _)
    ·exact dlP (.tmp 16) (B) p u A C hR HX2.out HI2.out rfl (hd 0 (by decide))
    ·exact dcl (vals:=#[(.int .i64 2)]) 69 (.func 69) #[.const (.int .i64 2)] _ rfl (by kernel_rfl) (by kernel_rfl) (cq Tryz.func69) (h_cint 2 (by decide) W _)
    ·exact dfi (vals:=#[vs 1,vs 2]) 63 (.func 63) #[.tmp 17,.tmp 18] _ rfl (by kernel_rfl) (by kernel_rfl) (cq Tryz.func63) rfl rfl (by decide) (fun _ _=>trivial) (h_cfind (hd 1 (by decide)) (hd 2 (by decide)) (HE2.out.below hR))
    ·exact late_move (.tmp 19) rfl (hd 3 (by decide))
    ·exact late_op0 (.tmp 15) rfl (hd 4 (by decide))
    ·exact late_op1 (.tmp 15) rfl (hd 4 (by decide))
    ·exact dal rfl rfl rfl (by decide) hR.size
   ·intro vs W2 hR2 hf hD hE
    obtain ⟨T,e7,hT,hTn⟩:=hf 7 (by decide);obtain ⟨ZZ,e3,hI3⟩:=hD (by decide) (by decide) T e7;have e4:vs 4=_:=(exm (hE 4 _ (by decide) rfl W2) (.tmp 19) rfl).trans e3;have e5:vs 5=_:=ex0 (hE 5 _ (by decide) rfl W2) (.tmp 15) rfl e4;have e6:vs 6=_:=ex1 (hE 6 _ (by decide) rfl W2) (.tmp 15) rfl e4;have HT:=dh hT;have HTN:Hid (w2.heap.size≤T):=dh hTn;have HI3:=dh hI3;have HB2:Hid (Below w2.heap.size w2 W2):=dh hR2;simp only [Rg.putAll,Rg.putFrom,List.take_succ_cons,List.take_zero,List.drop_succ_cons,List.drop_zero,Act.put,sx,Nat.zero_add,Nat.reduceAdd,e5,e6,e7];clear hf hD hE e3 e4 e5 e6 e7 hI3 hT hTn hR2;obtain ⟨r,hr⟩:∃ r,It.look p.kids (It.int 2)=r:=⟨_,rfl⟩;have HR:=dh (critL_of (known:=known) HV.out hr);have hr':=HFL.out.trans hr;clear hr HFL;generalize It.findP p (It.int 2)=r0 at *;have hr':=hr'.symm;subst hr';obtain ⟨f0,f1,f2,f3⟩:=ff HT.out;obtain ⟨t0,t1,t2,t3⟩:=cf HT.out;go_upto_region 4 with fail
    clear f0 f1 f2 f3 t0 t1 t2 t3;obtain ⟨W',hW',hp4,hs4,hb4⟩:=p4I (W:=W2) (b:=T) HT.out (It.opt r) ZZ;rw [hW'];clear hW';have HB5:=dh (hb4 _ _ HB2.out HTN.out);have HI5:=dh (HI3.out.keep (w':=W') (ok':=fun _=>True) fun k hk _=>⟨hs4.2 k hk.1,trivial⟩);have HT5:=dh hp4;clear hp4 hs4 hb4 HT HI3 HB2;generalize W'=w5 at *;have HP5:=dh (bwt HP2.out HB5.out hB);have HE5:=dh (HE2.out.below HB5.out);have HK5:=dh (HK2.out.below HB5.out);have HTL:=dh HI5.out.tl;have HNI:Hid (ZZ.ni=(It.opt r).kids.length):=dh HI5.out.tl.1;have HKN:Hid (kn=known.length):=dh HK5.out.1;have HCM:Hid (ZZ.ni≤9223372036854775807∧kn≤9223372036854775807):=dh ⟨HI5.out.tl.2.1,HK5.out.2.1⟩;clear HI5 HP2 HE2 HK2 HB5 HX2 HI2 HJ2;generalize (It.opt r).kids=ks at *;have t:=cf HT5.out;go_upto_region 5 with fail
    clear t;go_loopw [25] (fun i W=>CL1 (It.knowsL known) ks w5 i W) (fun i _=>ks.length - (intOf i).toNat)
    case atStart=>exact ⟨0,rfl,by omega,fun y hy=>by simp at hy,Below.refl _ _⟩
    case round=>
     obtain ⟨u0,hu0⟩:∃ u0,u0=wr:=⟨_,rfl⟩;subst hu0;obtain ⟨j,rfl,hj,hall,hBj⟩:=hrel;by_cases hjn:j < ks.length
     ·have hjz:(j:Int) < (ZZ.ni:Int):=by have:=HNI.out;omega
      have hcm:(ZZ.ni:Int)≤9223372036854775807:=by have:=HCM.out;omega
      obtain ⟨bl,o,Y,ha,_,⟨c0,c1,c2,c3⟩,hIy⟩:=(HTL.out.below hBj).2.2 j hjn;have PA:=al u0 (.cells #[.int .i64 ks[j].kind,.int .u64 (ks[j].num:Int),.slice Y.ab Y.nb Y.cb,.slice Y.ai Y.ni Y.ci] 26);have hQ:=pt hBj PA;have HY8:=dh (aw u0 (.cells #[.int .i64 ks[j].kind,.int .u64 (ks[j].num:Int),.slice Y.ab Y.nb Y.cb,.slice Y.ai Y.ni Y.ci] 26));have HYI:=dh (hIy.below PA);have HB8:=dh hQ;have HE8:=dh (HE5.out.below hQ);have HK8:=dh (HK5.out.below hQ);have HALL:=dh hall;have HJN:=dh hjn;have HGY:Hid (∀ b,It.knowsL known ks[j]=b→b=(known.any fun n=>decide (ks[j].kind=(It.int n).kind) && decide (ks[j].num=(It.int n).num))):=dh fun b hb=>hb.symm
      have HNO:Hid (It.knowsL known ks[j]=false→ks.all (It.knowsL known)=false):=dh fun h=>all_no hjn h
      have HYES:Hid (It.knowsL known ks[j]=true→∀ y ∈ ks.take (j + 1),It.knowsL known y=true):=dh fun h y hy=>by
       rw [List.take_succ_eq_append_getElem HJN.out] at hy;rcases List.mem_append.1 hy with hy | hy
       ·exact HALL.out y hy
       ·simp only [List.mem_singleton] at hy;subst hy;exact h
      rw [ha] at *;clear hIy hBj hall hj PA hQ HALL;generalize ks[j]=y at *;clear hjn;go_upto_region 8 with fail
      clear c0 c1 c2 c3 hjz hcm;generalize u0.alloc _=w8 at *;generalize u0.heap.size=T8 at *;go_upto_region 9 with fail
      go_loopw [9,31] (fun u i W=>CL2 (fun n=>decide (y.kind=(It.int n).kind) && decide (y.num=(It.int n).num)) known w8 u i W) (fun _ i _=>known.length - (intOf i).toNat)
      case atStart=>exact ⟨0,rfl,by simp,by omega,Below.refl _ _⟩
      case round=>
       obtain ⟨u1,hu1⟩:∃ u1,u1=wr:=⟨_,rfl⟩;subst hu1;obtain ⟨q,rfl,rfl,hq,hBq⟩:=hrel;by_cases hqn:q < known.length
       ·have hqz:(q:Int) < (kn:Int):=by have:=HKN.out;omega
        have hcm:(kn:Int)≤9223372036854775807:=by have:=HCM.out;omega
        obtain ⟨kb,ko,hka,hcn,hn0,hn1⟩:=(HK8.out.below hBq).2.2 q hqn;have HANY:=dh (any_next (f:=fun n=>decide (y.kind=(It.int n).kind) && decide (y.num=(It.int n).num)) hqn);have HQN:=dh hqn;have HN:=dh (And.intro hn0 hn1);have HB9:=dh hBq;have HY9:=kp hBq HY8;have HYI9:=dh (HYI.out.below hBq);have HE9:=dh (HE8.out.below hBq);rw [hka] at *;clear hBq hq hn0 hn1;generalize known[q]=n at *;clear hqn;go_upto_region 11 with fail
        clear hcn hqz hcm;generalize (known.take q).any (fun n=>decide (y.kind=(It.int n).kind) && decide (y.num=(It.int n).num))=ub at *;cases ub with
        | false=>
          have HS:Hid (∀ W,Below u1.heap.size u1 W→W.cell? ⟨T8,0,none⟩=some (.int .i64 y.kind)∧W.cell? ⟨T8,1,none⟩=some (.int .u64 (y.num:Int))∧W.cell? ⟨T8,2,none⟩=some (.slice Y.ab Y.nb Y.cb)∧W.cell? ⟨T8,3,none⟩=some (.slice Y.ai Y.ni Y.ci)):=dh fun W hW=>ck hW HY9
          refine wp_region_held_drew (S:=(fun w'=>w'.cell? ⟨T8,0,none⟩=some (.int .i64 y.kind)∧w'.cell? ⟨T8,1,none⟩=some (.int .u64 (y.num:Int))∧w'.cell? ⟨T8,2,none⟩=some (.slice Y.ab Y.nb Y.cb)∧w'.cell? ⟨T8,3,none⟩=some (.slice Y.ai Y.ni Y.ci))) (by kernel_rfl) (HS.out _ (Below.refl _ _).drew) (fun hHeld=>?_);refine tk 0 rfl hHeld ?_;simp only [Act.put,sx]
          refine tk 1 rfl hHeld ?_;simp only [Act.put,sx]
          refine tk 2 rfl hHeld ?_;simp only [Act.put,sx]
          refine tk 4 rfl hHeld ?_;simp only [Act.put,sx]
          refine ry 3 (by kernel_rfl) rfl fun K1 hK1=>?_
          go_simp
          refine (is_any n u1.drew HN.out.1 HN.out.2).mono ?_;rintro e V3 ⟨⟨TK,KK,rfl,hTK⟩,B3⟩;have HTK:=dh hTK;have HB3:Hid (Below u1.heap.size u1 V3):=dh (RB'.trans _ _ _ (RB'.drew u1) B3);clear hTK B3;refine hK1.out _ _ (HS.out _ HB3.out) (fun hHeld=>?_);clear hK1
          try simp only [Act.put,sx]
          refine ry 5 (by kernel_rfl) rfl fun K1 hK1=>?_
          go_simp
          refine (fit_any n y Y KK TK V3 HTK.out).mono ?_;rintro e V5 ⟨rfl,B5⟩;have HBE:=dh (HB9.out.trans (Below.mono (pt HB3.out B5) HB9.out.size));have HB5':=dh (pt HB3.out B5);clear B5;refine hK1.out _ _ (HS.out _ HB5'.out) (fun hHeld=>?_);clear hK1
          try simp only [Act.put,sx]
          refine tk 6 rfl hHeld ?_;simp only [Act.put,sx]
          refine tk 7 rfl hHeld ?_;simp only [Act.put,sx]
          refine wpAnyH_done (by kernel_rfl) ?_ _
          try simp only [Act.put,sx]
          have hwq:IntKind.i64.wrap ((q:Int) + 1)=((q + 1:Nat):Int):=by have:=HQN.out;have:=HKN.out;have:=HCM.out;rw [IntWalk.i64_in _ (by omega)];omega
          go_wp2_with fail
          go_roundw
          case rel=>exact ⟨q + 1,by go_num,by rw [HANY.out];rfl,by have:=HQN.out;omega,HBE.out⟩
          case measure=>have:=HQN.out;simp [intOf];omega
        | true=>
          have HS:Hid (∀ W,Below u1.heap.size u1 W→W.cell? ⟨T8,0,none⟩=some (.int .i64 y.kind)∧W.cell? ⟨T8,1,none⟩=some (.int .u64 (y.num:Int))∧W.cell? ⟨T8,2,none⟩=some (.slice Y.ab Y.nb Y.cb)∧W.cell? ⟨T8,3,none⟩=some (.slice Y.ai Y.ni Y.ci)):=dh fun W hW=>ck hW HY9
          have HBE:=dh HB9.out.drew;refine wp_region_held_drew (S:=(fun w'=>w'.cell? ⟨T8,0,none⟩=some (.int .i64 y.kind)∧w'.cell? ⟨T8,1,none⟩=some (.int .u64 (y.num:Int))∧w'.cell? ⟨T8,2,none⟩=some (.slice Y.ab Y.nb Y.cb)∧w'.cell? ⟨T8,3,none⟩=some (.slice Y.ai Y.ni Y.ci))) (by kernel_rfl) (HS.out _ (Below.refl _ _).drew) (fun hHeld=>?_);refine tk 0 rfl hHeld ?_;simp only [Act.put,sx]
          refine tk 1 rfl hHeld ?_;simp only [Act.put,sx]
          refine wpAnyH_take (i:=2) (v:=undef) rfl (by kernel_rfl) (by kernel_rfl) (by kernel_rfl) (fun _ _ _ h=>h) (Or.inr ⟨by rfl,rfl⟩) hHeld ?_
          try simp only [Act.put,sx]
          refine wpAnyH_take (i:=3) (v:=undef) rfl (by kernel_rfl) (by kernel_rfl) (by kernel_rfl) (fun _ _ _ h=>h) (Or.inr ⟨by rfl,rfl⟩) hHeld ?_
          try simp only [Act.put,sx]
          refine wpAnyH_take (i:=4) (v:=undef) rfl (by kernel_rfl) (by kernel_rfl) (by kernel_rfl) (fun _ _ _ h=>h) (Or.inr ⟨by rfl,rfl⟩) hHeld ?_
          try simp only [Act.put,sx]
          refine wpAnyH_take (i:=5) (v:=undef) rfl (by kernel_rfl) (by kernel_rfl) (by kernel_rfl) (fun _ _ _ h=>h) (Or.inr ⟨by rfl,rfl⟩) hHeld ?_
          try simp only [Act.put,sx]
          refine tk 6 rfl hHeld ?_;simp only [Act.put,sx]
          refine tk 7 rfl hHeld ?_;simp only [Act.put,sx]
          refine wpAnyH_done (by kernel_rfl) ?_ _
          try simp only [Act.put,sx]
          have hwq:IntKind.i64.wrap ((q:Int) + 1)=((q + 1:Nat):Int):=by have:=HQN.out;have:=HKN.out;have:=HCM.out;rw [IntWalk.i64_in _ (by omega)];omega
          go_wp2_with fail
          go_roundw
          case rel=>exact ⟨q + 1,by go_num,by rw [HANY.out];rfl,by have:=HQN.out;omega,HBE.out⟩
          case measure=>have:=HQN.out;simp [intOf];omega
       ·have hqz:¬ (q:Int) < (kn:Int):=by have:=HKN.out;omega
        have hqe:known.take q=known:=List.take_of_length_le (by omega);have HB9:=dh (HB8.out.trans (Below.mono hBq HB8.out.size));rw [hqe];obtain ⟨kb,hkb⟩:∃ kb,It.knowsL known y=kb:=⟨_,rfl⟩;have HG2:=dh (HGY.out kb hkb);rw [← HG2.out];have HKB:=dh hkb;have hwj:IntKind.i64.wrap ((j:Int) + 1)=((j + 1:Nat):Int):=by have:=HJN.out;have:=HNI.out;have:=HCM.out;rw [IntWalk.i64_in _ (by omega)];omega
        clear hBq hq hqn hqe hkb;cases kb with
        | false=>
          have HR2:Hid (It.critL p u known=14):=dh (by rw [HR.out,if_neg (by rw [HNO.out HKB.out];decide)]);have HP9:=dh (bwt HP5.out HB9.out hB);go_wp2_with fail
          go_ret
          exact ⟨by rw [HR2.out];rfl,by rw [hB];exact HP9.out⟩
        | true=>
          go_wp2_with fail
          go_roundw
          case rel=>exact ⟨j + 1,by go_num,by have:=HJN.out;omega,HYES.out HKB.out,HB9.out⟩
          case measure=>have:=HJN.out;simp [intOf];omega
     ·have hjz:¬ (j:Int) < (ZZ.ni:Int):=by have:=HNI.out;omega
      have HP9:=dh (bwt HP5.out hBj hB);have HR2:Hid (It.critL p u known=0):=dh (by rw [HR.out,if_pos (by rw [List.all_eq_true];intro y hy;exact hall y (by rw [List.take_of_length_le (by omega)];exact hy))]);clear hBj hall hj hjn;go_wp2_with fail
      go_ret
      exact ⟨by rw [HR2.out];rfl,by rw [hB];exact HP9.out⟩
theorem rcrit_any (p u:It) (A C:Ad) (w:World) (ok ok':Nat→Prop) (hI:IR ok w p A) (hJ:IR ok' w u C) (hE:Env w) (known:List Int) (ka:Option Addr) (kn kc:Nat) (hK:NL w ka kn known):Calls Tryz.prog 38 #[.agg #[.int .i64 p.kind,.int .u64 (p.num:Int),.slice A.ab A.nb A.cb,.slice A.ai A.ni A.ci,.int .i64 u.kind,.int .u64 (u.num:Int),.slice C.ab C.nb C.cb,.slice C.ai C.ni C.ci],.slice ka kn kc] w (CrP (It.critP p u known) w):=by
 have P0:=al w (o8 p u A C);have HX:=dh (aw w (o8 p u A C));have HP:=dh P0;have HI:=dh ((hI.imp (ok':=fun _=>True) fun _ _ _=>trivial).below P0);have HJ:=dh ((hJ.imp (ok':=fun _=>True) fun _ _ _=>trivial).below P0);have HE:=dh (hE.below P0);have HK:=dh (hK.below P0);clear P0 hI hJ hE hK;go_enter Tryz.func38,Tryz.ntmps38
 go_upto_region 1 with fail
 generalize w.alloc _=w1 at *;generalize hB:w.heap.size=B at *;have x:=ce HX.out;cases hv:It.hvalid p u with
 | false=>
   have HC:=dh (rhv_any p u A C w1 _ _ HI.out HJ.out HE.out);rw [hv] at HC;have HR:Hid (It.critP p u known=1):=dh (by unfold It.critP;rw [if_pos hv]);clear hv;go_wp2_with fail
   refine HC.out.mono ?_;rintro e v1 ⟨rfl,B1⟩;have HPW:=dh (bwt HP.out B1 hB);clear B1 HC HX x;go_wp2_with fail
   go_ret
   exact ⟨by rw [HR.out];rfl,by rw [hB];exact HPW.out⟩
 | true=>
   have HC:=dh (rhv_any p u A C w1 _ _ HI.out HJ.out HE.out);rw [hv] at HC;have HV:=dh hv;clear hv;go_wp2_with fail
   refine HC.out.mono ?_;rintro e w2 ⟨rfl,B1⟩;have HP2:=dh (bwt HP.out B1 hB);have HX2:=kp B1 HX;have HI2:=dh (HI.out.below B1);have HJ2:=dh (HJ.out.below B1);have HE2:=dh (HE.out.below B1);have HK2:=dh (HK.out.below B1);clear B1 HC HX HP HI HJ HE HK x;have HLN:Hid (p.kids.length≤1000∧u.kids.length≤1000):=dh (by have h:=It.hvalid_maps HV.out;have h2:=kids_le h.1.1;have h3:=kids_le h.2.1;omega);obtain ⟨r,hr⟩:∃ r,It.look p.kids (It.int 2)=r:=⟨_,rfl⟩;have HR:=dh (critP_of (known:=known) HV.out hr);have hC:=rfind2_any p u A C 2 w2 _ _ (by decide) (by decide) HI2.out HJ2.out HLN.out.1 HLN.out.2;rw [It.find_crit HV.out,hr] at hC;have HC:=dh hC;clear hr hC;have x:=ce HX2.out
   ·go_wp2_with fail
    refine HC.out.mono ?_;rintro e v3 ⟨_,rfl,B3,ZZ,rfl,hIZ⟩;have hQ:=pt B3 (al v3 (o4 (It.opt r) ZZ));have HB5:=dh hQ;have HT5:=dh (aw v3 (o4 (It.opt r) ZZ));have HI5:=dh (hIZ.below (al v3 (o4 (It.opt r) ZZ)));clear hIZ HC;go_upto_region 4 with fail
    clear x B3 hQ;generalize v3.alloc _=w5 at *;generalize v3.heap.size=T at *;have HP5:=dh (bwt HP2.out HB5.out hB);have HE5:=dh (HE2.out.below HB5.out);have HK5:=dh (HK2.out.below HB5.out);have HTL:=dh HI5.out.tl;have HNI:Hid (ZZ.ni=(It.opt r).kids.length):=dh HI5.out.tl.1;have HKN:Hid (kn=known.length):=dh HK5.out.1;have HCM:Hid (ZZ.ni≤9223372036854775807∧kn≤9223372036854775807):=dh ⟨HI5.out.tl.2.1,HK5.out.2.1⟩;clear HI5 HP2 HE2 HK2 HB5 HX2 HI2 HJ2;generalize (It.opt r).kids=ks at *;have t:=cf HT5.out;go_upto_region 5 with fail
    clear t;go_loopw [23] (fun i W=>CL1 (It.knows known) ks w5 i W) (fun i _=>ks.length - (intOf i).toNat)
    case atStart=>exact ⟨0,rfl,by omega,fun y hy=>by simp at hy,Below.refl _ _⟩
    case round=>
     obtain ⟨u0,hu0⟩:∃ u0,u0=wr:=⟨_,rfl⟩;subst hu0;obtain ⟨j,rfl,hj,hall,hBj⟩:=hrel;by_cases hjn:j < ks.length
     ·have hjz:(j:Int) < (ZZ.ni:Int):=by have:=HNI.out;omega
      have hcm:(ZZ.ni:Int)≤9223372036854775807:=by have:=HCM.out;omega
      obtain ⟨bl,o,Y,ha,_,⟨c0,c1,c2,c3⟩,hIy⟩:=(HTL.out.below hBj).2.2 j hjn;have PA:=al u0 (.cells #[.int .i64 ks[j].kind,.int .u64 (ks[j].num:Int),.slice Y.ab Y.nb Y.cb,.slice Y.ai Y.ni Y.ci] 26);have hQ:=pt hBj PA;have HY8:=dh (aw u0 (.cells #[.int .i64 ks[j].kind,.int .u64 (ks[j].num:Int),.slice Y.ab Y.nb Y.cb,.slice Y.ai Y.ni Y.ci] 26));have HYI:=dh (hIy.below PA);have HB8:=dh hQ;have HE8:=dh (HE5.out.below hQ);have HK8:=dh (HK5.out.below hQ);have HALL:=dh hall;have HJN:=dh hjn;have HGY:Hid (∀ b,It.knows known ks[j]=b→b=(known.any fun n=>It.same ks[j] (It.int n))):=dh fun b hb=>hb.symm
      have HNO:Hid (It.knows known ks[j]=false→ks.all (It.knows known)=false):=dh fun h=>all_no hjn h
      have HYES:Hid (It.knows known ks[j]=true→∀ y ∈ ks.take (j + 1),It.knows known y=true):=dh fun h y hy=>by
       rw [List.take_succ_eq_append_getElem HJN.out] at hy;rcases List.mem_append.1 hy with hy | hy
       ·exact HALL.out y hy
       ·simp only [List.mem_singleton] at hy;subst hy;exact h
      rw [ha] at *;clear hIy hBj hall hj PA hQ HALL;generalize ks[j]=y at *;clear hjn;go_upto_region 8 with fail
      clear c0 c1 c2 c3 hjz hcm;generalize u0.alloc _=w8 at *;generalize u0.heap.size=T8 at *;go_upto_region 9 with fail
      go_loopw [9,29] (fun u i W=>CL2 (fun n=>It.same y (It.int n)) known w8 u i W) (fun _ i _=>known.length - (intOf i).toNat)
      case atStart=>exact ⟨0,rfl,by simp,by omega,Below.refl _ _⟩
      case round=>
       obtain ⟨u1,hu1⟩:∃ u1,u1=wr:=⟨_,rfl⟩;subst hu1;obtain ⟨q,rfl,rfl,hq,hBq⟩:=hrel;by_cases hqn:q < known.length
       ·have hqz:(q:Int) < (kn:Int):=by have:=HKN.out;omega
        have hcm:(kn:Int)≤9223372036854775807:=by have:=HCM.out;omega
        obtain ⟨kb,ko,hka,hcn,hn0,hn1⟩:=(HK8.out.below hBq).2.2 q hqn;have HANY:=dh (any_next (f:=fun n=>It.same y (It.int n)) hqn);have HQN:=dh hqn;have HN:=dh (And.intro hn0 hn1);have HB9:=dh hBq;have HY9:=kp hBq HY8;have HYI9:=dh (HYI.out.below hBq);have HE9:=dh (HE8.out.below hBq);rw [hka] at *;clear hBq hq hn0 hn1;generalize known[q]=n at *;clear hqn;go_upto_region 11 with fail
        clear hcn hqz hcm;generalize (known.take q).any (fun n=>It.same y (It.int n))=ub at *;cases ub with
        | false=>
          refine region_f (M:=8) (fun _=>True) [.eq (.bool false),.eq (.bool false),.it y,.eq (.int .i64 n),.it (It.int n),.eq (.bool (It.same y (It.int n))),.eq (.bool (It.same y (It.int n))),.eq (.bool (It.same y (It.int n)))] (by kernel_rfl) (by kernel_rfl) ?_ ?_
          ·refine ⟨?_,?_,?_,?_,?_,?_,?_,?_,trivial⟩<;>intro vs W hR _ hd
           ·exact dmv (.tmp 9) rfl (show _=_ by kernel_rfl)
           ·exact dmv (.tmp 33) rfl (hd 0 (by decide))
           ·exact ⟨fun _=>dlV (.tmp 8) (T8) y Y hR HY9.out HYI9.out rfl (by kernel_rfl),fun h=>absurd (hd 1 (by decide)) h⟩
           ·exact ⟨fun _=>dmv (.tmp 11) rfl (show _=_ by kernel_rfl),fun h=>absurd (hd 1 (by decide)) h⟩
           ·have e3:vs 3=.int .i64 n:=(hd 3 (by decide));exact ⟨fun _=>dcl (vals:=#[vs 3]) 62 (.func 62) #[.tmp 36] _ rfl (by kernel_rfl) (by kernel_rfl) (cq Tryz.func62) (by rw [e3];exact h_rint n HN.out W _),fun h=>absurd (hd 1 (by decide)) h⟩
           ·exact ⟨fun _=>dcl (vals:=#[vs 2,vs 4]) 30 (.func 30) #[.tmp 35,.tmp 37] _ rfl (by kernel_rfl) (by kernel_rfl) (cq Tryz.func30) (h_same (x:=y) (y:=It.int n) (hd 2 (by decide)) (hd 4 (by decide))),fun h=>absurd (hd 1 (by decide)) h⟩
           ·exact dpf (.tmp 34) (.const (.bool true)) (.tmp 38) rfl (hd 1 (by decide)) (hd 5 (by decide))
           ·exact doesh_assign (.tmp 39) rfl (hd 6 (by decide))
          ·intro vs W9 hR9 hf
           have e7:vs 7=.bool (It.same y (It.int n)):=hf 7 (by decide);have HBE:=dh (HB9.out.trans (Below.mono hR9 HB9.out.size));simp only [Rg.putAll,Rg.putFrom,List.take_succ_cons,List.take_zero,List.drop_succ_cons,List.drop_zero,Act.put,sx,Nat.zero_add,Nat.reduceAdd,e7];clear hf e7 hR9;have hwq:IntKind.i64.wrap ((q:Int) + 1)=((q + 1:Nat):Int):=by have:=HQN.out;have:=HKN.out;have:=HCM.out;rw [IntWalk.i64_in _ (by omega)];omega
           go_wp2_with fail
           go_roundw
           case rel=>exact ⟨q + 1,by go_num,by rw [HANY.out];rfl,by have:=HQN.out;omega,HBE.out⟩
           case measure=>have:=HQN.out;simp [intOf];omega
        | true=>
          refine region_f (M:=8) (fun _=>True) [.eq (.bool true),.eq (.bool true),.any,.any,.any,.any,.eq (.bool true),.eq (.bool true)] (by kernel_rfl) (by kernel_rfl) ?_ ?_
          ·refine ⟨?_,?_,?_,?_,?_,?_,?_,?_,trivial⟩<;>intro vs W hR _ hd
           ·exact dmv (.tmp 9) rfl (show _=_ by kernel_rfl)
           ·exact dmv (.tmp 33) rfl (hd 0 (by decide))
           ·exact ⟨fun h=>by have e:=h.symm.trans (hd 1 (by decide));simp at e,fun _=>trivial⟩
           ·exact ⟨fun h=>by have e:=h.symm.trans (hd 1 (by decide));simp at e,fun _=>trivial⟩
           ·exact ⟨fun h=>by have e:=h.symm.trans (hd 1 (by decide));simp at e,fun _=>trivial⟩
           ·exact ⟨fun h=>by have e:=h.symm.trans (hd 1 (by decide));simp at e,fun _=>trivial⟩
           ·exact dpt (.tmp 34) (.const (.bool true)) (.tmp 38) rfl (hd 1 (by decide)) (show _=_ by kernel_rfl)
           ·exact doesh_assign (.tmp 39) rfl (hd 6 (by decide))
          ·intro vs W9 hR9 hf
           have e7:vs 7=.bool true:=hf 7 (by decide);have HBE:=dh (HB9.out.trans (Below.mono hR9 HB9.out.size));simp only [Rg.putAll,Rg.putFrom,List.take_succ_cons,List.take_zero,List.drop_succ_cons,List.drop_zero,Act.put,sx,Nat.zero_add,Nat.reduceAdd,e7];clear hf e7 hR9;have hwq:IntKind.i64.wrap ((q:Int) + 1)=((q + 1:Nat):Int):=by have:=HQN.out;have:=HKN.out;have:=HCM.out;rw [IntWalk.i64_in _ (by omega)];omega
           go_wp2_with fail
           go_roundw
           case rel=>exact ⟨q + 1,by go_num,by rw [HANY.out];rfl,by have:=HQN.out;omega,HBE.out⟩
           case measure=>have:=HQN.out;simp [intOf];omega
       ·have hqz:¬ (q:Int) < (kn:Int):=by have:=HKN.out;omega
        have hqe:known.take q=known:=List.take_of_length_le (by omega);have HB9:=dh (HB8.out.trans (Below.mono hBq HB8.out.size));rw [hqe];obtain ⟨kb,hkb⟩:∃ kb,It.knows known y=kb:=⟨_,rfl⟩;have HG2:=dh (HGY.out kb hkb);rw [← HG2.out];have HKB:=dh hkb;have hwj:IntKind.i64.wrap ((j:Int) + 1)=((j + 1:Nat):Int):=by have:=HJN.out;have:=HNI.out;have:=HCM.out;rw [IntWalk.i64_in _ (by omega)];omega
        clear hBq hq hqn hqe hkb;cases kb with
        | false=>
          have HR2:Hid (It.critP p u known=14):=dh (by rw [HR.out,if_neg (by rw [HNO.out HKB.out];decide)]);have HP9:=dh (bwt HP5.out HB9.out hB);go_wp2_with fail
          go_ret
          exact ⟨by rw [HR2.out];rfl,by rw [hB];exact HP9.out⟩
        | true=>
          go_wp2_with fail
          go_roundw
          case rel=>exact ⟨j + 1,by go_num,by have:=HJN.out;omega,HYES.out HKB.out,HB9.out⟩
          case measure=>have:=HJN.out;simp [intOf];omega
     ·have hjz:¬ (j:Int) < (ZZ.ni:Int):=by have:=HNI.out;omega
      have HP9:=dh (bwt HP5.out hBj hB);have HR2:Hid (It.critP p u known=0):=dh (by rw [HR.out,if_pos (by rw [List.all_eq_true];intro y hy;exact hall y (by rw [List.take_of_length_le (by omega)];exact hy))]);clear hBj hall hj hjn;go_wp2_with fail
      go_ret
      exact ⟨by rw [HR2.out];rfl,by rw [hB];exact HP9.out⟩
