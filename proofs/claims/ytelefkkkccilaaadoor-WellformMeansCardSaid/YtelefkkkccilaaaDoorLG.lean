/- The reference's Compare. The reference's Raw at items without elements. The reference's Raw at items with elements. The reference's Raw. -/
import Derived.Test.YtelefkkkccilaaaDoorLD
import Derived.Test.YtelefkkkccilaaaDoorLE
set_option linter.unusedVariables false
set_option linter.unusedSimpArgs false
namespace Go.Proofs.YtelefkkkccilaaaDoor
open Go.RowKit
set_option maxRecDepth 100000
theorem drop_cons {l:List UInt8} {j:Nat} (h:j < l.length):l.drop j=l[j] :: l.drop (j + 1):=List.drop_eq_getElem_cons h
theorem cmpB_cons (a b:UInt8) (x y:List UInt8):It.cmpB (a :: x) (b :: y)=if a < b then -1 else if b < a then 1 else It.cmpB x y:=rfl
set_option maxHeartbeats 4000000 in
theorem rcompare_any {okA okB:Nat→Prop} {w:World} {a b:Option Addr} {n m c d:Nat} {x y:List UInt8} (hx:BR okA w a n x) (hy:BR okB w b m y) (R:Int) (hR:It.cmpB x y=R):
 Calls Tryd.prog 29 #[.slice a n c,.slice b m d] w fun e w'=>e=.returned (.int .i64 R)∧∃ q,w'=w.drewN q:=by
 have hn:=hx.2.1;have hm:=hy.2.1;have HX:=dh hx;have HY:=dh hy;have HR:=dh hR;clear hx hy hR;go_enter Tryd.func29,Tryd.ntmps29
 go_wp2_with fail
 go_loopw [5] (fun i W=>∃ j q:Nat,i=.int .i64 j∧j≤n∧j≤m∧It.cmpB (x.drop j) (y.drop j)=R∧W=w.drewN q) (fun i _=>n - (intOf i).toNat)
 case atStart=>exact ⟨0,0,rfl,by omega,by omega,by simpa using HR.out,rfl⟩
 case round=>
  obtain ⟨j,q,rfl,hjn,hjm,hcmp,rfl⟩:=hrel;by_cases h1:j < n
  ·have z1:(j:Int) < (n:Int):=by omega
   by_cases h2:j < m
   ·have z2:(j:Int) < (m:Int):=by omega
    have h1':j < x.length:=by have:=HX.out.1;omega
    have h2':j < y.length:=by have:=HY.out.1;omega
    obtain ⟨bx,ox,rfl,_,cx⟩:=HX.out.2.2 j h1';obtain ⟨bY,oY,rfl,_,cy⟩:=HY.out.2.2 j h2';rw [drop_cons h1',drop_cons h2',cmpB_cons] at hcmp;generalize x[j]=u at *;generalize y[j]=v at *;have hul:=u.toNat_lt;have hvl:=v.toNat_lt;clear h1' h2';by_cases e:u=v
    ·subst e
     rw [if_neg (UInt8.lt_irrefl u),if_neg (UInt8.lt_irrefl u)] at hcmp;have HC:=dh hcmp;clear hcmp;go_wp2_with fail
     go_quiet (fail)
     go_wp2_with fail
     go_roundw
     case rel=>exact ⟨j + 1,q + nq,by go_num,by omega,by omega,HC.out,rfl⟩
     case measure=>simp [intOf];omega
    ·have hne:¬ ((u.toNat:Int)=(v.toNat:Int)):=fun h=>e (UInt8.toNat_inj.1 (by omega))
     have hneb:((u.toNat:Int) !=(v.toNat:Int))=true:=by simpa using hne
     by_cases hlt:u < v
     ·rw [if_pos hlt] at hcmp
      have hz:(u.toNat:Int) < (v.toNat:Int):=by rw [UInt8.lt_iff_toNat_lt] at hlt;omega
      have HC:=dh hcmp;clear hcmp hlt e;go_wp2_with fail
      go_quiet (fail)
      go_wp2_with fail
      go_quiet (fail)
      go_wp2_with fail
      go_ret
      exact ⟨by rw [← HC.out];rfl,_,by rw [World.drewN_drewN,World.drewN_drewN]⟩
     ·have hgt:v < u:=by
       rw [UInt8.lt_iff_toNat_lt] at hlt ⊢;omega
      rw [if_neg hlt,if_pos hgt] at hcmp;have hz:¬ (u.toNat:Int) < (v.toNat:Int):=by rw [UInt8.lt_iff_toNat_lt] at hlt;omega
      have HC:=dh hcmp;clear hcmp hlt e hgt;go_wp2_with fail
      go_quiet (fail)
      go_wp2_with fail
      go_quiet (fail)
      go_wp2_with fail
      go_ret
      exact ⟨by rw [← HC.out];rfl,_,by rw [World.drewN_drewN,World.drewN_drewN]⟩
   ·have z2:¬ (j:Int) < (m:Int):=by omega
    have hxl:x.drop j≠[]:=fun h=>by have h1:=congrArg List.length h;rw [List.length_drop] at h1;simp at h1;have:=HX.out.1;omega
    have hyl:y.drop j=[]:=List.drop_of_length_le (by have:=HY.out.1;omega);have hR1:Hid (R=1):=by
     refine dh ?_;rw [← hcmp,hyl];cases hd:x.drop j with
     | nil=>exact absurd hd hxl
     | cons _ _=>rfl
    have z3:(m:Int) < (n:Int):=by omega
    clear hcmp hxl hyl;go_wp2_with fail
    go_ret
    exact ⟨by rw [hR1.out];rfl,_,rfl⟩
  ·have z1:¬ (j:Int) < (n:Int):=by omega
   have hxl:x.drop j=[]:=List.drop_of_length_le (by have:=HX.out.1;omega);by_cases h2:j < m
   ·have hyl:y.drop j≠[]:=fun h=>by have h1:=congrArg List.length h;rw [List.length_drop] at h1;simp at h1;have:=HY.out.1;omega
    have hR1:Hid (R= -1):=by
     refine dh ?_;rw [← hcmp,hxl];cases hd:y.drop j with
     | nil=>exact absurd hd hyl
     | cons _ _=>rfl
    have z3:(n:Int) < (m:Int):=by omega
    clear hcmp hxl hyl;go_wp2_with fail
    go_ret
    exact ⟨by rw [hR1.out];rfl,_,rfl⟩
   ·have hyl:y.drop j=[]:=List.drop_of_length_le (by have:=HY.out.1;omega)
    have hR1:Hid (R=0):=by
     refine dh ?_;rw [← hcmp,hxl,hyl];rfl
    have z3:¬ (n:Int) < (m:Int):=by omega
    have z4:¬ (m:Int) < (n:Int):=by omega
    have z5:n=m:=by omega
    clear hcmp hxl hyl z5;go_wp2_with fail
    go_ret
    exact ⟨by rw [hR1.out];rfl,_,rfl⟩
theorem FB.later {l:List UInt8} {w w1:World} {e:Ending} {w':World} (h:FB l w1 e w') (hb:Below w.heap.size w w1):FB l w e w':=by
 obtain ⟨v,rfl,h1,h2⟩:=h;exact ⟨v,rfl,h1.lower hb.size,pt hb h2⟩
set_option maxHeartbeats 4000000 in
theorem raw_0 (n:Nat) (N:Int) (hN:N=n) (ab ai:Option Addr) (nb cb ni ci:Nat) (w:World):
 Calls Tryd.prog 40 #[.agg #[.int .i64 0,.int .u64 N,.slice ab nb cb,.slice ai ni ci]] w (FB (It.head 0 n) w):=by
 have C1:=fun W=>rhead_any 0 n N hN 0 rfl (by omega) W
 clear hN;have P0:=al w (.cells #[.int .i64 0,.int .u64 N,.slice ab nb cb,.slice ai ni ci] 31);have HP:=dh P0;clear P0;go_enter Tryd.func40,Tryd.ntmps40
 go_wp2_with fail
 generalize w.alloc (.cells #[.int .i64 0,.int .u64 N,.slice ab nb cb,.slice ai ni ci] 31)=w1 at *;refine (C1 w1).mono ?_;rintro e w2 h2;have H2:=dh (h2.later HP.out);obtain ⟨v,rfl,z1,z2⟩:=h2;clear z1 z2;go_wp2_with fail
 go_ret
 exact H2.out
set_option maxHeartbeats 4000000 in
theorem raw_1 (n:Nat) (N:Int) (hN:N=n) (ab ai:Option Addr) (nb cb ni ci:Nat) (w:World):
 Calls Tryd.prog 40 #[.agg #[.int .i64 1,.int .u64 N,.slice ab nb cb,.slice ai ni ci]] w (FB (It.head 1 n) w):=by
 have C1:=fun W=>rhead_any 1 n N hN 1 rfl (by omega) W
 clear hN;have P0:=al w (.cells #[.int .i64 1,.int .u64 N,.slice ab nb cb,.slice ai ni ci] 31);have HP:=dh P0;clear P0;go_enter Tryd.func40,Tryd.ntmps40
 go_wp2_with fail
 generalize w.alloc (.cells #[.int .i64 1,.int .u64 N,.slice ab nb cb,.slice ai ni ci] 31)=w1 at *;refine (C1 w1).mono ?_;rintro e w2 h2;have H2:=dh (h2.later HP.out);obtain ⟨v,rfl,z1,z2⟩:=h2;clear z1 z2;go_wp2_with fail
 go_ret
 exact H2.out
set_option maxHeartbeats 4000000 in
theorem raw_8 (n:Nat) (N:Int) (hN:N=n) (hn:n < 18446744073709551616) (ab ai:Option Addr) (nb cb ni ci:Nat) (w:World):
 Calls Tryd.prog 40 #[.agg #[.int .i64 8,.int .u64 N,.slice ab nb cb,.slice ai ni ci]] w (FB (It.flt n) w):=by
 have C1:=fun W=>rfloat_any n N hN hn W
 clear hN hn;have P0:=al w (.cells #[.int .i64 8,.int .u64 N,.slice ab nb cb,.slice ai ni ci] 31);have HP:=dh P0;clear P0;go_enter Tryd.func40,Tryd.ntmps40
 go_wp2_with fail
 generalize w.alloc (.cells #[.int .i64 8,.int .u64 N,.slice ab nb cb,.slice ai ni ci] 31)=w1 at *;refine (C1 w1).mono ?_;rintro e w2 h2;have H2:=dh (h2.later HP.out);obtain ⟨v,rfl,z1,z2⟩:=h2;clear z1 z2;go_wp2_with fail
 go_ret
 exact H2.out
set_option maxHeartbeats 4000000 in
theorem raw_7 (n:Nat) (N:Int) (hN:N=n) (hn:n < 256) (ab ai:Option Addr) (nb cb ni ci:Nat) (w:World):
 Calls Tryd.prog 40 #[.agg #[.int .i64 7,.int .u64 N,.slice ab nb cb,.slice ai ni ci]] w (FB (if n < 24 then [UInt8.ofNat (224 + n)] else [248,UInt8.ofNat n]) w):=by
 have n0:0≤N:=by omega
 have n1:N < 256:=by omega
 have HE:=dh hN;by_cases h:n < 24
 ·rw [if_pos h]
  have hz:N < 24:=by omega
  clear hN hn h;go_enter Tryd.func40,Tryd.ntmps40
  go_wp2_with fail
  go_ret
  refine FB.later (w1:=w.alloc (.cells #[.int .i64 7,.int .u64 N,.slice ab nb cb,.slice ai ni ci] 31)) ?_ (al _ _);have e1:(w.alloc (.cells #[.int .i64 7,.int .u64 N,.slice ab nb cb,.slice ai ni ci] 31)).heap.size=w.heap.size + 1:=by simp
  have:=FB.lits (w:=w.alloc (.cells #[.int .i64 7,.int .u64 N,.slice ab nb cb,.slice ai ni ci] 31)) (A:=#[.int .u8 (224 + N)]) (l:=[UInt8.ofNat (224 + n)]) (k:=1) (by rw [bv_eq (byte_of_lt (n:=224 + n) (N:=224 + N) (by have:=HE.out;omega) (by omega))];rfl) rfl (by simp);rw [e1] at this;exact this
 ·rw [if_neg h]
  have hz:¬ N < 24:=by omega
  clear hN hn h;go_enter Tryd.func40,Tryd.ntmps40
  go_wp2_with fail
  go_ret
  refine FB.later (w1:=w.alloc (.cells #[.int .i64 7,.int .u64 N,.slice ab nb cb,.slice ai ni ci] 31)) ?_ (al _ _);have e1:(w.alloc (.cells #[.int .i64 7,.int .u64 N,.slice ab nb cb,.slice ai ni ci] 31)).heap.size=w.heap.size + 1:=by simp
  have:=FB.lits (w:=w.alloc (.cells #[.int .i64 7,.int .u64 N,.slice ab nb cb,.slice ai ni ci] 31)) (A:=#[.int .u8 248,.int .u8 N]) (l:=[248,UInt8.ofNat n]) (k:=2) (by rw [bv_eq (byte_of_lt HE.out n1)];rfl) rfl (by simp);rw [e1] at this;exact this
def RawC (d:Nat):Prop:=∀ (x:It) (A:Ad) (w:World) (ok:Nat→Prop),It.wf d x=true→IR ok w x A→(It.enc x).length≤1000000000→
 Calls Tryd.prog 40 #[.agg #[.int .i64 x.kind,.int .u64 (x.num:Int),.slice A.ab A.nb A.cb,.slice A.ai A.ni A.ci]] w (FB (It.enc x) w)
set_option maxHeartbeats 8000000 in
theorem raw_4 (d:Nat) (ih:RawC d) (ks:List It) (N:Int) (ab ai:Option Addr) (nb cb ni ci:Nat) (w:World) (ok:Nat→Prop) (hT:TL ok w ks ai ni) (hw':It.wfs d ks=true) (q:Nat) (hq:q=ni) (hl:(It.encs ks).length≤1000000000):
 Calls Tryd.prog 40 #[.agg #[.int .i64 4,.int .u64 N,.slice ab nb cb,.slice ai ni ci]] w (FB (It.head 4 q ++ It.encs ks) w):=by
 have C1:=fun W=>rhead_any 4 q (q:Int) rfl 4 rfl (by omega) W
 have fl:(It.head 4 q).length≤9:=by rw [It.head_length];(repeat' split) <;> omega
 have hnb:ni≤1000000000:=by have:=It.length_le_encs ks;have:=hT.1;omega
 have hw:IntKind.u64.wrap (ni:Int)=(q:Int):=by rw [hq];exact wrap_u64 (by omega) (by omega)
 have P0:=al w (.cells #[.int .i64 4,.int .u64 N,.slice ab nb cb,.slice ai ni ci] 31);have N0:=aw w (.cells #[.int .i64 4,.int .u64 N,.slice ab nb cb,.slice ai ni ci] 31);have HN0:=dh N0;have HP:=dh P0;have HIT:=dh hT;have HW:=dh hw';have HL:=dh hl;have HFL:=dh fl;have HIH:=dh ih;have HNI:Hid (ni=ks.length):=dh hT.1;clear P0 N0 hT hw' hl fl ih hq;go_enter Tryd.func40,Tryd.ntmps40
 go_wp2_with fail
 generalize w.alloc (.cells #[.int .i64 4,.int .u64 N,.slice ab nb cb,.slice ai ni ci] 31)=w1 at *;refine (C1 w1).mono ?_;rintro e w2 h2;obtain ⟨v2,rfl,O2,B2⟩:=h2;have HN2:=Below.keep B2 HN0.out (lb HN0.out);have HO2:=dh (O2.lower HP.out.size);have HB2:=dh (pt HP.out B2);obtain ⟨f0,f1,f2,f3⟩:=cf HN2;clear O2 B2 HN2;go_wp2_with fail
 clear f0 f1 f2 f3;go_loopw [3,69] (fun v i W=>∃ j:Nat,j≤ni∧i=.int .i64 j∧OwnB W w.heap.size v (It.head 4 q ++ It.encs (ks.take j))∧Below w.heap.size w W) (fun _ i _=>ni - (intOf i).toNat)
 case atStart=>exact ⟨0,by omega,rfl,by simpa [It.encs] using HO2.out,HB2.out⟩
 case round=>
  obtain ⟨j,hj,rfl,hO,hBw⟩:=hrel;by_cases hjn:j < ni
  ·have hjk:j < ks.length:=by have:=HNI.out;omega
   obtain ⟨b',o',A',rfl,hb',⟨c0,c1,c2,c3⟩,hI'⟩:=(HIT.out.below hBw).2.2 j hjk;have hwk:=wfs_get HW.out j hjk;have PA:=al wr (.cells #[.int .i64 ks[j].kind,.int .u64 (ks[j].num:Int),.slice A'.ab A'.nb A'.cb,.slice A'.ai A'.ni A'.ci] 31);have e1:=encs_take_succ hjk;have e2:=encs_take_le ks (j + 1);have e3:(It.encs (ks.take (j + 1))).length=(It.encs (ks.take j)).length + (It.enc ks[j]).length:=by rw [e1,List.length_append]
   have hlen:(It.enc ks[j]).length≤1000000000:=by have:=HL.out;omega
   have HCC:=dh (HIH.out ks[j] A' (wr.alloc (.cells #[.int .i64 ks[j].kind,.int .u64 (ks[j].num:Int),.slice A'.ab A'.nb A'.cb,.slice A'.ai A'.ni A'.ci] 31)) ok hwk (hI'.below PA) hlen);have HSUM:Hid ((It.head 4 q ++ It.encs (ks.take j)).length + (It.enc ks[j]).length≤1000000000000):=dh (by rw [List.length_append];have:=HL.out;have:=HFL.out;omega);have HE1:=dh e1;have HPA:=dh PA;have HO:=dh hO;have HBW:=dh hBw;have hlt:(j:Int) < (ni:Int):=by omega
   clear hO hBw hI' hwk PA e1 e2 e3 hlen;generalize ks[j]=y at *;go_wp2_with fail
   refine HCC.out.mono ?_;rintro e w6 h6;obtain ⟨a6,c6,rfl,z1,R6,z2,z3,B6⟩:=h6.open;clear z1 z2 z3 h6;obtain ⟨v7,W7,hrun,hO7,hB7⟩:=app_step (c:=c6) HO.out HBW.out.size (pt HPA.out B6) R6 HSUM.out;have HR:=dh hrun;have HO7:=dh hO7;have HB7:=dh (HBW.out.trans hB7);clear hrun hO7 hB7 R6 B6 c0 c1 c2 c3;go_wp2_with (at_builtin;refine wj rfl _ _ 23 rfl rfl rfl HR.out ?_;clear HR)
   go_roundw
   case rel=>exact ⟨j + 1,by omega,by go_num,by rw [HE1.out,← List.append_assoc];exact HO7.out,HB7.out⟩
   case measure=>simp [intOf];omega
  ·obtain rfl:j=ni:=by omega
   have HO7:=dh hO;have HB7:=dh hBw;clear hO hBw;go_wp2_with fail
   go_ret
   have h1:=HO7.out;rw [List.take_of_length_le (by have:=HNI.out;omega)] at h1;exact ⟨_,rfl,h1,HB7.out⟩
set_option maxHeartbeats 8000000 in
theorem raw_5 (d:Nat) (ih:RawC d) (ks:List It) (N:Int) (ab ai:Option Addr) (nb cb ni ci:Nat) (w:World) (ok:Nat→Prop) (hT:TL ok w ks ai ni) (hw':It.wfs d ks=true) (q:Nat) (hq:q=ni / 2) (hl:(It.encs ks).length≤1000000000):
 Calls Tryd.prog 40 #[.agg #[.int .i64 5,.int .u64 N,.slice ab nb cb,.slice ai ni ci]] w (FB (It.head 5 q ++ It.encs ks) w):=by
 have C1:=fun W=>rhead_any 5 q (q:Int) rfl 5 rfl (by omega) W
 have fl:(It.head 5 q).length≤9:=by rw [It.head_length];(repeat' split) <;> omega
 have hnb:ni≤1000000000:=by have:=It.length_le_encs ks;have:=hT.1;omega
 have hd2:(ni:Int) / 2=(q:Int):=by omega
 have hw:IntKind.u64.wrap (q:Int)=(q:Int):=wrap_u64 (by omega) (by omega);have P0:=al w (.cells #[.int .i64 5,.int .u64 N,.slice ab nb cb,.slice ai ni ci] 31);have N0:=aw w (.cells #[.int .i64 5,.int .u64 N,.slice ab nb cb,.slice ai ni ci] 31);have HN0:=dh N0;have HP:=dh P0;have HIT:=dh hT;have HW:=dh hw';have HL:=dh hl;have HFL:=dh fl;have HIH:=dh ih;have HNI:Hid (ni=ks.length):=dh hT.1;clear P0 N0 hT hw' hl fl ih hq;go_enter Tryd.func40,Tryd.ntmps40
 go_wp2_with fail
 generalize w.alloc (.cells #[.int .i64 5,.int .u64 N,.slice ab nb cb,.slice ai ni ci] 31)=w1 at *;refine (C1 w1).mono ?_;rintro e w2 h2;obtain ⟨v2,rfl,O2,B2⟩:=h2;have HN2:=Below.keep B2 HN0.out (lb HN0.out);have HO2:=dh (O2.lower HP.out.size);have HB2:=dh (pt HP.out B2);obtain ⟨f0,f1,f2,f3⟩:=cf HN2;clear O2 B2 HN2;go_wp2_with fail
 clear f0 f1 f2 f3;go_loopw [3,69] (fun v i W=>∃ j:Nat,j≤ni∧i=.int .i64 j∧OwnB W w.heap.size v (It.head 5 q ++ It.encs (ks.take j))∧Below w.heap.size w W) (fun _ i _=>ni - (intOf i).toNat)
 case atStart=>exact ⟨0,by omega,rfl,by simpa [It.encs] using HO2.out,HB2.out⟩
 case round=>
  obtain ⟨j,hj,rfl,hO,hBw⟩:=hrel;by_cases hjn:j < ni
  ·have hjk:j < ks.length:=by have:=HNI.out;omega
   obtain ⟨b',o',A',rfl,hb',⟨c0,c1,c2,c3⟩,hI'⟩:=(HIT.out.below hBw).2.2 j hjk;have hwk:=wfs_get HW.out j hjk;have PA:=al wr (.cells #[.int .i64 ks[j].kind,.int .u64 (ks[j].num:Int),.slice A'.ab A'.nb A'.cb,.slice A'.ai A'.ni A'.ci] 31);have e1:=encs_take_succ hjk;have e2:=encs_take_le ks (j + 1);have e3:(It.encs (ks.take (j + 1))).length=(It.encs (ks.take j)).length + (It.enc ks[j]).length:=by rw [e1,List.length_append]
   have hlen:(It.enc ks[j]).length≤1000000000:=by have:=HL.out;omega
   have HCC:=dh (HIH.out ks[j] A' (wr.alloc (.cells #[.int .i64 ks[j].kind,.int .u64 (ks[j].num:Int),.slice A'.ab A'.nb A'.cb,.slice A'.ai A'.ni A'.ci] 31)) ok hwk (hI'.below PA) hlen);have HSUM:Hid ((It.head 5 q ++ It.encs (ks.take j)).length + (It.enc ks[j]).length≤1000000000000):=dh (by rw [List.length_append];have:=HL.out;have:=HFL.out;omega);have HE1:=dh e1;have HPA:=dh PA;have HO:=dh hO;have HBW:=dh hBw;have hlt:(j:Int) < (ni:Int):=by omega
   clear hO hBw hI' hwk PA e1 e2 e3 hlen;generalize ks[j]=y at *;go_wp2_with fail
   refine HCC.out.mono ?_;rintro e w6 h6;obtain ⟨a6,c6,rfl,z1,R6,z2,z3,B6⟩:=h6.open;clear z1 z2 z3 h6;obtain ⟨v7,W7,hrun,hO7,hB7⟩:=app_step (c:=c6) HO.out HBW.out.size (pt HPA.out B6) R6 HSUM.out;have HR:=dh hrun;have HO7:=dh hO7;have HB7:=dh (HBW.out.trans hB7);clear hrun hO7 hB7 R6 B6 c0 c1 c2 c3;go_wp2_with (at_builtin;refine wj rfl _ _ 23 rfl rfl rfl HR.out ?_;clear HR)
   go_roundw
   case rel=>exact ⟨j + 1,by omega,by go_num,by rw [HE1.out,← List.append_assoc];exact HO7.out,HB7.out⟩
   case measure=>simp [intOf];omega
  ·obtain rfl:j=ni:=by omega
   have HO7:=dh hO;have HB7:=dh hBw;clear hO hBw;go_wp2_with fail
   go_ret
   have h1:=HO7.out;rw [List.take_of_length_le (by have:=HNI.out;omega)] at h1;exact ⟨_,rfl,h1,HB7.out⟩
set_option maxHeartbeats 8000000 in
theorem raw_6 (d:Nat) (ih:RawC d) (ks:List It) (N:Int) (ab ai:Option Addr) (nb cb ni ci:Nat) (w:World) (ok:Nat→Prop) (hT:TL ok w ks ai ni) (hw':It.wfs d ks=true) (q:Nat) (hq:N=q) (hl:(It.encs ks).length≤1000000000):
 Calls Tryd.prog 40 #[.agg #[.int .i64 6,.int .u64 N,.slice ab nb cb,.slice ai ni ci]] w (FB (It.head 6 q ++ It.encs ks) w):=by
 have C1:=fun W=>rhead_any 6 q N hq 6 rfl (by omega) W
 have fl:(It.head 6 q).length≤9:=by rw [It.head_length];(repeat' split) <;> omega
 have hnb:ni≤1000000000:=by have:=It.length_le_encs ks;have:=hT.1;omega
 have P0:=al w (.cells #[.int .i64 6,.int .u64 N,.slice ab nb cb,.slice ai ni ci] 31);have N0:=aw w (.cells #[.int .i64 6,.int .u64 N,.slice ab nb cb,.slice ai ni ci] 31);have HN0:=dh N0;have HP:=dh P0;have HIT:=dh hT;have HW:=dh hw';have HL:=dh hl;have HFL:=dh fl;have HIH:=dh ih;have HNI:Hid (ni=ks.length):=dh hT.1;clear P0 N0 hT hw' hl fl ih hq;go_enter Tryd.func40,Tryd.ntmps40
 go_wp2_with fail
 generalize w.alloc (.cells #[.int .i64 6,.int .u64 N,.slice ab nb cb,.slice ai ni ci] 31)=w1 at *;refine (C1 w1).mono ?_;rintro e w2 h2;obtain ⟨v2,rfl,O2,B2⟩:=h2;have HN2:=Below.keep B2 HN0.out (lb HN0.out);have HO2:=dh (O2.lower HP.out.size);have HB2:=dh (pt HP.out B2);obtain ⟨f0,f1,f2,f3⟩:=cf HN2;clear O2 B2 HN2;go_wp2_with fail
 clear f0 f1 f2 f3;go_loopw [3,69] (fun v i W=>∃ j:Nat,j≤ni∧i=.int .i64 j∧OwnB W w.heap.size v (It.head 6 q ++ It.encs (ks.take j))∧Below w.heap.size w W) (fun _ i _=>ni - (intOf i).toNat)
 case atStart=>exact ⟨0,by omega,rfl,by simpa [It.encs] using HO2.out,HB2.out⟩
 case round=>
  obtain ⟨j,hj,rfl,hO,hBw⟩:=hrel;by_cases hjn:j < ni
  ·have hjk:j < ks.length:=by have:=HNI.out;omega
   obtain ⟨b',o',A',rfl,hb',⟨c0,c1,c2,c3⟩,hI'⟩:=(HIT.out.below hBw).2.2 j hjk;have hwk:=wfs_get HW.out j hjk;have PA:=al wr (.cells #[.int .i64 ks[j].kind,.int .u64 (ks[j].num:Int),.slice A'.ab A'.nb A'.cb,.slice A'.ai A'.ni A'.ci] 31);have e1:=encs_take_succ hjk;have e2:=encs_take_le ks (j + 1);have e3:(It.encs (ks.take (j + 1))).length=(It.encs (ks.take j)).length + (It.enc ks[j]).length:=by rw [e1,List.length_append]
   have hlen:(It.enc ks[j]).length≤1000000000:=by have:=HL.out;omega
   have HCC:=dh (HIH.out ks[j] A' (wr.alloc (.cells #[.int .i64 ks[j].kind,.int .u64 (ks[j].num:Int),.slice A'.ab A'.nb A'.cb,.slice A'.ai A'.ni A'.ci] 31)) ok hwk (hI'.below PA) hlen);have HSUM:Hid ((It.head 6 q ++ It.encs (ks.take j)).length + (It.enc ks[j]).length≤1000000000000):=dh (by rw [List.length_append];have:=HL.out;have:=HFL.out;omega);have HE1:=dh e1;have HPA:=dh PA;have HO:=dh hO;have HBW:=dh hBw;have hlt:(j:Int) < (ni:Int):=by omega
   clear hO hBw hI' hwk PA e1 e2 e3 hlen;generalize ks[j]=y at *;go_wp2_with fail
   refine HCC.out.mono ?_;rintro e w6 h6;obtain ⟨a6,c6,rfl,z1,R6,z2,z3,B6⟩:=h6.open;clear z1 z2 z3 h6;obtain ⟨v7,W7,hrun,hO7,hB7⟩:=app_step (c:=c6) HO.out HBW.out.size (pt HPA.out B6) R6 HSUM.out;have HR:=dh hrun;have HO7:=dh hO7;have HB7:=dh (HBW.out.trans hB7);clear hrun hO7 hB7 R6 B6 c0 c1 c2 c3;go_wp2_with (at_builtin;refine wj rfl _ _ 23 rfl rfl rfl HR.out ?_;clear HR)
   go_roundw
   case rel=>exact ⟨j + 1,by omega,by go_num,by rw [HE1.out,← List.append_assoc];exact HO7.out,HB7.out⟩
   case measure=>simp [intOf];omega
  ·obtain rfl:j=ni:=by omega
   have HO7:=dh hO;have HB7:=dh hBw;clear hO hBw;go_wp2_with fail
   go_ret
   have h1:=HO7.out;rw [List.take_of_length_le (by have:=HNI.out;omega)] at h1;exact ⟨_,rfl,h1,HB7.out⟩
set_option maxHeartbeats 4000000 in
theorem raw_2 (N:Int) (bs:List UInt8) (ab ai:Option Addr) (nb cb ni ci:Nat) (w:World) (ok:Nat→Prop) (hR:BR ok w ab nb bs) (hl:nb≤1000000000):
 Calls Tryd.prog 40 #[.agg #[.int .i64 2,.int .u64 N,.slice ab nb cb,.slice ai ni ci]] w (FB (It.head 2 bs.length ++ bs) w):=by
 have C1:=fun W=>rhead_any 2 bs.length (nb:Int) (by have:=hR.1;omega) 2 rfl (by omega) W
 have fl:(It.head 2 bs.length).length≤9:=by rw [It.head_length];(repeat' split) <;> omega
 have hw:IntKind.u64.wrap (nb:Int)=(nb:Int):=wrap_u64 (by omega) (by omega);have P0:=al w (.cells #[.int .i64 2,.int .u64 N,.slice ab nb cb,.slice ai ni ci] 31);have N0:=aw w (.cells #[.int .i64 2,.int .u64 N,.slice ab nb cb,.slice ai ni ci] 31);have HN0:=dh N0;have HBR:=dh (hR.below P0);have HP:=dh P0;have HL:=dh (And.intro hl (And.intro fl hR.1));clear P0 N0 hR hl fl;go_enter Tryd.func40,Tryd.ntmps40
 go_upto_region 9 with fail
 generalize w.alloc (.cells #[.int .i64 2,.int .u64 N,.slice ab nb cb,.slice ai ni ci] 31)=w1 at *;have hnl1:=lb HN0.out;obtain ⟨x0,x1,x2,x3⟩:=cf HN0.out;generalize hB:w.heap.size=B at *;refine wp_region_held_drew (S:=(fun w'=>w'.cell? ⟨B,0,none⟩=some (.int .i64 2)∧w'.cell? ⟨B,2,none⟩=some (.slice ab nb cb))) (by kernel_rfl) ⟨x0,x2⟩ (fun hHeld=>?_);refine tk 0 (v:=?_) rfl hHeld ?_ ?_;rotate_left
 ·intro W h;(try dsimp only at h);go_simp;try with_reducible rfl
 try simp only [Act.put,sx]
 refine tk 1 (v:=?_) rfl hHeld ?_ ?_;rotate_left
 ·intro W h;(try dsimp only at h);go_simp;try with_reducible rfl
 try simp only [Act.put,sx]
 refine tk 2 (v:=?_) rfl hHeld ?_ ?_;rotate_left
 ·intro W h;(try dsimp only at h);go_simp;try with_reducible rfl
 try simp only [Act.put,sx]
 refine tk 3 (v:=?_) rfl hHeld ?_ ?_;rotate_left
 ·intro W h;(try dsimp only at h);go_simp;try with_reducible rfl
 try simp only [Act.put,sx]
 refine tk 4 (v:=?_) rfl hHeld ?_ ?_;rotate_left
 ·intro W h;(try dsimp only at h);go_simp;try with_reducible rfl
 try simp only [Act.put,sx]
 refine tk 5 (v:=?_) rfl hHeld ?_ ?_;rotate_left
 ·intro W h;(try dsimp only at h);go_simp;try with_reducible rfl
 try simp only [Act.put,sx]
 refine tk 7 (v:=?_) rfl hHeld ?_ ?_;rotate_left
 ·intro W h;(try dsimp only at h);go_simp;try with_reducible rfl
 try simp only [Act.put,sx]
 refine tk 8 (v:=?_) rfl hHeld ?_ ?_;rotate_left
 ·intro W h;(try dsimp only at h);go_simp;try with_reducible rfl
 try simp only [Act.put,sx]
 refine wpAnyH_ready (rs:=[6]) (by kernel_rfl) (by simp) ?_;refine AllReadyH.cons rfl (fun K1 hK1=>?_) AllReadyH.nil;go_simp
 refine (C1 _).mono ?_;rintro e w3 h3;obtain ⟨a3,c3,rfl,O3,z1,z2,z3,B3⟩:=h3.open;clear z1 z2 z3 h3;have HO3:=dh O3;have HB3:=dh (pt (bd (Below.refl w1.heap.size w1) 1) B3);have HN3:=dh (Below.keep HB3.out HN0.out hnl1);obtain ⟨e0,e1,e2,e3⟩:=cf HN3.out;clear O3 B3;refine hK1.out _ _ ⟨e0,e2⟩ (fun hHeld=>?_);clear hK1
 try simp only [Act.put,sx]
 refine wpAnyH_ready (rs:=[9]) (by kernel_rfl) (by simp) ?_;refine AllReadyH.cons rfl (fun K1 hK1=>?_) AllReadyH.nil;obtain ⟨v4,W4,hrun,hO4,hB4,hs4,hN4,hne4⟩:=app_box (w:=w1) (c:=cb) HO3.out HB3.out.size HB3.out (HBR.out.below HB3.out) (by have:=HL.out;omega) HN3.out (fun e=>by have h1:w1.heap.size≤B:=(olt HO3.out e).2.1;omega);clear hs4 hne4;have HO4:=dh hO4;have HB4:=dh hB4;obtain ⟨k0,k1,k2,k3⟩:=cf hN4;rw [if_pos (by rfl)];refine wp_app _ _ 23 rfl rfl rfl hrun ?_;clear hrun hO4 hB4 hN4;refine hK1.out _ _ ⟨k0,k2⟩ (fun hHeld=>?_);clear hK1
 try simp only [Act.put,sx]
 refine tk 10 (v:=?_) rfl hHeld ?_ ?_;rotate_left
 ·intro W h;(try dsimp only at h);go_simp;try with_reducible rfl
 try simp only [Act.put,sx]
 refine wpAnyH_done (by kernel_rfl) ?_ _
 try simp only [Act.put,sx]
 clear hHeld;go_wp2_with fail
 go_ret
 have hd:B≤w1.drew.heap.size:=by rw [← hB];exact HP.out.size
 exact ⟨_,rfl,by rw [hB];exact HO4.out.lower hd,by rw [hB];exact HP.out.trans (HB4.out.mono hd)⟩
set_option maxHeartbeats 4000000 in
theorem raw_3 (N:Int) (bs:List UInt8) (ab ai:Option Addr) (nb cb ni ci:Nat) (w:World) (ok:Nat→Prop) (hR:BR ok w ab nb bs) (hl:nb≤1000000000):
 Calls Tryd.prog 40 #[.agg #[.int .i64 3,.int .u64 N,.slice ab nb cb,.slice ai ni ci]] w (FB (It.head 3 bs.length ++ bs) w):=by
 have C1:=fun W=>rhead_any 3 bs.length (nb:Int) (by have:=hR.1;omega) 3 rfl (by omega) W
 have fl:(It.head 3 bs.length).length≤9:=by rw [It.head_length];(repeat' split) <;> omega
 have hw:IntKind.u64.wrap (nb:Int)=(nb:Int):=wrap_u64 (by omega) (by omega);have P0:=al w (.cells #[.int .i64 3,.int .u64 N,.slice ab nb cb,.slice ai ni ci] 31);have N0:=aw w (.cells #[.int .i64 3,.int .u64 N,.slice ab nb cb,.slice ai ni ci] 31);have HN0:=dh N0;have HBR:=dh (hR.below P0);have HP:=dh P0;have HL:=dh (And.intro hl (And.intro fl hR.1));clear P0 N0 hR hl fl;go_enter Tryd.func40,Tryd.ntmps40
 go_upto_region 9 with fail
 generalize w.alloc (.cells #[.int .i64 3,.int .u64 N,.slice ab nb cb,.slice ai ni ci] 31)=w1 at *;have hnl1:=lb HN0.out;obtain ⟨x0,x1,x2,x3⟩:=cf HN0.out;generalize hB:w.heap.size=B at *;refine wp_region_held_drew (S:=(fun w'=>w'.cell? ⟨B,0,none⟩=some (.int .i64 3)∧w'.cell? ⟨B,2,none⟩=some (.slice ab nb cb))) (by kernel_rfl) ⟨x0,x2⟩ (fun hHeld=>?_);refine tk 0 (v:=?_) rfl hHeld ?_ ?_;rotate_left
 ·intro W h;(try dsimp only at h);go_simp;try with_reducible rfl
 try simp only [Act.put,sx]
 refine tk 1 (v:=?_) rfl hHeld ?_ ?_;rotate_left
 ·intro W h;(try dsimp only at h);go_simp;try with_reducible rfl
 try simp only [Act.put,sx]
 refine tk 2 (v:=?_) rfl hHeld ?_ ?_;rotate_left
 ·intro W h;(try dsimp only at h);go_simp;try with_reducible rfl
 try simp only [Act.put,sx]
 refine tk 3 (v:=?_) rfl hHeld ?_ ?_;rotate_left
 ·intro W h;(try dsimp only at h);go_simp;try with_reducible rfl
 try simp only [Act.put,sx]
 refine tk 4 (v:=?_) rfl hHeld ?_ ?_;rotate_left
 ·intro W h;(try dsimp only at h);go_simp;try with_reducible rfl
 try simp only [Act.put,sx]
 refine tk 5 (v:=?_) rfl hHeld ?_ ?_;rotate_left
 ·intro W h;(try dsimp only at h);go_simp;try with_reducible rfl
 try simp only [Act.put,sx]
 refine tk 7 (v:=?_) rfl hHeld ?_ ?_;rotate_left
 ·intro W h;(try dsimp only at h);go_simp;try with_reducible rfl
 try simp only [Act.put,sx]
 refine tk 8 (v:=?_) rfl hHeld ?_ ?_;rotate_left
 ·intro W h;(try dsimp only at h);go_simp;try with_reducible rfl
 try simp only [Act.put,sx]
 refine wpAnyH_ready (rs:=[6]) (by kernel_rfl) (by simp) ?_;refine AllReadyH.cons rfl (fun K1 hK1=>?_) AllReadyH.nil;go_simp
 refine (C1 _).mono ?_;rintro e w3 h3;obtain ⟨a3,c3,rfl,O3,z1,z2,z3,B3⟩:=h3.open;clear z1 z2 z3 h3;have HO3:=dh O3;have HB3:=dh (pt (bd (Below.refl w1.heap.size w1) 1) B3);have HN3:=dh (Below.keep HB3.out HN0.out hnl1);obtain ⟨e0,e1,e2,e3⟩:=cf HN3.out;clear O3 B3;refine hK1.out _ _ ⟨e0,e2⟩ (fun hHeld=>?_);clear hK1
 try simp only [Act.put,sx]
 refine wpAnyH_ready (rs:=[9]) (by kernel_rfl) (by simp) ?_;refine AllReadyH.cons rfl (fun K1 hK1=>?_) AllReadyH.nil;obtain ⟨v4,W4,hrun,hO4,hB4,hs4,hN4,hne4⟩:=app_box (w:=w1) (c:=cb) HO3.out HB3.out.size HB3.out (HBR.out.below HB3.out) (by have:=HL.out;omega) HN3.out (fun e=>by have h1:w1.heap.size≤B:=(olt HO3.out e).2.1;omega);clear hs4 hne4;have HO4:=dh hO4;have HB4:=dh hB4;obtain ⟨k0,k1,k2,k3⟩:=cf hN4;rw [if_pos (by rfl)];refine wp_app _ _ 23 rfl rfl rfl hrun ?_;clear hrun hO4 hB4 hN4;refine hK1.out _ _ ⟨k0,k2⟩ (fun hHeld=>?_);clear hK1
 try simp only [Act.put,sx]
 refine tk 10 (v:=?_) rfl hHeld ?_ ?_;rotate_left
 ·intro W h;(try dsimp only at h);go_simp;try with_reducible rfl
 try simp only [Act.put,sx]
 refine wpAnyH_done (by kernel_rfl) ?_ _
 try simp only [Act.put,sx]
 clear hHeld;go_wp2_with fail
 go_ret
 have hd:B≤w1.drew.heap.size:=by rw [← hB];exact HP.out.size
 exact ⟨_,rfl,by rw [hB];exact HO4.out.lower hd,by rw [hB];exact HP.out.trans (HB4.out.mono hd)⟩
theorem raw_step (d:Nat) (ih:0 < d→RawC (d - 1)):RawC d:=by
 intro x A w ok hw hI hl;have hn:=hI.num;have hnb:=hI.nb;have hni:=hI.ni;have hbr:=hI.br;have htl:=hI.tl;cases x with
 | mk k n b ks=>
   simp only [It.kind,It.num,It.bytes,It.kids] at *;obtain ⟨hn',h⟩:=wf_kinds hw;rcases h with ⟨h1,rfl,rfl⟩ | ⟨h1,rfl,rfl,_⟩ | ⟨rfl,rfl,rfl,g7⟩ | ⟨rfl,rfl,rfl,_⟩ | ⟨h1,rfl,hd,g1,g2,g3,g4⟩
   ·rcases h1 with rfl | rfl
    ·exact raw_0 n n rfl _ _ _ _ _ _ w
    ·exact raw_1 n n rfl _ _ _ _ _ _ w
   ·rcases h1 with rfl | rfl
    ·have e:It.enc (.mk 2 0 b [])=It.head 2 b.length ++ b:=by simp [It.enc]
     rw [e] at hl ⊢;rw [List.length_append] at hl;exact raw_2 _ b _ _ _ _ _ _ w ok hbr (by omega)
    ·have e:It.enc (.mk 3 0 b [])=It.head 3 b.length ++ b:=by simp [It.enc]
     rw [e] at hl ⊢;rw [List.length_append] at hl;exact raw_3 _ b _ _ _ _ _ _ w ok hbr (by omega)
   ·rw [It.enc7]
    exact raw_7 n n rfl (by omega) _ _ _ _ _ _ w
   ·rw [It.enc8]
    exact raw_8 n n rfl hn' _ _ _ _ _ _ w
   ·have hr:=ih hd
    rcases h1 with rfl | rfl | rfl
    ·have e:It.enc (.mk 4 n [] ks)=It.head 4 ks.length ++ It.encs ks:=by simp [It.enc]
     rw [e] at hl ⊢;rw [List.length_append] at hl;exact raw_4 (d - 1) hr ks _ _ _ _ _ _ _ w ok htl g4 ks.length hni.1.symm (by omega)
    ·have e:It.enc (.mk 5 n [] ks)=It.head 5 (ks.length / 2) ++ It.encs ks:=by simp [It.enc]
     rw [e] at hl ⊢;rw [List.length_append] at hl;exact raw_5 (d - 1) hr ks _ _ _ _ _ _ _ w ok htl g4 (ks.length / 2) (by rw [hni.1]) (by omega)
    ·have e:It.enc (.mk 6 n [] ks)=It.head 6 n ++ It.encs ks:=by simp [It.enc]
     rw [e] at hl ⊢;rw [List.length_append] at hl;exact raw_6 (d - 1) hr ks _ _ _ _ _ _ _ w ok htl g4 n rfl (by omega)
theorem raw_any:∀ d,RawC d
 | 0=>raw_step 0 fun h=>by omega
 | d + 1=>raw_step (d + 1) fun _=>raw_any d
end Go.Proofs.YtelefkkkccilaaaDoor
