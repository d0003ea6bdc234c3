/- unicode/utf8.Valid. unicode/utf8.Valid at a slice of bytes; bytes.Compare, bytes.Equal, Clone. -/
import Derived.Test.YtelefkkkccilaaaDoorLC
import Derived.Lib.BytesEntry
import Derived.Lib.Bytealg
set_option linter.unusedVariables false
set_option linter.unusedSimpArgs false
namespace Go.Proofs.YtelefkkkccilaaaDoor
open Go.RowKit
set_option maxRecDepth 1000000
set_option maxHeartbeats 32000000 in
theorem valid_loop (a:Option Addr) (w:World) (ANS:Bool) (t0:ByteArray) (hv0:Lib.validD t0.data.toList=ANS) (n:Nat) (hn:n=t0.size) (hsb:SB w (.slice a n n) t0) (ht0:t0.size≤9223372036854775807) (hT:Lib.Utf8Tabs 0 1 w) (c:Nat) (hc:n≤c):
 Calls Tryd.prog 55 #[.slice a n c] w fun e w'=>e=.returned (.bool ANS)∧Below w.heap.size w w':=by
 have HSB:=dh hsb;have HV0:=dh hv0;have HT:=dh hT;have HN:=dh hn;have HC:=dh ht0;have ncc:(n:Int)≤(c:Int):=by omega
 clear hsb hv0 hT hn ht0;go_enter Tryd.func55,Tryd.ntmps55
 go_wp2_with fail
 go_loopg [0] (n + 1) (fun gk s0 wx=>Below w.heap.size w wx∧∃ t:ByteArray,SB wx s0 t∧Lib.validD t.data.toList=ANS∧t.size < gk∧t.size≤9223372036854775807)
 case atStart=>exact ⟨Below.refl _ _,t0,HSB.out,HV0.out,by have:=HN.out;omega,HC.out⟩
 case round=>
  obtain ⟨hbw,t,⟨at0,rfl,hat⟩,hv,hg,hts⟩:=hrel;have hTr:=Utf8Tabs_below HT.out hbw;obtain ⟨m,hm⟩:∃ m,m=t.size:=⟨_,rfl⟩;rw [← hm];have HM:=dh hm;have HG:=dh hg;have HTS:=dh hts;have HBW:=dh hbw;have HV:=dh hv;clear hg hts hbw hv;by_cases h0:0 < t.size
  ·obtain ⟨b,o,rfl,hat2⟩:=hat h0
   obtain ⟨g',rfl⟩:∃ g',gk=g' + 1:=⟨gk - 1,by have:=HG.out;omega⟩;have h0z:(0:Int) < (m:Int):=by omega
   have hc0:=hat2 0 h0;rw [Nat.add_zero] at hc0;obtain ⟨x0,hx0⟩:∃ x0,t.get! 0=x0:=⟨_,rfl⟩;rw [hx0] at hc0;have hx0lt:x0.toNat < 256:=x0.toNat_lt;have HAT:=dh hat2;clear hat hat2;by_cases hasc:x0.toNat < 128
   ·as_aux_lemma=>
    have hascz:(x0.toNat:Int) < 128:=by omega
    have a1:Hid (Lib.Asc t 1):=dh (Lib.asc_one t h0 (by rw [hx0];exact hasc));clear hTr hx0;by_cases n1:m=1
    ·
     subst n1;clear hm h0;go_wp2_with fail
     go_roundg g'
     case measure=>omega
     case rel=>exact ⟨HBW.out,t.extract 1 t.size,SB.empty (by rw [Lib.ext_size,← HM.out]) _ (by omega),by rw [Lib.valid_skip t 1 a1.out];exact HV.out,by rw [Lib.ext_size];have:=HG.out;have:=HM.out;omega,by rw [Lib.ext_size];have:=HTS.out;omega⟩
    ·obtain ⟨m1,rfl⟩:∃ m1,m=m1 + 1:=⟨m - 1,by omega⟩
     have m1p:0 < m1:=by omega
     have m1z:(0:Int) < (m1:Int):=by omega
     obtain ⟨t1,ht1⟩:∃ t1,t.extract 1 t.size=t1:=⟨_,rfl⟩;have z1:t1.size=m1:=by rw [← ht1,Lib.ext_size];omega
     have v1:Hid (Lib.validD t1.data.toList=ANS):=dh (by rw [← ht1,Lib.valid_skip t 1 a1.out];exact HV.out);have HA1:Hid (At wr b (o + 1) t1):=dh (by rw [← ht1];exact HAT.out.ext 1);have HG1:Hid (m1 < g'):=dh (by have:=HG.out;have:=HM.out;omega);have HS1:Hid (m1 + 1≤9223372036854775807):=dh (by have:=HTS.out;have:=HM.out;omega);have Z1:=dh z1;clear hm h0 a1 hc ht1 HAT HV HG HTS HM;by_cases c8:8 < m1
     ·have c8z:(8:Int) < (m1:Int):=by omega
      obtain ⟨A1,hA1⟩:∃ A1,Lib.leNat [t1.get! 0,t1.get! 1,t1.get! 2,t1.get! 3,t1.get! 4,t1.get! 5,t1.get! 6,t1.get! 7]=A1:=⟨_,rfl⟩;have lA1:A1 < 18446744073709551616:=hA1 ▸ Lib.word_lt t1;have cW1:∀ (b' o' n' c':Nat) (W:World),At W b' o' t1→n'=t1.size→Calls Tryd.prog 87 #[.slice (some ⟨b',o',none⟩) n' c'] W fun e w'=>e=.returned (.int .u64 A1)∧∃ q,w'=W.drewN q:=fun b' o' n' c' W hA hn'=>by rw [← hA1];exact word_any t1 b' o' n' c' W hA (by omega) hn'
      have kA1:=Lib.word_asc t1 (by omega);rw [hA1] at kA1;have hand1:bits .and .u64 (A1:Int) 9259542123273814144=((A1 &&& 9259542123273814144:Nat):Int):=u64_and_nat A1 9259542123273814144 lA1 (by omega);obtain ⟨Q1,hQ1⟩:∃ Q1,A1 &&& 9259542123273814144=Q1:=⟨_,rfl⟩;rw [hQ1] at hand1 kA1;have CW1:=dh cW1;clear hA1 lA1 hQ1 z1 cW1;by_cases hz1:Q1=0
      ·have a8:Hid (Lib.Asc t1 8):=dh (kA1.1 hz1)
       subst hz1;clear kA1;obtain ⟨m2,rfl⟩:∃ m2,m1=m2 + 8:=⟨m1 - 8,by omega⟩;obtain ⟨t2,ht2⟩:∃ t2,t1.extract 8 t1.size=t2:=⟨_,rfl⟩;have z2:t2.size=m2:=by rw [← ht2,Lib.ext_size,Z1.out];omega
       have v2:Hid (Lib.validD t2.data.toList=ANS):=dh (by rw [← ht2,Lib.valid_skip t1 8 a8.out];exact v1.out);have HA2:Hid (At wr b (o + 1 + 8) t2):=dh (by rw [← ht2];exact HA1.out.ext 8);have Z2:=dh z2;have m2z:(0:Int) < (m2:Int):=by omega
       have n8:¬ m2 + 8=8:=by omega
       clear ht2 v1 a8 c8 m1p;go_wp2_with (go_at_call 87;go_must (refine (CW1.out b _ _ _ _ HA1.out Z1.out.symm).mono ?_;rintro e W1 ⟨rfl,q1,rfl⟩))
       have hb1:Hid (Below w.heap.size w (wr.drewN q1)):=dh (bd HBW.out q1);have HA2':Hid (At (wr.drewN q1) b (o + 1 + 8) t2):=dh HA2.out;generalize wr.drewN q1=wq at *;clear hc0 CW1 HA1 HA2 HBW;by_cases c16:16 < m2
       ·have c16z:(16:Int) < (m2:Int):=by omega
        obtain ⟨u2,hu2⟩:∃ u2,t2.extract 8 t2.size=u2:=⟨_,rfl⟩;have zu2:u2.size + 8=m2:=by rw [← hu2,Lib.ext_size];omega
        have HU2:Hid (At wq b (o + 1 + 8 + 8) u2):=dh (by rw [← hu2];exact HA2'.out.ext 8);obtain ⟨A2,hA2⟩:∃ A2,Lib.leNat [t2.get! 0,t2.get! 1,t2.get! 2,t2.get! 3,t2.get! 4,t2.get! 5,t2.get! 6,t2.get! 7]=A2:=⟨_,rfl⟩;have lA2:A2 < 18446744073709551616:=hA2 ▸ Lib.word_lt t2;have cW2:∀ (b' o' n' c':Nat) (W:World),At W b' o' t2→n'=t2.size→Calls Tryd.prog 87 #[.slice (some ⟨b',o',none⟩) n' c'] W fun e w'=>e=.returned (.int .u64 A2)∧∃ q,w'=W.drewN q:=fun b' o' n' c' W hA hn'=>by rw [← hA2];exact word_any t2 b' o' n' c' W hA (by omega) hn'
        have kA2:=Lib.word_asc t2 (by omega);rw [hA2] at kA2;obtain ⟨A3,hA3⟩:∃ A3,Lib.leNat [u2.get! 0,u2.get! 1,u2.get! 2,u2.get! 3,u2.get! 4,u2.get! 5,u2.get! 6,u2.get! 7]=A3:=⟨_,rfl⟩;have lA3:A3 < 18446744073709551616:=hA3 ▸ Lib.word_lt u2;have cW3:∀ (b' o' n' c':Nat) (W:World),At W b' o' u2→n'=u2.size→Calls Tryd.prog 87 #[.slice (some ⟨b',o',none⟩) n' c'] W fun e w'=>e=.returned (.int .u64 A3)∧∃ q,w'=W.drewN q:=fun b' o' n' c' W hA hn'=>by rw [← hA3];exact word_any u2 b' o' n' c' W hA (by omega) hn'
        have kA3:=Lib.word_asc u2 (by omega);rw [hA3] at kA3;have hor2:bits .or .u64 (A2:Int) (A3:Int)=((A2 ||| A3:Nat):Int):=u64_or_nat A2 A3 lA2 lA3;have lor2:A2 ||| A3 < 18446744073709551616:=Nat.or_lt_two_pow (n:=64) lA2 lA3;have hand2:bits .and .u64 ((A2 ||| A3:Nat):Int) 9259542123273814144=(((A2 ||| A3) &&& 9259542123273814144:Nat):Int):=u64_and_nat _ 9259542123273814144 lor2 (by omega);have k2:(A2 ||| A3) &&& 9259542123273814144=0→Lib.Asc t2 16:=fun h0'=>by
         obtain ⟨e1,e2⟩:=(Lib.or_mask A2 A3 _).1 h0';exact Lib.asc_add t2 8 8 (kA2.1 e1) (by rw [hu2];exact kA3.1 e2)
        obtain ⟨O2,hO2⟩:∃ O2,A2 ||| A3=O2:=⟨_,rfl⟩;rw [hO2] at hor2 hand2 k2;obtain ⟨Q2,hQ2⟩:∃ Q2,O2 &&& 9259542123273814144=Q2:=⟨_,rfl⟩;rw [hQ2] at hand2 k2;have CW2:=dh (fun q=>cW2 b (o + 1 + 8) m2 m2 (wq.drewN q) HA2'.out Z2.out.symm);have CW3:=dh (fun q=>cW3 b (o + 1 + 8 + 8) (m2 - 8) (m2 - 8) (wq.drewN q) HU2.out (by omega));have K2:=dh k2;have n82:¬ m2=8:=by omega
        have m8z:(8:Int)≤(m2:Int):=by omega
        clear kA2 kA3 lor2 hO2 hQ2 hA2 hA3 lA2 lA3 cW2 cW3 k2 z2 hu2;by_cases hz2:Q2=0
        ·subst hz2
         have a16:Hid (Lib.Asc t2 16):=dh (K2.out rfl)
         go_quiet (first | (go_at_call 87;with_reducible exact Calls.quiet_of (CW2.out _)) | (go_at_call 87;with_reducible exact Calls.quiet_of (CW3.out _)))
         have hb2:Hid (Below w.heap.size w (wq.drewN nq)):=dh (bd hb1.out nq);have HA2'':Hid (At (wq.drewN nq) b (o + 1 + 8) t2):=dh HA2'.out;generalize wq.drewN nq=wq2 at *;obtain ⟨m3,rfl⟩:∃ m3,m2=m3 + 16:=⟨m2 - 16,by omega⟩;obtain ⟨t3,ht3⟩:∃ t3,t2.extract 16 t2.size=t3:=⟨_,rfl⟩;have z3:t3.size=m3:=by rw [← ht3,Lib.ext_size,Z2.out];omega
         have v3:Hid (Lib.validD t3.data.toList=ANS):=dh (by rw [← ht3,Lib.valid_skip t2 16 a16.out];exact v2.out);have HA3:Hid (At wq2 b (o + 1 + 8 + 16) t3):=dh (by rw [← ht3];exact HA2''.out.ext 16);have Z3:=dh z3;have n16:¬ m3 + 16=16:=by omega
         clear CW2 CW3 hb1 HA2' HA2'' HU2 zu2 ht3 K2 a16 v2 z3 c16 n8;go_wp2_with fail
         have HM3:Hid (m3 + 1 < g'):=dh (by have:=HG1.out;omega);have HS3:Hid (m3≤9223372036854775807):=dh (by have:=HS1.out;omega);clear c16z n82 m8z m2z HG1 HS1 Z2 Z1 n16 m1z
         go_loopg [0] (m3 + 1) (fun g2 s0 wx=>Below w.heap.size w wx∧∃ u:ByteArray,SB wx s0 u∧Lib.validD u.data.toList=ANS∧u.size < g2∧u.size≤m3)
         case atStart=>exact ⟨hb2.out,t3,SB.of HA3.out _ Z3.out.symm,v3.out,by rw [Z3.out];omega,by rw [Z3.out];omega⟩
         case round=>
          obtain ⟨hbu,u,⟨au,rfl,hau⟩,vu,hgu,hut⟩:=hrel;obtain ⟨k,hk⟩:∃ k,k=u.size:=⟨_,rfl⟩;rw [← hk];have VU:=dh vu;have HBU:=dh hbu;have KU:=dh hk;clear vu hbu HA3 hb2 v3 Z3;by_cases c32:32 < k
          ·obtain ⟨g3,rfl⟩:∃ g3,gk=g3 + 1:=⟨gk - 1,by omega⟩
           obtain ⟨b,o,rfl,hA⟩:=hau (by omega);have c32z:(32:Int) < (k:Int):=by omega
           have s8u:(8:Int)≤(k:Int):=by omega
           have s16u:(16:Int)≤(k:Int):=by omega
           have s24u:(24:Int)≤(k:Int):=by omega
           have n8k:¬ k=8:=by omega
           have n16k:¬ k=16:=by omega
           have n24k:¬ k=24:=by omega
           have n32k:¬ k=32:=by omega
           obtain ⟨ub,hub⟩:∃ ub,u.extract 8 u.size=ub:=⟨_,rfl⟩;have zub:ub.size + 8=k:=by rw [← hub,Lib.ext_size];omega
           obtain ⟨uc,huc⟩:∃ uc,u.extract 16 u.size=uc:=⟨_,rfl⟩;have zuc:uc.size + 16=k:=by rw [← huc,Lib.ext_size];omega
           obtain ⟨ud,hud⟩:∃ ud,u.extract 24 u.size=ud:=⟨_,rfl⟩;have zud:ud.size + 24=k:=by rw [← hud,Lib.ext_size];omega
           obtain ⟨A4,hA4⟩:∃ A4,Lib.leNat [u.get! 0,u.get! 1,u.get! 2,u.get! 3,u.get! 4,u.get! 5,u.get! 6,u.get! 7]=A4:=⟨_,rfl⟩;have lA4:A4 < 18446744073709551616:=hA4 ▸ Lib.word_lt u;have cW4:∀ (b' o' n' c':Nat) (W:World),At W b' o' u→n'=u.size→Calls Tryd.prog 87 #[.slice (some ⟨b',o',none⟩) n' c'] W fun e w'=>e=.returned (.int .u64 A4)∧∃ q,w'=W.drewN q:=fun b' o' n' c' W hA hn'=>by rw [← hA4];exact word_any u b' o' n' c' W hA (by omega) hn'
           have kA4:=Lib.word_asc u (by omega);rw [hA4] at kA4;obtain ⟨A5,hA5⟩:∃ A5,Lib.leNat [ub.get! 0,ub.get! 1,ub.get! 2,ub.get! 3,ub.get! 4,ub.get! 5,ub.get! 6,ub.get! 7]=A5:=⟨_,rfl⟩;have lA5:A5 < 18446744073709551616:=hA5 ▸ Lib.word_lt ub;have cW5:∀ (b' o' n' c':Nat) (W:World),At W b' o' ub→n'=ub.size→Calls Tryd.prog 87 #[.slice (some ⟨b',o',none⟩) n' c'] W fun e w'=>e=.returned (.int .u64 A5)∧∃ q,w'=W.drewN q:=fun b' o' n' c' W hA hn'=>by rw [← hA5];exact word_any ub b' o' n' c' W hA (by omega) hn'
           have kA5:=Lib.word_asc ub (by omega);rw [hA5] at kA5;obtain ⟨A6,hA6⟩:∃ A6,Lib.leNat [uc.get! 0,uc.get! 1,uc.get! 2,uc.get! 3,uc.get! 4,uc.get! 5,uc.get! 6,uc.get! 7]=A6:=⟨_,rfl⟩;have lA6:A6 < 18446744073709551616:=hA6 ▸ Lib.word_lt uc;have cW6:∀ (b' o' n' c':Nat) (W:World),At W b' o' uc→n'=uc.size→Calls Tryd.prog 87 #[.slice (some ⟨b',o',none⟩) n' c'] W fun e w'=>e=.returned (.int .u64 A6)∧∃ q,w'=W.drewN q:=fun b' o' n' c' W hA hn'=>by rw [← hA6];exact word_any uc b' o' n' c' W hA (by omega) hn'
           have kA6:=Lib.word_asc uc (by omega);rw [hA6] at kA6;obtain ⟨A7,hA7⟩:∃ A7,Lib.leNat [ud.get! 0,ud.get! 1,ud.get! 2,ud.get! 3,ud.get! 4,ud.get! 5,ud.get! 6,ud.get! 7]=A7:=⟨_,rfl⟩;have lA7:A7 < 18446744073709551616:=hA7 ▸ Lib.word_lt ud;have cW7:∀ (b' o' n' c':Nat) (W:World),At W b' o' ud→n'=ud.size→Calls Tryd.prog 87 #[.slice (some ⟨b',o',none⟩) n' c'] W fun e w'=>e=.returned (.int .u64 A7)∧∃ q,w'=W.drewN q:=fun b' o' n' c' W hA hn'=>by rw [← hA7];exact word_any ud b' o' n' c' W hA (by omega) hn'
           have kA7:=Lib.word_asc ud (by omega);rw [hA7] at kA7;have ho1:bits .or .u64 (A4:Int) (A5:Int)=((A4 ||| A5:Nat):Int):=u64_or_nat A4 A5 lA4 lA5;have ho2:bits .or .u64 (A6:Int) (A7:Int)=((A6 ||| A7:Nat):Int):=u64_or_nat A6 A7 lA6 lA7;have lo1:A4 ||| A5 < 18446744073709551616:=Nat.or_lt_two_pow (n:=64) lA4 lA5;have lo2:A6 ||| A7 < 18446744073709551616:=Nat.or_lt_two_pow (n:=64) lA6 lA7;have ho3:bits .or .u64 ((A4 ||| A5:Nat):Int) ((A6 ||| A7:Nat):Int)=(((A4 ||| A5) ||| (A6 ||| A7):Nat):Int):=u64_or_nat _ _ lo1 lo2;have lo3:(A4 ||| A5) ||| (A6 ||| A7) < 18446744073709551616:=Nat.or_lt_two_pow (n:=64) lo1 lo2;have hand3:bits .and .u64 (((A4 ||| A5) ||| (A6 ||| A7):Nat):Int) 9259542123273814144=((((A4 ||| A5) ||| (A6 ||| A7)) &&& 9259542123273814144:Nat):Int):=u64_and_nat _ 9259542123273814144 lo3 (by omega);have k3:((A4 ||| A5) ||| (A6 ||| A7)) &&& 9259542123273814144=0→Lib.Asc u 32:=fun h0'=>by
            obtain ⟨e01,e23⟩:=(Lib.or_mask _ _ _).1 h0';obtain ⟨e0,e1⟩:=(Lib.or_mask _ _ _).1 e01;obtain ⟨e2,e3⟩:=(Lib.or_mask _ _ _).1 e23;have s16:Lib.Asc u 16:=Lib.asc_add u 8 8 (kA4.1 e0) (by rw [hub];exact kA5.1 e1);have s24:Lib.Asc u 24:=Lib.asc_add u 16 8 s16 (by rw [huc];exact kA6.1 e2);exact Lib.asc_add u 24 8 s24 (by rw [hud];exact kA7.1 e3)
           obtain ⟨P1,hP1⟩:∃ P1,A4 ||| A5=P1:=⟨_,rfl⟩;obtain ⟨P2,hP2⟩:∃ P2,A6 ||| A7=P2:=⟨_,rfl⟩;rw [hP1,hP2] at ho3 hand3 k3;rw [hP1] at ho1;rw [hP2] at ho2;obtain ⟨P3,hP3⟩:∃ P3,P1 ||| P2=P3:=⟨_,rfl⟩;rw [hP3] at ho3 hand3 k3;obtain ⟨Q3,hQ3⟩:∃ Q3,P3 &&& 9259542123273814144=Q3:=⟨_,rfl⟩;rw [hQ3] at hand3 k3;have K3:=dh k3;have HAU:=dh hA;have CW4:=dh (fun q=>cW4 b o k k (wr.drewN q) HAU.out KU.out);have CW5:=dh (fun q=>cW5 b (o + 8) (k - 8) (k - 8) (wr.drewN q) (by rw [← hub];exact HAU.out.ext 8) (by omega));have CW6:=dh (fun q=>cW6 b (o + 16) (k - 16) (k - 16) (wr.drewN q) (by rw [← huc];exact HAU.out.ext 16) (by omega));have CW7:=dh (fun q=>cW7 b (o + 24) (k - 24) (k - 24) (wr.drewN q) (by rw [← hud];exact HAU.out.ext 24) (by omega));have HGU:Hid (k < g3 + 1):=dh (by omega);have HUT:Hid (k≤m3):=dh (by omega);clear kA4 kA5 kA6 kA7 lo1 lo2 lo3 hP1 hP2 hP3 hQ3 hA4 hA5 hA6 hA7 lA4 lA5 lA6 lA7 cW4 cW5 cW6 cW7 k3 hA hau hub huc hud zub zuc zud hk hgu hut c32;by_cases hz3:Q3=0
           ·subst hz3
            have a32:Hid (Lib.Asc u 32):=dh (K3.out rfl);clear K3;go_wp2_with fail
            go_quiet (first | (go_at_call 87;with_reducible exact Calls.quiet_of (CW4.out _)) | (go_at_call 87;with_reducible exact Calls.quiet_of (CW5.out _)) | (go_at_call 87;with_reducible exact Calls.quiet_of (CW6.out _)) | (go_at_call 87;with_reducible exact Calls.quiet_of (CW7.out _)))
            go_wp2_with fail
            go_roundg g3
            case measure=>omega
            case rel=>exact ⟨bd HBU.out nq,u.extract 32 u.size,SB.of (w:=wr.drewN nq) (HAU.out.ext 32) _ (by rw [Lib.ext_size,← KU.out]),by rw [Lib.valid_skip u 32 a32.out];exact VU.out,by rw [Lib.ext_size,← KU.out];have:=HGU.out;omega,by rw [Lib.ext_size,← KU.out];have:=HUT.out;omega⟩
           ·have hz3b:((Q3:Int)==0)=false:=by simp;omega
            clear K3 hz3;go_wp2_with fail
            go_quiet (first | (go_at_call 87;with_reducible exact Calls.quiet_of (CW4.out _)) | (go_at_call 87;with_reducible exact Calls.quiet_of (CW5.out _)) | (go_at_call 87;with_reducible exact Calls.quiet_of (CW6.out _)) | (go_at_call 87;with_reducible exact Calls.quiet_of (CW7.out _)))
            go_wp2_with fail
            go_roundg g'
            case measure=>have:=HM3.out;omega
            case rel=>exact ⟨bd HBU.out nq,u,SB.of (w:=wr.drewN nq) HAU.out _ KU.out,VU.out,by rw [← KU.out];have:=HUT.out;have:=HM3.out;omega,by rw [← KU.out];have:=HUT.out;have:=HS3.out;omega⟩
          ·have c32z:¬ ((32:Int) < (k:Int)):=by omega
           have c32b:decide ((32:Int) < (k:Int))=false:=decide_eq_false c32z;have HUT:Hid (k≤m3):=dh (by omega);have HSB:Hid (SB wr (.slice au k k) u):=dh ⟨au,by rw [hk],hau⟩;clear hk hgu hut hau c32;go_wp2_with fail
           go_quiet (fail)
           go_wp2_with fail
           go_roundg g'
           case measure=>have:=HM3.out;omega
           case rel=>exact ⟨bd HBU.out nq,u,HSB.out,VU.out,by rw [← KU.out];have:=HUT.out;have:=HM3.out;omega,by rw [← KU.out];have:=HUT.out;have:=HS3.out;omega⟩
        ·have hz2b:((Q2:Int)==0)=false:=by simp;omega
         go_quiet (first | (go_at_call 87;with_reducible exact Calls.quiet_of (CW2.out _)) | (go_at_call 87;with_reducible exact Calls.quiet_of (CW3.out _)))
         go_wp2_with fail
         go_roundg g'
         case measure=>omega
         case rel=>exact ⟨bd hb1.out nq,t2,SB.of (w:=wq.drewN nq) HA2'.out _ Z2.out.symm,v2.out,by rw [Z2.out];have:=HG1.out;omega,by rw [Z2.out];have:=HS1.out;omega⟩
       ·have c16z:¬ ((16:Int) < (m2:Int)):=by omega
        have c16b:decide ((16:Int) < (m2:Int))=false:=decide_eq_false c16z;clear z2
        go_quiet (fail)
        go_wp2_with fail
        go_roundg g'
        case measure=>omega
        case rel=>exact ⟨bd hb1.out nq,t2,SB.of (w:=wq.drewN nq) HA2'.out _ Z2.out.symm,v2.out,by rw [Z2.out];have:=HG1.out;omega,by rw [Z2.out];have:=HS1.out;omega⟩
      ·have hz1b:((Q1:Int)==0)=false:=by simp;omega
       clear kA1 hz1;go_wp2_with (go_at_call 87;go_must (refine (CW1.out b _ _ _ _ HA1.out Z1.out.symm).mono ?_;rintro e W1 ⟨rfl,q1,rfl⟩))
       go_roundg g'
       case measure=>omega
       case rel=>exact ⟨bd HBW.out q1,t1,SB.of (w:=wr.drewN q1) HA1.out _ Z1.out.symm,v1.out,by rw [Z1.out];exact HG1.out,by rw [Z1.out];have:=HS1.out;omega⟩
     ·have c8z:¬ ((8:Int) < (m1:Int)):=by omega
      clear z1;go_wp2_with fail
      go_roundg g'
      case measure=>omega
      case rel=>exact ⟨HBW.out,t1,SB.of HA1.out _ Z1.out.symm,v1.out,by rw [Z1.out];exact HG1.out,by rw [Z1.out];have:=HS1.out;omega⟩
   ·as_aux_lemma=>
    have hge:128≤x0.toNat:=by omega
    have hascz:¬ ((x0.toNat:Int) < 128):=by omega
    obtain ⟨x1,hx1⟩:∃ x1,t.get! 1=x1:=⟨_,rfl⟩;obtain ⟨x2,hx2⟩:∃ x2,t.get! 2=x2:=⟨_,rfl⟩;obtain ⟨x3,hx3⟩:∃ x3,t.get! 3=x3:=⟨_,rfl⟩;have l1:=x1.toNat_lt;have l2:=x2.toNat_lt;have l3:=x3.toNat_lt;have hne:t.data.toList≠[]:=fun h=>by rw [Lib.size_eq,h] at h0;simp at h0
    have hlead:=Lib.validD_lead t.data.toList hne (by rw [Lib.getD_get!',hx0];exact hge);rw [Lib.getD_get!',Lib.getD_get!',Lib.getD_get!',Lib.getD_get!',hx0,hx1,hx2,hx3,← Lib.size_eq,HV.out,← hm] at hlead;have hcf:=hTr.1 x0.toNat hx0lt;have hXlt:Lib.firstT x0.toNat < 256:=by rcases Lib.firstT_cases x0.toNat with h | h | h | h | h | h | h | h | h <;> omega
    obtain ⟨X,hX⟩:∃ X,Lib.firstT x0.toNat=X:=⟨_,rfl⟩;rw [hX] at hcf hXlt hlead;have h7:=and7 ⟨X,hXlt⟩;simp only at h7;have ha0:wr.cell? ⟨1,X / 16 * 2,none⟩=some (.int .u8 (Lib.accLo (X / 16))):=by rw [Nat.mul_comm];exact (hTr.2 (X / 16) (by omega)).1
    have ha1:wr.cell? ⟨1,X / 16 * 2 + 1,none⟩=some (.int .u8 (Lib.accHi (X / 16))):=by rw [Nat.mul_comm];exact (hTr.2 (X / 16) (by omega)).2
    obtain ⟨LO,hLO⟩:∃ LO,Lib.accLo (X / 16)=LO:=⟨_,rfl⟩;obtain ⟨HI,hHI⟩:∃ HI,Lib.accHi (X / 16)=HI:=⟨_,rfl⟩;rw [hLO] at ha0 hlead;rw [hHI] at ha1 hlead;obtain ⟨SZ,hSZ⟩:∃ SZ,X % 8=SZ:=⟨_,rfl⟩;rw [hSZ] at hlead;have hs1:1 < m→(wr.alloc (.cells #[.int .u8 (LO:Int),.int .u8 (HI:Int)] 143)).cell? ⟨b,o + 1,none⟩=some (.int .u8 (x1.toNat:Int)):=fun h=>by rw [← hx1];exact HAT.out.below (al wr _) 1 (by omega)
    have hs2:2 < m→(wr.alloc (.cells #[.int .u8 (LO:Int),.int .u8 (HI:Int)] 143)).cell? ⟨b,o + 2,none⟩=some (.int .u8 (x2.toNat:Int)):=fun h=>by rw [← hx2];exact HAT.out.below (al wr _) 2 (by omega)
    have hs3:3 < m→(wr.alloc (.cells #[.int .u8 (LO:Int),.int .u8 (HI:Int)] 143)).cell? ⟨b,o + 3,none⟩=some (.int .u8 (x3.toNat:Int)):=fun h=>by rw [← hx3];exact HAT.out.below (al wr _) 3 (by omega)
    have HLEAD:=dh hlead;have h0n:0 < m:=by omega
    have HS1:=dh hs1;have HS2:=dh hs2;have HS3:=dh hs3;clear hTr hX hLO hHI hne hx0 hx1 hx2 hx3 hm h0 hlead hs1 hs2 hs3 hasc hc;by_cases s2:SZ=2
    ·as_aux_lemma=>
     subst s2;have hSZz:(X:Int) % 8=2:=by omega
     have hlead:=HLEAD.out;simp only [Lib.checkN,Nat.reduceEqDiff,if_true,if_false] at hlead;have HL:=dh hlead;clear hlead HLEAD;go_upto_region 18 with fail
     go_cut [103] from 85 to 103 (fun c wx=>c=.bool (decide (m < 2∨x1.toNat < LO∨HI < x1.toNat))∧Below w.heap.size w wx∧At wx b o t)
     case first=>
      by_cases q0:m < 2
      ·have q0z:(m:Int) < 2:=by omega
       go_quiet (fail)
       go_wp2_with fail
       go_meet
       exact ⟨congrArg Value.bool (decide_eq_true (p:=m < 2∨x1.toNat < LO∨HI < x1.toNat) (by omega)).symm,bd (HBW.out.alloc HBW.out.size _) _,HAT.out.below (bd (al wr _) _)⟩
      ·have q0z:¬ ((m:Int) < 2):=by omega
       have hb1:=HS1.out (by omega);have hz1:(1:Int) < (m:Int):=by omega
       by_cases q1:x1.toNat < LO
       ·have q1z:(x1.toNat:Int) < (LO:Int):=by omega
        go_quiet (fail)
        go_wp2_with fail
        go_meet
        exact ⟨congrArg Value.bool (decide_eq_true (p:=m < 2∨x1.toNat < LO∨HI < x1.toNat) (by omega)).symm,bd (HBW.out.alloc HBW.out.size _) _,HAT.out.below (bd (al wr _) _)⟩
       ·have q1z:¬ ((x1.toNat:Int) < (LO:Int)):=by omega
        by_cases q2:HI < x1.toNat
        ·have q2z:(HI:Int) < (x1.toNat:Int):=by omega
         go_quiet (fail)
         go_wp2_with fail
         go_meet
         exact ⟨congrArg Value.bool (decide_eq_true (p:=m < 2∨x1.toNat < LO∨HI < x1.toNat) (by omega)).symm,bd (HBW.out.alloc HBW.out.size _) _,HAT.out.below (bd (al wr _) _)⟩
        ·have q2z:¬ ((HI:Int) < (x1.toNat:Int)):=by omega
         go_quiet (fail)
         go_wp2_with fail
         go_meet
         exact ⟨congrArg Value.bool (decide_eq_false (p:=m < 2∨x1.toNat < LO∨HI < x1.toNat) (by omega)).symm,bd (HBW.out.alloc HBW.out.size _) _,HAT.out.below (bd (al wr _) _)⟩
     case rest=>
      obtain ⟨rfl,hbc,hatc⟩:=hcut;have HATC:=dh hatc;clear hatc;by_cases hb:m < 2∨x1.toNat < LO∨HI < x1.toNat
      ·have hbd:decide (m < 2∨x1.toNat < LO∨HI < x1.toNat)=true:=decide_eq_true hb
       have hlead:=HL.out;rw [if_pos hb] at hlead;have HE:=dh hlead;have HBC:=dh hbc;clear hlead hbc HL;go_wp2_with fail
       all_goals (go_ret;exact ⟨by rw [HE.out];rfl,HBC.out⟩)
      ·have hbd:decide (m < 2∨x1.toNat < LO∨HI < x1.toNat)=false:=decide_eq_false hb
       have hlead:=HL.out;rw [if_neg hb] at hlead;have HE:=dh hlead;have HBC:=dh hbc;have hmn:2≤m:=by omega
       clear hlead hbc HL;by_cases hmz:m=2
       ·subst hmz
        go_wp2_with fail
        go_roundg g'
        case measure=>omega
        case rel=>exact ⟨HBC.out,t.extract 2 t.size,SB.empty (by rw [Lib.ext_size,← HM.out]) _ (by omega),by rw [Lib.ext_list,← HE.out],by rw [Lib.ext_size];have:=HG.out;have:=HM.out;omega,by rw [Lib.ext_size];have:=HTS.out;omega⟩
       ·obtain ⟨m4,rfl⟩:∃ m4,m=m4 + 2:=⟨m - 2,by omega⟩
        have m4z:(0:Int) < (m4:Int):=by omega
        have HAX:Hid (At wc b o t):=HATC;go_wp2_with fail
        go_roundg g'
        case measure=>omega
        case rel=>exact ⟨HBC.out,t.extract 2 t.size,SB.of (HAX.out.ext 2) _ (by rw [Lib.ext_size,← HM.out];omega),by rw [Lib.ext_list,← HE.out],by rw [Lib.ext_size];have:=HG.out;have:=HM.out;omega,by rw [Lib.ext_size];have:=HTS.out;omega⟩
    by_cases s3:SZ=3
    ·as_aux_lemma=>
     subst s3;have hSZz:(X:Int) % 8=3:=by omega
     have hlead:=HLEAD.out;simp only [Lib.checkN,Nat.reduceEqDiff,if_true,if_false] at hlead;have HL:=dh hlead;clear hlead HLEAD;go_upto_region 22 with fail
     go_cut [138] from 108 to 138 (fun c wx=>c=.bool (decide (m < 3∨x1.toNat < LO∨HI < x1.toNat∨x2.toNat < 128∨191 < x2.toNat))∧Below w.heap.size w wx∧At wx b o t)
     case first=>
      by_cases q0:m < 3
      ·have q0z:(m:Int) < 3:=by omega
       go_quiet (fail)
       go_wp2_with fail
       go_meet
       exact ⟨congrArg Value.bool (decide_eq_true (p:=m < 3∨x1.toNat < LO∨HI < x1.toNat∨x2.toNat < 128∨191 < x2.toNat) (by omega)).symm,bd (HBW.out.alloc HBW.out.size _) _,HAT.out.below (bd (al wr _) _)⟩
      ·have q0z:¬ ((m:Int) < 3):=by omega
       have hb1:=HS1.out (by omega);have hz1:(1:Int) < (m:Int):=by omega
       have hb2:=HS2.out (by omega);have hz2:(2:Int) < (m:Int):=by omega
       by_cases q1:x1.toNat < LO
       ·have q1z:(x1.toNat:Int) < (LO:Int):=by omega
        go_quiet (fail)
        go_wp2_with fail
        go_meet
        exact ⟨congrArg Value.bool (decide_eq_true (p:=m < 3∨x1.toNat < LO∨HI < x1.toNat∨x2.toNat < 128∨191 < x2.toNat) (by omega)).symm,bd (HBW.out.alloc HBW.out.size _) _,HAT.out.below (bd (al wr _) _)⟩
       ·have q1z:¬ ((x1.toNat:Int) < (LO:Int)):=by omega
        by_cases q2:HI < x1.toNat
        ·have q2z:(HI:Int) < (x1.toNat:Int):=by omega
         go_quiet (fail)
         go_wp2_with fail
         go_meet
         exact ⟨congrArg Value.bool (decide_eq_true (p:=m < 3∨x1.toNat < LO∨HI < x1.toNat∨x2.toNat < 128∨191 < x2.toNat) (by omega)).symm,bd (HBW.out.alloc HBW.out.size _) _,HAT.out.below (bd (al wr _) _)⟩
        ·have q2z:¬ ((HI:Int) < (x1.toNat:Int)):=by omega
         by_cases q3:x2.toNat < 128
         ·have q3z:(x2.toNat:Int) < 128:=by omega
          go_quiet (fail)
          go_wp2_with fail
          go_meet
          exact ⟨congrArg Value.bool (decide_eq_true (p:=m < 3∨x1.toNat < LO∨HI < x1.toNat∨x2.toNat < 128∨191 < x2.toNat) (by omega)).symm,bd (HBW.out.alloc HBW.out.size _) _,HAT.out.below (bd (al wr _) _)⟩
         ·have q3z:¬ ((x2.toNat:Int) < 128):=by omega
          by_cases q4:191 < x2.toNat
          ·have q4z:(191:Int) < (x2.toNat:Int):=by omega
           go_quiet (fail)
           go_wp2_with fail
           go_meet
           exact ⟨congrArg Value.bool (decide_eq_true (p:=m < 3∨x1.toNat < LO∨HI < x1.toNat∨x2.toNat < 128∨191 < x2.toNat) (by omega)).symm,bd (HBW.out.alloc HBW.out.size _) _,HAT.out.below (bd (al wr _) _)⟩
          ·have q4z:¬ ((191:Int) < (x2.toNat:Int)):=by omega
           go_quiet (fail)
           go_wp2_with fail
           go_meet
           exact ⟨congrArg Value.bool (decide_eq_false (p:=m < 3∨x1.toNat < LO∨HI < x1.toNat∨x2.toNat < 128∨191 < x2.toNat) (by omega)).symm,bd (HBW.out.alloc HBW.out.size _) _,HAT.out.below (bd (al wr _) _)⟩
     case rest=>
      obtain ⟨rfl,hbc,hatc⟩:=hcut;have HATC:=dh hatc;clear hatc;by_cases hb:m < 3∨x1.toNat < LO∨HI < x1.toNat∨x2.toNat < 128∨191 < x2.toNat
      ·have hbd:decide (m < 3∨x1.toNat < LO∨HI < x1.toNat∨x2.toNat < 128∨191 < x2.toNat)=true:=decide_eq_true hb
       have hlead:=HL.out;rw [if_pos hb] at hlead;have HE:=dh hlead;have HBC:=dh hbc;clear hlead hbc HL;go_wp2_with fail
       all_goals (go_ret;exact ⟨by rw [HE.out];rfl,HBC.out⟩)
      ·have hbd:decide (m < 3∨x1.toNat < LO∨HI < x1.toNat∨x2.toNat < 128∨191 < x2.toNat)=false:=decide_eq_false hb
       have hlead:=HL.out;rw [if_neg hb] at hlead;have HE:=dh hlead;have HBC:=dh hbc;have hmn:3≤m:=by omega
       clear hlead hbc HL;by_cases hmz:m=3
       ·subst hmz
        go_wp2_with fail
        go_roundg g'
        case measure=>omega
        case rel=>exact ⟨HBC.out,t.extract 3 t.size,SB.empty (by rw [Lib.ext_size,← HM.out]) _ (by omega),by rw [Lib.ext_list,← HE.out],by rw [Lib.ext_size];have:=HG.out;have:=HM.out;omega,by rw [Lib.ext_size];have:=HTS.out;omega⟩
       ·obtain ⟨m4,rfl⟩:∃ m4,m=m4 + 3:=⟨m - 3,by omega⟩
        have m4z:(0:Int) < (m4:Int):=by omega
        have HAX:Hid (At wc b o t):=HATC;go_wp2_with fail
        go_roundg g'
        case measure=>omega
        case rel=>exact ⟨HBC.out,t.extract 3 t.size,SB.of (HAX.out.ext 3) _ (by rw [Lib.ext_size,← HM.out];omega),by rw [Lib.ext_list,← HE.out],by rw [Lib.ext_size];have:=HG.out;have:=HM.out;omega,by rw [Lib.ext_size];have:=HTS.out;omega⟩
    by_cases s4:SZ=4
    ·as_aux_lemma=>
     subst s4;have hSZz:(X:Int) % 8=4:=by omega
     have hlead:=HLEAD.out;simp only [Lib.checkN,Nat.reduceEqDiff,if_true,if_false] at hlead;have HL:=dh hlead;clear hlead HLEAD;go_upto_region 26 with fail
     go_cut [185] from 143 to 185 (fun c wx=>c=.bool (decide (m < 4∨x1.toNat < LO∨HI < x1.toNat∨x2.toNat < 128∨191 < x2.toNat∨x3.toNat < 128∨191 < x3.toNat))∧Below w.heap.size w wx∧At wx b o t)
     case first=>
      by_cases q0:m < 4
      ·have q0z:(m:Int) < 4:=by omega
       go_quiet (fail)
       go_wp2_with fail
       go_meet
       exact ⟨congrArg Value.bool (decide_eq_true (p:=m < 4∨x1.toNat < LO∨HI < x1.toNat∨x2.toNat < 128∨191 < x2.toNat∨x3.toNat < 128∨191 < x3.toNat) (by omega)).symm,bd (HBW.out.alloc HBW.out.size _) _,HAT.out.below (bd (al wr _) _)⟩
      ·have q0z:¬ ((m:Int) < 4):=by omega
       have hb1:=HS1.out (by omega);have hz1:(1:Int) < (m:Int):=by omega
       have hb2:=HS2.out (by omega);have hz2:(2:Int) < (m:Int):=by omega
       have hb3:=HS3.out (by omega);have hz3:(3:Int) < (m:Int):=by omega
       by_cases q1:x1.toNat < LO
       ·have q1z:(x1.toNat:Int) < (LO:Int):=by omega
        go_quiet (fail)
        go_wp2_with fail
        go_meet
        exact ⟨congrArg Value.bool (decide_eq_true (p:=m < 4∨x1.toNat < LO∨HI < x1.toNat∨x2.toNat < 128∨191 < x2.toNat∨x3.toNat < 128∨191 < x3.toNat) (by omega)).symm,bd (HBW.out.alloc HBW.out.size _) _,HAT.out.below (bd (al wr _) _)⟩
       ·have q1z:¬ ((x1.toNat:Int) < (LO:Int)):=by omega
        by_cases q2:HI < x1.toNat
        ·have q2z:(HI:Int) < (x1.toNat:Int):=by omega
         go_quiet (fail)
         go_wp2_with fail
         go_meet
         exact ⟨congrArg Value.bool (decide_eq_true (p:=m < 4∨x1.toNat < LO∨HI < x1.toNat∨x2.toNat < 128∨191 < x2.toNat∨x3.toNat < 128∨191 < x3.toNat) (by omega)).symm,bd (HBW.out.alloc HBW.out.size _) _,HAT.out.below (bd (al wr _) _)⟩
        ·have q2z:¬ ((HI:Int) < (x1.toNat:Int)):=by omega
         by_cases q3:x2.toNat < 128
         ·have q3z:(x2.toNat:Int) < 128:=by omega
          go_quiet (fail)
          go_wp2_with fail
          go_meet
          exact ⟨congrArg Value.bool (decide_eq_true (p:=m < 4∨x1.toNat < LO∨HI < x1.toNat∨x2.toNat < 128∨191 < x2.toNat∨x3.toNat < 128∨191 < x3.toNat) (by omega)).symm,bd (HBW.out.alloc HBW.out.size _) _,HAT.out.below (bd (al wr _) _)⟩
         ·have q3z:¬ ((x2.toNat:Int) < 128):=by omega
          by_cases q4:191 < x2.toNat
          ·have q4z:(191:Int) < (x2.toNat:Int):=by omega
           go_quiet (fail)
           go_wp2_with fail
           go_meet
           exact ⟨congrArg Value.bool (decide_eq_true (p:=m < 4∨x1.toNat < LO∨HI < x1.toNat∨x2.toNat < 128∨191 < x2.toNat∨x3.toNat < 128∨191 < x3.toNat) (by omega)).symm,bd (HBW.out.alloc HBW.out.size _) _,HAT.out.below (bd (al wr _) _)⟩
          ·have q4z:¬ ((191:Int) < (x2.toNat:Int)):=by omega
           by_cases q5:x3.toNat < 128
           ·have q5z:(x3.toNat:Int) < 128:=by omega
            go_quiet (fail)
            go_wp2_with fail
            go_meet
            exact ⟨congrArg Value.bool (decide_eq_true (p:=m < 4∨x1.toNat < LO∨HI < x1.toNat∨x2.toNat < 128∨191 < x2.toNat∨x3.toNat < 128∨191 < x3.toNat) (by omega)).symm,bd (HBW.out.alloc HBW.out.size _) _,HAT.out.below (bd (al wr _) _)⟩
           ·have q5z:¬ ((x3.toNat:Int) < 128):=by omega
            by_cases q6:191 < x3.toNat
            ·have q6z:(191:Int) < (x3.toNat:Int):=by omega
             go_quiet (fail)
             go_wp2_with fail
             go_meet
             exact ⟨congrArg Value.bool (decide_eq_true (p:=m < 4∨x1.toNat < LO∨HI < x1.toNat∨x2.toNat < 128∨191 < x2.toNat∨x3.toNat < 128∨191 < x3.toNat) (by omega)).symm,bd (HBW.out.alloc HBW.out.size _) _,HAT.out.below (bd (al wr _) _)⟩
            ·have q6z:¬ ((191:Int) < (x3.toNat:Int)):=by omega
             go_quiet (fail)
             go_wp2_with fail
             go_meet
             exact ⟨congrArg Value.bool (decide_eq_false (p:=m < 4∨x1.toNat < LO∨HI < x1.toNat∨x2.toNat < 128∨191 < x2.toNat∨x3.toNat < 128∨191 < x3.toNat) (by omega)).symm,bd (HBW.out.alloc HBW.out.size _) _,HAT.out.below (bd (al wr _) _)⟩
     case rest=>
      obtain ⟨rfl,hbc,hatc⟩:=hcut;have HATC:=dh hatc;clear hatc;by_cases hb:m < 4∨x1.toNat < LO∨HI < x1.toNat∨x2.toNat < 128∨191 < x2.toNat∨x3.toNat < 128∨191 < x3.toNat
      ·have hbd:decide (m < 4∨x1.toNat < LO∨HI < x1.toNat∨x2.toNat < 128∨191 < x2.toNat∨x3.toNat < 128∨191 < x3.toNat)=true:=decide_eq_true hb
       have hlead:=HL.out;rw [if_pos hb] at hlead;have HE:=dh hlead;have HBC:=dh hbc;clear hlead hbc HL;go_wp2_with fail
       all_goals (go_ret;exact ⟨by rw [HE.out];rfl,HBC.out⟩)
      ·have hbd:decide (m < 4∨x1.toNat < LO∨HI < x1.toNat∨x2.toNat < 128∨191 < x2.toNat∨x3.toNat < 128∨191 < x3.toNat)=false:=decide_eq_false hb
       have hlead:=HL.out;rw [if_neg hb] at hlead;have HE:=dh hlead;have HBC:=dh hbc;have hmn:4≤m:=by omega
       clear hlead hbc HL;by_cases hmz:m=4
       ·subst hmz
        go_wp2_with fail
        go_roundg g'
        case measure=>omega
        case rel=>exact ⟨HBC.out,t.extract 4 t.size,SB.empty (by rw [Lib.ext_size,← HM.out]) _ (by omega),by rw [Lib.ext_list,← HE.out],by rw [Lib.ext_size];have:=HG.out;have:=HM.out;omega,by rw [Lib.ext_size];have:=HTS.out;omega⟩
       ·obtain ⟨m4,rfl⟩:∃ m4,m=m4 + 4:=⟨m - 4,by omega⟩
        have m4z:(0:Int) < (m4:Int):=by omega
        have HAX:Hid (At wc b o t):=HATC;go_wp2_with fail
        go_roundg g'
        case measure=>omega
        case rel=>exact ⟨HBC.out,t.extract 4 t.size,SB.of (HAX.out.ext 4) _ (by rw [Lib.ext_size,← HM.out];omega),by rw [Lib.ext_list,← HE.out],by rw [Lib.ext_size];have:=HG.out;have:=HM.out;omega,by rw [Lib.ext_size];have:=HTS.out;omega⟩
    ·have e2:¬ ((X:Int) % 8=2):=by omega
     have e3:¬ ((X:Int) % 8=3):=by omega
     have e4:¬ ((X:Int) % 8=4):=by omega
     have e2b:(((X:Int) % 8)==2)=false:=by simp;omega
     have e3b:(((X:Int) % 8)==3)=false:=by simp;omega
     have e4b:(((X:Int) % 8)==4)=false:=by simp;omega
     have hlead:=HLEAD.out;simp only [Lib.checkN,s2,s3,s4,if_false] at hlead;have HE:=dh hlead;clear hlead HLEAD;go_wp2_with fail
     all_goals (go_ret;exact ⟨by rw [HE.out];rfl,HBW.out.alloc HBW.out.size _⟩)
  ·have m0:m=0:=by omega
   subst m0;have ht:t.data.toList=[]:=List.eq_nil_of_length_eq_zero (by rw [← Lib.size_eq];omega);have hv:=HV.out;rw [ht,Lib.validD_nil] at hv;subst hv;clear hm h0 hat;go_wp2_with fail
   go_ret
   exact ⟨rfl,HBW.out⟩
set_option maxRecDepth 100000
def Env (w:World):Prop:=Lib.Utf8Tabs 0 1 w
theorem Env.below {w w':World} (h:Env w) (k:Below w.heap.size w w'):Env w':=Utf8Tabs_below h k
theorem valid_any {l:List UInt8} {a:Option Addr} {n c:Nat} {ok:Nat→Prop} {w:World} (hE:Env w) (h:BR ok w a n l) (hc:n≤c) (r:Bool) (hr:Lib.validD l=r):Calls Tryd.prog 55 #[.slice a n c] w fun e w'=>e=.returned (.bool r)∧Below w.heap.size w w':=by
 have hs:(⟨l.toArray⟩:ByteArray).size=l.length:=by simp [ByteArray.size]
 refine valid_loop a w r ⟨l.toArray⟩ (by simpa using hr) n (by rw [hs];exact h.1) ⟨a,by rw [hs,← h.1],fun hp=>?_⟩ (by rw [hs,← h.1];exact h.2.1) hE c hc;rw [hs] at hp;obtain ⟨b,o,rfl,_,_⟩:=h.2.2 0 hp;refine ⟨b,o,rfl,fun i hi=>?_⟩;rw [hs] at hi;obtain ⟨b',o',e,_,hcell⟩:=h.2.2 i hi;cases e
 rw [hcell];congr 3
 rw [← Lib.getD_get!'];simp [hi]
theorem cmpB_eq_lib:∀ a b:List UInt8,It.cmpB a b=Lib.compareBytes a b
 | [],[]=>rfl
 | [],_ :: _=>rfl
 | _ :: _,[]=>rfl
 | a :: r,b :: t=>by unfold It.cmpB Lib.compareBytes;rw [cmpB_eq_lib r t]
theorem bytesOf_map (l:List UInt8):Lib.bytesOf (l.map fun c=>(c.toNat:Int))=l:=by
 unfold Lib.bytesOf;rw [List.map_map]
 conv=>rhs;rw [← List.map_id l]
 refine List.map_congr_left fun c _=>?_
 show ((c.toNat:Int).toNat).toUInt8=c
 rw [Int.toNat_natCast];exact It.ofNat_of c
theorem run_bytesOf {P:Program} {ok:Nat→Prop} {w:World} {a:Option Addr} {n:Nat} {l:List UInt8} (h:BR ok w a n l) (c:Nat):
 (Extern.Bytes.bytesOf (.slice a n c)).run P w=.ok ⟨l.toArray⟩ w:=by
 cases a with
 | none=>
   have:l=[]:=by
    cases l with
    | nil=>rfl
    | cons x r=>obtain ⟨b,o,e,_⟩:=h.2.2 0 (by simp);cases e
   subst this
   rfl
 | some ad=>
   cases l with
   | nil=>
     have:n=0:=h.1;subst this
     rfl
   | cons x r=>
     obtain ⟨b,o,e,_⟩:=h.2.2 0 (by simp);cases e
     have h2:=Lib.run_loadBytesX (P:=P) w ((x :: r).map fun c=>(c.toNat:Int)) ⟨b,o,none⟩ .empty (fun j y hj=>by
      have hjl:j < (x :: r).length:=by
       have:=(List.getElem?_eq_some_iff.1 hj).1;simpa using this
      obtain ⟨b',o',e,_,hc⟩:=h.2.2 j hjl;cases e
      have e:(⟨b,o,none⟩:Addr).add j=⟨b,o + j,none⟩:=by unfold Addr.add;split <;> simp_all
      rw [e,hc];rw [List.getElem?_map,List.getElem?_eq_getElem hjl] at hj;simp at hj;rw [← hj])
     rw [List.length_map,← h.1,bytesOf_map] at h2
     show (Extern.Bytes.loadBytes ⟨b,o,none⟩ n .empty).run P w=_
     rw [h2];congr 1
     apply ByteArray.ext
     show (#[]:Array UInt8) ++ (x :: r).toArray=(x :: r).toArray
     simp
theorem x148 {okA okB:Nat→Prop} {w:World} {a b:Option Addr} {n m c d:Nat} {x y:List UInt8} (hx:BR okA w a n x) (hy:BR okB w b m y) (r:Int) (hr:It.cmpB x y=r):(callFunc 83 #[.slice a n c,.slice b m d]).run Tryd.prog w=.ok (.value (.int .i64 r)) w:=by
 rw [run_callFunc_extern (P:=Tryd.prog) (f:=83) (fn:=Tryd.f83) Tryd.func83 (by kernel_rfl) (by kernel_rfl) (by kernel_rfl) (e:=Extern.BytealgCompare.compare) (by kernel_rfl)];have h1:(Extern.BytealgCompare.compare #[.slice a n c,.slice b m d]).run Tryd.prog w=.ok (.int .i64 r) w:=by
  change Sem.run Tryd.prog (do pure (goInt (Extern.BytealgCompare.cmp (← Extern.Bytes.bytesOf (.slice a n c)) (← Extern.Bytes.bytesOf (.slice b m d))))) w=_
  simp only [Sem.run_bind,Sem.run_pure,Result.andThen,run_bytesOf hx,run_bytesOf hy];rw [Lib.cmp_eq,← cmpB_eq_lib,← hr]
  rfl
 rw [h1]
 rfl
set_option maxHeartbeats 1000000 in
theorem compare_any {okA okB:Nat→Prop} {w:World} {a b:Option Addr} {n m c d:Nat} {x y:List UInt8} (hx:BR okA w a n x) (hy:BR okB w b m y) (r:Int) (hr:It.cmpB x y=r):Calls Tryd.prog 52 #[.slice a n c,.slice b m d] w fun e w'=>e=.returned (.int .i64 r)∧w=w':=by
 have X:=x148 (c:=c) (d:=d) hx hy r hr;clear hx hy hr;go_enter Tryd.func52,Tryd.ntmps52
 go_wp2_with (simp only [X])
 go_ret
 exact ⟨rfl,rfl⟩
end Go.Proofs.YtelefkkkccilaaaDoor
