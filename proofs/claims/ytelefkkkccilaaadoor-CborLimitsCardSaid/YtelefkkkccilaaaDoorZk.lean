/- The program's seven. -/
import Derived.Test.YtelefkkkccilaaaDoorZj
import Derived.Test.YtelefkkkccilaaaDoorLJ
import Derived.Test.YtelefkkkccilaaaDoorLK
set_option linter.unusedVariables false
set_option linter.unusedSimpArgs false
namespace Go.Proofs.YtelefkkkccilaaaDoor
open Go.RowKit
set_option maxRecDepth 100000
def SevP (r:Option It) (w:World) (e:Ending) (w':World):Prop:=match r with
 | .none=>e=.returned (.tuple #[.agg #[.int .i64 0,.int .u64 0,.slice none 0 0,.slice none 0 0],.int .i64 4])∧Below w.heap.size w w'
 | some x=>∃ A:Ad,e=.returned (.tuple #[.agg #[.int .i64 x.kind,.int .u64 (x.num:Int),.slice A.ab A.nb A.cb,.slice A.ai A.ni A.ci],.int .i64 0])∧IR (fun b=>w.heap.size≤b) w' x A∧Below w.heap.size w w'
set_option maxHeartbeats 8000000 in
theorem seven_low (C N:Int) (n:Nat) (hN:N=n) (w:World) (c:Nat) (hc:c < 24) (hb:bits .and .u8 C 31=(c:Int)) (hn:n < 18446744073709551616) (r:Option It) (hr:r=some (.mk 7 n [] [])):
 Calls Tryd.prog 68 #[.int .u8 C,.int .u64 N] w (SevP r w):=by
 have HRR:=dh hr;obtain ⟨L,hL⟩:∃ L:Int,L=c:=⟨_,rfl⟩;rw [← hL] at hb;have l1:(L==24)=false:=by simp;omega
 have l2:(L==25)=false:=by simp;omega
 have l3:(L==26)=false:=by simp;omega
 have l4:(L==27)=false:=by simp;omega
 have HNN:=dh (And.intro hN hn);clear hr hN hn hL hc;have P0:=al w (.cells #[.int .i64 0,.int .u64 0,.slice none 0 0,.slice none 0 0] 31);have HN:=dh (aw w (.cells #[.int .i64 0,.int .u64 0,.slice none 0 0,.slice none 0 0] 31));have HP:=dh P0;clear P0;go_enter Tryd.func68,Tryd.ntmps68
 go_upto_region 1 with fail
 generalize w.alloc (.cells #[.int .i64 0,.int .u64 0,.slice none 0 0,.slice none 0 0] 31)=w1 at *;generalize hB:w.heap.size=B at *;obtain rfl:N=(n:Int):=HNN.out.1;obtain ⟨r0,r1,r2,r3⟩:=cf HN.out;obtain ⟨q0,q1,q2,q3⟩:=ff HN.out;go_wp2_with fail
 clear r0 r1 r2 r3 q0 q1 q2 q3;obtain ⟨W',hW',hp4,hs4,hb4⟩:=pq (W:=w1) (b:=B) (HN.out) (.int .i64 7) (.int .u64 (n:Int)) (.slice none 0 0) (.slice none 0 0);rw [hW'];clear hW';obtain ⟨g0,g1,g2,g3⟩:=cf hp4;refine bodyPost_ret (v:=.tuple #[.agg #[.int .i64 7,.int .u64 (n:Int),.slice none 0 0,.slice none 0 0],.int .i64 0]) (by simp [results,Tryd.results68,go_sem,g0,g1,g2,g3]) rfl ?_;rw [HRR.out];exact ⟨⟨none,0,0,none,0,0⟩,rfl,IR.flat _ _ HNN.out.2,hB ▸ hb4 B w HP.out (Nat.le_refl _)⟩
set_option maxHeartbeats 8000000 in
theorem seven_24 (C N:Int) (n:Nat) (hN:N=n) (w:World) (hb:bits .and .u8 C 31=24) (hn:n < 18446744073709551616) (r:Option It) (hr:r=if n < 32 then .none else some (.mk 7 n [] [])):
 Calls Tryd.prog 68 #[.int .u8 C,.int .u64 N] w (SevP r w):=by
 have HNN:=dh (And.intro hN hn);by_cases h:N < 32
 ·have HRR:=dh (hr.trans (if_pos (by omega)))
  clear hr hN hn;have P0:=al w (.cells #[.int .i64 0,.int .u64 0,.slice none 0 0,.slice none 0 0] 31);have HN:=dh (aw w (.cells #[.int .i64 0,.int .u64 0,.slice none 0 0,.slice none 0 0] 31));have HP:=dh P0;clear P0;go_enter Tryd.func68,Tryd.ntmps68
  go_upto_region 1 with fail
  generalize w.alloc (.cells #[.int .i64 0,.int .u64 0,.slice none 0 0,.slice none 0 0] 31)=w1 at *;generalize hB:w.heap.size=B at *;obtain ⟨r0,r1,r2,r3⟩:=cf HN.out;obtain ⟨q0,q1,q2,q3⟩:=ff HN.out;go_wp2_with fail
  clear r0 r1 r2 r3 q0 q1 q2 q3;obtain ⟨W',hW',hp4,hs4,hb4⟩:=pq (W:=w1) (b:=B) (HN.out) (.int .i64 0) (.int .u64 0) (.slice none 0 0) (.slice none 0 0);rw [hW'];clear hW';obtain ⟨g0,g1,g2,g3⟩:=cf hp4;refine bodyPost_ret (v:=.tuple #[.agg #[.int .i64 0,.int .u64 0,.slice none 0 0,.slice none 0 0],.int .i64 4]) (by simp [results,Tryd.results68,go_sem,g0,g1,g2,g3]) rfl ?_;rw [HRR.out];exact ⟨rfl,hB ▸ hb4 B w HP.out (Nat.le_refl _)⟩
 ·have HRR:=dh (hr.trans (if_neg (by omega)))
  clear hr hN hn;have P0:=al w (.cells #[.int .i64 0,.int .u64 0,.slice none 0 0,.slice none 0 0] 31);have HN:=dh (aw w (.cells #[.int .i64 0,.int .u64 0,.slice none 0 0,.slice none 0 0] 31));have HP:=dh P0;clear P0;go_enter Tryd.func68,Tryd.ntmps68
  go_upto_region 1 with fail
  generalize w.alloc (.cells #[.int .i64 0,.int .u64 0,.slice none 0 0,.slice none 0 0] 31)=w1 at *;generalize hB:w.heap.size=B at *;obtain rfl:N=(n:Int):=HNN.out.1;obtain ⟨r0,r1,r2,r3⟩:=cf HN.out;obtain ⟨q0,q1,q2,q3⟩:=ff HN.out;go_wp2_with fail
  clear r0 r1 r2 r3 q0 q1 q2 q3;obtain ⟨W',hW',hp4,hs4,hb4⟩:=pq (W:=w1) (b:=B) (HN.out) (.int .i64 7) (.int .u64 (n:Int)) (.slice none 0 0) (.slice none 0 0);rw [hW'];clear hW';obtain ⟨g0,g1,g2,g3⟩:=cf hp4;refine bodyPost_ret (v:=.tuple #[.agg #[.int .i64 7,.int .u64 (n:Int),.slice none 0 0,.slice none 0 0],.int .i64 0]) (by simp [results,Tryd.results68,go_sem,g0,g1,g2,g3]) rfl ?_;rw [HRR.out];exact ⟨⟨none,0,0,none,0,0⟩,rfl,IR.flat _ _ HNN.out.2,hB ▸ hb4 B w HP.out (Nat.le_refl _)⟩
set_option maxHeartbeats 8000000 in
theorem seven_27 (C N:Int) (n:Nat) (hN:N=n) (w:World) (hb:bits .and .u8 C 31=27) (hn:n < 18446744073709551616) (r:Option It) (hr:r=if (It.flt n).length=9 then some (.mk 8 n [] []) else .none):
 Calls Tryd.prog 68 #[.int .u8 C,.int .u64 N] w (SevP r w):=by
 have HL:=dh hr;have HFI:=dh hN;have HFB:=dh hn;clear hr hN hn;have P0:=al w (.cells #[.int .i64 0,.int .u64 0,.slice none 0 0,.slice none 0 0] 31);have HN:=dh (aw w (.cells #[.int .i64 0,.int .u64 0,.slice none 0 0,.slice none 0 0] 31));have HP:=dh P0;clear P0;go_enter Tryd.func68,Tryd.ntmps68
 go_upto_region 1 with fail
 generalize w.alloc (.cells #[.int .i64 0,.int .u64 0,.slice none 0 0,.slice none 0 0] 31)=w1 at *;generalize hB:w.heap.size=B at *;go_wp2_with fail
 refine (float_any n N HFI.out HFB.out _).mono ?_;rintro e u2 h2;obtain ⟨a2,c2,rfl,_,_,_,_,B2⟩:=h2.open;have HN2:=dh (Below.keep B2 HN.out (lb HN.out));have HP2:=dh (HP.out.trans (B2.mono (by have:=HP.out.size;omega)));clear B2 h2;have HRL:=HL.out;generalize (It.flt n).length=LN at *;by_cases hl:LN=9
 ·have HRR:=dh (HRL.trans (if_pos hl))
  subst hl;clear HRL;obtain ⟨r0,r1,r2,r3⟩:=cf HN2.out;obtain ⟨q0,q1,q2,q3⟩:=ff HN2.out;have hfe:=HFI.out;subst hfe;go_wp2_with fail
  clear r0 r1 r2 r3 q0 q1 q2 q3;obtain ⟨W',hW',hp4,hs4,hb4⟩:=pq (W:=u2) (b:=B) (HN2.out) (.int .i64 8) (.int .u64 (n:Int)) (.slice none 0 0) (.slice none 0 0);rw [hW'];clear hW';obtain ⟨g0,g1,g2,g3⟩:=cf hp4;refine bodyPost_ret (v:=.tuple #[.agg #[.int .i64 8,.int .u64 (n:Int),.slice none 0 0,.slice none 0 0],.int .i64 0]) (by simp [results,Tryd.results68,go_sem,g0,g1,g2,g3]) rfl ?_;rw [HRR.out];exact ⟨⟨none,0,0,none,0,0⟩,rfl,IR.flat _ _ HFB.out,hB ▸ hb4 B w HP2.out (Nat.le_refl _)⟩
 ·have HRR:=dh (HRL.trans (if_neg hl))
  have hlb:((LN:Int) !=9)=true:=by simp;omega
  have hlz:¬ (LN:Int)=9:=by omega
  clear HRL hl;obtain ⟨r0,r1,r2,r3⟩:=cf HN2.out;obtain ⟨q0,q1,q2,q3⟩:=ff HN2.out;go_wp2_with fail
  clear r0 r1 r2 r3 q0 q1 q2 q3;obtain ⟨W',hW',hp4,hs4,hb4⟩:=pq (W:=u2) (b:=B) (HN2.out) (.int .i64 0) (.int .u64 0) (.slice none 0 0) (.slice none 0 0);rw [hW'];clear hW';obtain ⟨g0,g1,g2,g3⟩:=cf hp4;refine bodyPost_ret (v:=.tuple #[.agg #[.int .i64 0,.int .u64 0,.slice none 0 0,.slice none 0 0],.int .i64 4]) (by simp [results,Tryd.results68,go_sem,g0,g1,g2,g3]) rfl ?_;rw [HRR.out];exact ⟨rfl,hB ▸ hb4 B w HP2.out (Nat.le_refl _)⟩
theorem flt_nan_len {n:Nat} (h:Fl.isNaN n=true):(It.flt n).length=3:=by rw [It.flt_nan h];rfl
set_option maxHeartbeats 8000000 in
theorem seven_26 (C N:Int) (n:Nat) (hN:N=n) (w:World) (hb:bits .and .u8 C 31=26) (hn:n < 4294967296) (r:Option It) (hr:r=if (It.flt (Fl.widenS n)).length=5 then some (.mk 8 (Fl.widenS n) [] []) else .none):
 Calls Tryd.prog 68 #[.int .u8 C,.int .u64 N] w (SevP r w):=by
 obtain ⟨q,W',hc,hW,hq,hq1,hq2⟩:=conv_back hn (w.alloc (.cells #[.int .i64 0,.int .u64 0,.slice none 0 0,.slice none 0 0] 31));have hwn:IntKind.u32.wrap N=N:=by show N % 4294967296=N;omega
 have X1:=fun W=>x164 hN W
 obtain ⟨Q,hQ⟩:∃ Q:Int,Q=q:=⟨_,rfl⟩;have X2:=fun W=>x158 hQ W
 have HFI:=dh hQ;have HFB:=dh hq;have HL:Hid (r=if (It.flt q).length=5 then some (.mk 8 q [] []) else .none):=dh (by
  cases hs:Fl.nanS n with
  | false=>rw [(hq1 hs).1];exact hr
  | true=>
   have h3:=It.widenS_nan hn hs;rw [hr,flt_nan_len (hq2 hs),flt_nan_len h3];rfl)
 obtain ⟨hsz,hbel⟩:=same_size hW;have HBW:=dh hbel;have HKW:Hid (W'.heap=(w.alloc (.cells #[.int .i64 0,.int .u64 0,.slice none 0 0,.slice none 0 0] 31)).heap):=dh (by rcases hW with rfl | rfl <;> rfl)
 have P0:=al w (.cells #[.int .i64 0,.int .u64 0,.slice none 0 0,.slice none 0 0] 31);have HN0:=dh (aw w (.cells #[.int .i64 0,.int .u64 0,.slice none 0 0,.slice none 0 0] 31));have HP0:=dh P0;have HN:Hid (W'.heap[w.heap.size]?=some (.cells #[.int .i64 0,.int .u64 0,.slice none 0 0,.slice none 0 0] 31 (0,0))):=dh (by rw [HKW.out];exact HN0.out);have HP:Hid (Below w.heap.size w W'):=dh (pt P0 hbel);clear hr hN hn hQ hq hq1 hq2 hW hsz hbel P0 HKW HBW;go_enter Tryd.func68,Tryd.ntmps68
 go_upto_region 1 with fail
 generalize w.alloc (.cells #[.int .i64 0,.int .u64 0,.slice none 0 0,.slice none 0 0] 31)=w1 at *;generalize hB:w.heap.size=B at *;go_wp2_with (first | simp only [X1] | simp only [X2] | simp only [hc])
 refine (float_any q Q HFI.out HFB.out _).mono ?_;rintro e u2 h2;obtain ⟨a2,c2,rfl,_,_,_,_,B2⟩:=h2.open;have HN2:=dh (Below.keep B2 HN.out (lb HN.out));have HP2:=dh (HP.out.trans (B2.mono (by have:=HP.out.size;omega)));clear B2 h2;have HRL:=HL.out;generalize (It.flt q).length=LN at *;by_cases hl:LN=5
 ·have HRR:=dh (HRL.trans (if_pos hl))
  subst hl;clear HRL;obtain ⟨r0,r1,r2,r3⟩:=cf HN2.out;obtain ⟨q0,q1,q2,q3⟩:=ff HN2.out;have hfe:=HFI.out;subst hfe;go_wp2_with fail
  clear r0 r1 r2 r3 q0 q1 q2 q3;obtain ⟨W',hW',hp4,hs4,hb4⟩:=pq (W:=u2) (b:=B) (HN2.out) (.int .i64 8) (.int .u64 (q:Int)) (.slice none 0 0) (.slice none 0 0);rw [hW'];clear hW';obtain ⟨g0,g1,g2,g3⟩:=cf hp4;refine bodyPost_ret (v:=.tuple #[.agg #[.int .i64 8,.int .u64 (q:Int),.slice none 0 0,.slice none 0 0],.int .i64 0]) (by simp [results,Tryd.results68,go_sem,g0,g1,g2,g3]) rfl ?_;rw [HRR.out];exact ⟨⟨none,0,0,none,0,0⟩,rfl,IR.flat _ _ HFB.out,hB ▸ hb4 B w HP2.out (Nat.le_refl _)⟩
 ·have HRR:=dh (HRL.trans (if_neg hl))
  have hlb:((LN:Int) !=5)=true:=by simp;omega
  have hlz:¬ (LN:Int)=5:=by omega
  clear HRL hl;obtain ⟨r0,r1,r2,r3⟩:=cf HN2.out;obtain ⟨q0,q1,q2,q3⟩:=ff HN2.out;go_wp2_with fail
  clear r0 r1 r2 r3 q0 q1 q2 q3;obtain ⟨W',hW',hp4,hs4,hb4⟩:=pq (W:=u2) (b:=B) (HN2.out) (.int .i64 0) (.int .u64 0) (.slice none 0 0) (.slice none 0 0);rw [hW'];clear hW';obtain ⟨g0,g1,g2,g3⟩:=cf hp4;refine bodyPost_ret (v:=.tuple #[.agg #[.int .i64 0,.int .u64 0,.slice none 0 0,.slice none 0 0],.int .i64 4]) (by simp [results,Tryd.results68,go_sem,g0,g1,g2,g3]) rfl ?_;rw [HRR.out];exact ⟨rfl,hB ▸ hb4 B w HP2.out (Nat.le_refl _)⟩
set_option maxHeartbeats 8000000 in
theorem seven_25 (C N:Int) (n:Nat) (hN:N=n) (w:World) (hb:bits .and .u8 C 31=25) (hn:n < 65536) (r:Option It) (hr:r=if Fl.nanH n=true∧n≠32256 then .none else if (It.flt (Fl.widenP n)).length=3 then some (.mk 8 (Fl.widenP n) [] []) else .none):
 Calls Tryd.prog 68 #[.int .u8 C,.int .u64 N] w (SevP r w):=by
 have hwn:IntKind.u16.wrap N=N:=by show N % 65536=N;omega
 have hdec:n=n / 32768 * 32768 + n / 1024 % 32 * 1024 + n % 1024:=by omega
 have HC:=dh (fun W=>widen_any (n / 32768) (n / 1024 % 32) (n % 1024) N (by rw [hN];congr 1) (by omega) (by omega) (by omega) W);rw [← hdec] at HC;obtain ⟨F,hF⟩:∃ F:Int,F=(Fl.widenP n:Nat):=⟨_,rfl⟩;rw [← hF] at HC;have hnanF:Fl.nanH n=true→Fl.widenP n=9221120237041090560:=fun h=>by unfold Fl.widenP;rw [if_pos h];rfl
 have hnotF:Fl.nanH n=false→Fl.widenP n≠9221120237041090560:=fun h e=>by
  unfold Fl.widenP at e;rw [h,if_neg (by decide)] at e;have:=(Fl.widenH_narrow hn h).2.2;rw [e] at this
  revert this;decide
 have HFI:=dh hF;have HFB:Hid (Fl.widenP n < 18446744073709551616):=dh (by
  unfold Fl.widenP;cases h:Fl.nanH n with
  | true=>rw [if_pos rfl];decide
  | false=>rw [if_neg (by decide)];exact (Fl.widenH_narrow hn h).2.1)
 by_cases hbad:Fl.nanH n=true∧n≠32256
 ·have HRR:=dh (hr.trans (if_pos hbad))
  have hF1:F=9221120237041090560:=by rw [hF,hnanF hbad.1];rfl
  subst hF1;have hN1:(N !=32256)=true:=by simp;omega
  have hN2:¬ N=32256:=by omega
  clear hr hN hn hF hnanF hnotF hbad hdec HFI;have P0:=al w (.cells #[.int .i64 0,.int .u64 0,.slice none 0 0,.slice none 0 0] 31);have HN:=dh (aw w (.cells #[.int .i64 0,.int .u64 0,.slice none 0 0,.slice none 0 0] 31));have HP:=dh P0;clear P0;go_enter Tryd.func68,Tryd.ntmps68
  go_upto_region 1 with fail
  generalize w.alloc (.cells #[.int .i64 0,.int .u64 0,.slice none 0 0,.slice none 0 0] 31)=w1 at *;generalize hB:w.heap.size=B at *;go_wp2_with fail
  refine (HC.out _).mono ?_;rintro e v2 ⟨rfl,rfl⟩;obtain ⟨r0,r1,r2,r3⟩:=cf HN.out;obtain ⟨q0,q1,q2,q3⟩:=ff HN.out;go_wp2_with fail
  clear r0 r1 r2 r3 q0 q1 q2 q3;obtain ⟨W',hW',hp4,hs4,hb4⟩:=pq (W:=w1) (b:=B) (HN.out) (.int .i64 0) (.int .u64 0) (.slice none 0 0) (.slice none 0 0);rw [hW'];clear hW';obtain ⟨g0,g1,g2,g3⟩:=cf hp4;refine bodyPost_ret (v:=.tuple #[.agg #[.int .i64 0,.int .u64 0,.slice none 0 0,.slice none 0 0],.int .i64 4]) (by simp [results,Tryd.results68,go_sem,g0,g1,g2,g3]) rfl ?_;rw [HRR.out];exact ⟨rfl,hB ▸ hb4 B w HP.out (Nat.le_refl _)⟩
 ·have HL:=dh (hr.trans (if_neg hbad))
  have hor:(F==9221120237041090560)=false∨F=9221120237041090560∧N=32256:=by
   cases h:Fl.nanH n with
   | false=>exact .inl (by have:=hnotF h;simp;omega)
   | true=>exact .inr ⟨by rw [hF,hnanF h];rfl,by
    have:¬ n≠32256:=fun e=>hbad ⟨h,e⟩
    omega⟩
  generalize Fl.widenP n=f at *;clear hr hN hn hF hnanF hnotF hbad hdec;rcases hor with hfb | ⟨rfl,rfl⟩
  ·have P0:=al w (.cells #[.int .i64 0,.int .u64 0,.slice none 0 0,.slice none 0 0] 31)
   have HN:=dh (aw w (.cells #[.int .i64 0,.int .u64 0,.slice none 0 0,.slice none 0 0] 31));have HP:=dh P0;clear P0;go_enter Tryd.func68,Tryd.ntmps68
   go_upto_region 1 with fail
   generalize w.alloc (.cells #[.int .i64 0,.int .u64 0,.slice none 0 0,.slice none 0 0] 31)=w1 at *;generalize hB:w.heap.size=B at *;go_wp2_with fail
   refine (HC.out _).mono ?_;rintro e v2 ⟨rfl,rfl⟩;go_wp2_with fail
   refine (float_any f F HFI.out HFB.out _).mono ?_;rintro e u2 h2;obtain ⟨a2,c2,rfl,_,_,_,_,B2⟩:=h2.open;have HN2:=dh (Below.keep B2 HN.out (lb HN.out));have HP2:=dh (HP.out.trans (B2.mono (by have:=HP.out.size;omega)));clear B2 h2;have HRL:=HL.out;generalize (It.flt f).length=LN at *;by_cases hl:LN=3
   ·have HRR:=dh (HRL.trans (if_pos hl))
    subst hl;clear HRL;obtain ⟨r0,r1,r2,r3⟩:=cf HN2.out;obtain ⟨q0,q1,q2,q3⟩:=ff HN2.out;have hfe:=HFI.out;subst hfe;go_wp2_with fail
    clear r0 r1 r2 r3 q0 q1 q2 q3;obtain ⟨W',hW',hp4,hs4,hb4⟩:=pq (W:=u2) (b:=B) (HN2.out) (.int .i64 8) (.int .u64 (f:Int)) (.slice none 0 0) (.slice none 0 0);rw [hW'];clear hW';obtain ⟨g0,g1,g2,g3⟩:=cf hp4;refine bodyPost_ret (v:=.tuple #[.agg #[.int .i64 8,.int .u64 (f:Int),.slice none 0 0,.slice none 0 0],.int .i64 0]) (by simp [results,Tryd.results68,go_sem,g0,g1,g2,g3]) rfl ?_;rw [HRR.out];exact ⟨⟨none,0,0,none,0,0⟩,rfl,IR.flat _ _ HFB.out,hB ▸ hb4 B w HP2.out (Nat.le_refl _)⟩
   ·have HRR:=dh (HRL.trans (if_neg hl))
    have hlb:((LN:Int) !=3)=true:=by simp;omega
    have hlz:¬ (LN:Int)=3:=by omega
    clear HRL hl;obtain ⟨r0,r1,r2,r3⟩:=cf HN2.out;obtain ⟨q0,q1,q2,q3⟩:=ff HN2.out;go_wp2_with fail
    clear r0 r1 r2 r3 q0 q1 q2 q3;obtain ⟨W',hW',hp4,hs4,hb4⟩:=pq (W:=u2) (b:=B) (HN2.out) (.int .i64 0) (.int .u64 0) (.slice none 0 0) (.slice none 0 0);rw [hW'];clear hW';obtain ⟨g0,g1,g2,g3⟩:=cf hp4;refine bodyPost_ret (v:=.tuple #[.agg #[.int .i64 0,.int .u64 0,.slice none 0 0,.slice none 0 0],.int .i64 4]) (by simp [results,Tryd.results68,go_sem,g0,g1,g2,g3]) rfl ?_;rw [HRR.out];exact ⟨rfl,hB ▸ hb4 B w HP2.out (Nat.le_refl _)⟩
  ·have P0:=al w (.cells #[.int .i64 0,.int .u64 0,.slice none 0 0,.slice none 0 0] 31)
   have HN:=dh (aw w (.cells #[.int .i64 0,.int .u64 0,.slice none 0 0,.slice none 0 0] 31));have HP:=dh P0;clear P0;go_enter Tryd.func68,Tryd.ntmps68
   go_upto_region 1 with fail
   generalize w.alloc (.cells #[.int .i64 0,.int .u64 0,.slice none 0 0,.slice none 0 0] 31)=w1 at *;generalize hB:w.heap.size=B at *;go_wp2_with fail
   refine (HC.out _).mono ?_;rintro e v2 ⟨rfl,rfl⟩;go_wp2_with fail
   obtain rfl:f=9221120237041090560:=by have:=HFI.out;omega
   refine (float_any 9221120237041090560 9221120237041090560 HFI.out HFB.out _).mono ?_;rintro e u2 h2;obtain ⟨a2,c2,rfl,_,_,_,_,B2⟩:=h2.open;have HN2:=dh (Below.keep B2 HN.out (lb HN.out));have HP2:=dh (HP.out.trans (B2.mono (by have:=HP.out.size;omega)));clear B2 h2;have HRL:=HL.out;generalize (It.flt 9221120237041090560).length=LN at *;by_cases hl:LN=3
   ·have HRR:=dh (HRL.trans (if_pos hl))
    subst hl;clear HRL;obtain ⟨r0,r1,r2,r3⟩:=cf HN2.out;obtain ⟨q0,q1,q2,q3⟩:=ff HN2.out;go_wp2_with fail
    clear r0 r1 r2 r3 q0 q1 q2 q3;obtain ⟨W',hW',hp4,hs4,hb4⟩:=pq (W:=u2) (b:=B) (HN2.out) (.int .i64 8) (.int .u64 (9221120237041090560:Int)) (.slice none 0 0) (.slice none 0 0);rw [hW'];clear hW';obtain ⟨g0,g1,g2,g3⟩:=cf hp4;refine bodyPost_ret (v:=.tuple #[.agg #[.int .i64 8,.int .u64 (9221120237041090560:Int),.slice none 0 0,.slice none 0 0],.int .i64 0]) (by simp [results,Tryd.results68,go_sem,g0,g1,g2,g3]) rfl ?_;rw [HRR.out];exact ⟨⟨none,0,0,none,0,0⟩,rfl,IR.flat _ _ HFB.out,hB ▸ hb4 B w HP2.out (Nat.le_refl _)⟩
   ·have HRR:=dh (HRL.trans (if_neg hl))
    have hlb:((LN:Int) !=3)=true:=by simp;omega
    have hlz:¬ (LN:Int)=3:=by omega
    clear HRL hl;obtain ⟨r0,r1,r2,r3⟩:=cf HN2.out;obtain ⟨q0,q1,q2,q3⟩:=ff HN2.out;go_wp2_with fail
    clear r0 r1 r2 r3 q0 q1 q2 q3;obtain ⟨W',hW',hp4,hs4,hb4⟩:=pq (W:=u2) (b:=B) (HN2.out) (.int .i64 0) (.int .u64 0) (.slice none 0 0) (.slice none 0 0);rw [hW'];clear hW';obtain ⟨g0,g1,g2,g3⟩:=cf hp4;refine bodyPost_ret (v:=.tuple #[.agg #[.int .i64 0,.int .u64 0,.slice none 0 0,.slice none 0 0],.int .i64 4]) (by simp [results,Tryd.results68,go_sem,g0,g1,g2,g3]) rfl ?_;rw [HRR.out];exact ⟨rfl,hB ▸ hb4 B w HP2.out (Nat.le_refl _)⟩
end Go.Proofs.YtelefkkkccilaaaDoor
