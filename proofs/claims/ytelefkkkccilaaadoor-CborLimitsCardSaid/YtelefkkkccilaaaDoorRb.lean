/- The reference's reader: what follows major type 7. -/
import Derived.Test.YtelefkkkccilaaaDoorRa
set_option linter.unusedVariables false
set_option linter.unusedSimpArgs false
namespace Go.Proofs.YtelefkkkccilaaaDoor
open Go.RowKit
set_option maxRecDepth 100000
def SpcP (P c b o:Nat) (l:List UInt8) (it:Int) (w:World) (r:It.PR It) (e:Ending) (w':World):Prop:=But P w w'∧match r with
 | .err er=>NoItem er e
 | .ok x _ s=>∃ A:Ad,e=.returned (.tuple #[.agg #[.int .i64 x.kind,.int .u64 (x.num:Int),.slice A.ab A.nb A.cb,.slice A.ai A.ni A.ci],.int .i64 0])∧IR (fun j=>w.heap.size≤j) w' x A∧∃ j,AtR P j c b o l it w'∧s=l.drop j
def It.spec (info f:Nat) (s:List UInt8):It.PR It:=if info < 24 then .ok (.mk 7 info [] []) f s else if s.length < 2 ^ (info - 24) then .err 2 else ofO (It.seven info (It.unbe (s.take (2 ^ (info - 24))))) f (s.drop (2 ^ (info - 24)))
theorem widenH_lt {h:Nat} (hh:h < 65536):Fl.widenH h < 18446744073709551616:=by
 cases hN:Fl.nanH h with
 | false=>exact (Fl.widenH_narrow hh hN).2.1
 | true=>
  unfold Fl.nanH at hN;simp only [Bool.and_eq_true,beq_iff_eq,bne_iff_ne,ne_eq] at hN;unfold Fl.widenH;simp only [hN.1,if_true];omega
theorem widenS_lt {h:Nat} (hh:h < 4294967296):Fl.widenS h < 18446744073709551616:=by
 cases hN:Fl.nanS h with
 | false=>exact (Fl.widenS_narrow hh hN).2.1
 | true=>
  unfold Fl.nanS at hN;simp only [Bool.and_eq_true,beq_iff_eq,bne_iff_ne,ne_eq] at hN;unfold Fl.widenS;simp only [hN.1,if_true];omega
theorem AtR.below {P k c b o:Nat} {l:List UInt8} {it:Int} {w w':World} (h:AtR P k c b o l it w) (hb:Below w.heap.size w w'):AtR P k c b o l it w':=⟨Below.keep hb h.1 (lb h.1),h.2⟩
set_option maxHeartbeats 4000000 in
theorem special_low (P k c b o f:Nat) (l:List UInt8) (it:Int) (w:World) (hA:AtR P k c b o l it w) (hR:BR (fun b=>b≠P) w (some ⟨b,o,none⟩) l.length l) (hc:l.length≤c) (hN:l.length≤4096) (info:Nat) (hi:info < 24):
 Calls Tryd.prog 70 #[.pointer (some ⟨P,0,none⟩),.int .i64 (info:Int)] w (SpcP P c b o l it w (.ok (.mk 7 info [] []) f (l.drop k))):=by
 have P0:=al w (.cells #[.int .i64 0,.int .u64 0,.slice none 0 0,.slice none 0 0] 31);have N0:=aw w (.cells #[.int .i64 0,.int .u64 0,.slice none 0 0,.slice none 0 0] 31);have HA1:=dh (hA.below P0);have HR1:=dh (hR.below P0);have HB1:=dh (But.of_below (b:=P) P0);have HN1:=dh N0;have hPl:=lb hA.1;have hRP:w.heap.size≠P:=by omega
 have HK:=dh hA.2;clear hA hR P0 N0 hPl;have hiz:(info:Int) < 24:=by omega
 have hwi:IntKind.u64.wrap (info:Int)=(info:Int):=wrap_u64 (by omega) (by omega);have HI:=dh hi;go_enter Tryd.func70,Tryd.ntmps70
 go_upto_region 1 with fail
 generalize w.alloc (.cells #[.int .i64 0,.int .u64 0,.slice none 0 0,.slice none 0 0] 31)=u at *;generalize hBq:w.heap.size=B at *;obtain ⟨r0,r1,r2,r3⟩:=cf HN1.out;obtain ⟨q0,q1,q2,q3⟩:=ff HN1.out;go_wp2_with fail
 clear r0 r1 r2 r3 q0 q1 q2 q3;have hp4:=put4 (HN1.out) (.int .i64 7) (.int .u64 (info:Int)) (.slice none 0 0) (.slice none 0 0);have hs4:=pk (W:=u) (b:=B) (.int .i64 7) (.int .u64 (info:Int)) (.slice none 0 0) (.slice none 0 0);have hz4:=pm (W:=u) (b:=B) (.int .i64 7) (.int .u64 (info:Int)) (.slice none 0 0) (.slice none 0 0);generalize ((((u).setCell ⟨B,0,none⟩ (.int .i64 7)).setCell ⟨B,1,none⟩ (.int .u64 (info:Int))).setCell ⟨B,2,none⟩ (.slice none 0 0)).setCell ⟨B,3,none⟩ (.slice none 0 0)=W' at *;obtain ⟨g0,g1,g2,g3⟩:=cf hp4;refine bodyPost_ret (v:=.tuple #[.agg #[.int .i64 7,.int .u64 (info:Int),.slice none 0 0,.slice none 0 0],.int .i64 0]) (by simp [results,Tryd.results70,go_sem,g0,g1,g2,g3]) rfl ?_;have HBW:But P w W':=⟨hz4.1.trans HB1.out.os,hz4.2.1.trans HB1.out.tape,hz4.2.2.trans HB1.out.output,by have:=HB1.out.size;rw [hs4.1];exact this,fun j hj hne=>(hs4.2 j (by omega)).trans (HB1.out.block j hj hne)⟩;exact ⟨HBW,⟨none,0,0,none,0,0⟩,rfl,IR.flat _ _ (by have:=HI.out;omega),k,⟨(hs4.2 P (fun e=>hRP e.symm)).trans HA1.out.1,HA1.out.2⟩,rfl⟩
set_option maxHeartbeats 4000000 in
theorem special_sh24 (P k c b o f:Nat) (l:List UInt8) (it:Int) (w:World) (hA:AtR P k c b o l it w) (hR:BR (fun b=>b≠P) w (some ⟨b,o,none⟩) l.length l) (hc:l.length≤c) (hN:l.length≤4096) (hs:(l.drop k).length < 1):
 Calls Tryd.prog 70 #[.pointer (some ⟨P,0,none⟩),.int .i64 24] w (SpcP P c b o l it w (.err 2)):=by
 have P0:=al w (.cells #[.int .i64 0,.int .u64 0,.slice none 0 0,.slice none 0 0] 31);have N0:=aw w (.cells #[.int .i64 0,.int .u64 0,.slice none 0 0,.slice none 0 0] 31);have HA1:=dh (hA.below P0);have HR1:=dh (hR.below P0);have HB1:=dh (But.of_below (b:=P) P0);have HN1:=dh N0;have hPl:=lb hA.1;have hRP:w.heap.size≠P:=by omega
 have HK:=dh hA.2;have HCn:=dh (rnumber_short P k 1 c b o l it _ HA1.out hN (by omega) (by rw [List.length_drop] at hs;exact hs));clear hA hR P0 N0 hPl hs;go_enter Tryd.func70,Tryd.ntmps70
 go_upto_region 1 with fail
 generalize w.alloc (.cells #[.int .i64 0,.int .u64 0,.slice none 0 0,.slice none 0 0] 31)=u at *;generalize hBq:w.heap.size=B at *;go_wp2_with fail
 refine HCn.out.mono ?_;rintro e u1 ⟨rfl,qn,hu1⟩;have HN2:Hid (u1.heap[B]?=some (.cells #[.int .i64 0,.int .u64 0,.slice none 0 0,.slice none 0 0] 31 (0,0))):=dh (by rw [hu1];exact HN1.out);have HB2:Hid (But P w u1):=dh (by rw [hu1];exact HB1.out.drewN qn);clear HCn hu1;obtain ⟨r0,r1,r2,r3⟩:=cf HN2.out;obtain ⟨q0,q1,q2,q3⟩:=ff HN2.out;go_wp2_with fail
 clear r0 r1 r2 r3 q0 q1 q2 q3;have hp4:=put4 (HN2.out) (.int .i64 0) (.int .u64 0) (.slice none 0 0) (.slice none 0 0);have hs4:=pk (W:=u1) (b:=B) (.int .i64 0) (.int .u64 0) (.slice none 0 0) (.slice none 0 0);have hz4:=pm (W:=u1) (b:=B) (.int .i64 0) (.int .u64 0) (.slice none 0 0) (.slice none 0 0);generalize ((((u1).setCell ⟨B,0,none⟩ (.int .i64 0)).setCell ⟨B,1,none⟩ (.int .u64 0)).setCell ⟨B,2,none⟩ (.slice none 0 0)).setCell ⟨B,3,none⟩ (.slice none 0 0)=W' at *;obtain ⟨g0,g1,g2,g3⟩:=cf hp4;refine bodyPost_ret (v:=.tuple #[.agg #[.int .i64 0,.int .u64 0,.slice none 0 0,.slice none 0 0],.int .i64 2]) (by simp [results,Tryd.results70,go_sem,g0,g1,g2,g3]) rfl ?_;have HBW:But P w W':=⟨hz4.1.trans HB2.out.os,hz4.2.1.trans HB2.out.tape,hz4.2.2.trans HB2.out.output,by have:=HB2.out.size;rw [hs4.1];exact this,fun j hj hne=>(hs4.2 j (by omega)).trans (HB2.out.block j hj hne)⟩;exact ⟨HBW,rfl⟩
set_option maxHeartbeats 8000000 in
theorem special_24 (P k c b o f:Nat) (l:List UInt8) (it:Int) (w:World) (hA:AtR P k c b o l it w) (hR:BR (fun b=>b≠P) w (some ⟨b,o,none⟩) l.length l) (hc:l.length≤c) (hN:l.length≤4096) (hs:k + 1≤l.length) (n:Nat) (hn:It.unbe ((l.drop k).take 1)=n) (hnb:n < 256 ^ 1):
 Calls Tryd.prog 70 #[.pointer (some ⟨P,0,none⟩),.int .i64 24] w (SpcP P c b o l it w (ofO (It.seven 24 n) f (l.drop (k + 1)))):=by
 have P0:=al w (.cells #[.int .i64 0,.int .u64 0,.slice none 0 0,.slice none 0 0] 31);have N0:=aw w (.cells #[.int .i64 0,.int .u64 0,.slice none 0 0,.slice none 0 0] 31);have HA1:=dh (hA.below P0);have HR1:=dh (hR.below P0);have HB1:=dh (But.of_below (b:=P) P0);have HN1:=dh N0;have hPl:=lb hA.1;have hRP:w.heap.size≠P:=by omega
 have HK:=dh hA.2;have HCn:=rnumber_full P k 1 c b o l it _ HA1.out HR1.out hc hN (by omega) (by omega) hs;rw [hn] at HCn;have HCn:=dh HCn;clear hA hR P0 N0 hPl hs hn;go_enter Tryd.func70,Tryd.ntmps70
 go_upto_region 1 with fail
 generalize hwq:w.alloc (.cells #[.int .i64 0,.int .u64 0,.slice none 0 0,.slice none 0 0] 31)=u at *;generalize hBq:w.heap.size=B at *;clear hwq;go_wp2_with fail
 refine HCn.out.mono ?_;rintro e u1 ⟨rfl,hA2,hB2,hs2⟩;have HA2:=dh hA2;have HN2:=dh ((hB2.block B (lb HN1.out) hRP).trans HN1.out);have HB2:=dh (bt HB1.out hB2);clear HCn hA2 hB2 hs2;have PX:=al u1 (.cells #[.int .i64 8,.int .u64 (n:Int),.slice none 0 0,.slice none 0 0] 31);have HX3:=dh (aw u1 (.cells #[.int .i64 8,.int .u64 (n:Int),.slice none 0 0,.slice none 0 0] 31));have HA3:=dh (HA2.out.below PX);have HN3:=dh (Below.keep PX HN2.out (lb HN2.out));have HB3:=dh (bw HB2.out PX HB2.out.size);have HBX:Hid (B < u1.heap.size∧P < u1.heap.size):=dh ⟨lb HN2.out,lb HA2.out.1⟩;clear PX;obtain ⟨NN,hNN⟩:∃ NN:Int,NN=(n:Int):=⟨_,rfl⟩;rw [← hNN] at HX3 HA3 HN3 HB3 ⊢;have HNN:=dh hNN;clear hNN;go_upto_region 7 with fail
 generalize u1.heap.size=X at *;generalize u1.alloc (.cells #[.int .i64 8,.int .u64 NN,.slice none 0 0,.slice none 0 0] 31)=u2 at *;obtain ⟨r0,r1,r2,r3⟩:=cf HN3.out;obtain ⟨q0,q1,q2,q3⟩:=ff HN3.out;by_cases h32:n < 32
 ·have hz:NN < 32:=by have:=HNN.out;omega
  have hzb:decide (NN < 32)=true:=decide_eq_true hz;have hq:It.seven 24 n=none:=by unfold It.seven;rw [if_pos rfl,if_pos h32]
  have HQ:=dh hq;clear hq;go_wp2_with fail
  clear r0 r1 r2 r3 q0 q1 q2 q3;have hp4:=put4 (HN3.out) (.int .i64 0) (.int .u64 0) (.slice none 0 0) (.slice none 0 0);have hs4:=pk (W:=u2) (b:=B) (.int .i64 0) (.int .u64 0) (.slice none 0 0) (.slice none 0 0);have hz4:=pm (W:=u2) (b:=B) (.int .i64 0) (.int .u64 0) (.slice none 0 0) (.slice none 0 0);generalize ((((u2).setCell ⟨B,0,none⟩ (.int .i64 0)).setCell ⟨B,1,none⟩ (.int .u64 0)).setCell ⟨B,2,none⟩ (.slice none 0 0)).setCell ⟨B,3,none⟩ (.slice none 0 0)=W' at *;obtain ⟨g0,g1,g2,g3⟩:=cf hp4;refine bodyPost_ret (v:=.tuple #[.agg #[.int .i64 0,.int .u64 0,.slice none 0 0,.slice none 0 0],.int .i64 4]) (by simp [results,Tryd.results70,go_sem,g0,g1,g2,g3]) rfl ?_;have HBW:But P w W':=⟨hz4.1.trans HB3.out.os,hz4.2.1.trans HB3.out.tape,hz4.2.2.trans HB3.out.output,by have:=HB3.out.size;rw [hs4.1];exact this,fun j hj hne=>(hs4.2 j (by omega)).trans (HB3.out.block j hj hne)⟩;rw [HQ.out];exact ⟨HBW,rfl⟩
 ·have hz:¬ NN < 32:=by have:=HNN.out;omega
  have hzb:decide (NN < 32)=false:=decide_eq_false hz;have hq:It.seven 24 n=some (.mk 7 n [] []):=by unfold It.seven;rw [if_pos rfl,if_neg h32]
  have HQ:=dh hq;clear hq;go_wp2_with fail
  clear r0 r1 r2 r3 q0 q1 q2 q3;have hp4:=put4 (HN3.out) (.int .i64 7) (.int .u64 NN) (.slice none 0 0) (.slice none 0 0);have hs4:=pk (W:=u2) (b:=B) (.int .i64 7) (.int .u64 NN) (.slice none 0 0) (.slice none 0 0);have hz4:=pm (W:=u2) (b:=B) (.int .i64 7) (.int .u64 NN) (.slice none 0 0) (.slice none 0 0);generalize ((((u2).setCell ⟨B,0,none⟩ (.int .i64 7)).setCell ⟨B,1,none⟩ (.int .u64 NN)).setCell ⟨B,2,none⟩ (.slice none 0 0)).setCell ⟨B,3,none⟩ (.slice none 0 0)=W' at *;obtain ⟨g0,g1,g2,g3⟩:=cf hp4;refine bodyPost_ret (v:=.tuple #[.agg #[.int .i64 7,.int .u64 NN,.slice none 0 0,.slice none 0 0],.int .i64 0]) (by simp [results,Tryd.results70,go_sem,g0,g1,g2,g3]) rfl ?_;have HBW:But P w W':=⟨hz4.1.trans HB3.out.os,hz4.2.1.trans HB3.out.tape,hz4.2.2.trans HB3.out.output,by have:=HB3.out.size;rw [hs4.1];exact this,fun j hj hne=>(hs4.2 j (by omega)).trans (HB3.out.block j hj hne)⟩;rw [HQ.out];exact ⟨HBW,⟨none,0,0,none,0,0⟩,by rw [HNN.out];rfl,IR.flat _ _ (by omega),k + 1,⟨(hs4.2 P (fun e=>hRP e.symm)).trans HA3.out.1,HA3.out.2⟩,rfl⟩
set_option maxHeartbeats 4000000 in
theorem special_sh25 (P k c b o f:Nat) (l:List UInt8) (it:Int) (w:World) (hA:AtR P k c b o l it w) (hR:BR (fun b=>b≠P) w (some ⟨b,o,none⟩) l.length l) (hc:l.length≤c) (hN:l.length≤4096) (hs:(l.drop k).length < 2):
 Calls Tryd.prog 70 #[.pointer (some ⟨P,0,none⟩),.int .i64 25] w (SpcP P c b o l it w (.err 2)):=by
 have P0:=al w (.cells #[.int .i64 0,.int .u64 0,.slice none 0 0,.slice none 0 0] 31);have N0:=aw w (.cells #[.int .i64 0,.int .u64 0,.slice none 0 0,.slice none 0 0] 31);have HA1:=dh (hA.below P0);have HR1:=dh (hR.below P0);have HB1:=dh (But.of_below (b:=P) P0);have HN1:=dh N0;have hPl:=lb hA.1;have hRP:w.heap.size≠P:=by omega
 have HK:=dh hA.2;have HCn:=dh (rnumber_short P k 2 c b o l it _ HA1.out hN (by omega) (by rw [List.length_drop] at hs;exact hs));clear hA hR P0 N0 hPl hs;go_enter Tryd.func70,Tryd.ntmps70
 go_upto_region 1 with fail
 generalize w.alloc (.cells #[.int .i64 0,.int .u64 0,.slice none 0 0,.slice none 0 0] 31)=u at *;generalize hBq:w.heap.size=B at *;go_wp2_with fail
 refine HCn.out.mono ?_;rintro e u1 ⟨rfl,qn,hu1⟩;have HN2:Hid (u1.heap[B]?=some (.cells #[.int .i64 0,.int .u64 0,.slice none 0 0,.slice none 0 0] 31 (0,0))):=dh (by rw [hu1];exact HN1.out);have HB2:Hid (But P w u1):=dh (by rw [hu1];exact HB1.out.drewN qn);clear HCn hu1;obtain ⟨r0,r1,r2,r3⟩:=cf HN2.out;obtain ⟨q0,q1,q2,q3⟩:=ff HN2.out;go_wp2_with fail
 clear r0 r1 r2 r3 q0 q1 q2 q3;have hp4:=put4 (HN2.out) (.int .i64 0) (.int .u64 0) (.slice none 0 0) (.slice none 0 0);have hs4:=pk (W:=u1) (b:=B) (.int .i64 0) (.int .u64 0) (.slice none 0 0) (.slice none 0 0);have hz4:=pm (W:=u1) (b:=B) (.int .i64 0) (.int .u64 0) (.slice none 0 0) (.slice none 0 0);generalize ((((u1).setCell ⟨B,0,none⟩ (.int .i64 0)).setCell ⟨B,1,none⟩ (.int .u64 0)).setCell ⟨B,2,none⟩ (.slice none 0 0)).setCell ⟨B,3,none⟩ (.slice none 0 0)=W' at *;obtain ⟨g0,g1,g2,g3⟩:=cf hp4;refine bodyPost_ret (v:=.tuple #[.agg #[.int .i64 0,.int .u64 0,.slice none 0 0,.slice none 0 0],.int .i64 2]) (by simp [results,Tryd.results70,go_sem,g0,g1,g2,g3]) rfl ?_;have HBW:But P w W':=⟨hz4.1.trans HB2.out.os,hz4.2.1.trans HB2.out.tape,hz4.2.2.trans HB2.out.output,by have:=HB2.out.size;rw [hs4.1];exact this,fun j hj hne=>(hs4.2 j (by omega)).trans (HB2.out.block j hj hne)⟩;exact ⟨HBW,rfl⟩
set_option maxHeartbeats 8000000 in
theorem special_25 (P k c b o f:Nat) (l:List UInt8) (it:Int) (w:World) (hA:AtR P k c b o l it w) (hR:BR (fun b=>b≠P) w (some ⟨b,o,none⟩) l.length l) (hc:l.length≤c) (hN:l.length≤4096) (hs:k + 2≤l.length) (n:Nat) (hn:It.unbe ((l.drop k).take 2)=n) (hnb:n < 256 ^ 2):
 Calls Tryd.prog 70 #[.pointer (some ⟨P,0,none⟩),.int .i64 25] w (SpcP P c b o l it w (ofO (It.seven 25 n) f (l.drop (k + 2)))):=by
 have P0:=al w (.cells #[.int .i64 0,.int .u64 0,.slice none 0 0,.slice none 0 0] 31);have N0:=aw w (.cells #[.int .i64 0,.int .u64 0,.slice none 0 0,.slice none 0 0] 31);have HA1:=dh (hA.below P0);have HR1:=dh (hR.below P0);have HB1:=dh (But.of_below (b:=P) P0);have HN1:=dh N0;have hPl:=lb hA.1;have hRP:w.heap.size≠P:=by omega
 have HK:=dh hA.2;have HCn:=rnumber_full P k 2 c b o l it _ HA1.out HR1.out hc hN (by omega) (by omega) hs;rw [hn] at HCn;have HCn:=dh HCn;clear hA hR P0 N0 hPl hs hn;go_enter Tryd.func70,Tryd.ntmps70
 go_upto_region 1 with fail
 generalize hwq:w.alloc (.cells #[.int .i64 0,.int .u64 0,.slice none 0 0,.slice none 0 0] 31)=u at *;generalize hBq:w.heap.size=B at *;clear hwq;go_wp2_with fail
 refine HCn.out.mono ?_;rintro e u1 ⟨rfl,hA2,hB2,hs2⟩;have HA2:=dh hA2;have HN2:=dh ((hB2.block B (lb HN1.out) hRP).trans HN1.out);have HB2:=dh (bt HB1.out hB2);clear HCn hA2 hB2 hs2;have PX:=al u1 (.cells #[.int .i64 8,.int .u64 (n:Int),.slice none 0 0,.slice none 0 0] 31);have HX3:=dh (aw u1 (.cells #[.int .i64 8,.int .u64 (n:Int),.slice none 0 0,.slice none 0 0] 31));have HA3:=dh (HA2.out.below PX);have HN3:=dh (Below.keep PX HN2.out (lb HN2.out));have HB3:=dh (bw HB2.out PX HB2.out.size);have HBX:Hid (B < u1.heap.size∧P < u1.heap.size):=dh ⟨lb HN2.out,lb HA2.out.1⟩;clear PX;obtain ⟨NN,hNN⟩:∃ NN:Int,NN=(n:Int):=⟨_,rfl⟩;rw [← hNN] at HX3 HA3 HN3 HB3 ⊢;have HNN:=dh hNN;clear hNN;clear HX3 HA3 HN3 HB3;have hfb:Fl.widenH n < 18446744073709551616:=widenH_lt (by omega);obtain ⟨v,hv⟩:∃ v:Nat,v=Fl.widenH n:=⟨_,rfl⟩;have hsv:It.seven 25 n=It.sevenF v 2:=by rw [hv];rfl
 rw [← hv] at hfb;obtain ⟨VV,hVV⟩:∃ VV:Int,VV=(v:Int):=⟨_,rfl⟩;have HVV:=dh hVV;have HSV:=dh hsv;have HFB:=dh hfb;have HCW:Hid (∀ W,Calls Tryd.prog 59 #[.int .u64 NN,.int .i64 5,.int .i64 10] W fun e w'=>e=.returned (.int .u64 VV)∧W=w'):=dh fun W=>by rw [hVV,hv];exact widenH_any n NN HNN.out (by omega) W
 have PX:=al u1 (.cells #[.int .i64 8,.int .u64 VV,.slice none 0 0,.slice none 0 0] 31);have HX3:=dh (aw u1 (.cells #[.int .i64 8,.int .u64 VV,.slice none 0 0,.slice none 0 0] 31));have HA3:=dh (HA2.out.below PX);have HN3:=dh (Below.keep PX HN2.out (lb HN2.out));have HB3:=dh (bw HB2.out PX HB2.out.size);clear hsv hfb hVV hv PX;go_wp2_with fail
 refine (HCW.out _).mono ?_;rintro e w2 ⟨rfl,rfl⟩;clear HCW;go_upto_region 15 with fail
 generalize u1.heap.size=X at *;generalize u1.alloc (.cells #[.int .i64 8,.int .u64 VV,.slice none 0 0,.slice none 0 0] 31)=u2 at *;obtain ⟨x0,x1,x2,x3⟩:=cf HX3.out;cases hNan:Fl.isNaN v with
 | true=>
  have HCN:=dh (isnan_yes (N:=VV) HVV.out HFB.out hNan u2);by_cases hnn:v=Fl.nan
  ·have HNN9:Hid (¬ (Fl.isNaN v=true∧v≠Fl.nan)):=dh fun h=>h.2 hnn
   have hv9:(VV !=9221120237041090560)=false:=by have:=HVV.out;have h2:Fl.nan=9221120237041090560:=rfl;simp;omega
   clear hNan hnn;go_wp2_with fail
   refine HCN.out.mono ?_;rintro e w9 ⟨rfl,rfl⟩;clear HCN;have HCF:=dh (rfloat_any v VV HVV.out HFB.out u2);go_wp2_with fail
   refine HCF.out.mono ?_;rintro e u3 h3;obtain ⟨a9,c9,rfl,z1,z2,z3,z4,B3⟩:=h3.open;have HN4:=dh (Below.keep B3 HN3.out (lb HN3.out));have HX4:=dh (Below.keep B3 HX3.out (lb HX3.out));have HA4:=dh (HA3.out.below B3);have HB4:=dh (bw HB3.out B3 HB3.out.size);clear HCF h3 z1 z2 z3 z4 B3 x0 x1 x2 x3;obtain ⟨x0,x1,x2,x3⟩:=cf HX4.out;obtain ⟨r0,r1,r2,r3⟩:=cf HN4.out;obtain ⟨q0,q1,q2,q3⟩:=ff HN4.out;obtain ⟨ln,hln⟩:∃ ln,ln=(It.flt v).length:=⟨_,rfl⟩;rw [← hln];have HLN:=dh hln;clear hln;by_cases h9:ln=3
   ·have hzb:((ln:Int) !=3)=false:=by simp;omega
    have hzc:¬ ln≠3:=fun e=>e h9
    have hq:It.seven 25 n=some (.mk 8 v [] []):=by
     rw [HSV.out];unfold It.sevenF;rw [if_neg];rintro (h | h)
     ·exact HNN9.out h
     ·exact h (by rw [← HLN.out,h9])
    have HQ:=dh hq;clear hq;subst h9;go_wp2_with fail
    clear r0 r1 r2 r3 q0 q1 q2 q3 x0 x1 x2 x3;have hp4:=put4 (HN4.out) (.int .i64 8) (.int .u64 VV) (.slice none 0 0) (.slice none 0 0);have hs4:=pk (W:=u3) (b:=B) (.int .i64 8) (.int .u64 VV) (.slice none 0 0) (.slice none 0 0);have hz4:=pm (W:=u3) (b:=B) (.int .i64 8) (.int .u64 VV) (.slice none 0 0) (.slice none 0 0);generalize ((((u3).setCell ⟨B,0,none⟩ (.int .i64 8)).setCell ⟨B,1,none⟩ (.int .u64 VV)).setCell ⟨B,2,none⟩ (.slice none 0 0)).setCell ⟨B,3,none⟩ (.slice none 0 0)=W' at *;obtain ⟨g0,g1,g2,g3⟩:=cf hp4;refine bodyPost_ret (v:=.tuple #[.agg #[.int .i64 8,.int .u64 VV,.slice none 0 0,.slice none 0 0],.int .i64 0]) (by simp [results,Tryd.results70,go_sem,g0,g1,g2,g3]) rfl ?_;have HBW:But P w W':=⟨hz4.1.trans HB4.out.os,hz4.2.1.trans HB4.out.tape,hz4.2.2.trans HB4.out.output,by have:=HB4.out.size;rw [hs4.1];exact this,fun j hj hne=>(hs4.2 j (by omega)).trans (HB4.out.block j hj hne)⟩;rw [HQ.out];exact ⟨HBW,⟨none,0,0,none,0,0⟩,by rw [HVV.out];rfl,IR.flat _ _ HFB.out,k + 2,⟨(hs4.2 P (fun e=>hRP e.symm)).trans HA4.out.1,HA4.out.2⟩,rfl⟩
   ·have hzb:((ln:Int) !=3)=true:=by simp;omega
    have hq:It.seven 25 n=none:=by
     rw [HSV.out];unfold It.sevenF;rw [if_pos (.inr (by rw [← HLN.out];exact h9))]
    have HQ:=dh hq;clear hq;go_wp2_with fail
    clear r0 r1 r2 r3 q0 q1 q2 q3 x0 x1 x2 x3;have hp4:=put4 (HN4.out) (.int .i64 0) (.int .u64 0) (.slice none 0 0) (.slice none 0 0);have hs4:=pk (W:=u3) (b:=B) (.int .i64 0) (.int .u64 0) (.slice none 0 0) (.slice none 0 0);have hz4:=pm (W:=u3) (b:=B) (.int .i64 0) (.int .u64 0) (.slice none 0 0) (.slice none 0 0);generalize ((((u3).setCell ⟨B,0,none⟩ (.int .i64 0)).setCell ⟨B,1,none⟩ (.int .u64 0)).setCell ⟨B,2,none⟩ (.slice none 0 0)).setCell ⟨B,3,none⟩ (.slice none 0 0)=W' at *;obtain ⟨g0,g1,g2,g3⟩:=cf hp4;refine bodyPost_ret (v:=.tuple #[.agg #[.int .i64 0,.int .u64 0,.slice none 0 0,.slice none 0 0],.int .i64 4]) (by simp [results,Tryd.results70,go_sem,g0,g1,g2,g3]) rfl ?_;have HBW:But P w W':=⟨hz4.1.trans HB4.out.os,hz4.2.1.trans HB4.out.tape,hz4.2.2.trans HB4.out.output,by have:=HB4.out.size;rw [hs4.1];exact this,fun j hj hne=>(hs4.2 j (by omega)).trans (HB4.out.block j hj hne)⟩;rw [HQ.out];exact ⟨HBW,rfl⟩
  ·have hv9:(VV !=9221120237041090560)=true:=by have:=HVV.out;have h2:Fl.nan=9221120237041090560:=rfl;simp;omega
   have hq:It.seven 25 n=none:=by
    rw [HSV.out];unfold It.sevenF;rw [if_pos (.inl ⟨hNan,hnn⟩)]
   have HQ:=dh hq;clear hq hnn hNan;obtain ⟨r0,r1,r2,r3⟩:=cf HN3.out;obtain ⟨q0,q1,q2,q3⟩:=ff HN3.out;go_wp2_with fail
   refine HCN.out.mono ?_;rintro e w9 ⟨rfl,rfl⟩;clear HCN;go_wp2_with fail
   clear r0 r1 r2 r3 q0 q1 q2 q3 x0 x1 x2 x3;have hp4:=put4 (HN3.out) (.int .i64 0) (.int .u64 0) (.slice none 0 0) (.slice none 0 0);have hs4:=pk (W:=u2) (b:=B) (.int .i64 0) (.int .u64 0) (.slice none 0 0) (.slice none 0 0);have hz4:=pm (W:=u2) (b:=B) (.int .i64 0) (.int .u64 0) (.slice none 0 0) (.slice none 0 0);generalize ((((u2).setCell ⟨B,0,none⟩ (.int .i64 0)).setCell ⟨B,1,none⟩ (.int .u64 0)).setCell ⟨B,2,none⟩ (.slice none 0 0)).setCell ⟨B,3,none⟩ (.slice none 0 0)=W' at *;obtain ⟨g0,g1,g2,g3⟩:=cf hp4;refine bodyPost_ret (v:=.tuple #[.agg #[.int .i64 0,.int .u64 0,.slice none 0 0,.slice none 0 0],.int .i64 4]) (by simp [results,Tryd.results70,go_sem,g0,g1,g2,g3]) rfl ?_;have HBW:But P w W':=⟨hz4.1.trans HB3.out.os,hz4.2.1.trans HB3.out.tape,hz4.2.2.trans HB3.out.output,by have:=HB3.out.size;rw [hs4.1];exact this,fun j hj hne=>(hs4.2 j (by omega)).trans (HB3.out.block j hj hne)⟩;rw [HQ.out];exact ⟨HBW,rfl⟩
 | false=>
  have HCN:=dh (isnan_no (N:=VV) HVV.out HFB.out hNan u2);have HNN9:Hid (¬ (Fl.isNaN v=true∧v≠Fl.nan)):=dh fun h=>by rw [hNan] at h;cases h.1
  clear hNan;go_wp2_with fail
  refine HCN.out.mono ?_;rintro e w9 ⟨rfl,rfl⟩;clear HCN;have HCF:=dh (rfloat_any v VV HVV.out HFB.out u2);go_wp2_with fail
  refine HCF.out.mono ?_;rintro e u3 h3;obtain ⟨a9,c9,rfl,z1,z2,z3,z4,B3⟩:=h3.open;have HN4:=dh (Below.keep B3 HN3.out (lb HN3.out));have HX4:=dh (Below.keep B3 HX3.out (lb HX3.out));have HA4:=dh (HA3.out.below B3);have HB4:=dh (bw HB3.out B3 HB3.out.size);clear HCF h3 z1 z2 z3 z4 B3 x0 x1 x2 x3;obtain ⟨x0,x1,x2,x3⟩:=cf HX4.out;obtain ⟨r0,r1,r2,r3⟩:=cf HN4.out;obtain ⟨q0,q1,q2,q3⟩:=ff HN4.out;obtain ⟨ln,hln⟩:∃ ln,ln=(It.flt v).length:=⟨_,rfl⟩;rw [← hln];have HLN:=dh hln;clear hln;by_cases h9:ln=3
  ·have hzb:((ln:Int) !=3)=false:=by simp;omega
   have hzc:¬ ln≠3:=fun e=>e h9
   have hq:It.seven 25 n=some (.mk 8 v [] []):=by
    rw [HSV.out];unfold It.sevenF;rw [if_neg];rintro (h | h)
    ·exact HNN9.out h
    ·exact h (by rw [← HLN.out,h9])
   have HQ:=dh hq;clear hq;subst h9;go_wp2_with fail
   clear r0 r1 r2 r3 q0 q1 q2 q3 x0 x1 x2 x3;have hp4:=put4 (HN4.out) (.int .i64 8) (.int .u64 VV) (.slice none 0 0) (.slice none 0 0);have hs4:=pk (W:=u3) (b:=B) (.int .i64 8) (.int .u64 VV) (.slice none 0 0) (.slice none 0 0);have hz4:=pm (W:=u3) (b:=B) (.int .i64 8) (.int .u64 VV) (.slice none 0 0) (.slice none 0 0);generalize ((((u3).setCell ⟨B,0,none⟩ (.int .i64 8)).setCell ⟨B,1,none⟩ (.int .u64 VV)).setCell ⟨B,2,none⟩ (.slice none 0 0)).setCell ⟨B,3,none⟩ (.slice none 0 0)=W' at *;obtain ⟨g0,g1,g2,g3⟩:=cf hp4;refine bodyPost_ret (v:=.tuple #[.agg #[.int .i64 8,.int .u64 VV,.slice none 0 0,.slice none 0 0],.int .i64 0]) (by simp [results,Tryd.results70,go_sem,g0,g1,g2,g3]) rfl ?_;have HBW:But P w W':=⟨hz4.1.trans HB4.out.os,hz4.2.1.trans HB4.out.tape,hz4.2.2.trans HB4.out.output,by have:=HB4.out.size;rw [hs4.1];exact this,fun j hj hne=>(hs4.2 j (by omega)).trans (HB4.out.block j hj hne)⟩;rw [HQ.out];exact ⟨HBW,⟨none,0,0,none,0,0⟩,by rw [HVV.out];rfl,IR.flat _ _ HFB.out,k + 2,⟨(hs4.2 P (fun e=>hRP e.symm)).trans HA4.out.1,HA4.out.2⟩,rfl⟩
  ·have hzb:((ln:Int) !=3)=true:=by simp;omega
   have hq:It.seven 25 n=none:=by
    rw [HSV.out];unfold It.sevenF;rw [if_pos (.inr (by rw [← HLN.out];exact h9))]
   have HQ:=dh hq;clear hq;go_wp2_with fail
   clear r0 r1 r2 r3 q0 q1 q2 q3 x0 x1 x2 x3;have hp4:=put4 (HN4.out) (.int .i64 0) (.int .u64 0) (.slice none 0 0) (.slice none 0 0);have hs4:=pk (W:=u3) (b:=B) (.int .i64 0) (.int .u64 0) (.slice none 0 0) (.slice none 0 0);have hz4:=pm (W:=u3) (b:=B) (.int .i64 0) (.int .u64 0) (.slice none 0 0) (.slice none 0 0);generalize ((((u3).setCell ⟨B,0,none⟩ (.int .i64 0)).setCell ⟨B,1,none⟩ (.int .u64 0)).setCell ⟨B,2,none⟩ (.slice none 0 0)).setCell ⟨B,3,none⟩ (.slice none 0 0)=W' at *;obtain ⟨g0,g1,g2,g3⟩:=cf hp4;refine bodyPost_ret (v:=.tuple #[.agg #[.int .i64 0,.int .u64 0,.slice none 0 0,.slice none 0 0],.int .i64 4]) (by simp [results,Tryd.results70,go_sem,g0,g1,g2,g3]) rfl ?_;have HBW:But P w W':=⟨hz4.1.trans HB4.out.os,hz4.2.1.trans HB4.out.tape,hz4.2.2.trans HB4.out.output,by have:=HB4.out.size;rw [hs4.1];exact this,fun j hj hne=>(hs4.2 j (by omega)).trans (HB4.out.block j hj hne)⟩;rw [HQ.out];exact ⟨HBW,rfl⟩
set_option maxHeartbeats 4000000 in
theorem special_sh26 (P k c b o f:Nat) (l:List UInt8) (it:Int) (w:World) (hA:AtR P k c b o l it w) (hR:BR (fun b=>b≠P) w (some ⟨b,o,none⟩) l.length l) (hc:l.length≤c) (hN:l.length≤4096) (hs:(l.drop k).length < 4):
 Calls Tryd.prog 70 #[.pointer (some ⟨P,0,none⟩),.int .i64 26] w (SpcP P c b o l it w (.err 2)):=by
 have P0:=al w (.cells #[.int .i64 0,.int .u64 0,.slice none 0 0,.slice none 0 0] 31);have N0:=aw w (.cells #[.int .i64 0,.int .u64 0,.slice none 0 0,.slice none 0 0] 31);have HA1:=dh (hA.below P0);have HR1:=dh (hR.below P0);have HB1:=dh (But.of_below (b:=P) P0);have HN1:=dh N0;have hPl:=lb hA.1;have hRP:w.heap.size≠P:=by omega
 have HK:=dh hA.2;have HCn:=dh (rnumber_short P k 4 c b o l it _ HA1.out hN (by omega) (by rw [List.length_drop] at hs;exact hs));clear hA hR P0 N0 hPl hs;go_enter Tryd.func70,Tryd.ntmps70
 go_upto_region 1 with fail
 generalize w.alloc (.cells #[.int .i64 0,.int .u64 0,.slice none 0 0,.slice none 0 0] 31)=u at *;generalize hBq:w.heap.size=B at *;go_wp2_with fail
 refine HCn.out.mono ?_;rintro e u1 ⟨rfl,qn,hu1⟩;have HN2:Hid (u1.heap[B]?=some (.cells #[.int .i64 0,.int .u64 0,.slice none 0 0,.slice none 0 0] 31 (0,0))):=dh (by rw [hu1];exact HN1.out);have HB2:Hid (But P w u1):=dh (by rw [hu1];exact HB1.out.drewN qn);clear HCn hu1;obtain ⟨r0,r1,r2,r3⟩:=cf HN2.out;obtain ⟨q0,q1,q2,q3⟩:=ff HN2.out;go_wp2_with fail
 clear r0 r1 r2 r3 q0 q1 q2 q3;have hp4:=put4 (HN2.out) (.int .i64 0) (.int .u64 0) (.slice none 0 0) (.slice none 0 0);have hs4:=pk (W:=u1) (b:=B) (.int .i64 0) (.int .u64 0) (.slice none 0 0) (.slice none 0 0);have hz4:=pm (W:=u1) (b:=B) (.int .i64 0) (.int .u64 0) (.slice none 0 0) (.slice none 0 0);generalize ((((u1).setCell ⟨B,0,none⟩ (.int .i64 0)).setCell ⟨B,1,none⟩ (.int .u64 0)).setCell ⟨B,2,none⟩ (.slice none 0 0)).setCell ⟨B,3,none⟩ (.slice none 0 0)=W' at *;obtain ⟨g0,g1,g2,g3⟩:=cf hp4;refine bodyPost_ret (v:=.tuple #[.agg #[.int .i64 0,.int .u64 0,.slice none 0 0,.slice none 0 0],.int .i64 2]) (by simp [results,Tryd.results70,go_sem,g0,g1,g2,g3]) rfl ?_;have HBW:But P w W':=⟨hz4.1.trans HB2.out.os,hz4.2.1.trans HB2.out.tape,hz4.2.2.trans HB2.out.output,by have:=HB2.out.size;rw [hs4.1];exact this,fun j hj hne=>(hs4.2 j (by omega)).trans (HB2.out.block j hj hne)⟩;exact ⟨HBW,rfl⟩
set_option maxHeartbeats 8000000 in
theorem special_26 (P k c b o f:Nat) (l:List UInt8) (it:Int) (w:World) (hA:AtR P k c b o l it w) (hR:BR (fun b=>b≠P) w (some ⟨b,o,none⟩) l.length l) (hc:l.length≤c) (hN:l.length≤4096) (hs:k + 4≤l.length) (n:Nat) (hn:It.unbe ((l.drop k).take 4)=n) (hnb:n < 256 ^ 4):
 Calls Tryd.prog 70 #[.pointer (some ⟨P,0,none⟩),.int .i64 26] w (SpcP P c b o l it w (ofO (It.seven 26 n) f (l.drop (k + 4)))):=by
 have P0:=al w (.cells #[.int .i64 0,.int .u64 0,.slice none 0 0,.slice none 0 0] 31);have N0:=aw w (.cells #[.int .i64 0,.int .u64 0,.slice none 0 0,.slice none 0 0] 31);have HA1:=dh (hA.below P0);have HR1:=dh (hR.below P0);have HB1:=dh (But.of_below (b:=P) P0);have HN1:=dh N0;have hPl:=lb hA.1;have hRP:w.heap.size≠P:=by omega
 have HK:=dh hA.2;have HCn:=rnumber_full P k 4 c b o l it _ HA1.out HR1.out hc hN (by omega) (by omega) hs;rw [hn] at HCn;have HCn:=dh HCn;clear hA hR P0 N0 hPl hs hn;go_enter Tryd.func70,Tryd.ntmps70
 go_upto_region 1 with fail
 generalize hwq:w.alloc (.cells #[.int .i64 0,.int .u64 0,.slice none 0 0,.slice none 0 0] 31)=u at *;generalize hBq:w.heap.size=B at *;clear hwq;go_wp2_with fail
 refine HCn.out.mono ?_;rintro e u1 ⟨rfl,hA2,hB2,hs2⟩;have HA2:=dh hA2;have HN2:=dh ((hB2.block B (lb HN1.out) hRP).trans HN1.out);have HB2:=dh (bt HB1.out hB2);clear HCn hA2 hB2 hs2;have PX:=al u1 (.cells #[.int .i64 8,.int .u64 (n:Int),.slice none 0 0,.slice none 0 0] 31);have HX3:=dh (aw u1 (.cells #[.int .i64 8,.int .u64 (n:Int),.slice none 0 0,.slice none 0 0] 31));have HA3:=dh (HA2.out.below PX);have HN3:=dh (Below.keep PX HN2.out (lb HN2.out));have HB3:=dh (bw HB2.out PX HB2.out.size);have HBX:Hid (B < u1.heap.size∧P < u1.heap.size):=dh ⟨lb HN2.out,lb HA2.out.1⟩;clear PX;obtain ⟨NN,hNN⟩:∃ NN:Int,NN=(n:Int):=⟨_,rfl⟩;rw [← hNN] at HX3 HA3 HN3 HB3 ⊢;have HNN:=dh hNN;clear hNN;clear HX3 HA3 HN3 HB3;have hfb:Fl.widenS n < 18446744073709551616:=widenS_lt (by omega);obtain ⟨v,hv⟩:∃ v:Nat,v=Fl.widenS n:=⟨_,rfl⟩;have hsv:It.seven 26 n=It.sevenF v 4:=by rw [hv];rfl
 rw [← hv] at hfb;obtain ⟨VV,hVV⟩:∃ VV:Int,VV=(v:Int):=⟨_,rfl⟩;have HVV:=dh hVV;have HSV:=dh hsv;have HFB:=dh hfb;have HCW:Hid (∀ W,Calls Tryd.prog 59 #[.int .u64 NN,.int .i64 8,.int .i64 23] W fun e w'=>e=.returned (.int .u64 VV)∧W=w'):=dh fun W=>by rw [hVV,hv];exact widenS_any n NN HNN.out (by omega) W
 have PX:=al u1 (.cells #[.int .i64 8,.int .u64 VV,.slice none 0 0,.slice none 0 0] 31);have HX3:=dh (aw u1 (.cells #[.int .i64 8,.int .u64 VV,.slice none 0 0,.slice none 0 0] 31));have HA3:=dh (HA2.out.below PX);have HN3:=dh (Below.keep PX HN2.out (lb HN2.out));have HB3:=dh (bw HB2.out PX HB2.out.size);clear hsv hfb hVV hv PX;go_wp2_with fail
 refine (HCW.out _).mono ?_;rintro e w2 ⟨rfl,rfl⟩;clear HCW;go_upto_region 15 with fail
 generalize u1.heap.size=X at *;generalize u1.alloc (.cells #[.int .i64 8,.int .u64 VV,.slice none 0 0,.slice none 0 0] 31)=u2 at *;obtain ⟨x0,x1,x2,x3⟩:=cf HX3.out;cases hNan:Fl.isNaN v with
 | true=>
  have HCN:=dh (isnan_yes (N:=VV) HVV.out HFB.out hNan u2);by_cases hnn:v=Fl.nan
  ·have HNN9:Hid (¬ (Fl.isNaN v=true∧v≠Fl.nan)):=dh fun h=>h.2 hnn
   have hv9:(VV !=9221120237041090560)=false:=by have:=HVV.out;have h2:Fl.nan=9221120237041090560:=rfl;simp;omega
   clear hNan hnn;go_wp2_with fail
   refine HCN.out.mono ?_;rintro e w9 ⟨rfl,rfl⟩;clear HCN;have HCF:=dh (rfloat_any v VV HVV.out HFB.out u2);go_wp2_with fail
   refine HCF.out.mono ?_;rintro e u3 h3;obtain ⟨a9,c9,rfl,z1,z2,z3,z4,B3⟩:=h3.open;have HN4:=dh (Below.keep B3 HN3.out (lb HN3.out));have HX4:=dh (Below.keep B3 HX3.out (lb HX3.out));have HA4:=dh (HA3.out.below B3);have HB4:=dh (bw HB3.out B3 HB3.out.size);clear HCF h3 z1 z2 z3 z4 B3 x0 x1 x2 x3;obtain ⟨x0,x1,x2,x3⟩:=cf HX4.out;obtain ⟨r0,r1,r2,r3⟩:=cf HN4.out;obtain ⟨q0,q1,q2,q3⟩:=ff HN4.out;obtain ⟨ln,hln⟩:∃ ln,ln=(It.flt v).length:=⟨_,rfl⟩;rw [← hln];have HLN:=dh hln;clear hln;by_cases h9:ln=5
   ·have hzb:((ln:Int) !=5)=false:=by simp;omega
    have hzc:¬ ln≠5:=fun e=>e h9
    have hq:It.seven 26 n=some (.mk 8 v [] []):=by
     rw [HSV.out];unfold It.sevenF;rw [if_neg];rintro (h | h)
     ·exact HNN9.out h
     ·exact h (by rw [← HLN.out,h9])
    have HQ:=dh hq;clear hq;subst h9;go_wp2_with fail
    clear r0 r1 r2 r3 q0 q1 q2 q3 x0 x1 x2 x3;have hp4:=put4 (HN4.out) (.int .i64 8) (.int .u64 VV) (.slice none 0 0) (.slice none 0 0);have hs4:=pk (W:=u3) (b:=B) (.int .i64 8) (.int .u64 VV) (.slice none 0 0) (.slice none 0 0);have hz4:=pm (W:=u3) (b:=B) (.int .i64 8) (.int .u64 VV) (.slice none 0 0) (.slice none 0 0);generalize ((((u3).setCell ⟨B,0,none⟩ (.int .i64 8)).setCell ⟨B,1,none⟩ (.int .u64 VV)).setCell ⟨B,2,none⟩ (.slice none 0 0)).setCell ⟨B,3,none⟩ (.slice none 0 0)=W' at *;obtain ⟨g0,g1,g2,g3⟩:=cf hp4;refine bodyPost_ret (v:=.tuple #[.agg #[.int .i64 8,.int .u64 VV,.slice none 0 0,.slice none 0 0],.int .i64 0]) (by simp [results,Tryd.results70,go_sem,g0,g1,g2,g3]) rfl ?_;have HBW:But P w W':=⟨hz4.1.trans HB4.out.os,hz4.2.1.trans HB4.out.tape,hz4.2.2.trans HB4.out.output,by have:=HB4.out.size;rw [hs4.1];exact this,fun j hj hne=>(hs4.2 j (by omega)).trans (HB4.out.block j hj hne)⟩;rw [HQ.out];exact ⟨HBW,⟨none,0,0,none,0,0⟩,by rw [HVV.out];rfl,IR.flat _ _ HFB.out,k + 4,⟨(hs4.2 P (fun e=>hRP e.symm)).trans HA4.out.1,HA4.out.2⟩,rfl⟩
   ·have hzb:((ln:Int) !=5)=true:=by simp;omega
    have hq:It.seven 26 n=none:=by
     rw [HSV.out];unfold It.sevenF;rw [if_pos (.inr (by rw [← HLN.out];exact h9))]
    have HQ:=dh hq;clear hq;go_wp2_with fail
    clear r0 r1 r2 r3 q0 q1 q2 q3 x0 x1 x2 x3;have hp4:=put4 (HN4.out) (.int .i64 0) (.int .u64 0) (.slice none 0 0) (.slice none 0 0);have hs4:=pk (W:=u3) (b:=B) (.int .i64 0) (.int .u64 0) (.slice none 0 0) (.slice none 0 0);have hz4:=pm (W:=u3) (b:=B) (.int .i64 0) (.int .u64 0) (.slice none 0 0) (.slice none 0 0);generalize ((((u3).setCell ⟨B,0,none⟩ (.int .i64 0)).setCell ⟨B,1,none⟩ (.int .u64 0)).setCell ⟨B,2,none⟩ (.slice none 0 0)).setCell ⟨B,3,none⟩ (.slice none 0 0)=W' at *;obtain ⟨g0,g1,g2,g3⟩:=cf hp4;refine bodyPost_ret (v:=.tuple #[.agg #[.int .i64 0,.int .u64 0,.slice none 0 0,.slice none 0 0],.int .i64 4]) (by simp [results,Tryd.results70,go_sem,g0,g1,g2,g3]) rfl ?_;have HBW:But P w W':=⟨hz4.1.trans HB4.out.os,hz4.2.1.trans HB4.out.tape,hz4.2.2.trans HB4.out.output,by have:=HB4.out.size;rw [hs4.1];exact this,fun j hj hne=>(hs4.2 j (by omega)).trans (HB4.out.block j hj hne)⟩;rw [HQ.out];exact ⟨HBW,rfl⟩
  ·have hv9:(VV !=9221120237041090560)=true:=by have:=HVV.out;have h2:Fl.nan=9221120237041090560:=rfl;simp;omega
   have hq:It.seven 26 n=none:=by
    rw [HSV.out];unfold It.sevenF;rw [if_pos (.inl ⟨hNan,hnn⟩)]
   have HQ:=dh hq;clear hq hnn hNan;obtain ⟨r0,r1,r2,r3⟩:=cf HN3.out;obtain ⟨q0,q1,q2,q3⟩:=ff HN3.out;go_wp2_with fail
   refine HCN.out.mono ?_;rintro e w9 ⟨rfl,rfl⟩;clear HCN;go_wp2_with fail
   clear r0 r1 r2 r3 q0 q1 q2 q3 x0 x1 x2 x3;have hp4:=put4 (HN3.out) (.int .i64 0) (.int .u64 0) (.slice none 0 0) (.slice none 0 0);have hs4:=pk (W:=u2) (b:=B) (.int .i64 0) (.int .u64 0) (.slice none 0 0) (.slice none 0 0);have hz4:=pm (W:=u2) (b:=B) (.int .i64 0) (.int .u64 0) (.slice none 0 0) (.slice none 0 0);generalize ((((u2).setCell ⟨B,0,none⟩ (.int .i64 0)).setCell ⟨B,1,none⟩ (.int .u64 0)).setCell ⟨B,2,none⟩ (.slice none 0 0)).setCell ⟨B,3,none⟩ (.slice none 0 0)=W' at *;obtain ⟨g0,g1,g2,g3⟩:=cf hp4;refine bodyPost_ret (v:=.tuple #[.agg #[.int .i64 0,.int .u64 0,.slice none 0 0,.slice none 0 0],.int .i64 4]) (by simp [results,Tryd.results70,go_sem,g0,g1,g2,g3]) rfl ?_;have HBW:But P w W':=⟨hz4.1.trans HB3.out.os,hz4.2.1.trans HB3.out.tape,hz4.2.2.trans HB3.out.output,by have:=HB3.out.size;rw [hs4.1];exact this,fun j hj hne=>(hs4.2 j (by omega)).trans (HB3.out.block j hj hne)⟩;rw [HQ.out];exact ⟨HBW,rfl⟩
 | false=>
  have HCN:=dh (isnan_no (N:=VV) HVV.out HFB.out hNan u2);have HNN9:Hid (¬ (Fl.isNaN v=true∧v≠Fl.nan)):=dh fun h=>by rw [hNan] at h;cases h.1
  clear hNan;go_wp2_with fail
  refine HCN.out.mono ?_;rintro e w9 ⟨rfl,rfl⟩;clear HCN;have HCF:=dh (rfloat_any v VV HVV.out HFB.out u2);go_wp2_with fail
  refine HCF.out.mono ?_;rintro e u3 h3;obtain ⟨a9,c9,rfl,z1,z2,z3,z4,B3⟩:=h3.open;have HN4:=dh (Below.keep B3 HN3.out (lb HN3.out));have HX4:=dh (Below.keep B3 HX3.out (lb HX3.out));have HA4:=dh (HA3.out.below B3);have HB4:=dh (bw HB3.out B3 HB3.out.size);clear HCF h3 z1 z2 z3 z4 B3 x0 x1 x2 x3;obtain ⟨x0,x1,x2,x3⟩:=cf HX4.out;obtain ⟨r0,r1,r2,r3⟩:=cf HN4.out;obtain ⟨q0,q1,q2,q3⟩:=ff HN4.out;obtain ⟨ln,hln⟩:∃ ln,ln=(It.flt v).length:=⟨_,rfl⟩;rw [← hln];have HLN:=dh hln;clear hln;by_cases h9:ln=5
  ·have hzb:((ln:Int) !=5)=false:=by simp;omega
   have hzc:¬ ln≠5:=fun e=>e h9
   have hq:It.seven 26 n=some (.mk 8 v [] []):=by
    rw [HSV.out];unfold It.sevenF;rw [if_neg];rintro (h | h)
    ·exact HNN9.out h
    ·exact h (by rw [← HLN.out,h9])
   have HQ:=dh hq;clear hq;subst h9;go_wp2_with fail
   clear r0 r1 r2 r3 q0 q1 q2 q3 x0 x1 x2 x3;have hp4:=put4 (HN4.out) (.int .i64 8) (.int .u64 VV) (.slice none 0 0) (.slice none 0 0);have hs4:=pk (W:=u3) (b:=B) (.int .i64 8) (.int .u64 VV) (.slice none 0 0) (.slice none 0 0);have hz4:=pm (W:=u3) (b:=B) (.int .i64 8) (.int .u64 VV) (.slice none 0 0) (.slice none 0 0);generalize ((((u3).setCell ⟨B,0,none⟩ (.int .i64 8)).setCell ⟨B,1,none⟩ (.int .u64 VV)).setCell ⟨B,2,none⟩ (.slice none 0 0)).setCell ⟨B,3,none⟩ (.slice none 0 0)=W' at *;obtain ⟨g0,g1,g2,g3⟩:=cf hp4;refine bodyPost_ret (v:=.tuple #[.agg #[.int .i64 8,.int .u64 VV,.slice none 0 0,.slice none 0 0],.int .i64 0]) (by simp [results,Tryd.results70,go_sem,g0,g1,g2,g3]) rfl ?_;have HBW:But P w W':=⟨hz4.1.trans HB4.out.os,hz4.2.1.trans HB4.out.tape,hz4.2.2.trans HB4.out.output,by have:=HB4.out.size;rw [hs4.1];exact this,fun j hj hne=>(hs4.2 j (by omega)).trans (HB4.out.block j hj hne)⟩;rw [HQ.out];exact ⟨HBW,⟨none,0,0,none,0,0⟩,by rw [HVV.out];rfl,IR.flat _ _ HFB.out,k + 4,⟨(hs4.2 P (fun e=>hRP e.symm)).trans HA4.out.1,HA4.out.2⟩,rfl⟩
  ·have hzb:((ln:Int) !=5)=true:=by simp;omega
   have hq:It.seven 26 n=none:=by
    rw [HSV.out];unfold It.sevenF;rw [if_pos (.inr (by rw [← HLN.out];exact h9))]
   have HQ:=dh hq;clear hq;go_wp2_with fail
   clear r0 r1 r2 r3 q0 q1 q2 q3 x0 x1 x2 x3;have hp4:=put4 (HN4.out) (.int .i64 0) (.int .u64 0) (.slice none 0 0) (.slice none 0 0);have hs4:=pk (W:=u3) (b:=B) (.int .i64 0) (.int .u64 0) (.slice none 0 0) (.slice none 0 0);have hz4:=pm (W:=u3) (b:=B) (.int .i64 0) (.int .u64 0) (.slice none 0 0) (.slice none 0 0);generalize ((((u3).setCell ⟨B,0,none⟩ (.int .i64 0)).setCell ⟨B,1,none⟩ (.int .u64 0)).setCell ⟨B,2,none⟩ (.slice none 0 0)).setCell ⟨B,3,none⟩ (.slice none 0 0)=W' at *;obtain ⟨g0,g1,g2,g3⟩:=cf hp4;refine bodyPost_ret (v:=.tuple #[.agg #[.int .i64 0,.int .u64 0,.slice none 0 0,.slice none 0 0],.int .i64 4]) (by simp [results,Tryd.results70,go_sem,g0,g1,g2,g3]) rfl ?_;have HBW:But P w W':=⟨hz4.1.trans HB4.out.os,hz4.2.1.trans HB4.out.tape,hz4.2.2.trans HB4.out.output,by have:=HB4.out.size;rw [hs4.1];exact this,fun j hj hne=>(hs4.2 j (by omega)).trans (HB4.out.block j hj hne)⟩;rw [HQ.out];exact ⟨HBW,rfl⟩
set_option maxHeartbeats 4000000 in
theorem special_sh27 (P k c b o f:Nat) (l:List UInt8) (it:Int) (w:World) (hA:AtR P k c b o l it w) (hR:BR (fun b=>b≠P) w (some ⟨b,o,none⟩) l.length l) (hc:l.length≤c) (hN:l.length≤4096) (hs:(l.drop k).length < 8):
 Calls Tryd.prog 70 #[.pointer (some ⟨P,0,none⟩),.int .i64 27] w (SpcP P c b o l it w (.err 2)):=by
 have P0:=al w (.cells #[.int .i64 0,.int .u64 0,.slice none 0 0,.slice none 0 0] 31);have N0:=aw w (.cells #[.int .i64 0,.int .u64 0,.slice none 0 0,.slice none 0 0] 31);have HA1:=dh (hA.below P0);have HR1:=dh (hR.below P0);have HB1:=dh (But.of_below (b:=P) P0);have HN1:=dh N0;have hPl:=lb hA.1;have hRP:w.heap.size≠P:=by omega
 have HK:=dh hA.2;have HCn:=dh (rnumber_short P k 8 c b o l it _ HA1.out hN (by omega) (by rw [List.length_drop] at hs;exact hs));clear hA hR P0 N0 hPl hs;go_enter Tryd.func70,Tryd.ntmps70
 go_upto_region 1 with fail
 generalize w.alloc (.cells #[.int .i64 0,.int .u64 0,.slice none 0 0,.slice none 0 0] 31)=u at *;generalize hBq:w.heap.size=B at *;go_wp2_with fail
 refine HCn.out.mono ?_;rintro e u1 ⟨rfl,qn,hu1⟩;have HN2:Hid (u1.heap[B]?=some (.cells #[.int .i64 0,.int .u64 0,.slice none 0 0,.slice none 0 0] 31 (0,0))):=dh (by rw [hu1];exact HN1.out);have HB2:Hid (But P w u1):=dh (by rw [hu1];exact HB1.out.drewN qn);clear HCn hu1;obtain ⟨r0,r1,r2,r3⟩:=cf HN2.out;obtain ⟨q0,q1,q2,q3⟩:=ff HN2.out;go_wp2_with fail
 clear r0 r1 r2 r3 q0 q1 q2 q3;have hp4:=put4 (HN2.out) (.int .i64 0) (.int .u64 0) (.slice none 0 0) (.slice none 0 0);have hs4:=pk (W:=u1) (b:=B) (.int .i64 0) (.int .u64 0) (.slice none 0 0) (.slice none 0 0);have hz4:=pm (W:=u1) (b:=B) (.int .i64 0) (.int .u64 0) (.slice none 0 0) (.slice none 0 0);generalize ((((u1).setCell ⟨B,0,none⟩ (.int .i64 0)).setCell ⟨B,1,none⟩ (.int .u64 0)).setCell ⟨B,2,none⟩ (.slice none 0 0)).setCell ⟨B,3,none⟩ (.slice none 0 0)=W' at *;obtain ⟨g0,g1,g2,g3⟩:=cf hp4;refine bodyPost_ret (v:=.tuple #[.agg #[.int .i64 0,.int .u64 0,.slice none 0 0,.slice none 0 0],.int .i64 2]) (by simp [results,Tryd.results70,go_sem,g0,g1,g2,g3]) rfl ?_;have HBW:But P w W':=⟨hz4.1.trans HB2.out.os,hz4.2.1.trans HB2.out.tape,hz4.2.2.trans HB2.out.output,by have:=HB2.out.size;rw [hs4.1];exact this,fun j hj hne=>(hs4.2 j (by omega)).trans (HB2.out.block j hj hne)⟩;exact ⟨HBW,rfl⟩
set_option maxHeartbeats 8000000 in
theorem special_27 (P k c b o f:Nat) (l:List UInt8) (it:Int) (w:World) (hA:AtR P k c b o l it w) (hR:BR (fun b=>b≠P) w (some ⟨b,o,none⟩) l.length l) (hc:l.length≤c) (hN:l.length≤4096) (hs:k + 8≤l.length) (n:Nat) (hn:It.unbe ((l.drop k).take 8)=n) (hnb:n < 256 ^ 8):
 Calls Tryd.prog 70 #[.pointer (some ⟨P,0,none⟩),.int .i64 27] w (SpcP P c b o l it w (ofO (It.seven 27 n) f (l.drop (k + 8)))):=by
 have P0:=al w (.cells #[.int .i64 0,.int .u64 0,.slice none 0 0,.slice none 0 0] 31);have N0:=aw w (.cells #[.int .i64 0,.int .u64 0,.slice none 0 0,.slice none 0 0] 31);have HA1:=dh (hA.below P0);have HR1:=dh (hR.below P0);have HB1:=dh (But.of_below (b:=P) P0);have HN1:=dh N0;have hPl:=lb hA.1;have hRP:w.heap.size≠P:=by omega
 have HK:=dh hA.2;have HCn:=rnumber_full P k 8 c b o l it _ HA1.out HR1.out hc hN (by omega) (by omega) hs;rw [hn] at HCn;have HCn:=dh HCn;clear hA hR P0 N0 hPl hs hn;go_enter Tryd.func70,Tryd.ntmps70
 go_upto_region 1 with fail
 generalize hwq:w.alloc (.cells #[.int .i64 0,.int .u64 0,.slice none 0 0,.slice none 0 0] 31)=u at *;generalize hBq:w.heap.size=B at *;clear hwq;go_wp2_with fail
 refine HCn.out.mono ?_;rintro e u1 ⟨rfl,hA2,hB2,hs2⟩;have HA2:=dh hA2;have HN2:=dh ((hB2.block B (lb HN1.out) hRP).trans HN1.out);have HB2:=dh (bt HB1.out hB2);clear HCn hA2 hB2 hs2;have PX:=al u1 (.cells #[.int .i64 8,.int .u64 (n:Int),.slice none 0 0,.slice none 0 0] 31);have HX3:=dh (aw u1 (.cells #[.int .i64 8,.int .u64 (n:Int),.slice none 0 0,.slice none 0 0] 31));have HA3:=dh (HA2.out.below PX);have HN3:=dh (Below.keep PX HN2.out (lb HN2.out));have HB3:=dh (bw HB2.out PX HB2.out.size);have HBX:Hid (B < u1.heap.size∧P < u1.heap.size):=dh ⟨lb HN2.out,lb HA2.out.1⟩;clear PX;obtain ⟨NN,hNN⟩:∃ NN:Int,NN=(n:Int):=⟨_,rfl⟩;rw [← hNN] at HX3 HA3 HN3 HB3 ⊢;have HNN:=dh hNN;clear hNN;clear HX3 HA3 HN3 HB3;have hfb:n < 18446744073709551616:=by omega
 obtain ⟨v,hv⟩:∃ v:Nat,v=n:=⟨_,rfl⟩;have hsv:It.seven 27 n=It.sevenF v 8:=by rw [hv];rfl
 rw [← hv] at hfb;obtain ⟨VV,hVV⟩:∃ VV:Int,VV=(v:Int):=⟨_,rfl⟩;have HVV:=dh hVV;have HSV:=dh hsv;have HFB:=dh hfb;have hNV:NN=VV:=by have:=HNN.out;omega
 subst hNV;have PX:=al u1 (.cells #[.int .i64 8,.int .u64 NN,.slice none 0 0,.slice none 0 0] 31);have HX3:=dh (aw u1 (.cells #[.int .i64 8,.int .u64 NN,.slice none 0 0,.slice none 0 0] 31));have HA3:=dh (HA2.out.below PX);have HN3:=dh (Below.keep PX HN2.out (lb HN2.out));have HB3:=dh (bw HB2.out PX HB2.out.size);clear hsv hfb hVV hv PX;go_upto_region 15 with fail
 generalize u1.heap.size=X at *;generalize u1.alloc (.cells #[.int .i64 8,.int .u64 NN,.slice none 0 0,.slice none 0 0] 31)=u2 at *;obtain ⟨x0,x1,x2,x3⟩:=cf HX3.out;cases hNan:Fl.isNaN v with
 | true=>
  have HCN:=dh (isnan_yes (N:=NN) HVV.out HFB.out hNan u2);by_cases hnn:v=Fl.nan
  ·have HNN9:Hid (¬ (Fl.isNaN v=true∧v≠Fl.nan)):=dh fun h=>h.2 hnn
   have hv9:(NN !=9221120237041090560)=false:=by have:=HVV.out;have h2:Fl.nan=9221120237041090560:=rfl;simp;omega
   clear hNan hnn;go_wp2_with fail
   refine HCN.out.mono ?_;rintro e w9 ⟨rfl,rfl⟩;clear HCN;have HCF:=dh (rfloat_any v NN HVV.out HFB.out u2);go_wp2_with fail
   refine HCF.out.mono ?_;rintro e u3 h3;obtain ⟨a9,c9,rfl,z1,z2,z3,z4,B3⟩:=h3.open;have HN4:=dh (Below.keep B3 HN3.out (lb HN3.out));have HX4:=dh (Below.keep B3 HX3.out (lb HX3.out));have HA4:=dh (HA3.out.below B3);have HB4:=dh (bw HB3.out B3 HB3.out.size);clear HCF h3 z1 z2 z3 z4 B3 x0 x1 x2 x3;obtain ⟨x0,x1,x2,x3⟩:=cf HX4.out;obtain ⟨r0,r1,r2,r3⟩:=cf HN4.out;obtain ⟨q0,q1,q2,q3⟩:=ff HN4.out;obtain ⟨ln,hln⟩:∃ ln,ln=(It.flt v).length:=⟨_,rfl⟩;rw [← hln];have HLN:=dh hln;clear hln;by_cases h9:ln=9
   ·have hzb:((ln:Int) !=9)=false:=by simp;omega
    have hzc:¬ ln≠9:=fun e=>e h9
    have hq:It.seven 27 n=some (.mk 8 v [] []):=by
     rw [HSV.out];unfold It.sevenF;rw [if_neg];rintro (h | h)
     ·exact HNN9.out h
     ·exact h (by rw [← HLN.out,h9])
    have HQ:=dh hq;clear hq;subst h9;go_wp2_with fail
    clear r0 r1 r2 r3 q0 q1 q2 q3 x0 x1 x2 x3;have hp4:=put4 (HN4.out) (.int .i64 8) (.int .u64 NN) (.slice none 0 0) (.slice none 0 0);have hs4:=pk (W:=u3) (b:=B) (.int .i64 8) (.int .u64 NN) (.slice none 0 0) (.slice none 0 0);have hz4:=pm (W:=u3) (b:=B) (.int .i64 8) (.int .u64 NN) (.slice none 0 0) (.slice none 0 0);generalize ((((u3).setCell ⟨B,0,none⟩ (.int .i64 8)).setCell ⟨B,1,none⟩ (.int .u64 NN)).setCell ⟨B,2,none⟩ (.slice none 0 0)).setCell ⟨B,3,none⟩ (.slice none 0 0)=W' at *;obtain ⟨g0,g1,g2,g3⟩:=cf hp4;refine bodyPost_ret (v:=.tuple #[.agg #[.int .i64 8,.int .u64 NN,.slice none 0 0,.slice none 0 0],.int .i64 0]) (by simp [results,Tryd.results70,go_sem,g0,g1,g2,g3]) rfl ?_;have HBW:But P w W':=⟨hz4.1.trans HB4.out.os,hz4.2.1.trans HB4.out.tape,hz4.2.2.trans HB4.out.output,by have:=HB4.out.size;rw [hs4.1];exact this,fun j hj hne=>(hs4.2 j (by omega)).trans (HB4.out.block j hj hne)⟩;rw [HQ.out];exact ⟨HBW,⟨none,0,0,none,0,0⟩,by rw [HVV.out];rfl,IR.flat _ _ HFB.out,k + 8,⟨(hs4.2 P (fun e=>hRP e.symm)).trans HA4.out.1,HA4.out.2⟩,rfl⟩
   ·have hzb:((ln:Int) !=9)=true:=by simp;omega
    have hq:It.seven 27 n=none:=by
     rw [HSV.out];unfold It.sevenF;rw [if_pos (.inr (by rw [← HLN.out];exact h9))]
    have HQ:=dh hq;clear hq;go_wp2_with fail
    clear r0 r1 r2 r3 q0 q1 q2 q3 x0 x1 x2 x3;have hp4:=put4 (HN4.out) (.int .i64 0) (.int .u64 0) (.slice none 0 0) (.slice none 0 0);have hs4:=pk (W:=u3) (b:=B) (.int .i64 0) (.int .u64 0) (.slice none 0 0) (.slice none 0 0);have hz4:=pm (W:=u3) (b:=B) (.int .i64 0) (.int .u64 0) (.slice none 0 0) (.slice none 0 0);generalize ((((u3).setCell ⟨B,0,none⟩ (.int .i64 0)).setCell ⟨B,1,none⟩ (.int .u64 0)).setCell ⟨B,2,none⟩ (.slice none 0 0)).setCell ⟨B,3,none⟩ (.slice none 0 0)=W' at *;obtain ⟨g0,g1,g2,g3⟩:=cf hp4;refine bodyPost_ret (v:=.tuple #[.agg #[.int .i64 0,.int .u64 0,.slice none 0 0,.slice none 0 0],.int .i64 4]) (by simp [results,Tryd.results70,go_sem,g0,g1,g2,g3]) rfl ?_;have HBW:But P w W':=⟨hz4.1.trans HB4.out.os,hz4.2.1.trans HB4.out.tape,hz4.2.2.trans HB4.out.output,by have:=HB4.out.size;rw [hs4.1];exact this,fun j hj hne=>(hs4.2 j (by omega)).trans (HB4.out.block j hj hne)⟩;rw [HQ.out];exact ⟨HBW,rfl⟩
  ·have hv9:(NN !=9221120237041090560)=true:=by have:=HVV.out;have h2:Fl.nan=9221120237041090560:=rfl;simp;omega
   have hq:It.seven 27 n=none:=by
    rw [HSV.out];unfold It.sevenF;rw [if_pos (.inl ⟨hNan,hnn⟩)]
   have HQ:=dh hq;clear hq hnn hNan;obtain ⟨r0,r1,r2,r3⟩:=cf HN3.out;obtain ⟨q0,q1,q2,q3⟩:=ff HN3.out;go_wp2_with fail
   refine HCN.out.mono ?_;rintro e w9 ⟨rfl,rfl⟩;clear HCN;go_wp2_with fail
   clear r0 r1 r2 r3 q0 q1 q2 q3 x0 x1 x2 x3;have hp4:=put4 (HN3.out) (.int .i64 0) (.int .u64 0) (.slice none 0 0) (.slice none 0 0);have hs4:=pk (W:=u2) (b:=B) (.int .i64 0) (.int .u64 0) (.slice none 0 0) (.slice none 0 0);have hz4:=pm (W:=u2) (b:=B) (.int .i64 0) (.int .u64 0) (.slice none 0 0) (.slice none 0 0);generalize ((((u2).setCell ⟨B,0,none⟩ (.int .i64 0)).setCell ⟨B,1,none⟩ (.int .u64 0)).setCell ⟨B,2,none⟩ (.slice none 0 0)).setCell ⟨B,3,none⟩ (.slice none 0 0)=W' at *;obtain ⟨g0,g1,g2,g3⟩:=cf hp4;refine bodyPost_ret (v:=.tuple #[.agg #[.int .i64 0,.int .u64 0,.slice none 0 0,.slice none 0 0],.int .i64 4]) (by simp [results,Tryd.results70,go_sem,g0,g1,g2,g3]) rfl ?_;have HBW:But P w W':=⟨hz4.1.trans HB3.out.os,hz4.2.1.trans HB3.out.tape,hz4.2.2.trans HB3.out.output,by have:=HB3.out.size;rw [hs4.1];exact this,fun j hj hne=>(hs4.2 j (by omega)).trans (HB3.out.block j hj hne)⟩;rw [HQ.out];exact ⟨HBW,rfl⟩
 | false=>
  have HCN:=dh (isnan_no (N:=NN) HVV.out HFB.out hNan u2);have HNN9:Hid (¬ (Fl.isNaN v=true∧v≠Fl.nan)):=dh fun h=>by rw [hNan] at h;cases h.1
  clear hNan;go_wp2_with fail
  refine HCN.out.mono ?_;rintro e w9 ⟨rfl,rfl⟩;clear HCN;have HCF:=dh (rfloat_any v NN HVV.out HFB.out u2);go_wp2_with fail
  refine HCF.out.mono ?_;rintro e u3 h3;obtain ⟨a9,c9,rfl,z1,z2,z3,z4,B3⟩:=h3.open;have HN4:=dh (Below.keep B3 HN3.out (lb HN3.out));have HX4:=dh (Below.keep B3 HX3.out (lb HX3.out));have HA4:=dh (HA3.out.below B3);have HB4:=dh (bw HB3.out B3 HB3.out.size);clear HCF h3 z1 z2 z3 z4 B3 x0 x1 x2 x3;obtain ⟨x0,x1,x2,x3⟩:=cf HX4.out;obtain ⟨r0,r1,r2,r3⟩:=cf HN4.out;obtain ⟨q0,q1,q2,q3⟩:=ff HN4.out;obtain ⟨ln,hln⟩:∃ ln,ln=(It.flt v).length:=⟨_,rfl⟩;rw [← hln];have HLN:=dh hln;clear hln;by_cases h9:ln=9
  ·have hzb:((ln:Int) !=9)=false:=by simp;omega
   have hzc:¬ ln≠9:=fun e=>e h9
   have hq:It.seven 27 n=some (.mk 8 v [] []):=by
    rw [HSV.out];unfold It.sevenF;rw [if_neg];rintro (h | h)
    ·exact HNN9.out h
    ·exact h (by rw [← HLN.out,h9])
   have HQ:=dh hq;clear hq;subst h9;go_wp2_with fail
   clear r0 r1 r2 r3 q0 q1 q2 q3 x0 x1 x2 x3;have hp4:=put4 (HN4.out) (.int .i64 8) (.int .u64 NN) (.slice none 0 0) (.slice none 0 0);have hs4:=pk (W:=u3) (b:=B) (.int .i64 8) (.int .u64 NN) (.slice none 0 0) (.slice none 0 0);have hz4:=pm (W:=u3) (b:=B) (.int .i64 8) (.int .u64 NN) (.slice none 0 0) (.slice none 0 0);generalize ((((u3).setCell ⟨B,0,none⟩ (.int .i64 8)).setCell ⟨B,1,none⟩ (.int .u64 NN)).setCell ⟨B,2,none⟩ (.slice none 0 0)).setCell ⟨B,3,none⟩ (.slice none 0 0)=W' at *;obtain ⟨g0,g1,g2,g3⟩:=cf hp4;refine bodyPost_ret (v:=.tuple #[.agg #[.int .i64 8,.int .u64 NN,.slice none 0 0,.slice none 0 0],.int .i64 0]) (by simp [results,Tryd.results70,go_sem,g0,g1,g2,g3]) rfl ?_;have HBW:But P w W':=⟨hz4.1.trans HB4.out.os,hz4.2.1.trans HB4.out.tape,hz4.2.2.trans HB4.out.output,by have:=HB4.out.size;rw [hs4.1];exact this,fun j hj hne=>(hs4.2 j (by omega)).trans (HB4.out.block j hj hne)⟩;rw [HQ.out];exact ⟨HBW,⟨none,0,0,none,0,0⟩,by rw [HVV.out];rfl,IR.flat _ _ HFB.out,k + 8,⟨(hs4.2 P (fun e=>hRP e.symm)).trans HA4.out.1,HA4.out.2⟩,rfl⟩
  ·have hzb:((ln:Int) !=9)=true:=by simp;omega
   have hq:It.seven 27 n=none:=by
    rw [HSV.out];unfold It.sevenF;rw [if_pos (.inr (by rw [← HLN.out];exact h9))]
   have HQ:=dh hq;clear hq;go_wp2_with fail
   clear r0 r1 r2 r3 q0 q1 q2 q3 x0 x1 x2 x3;have hp4:=put4 (HN4.out) (.int .i64 0) (.int .u64 0) (.slice none 0 0) (.slice none 0 0);have hs4:=pk (W:=u3) (b:=B) (.int .i64 0) (.int .u64 0) (.slice none 0 0) (.slice none 0 0);have hz4:=pm (W:=u3) (b:=B) (.int .i64 0) (.int .u64 0) (.slice none 0 0) (.slice none 0 0);generalize ((((u3).setCell ⟨B,0,none⟩ (.int .i64 0)).setCell ⟨B,1,none⟩ (.int .u64 0)).setCell ⟨B,2,none⟩ (.slice none 0 0)).setCell ⟨B,3,none⟩ (.slice none 0 0)=W' at *;obtain ⟨g0,g1,g2,g3⟩:=cf hp4;refine bodyPost_ret (v:=.tuple #[.agg #[.int .i64 0,.int .u64 0,.slice none 0 0,.slice none 0 0],.int .i64 4]) (by simp [results,Tryd.results70,go_sem,g0,g1,g2,g3]) rfl ?_;have HBW:But P w W':=⟨hz4.1.trans HB4.out.os,hz4.2.1.trans HB4.out.tape,hz4.2.2.trans HB4.out.output,by have:=HB4.out.size;rw [hs4.1];exact this,fun j hj hne=>(hs4.2 j (by omega)).trans (HB4.out.block j hj hne)⟩;rw [HQ.out];exact ⟨HBW,rfl⟩
theorem special_any (P k c b o f:Nat) (l:List UInt8) (it:Int) (w:World) (hA:AtR P k c b o l it w) (hR:BR (fun b=>b≠P) w (some ⟨b,o,none⟩) l.length l) (hc:l.length≤c) (hN:l.length≤4096) (info:Nat) (hi:info≤27):
 Calls Tryd.prog 70 #[.pointer (some ⟨P,0,none⟩),.int .i64 (info:Int)] w (SpcP P c b o l it w (It.spec info f (l.drop k))):=by
 have hk:=hA.2;by_cases h24:info < 24
 ·unfold It.spec;rw [if_pos h24];exact special_low P k c b o f l it w hA hR hc hN info h24
 rcases (show info=24∨info=25∨info=26∨info=27 by omega) with rfl | rfl | rfl | rfl
 ·unfold It.spec
  rw [if_neg h24]
  show Calls Tryd.prog 70 #[.pointer (some ⟨P,0,none⟩),.int .i64 24] w (SpcP P c b o l it w (if (l.drop k).length < 1 then .err 2 else ofO (It.seven 24 (It.unbe ((l.drop k).take 1))) f ((l.drop k).drop 1)))
  by_cases hs:(l.drop k).length < 1
  ·rw [if_pos hs];exact special_sh24 P k c b o f l it w hA hR hc hN hs
  ·rw [if_neg hs,List.drop_drop]
   exact special_24 P k c b o f l it w hA hR hc hN (by rw [List.length_drop] at hs;omega) _ rfl (unbe_take_lt 1 _)
 ·unfold It.spec
  rw [if_neg h24]
  show Calls Tryd.prog 70 #[.pointer (some ⟨P,0,none⟩),.int .i64 25] w (SpcP P c b o l it w (if (l.drop k).length < 2 then .err 2 else ofO (It.seven 25 (It.unbe ((l.drop k).take 2))) f ((l.drop k).drop 2)))
  by_cases hs:(l.drop k).length < 2
  ·rw [if_pos hs];exact special_sh25 P k c b o f l it w hA hR hc hN hs
  ·rw [if_neg hs,List.drop_drop]
   exact special_25 P k c b o f l it w hA hR hc hN (by rw [List.length_drop] at hs;omega) _ rfl (unbe_take_lt 2 _)
 ·unfold It.spec
  rw [if_neg h24]
  show Calls Tryd.prog 70 #[.pointer (some ⟨P,0,none⟩),.int .i64 26] w (SpcP P c b o l it w (if (l.drop k).length < 4 then .err 2 else ofO (It.seven 26 (It.unbe ((l.drop k).take 4))) f ((l.drop k).drop 4)))
  by_cases hs:(l.drop k).length < 4
  ·rw [if_pos hs];exact special_sh26 P k c b o f l it w hA hR hc hN hs
  ·rw [if_neg hs,List.drop_drop]
   exact special_26 P k c b o f l it w hA hR hc hN (by rw [List.length_drop] at hs;omega) _ rfl (unbe_take_lt 4 _)
 ·unfold It.spec
  rw [if_neg h24]
  show Calls Tryd.prog 70 #[.pointer (some ⟨P,0,none⟩),.int .i64 27] w (SpcP P c b o l it w (if (l.drop k).length < 8 then .err 2 else ofO (It.seven 27 (It.unbe ((l.drop k).take 8))) f ((l.drop k).drop 8)))
  by_cases hs:(l.drop k).length < 8
  ·rw [if_pos hs];exact special_sh27 P k c b o f l it w hA hR hc hN hs
  ·rw [if_neg hs,List.drop_drop]
   exact special_27 P k c b o f l it w hA hR hc hN (by rw [List.length_drop] at hs;omega) _ rfl (unbe_take_lt 8 _)
end Go.Proofs.YtelefkkkccilaaaDoor
