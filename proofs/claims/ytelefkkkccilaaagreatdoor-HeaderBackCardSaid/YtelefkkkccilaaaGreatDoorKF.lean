/- The reference's reader: numbers. -/
import Derived.Test.YtelefkkkccilaaaGreatDoorKE
set_option maxHeartbeats 32000000
set_option linter.all false
namespace Go.Proofs.YtelefkkkccilaaaGreatDoor
open Go.RowKit
set_option maxRecDepth 100000
def AtR (P k c b o:Nat) (l:List UInt8) (it:Int) (w:World):Prop:=w.heap[P]?=some (.cells #[.slice (some ⟨b,o,none⟩) l.length c,.int .i64 (k:Int),.int .i64 it] 125 (0,0))∧k≤l.length
theorem AtR.set {P k c b o:Nat} {l:List UInt8} {it:Int} {w:World} (h:AtR P k c b o l it w) {k':Nat} (hk:k'≤l.length):AtR P k' c b o l it (w.setCell ⟨P,1,none⟩ (.int .i64 (k':Int))):=⟨by have:=sar h.1 1 (.int .i64 (k':Int));simpa using this,hk⟩
theorem AtR.drewN {P k c b o:Nat} {l:List UInt8} {it:Int} {w:World} (h:AtR P k c b o l it w) (n:Nat):AtR P k c b o l it (w.drewN n):=⟨h.1,h.2⟩
theorem rnumber_short (P k n c b o:Nat) (l:List UInt8) (it:Int) (w:World) (hA:AtR P k c b o l it w) (hN:l.length≤4096) (hn:n≤8) (hs:l.length - k < n):
 Calls Tryz.prog 138 #[.pointer (some ⟨P,0,none⟩),.int .i64 (n:Int)] w fun e w'=>e=.returned (.tuple #[.int .u64 0,.bool false])∧∃ q,w'=w.drewN q:=by
 obtain ⟨hP,hk⟩:=hA;have x0:=cr hP 0;have x1:=cr hP 1;simp at x0 x1;obtain ⟨N,hN0⟩:∃ N,N=l.length:=⟨_,rfl⟩;rw [← hN0] at x0 hN hs hk;have hw:IntKind.i64.wrap ((N:Int) - k)=(N:Int) - k:=IntWalk.i64_in _ (by omega);have hlt:(N:Int) - k < (n:Int):=by omega
 clear hP hN0;go_enter Tryz.func138,Tryz.ntmps138
 go_wp2_with fail
 go_quiet (fail)
 go_wp2_with fail
 go_ret2
 exact ⟨rfl,nq,rfl⟩
def RNR (P k c b o n:Nat) (l t:List UInt8) (it:Int) (w:World) (x i:Value) (W:World):Prop:=∃ j:Nat,i=.int .i64 (j:Int)∧j≤n∧x=.int .u64 ((It.unbe (t.take j):Nat):Int)∧AtR P (k + j) c b o l it W∧But P w W∧W.heap.size=w.heap.size
theorem rnumber_full (P k n c b o:Nat) (l:List UInt8) (it:Int) (w:World) (hA:AtR P k c b o l it w) (hR:BR (fun b=>b≠P) w (some ⟨b,o,none⟩) l.length l) (hc:l.length≤c) (hN:l.length≤4096) (hn:n≤8) (h1:1≤n) (hs:k + n≤l.length):
 Calls Tryz.prog 138 #[.pointer (some ⟨P,0,none⟩),.int .i64 (n:Int)] w fun e w'=>e=.returned (.tuple #[.int .u64 ((It.unbe ((l.drop k).take n):Nat):Int),.bool true])∧AtR P (k + n) c b o l it w'∧But P w w'∧w'.heap.size=w.heap.size:=by
 have x0:=cr hA.1 0;have x1:=cr hA.1 1;simp at x0 x1;obtain ⟨N,hN0⟩:∃ N,N=l.length:=⟨_,rfl⟩;rw [← hN0] at x0 hN hs hc;have hw:IntKind.i64.wrap ((N:Int) - k)=(N:Int) - k:=IntWalk.i64_in _ (by omega);have hlt:¬ (N:Int) - k < (n:Int):=by omega
 obtain ⟨t,ht⟩:∃ t,t=(l.drop k).take n:=⟨_,rfl⟩;have htl:t.length=n:=by rw [ht,List.length_take,List.length_drop];omega
 have hti:∀ i (hi:i < t.length) (h2:k + i < l.length),t[i]=l[k + i]:=fun i hi _=>by subst ht;simp
 rw [← ht];have HA:=dh hA;have HRB:=dh hR;have HTL:=dh htl;have HTI:=dh hti;have HN0:=dh hN0;clear hA hR ht htl hti hN0;go_enter Tryz.func138,Tryz.ntmps138
 go_wp2_with fail
 go_quiet (fail)
 have HA1:=dh (HA.out.drewN nq);have HB1:Hid (But P w (w.drewN nq)∧(w.drewN nq).heap.size=w.heap.size):=dh ⟨(But.refl _ _).drewN nq,rfl⟩;clear x0 x1;generalize w.drewN nq=w1 at *;go_wp2_with fail
 go_loopw [6,20] (fun x i W=>RNR P k c b o n l t it w x i W) (fun _ i _=>n - (intOf i).toNat)
 case atStart=>exact ⟨0,rfl,Nat.zero_le _,rfl,HA1.out,HB1.out.1,HB1.out.2⟩
 case round=>
  obtain ⟨j,rfl,hj,rfl,hAj,hBj,hsj⟩:=hrel;have HAj:=dh hAj;have HBj:=dh (And.intro hBj hsj);clear hAj hBj hsj;by_cases hjn:j < n
  ·have hjz:(j:Int) < (n:Int):=by omega
   have hjt:j < t.length:=by have:=HTL.out;omega
   have hkl:k + j < l.length:=by have:=HN0.out;omega
   have hcell:wr.cell? ⟨b,o + (k + j),none⟩=some (.int .u8 ((t[j]).toNat:Int)):=by
    obtain ⟨b',o',e,_,h⟩:=(HRB.out.sep HBj.out.1).2.2 (k + j) hkl;cases e
    rw [HTI.out j hjt hkl];exact h
   obtain ⟨kj,hkj⟩:∃ kj,kj=k + j:=⟨_,rfl⟩;have HKJ:=dh hkj;rw [← hkj] at hcell HAj;have x0:=cr HAj.out.1 0;have x1:=cr HAj.out.1 1;have f1:wr.frozen? ⟨P,1,none⟩=false:=by simp [World.frozen?,HAj.out.1]
   simp at x0 x1;rw [← HN0.out] at x0;obtain ⟨cb,hcb⟩:∃ cb,cb=t[j]:=⟨_,rfl⟩;rw [← hcb] at hcell;have hlt:=It.unbe_lt (t.take j);have hX:It.unbe (t.take j) < 256 ^ 7:=Nat.lt_of_lt_of_le hlt (Nat.pow_le_pow_right (by omega) (by rw [List.length_take];omega));have hstep:It.unbe (t.take (j + 1))=It.unbe (t.take j) * 256 + cb.toNat:=by
    rw [List.take_add_one,List.getElem?_eq_getElem hjt,hcb];exact unbe_snoc _ _
   have HST:=dh hstep;generalize It.unbe (t.take j)=X at *;have hcl:=cb.toNat_lt;have hw1:IntKind.u64.wrap ((X:Int) * 256)=((X * 2 ^ 8:Nat):Int):=by rw [wrap_u64 (by omega) (by omega)];omega
   have hw2:IntKind.u64.wrap (cb.toNat:Int)=(cb.toNat:Int):=wrap_u64 (by omega) (by omega);have hor:bits .or .u64 ((X * 2 ^ 8:Nat):Int) (cb.toNat:Int)=((X * 2 ^ 8 + cb.toNat:Nat):Int):=or_hi 8 rfl rfl (by omega) (by omega);obtain ⟨X2,hX2⟩:∃ X2:Nat,X2=X * 2 ^ 8:=⟨_,rfl⟩;rw [← hX2] at hw1 hor;have hwj:IntKind.i64.wrap ((j:Int) + 1)=((j + 1:Nat):Int):=by rw [IntWalk.i64_in _ (by omega)];omega
   have hwk:IntKind.i64.wrap ((kj:Int) + 1)=((kj + 1:Nat):Int):=by rw [IntWalk.i64_in _ (by omega)];omega
   have hkN:kj < N:=by omega
   obtain ⟨X3,hX3⟩:∃ X3:Nat,X3=X2 + cb.toNat:=⟨_,rfl⟩;rw [← hX3] at hor;have HX3:Hid (X3=It.unbe (t.take (j + 1))):=dh (by rw [HST.out];omega);have HKL:=dh hkl;clear hcb hlt hX hstep hX2 hX3 hcl hkj hkl hjt;go_wp2_with fail
   go_quiet (fail)
   have HA2:=dh (HAj.out.drewN nq);have HB2:Hid (But P w (wr.drewN nq)∧(wr.drewN nq).heap.size=w.heap.size):=dh ⟨HBj.out.1.drewN nq,HBj.out.2⟩;have f2:(wr.drewN nq).frozen? ⟨P,1,none⟩=false:=f1;have x2:(wr.drewN nq).cell? ⟨P,1,none⟩=_:=x1;clear x0 x1 f1 hcell HAj HBj;generalize wr.drewN nq=w2 at *;have HA3:=dh (HA2.out.set (k':=kj + 1) (by have:=HKL.out;have:=HKJ.out;omega));have HB3:=dh (HB2.out.1.setCell (p:=⟨P,1,none⟩) rfl (.int .i64 ((kj + 1:Nat):Int)));have HS3:Hid ((w2.setCell ⟨P,1,none⟩ (.int .i64 ((kj + 1:Nat):Int))).heap.size=w.heap.size):=dh (by have:=HB2.out.2;simpa [World.setCell] using this);go_wp2_with fail
   go_roundw
   case rel=>exact ⟨j + 1,by go_num,hjn,by rw [HX3.out],by have h9:=HA3.out;have e9:=HKJ.out;rw [show k + (j + 1)=kj + 1 by omega];exact h9,HB3.out,HS3.out⟩
   case measure=>simp [intOf];omega
  ·have hjz:¬ (j:Int) < (n:Int):=by omega
   have hjn':j=n:=by omega
   have htk:t.take j=t:=List.take_of_length_le (by have:=HTL.out;omega);rw [htk];have HJN:=dh hjn';clear hj hjn' htk;go_wp2_with fail
   go_ret2
   exact ⟨rfl,by rw [← HJN.out];exact HAj.out,HBj.out.1,HBj.out.2⟩
def SpcP (P c b o:Nat) (l:List UInt8) (it:Int) (w:World) (r:It.PR It) (e:Ending) (w':World):Prop:=But P w w'∧match r with
 | .err er=>NoItem er e
 | .ok x _ s=>∃ A:Ad,e=.returned (.tuple #[.agg #[.int .i64 x.kind,.int .u64 (x.num:Int),.slice A.ab A.nb A.cb,.slice A.ai A.ni A.ci],.int .i64 0])∧IR (fun j=>w.heap.size≤j) w' x A∧∃ j,AtR P j c b o l it w'∧s=l.drop j
def It.spec (info f:Nat) (s:List UInt8):It.PR It:=if info < 24 then .ok (.mk 7 info [] []) f s else if s.length < 2 ^ (info - 24) then .err 2 else ofO (It.seven info (It.unbe (s.take (2 ^ (info - 24))))) f (s.drop (2 ^ (info - 24)))
theorem widenH_lt {h:Nat} (hh:h < 65536):Fl.widenH h < 18446744073709551616:=by
 cases hN:Fl.nanH h with
 | false=>exact (Fl.widenH_narrow hh hN).2.1
 | true=>
   unfold Fl.nanH at hN;simp only [Bool.and_eq_true,beq_iff_eq,bne_iff_ne,ne_eq] at hN;unfold Fl.widenH;simp only [hN.1,if_true];omega
theorem widenS_lt {h:Nat} (hh:h < 4294967296):Fl.widenS h < 18446744073709551616:=by
 cases hN:Fl.nanS h with
 | false=>exact (Fl.widenS_narrow hh hN).2.1
 | true=>
   unfold Fl.nanS at hN;simp only [Bool.and_eq_true,beq_iff_eq,bne_iff_ne,ne_eq] at hN;unfold Fl.widenS;simp only [hN.1,if_true];omega
theorem AtR.below {P k c b o:Nat} {l:List UInt8} {it:Int} {w w':World} (h:AtR P k c b o l it w) (hb:Below w.heap.size w w'):AtR P k c b o l it w':=⟨bkp hb h.1 (lb h.1),h.2⟩
theorem special_low (P k c b o f:Nat) (l:List UInt8) (it:Int) (w:World) (hA:AtR P k c b o l it w) (hR:BR (fun b=>b≠P) w (some ⟨b,o,none⟩) l.length l) (hc:l.length≤c) (hN:l.length≤4096) (info:Nat) (hi:info < 24):
 Calls Tryz.prog 137 #[.pointer (some ⟨P,0,none⟩),.int .i64 (info:Int)] w (SpcP P c b o l it w (.ok (.mk 7 info [] []) f (l.drop k))):=by
 obtain ⟨P0,N0⟩:=an w o4z;have HA1:=dh (hA.below P0);have HR1:=dh (hR.below P0);have HB1:=dh (bob (b:=P) P0);have HN1:=dh N0;have hPl:=lb hA.1;have hRP:w.heap.size≠P:=by omega
 have HK:=dh hA.2;clear hA hR P0 N0 hPl;have hiz:(info:Int) < 24:=by omega
 have hwi:IntKind.u64.wrap (info:Int)=(info:Int):=wrap_u64 (by omega) (by omega);have HI:=dh hi;go_enter Tryz.func137,Tryz.ntmps137
 go_upto_region 1 with fail
 generalize w.alloc _=u at *;generalize hBq:w.heap.size=B at *;have r:=cf HN1.out;have q:=ff HN1.out;go_wp2_with fail
 clear r q;obtain ⟨W',hW',⟨g0,g1,g2,g3⟩,hs4,HBW⟩:=pz HN1.out HB1.out (by omega) (.int .i64 7) (.int .u64 (info:Int)) (.slice none 0 0) (.slice none 0 0);rw [hW'];clear hW';refine bodyPost_ret (v:=.tuple #[.agg #[.int .i64 7,.int .u64 (info:Int),.slice none 0 0,.slice none 0 0],.int .i64 0]) (by simp [results,Tryz.results137,go_sem,g0,g1,g2,g3]) rfl ?_;exact ⟨HBW,⟨none,0,0,none,0,0⟩,rfl,IR.flat _ _ (by have:=HI.out;omega),k,⟨(hs4.2 P (fun e=>hRP e.symm)).trans HA1.out.1,HA1.out.2⟩,rfl⟩
theorem special_sh24 (P k c b o f:Nat) (l:List UInt8) (it:Int) (w:World) (hA:AtR P k c b o l it w) (hR:BR (fun b=>b≠P) w (some ⟨b,o,none⟩) l.length l) (hc:l.length≤c) (hN:l.length≤4096) (hs:(l.drop k).length < 1):
 Calls Tryz.prog 137 #[.pointer (some ⟨P,0,none⟩),.int .i64 24] w (SpcP P c b o l it w (.err 2)):=by
 obtain ⟨P0,N0⟩:=an w o4z;have HA1:=dh (hA.below P0);have HR1:=dh (hR.below P0);have HB1:=dh (bob (b:=P) P0);have HN1:=dh N0;have hPl:=lb hA.1;have hRP:w.heap.size≠P:=by omega
 have HK:=dh hA.2;have HCn:=dh (rnumber_short P k 1 c b o l it _ HA1.out hN (by omega) (by rw [List.length_drop] at hs;exact hs));clear hA hR P0 N0 hPl hs;go_enter Tryz.func137,Tryz.ntmps137
 go_upto_region 1 with fail
 generalize w.alloc _=u at *;generalize hBq:w.heap.size=B at *;go_wp2_with fail
 refine HCn.out.mono ?_;rintro e u1 ⟨rfl,qn,hu1⟩;have HN2:Hid (u1.heap[B]?=some o4z):=dh (by rw [hu1];exact HN1.out);have HB2:Hid (But P w u1):=dh (by rw [hu1];exact HB1.out.drewN qn);clear HCn hu1;have r:=cf HN2.out;have q:=ff HN2.out;go_wp2_with fail
 clear r q;obtain ⟨W',hW',⟨g0,g1,g2,g3⟩,hs4,HBW⟩:=pz0 HN2.out HB2.out (by omega);rw [hW'];clear hW';refine bodyPost_ret (v:=.tuple #[vz,.int .i64 2]) (by simp [vz,results,Tryz.results137,go_sem,g0,g1,g2,g3]) rfl ?_;exact ⟨HBW,rfl⟩
theorem special_24 (P k c b o f:Nat) (l:List UInt8) (it:Int) (w:World) (hA:AtR P k c b o l it w) (hR:BR (fun b=>b≠P) w (some ⟨b,o,none⟩) l.length l) (hc:l.length≤c) (hN:l.length≤4096) (hs:k + 1≤l.length) (n:Nat) (hn:It.unbe ((l.drop k).take 1)=n) (hnb:n < 256 ^ 1):
 Calls Tryz.prog 137 #[.pointer (some ⟨P,0,none⟩),.int .i64 24] w (SpcP P c b o l it w (ofO (It.seven 24 n) f (l.drop (k + 1)))):=by
 obtain ⟨P0,N0⟩:=an w o4z;have HA1:=dh (hA.below P0);have HR1:=dh (hR.below P0);have HB1:=dh (bob (b:=P) P0);have HN1:=dh N0;have hPl:=lb hA.1;have hRP:w.heap.size≠P:=by omega
 have HK:=dh hA.2;have HCn:=rnumber_full P k 1 c b o l it _ HA1.out HR1.out hc hN (by omega) (by omega) hs;rw [hn] at HCn;have HCn:=dh HCn;clear hA hR P0 N0 hPl hs hn;go_enter Tryz.func137,Tryz.ntmps137
 go_upto_region 1 with fail
 generalize hwq:w.alloc o4z=u at *;generalize hBq:w.heap.size=B at *;clear hwq;go_wp2_with fail
 refine HCn.out.mono ?_;rintro e u1 ⟨rfl,hA2,hB2,hs2⟩;have HA2:=dh hA2;have HN2:=dh ((hB2.block B (lb HN1.out) hRP).trans HN1.out);have HB2:=dh (bt HB1.out hB2);clear HCn hA2 hB2 hs2;have PX:=al u1 (oc 8 (n:Int) none 0 0 none 0 0);have HX3:=dh (aw u1 (oc 8 (n:Int) none 0 0 none 0 0));have HA3:=dh (HA2.out.below PX);have HN3:=kp PX HN2;have HB3:=dh (bw HB2.out PX HB2.out.size);have HBX:Hid (B < u1.heap.size∧P < u1.heap.size):=dh ⟨lb HN2.out,lb HA2.out.1⟩;clear PX;obtain ⟨NN,hNN⟩:∃ NN:Int,NN=(n:Int):=⟨_,rfl⟩;rw [← hNN] at HX3 HA3 HN3 HB3 ⊢;have HNN:=dh hNN;clear hNN;go_upto_region 7 with fail
 generalize u1.heap.size=X at *;generalize u1.alloc _=u2 at *;have r:=cf HN3.out;have q:=ff HN3.out;by_cases h32:n < 32
 ·have hz:NN < 32:=by have:=HNN.out;omega
  have hzb:decide (NN < 32)=true:=dt hz;have hq:It.seven 24 n=none:=by unfold It.seven;rw [if_pos rfl,if_pos h32]
  have HQ:=dh hq;clear hq;go_wp2_with fail
  clear r q;obtain ⟨W',hW',⟨g0,g1,g2,g3⟩,hs4,HBW⟩:=pz0 HN3.out HB3.out (by omega);rw [hW'];clear hW';refine bodyPost_ret (v:=.tuple #[vz,.int .i64 4]) (by simp [vz,results,Tryz.results137,go_sem,g0,g1,g2,g3]) rfl ?_;rw [HQ.out];exact ⟨HBW,rfl⟩
 ·have hz:¬ NN < 32:=by have:=HNN.out;omega
  have hzb:decide (NN < 32)=false:=df hz;have hq:It.seven 24 n=some (.mk 7 n [] []):=by unfold It.seven;rw [if_pos rfl,if_neg h32]
  have HQ:=dh hq;clear hq;go_wp2_with fail
  clear r q;obtain ⟨W',hW',⟨g0,g1,g2,g3⟩,hs4,HBW⟩:=pz HN3.out HB3.out (by omega) (.int .i64 7) (.int .u64 NN) (.slice none 0 0) (.slice none 0 0);rw [hW'];clear hW';refine bodyPost_ret (v:=.tuple #[.agg #[.int .i64 7,.int .u64 NN,.slice none 0 0,.slice none 0 0],.int .i64 0]) (by simp [results,Tryz.results137,go_sem,g0,g1,g2,g3]) rfl ?_;rw [HQ.out];exact ⟨HBW,⟨none,0,0,none,0,0⟩,by rw [HNN.out];rfl,IR.flat _ _ (by omega),k + 1,⟨(hs4.2 P (fun e=>hRP e.symm)).trans HA3.out.1,HA3.out.2⟩,rfl⟩
theorem special_sh25 (P k c b o f:Nat) (l:List UInt8) (it:Int) (w:World) (hA:AtR P k c b o l it w) (hR:BR (fun b=>b≠P) w (some ⟨b,o,none⟩) l.length l) (hc:l.length≤c) (hN:l.length≤4096) (hs:(l.drop k).length < 2):
 Calls Tryz.prog 137 #[.pointer (some ⟨P,0,none⟩),.int .i64 25] w (SpcP P c b o l it w (.err 2)):=by
 obtain ⟨P0,N0⟩:=an w o4z;have HA1:=dh (hA.below P0);have HR1:=dh (hR.below P0);have HB1:=dh (bob (b:=P) P0);have HN1:=dh N0;have hPl:=lb hA.1;have hRP:w.heap.size≠P:=by omega
 have HK:=dh hA.2;have HCn:=dh (rnumber_short P k 2 c b o l it _ HA1.out hN (by omega) (by rw [List.length_drop] at hs;exact hs));clear hA hR P0 N0 hPl hs;go_enter Tryz.func137,Tryz.ntmps137
 go_upto_region 1 with fail
 generalize w.alloc _=u at *;generalize hBq:w.heap.size=B at *;go_wp2_with fail
 refine HCn.out.mono ?_;rintro e u1 ⟨rfl,qn,hu1⟩;have HN2:Hid (u1.heap[B]?=some o4z):=dh (by rw [hu1];exact HN1.out);have HB2:Hid (But P w u1):=dh (by rw [hu1];exact HB1.out.drewN qn);clear HCn hu1;have r:=cf HN2.out;have q:=ff HN2.out;go_wp2_with fail
 clear r q;obtain ⟨W',hW',⟨g0,g1,g2,g3⟩,hs4,HBW⟩:=pz0 HN2.out HB2.out (by omega);rw [hW'];clear hW';refine bodyPost_ret (v:=.tuple #[vz,.int .i64 2]) (by simp [vz,results,Tryz.results137,go_sem,g0,g1,g2,g3]) rfl ?_;exact ⟨HBW,rfl⟩
theorem special_25 (P k c b o f:Nat) (l:List UInt8) (it:Int) (w:World) (hA:AtR P k c b o l it w) (hR:BR (fun b=>b≠P) w (some ⟨b,o,none⟩) l.length l) (hc:l.length≤c) (hN:l.length≤4096) (hs:k + 2≤l.length) (n:Nat) (hn:It.unbe ((l.drop k).take 2)=n) (hnb:n < 256 ^ 2):
 Calls Tryz.prog 137 #[.pointer (some ⟨P,0,none⟩),.int .i64 25] w (SpcP P c b o l it w (ofO (It.seven 25 n) f (l.drop (k + 2)))):=by
 obtain ⟨P0,N0⟩:=an w o4z;have HA1:=dh (hA.below P0);have HR1:=dh (hR.below P0);have HB1:=dh (bob (b:=P) P0);have HN1:=dh N0;have hPl:=lb hA.1;have hRP:w.heap.size≠P:=by omega
 have HK:=dh hA.2;have HCn:=rnumber_full P k 2 c b o l it _ HA1.out HR1.out hc hN (by omega) (by omega) hs;rw [hn] at HCn;have HCn:=dh HCn;clear hA hR P0 N0 hPl hs hn;go_enter Tryz.func137,Tryz.ntmps137
 go_upto_region 1 with fail
 generalize hwq:w.alloc o4z=u at *;generalize hBq:w.heap.size=B at *;clear hwq;go_wp2_with fail
 refine HCn.out.mono ?_;rintro e u1 ⟨rfl,hA2,hB2,hs2⟩;have HA2:=dh hA2;have HN2:=dh ((hB2.block B (lb HN1.out) hRP).trans HN1.out);have HB2:=dh (bt HB1.out hB2);clear HCn hA2 hB2 hs2;have PX:=al u1 (oc 8 (n:Int) none 0 0 none 0 0);have HX3:=dh (aw u1 (oc 8 (n:Int) none 0 0 none 0 0));have HA3:=dh (HA2.out.below PX);have HN3:=kp PX HN2;have HB3:=dh (bw HB2.out PX HB2.out.size);have HBX:Hid (B < u1.heap.size∧P < u1.heap.size):=dh ⟨lb HN2.out,lb HA2.out.1⟩;clear PX;obtain ⟨NN,hNN⟩:∃ NN:Int,NN=(n:Int):=⟨_,rfl⟩;rw [← hNN] at HX3 HA3 HN3 HB3 ⊢;have HNN:=dh hNN;clear hNN;clear HX3 HA3 HN3 HB3;have hfb:Fl.widenH n < 18446744073709551616:=widenH_lt (by omega);obtain ⟨v,hv⟩:∃ v:Nat,v=Fl.widenH n:=⟨_,rfl⟩;have hsv:It.seven 25 n=It.sevenF v 2:=by rw [hv];rfl
 rw [← hv] at hfb;obtain ⟨VV,hVV⟩:∃ VV:Int,VV=(v:Int):=⟨_,rfl⟩;have HVV:=dh hVV;have HSV:=dh hsv;have HFB:=dh hfb;have HCW:Hid (∀ W,Calls Tryz.prog 120 #[.int .u64 NN,.int .i64 5,.int .i64 10] W fun e w'=>e=.returned (.int .u64 VV)∧W=w'):=dh fun W=>by rw [hVV,hv];exact widenH_any n NN HNN.out (by omega) W
 have PX:=al u1 (oc 8 VV none 0 0 none 0 0);have HX3:=dh (aw u1 (oc 8 VV none 0 0 none 0 0));have HA3:=dh (HA2.out.below PX);have HN3:=kp PX HN2;have HB3:=dh (bw HB2.out PX HB2.out.size);clear hsv hfb hVV hv PX;go_wp2_with fail
 refine (HCW.out _).mono ?_;rintro e w2 ⟨rfl,rfl⟩;clear HCW;go_upto_region 15 with fail
 generalize u1.heap.size=X at *;generalize u1.alloc _=u2 at *;have x:=cf HX3.out;cases hNan:Fl.isNaN v with
 | true=>
   have HCN:=dh (isnan_yes (N:=VV) HVV.out HFB.out hNan u2);by_cases hnn:v=Fl.nan
   ·have HNN9:Hid (¬ (Fl.isNaN v=true∧v≠Fl.nan)):=dh fun h=>h.2 hnn
    have hv9:(VV !=9221120237041090560)=false:=by have:=HVV.out;have h2:Fl.nan=9221120237041090560:=rfl;simp;omega
    clear hNan hnn;go_wp2_with fail
    refine HCN.out.mono ?_;rintro e w9 ⟨rfl,rfl⟩;clear HCN;have HCF:=dh (rfloat_any v VV HVV.out HFB.out u2);go_wp2_with fail
    refine HCF.out.mono ?_;rintro e u3 h3;obtain ⟨a9,c9,rfl,z1,z2,z3,z4,B3⟩:=h3.open;have HN4:=kp B3 HN3;have HX4:=kp B3 HX3;have HA4:=dh (HA3.out.below B3);have HB4:=dh (bw HB3.out B3 HB3.out.size);clear HCF h3 z1 z2 z3 z4 B3 x;have x:=cf HX4.out;have r:=cf HN4.out;have q:=ff HN4.out;obtain ⟨ln,hln⟩:∃ ln,ln=(It.flt v).length:=⟨_,rfl⟩;rw [← hln];have HLN:=dh hln;clear hln;by_cases h9:ln=3
    ·have hzb:((ln:Int) !=3)=false:=by simp;omega
     have hzc:¬ ln≠3:=fun e=>e h9
     have hq:It.seven 25 n=some (.mk 8 v [] []):=by
      rw [HSV.out];unfold It.sevenF;rw [if_neg];rintro (h | h)
      ·exact HNN9.out h
      ·exact h (by rw [← HLN.out,h9])
     have HQ:=dh hq;clear hq;subst h9;go_wp2_with fail
     clear r q x;obtain ⟨W',hW',⟨g0,g1,g2,g3⟩,hs4,HBW⟩:=pz HN4.out HB4.out (by omega) (.int .i64 8) (.int .u64 VV) (.slice none 0 0) (.slice none 0 0);rw [hW'];clear hW';refine bodyPost_ret (v:=.tuple #[.agg #[.int .i64 8,.int .u64 VV,.slice none 0 0,.slice none 0 0],.int .i64 0]) (by simp [results,Tryz.results137,go_sem,g0,g1,g2,g3]) rfl ?_;rw [HQ.out];exact ⟨HBW,⟨none,0,0,none,0,0⟩,by rw [HVV.out];rfl,IR.flat _ _ HFB.out,k + 2,⟨(hs4.2 P (fun e=>hRP e.symm)).trans HA4.out.1,HA4.out.2⟩,rfl⟩
    ·have hzb:((ln:Int) !=3)=true:=by simp;omega
     have hq:It.seven 25 n=none:=by
      rw [HSV.out];unfold It.sevenF;rw [if_pos (.inr (by rw [← HLN.out];exact h9))]
     have HQ:=dh hq;clear hq;go_wp2_with fail
     clear r q x;obtain ⟨W',hW',⟨g0,g1,g2,g3⟩,hs4,HBW⟩:=pz0 HN4.out HB4.out (by omega);rw [hW'];clear hW';refine bodyPost_ret (v:=.tuple #[vz,.int .i64 4]) (by simp [vz,results,Tryz.results137,go_sem,g0,g1,g2,g3]) rfl ?_;rw [HQ.out];exact ⟨HBW,rfl⟩
   ·have hv9:(VV !=9221120237041090560)=true:=by have:=HVV.out;have h2:Fl.nan=9221120237041090560:=rfl;simp;omega
    have hq:It.seven 25 n=none:=by
     rw [HSV.out];unfold It.sevenF;rw [if_pos (.inl ⟨hNan,hnn⟩)]
    have HQ:=dh hq;clear hq hnn hNan;have r:=cf HN3.out;have q:=ff HN3.out;go_wp2_with fail
    refine HCN.out.mono ?_;rintro e w9 ⟨rfl,rfl⟩;clear HCN;go_wp2_with fail
    clear r q x;obtain ⟨W',hW',⟨g0,g1,g2,g3⟩,hs4,HBW⟩:=pz0 HN3.out HB3.out (by omega);rw [hW'];clear hW';refine bodyPost_ret (v:=.tuple #[vz,.int .i64 4]) (by simp [vz,results,Tryz.results137,go_sem,g0,g1,g2,g3]) rfl ?_;rw [HQ.out];exact ⟨HBW,rfl⟩
 | false=>
   have HCN:=dh (isnan_no (N:=VV) HVV.out HFB.out hNan u2);have HNN9:Hid (¬ (Fl.isNaN v=true∧v≠Fl.nan)):=dh fun h=>by rw [hNan] at h;cases h.1
   clear hNan;go_wp2_with fail
   refine HCN.out.mono ?_;rintro e w9 ⟨rfl,rfl⟩;clear HCN;have HCF:=dh (rfloat_any v VV HVV.out HFB.out u2);go_wp2_with fail
   refine HCF.out.mono ?_;rintro e u3 h3;obtain ⟨a9,c9,rfl,z1,z2,z3,z4,B3⟩:=h3.open;have HN4:=kp B3 HN3;have HX4:=kp B3 HX3;have HA4:=dh (HA3.out.below B3);have HB4:=dh (bw HB3.out B3 HB3.out.size);clear HCF h3 z1 z2 z3 z4 B3 x;have x:=cf HX4.out;have r:=cf HN4.out;have q:=ff HN4.out;obtain ⟨ln,hln⟩:∃ ln,ln=(It.flt v).length:=⟨_,rfl⟩;rw [← hln];have HLN:=dh hln;clear hln;by_cases h9:ln=3
   ·have hzb:((ln:Int) !=3)=false:=by simp;omega
    have hzc:¬ ln≠3:=fun e=>e h9
    have hq:It.seven 25 n=some (.mk 8 v [] []):=by
     rw [HSV.out];unfold It.sevenF;rw [if_neg];rintro (h | h)
     ·exact HNN9.out h
     ·exact h (by rw [← HLN.out,h9])
    have HQ:=dh hq;clear hq;subst h9;go_wp2_with fail
    clear r q x;obtain ⟨W',hW',⟨g0,g1,g2,g3⟩,hs4,HBW⟩:=pz HN4.out HB4.out (by omega) (.int .i64 8) (.int .u64 VV) (.slice none 0 0) (.slice none 0 0);rw [hW'];clear hW';refine bodyPost_ret (v:=.tuple #[.agg #[.int .i64 8,.int .u64 VV,.slice none 0 0,.slice none 0 0],.int .i64 0]) (by simp [results,Tryz.results137,go_sem,g0,g1,g2,g3]) rfl ?_;rw [HQ.out];exact ⟨HBW,⟨none,0,0,none,0,0⟩,by rw [HVV.out];rfl,IR.flat _ _ HFB.out,k + 2,⟨(hs4.2 P (fun e=>hRP e.symm)).trans HA4.out.1,HA4.out.2⟩,rfl⟩
   ·have hzb:((ln:Int) !=3)=true:=by simp;omega
    have hq:It.seven 25 n=none:=by
     rw [HSV.out];unfold It.sevenF;rw [if_pos (.inr (by rw [← HLN.out];exact h9))]
    have HQ:=dh hq;clear hq;go_wp2_with fail
    clear r q x;obtain ⟨W',hW',⟨g0,g1,g2,g3⟩,hs4,HBW⟩:=pz0 HN4.out HB4.out (by omega);rw [hW'];clear hW';refine bodyPost_ret (v:=.tuple #[vz,.int .i64 4]) (by simp [vz,results,Tryz.results137,go_sem,g0,g1,g2,g3]) rfl ?_;rw [HQ.out];exact ⟨HBW,rfl⟩
theorem special_sh26 (P k c b o f:Nat) (l:List UInt8) (it:Int) (w:World) (hA:AtR P k c b o l it w) (hR:BR (fun b=>b≠P) w (some ⟨b,o,none⟩) l.length l) (hc:l.length≤c) (hN:l.length≤4096) (hs:(l.drop k).length < 4):
 Calls Tryz.prog 137 #[.pointer (some ⟨P,0,none⟩),.int .i64 26] w (SpcP P c b o l it w (.err 2)):=by
 obtain ⟨P0,N0⟩:=an w o4z;have HA1:=dh (hA.below P0);have HR1:=dh (hR.below P0);have HB1:=dh (bob (b:=P) P0);have HN1:=dh N0;have hPl:=lb hA.1;have hRP:w.heap.size≠P:=by omega
 have HK:=dh hA.2;have HCn:=dh (rnumber_short P k 4 c b o l it _ HA1.out hN (by omega) (by rw [List.length_drop] at hs;exact hs));clear hA hR P0 N0 hPl hs;go_enter Tryz.func137,Tryz.ntmps137
 go_upto_region 1 with fail
 generalize w.alloc _=u at *;generalize hBq:w.heap.size=B at *;go_wp2_with fail
 refine HCn.out.mono ?_;rintro e u1 ⟨rfl,qn,hu1⟩;have HN2:Hid (u1.heap[B]?=some o4z):=dh (by rw [hu1];exact HN1.out);have HB2:Hid (But P w u1):=dh (by rw [hu1];exact HB1.out.drewN qn);clear HCn hu1;have r:=cf HN2.out;have q:=ff HN2.out;go_wp2_with fail
 clear r q;obtain ⟨W',hW',⟨g0,g1,g2,g3⟩,hs4,HBW⟩:=pz0 HN2.out HB2.out (by omega);rw [hW'];clear hW';refine bodyPost_ret (v:=.tuple #[vz,.int .i64 2]) (by simp [vz,results,Tryz.results137,go_sem,g0,g1,g2,g3]) rfl ?_;exact ⟨HBW,rfl⟩
theorem special_26 (P k c b o f:Nat) (l:List UInt8) (it:Int) (w:World) (hA:AtR P k c b o l it w) (hR:BR (fun b=>b≠P) w (some ⟨b,o,none⟩) l.length l) (hc:l.length≤c) (hN:l.length≤4096) (hs:k + 4≤l.length) (n:Nat) (hn:It.unbe ((l.drop k).take 4)=n) (hnb:n < 256 ^ 4):
 Calls Tryz.prog 137 #[.pointer (some ⟨P,0,none⟩),.int .i64 26] w (SpcP P c b o l it w (ofO (It.seven 26 n) f (l.drop (k + 4)))):=by
 obtain ⟨P0,N0⟩:=an w o4z;have HA1:=dh (hA.below P0);have HR1:=dh (hR.below P0);have HB1:=dh (bob (b:=P) P0);have HN1:=dh N0;have hPl:=lb hA.1;have hRP:w.heap.size≠P:=by omega
 have HK:=dh hA.2;have HCn:=rnumber_full P k 4 c b o l it _ HA1.out HR1.out hc hN (by omega) (by omega) hs;rw [hn] at HCn;have HCn:=dh HCn;clear hA hR P0 N0 hPl hs hn;go_enter Tryz.func137,Tryz.ntmps137
 go_upto_region 1 with fail
 generalize hwq:w.alloc o4z=u at *;generalize hBq:w.heap.size=B at *;clear hwq;go_wp2_with fail
 refine HCn.out.mono ?_;rintro e u1 ⟨rfl,hA2,hB2,hs2⟩;have HA2:=dh hA2;have HN2:=dh ((hB2.block B (lb HN1.out) hRP).trans HN1.out);have HB2:=dh (bt HB1.out hB2);clear HCn hA2 hB2 hs2;have PX:=al u1 (oc 8 (n:Int) none 0 0 none 0 0);have HX3:=dh (aw u1 (oc 8 (n:Int) none 0 0 none 0 0));have HA3:=dh (HA2.out.below PX);have HN3:=kp PX HN2;have HB3:=dh (bw HB2.out PX HB2.out.size);have HBX:Hid (B < u1.heap.size∧P < u1.heap.size):=dh ⟨lb HN2.out,lb HA2.out.1⟩;clear PX;obtain ⟨NN,hNN⟩:∃ NN:Int,NN=(n:Int):=⟨_,rfl⟩;rw [← hNN] at HX3 HA3 HN3 HB3 ⊢;have HNN:=dh hNN;clear hNN;clear HX3 HA3 HN3 HB3;have hfb:Fl.widenS n < 18446744073709551616:=widenS_lt (by omega);obtain ⟨v,hv⟩:∃ v:Nat,v=Fl.widenS n:=⟨_,rfl⟩;have hsv:It.seven 26 n=It.sevenF v 4:=by rw [hv];rfl
 rw [← hv] at hfb;obtain ⟨VV,hVV⟩:∃ VV:Int,VV=(v:Int):=⟨_,rfl⟩;have HVV:=dh hVV;have HSV:=dh hsv;have HFB:=dh hfb;have HCW:Hid (∀ W,Calls Tryz.prog 120 #[.int .u64 NN,.int .i64 8,.int .i64 23] W fun e w'=>e=.returned (.int .u64 VV)∧W=w'):=dh fun W=>by rw [hVV,hv];exact widenS_any n NN HNN.out (by omega) W
 have PX:=al u1 (oc 8 VV none 0 0 none 0 0);have HX3:=dh (aw u1 (oc 8 VV none 0 0 none 0 0));have HA3:=dh (HA2.out.below PX);have HN3:=kp PX HN2;have HB3:=dh (bw HB2.out PX HB2.out.size);clear hsv hfb hVV hv PX;go_wp2_with fail
 refine (HCW.out _).mono ?_;rintro e w2 ⟨rfl,rfl⟩;clear HCW;go_upto_region 15 with fail
 generalize u1.heap.size=X at *;generalize u1.alloc _=u2 at *;have x:=cf HX3.out;cases hNan:Fl.isNaN v with
 | true=>
   have HCN:=dh (isnan_yes (N:=VV) HVV.out HFB.out hNan u2);by_cases hnn:v=Fl.nan
   ·have HNN9:Hid (¬ (Fl.isNaN v=true∧v≠Fl.nan)):=dh fun h=>h.2 hnn
    have hv9:(VV !=9221120237041090560)=false:=by have:=HVV.out;have h2:Fl.nan=9221120237041090560:=rfl;simp;omega
    clear hNan hnn;go_wp2_with fail
    refine HCN.out.mono ?_;rintro e w9 ⟨rfl,rfl⟩;clear HCN;have HCF:=dh (rfloat_any v VV HVV.out HFB.out u2);go_wp2_with fail
    refine HCF.out.mono ?_;rintro e u3 h3;obtain ⟨a9,c9,rfl,z1,z2,z3,z4,B3⟩:=h3.open;have HN4:=kp B3 HN3;have HX4:=kp B3 HX3;have HA4:=dh (HA3.out.below B3);have HB4:=dh (bw HB3.out B3 HB3.out.size);clear HCF h3 z1 z2 z3 z4 B3 x;have x:=cf HX4.out;have r:=cf HN4.out;have q:=ff HN4.out;obtain ⟨ln,hln⟩:∃ ln,ln=(It.flt v).length:=⟨_,rfl⟩;rw [← hln];have HLN:=dh hln;clear hln;by_cases h9:ln=5
    ·have hzb:((ln:Int) !=5)=false:=by simp;omega
     have hzc:¬ ln≠5:=fun e=>e h9
     have hq:It.seven 26 n=some (.mk 8 v [] []):=by
      rw [HSV.out];unfold It.sevenF;rw [if_neg];rintro (h | h)
      ·exact HNN9.out h
      ·exact h (by rw [← HLN.out,h9])
     have HQ:=dh hq;clear hq;subst h9;go_wp2_with fail
     clear r q x;obtain ⟨W',hW',⟨g0,g1,g2,g3⟩,hs4,HBW⟩:=pz HN4.out HB4.out (by omega) (.int .i64 8) (.int .u64 VV) (.slice none 0 0) (.slice none 0 0);rw [hW'];clear hW';refine bodyPost_ret (v:=.tuple #[.agg #[.int .i64 8,.int .u64 VV,.slice none 0 0,.slice none 0 0],.int .i64 0]) (by simp [results,Tryz.results137,go_sem,g0,g1,g2,g3]) rfl ?_;rw [HQ.out];exact ⟨HBW,⟨none,0,0,none,0,0⟩,by rw [HVV.out];rfl,IR.flat _ _ HFB.out,k + 4,⟨(hs4.2 P (fun e=>hRP e.symm)).trans HA4.out.1,HA4.out.2⟩,rfl⟩
    ·have hzb:((ln:Int) !=5)=true:=by simp;omega
     have hq:It.seven 26 n=none:=by
      rw [HSV.out];unfold It.sevenF;rw [if_pos (.inr (by rw [← HLN.out];exact h9))]
     have HQ:=dh hq;clear hq;go_wp2_with fail
     clear r q x;obtain ⟨W',hW',⟨g0,g1,g2,g3⟩,hs4,HBW⟩:=pz0 HN4.out HB4.out (by omega);rw [hW'];clear hW';refine bodyPost_ret (v:=.tuple #[vz,.int .i64 4]) (by simp [vz,results,Tryz.results137,go_sem,g0,g1,g2,g3]) rfl ?_;rw [HQ.out];exact ⟨HBW,rfl⟩
   ·have hv9:(VV !=9221120237041090560)=true:=by have:=HVV.out;have h2:Fl.nan=9221120237041090560:=rfl;simp;omega
    have hq:It.seven 26 n=none:=by
     rw [HSV.out];unfold It.sevenF;rw [if_pos (.inl ⟨hNan,hnn⟩)]
    have HQ:=dh hq;clear hq hnn hNan;have r:=cf HN3.out;have q:=ff HN3.out;go_wp2_with fail
    refine HCN.out.mono ?_;rintro e w9 ⟨rfl,rfl⟩;clear HCN;go_wp2_with fail
    clear r q x;obtain ⟨W',hW',⟨g0,g1,g2,g3⟩,hs4,HBW⟩:=pz0 HN3.out HB3.out (by omega);rw [hW'];clear hW';refine bodyPost_ret (v:=.tuple #[vz,.int .i64 4]) (by simp [vz,results,Tryz.results137,go_sem,g0,g1,g2,g3]) rfl ?_;rw [HQ.out];exact ⟨HBW,rfl⟩
 | false=>
   have HCN:=dh (isnan_no (N:=VV) HVV.out HFB.out hNan u2);have HNN9:Hid (¬ (Fl.isNaN v=true∧v≠Fl.nan)):=dh fun h=>by rw [hNan] at h;cases h.1
   clear hNan;go_wp2_with fail
   refine HCN.out.mono ?_;rintro e w9 ⟨rfl,rfl⟩;clear HCN;have HCF:=dh (rfloat_any v VV HVV.out HFB.out u2);go_wp2_with fail
   refine HCF.out.mono ?_;rintro e u3 h3;obtain ⟨a9,c9,rfl,z1,z2,z3,z4,B3⟩:=h3.open;have HN4:=kp B3 HN3;have HX4:=kp B3 HX3;have HA4:=dh (HA3.out.below B3);have HB4:=dh (bw HB3.out B3 HB3.out.size);clear HCF h3 z1 z2 z3 z4 B3 x;have x:=cf HX4.out;have r:=cf HN4.out;have q:=ff HN4.out;obtain ⟨ln,hln⟩:∃ ln,ln=(It.flt v).length:=⟨_,rfl⟩;rw [← hln];have HLN:=dh hln;clear hln;by_cases h9:ln=5
   ·have hzb:((ln:Int) !=5)=false:=by simp;omega
    have hzc:¬ ln≠5:=fun e=>e h9
    have hq:It.seven 26 n=some (.mk 8 v [] []):=by
     rw [HSV.out];unfold It.sevenF;rw [if_neg];rintro (h | h)
     ·exact HNN9.out h
     ·exact h (by rw [← HLN.out,h9])
    have HQ:=dh hq;clear hq;subst h9;go_wp2_with fail
    clear r q x;obtain ⟨W',hW',⟨g0,g1,g2,g3⟩,hs4,HBW⟩:=pz HN4.out HB4.out (by omega) (.int .i64 8) (.int .u64 VV) (.slice none 0 0) (.slice none 0 0);rw [hW'];clear hW';refine bodyPost_ret (v:=.tuple #[.agg #[.int .i64 8,.int .u64 VV,.slice none 0 0,.slice none 0 0],.int .i64 0]) (by simp [results,Tryz.results137,go_sem,g0,g1,g2,g3]) rfl ?_;rw [HQ.out];exact ⟨HBW,⟨none,0,0,none,0,0⟩,by rw [HVV.out];rfl,IR.flat _ _ HFB.out,k + 4,⟨(hs4.2 P (fun e=>hRP e.symm)).trans HA4.out.1,HA4.out.2⟩,rfl⟩
   ·have hzb:((ln:Int) !=5)=true:=by simp;omega
    have hq:It.seven 26 n=none:=by
     rw [HSV.out];unfold It.sevenF;rw [if_pos (.inr (by rw [← HLN.out];exact h9))]
    have HQ:=dh hq;clear hq;go_wp2_with fail
    clear r q x;obtain ⟨W',hW',⟨g0,g1,g2,g3⟩,hs4,HBW⟩:=pz0 HN4.out HB4.out (by omega);rw [hW'];clear hW';refine bodyPost_ret (v:=.tuple #[vz,.int .i64 4]) (by simp [vz,results,Tryz.results137,go_sem,g0,g1,g2,g3]) rfl ?_;rw [HQ.out];exact ⟨HBW,rfl⟩
theorem special_sh27 (P k c b o f:Nat) (l:List UInt8) (it:Int) (w:World) (hA:AtR P k c b o l it w) (hR:BR (fun b=>b≠P) w (some ⟨b,o,none⟩) l.length l) (hc:l.length≤c) (hN:l.length≤4096) (hs:(l.drop k).length < 8):
 Calls Tryz.prog 137 #[.pointer (some ⟨P,0,none⟩),.int .i64 27] w (SpcP P c b o l it w (.err 2)):=by
 obtain ⟨P0,N0⟩:=an w o4z;have HA1:=dh (hA.below P0);have HR1:=dh (hR.below P0);have HB1:=dh (bob (b:=P) P0);have HN1:=dh N0;have hPl:=lb hA.1;have hRP:w.heap.size≠P:=by omega
 have HK:=dh hA.2;have HCn:=dh (rnumber_short P k 8 c b o l it _ HA1.out hN (by omega) (by rw [List.length_drop] at hs;exact hs));clear hA hR P0 N0 hPl hs;go_enter Tryz.func137,Tryz.ntmps137
 go_upto_region 1 with fail
 generalize w.alloc _=u at *;generalize hBq:w.heap.size=B at *;go_wp2_with fail
 refine HCn.out.mono ?_;rintro e u1 ⟨rfl,qn,hu1⟩;have HN2:Hid (u1.heap[B]?=some o4z):=dh (by rw [hu1];exact HN1.out);have HB2:Hid (But P w u1):=dh (by rw [hu1];exact HB1.out.drewN qn);clear HCn hu1;have r:=cf HN2.out;have q:=ff HN2.out;go_wp2_with fail
 clear r q;obtain ⟨W',hW',⟨g0,g1,g2,g3⟩,hs4,HBW⟩:=pz0 HN2.out HB2.out (by omega);rw [hW'];clear hW';refine bodyPost_ret (v:=.tuple #[vz,.int .i64 2]) (by simp [vz,results,Tryz.results137,go_sem,g0,g1,g2,g3]) rfl ?_;exact ⟨HBW,rfl⟩
theorem special_27 (P k c b o f:Nat) (l:List UInt8) (it:Int) (w:World) (hA:AtR P k c b o l it w) (hR:BR (fun b=>b≠P) w (some ⟨b,o,none⟩) l.length l) (hc:l.length≤c) (hN:l.length≤4096) (hs:k + 8≤l.length) (n:Nat) (hn:It.unbe ((l.drop k).take 8)=n) (hnb:n < 256 ^ 8):
 Calls Tryz.prog 137 #[.pointer (some ⟨P,0,none⟩),.int .i64 27] w (SpcP P c b o l it w (ofO (It.seven 27 n) f (l.drop (k + 8)))):=by
 obtain ⟨P0,N0⟩:=an w o4z;have HA1:=dh (hA.below P0);have HR1:=dh (hR.below P0);have HB1:=dh (bob (b:=P) P0);have HN1:=dh N0;have hPl:=lb hA.1;have hRP:w.heap.size≠P:=by omega
 have HK:=dh hA.2;have HCn:=rnumber_full P k 8 c b o l it _ HA1.out HR1.out hc hN (by omega) (by omega) hs;rw [hn] at HCn;have HCn:=dh HCn;clear hA hR P0 N0 hPl hs hn;go_enter Tryz.func137,Tryz.ntmps137
 go_upto_region 1 with fail
 generalize hwq:w.alloc o4z=u at *;generalize hBq:w.heap.size=B at *;clear hwq;go_wp2_with fail
 refine HCn.out.mono ?_;rintro e u1 ⟨rfl,hA2,hB2,hs2⟩;have HA2:=dh hA2;have HN2:=dh ((hB2.block B (lb HN1.out) hRP).trans HN1.out);have HB2:=dh (bt HB1.out hB2);clear HCn hA2 hB2 hs2;have PX:=al u1 (oc 8 (n:Int) none 0 0 none 0 0);have HX3:=dh (aw u1 (oc 8 (n:Int) none 0 0 none 0 0));have HA3:=dh (HA2.out.below PX);have HN3:=kp PX HN2;have HB3:=dh (bw HB2.out PX HB2.out.size);have HBX:Hid (B < u1.heap.size∧P < u1.heap.size):=dh ⟨lb HN2.out,lb HA2.out.1⟩;clear PX;obtain ⟨NN,hNN⟩:∃ NN:Int,NN=(n:Int):=⟨_,rfl⟩;rw [← hNN] at HX3 HA3 HN3 HB3 ⊢;have HNN:=dh hNN;clear hNN;clear HX3 HA3 HN3 HB3;have hfb:n < 18446744073709551616:=by omega
 obtain ⟨v,hv⟩:∃ v:Nat,v=n:=⟨_,rfl⟩;have hsv:It.seven 27 n=It.sevenF v 8:=by rw [hv];rfl
 rw [← hv] at hfb;obtain ⟨VV,hVV⟩:∃ VV:Int,VV=(v:Int):=⟨_,rfl⟩;have HVV:=dh hVV;have HSV:=dh hsv;have HFB:=dh hfb;have hNV:NN=VV:=by have:=HNN.out;omega
 subst hNV;have PX:=al u1 (oc 8 NN none 0 0 none 0 0);have HX3:=dh (aw u1 (oc 8 NN none 0 0 none 0 0));have HA3:=dh (HA2.out.below PX);have HN3:=kp PX HN2;have HB3:=dh (bw HB2.out PX HB2.out.size);clear hsv hfb hVV hv PX;go_upto_region 15 with fail
 generalize u1.heap.size=X at *;generalize u1.alloc _=u2 at *;have x:=cf HX3.out;cases hNan:Fl.isNaN v with
 | true=>
   have HCN:=dh (isnan_yes (N:=NN) HVV.out HFB.out hNan u2);by_cases hnn:v=Fl.nan
   ·have HNN9:Hid (¬ (Fl.isNaN v=true∧v≠Fl.nan)):=dh fun h=>h.2 hnn
    have hv9:(NN !=9221120237041090560)=false:=by have:=HVV.out;have h2:Fl.nan=9221120237041090560:=rfl;simp;omega
    clear hNan hnn;go_wp2_with fail
    refine HCN.out.mono ?_;rintro e w9 ⟨rfl,rfl⟩;clear HCN;have HCF:=dh (rfloat_any v NN HVV.out HFB.out u2);go_wp2_with fail
    refine HCF.out.mono ?_;rintro e u3 h3;obtain ⟨a9,c9,rfl,z1,z2,z3,z4,B3⟩:=h3.open;have HN4:=kp B3 HN3;have HX4:=kp B3 HX3;have HA4:=dh (HA3.out.below B3);have HB4:=dh (bw HB3.out B3 HB3.out.size);clear HCF h3 z1 z2 z3 z4 B3 x;have x:=cf HX4.out;have r:=cf HN4.out;have q:=ff HN4.out;obtain ⟨ln,hln⟩:∃ ln,ln=(It.flt v).length:=⟨_,rfl⟩;rw [← hln];have HLN:=dh hln;clear hln;by_cases h9:ln=9
    ·have hzb:((ln:Int) !=9)=false:=by simp;omega
     have hzc:¬ ln≠9:=fun e=>e h9
     have hq:It.seven 27 n=some (.mk 8 v [] []):=by
      rw [HSV.out];unfold It.sevenF;rw [if_neg];rintro (h | h)
      ·exact HNN9.out h
      ·exact h (by rw [← HLN.out,h9])
     have HQ:=dh hq;clear hq;subst h9;go_wp2_with fail
     clear r q x;obtain ⟨W',hW',⟨g0,g1,g2,g3⟩,hs4,HBW⟩:=pz HN4.out HB4.out (by omega) (.int .i64 8) (.int .u64 NN) (.slice none 0 0) (.slice none 0 0);rw [hW'];clear hW';refine bodyPost_ret (v:=.tuple #[.agg #[.int .i64 8,.int .u64 NN,.slice none 0 0,.slice none 0 0],.int .i64 0]) (by simp [results,Tryz.results137,go_sem,g0,g1,g2,g3]) rfl ?_;rw [HQ.out];exact ⟨HBW,⟨none,0,0,none,0,0⟩,by rw [HVV.out];rfl,IR.flat _ _ HFB.out,k + 8,⟨(hs4.2 P (fun e=>hRP e.symm)).trans HA4.out.1,HA4.out.2⟩,rfl⟩
    ·have hzb:((ln:Int) !=9)=true:=by simp;omega
     have hq:It.seven 27 n=none:=by
      rw [HSV.out];unfold It.sevenF;rw [if_pos (.inr (by rw [← HLN.out];exact h9))]
     have HQ:=dh hq;clear hq;go_wp2_with fail
     clear r q x;obtain ⟨W',hW',⟨g0,g1,g2,g3⟩,hs4,HBW⟩:=pz0 HN4.out HB4.out (by omega);rw [hW'];clear hW';refine bodyPost_ret (v:=.tuple #[vz,.int .i64 4]) (by simp [vz,results,Tryz.results137,go_sem,g0,g1,g2,g3]) rfl ?_;rw [HQ.out];exact ⟨HBW,rfl⟩
   ·have hv9:(NN !=9221120237041090560)=true:=by have:=HVV.out;have h2:Fl.nan=9221120237041090560:=rfl;simp;omega
    have hq:It.seven 27 n=none:=by
     rw [HSV.out];unfold It.sevenF;rw [if_pos (.inl ⟨hNan,hnn⟩)]
    have HQ:=dh hq;clear hq hnn hNan;have r:=cf HN3.out;have q:=ff HN3.out;go_wp2_with fail
    refine HCN.out.mono ?_;rintro e w9 ⟨rfl,rfl⟩;clear HCN;go_wp2_with fail
    clear r q x;obtain ⟨W',hW',⟨g0,g1,g2,g3⟩,hs4,HBW⟩:=pz0 HN3.out HB3.out (by omega);rw [hW'];clear hW';refine bodyPost_ret (v:=.tuple #[vz,.int .i64 4]) (by simp [vz,results,Tryz.results137,go_sem,g0,g1,g2,g3]) rfl ?_;rw [HQ.out];exact ⟨HBW,rfl⟩
 | false=>
   have HCN:=dh (isnan_no (N:=NN) HVV.out HFB.out hNan u2);have HNN9:Hid (¬ (Fl.isNaN v=true∧v≠Fl.nan)):=dh fun h=>by rw [hNan] at h;cases h.1
   clear hNan;go_wp2_with fail
   refine HCN.out.mono ?_;rintro e w9 ⟨rfl,rfl⟩;clear HCN;have HCF:=dh (rfloat_any v NN HVV.out HFB.out u2);go_wp2_with fail
   refine HCF.out.mono ?_;rintro e u3 h3;obtain ⟨a9,c9,rfl,z1,z2,z3,z4,B3⟩:=h3.open;have HN4:=kp B3 HN3;have HX4:=kp B3 HX3;have HA4:=dh (HA3.out.below B3);have HB4:=dh (bw HB3.out B3 HB3.out.size);clear HCF h3 z1 z2 z3 z4 B3 x;have x:=cf HX4.out;have r:=cf HN4.out;have q:=ff HN4.out;obtain ⟨ln,hln⟩:∃ ln,ln=(It.flt v).length:=⟨_,rfl⟩;rw [← hln];have HLN:=dh hln;clear hln;by_cases h9:ln=9
   ·have hzb:((ln:Int) !=9)=false:=by simp;omega
    have hzc:¬ ln≠9:=fun e=>e h9
    have hq:It.seven 27 n=some (.mk 8 v [] []):=by
     rw [HSV.out];unfold It.sevenF;rw [if_neg];rintro (h | h)
     ·exact HNN9.out h
     ·exact h (by rw [← HLN.out,h9])
    have HQ:=dh hq;clear hq;subst h9;go_wp2_with fail
    clear r q x;obtain ⟨W',hW',⟨g0,g1,g2,g3⟩,hs4,HBW⟩:=pz HN4.out HB4.out (by omega) (.int .i64 8) (.int .u64 NN) (.slice none 0 0) (.slice none 0 0);rw [hW'];clear hW';refine bodyPost_ret (v:=.tuple #[.agg #[.int .i64 8,.int .u64 NN,.slice none 0 0,.slice none 0 0],.int .i64 0]) (by simp [results,Tryz.results137,go_sem,g0,g1,g2,g3]) rfl ?_;rw [HQ.out];exact ⟨HBW,⟨none,0,0,none,0,0⟩,by rw [HVV.out];rfl,IR.flat _ _ HFB.out,k + 8,⟨(hs4.2 P (fun e=>hRP e.symm)).trans HA4.out.1,HA4.out.2⟩,rfl⟩
   ·have hzb:((ln:Int) !=9)=true:=by simp;omega
    have hq:It.seven 27 n=none:=by
     rw [HSV.out];unfold It.sevenF;rw [if_pos (.inr (by rw [← HLN.out];exact h9))]
    have HQ:=dh hq;clear hq;go_wp2_with fail
    clear r q x;obtain ⟨W',hW',⟨g0,g1,g2,g3⟩,hs4,HBW⟩:=pz0 HN4.out HB4.out (by omega);rw [hW'];clear hW';refine bodyPost_ret (v:=.tuple #[vz,.int .i64 4]) (by simp [vz,results,Tryz.results137,go_sem,g0,g1,g2,g3]) rfl ?_;rw [HQ.out];exact ⟨HBW,rfl⟩
theorem special_any (P k c b o f:Nat) (l:List UInt8) (it:Int) (w:World) (hA:AtR P k c b o l it w) (hR:BR (fun b=>b≠P) w (some ⟨b,o,none⟩) l.length l) (hc:l.length≤c) (hN:l.length≤4096) (info:Nat) (hi:info≤27):
 Calls Tryz.prog 137 #[.pointer (some ⟨P,0,none⟩),.int .i64 (info:Int)] w (SpcP P c b o l it w (It.spec info f (l.drop k))):=by
 have hk:=hA.2;by_cases h24:info < 24
 ·unfold It.spec;rw [if_pos h24];exact special_low P k c b o f l it w hA hR hc hN info h24
 rcases (show info=24∨info=25∨info=26∨info=27 by omega) with rfl | rfl | rfl | rfl
 ·unfold It.spec
  rw [if_neg h24]
  show Calls Tryz.prog 137 #[.pointer (some ⟨P,0,none⟩),.int .i64 24] w (SpcP P c b o l it w (if (l.drop k).length < 1 then .err 2 else ofO (It.seven 24 (It.unbe ((l.drop k).take 1))) f ((l.drop k).drop 1)))
  by_cases hs:(l.drop k).length < 1
  ·rw [if_pos hs];exact special_sh24 P k c b o f l it w hA hR hc hN hs
  ·rw [if_neg hs,List.drop_drop]
   exact special_24 P k c b o f l it w hA hR hc hN (by rw [List.length_drop] at hs;omega) _ rfl (unbe_take_lt 1 _)
 ·unfold It.spec
  rw [if_neg h24]
  show Calls Tryz.prog 137 #[.pointer (some ⟨P,0,none⟩),.int .i64 25] w (SpcP P c b o l it w (if (l.drop k).length < 2 then .err 2 else ofO (It.seven 25 (It.unbe ((l.drop k).take 2))) f ((l.drop k).drop 2)))
  by_cases hs:(l.drop k).length < 2
  ·rw [if_pos hs];exact special_sh25 P k c b o f l it w hA hR hc hN hs
  ·rw [if_neg hs,List.drop_drop]
   exact special_25 P k c b o f l it w hA hR hc hN (by rw [List.length_drop] at hs;omega) _ rfl (unbe_take_lt 2 _)
 ·unfold It.spec
  rw [if_neg h24]
  show Calls Tryz.prog 137 #[.pointer (some ⟨P,0,none⟩),.int .i64 26] w (SpcP P c b o l it w (if (l.drop k).length < 4 then .err 2 else ofO (It.seven 26 (It.unbe ((l.drop k).take 4))) f ((l.drop k).drop 4)))
  by_cases hs:(l.drop k).length < 4
  ·rw [if_pos hs];exact special_sh26 P k c b o f l it w hA hR hc hN hs
  ·rw [if_neg hs,List.drop_drop]
   exact special_26 P k c b o f l it w hA hR hc hN (by rw [List.length_drop] at hs;omega) _ rfl (unbe_take_lt 4 _)
 ·unfold It.spec
  rw [if_neg h24]
  show Calls Tryz.prog 137 #[.pointer (some ⟨P,0,none⟩),.int .i64 27] w (SpcP P c b o l it w (if (l.drop k).length < 8 then .err 2 else ofO (It.seven 27 (It.unbe ((l.drop k).take 8))) f ((l.drop k).drop 8)))
  by_cases hs:(l.drop k).length < 8
  ·rw [if_pos hs];exact special_sh27 P k c b o f l it w hA hR hc hN hs
  ·rw [if_neg hs,List.drop_drop]
   exact special_27 P k c b o f l it w hA hR hc hN (by rw [List.length_drop] at hs;omega) _ rfl (unbe_take_lt 8 _)
def RdP (P c b o:Nat) (l:List UInt8) (w:World) (r:It.PR It) (e:Ending) (w':World):Prop:=But P w w'∧match r with
 | .err er=>NoItem er e
 | .ok x f s=>∃ A:Ad,e=.returned (.tuple #[.agg #[.int .i64 x.kind,.int .u64 (x.num:Int),.slice A.ab A.nb A.cb,.slice A.ai A.ni A.ci],.int .i64 0])∧IR (fun j=>w.heap.size≤j) w' x A∧∃ j,AtR P j c b o l (256 - (f:Int)) w'∧s=l.drop j
def RdC (d:Nat):Prop:=∀ (P k c b o:Nat) (l:List UInt8) (f:Nat) (it lv:Int) (w:World),AtR P k c b o l it w→BR (fun j=>j≠P) w (some ⟨b,o,none⟩) l.length l→l.length≤c→l.length≤4096→it=256 - (f:Int)→f≤256→lv=8 - (d:Int)→1 < P→Env w→
 Calls Tryz.prog 107 #[.pointer (some ⟨P,0,none⟩),.int .i64 lv] w (RdP P c b o l w (It.item d f (l.drop k)))
structure LSr (P c b o X B:Nat) (K:Int) (N:Int) (l:List UInt8) (w:World) (j f:Nat) (es:List (It × Ad)) (v:Value) (W:World):Prop where
 at_:AtR P j c b o l (256 - (f:Int)) W
 few:f + es.length≤256
 but:But P w W
 blk:W.heap[X]?=some (oc K N none 0 0 none 0 0)
 out:OutI W (X + 1) (fun q=>X + 1≤q) v es
 res:W.heap[B]?=some o4z
theorem LSr.push {P c b o X B:Nat} {K N:Int} {l:List UInt8} {w:World} {j f:Nat} {es:List (It × Ad)} {v:Value} {W W5 W6:World} (h:LSr P c b o X B K N l w j f es v W) (hPX:P < X) (hBX:B < X) (hwB:w.heap.size≤B) (hPB:P≠B) {f1 j1:Nat} (hf:f1 + 1≤f) {y:It} {A:Ad} (h5:But P W W5) (hA:AtR P j1 c b o l (256 - (f1:Int)) W5) (h6:Below W5.heap.size W5 W6) (hI:IR (fun q=>W.heap.size≤q) W6 y A):
 ∃ v' W7,(Builtin.append_ #[24,24] 24 #[v,.slice (some ⟨W6.heap.size,0,none⟩) 1 1]).run Tryz.prog (W6.alloc (o4 y A))=.ok v' W7∧LSr P c b o X B K N l w j1 f1 (es ++ [(y,A)]) v' W7∧∀ a z bs,BR (okQ (fun q=>X + 1≤q) v) W6 a z bs→BR (okQ (fun q=>X + 1≤q) v') W7 a z bs:=by
 have hXl:=lb h.blk;have hBl:=lb h.res;have h56:But P W W6:=h5.trans (bob h6);obtain ⟨hP,hN⟩:=an W6 (o4 y A);have h8:=(h.out.deck h56 (by omega) (fun q hq=>by omega)).pure hP;have hs:=h56.size;have hs5:=h5.size;have hs6:=h6.size;have hPs:=hP.size;obtain ⟨v',W7,hrun,hO,hg,hv⟩:=h8.app (news:=[(y,A)]) (c:=1) (SrcI.one hN) (fun e he=>by
  simp only [List.mem_singleton] at he;subst he;exact (hI.below hP).imp fun q hq _=>⟨by omega,fun e=>by have:=olt h.out.row e;omega⟩) (by have:=h.few;omega) (by omega)
 have hB:Below (X + 1) W6 W7:=bg (hP.mono (by omega)) (by omega) h8.row hg;refine ⟨v',W7,hrun,⟨⟨?_,hA.2⟩,by simp;have:=h.few;omega,bw (bt h.but h56) hB (by omega),?_,hO,?_⟩,fun a z bs hb=>?_⟩
 ·rw [hB.block P (by omega),h6.block P (lb hA.1)];exact hA.1
 ·exact (hB.block X (by omega)).trans ((h56.block X hXl (by omega)).trans h.blk)
 ·exact (hB.block B (by omega)).trans ((h56.block B hBl (by omega)).trans h.res)
 ·refine (hb.below hP).keep fun q hq hl=>⟨hg.block q hl fun e=>hq.2 e.symm,hq.1,fun e=>?_⟩
  rcases hv with hv | hv
  ·exact hq.2 (hv ▸ e)
  ·rw [hv] at e
   cases e
   omega
def LRr (P c b o X B:Nat) (K N:Int) (l:List UInt8) (w:World) (d m:Nat) (R:It.PR (List It)) (v i:Value) (W:World):Prop:=∃ (m' j f:Nat) (es:List (It × Ad)),i=.int .u64 (m':Int)∧m'≤m∧LSr P c b o X B K N l w j f es v W∧It.pre (es.map (·.1)) (It.seqN (It.item d) (m - m') f (l.drop j))=R
theorem relem_4 (P k c b o:Nat) (l:List UInt8) (f n:Nat) (it lv:Int) (w:World) (hA:AtR P k c b o l it w) (hR:BR (fun j=>j≠P) w (some ⟨b,o,none⟩) l.length l) (hc:l.length≤c) (hN:l.length≤4096) (hit:it=256 - (f:Int)) (hf:f≤256) (hnb:n < 18446744073709551616) (d:Nat) (hd:d < 8) (hlv:lv=7 - (d:Int)) (hPC:RdC d) (hP1:1 < P) (hE:Env w) (R:It.PR (List It)) (hR0:It.seqN (It.item d) n f (l.drop k)=R):
 Calls Tryz.prog 139 #[.pointer (some ⟨P,0,none⟩),.int .i64 4,.int .u64 (n:Int),.int .i64 lv] w (RdP P c b o l w (R.map fun x=>.mk 4 0 [] x)):=by
 have hPl:=lb hA.1;obtain ⟨NN,hNN⟩:∃ NN:Int,NN=n:=⟨_,rfl⟩;rw [← hNN];have P0:=al w o4z;have P1:=pt P0 (al (w.alloc o4z) (oc 4 0 none 0 0 none 0 0));have hs1:(w.alloc o4z).heap.size=w.heap.size + 1:=by simp
 have N1:=alloc_new' (w.alloc o4z) (oc 4 0 none 0 0 none 0 0) (w.heap.size + 1) hs1.symm;have N0:=bkp (al (w.alloc o4z) (oc 4 0 none 0 0 none 0 0)) (aw w o4z) (by omega);have hAx:=bkp P1 hA.1 hPl;have HAX:Hid (AtR P k c b o l (256 - (f:Int)) ((w.alloc o4z).alloc (oc 4 0 none 0 0 none 0 0))):=dh ⟨by rw [← hit];exact hAx,hA.2⟩;have HBX:Hid (But P w ((w.alloc o4z).alloc (oc 4 0 none 0 0 none 0 0))):=dh (bob P1);have HPX:Hid (P < w.heap.size + 1∧P≠w.heap.size):=dh ⟨by omega,by omega⟩;have HNX:=dh N0;have HX1:=dh N1;have HRW:=dh hR;have HPC:=dh hPC;have HP1:=dh hP1;have HE0:=dh hE;have HIR0:=dh hR0;obtain ⟨lw,hlw⟩:∃ lw:Int,lw=lv + 1:=⟨_,rfl⟩;have HLV:Hid (lw=8 - (d:Int)):=dh (by omega);have HNN:=dh hNN;have HNB:=dh hnb;have HF:=dh hf;have HS1:=dh hs1;have hwl:IntKind.i64.wrap (lv + 1)=lw:=by rw [hlw];exact IntWalk.i64_in _ (by have:=HE0;omega)
 clear hlw;clear hPl P0 P1 hs1 N1 N0 hAx hA hR hPC hP1 hE hR0 hlv hNN hnb hf hit;go_enter Tryz.func139,Tryz.ntmps139
 go_upto_region 11 with fail
 try rw [HS1.out]
 go_loopw [12,14] (fun q i W=>LRr P c b o (w.heap.size + 1) w.heap.size 4 0 l w d n R q i W) (fun _ i _=>n - (intOf i).toNat)
 case atStart=>exact ⟨0,k,f,[],rfl,Nat.zero_le _,⟨HAX.out,by have:=HF.out;simp;omega,HBX.out,HX1.out,OutI.nil _ _ _,HNX.out⟩,(It.pre_nil _).trans HIR0.out⟩
 case round=>
  obtain ⟨m',j,f',es,rfl,hml,hLS,hRR⟩:=hrel;have HLS:=dh hLS;have HML:=dh hml;clear HAX HBX HNX HX1 HS1 HF HIR0;have HXN:Hid (P < w.heap.size + 1∧w.heap.size < w.heap.size + 1∧w.heap.size≤w.heap.size∧P≠w.heap.size):=dh ⟨HPX.out.1,by omega,Nat.le_refl _,HPX.out.2⟩;generalize hXq:w.heap.size + 1=X at *;clear hml hLS hXq;by_cases hm:(m':Int) < NN
  ·obtain ⟨g,hg⟩:∃ g,n - m'=g + 1:=⟨n - m' - 1,by have:=HNN.out;omega⟩
   have hwm:IntKind.u64.wrap ((m':Int) + 1)=((m' + 1:Nat):Int):=by have:=HNB.out;have:=HNN.out;show _ % 18446744073709551616=_;omega
   rw [hg] at hRR;have HG:Hid (n - (m' + 1)=g∧m' + 1≤n):=dh (by have:=HNN.out;omega);have HRR:=dh hRR;have HCa:=dh (HPC.out P j c b o l f' _ lw wr HLS.out.at_ (HRW.out.sep HLS.out.but) hc hN rfl (by have:=HLS.out.few;omega) HLV.out HP1.out (But.env HE0.out HLS.out.but HP1.out));clear hg hRR;go_wp2_with fail
   refine HCa.out.mono ?_;rintro e v ⟨hB9,h9⟩;have HB9:=dh hB9;have HNV:=dh ((hB9.block w.heap.size (lb HLS.out.res) HPX.out.2.symm).trans HLS.out.res);have HBV:Hid (But P w v):=dh (bt HLS.out.but hB9);clear hB9 HCa;cases hr3:It.item d f' (l.drop j) with
   | err er=>
     rw [hr3] at h9;obtain rfl:=h9;have hRe:=It.seqN_err (n:=g) hr3 (es.map (·.1));rw [HRR.out] at hRe;have HRE:=dh hRe;clear hRe;have her:er≠0:=It.item_errs _ _ _ _ hr3;have he:¬ (er:Int)=0:=by omega
     have heb:((er:Int) !=0)=true:=by simpa using he
     have hen:¬ er=0:=her;have HD9:=dh (al v o4z);have HNZ:=kp HD9.out HNV;have HBZ:Hid (But P w (v.alloc o4z)):=dh (bw HBV.out HD9.out HBV.out.size);have r:=cf HNZ.out;obtain ⟨q0,q1,q2,q3⟩:=ff HNZ.out;go_wp2_with fail
     clear r q0 q1 q2 q3;obtain ⟨W',hW',⟨g0,g1,g2,g3⟩,hs4,HBW⟩:=pz0 HNZ.out HBZ.out (by omega);rw [hW'];clear hW';refine bodyPost_ret (v:=.tuple #[vz,.int .i64 (er:Int)]) (by simp [vz,results,Tryz.results139,go_sem,g0,g1,g2,g3]) rfl ?_;rw [HRE.out];exact ⟨HBW,rfl⟩
   | ok y f1 s1=>
     rw [hr3] at h9;obtain ⟨A,rfl,hIR,j1,hA1,hs1⟩:=h9;subst hs1;have hff:=(It.item_takes hr3).2.1;have P6:=al v (o4 y A);have HY6:=dh (aw v (o4 y A));obtain ⟨v7,W7,hrun,hLS7,hkb7⟩:=HLS.out.push HXN.out.1 HXN.out.2.1 HXN.out.2.2.1 HXN.out.2.2.2 hff HB9.out hA1 P6 ((hIR.imp fun q hq _=>hq).below P6);have hsz:(v.alloc (o4 y A)).heap.size=v.heap.size + 1:=by simp
     rw [hsz] at hrun;have HR:=dh hrun;have HLS7:=dh hLS7;have hRe:=It.seqN_ok (n:=g) hr3 (es.map (·.1));rw [HRR.out] at hRe;have HRE:=dh hRe;clear hRe hff P6 hrun hLS7 hA1 hIR hsz hkb7;obtain ⟨y0,y1,y2,y3⟩:=cf HY6.out;go_wp2_with (at_builtin;refine wj rfl _ _ 24 rfl rfl rfl HR.out ?_;clear HR)
     go_roundw
     case rel=>exact ⟨m' + 1,j1,f1,_,by go_num,HG.out.2,HLS7.out,by rw [HG.out.1,List.map_append];exact HRE.out.symm⟩
     case measure=>have:=HG.out;simp [intOf];omega
  ·have hmn:m'=n:=by have:=HNN.out;have:=HML.out;omega
   have hRf:=hRR;rw [hmn,Nat.sub_self,It.seqN_zero] at hRf;have HRR:=dh hRf;clear hRR hRf hmn;obtain ⟨la,lc,rfl⟩:=og HLS.out.out.row;obtain ⟨hTL,_,hlc,hlcm⟩:=HLS.out.out.tl';generalize hL:es.length=L at *;have hne:∀ q,q≠X→(wr.setCell ⟨X,3,none⟩ (.slice la L lc)).heap[q]?=wr.heap[q]?:=fun q hq=>Below.heap_setCell _ _ _ _ hq
   have hI4:IR (fun q=>X + 1≤q) (wr.setCell ⟨X,3,none⟩ (.slice la L lc)) (.mk 4 0 [] (es.map (·.1))) ⟨none,0,0,la,L,lc⟩:=IR_iff.2 ⟨by show 0 < _;omega,⟨BR.nil _ _ _,by simp,by simp⟩,hTL.keep fun q hq _=>⟨hne q (by rcases hq with h | h <;> omega),by rcases hq with h | h <;> exact h⟩,hlc,hlcm⟩
   have HI4:=dh hI4;have hX4:=sar HLS.out.blk 3 (.slice la L lc);simp at hX4;have HX4:=dh hX4;have HR4:=dh ((hne w.heap.size (by have:=HXN.out;omega)).trans HLS.out.res);have HB4:Hid (But P w (wr.setCell ⟨X,3,none⟩ (.slice la L lc))):=dh (HLS.out.but.setNew (p:=⟨X,3,none⟩) (by have:=HXN.out;show w.heap.size≤X;omega) _);have HA4:Hid (AtR P j c b o l (256 - (f':Int)) (wr.setCell ⟨X,3,none⟩ (.slice la L lc))):=dh ⟨(hne P (by have:=HXN.out;omega)).trans HLS.out.at_.1,HLS.out.at_.2⟩;obtain ⟨x0,x1,x2,x3⟩:=cf HLS.out.blk;obtain ⟨p0,p1,p2,p3⟩:=ff HLS.out.blk;clear hI4 hTL hL hne hX4;go_upto_region 25 with fail
   clear x0 x1 x2 x3 p0 p1 p2 p3;generalize wr.setCell ⟨X,3,none⟩ (.slice la L lc)=w8 at *;obtain ⟨x0,x1,x2,x3⟩:=cf HX4.out;have r:=cf HR4.out;obtain ⟨q0,q1,q2,q3⟩:=ff HR4.out;go_wp2_with fail
   clear r q0 q1 q2 q3 x0 x1 x2 x3;obtain ⟨W',hW',⟨g0,g1,g2,g3⟩,hs4,HBW⟩:=pz HR4.out HB4.out (by omega) (.int .i64 4) (.int .u64 0) (.slice none 0 0) (.slice la L lc);rw [hW'];clear hW';refine bodyPost_ret (v:=.tuple #[.agg #[.int .i64 4,.int .u64 0,.slice none 0 0,.slice la L lc],.int .i64 0]) (by simp [results,Tryz.results139,go_sem,g0,g1,g2,g3]) rfl ?_;have hzz:=HXN.out;rw [← HRR.out];refine ⟨HBW,⟨none,0,0,la,L,lc⟩,rfl,HI4.out.keep (fun q hq _=>⟨hs4.2 q (by have h1:X + 1≤q:=hq;omega),by have h1:X + 1≤q:=hq;show w.heap.size≤q;omega⟩),j,⟨(hs4.2 P hzz.2.2.2).trans HA4.out.1,HA4.out.2⟩,rfl⟩
theorem relem_6 (P k c b o:Nat) (l:List UInt8) (f n:Nat) (it lv:Int) (w:World) (hA:AtR P k c b o l it w) (hR:BR (fun j=>j≠P) w (some ⟨b,o,none⟩) l.length l) (hc:l.length≤c) (hN:l.length≤4096) (hit:it=256 - (f:Int)) (hf:f≤256) (hnb:n < 18446744073709551616) (d:Nat) (hd:d < 8) (hlv:lv=7 - (d:Int)) (hPC:RdC d) (hP1:1 < P) (hE:Env w) (R:It.PR (List It)) (hR0:It.seqN (It.item d) 1 f (l.drop k)=R):
 Calls Tryz.prog 139 #[.pointer (some ⟨P,0,none⟩),.int .i64 6,.int .u64 (n:Int),.int .i64 lv] w (RdP P c b o l w (R.map fun x=>.mk 6 n [] x)):=by
 have hPl:=lb hA.1;obtain ⟨NN,hNN⟩:∃ NN:Int,NN=n:=⟨_,rfl⟩;rw [← hNN];have P0:=al w o4z;have P1:=pt P0 (al (w.alloc o4z) (oc 6 NN none 0 0 none 0 0));have hs1:(w.alloc o4z).heap.size=w.heap.size + 1:=by simp
 have N1:=alloc_new' (w.alloc o4z) (oc 6 NN none 0 0 none 0 0) (w.heap.size + 1) hs1.symm;have N0:=bkp (al (w.alloc o4z) (oc 6 NN none 0 0 none 0 0)) (aw w o4z) (by omega);have hAx:=bkp P1 hA.1 hPl;have HAX:Hid (AtR P k c b o l (256 - (f:Int)) ((w.alloc o4z).alloc (oc 6 NN none 0 0 none 0 0))):=dh ⟨by rw [← hit];exact hAx,hA.2⟩;have HBX:Hid (But P w ((w.alloc o4z).alloc (oc 6 NN none 0 0 none 0 0))):=dh (bob P1);have HPX:Hid (P < w.heap.size + 1∧P≠w.heap.size):=dh ⟨by omega,by omega⟩;have HNX:=dh N0;have HX1:=dh N1;have HRW:=dh hR;have HPC:=dh hPC;have HP1:=dh hP1;have HE0:=dh hE;have HIR0:=dh hR0;obtain ⟨lw,hlw⟩:∃ lw:Int,lw=lv + 1:=⟨_,rfl⟩;have HLV:Hid (lw=8 - (d:Int)):=dh (by omega);have HNN:=dh hNN;have HNB:=dh hnb;have HF:=dh hf;have HS1:=dh hs1;have hwl:IntKind.i64.wrap (lv + 1)=lw:=by rw [hlw];exact IntWalk.i64_in _ (by have:=HE0;omega)
 clear hlw;clear hPl P0 P1 hs1 N1 N0 hAx hA hR hPC hP1 hE hR0 hlv hNN hnb hf hit;go_enter Tryz.func139,Tryz.ntmps139
 go_upto_region 11 with fail
 try rw [HS1.out]
 go_loopw [12,14] (fun q i W=>LRr P c b o (w.heap.size + 1) w.heap.size 6 NN l w d 1 R q i W) (fun _ i _=>1 - (intOf i).toNat)
 case atStart=>exact ⟨0,k,f,[],rfl,Nat.zero_le _,⟨HAX.out,by have:=HF.out;simp;omega,HBX.out,HX1.out,OutI.nil _ _ _,HNX.out⟩,(It.pre_nil _).trans HIR0.out⟩
 case round=>
  obtain ⟨m',j,f',es,rfl,hml,hLS,hRR⟩:=hrel;have HLS:=dh hLS;have HML:=dh hml;clear HAX HBX HNX HX1 HS1 HF HIR0;have HXN:Hid (P < w.heap.size + 1∧w.heap.size < w.heap.size + 1∧w.heap.size≤w.heap.size∧P≠w.heap.size):=dh ⟨HPX.out.1,by omega,Nat.le_refl _,HPX.out.2⟩;generalize hXq:w.heap.size + 1=X at *;clear hml hLS hXq;by_cases hm:(m':Int) < 1
  ·obtain ⟨g,hg⟩:∃ g,1 - m'=g + 1:=⟨1 - m' - 1,by have:=HNN.out;omega⟩
   have hwm:IntKind.u64.wrap ((m':Int) + 1)=((m' + 1:Nat):Int):=by have:=HNB.out;have:=HNN.out;show _ % 18446744073709551616=_;omega
   rw [hg] at hRR;have HG:Hid (1 - (m' + 1)=g∧m' + 1≤1):=dh (by have:=HNN.out;omega);have HRR:=dh hRR;have HCa:=dh (HPC.out P j c b o l f' _ lw wr HLS.out.at_ (HRW.out.sep HLS.out.but) hc hN rfl (by have:=HLS.out.few;omega) HLV.out HP1.out (But.env HE0.out HLS.out.but HP1.out));clear hg hRR;go_wp2_with fail
   refine HCa.out.mono ?_;rintro e v ⟨hB9,h9⟩;have HB9:=dh hB9;have HNV:=dh ((hB9.block w.heap.size (lb HLS.out.res) HPX.out.2.symm).trans HLS.out.res);have HBV:Hid (But P w v):=dh (bt HLS.out.but hB9);clear hB9 HCa;cases hr3:It.item d f' (l.drop j) with
   | err er=>
     rw [hr3] at h9;obtain rfl:=h9;have hRe:=It.seqN_err (n:=g) hr3 (es.map (·.1));rw [HRR.out] at hRe;have HRE:=dh hRe;clear hRe;have her:er≠0:=It.item_errs _ _ _ _ hr3;have he:¬ (er:Int)=0:=by omega
     have heb:((er:Int) !=0)=true:=by simpa using he
     have hen:¬ er=0:=her;have HD9:=dh (al v o4z);have HNZ:=kp HD9.out HNV;have HBZ:Hid (But P w (v.alloc o4z)):=dh (bw HBV.out HD9.out HBV.out.size);have r:=cf HNZ.out;obtain ⟨q0,q1,q2,q3⟩:=ff HNZ.out;go_wp2_with fail
     clear r q0 q1 q2 q3;obtain ⟨W',hW',⟨g0,g1,g2,g3⟩,hs4,HBW⟩:=pz0 HNZ.out HBZ.out (by omega);rw [hW'];clear hW';refine bodyPost_ret (v:=.tuple #[vz,.int .i64 (er:Int)]) (by simp [vz,results,Tryz.results139,go_sem,g0,g1,g2,g3]) rfl ?_;rw [HRE.out];exact ⟨HBW,rfl⟩
   | ok y f1 s1=>
     rw [hr3] at h9;obtain ⟨A,rfl,hIR,j1,hA1,hs1⟩:=h9;subst hs1;have hff:=(It.item_takes hr3).2.1;have P6:=al v (o4 y A);have HY6:=dh (aw v (o4 y A));obtain ⟨v7,W7,hrun,hLS7,hkb7⟩:=HLS.out.push HXN.out.1 HXN.out.2.1 HXN.out.2.2.1 HXN.out.2.2.2 hff HB9.out hA1 P6 ((hIR.imp fun q hq _=>hq).below P6);have hsz:(v.alloc (o4 y A)).heap.size=v.heap.size + 1:=by simp
     rw [hsz] at hrun;have HR:=dh hrun;have HLS7:=dh hLS7;have hRe:=It.seqN_ok (n:=g) hr3 (es.map (·.1));rw [HRR.out] at hRe;have HRE:=dh hRe;clear hRe hff P6 hrun hLS7 hA1 hIR hsz hkb7;obtain ⟨y0,y1,y2,y3⟩:=cf HY6.out;go_wp2_with (at_builtin;refine wj rfl _ _ 24 rfl rfl rfl HR.out ?_;clear HR)
     go_roundw
     case rel=>exact ⟨m' + 1,j1,f1,_,by go_num,HG.out.2,HLS7.out,by rw [HG.out.1,List.map_append];exact HRE.out.symm⟩
     case measure=>have:=HG.out;simp [intOf];omega
  ·have hmn:m'=1:=by have:=HNN.out;have:=HML.out;omega
   have hRf:=hRR;rw [hmn,Nat.sub_self,It.seqN_zero] at hRf;have HRR:=dh hRf;clear hRR hRf hmn;obtain ⟨la,lc,rfl⟩:=og HLS.out.out.row;obtain ⟨hTL,_,hlc,hlcm⟩:=HLS.out.out.tl';generalize hL:es.length=L at *;have hne:∀ q,q≠X→(wr.setCell ⟨X,3,none⟩ (.slice la L lc)).heap[q]?=wr.heap[q]?:=fun q hq=>Below.heap_setCell _ _ _ _ hq
   have hI4:IR (fun q=>X + 1≤q) (wr.setCell ⟨X,3,none⟩ (.slice la L lc)) (.mk 6 n [] (es.map (·.1))) ⟨none,0,0,la,L,lc⟩:=IR_iff.2 ⟨HNB.out,⟨BR.nil _ _ _,by simp,by simp⟩,hTL.keep fun q hq _=>⟨hne q (by rcases hq with h | h <;> omega),by rcases hq with h | h <;> exact h⟩,hlc,hlcm⟩
   have HI4:=dh hI4;have hX4:=sar HLS.out.blk 3 (.slice la L lc);simp at hX4;have HX4:=dh hX4;have HR4:=dh ((hne w.heap.size (by have:=HXN.out;omega)).trans HLS.out.res);have HB4:Hid (But P w (wr.setCell ⟨X,3,none⟩ (.slice la L lc))):=dh (HLS.out.but.setNew (p:=⟨X,3,none⟩) (by have:=HXN.out;show w.heap.size≤X;omega) _);have HA4:Hid (AtR P j c b o l (256 - (f':Int)) (wr.setCell ⟨X,3,none⟩ (.slice la L lc))):=dh ⟨(hne P (by have:=HXN.out;omega)).trans HLS.out.at_.1,HLS.out.at_.2⟩;obtain ⟨x0,x1,x2,x3⟩:=cf HLS.out.blk;obtain ⟨p0,p1,p2,p3⟩:=ff HLS.out.blk;clear hI4 hTL hL hne hX4;go_upto_region 25 with fail
   clear x0 x1 x2 x3 p0 p1 p2 p3;generalize wr.setCell ⟨X,3,none⟩ (.slice la L lc)=w8 at *;obtain ⟨x0,x1,x2,x3⟩:=cf HX4.out;have r:=cf HR4.out;obtain ⟨q0,q1,q2,q3⟩:=ff HR4.out;go_wp2_with fail
   clear r q0 q1 q2 q3 x0 x1 x2 x3;obtain ⟨W',hW',⟨g0,g1,g2,g3⟩,hs4,HBW⟩:=pz HR4.out HB4.out (by omega) (.int .i64 6) (.int .u64 NN) (.slice none 0 0) (.slice la L lc);rw [hW'];clear hW';refine bodyPost_ret (v:=.tuple #[.agg #[.int .i64 6,.int .u64 NN,.slice none 0 0,.slice la L lc],.int .i64 0]) (by simp [results,Tryz.results139,go_sem,g0,g1,g2,g3]) rfl ?_;have hzz:=HXN.out;rw [← HRR.out];refine ⟨HBW,⟨none,0,0,la,L,lc⟩,by rw [HNN.out];rfl,HI4.out.keep (fun q hq _=>⟨hs4.2 q (by have h1:X + 1≤q:=hq;omega),by have h1:X + 1≤q:=hq;show w.heap.size≤q;omega⟩),j,⟨(hs4.2 P hzz.2.2.2).trans HA4.out.1,HA4.out.2⟩,rfl⟩
def KeyR (X:Nat) (v:Value) (W:World) (last:Option (List UInt8)) (v13:Value):Prop:=∀ q,last=some q→∃ a z c,v13=.slice a z c∧BR (okQ (fun q=>X + 1≤q) v) W a z q
def LR5 (P c b o X B:Nat) (l:List UInt8) (w:World) (d m:Nat) (R:It.PR (List It)) (v v13 i:Value) (W:World):Prop:=∃ (g j f I:Nat) (es:List (It × Ad)),i=.int .u64 (I:Int)∧LSr P c b o X B 5 0 l w j f es v W∧
 ((I=2 * g∧g≤m∧∃ last:Option (List UInt8),KeyR X v W last v13∧(g=0↔last=none)∧It.pre (es.map (·.1)) (It.prsN (It.item d) last (m - g) f (l.drop j))=R)∨
  (I=2 * g + 1∧g < m∧∃ key:List UInt8,KeyR X v W (some key) v13∧It.pre (es.map (·.1)) (It.prsO (It.item d) key (m - g - 1) f (l.drop j))=R))
theorem LSr.sep {P c b o X B:Nat} {K N:Int} {l:List UInt8} {w:World} {j f:Nat} {es:List (It × Ad)} {v:Value} {W W6:World} (h:LSr P c b o X B K N l w j f es v W) (hPX:P < X) (hB:But P W W6) {a:Option Addr} {z:Nat} {q:List UInt8} (hq:BR (okQ (fun q=>X + 1≤q) v) W a z q):BR (okQ (fun q=>X + 1≤q) v) W6 a z q:=
 hq.keep fun g hg hl=>⟨hB.block g hl (by have:=hg.1;omega),hg⟩
theorem relem_5 (P k c b o:Nat) (l:List UInt8) (f n:Nat) (it lv:Int) (w:World) (hA:AtR P k c b o l it w) (hR:BR (fun j=>j≠P) w (some ⟨b,o,none⟩) l.length l) (hc:l.length≤c) (hN:l.length≤4096) (hit:it=256 - (f:Int)) (hf:f≤256) (hnb:n < 18446744073709551616) (d:Nat) (hd:d < 8) (hlv:lv=7 - (d:Int)) (hPC:RdC d) (hP1:1 < P) (hE:Env w) (R:It.PR (List It)) (hR0:It.prsN (It.item d) none n f (l.drop k)=R):
 Calls Tryz.prog 139 #[.pointer (some ⟨P,0,none⟩),.int .i64 5,.int .u64 (n:Int),.int .i64 lv] w (RdP P c b o l w (R.map fun x=>.mk 5 0 [] x)):=by
 obtain ⟨m,hm0⟩:∃ m,m=min n 4294967296:=⟨_,rfl⟩;have hR0:It.prsN (It.item d) none m f (l.drop k)=R:=by
  rw [← hR0];by_cases h:n≤4294967296
  ·rw [hm0,Nat.min_eq_left h]
  ·exact It.prsN_far (fun f s y f1 s1 h=>(It.item_takes h).2.1) f m n none _ (by omega) (by omega)
 have hPl:=lb hA.1;obtain ⟨NN,hNN⟩:∃ NN:Int,NN=n:=⟨_,rfl⟩;rw [← hNN];have P0:=al w o4z;have P1:=pt P0 (al (w.alloc o4z) (oc 5 0 none 0 0 none 0 0));have hs1:(w.alloc o4z).heap.size=w.heap.size + 1:=by simp
 have N1:=alloc_new' (w.alloc o4z) (oc 5 0 none 0 0 none 0 0) (w.heap.size + 1) hs1.symm;have N0:=bkp (al (w.alloc o4z) (oc 5 0 none 0 0 none 0 0)) (aw w o4z) (by omega);have hAx:=bkp P1 hA.1 hPl;have HAX:Hid (AtR P k c b o l (256 - (f:Int)) ((w.alloc o4z).alloc (oc 5 0 none 0 0 none 0 0))):=dh ⟨by rw [← hit];exact hAx,hA.2⟩;have HBX:Hid (But P w ((w.alloc o4z).alloc (oc 5 0 none 0 0 none 0 0))):=dh (bob P1);have HPX:Hid (P < w.heap.size + 1∧P≠w.heap.size):=dh ⟨by omega,by omega⟩;have HNX:=dh N0;have HX1:=dh N1;have HRW:=dh hR;have HPC:=dh hPC;have HP1:=dh hP1;have HE0:=dh hE;have HIR0:=dh hR0;obtain ⟨lw,hlw⟩:∃ lw:Int,lw=lv + 1:=⟨_,rfl⟩;have HLV:Hid (lw=8 - (d:Int)):=dh (by omega);have HNN:=dh hNN;have HNB:=dh hnb;have HF:=dh hf;have HS1:=dh hs1;obtain ⟨MM,hMM⟩:∃ MM:Int,MM=(m:Int):=⟨_,rfl⟩;have hmin:min NN 4294967296=MM:=by omega
 obtain ⟨CC,hCC⟩:∃ CC:Int,CC=2 * MM:=⟨_,rfl⟩;have hwc:IntKind.u64.wrap (2 * MM)=CC:=by rw [hCC];show _ % 18446744073709551616=_;omega
 have HCC:Hid (CC=2 * (m:Int)∧m≤4294967296):=dh (by omega);have hwl:IntKind.i64.wrap (lv + 1)=lw:=by rw [hlw];exact IntWalk.i64_in _ (by omega)
 clear hlw hm0 hMM hCC;clear hPl P0 P1 hs1 N1 N0 hAx hA hR hPC hP1 hE hR0 hlv hNN hnb hf hit;go_enter Tryz.func139,Tryz.ntmps139
 go_upto_region 11 with fail
 try rw [HS1.out]
 clear hmin hwc;go_loopw [12,13,14] (fun q v13 i W=>LR5 P c b o (w.heap.size + 1) w.heap.size l w d m R q v13 i W) (fun _ _ i _=>2 * m - (intOf i).toNat)
 case atStart=>exact ⟨0,k,f,0,[],rfl,⟨HAX.out,by have:=HF.out;simp;omega,HBX.out,HX1.out,OutI.nil _ _ _,HNX.out⟩,.inl ⟨rfl,Nat.zero_le _,none,fun q h=>by (cases h),by simp,(It.pre_nil _).trans HIR0.out⟩⟩
 case round=>
  obtain ⟨g,j,f',I,es,rfl,hLS,hcase⟩:=hrel;have HLS:=dh hLS;clear HAX HBX HNX HX1 HS1 HF HIR0;have HXN:Hid (P < w.heap.size + 1∧w.heap.size < w.heap.size + 1∧w.heap.size≤w.heap.size∧P≠w.heap.size):=dh ⟨HPX.out.1,by omega,Nat.le_refl _,HPX.out.2⟩;generalize hXq:w.heap.size + 1=X at *;obtain ⟨vv,hvv⟩:∃ vv,vv=u12:=⟨_,rfl⟩;subst hvv;clear hLS hXq;rcases hcase with ⟨hI,hgm,last,hKR,hGL,hRR⟩ | ⟨hI,hgm,key,hKR,hRR⟩
  ·by_cases hm:g < m
   ·have hmz:(I:Int) < CC:=by have:=HCC.out;omega
    have hrem:(I:Int) % 2=0:=by omega
    have hwm:IntKind.u64.wrap ((I:Int) + 1)=((I + 1:Nat):Int):=by have:=HCC.out;show _ % 18446744073709551616=_;omega
    obtain ⟨g1,hg1⟩:∃ g1,m - g=g1 + 1:=⟨m - g - 1,by omega⟩;rw [hg1] at hRR;have HG:Hid (m - g - 1=g1):=dh (by omega);have HRR:=dh hRR;have HI:=dh (And.intro hI hm);have HKR:=dh hKR;have HGL:=dh hGL;have HCa:=dh (HPC.out P j c b o l f' _ lw wr HLS.out.at_ (HRW.out.sep HLS.out.but) hc hN rfl (by have:=HLS.out.few;omega) HLV.out HP1.out (But.env HE0.out HLS.out.but HP1.out));clear hg1 hRR hI hm hgm hKR hGL;go_wp2_with fail
    refine HCa.out.mono ?_;rintro e v ⟨hB9,h9⟩;have HB9:=dh hB9;have HNV:=dh ((hB9.block w.heap.size (lb HLS.out.res) HPX.out.2.symm).trans HLS.out.res);have HBV:Hid (But P w v):=dh (bt HLS.out.but hB9);clear hB9 HCa;cases hr3:It.item d f' (l.drop j) with
    | err er=>
      rw [hr3] at h9;obtain rfl:=h9;have hRe:=It.prsN_err (n:=g1) (last:=last) hr3 (es.map (·.1));rw [HRR.out] at hRe;have HRE:=dh hRe;clear hRe;have her:er≠0:=It.item_errs _ _ _ _ hr3;have he:¬ (er:Int)=0:=by omega
      have heb:((er:Int) !=0)=true:=by simpa using he
      have hen:¬ er=0:=her;have HD9:=dh (al v o4z);have HNZ:=kp HD9.out HNV;have HBZ:Hid (But P w (v.alloc o4z)):=dh (bw HBV.out HD9.out HBV.out.size);have r:=cf HNZ.out;obtain ⟨q0,q1,q2,q3⟩:=ff HNZ.out;go_wp2_with fail
      clear r q0 q1 q2 q3;obtain ⟨W',hW',⟨g0,g1,g2,g3⟩,hs4,HBW⟩:=pz0 HNZ.out HBZ.out (by omega);rw [hW'];clear hW';refine bodyPost_ret (v:=.tuple #[vz,.int .i64 (er:Int)]) (by simp [vz,results,Tryz.results139,go_sem,g0,g1,g2,g3]) rfl ?_;rw [HRE.out];exact ⟨HBW,rfl⟩
    | ok y f1 s1=>
      rw [hr3] at h9;obtain ⟨A,rfl,hIR,j1,hA1,hs1⟩:=h9;subst hs1;have hff:=(It.item_takes hr3).2.1;have P6:=al v (o4 y A);have HY6:=dh (aw v (o4 y A));have HFF:=dh hff;have HA1:=dh hA1;have HIR:=dh hIR;have hke:=key_at hr3 hA1.2;have HKE:=dh hke.2.2.2;have hRe:=It.prsN_ok (n:=g1) (last:=last) hr3 (es.map (·.1));rw [HRR.out,hke.2.2.1,hke.2.2.2] at hRe;have HRE:=dh hRe;have hIR6:=hIR.below P6;have hlen:(It.enc y).length≤1000000000:=by rw [← hke.2.2.2,List.length_take,List.length_drop];omega
      have HCr:=dh (raw_any d y A (v.alloc (o4 y A)) _ (It.item_sound d f' _ y f1 _ hr3).2.1 hIR6 hlen);have HP6:=dh P6;clear hff hA1 hIR hke hRe hIR6 hlen P6 HRR;obtain ⟨y0,y1,y2,y3⟩:=cf HY6.out;go_wp2_with fail
      refine HCr.out.mono ?_;rintro e w9 h99;obtain ⟨a9,c9,rfl,z1,hBk,z3,z4,B9⟩:=h99.open;obtain ⟨n9,hn9⟩:∃ n9,n9=(It.enc y).length:=⟨_,rfl⟩;rw [← hn9] at hBk ⊢;have HV9:=dh (show Below v.heap.size v w9 from pt HP6.out B9);have HY9:=kp B9 HY6;have HKY:Hid (BR (okQ (fun q=>X + 1≤q) vv) w9 a9 n9 (It.enc y)):=dh (hBk.imp fun q hq _=>by
       have h1:=HB9.out.size;have h2:=HP6.out.size;have h3:=lb HLS.out.blk;have h4:(v.alloc (o4 y A)).heap.size≤q:=hq;exact ⟨by omega,fun e=>by have:=(olt HLS.out.out.row e).1;omega⟩)
      have HN9:=kp HV9.out HNV;have HB19:=dh (bw HBV.out HV9.out HBV.out.size);clear h99 z1 hBk z3 z4 hn9 HCr HP6 HY6 B9 y0 y1 y2 y3;cases hl:last with
      | none=>
        subst hl;have hg0:g=0:=HGL.out.2 rfl;have hI0:¬ (0:Int) < (I:Int):=by have:=HI.out;omega
        have hI0b:decide ((0:Int) < (I:Int))=false:=df hI0;have hI0c:I=0:=by have:=HI.out;omega
        have HRF:=HRE.out;rw [if_neg (by show ¬ (1:Int)=0;decide),if_neg (by show ¬ (1:Int) < 0;decide)] at HRF;have HRF:=dh HRF.symm;obtain ⟨w10,hw10⟩:∃ w10,w10=w9:=⟨_,rfl⟩;subst hw10;have HD10:=dh (Below.refl w10.heap.size w10);clear hg0 HRE;have HI0:=dh hI0c;clear hI0c;have HB10:=dh (show Below v.heap.size v w10 from HV9.out.trans (HD10.out.mono HV9.out.size));have HY10:=kp HD10.out HY9;have HK10:=dh (HKY.out.below HD10.out);obtain ⟨v7,W7,hrun,hLS7,hkb7⟩:=HLS.out.push HXN.out.1 HXN.out.2.1 HXN.out.2.2.1 HXN.out.2.2.2 HFF.out HB9.out HA1.out HB10.out ((HIR.out.imp fun q hq _=>hq).below HB10.out);have HR:=dh hrun;have HLS7:=dh hLS7;have HKB7:=dh hkb7;clear hrun hLS7 hkb7;obtain ⟨y0,y1,y2,y3⟩:=cf HY10.out;go_wp2_with (at_builtin;refine wj rfl _ _ 24 rfl rfl rfl HR.out ?_;clear HR)
        go_roundw
        case rel=>exact ⟨g,j1,f1,I + 1,_,by go_num,HLS7.out,.inr ⟨by rw [HI.out.1],HI.out.2,It.enc y,fun q hq=>by cases hq;exact ⟨_,_,_,rfl,HKB7.out _ _ _ HK10.out⟩,by rw [List.map_append,HG.out];exact HRF.out⟩⟩
        case measure=>have:=HI.out;simp [intOf];omega
      | some q=>
        subst hl;obtain ⟨a8,z8,c8,e8,hB8⟩:=HKR.out q rfl;subst e8;have hg0:0 < g:=by
         rcases Nat.eq_zero_or_pos g with h | h
         ·have:=HGL.out.1 h;cases this
         ·exact h
        have hI0:(0:Int) < (I:Int):=by have:=HI.out;omega
        have hI0b:decide ((0:Int) < (I:Int))=true:=dt hI0;have hLst:BR (okQ (fun q=>X + 1≤q) vv) w9 a8 z8 q:=HLS.out.sep HXN.out.1 (HB9.out.trans (bob HV9.out)) hB8;obtain ⟨R0,hR0'⟩:∃ R0,It.cmpB q (It.enc y)=R0:=⟨_,rfl⟩;have HCc:Hid (∀ k9,Calls Tryz.prog 95 #[.slice a8 z8 c8,.slice a9 n9 c9] (w9.drewN k9) fun e w'=>e=.returned (.int .i64 R0)∧∃ q',w'=(w9.drewN k9).drewN q'):=dh fun k9=>rcompare_any (hLst.below (bd (Below.refl _ _) k9)) (HKY.out.below (bd (Below.refl _ _) k9)) R0 hR0'
        have hsw:=It.cmpB_swap q (It.enc y);rw [hR0'] at hsw;have HSW:=dh hsw;have HC0:Hid (Calls Tryz.prog 95 #[.slice a8 z8 c8,.slice a9 n9 c9] w9 fun e w'=>e=.returned (.int .i64 R0)∧∃ q',w'=w9.drewN q'):=dh (rcompare_any hLst HKY.out R0 hR0');clear hB8 hg0 hLst hR0' hsw;go_wp2_with fail
        refine HC0.out.mono ?_;rintro e w11 ⟨rfl,k1,hw11⟩;have HN11:Hid (w11.heap[w.heap.size]?=some o4z):=dh (by rw [hw11];exact HN9.out);have HB11:Hid (But P w w11):=dh (by rw [hw11];exact HB19.out.drewN k1);have HD11:Hid (Below w9.heap.size w9 w11):=dh (by rw [hw11];exact bd (Below.refl _ _) k1);have HC1:Hid (Calls Tryz.prog 95 #[.slice a8 z8 c8,.slice a9 n9 c9] w11 fun e w'=>e=.returned (.int .i64 R0)∧∃ q',w'=w11.drewN q'):=dh (by rw [hw11];exact HCc.out k1);clear HC0 HCc hw11;by_cases hz0:R0=0
        ·have hz0b:(R0==0)=true:=by simpa using hz0
         have hRX:R=.err 7:=by rw [HRE.out,if_pos (by show It.cmpB (It.enc y) q=0;rw [HSW.out];omega)]
         have HRX:=dh hRX;clear hRX;subst hz0;have r:=cf HN11.out;obtain ⟨q0,q1,q2,q3⟩:=ff HN11.out;go_wp2_with fail
         clear r q0 q1 q2 q3;obtain ⟨W',hW',⟨g0,g1,g2,g3⟩,hs4,HBW⟩:=pz0 HN11.out HB11.out (by omega);rw [hW'];clear hW';refine bodyPost_ret (v:=.tuple #[vz,.int .i64 7]) (by simp [vz,results,Tryz.results139,go_sem,g0,g1,g2,g3]) rfl ?_;rw [HRX.out];exact ⟨HBW,rfl⟩
        have hz0b:(R0==0)=false:=by simpa using hz0
        go_wp2_with fail
        refine HC1.out.mono ?_;rintro e w12 ⟨rfl,k2,hw12⟩;have HN12:Hid (w12.heap[w.heap.size]?=some o4z):=dh (by rw [hw12];exact HN11.out);have HB12:Hid (But P w w12):=dh (by rw [hw12];exact HB11.out.drewN k2);have HD10:Hid (Below w9.heap.size w9 w12):=dh (by rw [hw12];exact bd HD11.out k2);clear HC1 hw12;by_cases hzp:0 < R0
        ·have hzpb:decide (0 < R0)=true:=dt hzp
         have hRX:R=.err 6:=by rw [HRE.out,if_neg (by show ¬ It.cmpB (It.enc y) q=0;rw [HSW.out];omega),if_pos (by show It.cmpB (It.enc y) q < 0;rw [HSW.out];omega)]
         have HRX:=dh hRX;clear hRX;have r:=cf HN12.out;obtain ⟨q0,q1,q2,q3⟩:=ff HN12.out;go_wp2_with fail
         clear r q0 q1 q2 q3;obtain ⟨W',hW',⟨g0,g1,g2,g3⟩,hs4,HBW⟩:=pz0 HN12.out HB12.out (by omega);rw [hW'];clear hW';refine bodyPost_ret (v:=.tuple #[vz,.int .i64 6]) (by simp [vz,results,Tryz.results139,go_sem,g0,g1,g2,g3]) rfl ?_;rw [HRX.out];exact ⟨HBW,rfl⟩
        have hzpb:decide (0 < R0)=false:=df hzp;have HRF:=HRE.out;rw [if_neg (by show ¬ It.cmpB (It.enc y) q=0;rw [HSW.out];omega),if_neg (by show ¬ It.cmpB (It.enc y) q < 0;rw [HSW.out];omega)] at HRF;have HRF:=dh HRF.symm;obtain ⟨w10,hw10⟩:∃ w10,w10=w12:=⟨_,rfl⟩;subst hw10;have HB10:=dh (show Below v.heap.size v w10 from HV9.out.trans (HD10.out.mono HV9.out.size));have HY10:=kp HD10.out HY9;have HK10:=dh (HKY.out.below HD10.out);obtain ⟨v7,W7,hrun,hLS7,hkb7⟩:=HLS.out.push HXN.out.1 HXN.out.2.1 HXN.out.2.2.1 HXN.out.2.2.2 HFF.out HB9.out HA1.out HB10.out ((HIR.out.imp fun q hq _=>hq).below HB10.out);have HR:=dh hrun;have HLS7:=dh hLS7;have HKB7:=dh hkb7;clear hrun hLS7 hkb7;obtain ⟨y0,y1,y2,y3⟩:=cf HY10.out;go_wp2_with (at_builtin;refine wj rfl _ _ 24 rfl rfl rfl HR.out ?_;clear HR)
        go_roundw
        case rel=>exact ⟨g,j1,f1,I + 1,_,by go_num,HLS7.out,.inr ⟨by rw [HI.out.1],HI.out.2,It.enc y,fun q hq=>by cases hq;exact ⟨_,_,_,rfl,HKB7.out _ _ _ HK10.out⟩,by rw [List.map_append,HG.out];exact HRF.out⟩⟩
        case measure=>have:=HI.out;simp [intOf];omega
   ·have hmn:g=m:=by omega
    have hRf:=hRR;rw [hmn,Nat.sub_self,It.prsN_zero] at hRf;have HRR:=dh hRf;have hmz:¬ (I:Int) < CC:=by have:=HCC.out;omega
    clear hRR hRf hmn hI hm hgm hKR hGL;obtain ⟨la,lc,rfl⟩:=og HLS.out.out.row;obtain ⟨hTL,_,hlc,hlcm⟩:=HLS.out.out.tl';generalize hL:es.length=L at *;have hne:∀ q,q≠X→(wr.setCell ⟨X,3,none⟩ (.slice la L lc)).heap[q]?=wr.heap[q]?:=fun q hq=>Below.heap_setCell _ _ _ _ hq
    have hI4:IR (fun q=>X + 1≤q) (wr.setCell ⟨X,3,none⟩ (.slice la L lc)) (.mk 5 0 [] (es.map (·.1))) ⟨none,0,0,la,L,lc⟩:=IR_iff.2 ⟨by show 0 < _;omega,⟨BR.nil _ _ _,by simp,by simp⟩,hTL.keep fun q hq _=>⟨hne q (by rcases hq with h | h <;> omega),by rcases hq with h | h <;> exact h⟩,hlc,hlcm⟩
    have HI4:=dh hI4;have hX4:=sar HLS.out.blk 3 (.slice la L lc);simp at hX4;have HX4:=dh hX4;have HR4:=dh ((hne w.heap.size (by have:=HXN.out;omega)).trans HLS.out.res);have HB4:Hid (But P w (wr.setCell ⟨X,3,none⟩ (.slice la L lc))):=dh (HLS.out.but.setNew (p:=⟨X,3,none⟩) (by have:=HXN.out;show w.heap.size≤X;omega) _);have HA4:Hid (AtR P j c b o l (256 - (f':Int)) (wr.setCell ⟨X,3,none⟩ (.slice la L lc))):=dh ⟨(hne P (by have:=HXN.out;omega)).trans HLS.out.at_.1,HLS.out.at_.2⟩;obtain ⟨x0,x1,x2,x3⟩:=cf HLS.out.blk;obtain ⟨p0,p1,p2,p3⟩:=ff HLS.out.blk;clear hI4 hTL hL hne hX4;go_upto_region 25 with fail
    clear x0 x1 x2 x3 p0 p1 p2 p3;generalize wr.setCell ⟨X,3,none⟩ (.slice la L lc)=w8 at *;obtain ⟨x0,x1,x2,x3⟩:=cf HX4.out;have r:=cf HR4.out;obtain ⟨q0,q1,q2,q3⟩:=ff HR4.out;go_wp2_with fail
    clear r q0 q1 q2 q3 x0 x1 x2 x3;obtain ⟨W',hW',⟨g0,g1,g2,g3⟩,hs4,HBW⟩:=pz HR4.out HB4.out (by omega) (.int .i64 5) (.int .u64 0) (.slice none 0 0) (.slice la L lc);rw [hW'];clear hW';refine bodyPost_ret (v:=.tuple #[.agg #[.int .i64 5,.int .u64 0,.slice none 0 0,.slice la L lc],.int .i64 0]) (by simp [results,Tryz.results139,go_sem,g0,g1,g2,g3]) rfl ?_;have hzz:=HXN.out;rw [← HRR.out];refine ⟨HBW,⟨none,0,0,la,L,lc⟩,rfl,HI4.out.keep (fun q hq _=>⟨hs4.2 q (by have h1:X + 1≤q:=hq;omega),by have h1:X + 1≤q:=hq;show w.heap.size≤q;omega⟩),j,⟨(hs4.2 P hzz.2.2.2).trans HA4.out.1,HA4.out.2⟩,rfl⟩
  ·have hmz:(I:Int) < CC:=by have:=HCC.out;omega
   have hrem:(I:Int) % 2=1:=by omega
   have hwm:IntKind.u64.wrap ((I:Int) + 1)=((I + 1:Nat):Int):=by have:=HCC.out;show _ % 18446744073709551616=_;omega
   obtain ⟨g1,hg1⟩:∃ g1,g1=m - g - 1:=⟨_,rfl⟩;rw [← hg1] at hRR;have HG:Hid (m - (g + 1)=g1):=dh (by omega);have HRR:=dh hRR;have HI:=dh (And.intro hI hgm);have HKR:=dh hKR;have HCa:=dh (HPC.out P j c b o l f' _ lw wr HLS.out.at_ (HRW.out.sep HLS.out.but) hc hN rfl (by have:=HLS.out.few;omega) HLV.out HP1.out (But.env HE0.out HLS.out.but HP1.out));clear hg1 hRR hI hgm hKR;go_wp2_with fail
   refine HCa.out.mono ?_;rintro e v ⟨hB9,h9⟩;have HB9:=dh hB9;have HNV:=dh ((hB9.block w.heap.size (lb HLS.out.res) HPX.out.2.symm).trans HLS.out.res);have HBV:Hid (But P w v):=dh (bt HLS.out.but hB9);clear hB9 HCa;cases hr3:It.item d f' (l.drop j) with
   | err er=>
     rw [hr3] at h9;obtain rfl:=h9;have hRe:=It.prsO_err (key:=key) (n:=g1) hr3 (es.map (·.1));rw [HRR.out] at hRe;have HRE:=dh hRe;clear hRe;have her:er≠0:=It.item_errs _ _ _ _ hr3;have he:¬ (er:Int)=0:=by omega
     have heb:((er:Int) !=0)=true:=by simpa using he
     have hen:¬ er=0:=her;have HD9:=dh (al v o4z);have HNZ:=kp HD9.out HNV;have HBZ:Hid (But P w (v.alloc o4z)):=dh (bw HBV.out HD9.out HBV.out.size);have r:=cf HNZ.out;obtain ⟨q0,q1,q2,q3⟩:=ff HNZ.out;go_wp2_with fail
     clear r q0 q1 q2 q3;obtain ⟨W',hW',⟨g0,g1,g2,g3⟩,hs4,HBW⟩:=pz0 HNZ.out HBZ.out (by omega);rw [hW'];clear hW';refine bodyPost_ret (v:=.tuple #[vz,.int .i64 (er:Int)]) (by simp [vz,results,Tryz.results139,go_sem,g0,g1,g2,g3]) rfl ?_;rw [HRE.out];exact ⟨HBW,rfl⟩
   | ok y f1 s1=>
     rw [hr3] at h9;obtain ⟨A,rfl,hIR,j1,hA1,hs1⟩:=h9;subst hs1;have hff:=(It.item_takes hr3).2.1;have P6:=al v (o4 y A);have HY6:=dh (aw v (o4 y A));have HFF:=dh hff;have HA1:=dh hA1;have HIR:=dh hIR;have hRe:=It.prsO_ok (key:=key) (n:=g1) hr3 (es.map (·.1));rw [HRR.out] at hRe;have HRE:=dh hRe;obtain ⟨a8,z8,c8,e8,hB8⟩:=HKR.out key rfl;subst e8;have HP6:=dh P6;have HLst:=dh (HLS.out.sep HXN.out.1 (HB9.out.trans (bob P6)) hB8);obtain ⟨v7,W7,hrun,hLS7,hkb7⟩:=HLS.out.push HXN.out.1 HXN.out.2.1 HXN.out.2.2.1 HXN.out.2.2.2 HFF.out HB9.out HA1.out P6 ((HIR.out.imp fun q hq _=>hq).below P6);have hsz:(v.alloc (o4 y A)).heap.size=v.heap.size + 1:=by simp
     rw [hsz] at hrun;have HR:=dh hrun;have HLS7:=dh hLS7;have HKB7:=dh hkb7;clear hrun hLS7 hkb7;clear hff hA1 hIR hRe hB8 P6 hsz;obtain ⟨y0,y1,y2,y3⟩:=cf HY6.out;go_wp2_with (at_builtin;refine wj rfl _ _ 24 rfl rfl rfl HR.out ?_;clear HR)
     go_roundw
     case rel=>exact ⟨g + 1,j1,f1,I + 1,_,by go_num,HLS7.out,.inl ⟨by have:=HI.out;omega,HI.out.2,some key,fun q hq=>by cases hq;exact ⟨_,_,_,rfl,HKB7.out _ _ _ HLst.out⟩,by simp,by rw [List.map_append,HG.out];exact HRE.out.symm⟩⟩
     case measure=>have:=HI.out;simp [intOf];omega
