/- The reference's item. -/
import Derived.Test.YtelefkkkccilaaaGreatDoorKF
set_option maxHeartbeats 64000000
set_option linter.all false
namespace Go.Proofs.YtelefkkkccilaaaGreatDoor
open Go.RowKit
set_option maxRecDepth 100000
namespace It
theorem item_spec {d f:Nat} {c:UInt8} {s:List UInt8} (h7:c.toNat / 32=7) (hi:¬ 27 < c.toNat % 32):item d (f + 1) (c :: s)=spec (c.toNat % 32) f s:=by
 unfold spec;by_cases h24:c.toNat % 32 < 24
 ·rw [if_pos h24]
  have hr:readHead (c :: s)=.ok c.toNat (c.toNat % 32) s:=by rw [readHead,if_neg hi,if_pos h24]
  rw [item_seven hr h7];unfold seven;rw [if_neg (by omega),if_neg (by omega),if_neg (by omega),if_neg (by omega)]
  rfl
 ·rw [if_neg h24]
  by_cases hs:s.length < 2 ^ (c.toNat % 32 - 24)
  ·rw [if_pos hs]
   exact item_hd (by rw [readHead,if_neg hi,if_neg h24,if_pos hs])
  ·rw [if_neg hs]
   exact item_seven (by rw [readHead,if_neg hi,if_neg h24,if_neg hs,if_neg (by omega)]) h7
end It
def CutN (P c b o B:Nat) (l:List UInt8) (it:Int) (w:World) (s:List UInt8) (cb:Nat) (v8:Value) (wc:World):Prop:=∃ (n j:Nat) (r:List UInt8),It.readHead s=.ok cb n r∧v8=.int .u64 (n:Int)∧n < 18446744073709551616∧AtR P j c b o l it wc∧r=l.drop j∧But P w wc∧wc.heap[B]?=some (.cells #[.int .i64 0,.int .u64 0,.slice none 0 0,.slice none 0 0] 26 (0,0))
theorem ritem_full (P k c b o:Nat) (l:List UInt8) (it lv:Int) (w:World) (hA:AtR P k c b o l it w) (hR:BR (fun b=>b≠P) w (some ⟨b,o,none⟩) l.length l) (hit:it=256):
 Calls Tryz.prog 107 #[.pointer (some ⟨P,0,none⟩),.int .i64 lv] w fun e w'=>But P w w'∧NoItem 8 e:=by
 have P0:=al w o4z;have HN0:=dh (aw w o4z);have HA1:=dh (hA.below P0);have HR1:=dh (hR.below P0);have HB1:=dh (bob (b:=P) P0);have hPl:=lb hA.1;have hRP:w.heap.size≠P:=by omega
 have HRP:=dh hRP;have x2:=cr HA1.out.1 2;have f2:(w.alloc o4z).frozen? ⟨P,2,none⟩=false:=frozen_of_arr HA1.out.1 2;simp at x2;subst hit;clear hA hR P0 hPl f2;go_enter Tryz.func107,Tryz.ntmps107
 go_upto_region 1 with fail
 generalize w.alloc _=w1 at *;generalize hBq:w.heap.size=B at *;have r:=cf HN0.out;have q:=ff HN0.out;go_wp2_with fail
 clear r q;obtain ⟨W',hW',⟨g0,g1,g2,g3⟩,hs4,HBW⟩:=pz0 HN0.out HB1.out (by omega);rw [hW'];clear hW';refine bodyPost_ret (v:=.tuple #[vz,.int .i64 8]) (by simp [vz,results,Tryz.results107,go_sem,g0,g1,g2,g3]) rfl ?_;exact ⟨HBW,rfl⟩
theorem ritem_end (P k c b o f:Nat) (l:List UInt8) (it lv:Int) (w:World) (hA:AtR P k c b o l it w) (hR:BR (fun b=>b≠P) w (some ⟨b,o,none⟩) l.length l) (hc:l.length≤c) (hN:l.length≤4096) (h0:0≤it) (hit:it=255 - (f:Int)) (hk:k=l.length):
 Calls Tryz.prog 107 #[.pointer (some ⟨P,0,none⟩),.int .i64 lv] w fun e w'=>But P w w'∧NoItem 2 e:=by
 have P0:=al w o4z;have HN0:=dh (aw w o4z);have HA1:=dh (hA.below P0);have HR1:=dh (hR.below P0);have HB1:=dh (bob (b:=P) P0);have hPl:=lb hA.1;have hRP:w.heap.size≠P:=by omega
 have HRP:=dh hRP;have x2:=cr HA1.out.1 2;have f2:(w.alloc o4z).frozen? ⟨P,2,none⟩=false:=frozen_of_arr HA1.out.1 2;simp at x2;have hge:¬ (256:Int)≤it:=by omega
 have hgeb:decide ((256:Int)≤it)=false:=df hge;obtain ⟨it1,hit1⟩:∃ it1,it1=it + 1:=⟨_,rfl⟩;have hw:IntKind.i64.wrap (it + 1)=it1:=by rw [hit1];exact IntWalk.i64_in _ (by omega)
 have HIT:Hid (it1=256 - (f:Int)):=dh (by omega);obtain ⟨N,hN0⟩:∃ N,N=l.length:=⟨_,rfl⟩;have HLN:=dh hN0;clear hA hR P0 hPl hit1 hit;go_enter Tryz.func107,Tryz.ntmps107
 go_upto_region 3 with fail
 generalize w.alloc _=w1 at *;generalize hBq:w.heap.size=B at *;have HA2:Hid (AtR P k c b o l it1 (w1.setCell ⟨P,2,none⟩ (.int .i64 it1))):=dh ⟨by have:=sar HA1.out.1 2 (.int .i64 it1);simpa using this,HA1.out.2⟩;have HB2:Hid (But P w (w1.setCell ⟨P,2,none⟩ (.int .i64 it1))):=dh (HB1.out.setCell (p:=⟨P,2,none⟩) rfl _);have HN2:=dh ((Below.heap_setCell w1 ⟨P,2,none⟩ (.int .i64 it1) B hRP).trans HN0.out);have HR2:Hid (BR (fun b=>b≠P) (w1.setCell ⟨P,2,none⟩ (.int .i64 it1)) (some ⟨b,o,none⟩) l.length l):=dh (HR1.out.keep fun j hj _=>⟨Below.heap_setCell _ _ _ _ hj,hj⟩);go_upto_region 4 with fail
 clear x2 f2;generalize w1.setCell ⟨P,2,none⟩ (.int .i64 it1)=w2 at *;have x0:=cr HA2.out.1 0;have x1:=cr HA2.out.1 1;simp at x0 x1;rw [← hN0] at x0;have hkN:(N:Int)≤(k:Int):=by omega
 have hkNb:decide ((N:Int)≤(k:Int))=true:=dt hkN;have hkN2:N≤k:=by omega
 have hkNc:decide (N≤k)=true:=dt hkN2;clear hN0 hk
 go_quiet (fail)
 have HN3:Hid ((w2.drewN nq).heap[B]?=some o4z):=dh HN2.out;have HB3:=dh (HB2.out.drewN nq);clear x0 x1;generalize w2.drewN nq=w3 at *;have r:=cf HN3.out;have q:=ff HN3.out;go_wp2_with fail
 clear r q;obtain ⟨W',hW',⟨g0,g1,g2,g3⟩,hs4,HBW⟩:=pz0 HN3.out HB3.out (by omega);rw [hW'];clear hW';refine bodyPost_ret (v:=.tuple #[vz,.int .i64 2]) (by simp [vz,results,Tryz.results107,go_sem,g0,g1,g2,g3]) rfl ?_;exact ⟨HBW,rfl⟩
theorem It.item_tag1 {d f c n:Nat} {s r:List UInt8} (h:It.readHead s=.ok c n r) (hk:c / 32=6):It.item (d + 1) (f + 1) s=(It.seqN (It.item d) 1 f r).map (fun x=>It.mk 6 n [] x):=by
 rw [It.item_tag h hk];unfold It.seqN;cases It.item d f r <;> simp [It.PR.map,It.seqN]
theorem BR.of_ownB {w:World} {base n c:Nat} {a:Option Addr} {l:List UInt8} (h:OwnB w base (.slice a n c) l) (hn:n=l.length):BR (fun q=>base≤q) w a n l:=by
 obtain ⟨a',c',e,h1,h2,h3⟩:=h.br;cases e
 exact h1
theorem ritem_main (P k c b o f:Nat) (l:List UInt8) (it lv:Int) (w:World) (hA:AtR P k c b o l it w) (hR:BR (fun b=>b≠P) w (some ⟨b,o,none⟩) l.length l) (hc:l.length≤c) (hN:l.length≤4096) (h0:0≤it) (hit:it=255 - (f:Int)) (hf:f≤256) (hk:k < l.length) (d:Nat) (hd8:d≤8) (hlv:lv=8 - (d:Int)) (hPC:∀ d',d=d' + 1→RdC d') (hP1:1 < P) (hE:Env w):
 Calls Tryz.prog 107 #[.pointer (some ⟨P,0,none⟩),.int .i64 lv] w (RdP P c b o l w (It.item d (f + 1) (l.drop k))):=by
 have HRW:=dh hR;have HE0:=dh hE;have HP1:=dh hP1;have HPC:=dh hPC;have HLV:Hid (lv=8 - (d:Int)∧d≤8):=dh ⟨hlv,hd8⟩;have HF:=dh hf;have hcell:(w.alloc (.cells #[.int .i64 0,.int .u64 0,.slice none 0 0,.slice none 0 0] 26)).cell? ⟨b,o + k,none⟩=some (.int .u8 ((l[k]).toNat:Int)):=by
  obtain ⟨b',o',e,_,h⟩:=(hR.below (al w (.cells #[.int .i64 0,.int .u64 0,.slice none 0 0,.slice none 0 0] 26))).2.2 k hk;cases e;exact h
 obtain ⟨cb,hcb⟩:∃ cb,cb=l[k]:=⟨_,rfl⟩;obtain ⟨k1,hk1⟩:∃ k1,k1=k + 1:=⟨_,rfl⟩;have HD:Hid (l.drop k=cb :: l.drop k1):=dh (by rw [hcb,hk1];exact List.drop_eq_getElem_cons hk);rw [← hcb] at hcell;obtain ⟨info,hinfo⟩:∃ info,info=cb.toNat % 32:=⟨_,rfl⟩;obtain ⟨mj,hmj⟩:∃ mj,mj=cb.toNat / 32:=⟨_,rfl⟩;have hand:bits .and .u8 (cb.toNat:Int) 31=(info:Int):=by rw [hinfo];exact and31' cb
 have hcl:=cb.toNat_lt;obtain ⟨MJ,hMJ⟩:∃ MJ:Int,MJ=(mj:Int):=⟨_,rfl⟩;have hdiv:(cb.toNat:Int) / 32=MJ:=by rw [hMJ,hmj];omega
 have hi32:info < 32:=by omega
 have hm8:mj < 8:=by omega
 have hwM:IntKind.i64.wrap MJ=MJ:=IntWalk.i64_in _ (by omega);have hwM8:IntKind.u8.wrap MJ=MJ:=by show MJ % 256=MJ;omega
 have hwI:IntKind.i64.wrap (info:Int)=(info:Int):=IntWalk.i64_in _ (by omega);have hwIu:IntKind.u64.wrap (info:Int)=(info:Int):=wrap_u64 (by omega) (by omega);have HIN:=dh hinfo;have HMJ:=dh hmj;have HMJI:=dh hMJ;have HCELL:=dh hcell;have HM8:=dh hm8;clear hinfo hmj hMJ hcb hcell hPC hP1 hE hlv hd8 hf hcl hm8;have P0:=al w (.cells #[.int .i64 0,.int .u64 0,.slice none 0 0,.slice none 0 0] 26);have HN0:=dh (aw w (.cells #[.int .i64 0,.int .u64 0,.slice none 0 0,.slice none 0 0] 26));have HA1:=dh (hA.below P0);have HR1:=dh (hR.below P0);have HB1:=dh (bob (b:=P) P0);have hPl:=lb hA.1;have hRP:w.heap.size≠P:=by omega
 have HRP:=dh hRP;have x2:=cr HA1.out.1 2;have f2:(w.alloc (.cells #[.int .i64 0,.int .u64 0,.slice none 0 0,.slice none 0 0] 26)).frozen? ⟨P,2,none⟩=false:=frozen_of_arr HA1.out.1 2;simp at x2;have hge:¬ (256:Int)≤it:=by omega
 have hgeb:decide ((256:Int)≤it)=false:=df hge;obtain ⟨it1,hit1⟩:∃ it1,it1=it + 1:=⟨_,rfl⟩;have hw:IntKind.i64.wrap (it + 1)=it1:=by rw [hit1];exact IntWalk.i64_in _ (by omega)
 have HIT:Hid (it1=256 - (f:Int)):=dh (by omega);obtain ⟨N,hN0⟩:∃ N,N=l.length:=⟨_,rfl⟩;have HLN:=dh hN0;clear hA hR P0 hPl hit1 hit;go_enter Tryz.func107,Tryz.ntmps107
 go_upto_region 3 with fail
 generalize w.alloc _=w1 at *;generalize hBq:w.heap.size=B at *;have HA2:Hid (AtR P k c b o l it1 (w1.setCell ⟨P,2,none⟩ (.int .i64 it1))):=dh ⟨by have:=sar HA1.out.1 2 (.int .i64 it1);simpa using this,HA1.out.2⟩;have HB2:Hid (But P w (w1.setCell ⟨P,2,none⟩ (.int .i64 it1))):=dh (HB1.out.setCell (p:=⟨P,2,none⟩) rfl _);have HN2:=dh ((Below.heap_setCell w1 ⟨P,2,none⟩ (.int .i64 it1) B hRP).trans HN0.out);have HR2:Hid (BR (fun b=>b≠P) (w1.setCell ⟨P,2,none⟩ (.int .i64 it1)) (some ⟨b,o,none⟩) l.length l):=dh (HR1.out.keep fun j hj _=>⟨Below.heap_setCell _ _ _ _ hj,hj⟩);go_upto_region 4 with fail
 clear x2 f2;generalize w1.setCell ⟨P,2,none⟩ (.int .i64 it1)=w2 at *;have x0:=cr HA2.out.1 0;have x1:=cr HA2.out.1 1;simp at x0 x1;rw [← hN0] at x0;have hkz:¬ (N:Int)≤(k:Int):=by omega
 have hkzb:decide ((N:Int)≤(k:Int))=false:=df hkz;have hkz2:¬ N≤k:=by omega
 have hkz3:k < N:=by omega
 have hkz4:(k:Int) < (N:Int):=by omega
 have hwk:IntKind.i64.wrap ((k:Int) + 1)=(k1:Int):=by rw [IntWalk.i64_in _ (by omega)];omega
 have HKL:Hid (k1≤l.length∧k < l.length):=dh (by omega);clear hN0 hk hk1
 go_quiet (fail)
 have HA3:=dh (HA2.out.drewN nq);have HB3:=dh (HB2.out.drewN nq);have HN3:Hid ((w2.drewN nq).heap[B]?=some (.cells #[.int .i64 0,.int .u64 0,.slice none 0 0,.slice none 0 0] 26 (0,0))):=dh HN2.out;have HR3:=dh (HR2.out.below (bd (Below.refl _ _) nq));clear x0 x1;generalize w2.drewN nq=w3 at *;have x0:=cr HA3.out.1 0;have x1:=cr HA3.out.1 1;simp at x0 x1;rw [← HLN.out] at x0;have hcell:w3.cell? ⟨b,o + k,none⟩=some (.int .u8 (cb.toNat:Int)):=by
  obtain ⟨b',o',e,_,h⟩:=HR3.out.2.2 k HKL.out.2;cases e
  have h5:=HD.out;rw [List.drop_eq_getElem_cons HKL.out.2] at h5;simp only [List.cons.injEq] at h5;rw [← h5.1];exact h
 go_upto_region 6 with fail
 go_quiet (fail)
 have HA4:=dh (HA3.out.drewN nq);have HB4:=dh (HB3.out.drewN nq);have HN4:Hid ((w3.drewN nq).heap[B]?=some (.cells #[.int .i64 0,.int .u64 0,.slice none 0 0,.slice none 0 0] 26 (0,0))):=dh HN3.out;have HR4:=dh (HR3.out.below (bd (Below.refl _ _) nq));clear x0 x1 hcell HCELL HA1 HA2 HB1 HB2 HN0 HN2 HR1 HR2;generalize w3.drewN nq=w4 at *;have x1:=cr HA4.out.1 1;have f1:w4.frozen? ⟨P,1,none⟩=false:=frozen_of_arr HA4.out.1 1;simp at x1;have HA5:=dh (HA4.out.set (k':=k1) HKL.out.1);have HB5:=dh (HB4.out.setCell (p:=⟨P,1,none⟩) rfl (.int .i64 (k1:Int)));have HN5:=dh ((Below.heap_setCell w4 ⟨P,1,none⟩ (.int .i64 (k1:Int)) B hRP).trans HN4.out);have HR5:Hid (BR (fun b=>b≠P) (w4.setCell ⟨P,1,none⟩ (.int .i64 (k1:Int))) (some ⟨b,o,none⟩) l.length l):=dh (HR4.out.keep fun j hj _=>⟨Below.heap_setCell _ _ _ _ hj,hj⟩);go_upto_region 8 with fail
 clear x1 f1 hwk;generalize w4.setCell ⟨P,1,none⟩ (.int .i64 (k1:Int))=w5 at *;clear HA3 HB3 HN3 HR3 HA4 HB4 HN4 HR4 hand hdiv hkz hkzb hkz2 hkz3 hkz4 hge hgeb hw;by_cases h27:27 < info
 ·have h27z:(27:Int) < (info:Int):=by omega
  have h27b:decide ((27:Int) < (info:Int))=true:=dt h27z;have hrd:It.readHead (cb :: l.drop k1)=.err 3:=by rw [It.readHead,if_pos (by rw [← HIN.out];exact h27)]
  have HRQ:=dh (item_hd (d:=d) (f:=f) hrd);clear hrd;obtain ⟨r0,r1,r2,r3⟩:=cf HN5.out;obtain ⟨q0,q1,q2,q3⟩:=ff HN5.out;go_wp2_with fail
  clear r0 r1 r2 r3 q0 q1 q2 q3;obtain ⟨W',hW',⟨g0,g1,g2,g3⟩,hs4,HBW⟩:=pz0 HN5.out HB5.out (by omega);rw [hW'];clear hW';refine bodyPost_ret (v:=.tuple #[vz,.int .i64 3]) (by simp [vz,results,Tryz.results107,go_sem,g0,g1,g2,g3]) rfl ?_;rw [HD.out,HRQ.out];exact ⟨HBW,rfl⟩
 have h27z:¬ (27:Int) < (info:Int):=by omega
 have h27b:decide ((27:Int) < (info:Int))=false:=df h27z;by_cases h7:mj=7
 ·have hM:MJ=7:=by have:=HMJI.out;omega
  subst hM;have hsp:=special_any P k1 c b o f l it1 w5 HA5.out HR5.out hc hN info (by omega);have hq:It.item d (f + 1) (l.drop k)=It.spec info f (l.drop k1):=by rw [HD.out,HIN.out];exact It.item_spec (by rw [← HMJ.out];exact h7) (by rw [← HIN.out];exact h27)
  obtain ⟨R,hRe⟩:∃ R,R=It.spec info f (l.drop k1):=⟨_,rfl⟩;rw [← hRe] at hsp;have hff:∀ x f9 s9,R=.ok x f9 s9→f9=f:=fun x f9 s9 h=>by
   rw [hRe] at h;unfold It.spec at h
   split at h
   ·cases h;rfl
   split at h
   ·cases h
   ·unfold ofO at h
    split at h
    ·cases h;rfl
    ·cases h
  have HFF:=dh hff;have HCe:=dh hsp;have HRQ:=dh (hq.trans hRe.symm);have HNC:=dh HN5.out;have HBC:=dh HB5.out;clear hsp hq hRe hff;go_wp2_with fail
  refine HCe.out.mono ?_;rintro e u6 ⟨hB6,h6⟩;clear HCe;have HN6:=dh ((hB6.block B (lb HNC.out) HRP.out).trans HNC.out);have HB6:=dh (bt HBC.out hB6);have HSU:Hid (w.heap.size≤w5.heap.size∧B < w5.heap.size∧P≠B):=dh ⟨HBC.out.size,lb HNC.out,fun e=>HRP.out e.symm⟩;clear hB6;obtain ⟨r0,r1,r2,r3⟩:=cf HN6.out;obtain ⟨q0,q1,q2,q3⟩:=ff HN6.out;cases R with
  | err er=>
    obtain rfl:=h6;go_wp2_with fail
    clear r0 r1 r2 r3 q0 q1 q2 q3;obtain ⟨W',hW',⟨g0,g1,g2,g3⟩,hs4,HBW⟩:=pz0 HN6.out HB6.out (by omega);rw [hW'];clear hW';refine bodyPost_ret (v:=.tuple #[vz,.int .i64 (er:Int)]) (by simp [vz,results,Tryz.results107,go_sem,g0,g1,g2,g3]) rfl ?_;rw [HRQ.out];exact ⟨HBW,rfl⟩
  | ok x f9 s9=>
    obtain ⟨A,rfl,hIR,j6,hA6,hs6⟩:=h6;have HIR:=dh hIR;have hf9:=HFF.out x f9 s9 rfl;subst hf9;have HA6:=dh (show AtR P j6 c b o l (256 - (f9:Int)) u6 from HIT.out ▸ hA6);have HS6:=dh hs6;clear hIR hA6 hs6;go_wp2_with fail
    clear r0 r1 r2 r3 q0 q1 q2 q3;obtain ⟨W',hW',⟨g0,g1,g2,g3⟩,hs4,HBW⟩:=pz HN6.out HB6.out (by omega) (.int .i64 x.kind) (.int .u64 (x.num:Int)) (.slice A.ab A.nb A.cb) (.slice A.ai A.ni A.ci);rw [hW'];clear hW';refine bodyPost_ret (v:=.tuple #[(v4 x A),.int .i64 0]) (by simp [v4,results,Tryz.results107,go_sem,g0,g1,g2,g3]) rfl ?_;rw [HRQ.out];have hzz:=HSU.out;exact ⟨HBW,A,rfl,HIR.out.keep (fun q hq _=>⟨hs4.2 q (by have h1:w5.heap.size≤q:=hq;omega),by have h1:w5.heap.size≤q:=hq;show w.heap.size≤q;omega⟩),j6,⟨(hs4.2 P hzz.2.2).trans HA6.out.1,HA6.out.2⟩,HS6.out⟩
 have HM7:Hid (mj < 7):=dh (by have:=HM8.out;omega);have h7z:¬ MJ=7:=by have:=HMJI.out;have:=HM7.out;omega
 have h7b:(MJ==7)=false:=by simpa using h7z
 go_upto_if 80 with fail
 go_cut [8] (fun v8 wc=>CutN P c b o B l it1 w (l.drop k) cb.toNat v8 wc)
 case first=>
  by_cases h23:23 < info
  ·have h23z:(23:Int) < (info:Int):=by omega
   have h23b:decide ((23:Int) < (info:Int))=true:=dt h23z;rcases (show info=24∨info=25∨info=26∨info=27 by omega) with h | h | h | h
   ·subst h
    have hsc:l.drop k1=(l.drop k1):=rfl;by_cases hs:(l.drop k1).length < 1
    ·have HCn:=dh (rnumber_short P k1 1 c b o l it1 w5 HA5.out hN (by omega) (by rw [List.length_drop] at hs;exact hs))
     have hrd:It.readHead (cb :: l.drop k1)=.err 2:=by rw [It.readHead,if_neg (by rw [← HIN.out];omega),if_neg (by rw [← HIN.out];omega),if_pos (by rw [← HIN.out];exact hs)]
     have HRQ:=dh (item_hd (d:=d) (f:=f) hrd);clear hs hrd hsc;go_wp2_with fail
     refine HCn.out.mono ?_;rintro e u1 ⟨rfl,qn,hu1⟩;have HNu:Hid (u1.heap[B]?=some (.cells #[.int .i64 0,.int .u64 0,.slice none 0 0,.slice none 0 0] 26 (0,0))):=dh (by rw [hu1];exact HN5.out);have HBu:Hid (But P w u1):=dh (by rw [hu1];exact HB5.out.drewN qn);clear HCn hu1;obtain ⟨r0,r1,r2,r3⟩:=cf HNu.out;obtain ⟨q0,q1,q2,q3⟩:=ff HNu.out;go_wp2_with fail
     clear r0 r1 r2 r3 q0 q1 q2 q3;obtain ⟨W',hW',⟨g0,g1,g2,g3⟩,hs4,HBW⟩:=pz0 HNu.out HBu.out (by omega);rw [hW'];clear hW';refine bodyPost_ret (v:=.tuple #[vz,.int .i64 2]) (by simp [vz,results,Tryz.results107,go_sem,g0,g1,g2,g3]) rfl ?_;rw [HD.out,HRQ.out];exact ⟨HBW,rfl⟩
    obtain ⟨n,hn⟩:∃ n,n=It.unbe ((l.drop k1).take 1):=⟨_,rfl⟩;have hnb:n < 18446744073709551616:=by have:=unbe_take_lt 1 (l.drop k1);rw [← hn] at this;omega
    have HCn:=rnumber_full P k1 1 c b o l it1 w5 HA5.out HR5.out hc hN (by omega) (by omega) (by rw [List.length_drop] at hs;omega);rw [← hn] at HCn;have HCn:=dh HCn;obtain ⟨hl,hhl⟩:∃ hl,hl=(It.head 0 n).length:=⟨_,rfl⟩;have hhm:(It.head mj n).length=hl:=by rw [hhl,It.head_length,It.head_length]
    have hrd0:It.readHead (cb :: l.drop k1)=if hl≠2 then .err 4 else .ok cb.toNat n (l.drop (k1 + 1)):=by
     rw [It.readHead,if_neg (by rw [← HIN.out];omega),if_neg (by rw [← HIN.out];omega),if_neg (by rw [← HIN.out];exact hs)];rw [← HIN.out]
     show (if cb.toNat / 32 < 7∧(It.head 0 (It.unbe ((l.drop k1).take 1))).length≠2 then It.HR.err 4 else It.HR.ok cb.toNat (It.unbe ((l.drop k1).take 1)) ((l.drop k1).drop 1))=_
     rw [← hn,← hhl,List.drop_drop];by_cases h9:hl≠2
     ·rw [if_pos ⟨by have:=HM7.out;have:=HMJ.out;omega,h9⟩,if_pos h9]
     ·rw [if_neg (fun h=>h9 h.2),if_neg h9]
    have HRD0:=dh hrd0;have HNB:=dh hnb;have HHM:=dh hhm;obtain ⟨NN,hNN⟩:∃ NN:Int,NN=(n:Int):=⟨_,rfl⟩;have HNN:=dh hNN;rw [← hNN] at HCn;clear hn hnb hhl hhm hrd0 hs hsc hNN;go_wp2_with fail
    refine HCn.out.mono ?_;rintro e u1 ⟨rfl,hA6,hB6,hs6⟩;have HA6:=dh hA6;have HN6:=dh ((hB6.block B (lb HN5.out) HRP.out).trans HN5.out);have HB6:=dh (bt HB5.out hB6);clear HCn hA6 hB6 hs6;have HCh:=dh (rhead_any mj n NN HNN.out MJ HMJI.out (by have:=HM7.out;omega) u1);go_wp2_with fail
    refine HCh.out.mono ?_;rintro e u2 h2;obtain ⟨a9,c9,rfl,z1,z2,z3,z4,B9⟩:=h2.open;rw [HHM.out];have HA7:=dh (HA6.out.below B9);have HN7:=kp B9 HN6;have HB7:=dh (bw HB6.out B9 HB6.out.size);clear HCh h2 z1 z2 z3 z4 B9 HA6 HN6 HB6;by_cases h9:hl=2
    ·have h9b:((hl:Int) !=2)=false:=by simp;omega
     have hrd:=HRD0.out;rw [if_neg (fun h=>h h9)] at hrd;have HRDc:=dh hrd;clear hrd;subst h9;go_wp2_with fail
     go_meet
     exact ⟨n,k1 + 1,_,by rw [HD.out];exact HRDc.out,by rw [HNN.out],HNB.out,HA7.out,rfl,HB7.out,HN7.out⟩
    ·have h9b:((hl:Int) !=2)=true:=by simp;omega
     have hrd:=HRD0.out;rw [if_pos h9] at hrd;have HRQ:=dh (item_hd (d:=d) (f:=f) hrd);clear hrd;obtain ⟨r0,r1,r2,r3⟩:=cf HN7.out;obtain ⟨q0,q1,q2,q3⟩:=ff HN7.out;go_wp2_with fail
     clear r0 r1 r2 r3 q0 q1 q2 q3;obtain ⟨W',hW',⟨g0,g1,g2,g3⟩,hs4,HBW⟩:=pz0 HN7.out HB7.out (by omega);rw [hW'];clear hW';refine bodyPost_ret (v:=.tuple #[vz,.int .i64 4]) (by simp [vz,results,Tryz.results107,go_sem,g0,g1,g2,g3]) rfl ?_;rw [HD.out,HRQ.out];exact ⟨HBW,rfl⟩
   ·subst h
    have hsc:l.drop k1=(l.drop k1):=rfl;by_cases hs:(l.drop k1).length < 2
    ·have HCn:=dh (rnumber_short P k1 2 c b o l it1 w5 HA5.out hN (by omega) (by rw [List.length_drop] at hs;exact hs))
     have hrd:It.readHead (cb :: l.drop k1)=.err 2:=by rw [It.readHead,if_neg (by rw [← HIN.out];omega),if_neg (by rw [← HIN.out];omega),if_pos (by rw [← HIN.out];exact hs)]
     have HRQ:=dh (item_hd (d:=d) (f:=f) hrd);clear hs hrd hsc;go_wp2_with fail
     refine HCn.out.mono ?_;rintro e u1 ⟨rfl,qn,hu1⟩;have HNu:Hid (u1.heap[B]?=some (.cells #[.int .i64 0,.int .u64 0,.slice none 0 0,.slice none 0 0] 26 (0,0))):=dh (by rw [hu1];exact HN5.out);have HBu:Hid (But P w u1):=dh (by rw [hu1];exact HB5.out.drewN qn);clear HCn hu1;obtain ⟨r0,r1,r2,r3⟩:=cf HNu.out;obtain ⟨q0,q1,q2,q3⟩:=ff HNu.out;go_wp2_with fail
     clear r0 r1 r2 r3 q0 q1 q2 q3;obtain ⟨W',hW',⟨g0,g1,g2,g3⟩,hs4,HBW⟩:=pz0 HNu.out HBu.out (by omega);rw [hW'];clear hW';refine bodyPost_ret (v:=.tuple #[vz,.int .i64 2]) (by simp [vz,results,Tryz.results107,go_sem,g0,g1,g2,g3]) rfl ?_;rw [HD.out,HRQ.out];exact ⟨HBW,rfl⟩
    obtain ⟨n,hn⟩:∃ n,n=It.unbe ((l.drop k1).take 2):=⟨_,rfl⟩;have hnb:n < 18446744073709551616:=by have:=unbe_take_lt 2 (l.drop k1);rw [← hn] at this;omega
    have HCn:=rnumber_full P k1 2 c b o l it1 w5 HA5.out HR5.out hc hN (by omega) (by omega) (by rw [List.length_drop] at hs;omega);rw [← hn] at HCn;have HCn:=dh HCn;obtain ⟨hl,hhl⟩:∃ hl,hl=(It.head 0 n).length:=⟨_,rfl⟩;have hhm:(It.head mj n).length=hl:=by rw [hhl,It.head_length,It.head_length]
    have hrd0:It.readHead (cb :: l.drop k1)=if hl≠3 then .err 4 else .ok cb.toNat n (l.drop (k1 + 2)):=by
     rw [It.readHead,if_neg (by rw [← HIN.out];omega),if_neg (by rw [← HIN.out];omega),if_neg (by rw [← HIN.out];exact hs)];rw [← HIN.out]
     show (if cb.toNat / 32 < 7∧(It.head 0 (It.unbe ((l.drop k1).take 2))).length≠3 then It.HR.err 4 else It.HR.ok cb.toNat (It.unbe ((l.drop k1).take 2)) ((l.drop k1).drop 2))=_
     rw [← hn,← hhl,List.drop_drop];by_cases h9:hl≠3
     ·rw [if_pos ⟨by have:=HM7.out;have:=HMJ.out;omega,h9⟩,if_pos h9]
     ·rw [if_neg (fun h=>h9 h.2),if_neg h9]
    have HRD0:=dh hrd0;have HNB:=dh hnb;have HHM:=dh hhm;obtain ⟨NN,hNN⟩:∃ NN:Int,NN=(n:Int):=⟨_,rfl⟩;have HNN:=dh hNN;rw [← hNN] at HCn;clear hn hnb hhl hhm hrd0 hs hsc hNN;go_wp2_with fail
    refine HCn.out.mono ?_;rintro e u1 ⟨rfl,hA6,hB6,hs6⟩;have HA6:=dh hA6;have HN6:=dh ((hB6.block B (lb HN5.out) HRP.out).trans HN5.out);have HB6:=dh (bt HB5.out hB6);clear HCn hA6 hB6 hs6;have HCh:=dh (rhead_any mj n NN HNN.out MJ HMJI.out (by have:=HM7.out;omega) u1);go_wp2_with fail
    refine HCh.out.mono ?_;rintro e u2 h2;obtain ⟨a9,c9,rfl,z1,z2,z3,z4,B9⟩:=h2.open;rw [HHM.out];have HA7:=dh (HA6.out.below B9);have HN7:=kp B9 HN6;have HB7:=dh (bw HB6.out B9 HB6.out.size);clear HCh h2 z1 z2 z3 z4 B9 HA6 HN6 HB6;by_cases h9:hl=3
    ·have h9b:((hl:Int) !=3)=false:=by simp;omega
     have hrd:=HRD0.out;rw [if_neg (fun h=>h h9)] at hrd;have HRDc:=dh hrd;clear hrd;subst h9;go_wp2_with fail
     go_meet
     exact ⟨n,k1 + 2,_,by rw [HD.out];exact HRDc.out,by rw [HNN.out],HNB.out,HA7.out,rfl,HB7.out,HN7.out⟩
    ·have h9b:((hl:Int) !=3)=true:=by simp;omega
     have hrd:=HRD0.out;rw [if_pos h9] at hrd;have HRQ:=dh (item_hd (d:=d) (f:=f) hrd);clear hrd;obtain ⟨r0,r1,r2,r3⟩:=cf HN7.out;obtain ⟨q0,q1,q2,q3⟩:=ff HN7.out;go_wp2_with fail
     clear r0 r1 r2 r3 q0 q1 q2 q3;obtain ⟨W',hW',⟨g0,g1,g2,g3⟩,hs4,HBW⟩:=pz0 HN7.out HB7.out (by omega);rw [hW'];clear hW';refine bodyPost_ret (v:=.tuple #[vz,.int .i64 4]) (by simp [vz,results,Tryz.results107,go_sem,g0,g1,g2,g3]) rfl ?_;rw [HD.out,HRQ.out];exact ⟨HBW,rfl⟩
   ·subst h
    have hsc:l.drop k1=(l.drop k1):=rfl;by_cases hs:(l.drop k1).length < 4
    ·have HCn:=dh (rnumber_short P k1 4 c b o l it1 w5 HA5.out hN (by omega) (by rw [List.length_drop] at hs;exact hs))
     have hrd:It.readHead (cb :: l.drop k1)=.err 2:=by rw [It.readHead,if_neg (by rw [← HIN.out];omega),if_neg (by rw [← HIN.out];omega),if_pos (by rw [← HIN.out];exact hs)]
     have HRQ:=dh (item_hd (d:=d) (f:=f) hrd);clear hs hrd hsc;go_wp2_with fail
     refine HCn.out.mono ?_;rintro e u1 ⟨rfl,qn,hu1⟩;have HNu:Hid (u1.heap[B]?=some (.cells #[.int .i64 0,.int .u64 0,.slice none 0 0,.slice none 0 0] 26 (0,0))):=dh (by rw [hu1];exact HN5.out);have HBu:Hid (But P w u1):=dh (by rw [hu1];exact HB5.out.drewN qn);clear HCn hu1;obtain ⟨r0,r1,r2,r3⟩:=cf HNu.out;obtain ⟨q0,q1,q2,q3⟩:=ff HNu.out;go_wp2_with fail
     clear r0 r1 r2 r3 q0 q1 q2 q3;obtain ⟨W',hW',⟨g0,g1,g2,g3⟩,hs4,HBW⟩:=pz0 HNu.out HBu.out (by omega);rw [hW'];clear hW';refine bodyPost_ret (v:=.tuple #[vz,.int .i64 2]) (by simp [vz,results,Tryz.results107,go_sem,g0,g1,g2,g3]) rfl ?_;rw [HD.out,HRQ.out];exact ⟨HBW,rfl⟩
    obtain ⟨n,hn⟩:∃ n,n=It.unbe ((l.drop k1).take 4):=⟨_,rfl⟩;have hnb:n < 18446744073709551616:=by have:=unbe_take_lt 4 (l.drop k1);rw [← hn] at this;omega
    have HCn:=rnumber_full P k1 4 c b o l it1 w5 HA5.out HR5.out hc hN (by omega) (by omega) (by rw [List.length_drop] at hs;omega);rw [← hn] at HCn;have HCn:=dh HCn;obtain ⟨hl,hhl⟩:∃ hl,hl=(It.head 0 n).length:=⟨_,rfl⟩;have hhm:(It.head mj n).length=hl:=by rw [hhl,It.head_length,It.head_length]
    have hrd0:It.readHead (cb :: l.drop k1)=if hl≠5 then .err 4 else .ok cb.toNat n (l.drop (k1 + 4)):=by
     rw [It.readHead,if_neg (by rw [← HIN.out];omega),if_neg (by rw [← HIN.out];omega),if_neg (by rw [← HIN.out];exact hs)];rw [← HIN.out]
     show (if cb.toNat / 32 < 7∧(It.head 0 (It.unbe ((l.drop k1).take 4))).length≠5 then It.HR.err 4 else It.HR.ok cb.toNat (It.unbe ((l.drop k1).take 4)) ((l.drop k1).drop 4))=_
     rw [← hn,← hhl,List.drop_drop];by_cases h9:hl≠5
     ·rw [if_pos ⟨by have:=HM7.out;have:=HMJ.out;omega,h9⟩,if_pos h9]
     ·rw [if_neg (fun h=>h9 h.2),if_neg h9]
    have HRD0:=dh hrd0;have HNB:=dh hnb;have HHM:=dh hhm;obtain ⟨NN,hNN⟩:∃ NN:Int,NN=(n:Int):=⟨_,rfl⟩;have HNN:=dh hNN;rw [← hNN] at HCn;clear hn hnb hhl hhm hrd0 hs hsc hNN;go_wp2_with fail
    refine HCn.out.mono ?_;rintro e u1 ⟨rfl,hA6,hB6,hs6⟩;have HA6:=dh hA6;have HN6:=dh ((hB6.block B (lb HN5.out) HRP.out).trans HN5.out);have HB6:=dh (bt HB5.out hB6);clear HCn hA6 hB6 hs6;have HCh:=dh (rhead_any mj n NN HNN.out MJ HMJI.out (by have:=HM7.out;omega) u1);go_wp2_with fail
    refine HCh.out.mono ?_;rintro e u2 h2;obtain ⟨a9,c9,rfl,z1,z2,z3,z4,B9⟩:=h2.open;rw [HHM.out];have HA7:=dh (HA6.out.below B9);have HN7:=kp B9 HN6;have HB7:=dh (bw HB6.out B9 HB6.out.size);clear HCh h2 z1 z2 z3 z4 B9 HA6 HN6 HB6;by_cases h9:hl=5
    ·have h9b:((hl:Int) !=5)=false:=by simp;omega
     have hrd:=HRD0.out;rw [if_neg (fun h=>h h9)] at hrd;have HRDc:=dh hrd;clear hrd;subst h9;go_wp2_with fail
     go_meet
     exact ⟨n,k1 + 4,_,by rw [HD.out];exact HRDc.out,by rw [HNN.out],HNB.out,HA7.out,rfl,HB7.out,HN7.out⟩
    ·have h9b:((hl:Int) !=5)=true:=by simp;omega
     have hrd:=HRD0.out;rw [if_pos h9] at hrd;have HRQ:=dh (item_hd (d:=d) (f:=f) hrd);clear hrd;obtain ⟨r0,r1,r2,r3⟩:=cf HN7.out;obtain ⟨q0,q1,q2,q3⟩:=ff HN7.out;go_wp2_with fail
     clear r0 r1 r2 r3 q0 q1 q2 q3;obtain ⟨W',hW',⟨g0,g1,g2,g3⟩,hs4,HBW⟩:=pz0 HN7.out HB7.out (by omega);rw [hW'];clear hW';refine bodyPost_ret (v:=.tuple #[vz,.int .i64 4]) (by simp [vz,results,Tryz.results107,go_sem,g0,g1,g2,g3]) rfl ?_;rw [HD.out,HRQ.out];exact ⟨HBW,rfl⟩
   ·subst h
    have hsc:l.drop k1=(l.drop k1):=rfl;by_cases hs:(l.drop k1).length < 8
    ·have HCn:=dh (rnumber_short P k1 8 c b o l it1 w5 HA5.out hN (by omega) (by rw [List.length_drop] at hs;exact hs))
     have hrd:It.readHead (cb :: l.drop k1)=.err 2:=by rw [It.readHead,if_neg (by rw [← HIN.out];omega),if_neg (by rw [← HIN.out];omega),if_pos (by rw [← HIN.out];exact hs)]
     have HRQ:=dh (item_hd (d:=d) (f:=f) hrd);clear hs hrd hsc;go_wp2_with fail
     refine HCn.out.mono ?_;rintro e u1 ⟨rfl,qn,hu1⟩;have HNu:Hid (u1.heap[B]?=some (.cells #[.int .i64 0,.int .u64 0,.slice none 0 0,.slice none 0 0] 26 (0,0))):=dh (by rw [hu1];exact HN5.out);have HBu:Hid (But P w u1):=dh (by rw [hu1];exact HB5.out.drewN qn);clear HCn hu1;obtain ⟨r0,r1,r2,r3⟩:=cf HNu.out;obtain ⟨q0,q1,q2,q3⟩:=ff HNu.out;go_wp2_with fail
     clear r0 r1 r2 r3 q0 q1 q2 q3;obtain ⟨W',hW',⟨g0,g1,g2,g3⟩,hs4,HBW⟩:=pz0 HNu.out HBu.out (by omega);rw [hW'];clear hW';refine bodyPost_ret (v:=.tuple #[vz,.int .i64 2]) (by simp [vz,results,Tryz.results107,go_sem,g0,g1,g2,g3]) rfl ?_;rw [HD.out,HRQ.out];exact ⟨HBW,rfl⟩
    obtain ⟨n,hn⟩:∃ n,n=It.unbe ((l.drop k1).take 8):=⟨_,rfl⟩;have hnb:n < 18446744073709551616:=by have:=unbe_take_lt 8 (l.drop k1);rw [← hn] at this;omega
    have HCn:=rnumber_full P k1 8 c b o l it1 w5 HA5.out HR5.out hc hN (by omega) (by omega) (by rw [List.length_drop] at hs;omega);rw [← hn] at HCn;have HCn:=dh HCn;obtain ⟨hl,hhl⟩:∃ hl,hl=(It.head 0 n).length:=⟨_,rfl⟩;have hhm:(It.head mj n).length=hl:=by rw [hhl,It.head_length,It.head_length]
    have hrd0:It.readHead (cb :: l.drop k1)=if hl≠9 then .err 4 else .ok cb.toNat n (l.drop (k1 + 8)):=by
     rw [It.readHead,if_neg (by rw [← HIN.out];omega),if_neg (by rw [← HIN.out];omega),if_neg (by rw [← HIN.out];exact hs)];rw [← HIN.out]
     show (if cb.toNat / 32 < 7∧(It.head 0 (It.unbe ((l.drop k1).take 8))).length≠9 then It.HR.err 4 else It.HR.ok cb.toNat (It.unbe ((l.drop k1).take 8)) ((l.drop k1).drop 8))=_
     rw [← hn,← hhl,List.drop_drop];by_cases h9:hl≠9
     ·rw [if_pos ⟨by have:=HM7.out;have:=HMJ.out;omega,h9⟩,if_pos h9]
     ·rw [if_neg (fun h=>h9 h.2),if_neg h9]
    have HRD0:=dh hrd0;have HNB:=dh hnb;have HHM:=dh hhm;obtain ⟨NN,hNN⟩:∃ NN:Int,NN=(n:Int):=⟨_,rfl⟩;have HNN:=dh hNN;rw [← hNN] at HCn;clear hn hnb hhl hhm hrd0 hs hsc hNN;go_wp2_with fail
    refine HCn.out.mono ?_;rintro e u1 ⟨rfl,hA6,hB6,hs6⟩;have HA6:=dh hA6;have HN6:=dh ((hB6.block B (lb HN5.out) HRP.out).trans HN5.out);have HB6:=dh (bt HB5.out hB6);clear HCn hA6 hB6 hs6;have HCh:=dh (rhead_any mj n NN HNN.out MJ HMJI.out (by have:=HM7.out;omega) u1);go_wp2_with fail
    refine HCh.out.mono ?_;rintro e u2 h2;obtain ⟨a9,c9,rfl,z1,z2,z3,z4,B9⟩:=h2.open;rw [HHM.out];have HA7:=dh (HA6.out.below B9);have HN7:=kp B9 HN6;have HB7:=dh (bw HB6.out B9 HB6.out.size);clear HCh h2 z1 z2 z3 z4 B9 HA6 HN6 HB6;by_cases h9:hl=9
    ·have h9b:((hl:Int) !=9)=false:=by simp;omega
     have hrd:=HRD0.out;rw [if_neg (fun h=>h h9)] at hrd;have HRDc:=dh hrd;clear hrd;subst h9;go_wp2_with fail
     go_meet
     exact ⟨n,k1 + 8,_,by rw [HD.out];exact HRDc.out,by rw [HNN.out],HNB.out,HA7.out,rfl,HB7.out,HN7.out⟩
    ·have h9b:((hl:Int) !=9)=true:=by simp;omega
     have hrd:=HRD0.out;rw [if_pos h9] at hrd;have HRQ:=dh (item_hd (d:=d) (f:=f) hrd);clear hrd;obtain ⟨r0,r1,r2,r3⟩:=cf HN7.out;obtain ⟨q0,q1,q2,q3⟩:=ff HN7.out;go_wp2_with fail
     clear r0 r1 r2 r3 q0 q1 q2 q3;obtain ⟨W',hW',⟨g0,g1,g2,g3⟩,hs4,HBW⟩:=pz0 HN7.out HB7.out (by omega);rw [hW'];clear hW';refine bodyPost_ret (v:=.tuple #[vz,.int .i64 4]) (by simp [vz,results,Tryz.results107,go_sem,g0,g1,g2,g3]) rfl ?_;rw [HD.out,HRQ.out];exact ⟨HBW,rfl⟩
  ·have h23z:¬ (23:Int) < (info:Int):=by omega
   have h23b:decide ((23:Int) < (info:Int))=false:=df h23z;have hrd:It.readHead (cb :: l.drop k1)=.ok cb.toNat info (l.drop k1):=by rw [It.readHead,if_neg (by rw [← HIN.out];exact h27),if_pos (by rw [← HIN.out];omega),← HIN.out]
   have HRDc:=dh hrd;clear hrd;go_wp2_with fail
   go_meet
   exact ⟨info,k1,_,by rw [HD.out];exact HRDc.out,rfl,by omega,HA5.out,rfl,HB5.out,HN5.out⟩
 case rest=>
  obtain ⟨n,j0,r,hrd,rfl,hnb,hAc,hrj,hBc,hNc⟩:=hcut;have HRD:=dh hrd;have HNB:=dh hnb;have HAC:=dh hAc;have HRJ:=dh hrj;have HBC:=dh hBc;have HNC:=dh hNc;clear hrd hnb hAc hrj hBc hNc HA5 HB5 HN5 HR5;rcases (show mj=0∨mj=1∨mj=2∨mj=3∨mj=4∨mj=5∨mj=6 by have:=HM7.out;omega) with h | h | h | h | h | h | h
  ·have HKQ:Hid (cb.toNat / 32=0):=dh (by rw [← HMJ.out];exact h)
   have hM:MJ=0:=by have:=HMJI.out;omega
   subst hM;clear h;have HRQ:=dh (It.item_int (d:=d) (f:=f) HRD.out (by have:=HKQ.out;omega));obtain ⟨r0,r1,r2,r3⟩:=cf HNC.out;obtain ⟨q0,q1,q2,q3⟩:=ff HNC.out;go_wp2_with fail
   clear r0 r1 r2 r3 q0 q1 q2 q3;obtain ⟨W',hW',⟨g0,g1,g2,g3⟩,hs4,HBW⟩:=pz HNC.out HBC.out (by omega) (.int .i64 0) (.int .u64 (n:Int)) (.slice none 0 0) (.slice none 0 0);rw [hW'];clear hW';refine bodyPost_ret (v:=.tuple #[.agg #[.int .i64 0,.int .u64 (n:Int),.slice none 0 0,.slice none 0 0],.int .i64 0]) (by simp [results,Tryz.results107,go_sem,g0,g1,g2,g3]) rfl ?_;rw [HRQ.out,HKQ.out];exact ⟨HBW,⟨none,0,0,none,0,0⟩,rfl,IR.flat _ _ HNB.out,j0,⟨(hs4.2 P (fun e=>HRP.out e.symm)).trans (by rw [HAC.out.1,HIT.out]),HAC.out.2⟩,HRJ.out⟩
  ·have HKQ:Hid (cb.toNat / 32=1):=dh (by rw [← HMJ.out];exact h)
   have hM:MJ=1:=by have:=HMJI.out;omega
   subst hM;clear h;have HRQ:=dh (It.item_int (d:=d) (f:=f) HRD.out (by have:=HKQ.out;omega));obtain ⟨r0,r1,r2,r3⟩:=cf HNC.out;obtain ⟨q0,q1,q2,q3⟩:=ff HNC.out;go_wp2_with fail
   clear r0 r1 r2 r3 q0 q1 q2 q3;obtain ⟨W',hW',⟨g0,g1,g2,g3⟩,hs4,HBW⟩:=pz HNC.out HBC.out (by omega) (.int .i64 1) (.int .u64 (n:Int)) (.slice none 0 0) (.slice none 0 0);rw [hW'];clear hW';refine bodyPost_ret (v:=.tuple #[.agg #[.int .i64 1,.int .u64 (n:Int),.slice none 0 0,.slice none 0 0],.int .i64 0]) (by simp [results,Tryz.results107,go_sem,g0,g1,g2,g3]) rfl ?_;rw [HRQ.out,HKQ.out];exact ⟨HBW,⟨none,0,0,none,0,0⟩,rfl,IR.flat _ _ HNB.out,j0,⟨(hs4.2 P (fun e=>HRP.out e.symm)).trans (by rw [HAC.out.1,HIT.out]),HAC.out.2⟩,HRJ.out⟩
  ·have HKQ:Hid (cb.toNat / 32=2):=dh (by rw [← HMJ.out];exact h)
   have hM:MJ=2:=by have:=HMJI.out;omega
   subst hM;clear h;have y0:=cr HAC.out.1 0;have y1:=cr HAC.out.1 1;simp at y0 y1;rw [← HLN.out] at y0;have hj0:=HAC.out.2;have hlj:r.length=l.length - j0:=by rw [HRJ.out,List.length_drop]
   obtain ⟨ZZ,hZ⟩:∃ ZZ:Int,ZZ=(N:Int) - (j0:Int):=⟨_,rfl⟩;have hln:=HLN.out;have hz1:IntKind.i64.wrap ((N:Int) - (j0:Int))=ZZ:=by rw [hZ];exact IntWalk.i64_in _ (by omega)
   have hz2:IntKind.u64.wrap ZZ=ZZ:=by show ZZ % 18446744073709551616=ZZ;omega
   by_cases hsh:r.length < n
   ·have hgt:decide (ZZ < (n:Int))=true:=dt (by omega)
    have hgt2:ZZ < (n:Int):=by omega
    have hq:=It.item_short (d:=d) (f:=f) HRD.out (by have:=HKQ.out;omega) (by have:=HKQ.out;omega) hsh;have HRQ:=dh hq;clear hq hsh hlj hj0 hZ hln;go_wp2_with fail
    go_quiet (fail)
    have HND:Hid ((wc.drewN nq).heap[B]?=some (.cells #[.int .i64 0,.int .u64 0,.slice none 0 0,.slice none 0 0] 26 (0,0))):=dh HNC.out;have HBD:=dh (HBC.out.drewN nq);clear y0 y1;generalize wc.drewN nq=wd at *;obtain ⟨r0,r1,r2,r3⟩:=cf HND.out;obtain ⟨q0,q1,q2,q3⟩:=ff HND.out;go_wp2_with fail
    clear r0 r1 r2 r3 q0 q1 q2 q3;obtain ⟨W',hW',⟨g0,g1,g2,g3⟩,hs4,HBW⟩:=pz0 HND.out HBD.out (by omega);rw [hW'];clear hW';refine bodyPost_ret (v:=.tuple #[vz,.int .i64 2]) (by simp [vz,results,Tryz.results107,go_sem,g0,g1,g2,g3]) rfl ?_;rw [HRQ.out];exact ⟨HBW,rfl⟩
   have hgt:decide (ZZ < (n:Int))=false:=df (by omega);have hgt2:¬ ZZ < (n:Int):=by omega
   have hn4:n≤4096:=by omega
   obtain ⟨jn,hjn⟩:∃ jn,jn=j0 + n:=⟨_,rfl⟩;have hwj:IntKind.i64.wrap ((j0:Int) + (n:Int))=(jn:Int):=by rw [IntWalk.i64_in _ (by omega),hjn];omega
   have hwn:IntKind.i64.wrap (n:Int)=(n:Int):=IntWalk.i64_in _ (by omega);have hs1:j0≤jn:=by omega
   have hs2:jn≤c:=by omega
   have hdn:jn - j0=n:=by omega
   obtain ⟨t,ht⟩:∃ t,t=(l.drop j0).take n:=⟨_,rfl⟩;have HTT:Hid (t=r.take n):=dh (by rw [ht,HRJ.out]);have HTL:Hid (t.length=n):=dh (by rw [ht,List.length_take,List.length_drop];omega);have HTT0:=dh ht;have HJN:Hid (jn=j0 + n∧jn≤l.length):=dh (by omega);have HSH:=dh hsh;clear hlj hsh hZ hj0 hjn ht hln;go_wp2_with fail
   go_quiet (fail)
   have HND:Hid ((wc.drewN nq).heap[B]?=some (.cells #[.int .i64 0,.int .u64 0,.slice none 0 0,.slice none 0 0] 26 (0,0))):=dh HNC.out;have HBD:=dh (HBC.out.drewN nq);have HAD:=dh (HAC.out.drewN nq);clear y0 y1;generalize wc.drewN nq=wd at *;go_upto_region 28 with fail
   by_cases hac:c=j0
   ·subst hac
    have hsub:BR (fun _=>True) wd (some ⟨b,o,none⟩) n t:=(by
     have hn0:n=0:=by have:=HJN.out;have:=HLN.out;omega
     have ht0:t=[]:=List.eq_nil_of_length_eq_zero (by rw [HTL.out,hn0]);rw [hn0,ht0];exact BR.nil _ _ _)
    obtain ⟨a8,c8,W8,hrun,hO8,hg8,hx8⟩:=app_bytes wd.drew wd.heap.size (.slice none 0 0) [] (OwnB.nil _ _) (some ⟨b,o,none⟩) n (c - c) t (fun _=>True) (hsub.below (Below.refl _ _).drew) (by simp;omega) (Nat.le_refl _);rw [List.nil_append] at hO8;rw [List.length_nil,Nat.zero_add] at hrun hO8;have HRUN:=dh hrun;have HB8:=dh (show Below wd.heap.size wd W8 from bg (Below.refl wd.heap.size wd).drew (Nat.le_refl _) (OwnB.nil wd.drew wd.heap.size) hg8);have HO8:=dh hO8;clear hsub hrun hO8 hg8 hx8;refine wp_region_held_drew (S:=(fun w'=>w'.cell? ⟨P,0,none⟩=some (.slice (some ⟨b,o,none⟩) N c)∧w'.cell? ⟨P,1,none⟩=some (.int .i64 (c:Int)))) (by kernel_rfl) ⟨by have:=cr (bkp (Below.refl wd.heap.size wd).drew HAD.out.1 (lb HAD.out.1)) 0;simpa [← HLN.out] using this,by have:=cr (bkp (Below.refl wd.heap.size wd).drew HAD.out.1 (lb HAD.out.1)) 1;simpa using this⟩ (fun hHeld=>?_);refine tk 0 rfl hHeld ?_;simp only [Act.put,sx]
    refine tk 1 rfl hHeld ?_;simp only [Act.put,sx]
    refine tk 2 rfl hHeld ?_;simp only [Act.put,sx]
    refine tk 3 rfl hHeld ?_;simp only [Act.put,sx]
    refine tk 4 rfl hHeld ?_;simp only [Act.put,sx]
    refine tk 5 rfl hHeld ?_;simp only [Act.put,sx]
    refine tk 6 rfl hHeld ?_;simp only [Act.put,sx]
    refine tk 7 rfl hHeld ?_;simp only [Act.put,sx]
    refine tk 8 rfl hHeld ?_;simp only [Act.put,sx]
    refine tk 9 rfl hHeld ?_;simp only [Act.put,sx]
    refine tk 10 rfl hHeld ?_;simp only [Act.put,sx]
    refine tk 11 rfl hHeld ?_;simp only [Act.put,sx]
    refine tk 12 rfl hHeld ?_;simp only [Act.put,sx]
    refine tk 13 rfl hHeld ?_;simp only [Act.put,sx]
    refine tk 14 rfl hHeld ?_;simp only [Act.put,sx]
    refine tk 15 rfl hHeld ?_;simp only [Act.put,sx]
    refine ry 16 (by kernel_rfl) rfl fun K1 hK1=>?_
    rw [if_pos (by rfl)];refine wp_app _ _ 23 rfl rfl rfl HRUN.out ?_;clear HRUN;refine hK1.out _ _ ⟨by have:=cr (bkp HB8.out HAD.out.1 (lb HAD.out.1)) 0;simpa [← HLN.out] using this,by have:=cr (bkp HB8.out HAD.out.1 (lb HAD.out.1)) 1;simpa using this⟩ (fun hHeld=>?_);clear hK1
    try simp only [sz]
    refine tk 17 rfl hHeld ?_;simp only [Act.put,sx]
    refine wpAnyH_done (by kernel_rfl) ?_ _
    try simp only [sz]
    have hA8:=HAD.out.below HB8.out;have y1:=cr hA8.1 1;have f1:W8.frozen? ⟨P,1,none⟩=false:=frozen_of_arr hA8.1 1;simp at y1;have HA9:Hid (AtR P jn c b o l it1 (W8.setCell ⟨P,1,none⟩ (.int .i64 (jn:Int)))):=dh (hA8.set (by have:=HJN.out;have:=HLN.out;omega));have hk9:∀ j,j≠P→(W8.setCell ⟨P,1,none⟩ (.int .i64 (jn:Int))).heap[j]?=W8.heap[j]?:=fun j hj=>Below.heap_setCell _ _ _ _ hj
    have HN9:=dh ((hk9 B HRP.out).trans (bkp HB8.out HND.out (lb HND.out)));have HB9:=dh ((bw HBD.out HB8.out HBD.out.size).setCell (p:=⟨P,1,none⟩) rfl (.int .i64 (jn:Int)));have HR9:Hid (BR (fun j=>B + 1≤j) (W8.setCell ⟨P,1,none⟩ (.int .i64 (jn:Int))) a8 n t):=dh ((BR.of_ownB HO8.out HTL.out.symm).keep fun j hj hj2=>⟨hk9 j (by have h1:wd.heap.size≤j:=hj;have:=lb HAD.out.1;omega),by have h1:wd.heap.size≤j:=hj;have:=lb HND.out;omega⟩);have HC8:Hid (n≤c8∧c8≤9223372036854775807):=dh (by
     obtain ⟨a',c',e,_,h2,h3⟩:=HO8.out.br;cases e
     exact ⟨by have:=HTL.out;omega,h3⟩)
    clear hHeld hk9 hA8 HO8;go_upto_region 30 with fail
    clear y1 f1;generalize W8.setCell ⟨P,1,none⟩ (.int .i64 (jn:Int))=w9 at *;obtain ⟨r0,r1,r2,r3⟩:=cf HN9.out;obtain ⟨q0,q1,q2,q3⟩:=ff HN9.out;have hq:=It.item_by (d:=d) (f:=f) HRD.out (by have:=HKQ.out;omega) (by have:=HKQ.out;omega) HSH.out (fun h=>by have:=HKQ.out;omega);have HRQ:=dh (hq.trans (by rw [HKQ.out]));clear hq;go_wp2_with fail
    clear r0 r1 r2 r3 q0 q1 q2 q3;obtain ⟨W',hW',⟨g0,g1,g2,g3⟩,hs4,HBW⟩:=pz HN9.out HB9.out (by omega) (.int .i64 2) (.int .u64 0) (.slice a8 n c8) (.slice none 0 0);rw [hW'];clear hW';refine bodyPost_ret (v:=.tuple #[.agg #[.int .i64 2,.int .u64 0,.slice a8 n c8,.slice none 0 0],.int .i64 0]) (by simp [results,Tryz.results107,go_sem,g0,g1,g2,g3]) rfl ?_;rw [HRQ.out,← HTT.out];exact ⟨HBW,⟨a8,n,c8,none,0,0⟩,rfl,IR_iff.2 ⟨by show 0 < _;omega,⟨(HR9.out.keep fun j hj _=>⟨hs4.2 j (by have h1:B + 1≤j:=hj;omega),by have h1:B + 1≤j:=hj;show w.heap.size≤j;omega⟩),HC8.out.1,HC8.out.2⟩,TL.nil _ _ _,by simp,by simp⟩,jn,⟨(hs4.2 P (fun e=>HRP.out e.symm)).trans (by rw [HA9.out.1,HIT.out]),HA9.out.2⟩,by rw [HRJ.out,List.drop_drop,← HJN.out.1]⟩
   ·have hac2:¬ c=j0:=hac
    have hsub:BR (fun _=>True) wd (some ⟨b,o + j0,none⟩) n t:=(by
     obtain ⟨h1,h2,h3⟩:=HRW.out.sep HBD.out;refine ⟨HTL.out.symm,by omega,fun i hi=>?_⟩;obtain ⟨b',o',e,hb,hc'⟩:=h3 (j0 + i) (by have:=HTL.out;have:=HJN.out;omega);cases e
     refine ⟨b,o + j0,rfl,trivial,?_⟩;have e2:t[i]=l[j0 + i]'(by have:=HTL.out;have:=HJN.out;omega):=by have:=HTT0.out;subst this;simp
     rw [e2,Nat.add_assoc];exact hc')
    obtain ⟨a8,c8,W8,hrun,hO8,hg8,hx8⟩:=app_bytes wd.drew wd.heap.size (.slice none 0 0) [] (OwnB.nil _ _) (some ⟨b,o + j0,none⟩) n (c - j0) t (fun _=>True) (hsub.below (Below.refl _ _).drew) (by simp;omega) (Nat.le_refl _);rw [List.nil_append] at hO8;rw [List.length_nil,Nat.zero_add] at hrun hO8;have HRUN:=dh hrun;have HB8:=dh (show Below wd.heap.size wd W8 from bg (Below.refl wd.heap.size wd).drew (Nat.le_refl _) (OwnB.nil wd.drew wd.heap.size) hg8);have HO8:=dh hO8;clear hsub hrun hO8 hg8 hx8;refine wp_region_held_drew (S:=(fun w'=>w'.cell? ⟨P,0,none⟩=some (.slice (some ⟨b,o,none⟩) N c)∧w'.cell? ⟨P,1,none⟩=some (.int .i64 (j0:Int)))) (by kernel_rfl) ⟨by have:=cr (bkp (Below.refl wd.heap.size wd).drew HAD.out.1 (lb HAD.out.1)) 0;simpa [← HLN.out] using this,by have:=cr (bkp (Below.refl wd.heap.size wd).drew HAD.out.1 (lb HAD.out.1)) 1;simpa using this⟩ (fun hHeld=>?_);refine tk 0 rfl hHeld ?_;simp only [Act.put,sx]
    refine tk 1 rfl hHeld ?_;simp only [Act.put,sx]
    refine tk 2 rfl hHeld ?_;simp only [Act.put,sx]
    refine tk 3 rfl hHeld ?_;simp only [Act.put,sx]
    refine tk 4 rfl hHeld ?_;simp only [Act.put,sx]
    refine tk 5 rfl hHeld ?_;simp only [Act.put,sx]
    refine tk 6 rfl hHeld ?_;simp only [Act.put,sx]
    refine tk 7 rfl hHeld ?_;simp only [Act.put,sx]
    refine tk 8 rfl hHeld ?_;simp only [Act.put,sx]
    refine tk 9 rfl hHeld ?_;simp only [Act.put,sx]
    refine tk 10 rfl hHeld ?_;simp only [Act.put,sx]
    refine tk 11 rfl hHeld ?_;simp only [Act.put,sx]
    refine tk 12 rfl hHeld ?_;simp only [Act.put,sx]
    refine tk 13 rfl hHeld ?_;simp only [Act.put,sx]
    refine tk 14 rfl hHeld ?_;simp only [Act.put,sx]
    refine tk 15 rfl hHeld ?_;simp only [Act.put,sx]
    refine ry 16 (by kernel_rfl) rfl fun K1 hK1=>?_
    rw [if_pos (by rfl)];refine wp_app _ _ 23 rfl rfl rfl HRUN.out ?_;clear HRUN;refine hK1.out _ _ ⟨by have:=cr (bkp HB8.out HAD.out.1 (lb HAD.out.1)) 0;simpa [← HLN.out] using this,by have:=cr (bkp HB8.out HAD.out.1 (lb HAD.out.1)) 1;simpa using this⟩ (fun hHeld=>?_);clear hK1
    try simp only [sz]
    refine tk 17 rfl hHeld ?_;simp only [Act.put,sx]
    refine wpAnyH_done (by kernel_rfl) ?_ _
    try simp only [sz]
    have hA8:=HAD.out.below HB8.out;have y1:=cr hA8.1 1;have f1:W8.frozen? ⟨P,1,none⟩=false:=frozen_of_arr hA8.1 1;simp at y1;have HA9:Hid (AtR P jn c b o l it1 (W8.setCell ⟨P,1,none⟩ (.int .i64 (jn:Int)))):=dh (hA8.set (by have:=HJN.out;have:=HLN.out;omega));have hk9:∀ j,j≠P→(W8.setCell ⟨P,1,none⟩ (.int .i64 (jn:Int))).heap[j]?=W8.heap[j]?:=fun j hj=>Below.heap_setCell _ _ _ _ hj
    have HN9:=dh ((hk9 B HRP.out).trans (bkp HB8.out HND.out (lb HND.out)));have HB9:=dh ((bw HBD.out HB8.out HBD.out.size).setCell (p:=⟨P,1,none⟩) rfl (.int .i64 (jn:Int)));have HR9:Hid (BR (fun j=>B + 1≤j) (W8.setCell ⟨P,1,none⟩ (.int .i64 (jn:Int))) a8 n t):=dh ((BR.of_ownB HO8.out HTL.out.symm).keep fun j hj hj2=>⟨hk9 j (by have h1:wd.heap.size≤j:=hj;have:=lb HAD.out.1;omega),by have h1:wd.heap.size≤j:=hj;have:=lb HND.out;omega⟩);have HC8:Hid (n≤c8∧c8≤9223372036854775807):=dh (by
     obtain ⟨a',c',e,_,h2,h3⟩:=HO8.out.br;cases e
     exact ⟨by have:=HTL.out;omega,h3⟩)
    clear hHeld hk9 hA8 HO8;go_upto_region 30 with fail
    clear y1 f1;generalize W8.setCell ⟨P,1,none⟩ (.int .i64 (jn:Int))=w9 at *;obtain ⟨r0,r1,r2,r3⟩:=cf HN9.out;obtain ⟨q0,q1,q2,q3⟩:=ff HN9.out;have hq:=It.item_by (d:=d) (f:=f) HRD.out (by have:=HKQ.out;omega) (by have:=HKQ.out;omega) HSH.out (fun h=>by have:=HKQ.out;omega);have HRQ:=dh (hq.trans (by rw [HKQ.out]));clear hq;go_wp2_with fail
    clear r0 r1 r2 r3 q0 q1 q2 q3;obtain ⟨W',hW',⟨g0,g1,g2,g3⟩,hs4,HBW⟩:=pz HN9.out HB9.out (by omega) (.int .i64 2) (.int .u64 0) (.slice a8 n c8) (.slice none 0 0);rw [hW'];clear hW';refine bodyPost_ret (v:=.tuple #[.agg #[.int .i64 2,.int .u64 0,.slice a8 n c8,.slice none 0 0],.int .i64 0]) (by simp [results,Tryz.results107,go_sem,g0,g1,g2,g3]) rfl ?_;rw [HRQ.out,← HTT.out];exact ⟨HBW,⟨a8,n,c8,none,0,0⟩,rfl,IR_iff.2 ⟨by show 0 < _;omega,⟨(HR9.out.keep fun j hj _=>⟨hs4.2 j (by have h1:B + 1≤j:=hj;omega),by have h1:B + 1≤j:=hj;show w.heap.size≤j;omega⟩),HC8.out.1,HC8.out.2⟩,TL.nil _ _ _,by simp,by simp⟩,jn,⟨(hs4.2 P (fun e=>HRP.out e.symm)).trans (by rw [HA9.out.1,HIT.out]),HA9.out.2⟩,by rw [HRJ.out,List.drop_drop,← HJN.out.1]⟩
  ·have HKQ:Hid (cb.toNat / 32=3):=dh (by rw [← HMJ.out];exact h)
   have hM:MJ=3:=by have:=HMJI.out;omega
   subst hM;clear h;have y0:=cr HAC.out.1 0;have y1:=cr HAC.out.1 1;simp at y0 y1;rw [← HLN.out] at y0;have hj0:=HAC.out.2;have hlj:r.length=l.length - j0:=by rw [HRJ.out,List.length_drop]
   obtain ⟨ZZ,hZ⟩:∃ ZZ:Int,ZZ=(N:Int) - (j0:Int):=⟨_,rfl⟩;have hln:=HLN.out;have hz1:IntKind.i64.wrap ((N:Int) - (j0:Int))=ZZ:=by rw [hZ];exact IntWalk.i64_in _ (by omega)
   have hz2:IntKind.u64.wrap ZZ=ZZ:=by show ZZ % 18446744073709551616=ZZ;omega
   by_cases hsh:r.length < n
   ·have hgt:decide (ZZ < (n:Int))=true:=dt (by omega)
    have hgt2:ZZ < (n:Int):=by omega
    have hq:=It.item_short (d:=d) (f:=f) HRD.out (by have:=HKQ.out;omega) (by have:=HKQ.out;omega) hsh;have HRQ:=dh hq;clear hq hsh hlj hj0 hZ hln;go_wp2_with fail
    go_quiet (fail)
    have HND:Hid ((wc.drewN nq).heap[B]?=some (.cells #[.int .i64 0,.int .u64 0,.slice none 0 0,.slice none 0 0] 26 (0,0))):=dh HNC.out;have HBD:=dh (HBC.out.drewN nq);clear y0 y1;generalize wc.drewN nq=wd at *;obtain ⟨r0,r1,r2,r3⟩:=cf HND.out;obtain ⟨q0,q1,q2,q3⟩:=ff HND.out;go_wp2_with fail
    clear r0 r1 r2 r3 q0 q1 q2 q3;obtain ⟨W',hW',⟨g0,g1,g2,g3⟩,hs4,HBW⟩:=pz0 HND.out HBD.out (by omega);rw [hW'];clear hW';refine bodyPost_ret (v:=.tuple #[vz,.int .i64 2]) (by simp [vz,results,Tryz.results107,go_sem,g0,g1,g2,g3]) rfl ?_;rw [HRQ.out];exact ⟨HBW,rfl⟩
   have hgt:decide (ZZ < (n:Int))=false:=df (by omega);have hgt2:¬ ZZ < (n:Int):=by omega
   have hn4:n≤4096:=by omega
   obtain ⟨jn,hjn⟩:∃ jn,jn=j0 + n:=⟨_,rfl⟩;have hwj:IntKind.i64.wrap ((j0:Int) + (n:Int))=(jn:Int):=by rw [IntWalk.i64_in _ (by omega),hjn];omega
   have hwn:IntKind.i64.wrap (n:Int)=(n:Int):=IntWalk.i64_in _ (by omega);have hs1:j0≤jn:=by omega
   have hs2:jn≤c:=by omega
   have hdn:jn - j0=n:=by omega
   obtain ⟨t,ht⟩:∃ t,t=(l.drop j0).take n:=⟨_,rfl⟩;have HTT:Hid (t=r.take n):=dh (by rw [ht,HRJ.out]);have HTL:Hid (t.length=n):=dh (by rw [ht,List.length_take,List.length_drop];omega);have HTT0:=dh ht;have HJN:Hid (jn=j0 + n∧jn≤l.length):=dh (by omega);have HSH:=dh hsh;clear hlj hsh hZ hj0 hjn ht hln;go_wp2_with fail
   go_quiet (fail)
   have HND:Hid ((wc.drewN nq).heap[B]?=some (.cells #[.int .i64 0,.int .u64 0,.slice none 0 0,.slice none 0 0] 26 (0,0))):=dh HNC.out;have HBD:=dh (HBC.out.drewN nq);have HAD:=dh (HAC.out.drewN nq);clear y0 y1;generalize wc.drewN nq=wd at *;go_upto_region 28 with fail
   by_cases hac:c=j0
   ·subst hac
    have hsub:BR (fun _=>True) wd (some ⟨b,o,none⟩) n t:=(by
     have hn0:n=0:=by have:=HJN.out;have:=HLN.out;omega
     have ht0:t=[]:=List.eq_nil_of_length_eq_zero (by rw [HTL.out,hn0]);rw [hn0,ht0];exact BR.nil _ _ _)
    obtain ⟨a8,c8,W8,hrun,hO8,hg8,hx8⟩:=app_bytes wd.drew wd.heap.size (.slice none 0 0) [] (OwnB.nil _ _) (some ⟨b,o,none⟩) n (c - c) t (fun _=>True) (hsub.below (Below.refl _ _).drew) (by simp;omega) (Nat.le_refl _);rw [List.nil_append] at hO8;rw [List.length_nil,Nat.zero_add] at hrun hO8;have HRUN:=dh hrun;have HB8:=dh (show Below wd.heap.size wd W8 from bg (Below.refl wd.heap.size wd).drew (Nat.le_refl _) (OwnB.nil wd.drew wd.heap.size) hg8);have HO8:=dh hO8;clear hsub hrun hO8 hg8 hx8;refine wp_region_held_drew (S:=(fun w'=>w'.cell? ⟨P,0,none⟩=some (.slice (some ⟨b,o,none⟩) N c)∧w'.cell? ⟨P,1,none⟩=some (.int .i64 (c:Int)))) (by kernel_rfl) ⟨by have:=cr (bkp (Below.refl wd.heap.size wd).drew HAD.out.1 (lb HAD.out.1)) 0;simpa [← HLN.out] using this,by have:=cr (bkp (Below.refl wd.heap.size wd).drew HAD.out.1 (lb HAD.out.1)) 1;simpa using this⟩ (fun hHeld=>?_);refine tk 0 rfl hHeld ?_;simp only [Act.put,sx]
    refine tk 1 rfl hHeld ?_;simp only [Act.put,sx]
    refine tk 2 rfl hHeld ?_;simp only [Act.put,sx]
    refine tk 3 rfl hHeld ?_;simp only [Act.put,sx]
    refine tk 4 rfl hHeld ?_;simp only [Act.put,sx]
    refine tk 5 rfl hHeld ?_;simp only [Act.put,sx]
    refine tk 6 rfl hHeld ?_;simp only [Act.put,sx]
    refine tk 7 rfl hHeld ?_;simp only [Act.put,sx]
    refine tk 8 rfl hHeld ?_;simp only [Act.put,sx]
    refine tk 9 rfl hHeld ?_;simp only [Act.put,sx]
    refine tk 10 rfl hHeld ?_;simp only [Act.put,sx]
    refine tk 11 rfl hHeld ?_;simp only [Act.put,sx]
    refine tk 12 rfl hHeld ?_;simp only [Act.put,sx]
    refine tk 13 rfl hHeld ?_;simp only [Act.put,sx]
    refine tk 14 rfl hHeld ?_;simp only [Act.put,sx]
    refine tk 15 rfl hHeld ?_;simp only [Act.put,sx]
    refine ry 16 (by kernel_rfl) rfl fun K1 hK1=>?_
    rw [if_pos (by rfl)];refine wp_app _ _ 23 rfl rfl rfl HRUN.out ?_;clear HRUN;refine hK1.out _ _ ⟨by have:=cr (bkp HB8.out HAD.out.1 (lb HAD.out.1)) 0;simpa [← HLN.out] using this,by have:=cr (bkp HB8.out HAD.out.1 (lb HAD.out.1)) 1;simpa using this⟩ (fun hHeld=>?_);clear hK1
    try simp only [sz]
    refine tk 17 rfl hHeld ?_;simp only [Act.put,sx]
    refine wpAnyH_done (by kernel_rfl) ?_ _
    try simp only [sz]
    have hA8:=HAD.out.below HB8.out;have y1:=cr hA8.1 1;have f1:W8.frozen? ⟨P,1,none⟩=false:=frozen_of_arr hA8.1 1;simp at y1;have HA9:Hid (AtR P jn c b o l it1 (W8.setCell ⟨P,1,none⟩ (.int .i64 (jn:Int)))):=dh (hA8.set (by have:=HJN.out;have:=HLN.out;omega));have hk9:∀ j,j≠P→(W8.setCell ⟨P,1,none⟩ (.int .i64 (jn:Int))).heap[j]?=W8.heap[j]?:=fun j hj=>Below.heap_setCell _ _ _ _ hj
    have HN9:=dh ((hk9 B HRP.out).trans (bkp HB8.out HND.out (lb HND.out)));have HB9:=dh ((bw HBD.out HB8.out HBD.out.size).setCell (p:=⟨P,1,none⟩) rfl (.int .i64 (jn:Int)));have HR9:Hid (BR (fun j=>B + 1≤j) (W8.setCell ⟨P,1,none⟩ (.int .i64 (jn:Int))) a8 n t):=dh ((BR.of_ownB HO8.out HTL.out.symm).keep fun j hj hj2=>⟨hk9 j (by have h1:wd.heap.size≤j:=hj;have:=lb HAD.out.1;omega),by have h1:wd.heap.size≤j:=hj;have:=lb HND.out;omega⟩);have HC8:Hid (n≤c8∧c8≤9223372036854775807):=dh (by
     obtain ⟨a',c',e,_,h2,h3⟩:=HO8.out.br;cases e
     exact ⟨by have:=HTL.out;omega,h3⟩)
    clear hHeld hk9 hA8 HO8;go_upto_region 30 with fail
    clear y1 f1;generalize W8.setCell ⟨P,1,none⟩ (.int .i64 (jn:Int))=w9 at *;obtain ⟨r0,r1,r2,r3⟩:=cf HN9.out;obtain ⟨q0,q1,q2,q3⟩:=ff HN9.out;cases hdv:Lib.validD t with
    | true=>
      have HCV:=dh (valid_any (c:=c8) (But.env HE0.out HB9.out HP1.out) HR9.out HC8.out.1 true hdv);have hq:=It.item_by (d:=d) (f:=f) HRD.out (by have:=HKQ.out;omega) (by have:=HKQ.out;omega) HSH.out (fun h=>by rw [← HTT.out];exact hdv);have HRQ:=dh (hq.trans (by rw [HKQ.out]));clear hq hdv;go_wp2_with fail
      refine HCV.out.mono ?_;rintro e v10 ⟨rfl,B10⟩;have HN10:=kp B10 HN9;have HB10:=dh (bw HB9.out B10 HB9.out.size);have HR10:=dh (HR9.out.below B10);have HA10:=dh (HA9.out.below B10);clear B10 r0 r1 r2 r3 q0 q1 q2 q3 HCV;obtain ⟨r0,r1,r2,r3⟩:=cf HN10.out;obtain ⟨q0,q1,q2,q3⟩:=ff HN10.out;go_wp2_with fail
      clear r0 r1 r2 r3 q0 q1 q2 q3;obtain ⟨W',hW',⟨g0,g1,g2,g3⟩,hs4,HBW⟩:=pz HN10.out HB10.out (by omega) (.int .i64 3) (.int .u64 0) (.slice a8 n c8) (.slice none 0 0);rw [hW'];clear hW';refine bodyPost_ret (v:=.tuple #[.agg #[.int .i64 3,.int .u64 0,.slice a8 n c8,.slice none 0 0],.int .i64 0]) (by simp [results,Tryz.results107,go_sem,g0,g1,g2,g3]) rfl ?_;rw [HRQ.out,← HTT.out];exact ⟨HBW,⟨a8,n,c8,none,0,0⟩,rfl,IR_iff.2 ⟨by show 0 < _;omega,⟨(HR10.out.keep fun j hj _=>⟨hs4.2 j (by have h1:B + 1≤j:=hj;omega),by have h1:B + 1≤j:=hj;show w.heap.size≤j;omega⟩),HC8.out.1,HC8.out.2⟩,TL.nil _ _ _,by simp,by simp⟩,jn,⟨(hs4.2 P (fun e=>HRP.out e.symm)).trans (by rw [HA10.out.1,HIT.out]),HA9.out.2⟩,by rw [HRJ.out,List.drop_drop,← HJN.out.1]⟩
    | false=>
      have HCV:=dh (valid_any (c:=c8) (But.env HE0.out HB9.out HP1.out) HR9.out HC8.out.1 false hdv);have hq:=It.item_bad (d:=d) (f:=f) HRD.out HKQ.out HSH.out (by rw [← HTT.out];exact hdv);have HRQ:=dh hq;clear hq hdv;go_wp2_with fail
      refine HCV.out.mono ?_;rintro e v10 ⟨rfl,B10⟩;have HN10:=kp B10 HN9;have HB10:=dh (bw HB9.out B10 HB9.out.size);clear B10 r0 r1 r2 r3 q0 q1 q2 q3 HCV;obtain ⟨r0,r1,r2,r3⟩:=cf HN10.out;obtain ⟨q0,q1,q2,q3⟩:=ff HN10.out;go_wp2_with fail
      clear r0 r1 r2 r3 q0 q1 q2 q3;obtain ⟨W',hW',⟨g0,g1,g2,g3⟩,hs4,HBW⟩:=pz0 HN10.out HB10.out (by omega);rw [hW'];clear hW';refine bodyPost_ret (v:=.tuple #[vz,.int .i64 5]) (by simp [vz,results,Tryz.results107,go_sem,g0,g1,g2,g3]) rfl ?_;rw [HRQ.out];exact ⟨HBW,rfl⟩
   ·have hac2:¬ c=j0:=hac
    have hsub:BR (fun _=>True) wd (some ⟨b,o + j0,none⟩) n t:=(by
     obtain ⟨h1,h2,h3⟩:=HRW.out.sep HBD.out;refine ⟨HTL.out.symm,by omega,fun i hi=>?_⟩;obtain ⟨b',o',e,hb,hc'⟩:=h3 (j0 + i) (by have:=HTL.out;have:=HJN.out;omega);cases e
     refine ⟨b,o + j0,rfl,trivial,?_⟩;have e2:t[i]=l[j0 + i]'(by have:=HTL.out;have:=HJN.out;omega):=by have:=HTT0.out;subst this;simp
     rw [e2,Nat.add_assoc];exact hc')
    obtain ⟨a8,c8,W8,hrun,hO8,hg8,hx8⟩:=app_bytes wd.drew wd.heap.size (.slice none 0 0) [] (OwnB.nil _ _) (some ⟨b,o + j0,none⟩) n (c - j0) t (fun _=>True) (hsub.below (Below.refl _ _).drew) (by simp;omega) (Nat.le_refl _);rw [List.nil_append] at hO8;rw [List.length_nil,Nat.zero_add] at hrun hO8;have HRUN:=dh hrun;have HB8:=dh (show Below wd.heap.size wd W8 from bg (Below.refl wd.heap.size wd).drew (Nat.le_refl _) (OwnB.nil wd.drew wd.heap.size) hg8);have HO8:=dh hO8;clear hsub hrun hO8 hg8 hx8;refine wp_region_held_drew (S:=(fun w'=>w'.cell? ⟨P,0,none⟩=some (.slice (some ⟨b,o,none⟩) N c)∧w'.cell? ⟨P,1,none⟩=some (.int .i64 (j0:Int)))) (by kernel_rfl) ⟨by have:=cr (bkp (Below.refl wd.heap.size wd).drew HAD.out.1 (lb HAD.out.1)) 0;simpa [← HLN.out] using this,by have:=cr (bkp (Below.refl wd.heap.size wd).drew HAD.out.1 (lb HAD.out.1)) 1;simpa using this⟩ (fun hHeld=>?_);refine tk 0 rfl hHeld ?_;simp only [Act.put,sx]
    refine tk 1 rfl hHeld ?_;simp only [Act.put,sx]
    refine tk 2 rfl hHeld ?_;simp only [Act.put,sx]
    refine tk 3 rfl hHeld ?_;simp only [Act.put,sx]
    refine tk 4 rfl hHeld ?_;simp only [Act.put,sx]
    refine tk 5 rfl hHeld ?_;simp only [Act.put,sx]
    refine tk 6 rfl hHeld ?_;simp only [Act.put,sx]
    refine tk 7 rfl hHeld ?_;simp only [Act.put,sx]
    refine tk 8 rfl hHeld ?_;simp only [Act.put,sx]
    refine tk 9 rfl hHeld ?_;simp only [Act.put,sx]
    refine tk 10 rfl hHeld ?_;simp only [Act.put,sx]
    refine tk 11 rfl hHeld ?_;simp only [Act.put,sx]
    refine tk 12 rfl hHeld ?_;simp only [Act.put,sx]
    refine tk 13 rfl hHeld ?_;simp only [Act.put,sx]
    refine tk 14 rfl hHeld ?_;simp only [Act.put,sx]
    refine tk 15 rfl hHeld ?_;simp only [Act.put,sx]
    refine ry 16 (by kernel_rfl) rfl fun K1 hK1=>?_
    rw [if_pos (by rfl)];refine wp_app _ _ 23 rfl rfl rfl HRUN.out ?_;clear HRUN;refine hK1.out _ _ ⟨by have:=cr (bkp HB8.out HAD.out.1 (lb HAD.out.1)) 0;simpa [← HLN.out] using this,by have:=cr (bkp HB8.out HAD.out.1 (lb HAD.out.1)) 1;simpa using this⟩ (fun hHeld=>?_);clear hK1
    try simp only [sz]
    refine tk 17 rfl hHeld ?_;simp only [Act.put,sx]
    refine wpAnyH_done (by kernel_rfl) ?_ _
    try simp only [sz]
    have hA8:=HAD.out.below HB8.out;have y1:=cr hA8.1 1;have f1:W8.frozen? ⟨P,1,none⟩=false:=frozen_of_arr hA8.1 1;simp at y1;have HA9:Hid (AtR P jn c b o l it1 (W8.setCell ⟨P,1,none⟩ (.int .i64 (jn:Int)))):=dh (hA8.set (by have:=HJN.out;have:=HLN.out;omega));have hk9:∀ j,j≠P→(W8.setCell ⟨P,1,none⟩ (.int .i64 (jn:Int))).heap[j]?=W8.heap[j]?:=fun j hj=>Below.heap_setCell _ _ _ _ hj
    have HN9:=dh ((hk9 B HRP.out).trans (bkp HB8.out HND.out (lb HND.out)));have HB9:=dh ((bw HBD.out HB8.out HBD.out.size).setCell (p:=⟨P,1,none⟩) rfl (.int .i64 (jn:Int)));have HR9:Hid (BR (fun j=>B + 1≤j) (W8.setCell ⟨P,1,none⟩ (.int .i64 (jn:Int))) a8 n t):=dh ((BR.of_ownB HO8.out HTL.out.symm).keep fun j hj hj2=>⟨hk9 j (by have h1:wd.heap.size≤j:=hj;have:=lb HAD.out.1;omega),by have h1:wd.heap.size≤j:=hj;have:=lb HND.out;omega⟩);have HC8:Hid (n≤c8∧c8≤9223372036854775807):=dh (by
     obtain ⟨a',c',e,_,h2,h3⟩:=HO8.out.br;cases e
     exact ⟨by have:=HTL.out;omega,h3⟩)
    clear hHeld hk9 hA8 HO8;go_upto_region 30 with fail
    clear y1 f1;generalize W8.setCell ⟨P,1,none⟩ (.int .i64 (jn:Int))=w9 at *;obtain ⟨r0,r1,r2,r3⟩:=cf HN9.out;obtain ⟨q0,q1,q2,q3⟩:=ff HN9.out;cases hdv:Lib.validD t with
    | true=>
      have HCV:=dh (valid_any (c:=c8) (But.env HE0.out HB9.out HP1.out) HR9.out HC8.out.1 true hdv);have hq:=It.item_by (d:=d) (f:=f) HRD.out (by have:=HKQ.out;omega) (by have:=HKQ.out;omega) HSH.out (fun h=>by rw [← HTT.out];exact hdv);have HRQ:=dh (hq.trans (by rw [HKQ.out]));clear hq hdv;go_wp2_with fail
      refine HCV.out.mono ?_;rintro e v10 ⟨rfl,B10⟩;have HN10:=kp B10 HN9;have HB10:=dh (bw HB9.out B10 HB9.out.size);have HR10:=dh (HR9.out.below B10);have HA10:=dh (HA9.out.below B10);clear B10 r0 r1 r2 r3 q0 q1 q2 q3 HCV;obtain ⟨r0,r1,r2,r3⟩:=cf HN10.out;obtain ⟨q0,q1,q2,q3⟩:=ff HN10.out;go_wp2_with fail
      clear r0 r1 r2 r3 q0 q1 q2 q3;obtain ⟨W',hW',⟨g0,g1,g2,g3⟩,hs4,HBW⟩:=pz HN10.out HB10.out (by omega) (.int .i64 3) (.int .u64 0) (.slice a8 n c8) (.slice none 0 0);rw [hW'];clear hW';refine bodyPost_ret (v:=.tuple #[.agg #[.int .i64 3,.int .u64 0,.slice a8 n c8,.slice none 0 0],.int .i64 0]) (by simp [results,Tryz.results107,go_sem,g0,g1,g2,g3]) rfl ?_;rw [HRQ.out,← HTT.out];exact ⟨HBW,⟨a8,n,c8,none,0,0⟩,rfl,IR_iff.2 ⟨by show 0 < _;omega,⟨(HR10.out.keep fun j hj _=>⟨hs4.2 j (by have h1:B + 1≤j:=hj;omega),by have h1:B + 1≤j:=hj;show w.heap.size≤j;omega⟩),HC8.out.1,HC8.out.2⟩,TL.nil _ _ _,by simp,by simp⟩,jn,⟨(hs4.2 P (fun e=>HRP.out e.symm)).trans (by rw [HA10.out.1,HIT.out]),HA9.out.2⟩,by rw [HRJ.out,List.drop_drop,← HJN.out.1]⟩
    | false=>
      have HCV:=dh (valid_any (c:=c8) (But.env HE0.out HB9.out HP1.out) HR9.out HC8.out.1 false hdv);have hq:=It.item_bad (d:=d) (f:=f) HRD.out HKQ.out HSH.out (by rw [← HTT.out];exact hdv);have HRQ:=dh hq;clear hq hdv;go_wp2_with fail
      refine HCV.out.mono ?_;rintro e v10 ⟨rfl,B10⟩;have HN10:=kp B10 HN9;have HB10:=dh (bw HB9.out B10 HB9.out.size);clear B10 r0 r1 r2 r3 q0 q1 q2 q3 HCV;obtain ⟨r0,r1,r2,r3⟩:=cf HN10.out;obtain ⟨q0,q1,q2,q3⟩:=ff HN10.out;go_wp2_with fail
      clear r0 r1 r2 r3 q0 q1 q2 q3;obtain ⟨W',hW',⟨g0,g1,g2,g3⟩,hs4,HBW⟩:=pz0 HN10.out HB10.out (by omega);rw [hW'];clear hW';refine bodyPost_ret (v:=.tuple #[vz,.int .i64 5]) (by simp [vz,results,Tryz.results107,go_sem,g0,g1,g2,g3]) rfl ?_;rw [HRQ.out];exact ⟨HBW,rfl⟩
  ·have HKQ:Hid (cb.toNat / 32=4):=dh (by rw [← HMJ.out];exact h)
   have hM:MJ=4:=by have:=HMJI.out;omega
   subst hM;clear h;by_cases h8:8≤lv
   ·have h8b:decide (8≤lv)=true:=dt h8
    have hd0:d=0:=by have:=HLV.out;omega
    subst hd0;have HRQ:=dh (It.item_lv (f:=f) HRD.out (by have:=HKQ.out;omega) (by have:=HKQ.out;omega));obtain ⟨r0,r1,r2,r3⟩:=cf HNC.out;obtain ⟨q0,q1,q2,q3⟩:=ff HNC.out;go_wp2_with fail
    clear r0 r1 r2 r3 q0 q1 q2 q3;obtain ⟨W',hW',⟨g0,g1,g2,g3⟩,hs4,HBW⟩:=pz0 HNC.out HBC.out (by omega);rw [hW'];clear hW';refine bodyPost_ret (v:=.tuple #[vz,.int .i64 8]) (by simp [vz,results,Tryz.results107,go_sem,g0,g1,g2,g3]) rfl ?_;rw [HRQ.out];exact ⟨HBW,rfl⟩
   have h8b:decide (8≤lv)=false:=df h8;obtain ⟨d1,hd1⟩:∃ d1,d=d1 + 1:=⟨d - 1,by have:=HLV.out;omega⟩;subst hd1;have hpc:=HPC.out d1 rfl;have hrc:=relem_4 P j0 c b o l f n it1 lv wc HAC.out (HRW.out.sep HBC.out) hc hN HIT.out HF.out HNB.out d1 (by have:=HLV.out;omega) (by have:=HLV.out;omega) hpc HP1.out (But.env HE0.out HBC.out HP1.out) _ rfl;rw [← HRJ.out] at hrc;have hq:It.item (d1 + 1) (f + 1) (l.drop k)=(It.seqN (It.item d1) n f r).map (fun x=>It.mk 4 0 [] x):=It.item_list HRD.out HKQ.out;obtain ⟨R,hRe⟩:∃ R,R=(It.seqN (It.item d1) n f r).map (fun x=>It.mk 4 0 [] x):=⟨_,rfl⟩;have HCe:Hid (Calls Tryz.prog 139 #[.pointer (some ⟨P,0,none⟩),.int .i64 4,.int .u64 (n:Int),.int .i64 lv] wc (RdP P c b o l wc R)):=dh (by rw [hRe];exact hrc);have HRQ:=dh (hq.trans hRe.symm);clear hpc hrc hq hRe;go_wp2_with fail
   refine HCe.out.mono ?_;rintro e u6 ⟨hB6,h6⟩;clear HCe;have HN6:=dh ((hB6.block B (lb HNC.out) HRP.out).trans HNC.out);have HB6:=dh (bt HBC.out hB6);have HSU:Hid (w.heap.size≤wc.heap.size∧B < wc.heap.size∧P≠B):=dh ⟨HBC.out.size,lb HNC.out,fun e=>HRP.out e.symm⟩;clear hB6;obtain ⟨r0,r1,r2,r3⟩:=cf HN6.out;obtain ⟨q0,q1,q2,q3⟩:=ff HN6.out;cases R with
   | err er=>
     obtain rfl:=h6;go_wp2_with fail
     clear r0 r1 r2 r3 q0 q1 q2 q3;obtain ⟨W',hW',⟨g0,g1,g2,g3⟩,hs4,HBW⟩:=pz0 HN6.out HB6.out (by omega);rw [hW'];clear hW';refine bodyPost_ret (v:=.tuple #[vz,.int .i64 (er:Int)]) (by simp [vz,results,Tryz.results107,go_sem,g0,g1,g2,g3]) rfl ?_;rw [HRQ.out];exact ⟨HBW,rfl⟩
   | ok x f9 s9=>
     obtain ⟨A,rfl,hIR,j6,hA6,hs6⟩:=h6;have HIR:=dh hIR;have HA6:=dh hA6;have HS6:=dh hs6;clear hIR hA6 hs6;go_wp2_with fail
     clear r0 r1 r2 r3 q0 q1 q2 q3;obtain ⟨W',hW',⟨g0,g1,g2,g3⟩,hs4,HBW⟩:=pz HN6.out HB6.out (by omega) (.int .i64 x.kind) (.int .u64 (x.num:Int)) (.slice A.ab A.nb A.cb) (.slice A.ai A.ni A.ci);rw [hW'];clear hW';refine bodyPost_ret (v:=.tuple #[(v4 x A),.int .i64 0]) (by simp [v4,results,Tryz.results107,go_sem,g0,g1,g2,g3]) rfl ?_;rw [HRQ.out];have hzz:=HSU.out;exact ⟨HBW,A,rfl,HIR.out.keep (fun q hq _=>⟨hs4.2 q (by have h1:wc.heap.size≤q:=hq;omega),by have h1:wc.heap.size≤q:=hq;show w.heap.size≤q;omega⟩),j6,⟨(hs4.2 P hzz.2.2).trans HA6.out.1,HA6.out.2⟩,HS6.out⟩
  ·have HKQ:Hid (cb.toNat / 32=5):=dh (by rw [← HMJ.out];exact h)
   have hM:MJ=5:=by have:=HMJI.out;omega
   subst hM;clear h;by_cases h8:8≤lv
   ·have h8b:decide (8≤lv)=true:=dt h8
    have hd0:d=0:=by have:=HLV.out;omega
    subst hd0;have HRQ:=dh (It.item_lv (f:=f) HRD.out (by have:=HKQ.out;omega) (by have:=HKQ.out;omega));obtain ⟨r0,r1,r2,r3⟩:=cf HNC.out;obtain ⟨q0,q1,q2,q3⟩:=ff HNC.out;go_wp2_with fail
    clear r0 r1 r2 r3 q0 q1 q2 q3;obtain ⟨W',hW',⟨g0,g1,g2,g3⟩,hs4,HBW⟩:=pz0 HNC.out HBC.out (by omega);rw [hW'];clear hW';refine bodyPost_ret (v:=.tuple #[vz,.int .i64 8]) (by simp [vz,results,Tryz.results107,go_sem,g0,g1,g2,g3]) rfl ?_;rw [HRQ.out];exact ⟨HBW,rfl⟩
   have h8b:decide (8≤lv)=false:=df h8;obtain ⟨d1,hd1⟩:∃ d1,d=d1 + 1:=⟨d - 1,by have:=HLV.out;omega⟩;subst hd1;have hpc:=HPC.out d1 rfl;have hrc:=relem_5 P j0 c b o l f n it1 lv wc HAC.out (HRW.out.sep HBC.out) hc hN HIT.out HF.out HNB.out d1 (by have:=HLV.out;omega) (by have:=HLV.out;omega) hpc HP1.out (But.env HE0.out HBC.out HP1.out) _ rfl;rw [← HRJ.out] at hrc;have hq:It.item (d1 + 1) (f + 1) (l.drop k)=(It.prsN (It.item d1) none n f r).map (fun x=>It.mk 5 0 [] x):=It.item_map HRD.out HKQ.out;obtain ⟨R,hRe⟩:∃ R,R=(It.prsN (It.item d1) none n f r).map (fun x=>It.mk 5 0 [] x):=⟨_,rfl⟩;have HCe:Hid (Calls Tryz.prog 139 #[.pointer (some ⟨P,0,none⟩),.int .i64 5,.int .u64 (n:Int),.int .i64 lv] wc (RdP P c b o l wc R)):=dh (by rw [hRe];exact hrc);have HRQ:=dh (hq.trans hRe.symm);clear hpc hrc hq hRe;go_wp2_with fail
   refine HCe.out.mono ?_;rintro e u6 ⟨hB6,h6⟩;clear HCe;have HN6:=dh ((hB6.block B (lb HNC.out) HRP.out).trans HNC.out);have HB6:=dh (bt HBC.out hB6);have HSU:Hid (w.heap.size≤wc.heap.size∧B < wc.heap.size∧P≠B):=dh ⟨HBC.out.size,lb HNC.out,fun e=>HRP.out e.symm⟩;clear hB6;obtain ⟨r0,r1,r2,r3⟩:=cf HN6.out;obtain ⟨q0,q1,q2,q3⟩:=ff HN6.out;cases R with
   | err er=>
     obtain rfl:=h6;go_wp2_with fail
     clear r0 r1 r2 r3 q0 q1 q2 q3;obtain ⟨W',hW',⟨g0,g1,g2,g3⟩,hs4,HBW⟩:=pz0 HN6.out HB6.out (by omega);rw [hW'];clear hW';refine bodyPost_ret (v:=.tuple #[vz,.int .i64 (er:Int)]) (by simp [vz,results,Tryz.results107,go_sem,g0,g1,g2,g3]) rfl ?_;rw [HRQ.out];exact ⟨HBW,rfl⟩
   | ok x f9 s9=>
     obtain ⟨A,rfl,hIR,j6,hA6,hs6⟩:=h6;have HIR:=dh hIR;have HA6:=dh hA6;have HS6:=dh hs6;clear hIR hA6 hs6;go_wp2_with fail
     clear r0 r1 r2 r3 q0 q1 q2 q3;obtain ⟨W',hW',⟨g0,g1,g2,g3⟩,hs4,HBW⟩:=pz HN6.out HB6.out (by omega) (.int .i64 x.kind) (.int .u64 (x.num:Int)) (.slice A.ab A.nb A.cb) (.slice A.ai A.ni A.ci);rw [hW'];clear hW';refine bodyPost_ret (v:=.tuple #[(v4 x A),.int .i64 0]) (by simp [v4,results,Tryz.results107,go_sem,g0,g1,g2,g3]) rfl ?_;rw [HRQ.out];have hzz:=HSU.out;exact ⟨HBW,A,rfl,HIR.out.keep (fun q hq _=>⟨hs4.2 q (by have h1:wc.heap.size≤q:=hq;omega),by have h1:wc.heap.size≤q:=hq;show w.heap.size≤q;omega⟩),j6,⟨(hs4.2 P hzz.2.2).trans HA6.out.1,HA6.out.2⟩,HS6.out⟩
  ·have HKQ:Hid (cb.toNat / 32=6):=dh (by rw [← HMJ.out];exact h)
   have hM:MJ=6:=by have:=HMJI.out;omega
   subst hM;clear h;by_cases h8:8≤lv
   ·have h8b:decide (8≤lv)=true:=dt h8
    have hd0:d=0:=by have:=HLV.out;omega
    subst hd0;have HRQ:=dh (It.item_lv (f:=f) HRD.out (by have:=HKQ.out;omega) (by have:=HKQ.out;omega));obtain ⟨r0,r1,r2,r3⟩:=cf HNC.out;obtain ⟨q0,q1,q2,q3⟩:=ff HNC.out;go_wp2_with fail
    clear r0 r1 r2 r3 q0 q1 q2 q3;obtain ⟨W',hW',⟨g0,g1,g2,g3⟩,hs4,HBW⟩:=pz0 HNC.out HBC.out (by omega);rw [hW'];clear hW';refine bodyPost_ret (v:=.tuple #[vz,.int .i64 8]) (by simp [vz,results,Tryz.results107,go_sem,g0,g1,g2,g3]) rfl ?_;rw [HRQ.out];exact ⟨HBW,rfl⟩
   have h8b:decide (8≤lv)=false:=df h8;obtain ⟨d1,hd1⟩:∃ d1,d=d1 + 1:=⟨d - 1,by have:=HLV.out;omega⟩;subst hd1;have hpc:=HPC.out d1 rfl;have hrc:=relem_6 P j0 c b o l f n it1 lv wc HAC.out (HRW.out.sep HBC.out) hc hN HIT.out HF.out HNB.out d1 (by have:=HLV.out;omega) (by have:=HLV.out;omega) hpc HP1.out (But.env HE0.out HBC.out HP1.out) _ rfl;rw [← HRJ.out] at hrc;have hq:It.item (d1 + 1) (f + 1) (l.drop k)=(It.seqN (It.item d1) 1 f r).map (fun x=>It.mk 6 n [] x):=It.item_tag1 HRD.out HKQ.out;obtain ⟨R,hRe⟩:∃ R,R=(It.seqN (It.item d1) 1 f r).map (fun x=>It.mk 6 n [] x):=⟨_,rfl⟩;have HCe:Hid (Calls Tryz.prog 139 #[.pointer (some ⟨P,0,none⟩),.int .i64 6,.int .u64 (n:Int),.int .i64 lv] wc (RdP P c b o l wc R)):=dh (by rw [hRe];exact hrc);have HRQ:=dh (hq.trans hRe.symm);clear hpc hrc hq hRe;go_wp2_with fail
   refine HCe.out.mono ?_;rintro e u6 ⟨hB6,h6⟩;clear HCe;have HN6:=dh ((hB6.block B (lb HNC.out) HRP.out).trans HNC.out);have HB6:=dh (bt HBC.out hB6);have HSU:Hid (w.heap.size≤wc.heap.size∧B < wc.heap.size∧P≠B):=dh ⟨HBC.out.size,lb HNC.out,fun e=>HRP.out e.symm⟩;clear hB6;obtain ⟨r0,r1,r2,r3⟩:=cf HN6.out;obtain ⟨q0,q1,q2,q3⟩:=ff HN6.out;cases R with
   | err er=>
     obtain rfl:=h6;go_wp2_with fail
     clear r0 r1 r2 r3 q0 q1 q2 q3;obtain ⟨W',hW',⟨g0,g1,g2,g3⟩,hs4,HBW⟩:=pz0 HN6.out HB6.out (by omega);rw [hW'];clear hW';refine bodyPost_ret (v:=.tuple #[vz,.int .i64 (er:Int)]) (by simp [vz,results,Tryz.results107,go_sem,g0,g1,g2,g3]) rfl ?_;rw [HRQ.out];exact ⟨HBW,rfl⟩
   | ok x f9 s9=>
     obtain ⟨A,rfl,hIR,j6,hA6,hs6⟩:=h6;have HIR:=dh hIR;have HA6:=dh hA6;have HS6:=dh hs6;clear hIR hA6 hs6;go_wp2_with fail
     clear r0 r1 r2 r3 q0 q1 q2 q3;obtain ⟨W',hW',⟨g0,g1,g2,g3⟩,hs4,HBW⟩:=pz HN6.out HB6.out (by omega) (.int .i64 x.kind) (.int .u64 (x.num:Int)) (.slice A.ab A.nb A.cb) (.slice A.ai A.ni A.ci);rw [hW'];clear hW';refine bodyPost_ret (v:=.tuple #[(v4 x A),.int .i64 0]) (by simp [v4,results,Tryz.results107,go_sem,g0,g1,g2,g3]) rfl ?_;rw [HRQ.out];have hzz:=HSU.out;exact ⟨HBW,A,rfl,HIR.out.keep (fun q hq _=>⟨hs4.2 q (by have h1:wc.heap.size≤q:=hq;omega),by have h1:wc.heap.size≤q:=hq;show w.heap.size≤q;omega⟩),j6,⟨(hs4.2 P hzz.2.2).trans HA6.out.1,HA6.out.2⟩,HS6.out⟩
theorem rd_any:∀ d,d≤8→RdC d
 | d,hd=>fun P k c b o l f it lv w hA hR hc hN hit hf hlv hP1 hE=>by
   have hk:=hA.2;cases f with
   | zero=>
     rw [item_zero];exact (ritem_full P k c b o l it lv w hA hR (by omega)).mono fun e w' h=>⟨h.1,h.2⟩
   | succ f=>
     by_cases hke:k=l.length
     ·have hr:It.readHead (l.drop k)=.err 2:=by rw [hke,List.drop_length];rfl
      rw [item_hd hr];exact (ritem_end P k c b o f l it lv w hA hR hc hN (by omega) (by omega) hke).mono fun e w' h=>⟨h.1,h.2⟩
     ·exact ritem_main P k c b o f l it lv w hA hR hc hN (by omega) (by omega) (by omega) (by omega) d hd hlv (fun d' h=>by subst h;exact rd_any d' (by omega)) hP1 hE
 termination_by d=>d
theorem ritem_e (P c:Nat) (a:Option Addr) (it lv:Int) (w:World) (hA:w.heap[P]?=some (.cells #[.slice a 0 c,.int .i64 0,.int .i64 it] 125 (0,0))) (hi:0≤it) (hi2:it < 256):
 Calls Tryz.prog 107 #[.pointer (some ⟨P,0,none⟩),.int .i64 lv] w fun e w'=>But P w w'∧NoItem 2 e:=by
 have P0:=al w o4z;have HN0:=dh (aw w o4z);have hPl:=lb hA;have HA1:=dh (bkp P0 hA hPl);have HB1:=dh (bob (b:=P) P0);have hRP:w.heap.size≠P:=by omega
 have x2:=cr HA1.out 2;have f2:(w.alloc o4z).frozen? ⟨P,2,none⟩=false:=frozen_of_arr HA1.out 2;simp at x2;have hge:¬ (256:Int)≤it:=by omega
 have hgeb:decide ((256:Int)≤it)=false:=df hge;obtain ⟨it1,hit1⟩:∃ it1,it1=it + 1:=⟨_,rfl⟩;have hw:IntKind.i64.wrap (it + 1)=it1:=by rw [hit1];exact IntWalk.i64_in _ (by omega)
 clear hA P0 hPl hit1;go_enter Tryz.func107,Tryz.ntmps107
 go_upto_region 3 with fail
 generalize w.alloc _=w1 at *;generalize hBq:w.heap.size=B at *;have HA2:Hid ((w1.setCell ⟨P,2,none⟩ (.int .i64 it1)).heap[P]?=some (.cells #[.slice a 0 c,.int .i64 0,.int .i64 it1] 125 (0,0))):=dh (by have:=sar HA1.out 2 (.int .i64 it1);simpa using this);have HB2:Hid (But P w (w1.setCell ⟨P,2,none⟩ (.int .i64 it1))):=dh (HB1.out.setCell (p:=⟨P,2,none⟩) rfl _);have HN2:=dh ((Below.heap_setCell w1 ⟨P,2,none⟩ (.int .i64 it1) B hRP).trans HN0.out);go_upto_region 4 with fail
 clear x2 f2;generalize w1.setCell ⟨P,2,none⟩ (.int .i64 it1)=w2 at *;have x0:=cr HA2.out 0;have x1:=cr HA2.out 1;simp at x0 x1
 go_quiet (fail)
 have HN3:Hid ((w2.drewN nq).heap[B]?=some o4z):=dh HN2.out;have HB3:=dh (HB2.out.drewN nq);clear x0 x1;generalize w2.drewN nq=w3 at *;obtain ⟨r0,r1,r2,r3⟩:=cf HN3.out;have q:=ff HN3.out;go_wp2_with fail
 clear r0 r1 r2 r3 q;obtain ⟨W',hW',⟨g0,g1,g2,g3⟩,hs4,HBW⟩:=pz0 HN3.out HB3.out (by omega);rw [hW'];clear hW';refine bodyPost_ret (v:=.tuple #[vz,.int .i64 2]) (by simp [vz,results,Tryz.results107,go_sem,g0,g1,g2,g3]) rfl ?_;exact ⟨HBW,rfl⟩
def ItemR (P:Nat) (sl:Value) (l:List UInt8) (w:World) (r:It.PR It) (e:Ending) (w':World):Prop:=But P w w'∧match r with
 | .err er=>er≠0∧NoItem er e
 | .ok x _ s=>∃ A:Ad,e=.returned (.tuple #[.agg #[.int .i64 x.kind,.int .u64 (x.num:Int),.slice A.ab A.nb A.cb,.slice A.ai A.ni A.ci],.int .i64 0])∧IR (fun j=>w.heap.size≤j) w' x A∧∃ (j:Nat) (it:Int),w'.heap[P]?=some (.cells #[sl,.int .i64 (j:Int),.int .i64 it] 125 (0,0))∧j≤l.length∧s=l.drop j
theorem ritem_top (P c N:Nat) (a:Option Addr) (l:List UInt8) (w:World) (hP:w.heap[P]?=some (.cells #[.slice a N c,.int .i64 0,.int .i64 0] 125 (0,0))) (hR:BR (fun b=>b≠P) w a N l) (hc:N≤c) (hN:N≤4096) (hP1:1 < P) (hE:Env w):
 Calls Tryz.prog 107 #[.pointer (some ⟨P,0,none⟩),.int .i64 0] w (ItemR P (.slice a N c) l w (It.item 8 256 l)):=by
 have hlen:=hR.1;rcases Nat.eq_zero_or_pos N with h0 | h0
 ·have hl:l=[]:=List.length_eq_zero_iff.1 (by omega)
  subst hl;subst h0;exact (ritem_e P c a 0 0 w hP (by omega) (by omega)).mono fun e w' h=>⟨h.1,by decide,h.2⟩
 ·obtain ⟨b,o,rfl,_,_⟩:=hR.2.2 0 (by omega)
  subst hlen;refine (rd_any 8 (by omega) P 0 c b o l 256 0 0 w ⟨hP,Nat.zero_le _⟩ hR hc hN (by omega) (by omega) (by omega) hP1 hE).mono fun e w' h=>?_
  rw [List.drop_zero] at h;refine ⟨h.1,?_⟩;have h2:=h.2;cases hr:It.item 8 256 l with
  | err er=>
    rw [hr] at h2;exact ⟨It.item_errs _ _ _ _ hr,h2⟩
  | ok x f s=>
    rw [hr] at h2;obtain ⟨A,h3,h4,j,h5,h6⟩:=h2;exact ⟨A,h3,h4,j,_,h5.1,h5.2,h6⟩
theorem rprefix_any (l:List UInt8) (a:Option Addr) (n c:Nat) (w:World) (ok:Nat→Prop) (hR:BR ok w a n l) (hc:n≤c) (hcm:c≤9223372036854775807) (hE:Env w):
 Calls Tryz.prog 57 #[.slice a n c] w (PrefP (l.take 4096) (It.prefixP l) w):=by
 have h1:=hE.lt;obtain ⟨N,hN⟩:∃ N,N=min n 4096:=⟨_,rfl⟩;obtain ⟨P0,N0⟩:=an w o4z;have P1:=al (w.alloc o4z) (.cells #[.slice a N c,.int .i64 0,.int .i64 0] 125);have hsz0:(w.alloc o4z).heap.size=w.heap.size + 1:=by simp
 have N1:=alloc_new' (w.alloc o4z) (.cells #[.slice a N c,.int .i64 0,.int .i64 0] 125) (w.heap.size + 1) hsz0.symm;have hR1:BR (fun q=>q≠w.heap.size + 1) ((w.alloc o4z).alloc (.cells #[.slice a N c,.int .i64 0,.int .i64 0] 125)) a N (l.take 4096):=by
  have:=hR.1;refine ⟨by rw [List.length_take];omega,by omega,fun i hi=>?_⟩;have hi':i < l.length:=by rw [List.length_take] at hi;omega
  obtain ⟨b',o',e,_,h⟩:=hR.2.2 i hi';have hb:=lg h;refine ⟨b',o',e,by omega,?_⟩;rw [List.getElem_take];exact ((pt P0 P1).cell (p:=⟨b',o' + i,none⟩) hb).trans h
 have HC:=dh (ritem_top (w.heap.size + 1) c N a (l.take 4096) _ N1 hR1 (by omega) (by omega) (by omega) (hE.below (pt P0 P1)));have HB1:=dh (pt P0 P1);have HR9:=dh (bkp P1 N0 (lb N0));have hmin:min (n:Int) 4096=(N:Int):=by omega
 have hmin2:min n 4096=N:=hN.symm;have hNc:N≤c:=by omega
 have HPD:Hid (It.prefixP l=It.item 8 256 (l.take 4096)):=dh rfl;generalize l.take 4096=lp at *;generalize It.prefixP l=R at *;clear hR hR1 P0 P1 N0 N1 hE hN;go_enter Tryz.func57,Tryz.ntmps57
 go_wp2_with fail
 refine HC.out.mono ?_;rintro e u0 ⟨hB,h9⟩;rw [← HPD.out] at h9;have hsz1:=HB1.out.size;have HB2:Hid (Below w.heap.size w u0):=dh ⟨hB.os.trans HB1.out.os,hB.tape.trans HB1.out.tape,hB.output.trans HB1.out.output,Nat.le_trans HB1.out.size hB.size,fun j hj=>(hB.block j (by omega) (by omega)).trans (HB1.out.block j hj)⟩;have HN0:=dh ((hB.block _ (lb HR9.out) (by omega)).trans HR9.out);have HSU:Hid (w.heap.size < u0.heap.size∧((w.alloc o4z).alloc (.cells #[.slice a N c,.int .i64 0,.int .i64 0] 125)).heap.size=w.heap.size + 2):=dh ⟨lb HN0.out,by simp⟩;clear hB HC HB1 HR9 hsz1 hsz0;cases R with
 | err er=>
   obtain ⟨h0,rfl⟩:=h9;have he:¬ (er:Int)=0:=by omega
   have heb:((er:Int) !=0)=true:=by simpa using he
   have hen:¬ er=0:=h0;have P3:=al u0 o4z;have HNU:=kp P3 HN0;have HBU:Hid (Below w.heap.size w (u0.alloc o4z)):=dh (HB2.out.trans (P3.mono HB2.out.size));have r:=cf HNU.out;obtain ⟨q0,q1,q2,q3⟩:=ff HNU.out;have HEE:=dh h0;clear P3 h0;go_wp2_with fail
   clear r q0 q1 q2 q3;generalize u0.alloc _=u at *;generalize hBq:w.heap.size=B at *;have hp4:=put4 (HNU.out) (.int .i64 0) (.int .u64 0) (.slice none 0 0) (.slice none 0 0);have hb4:=fun (n9:Nat) (u9:World) (h9:Below n9 u9 (u)) (hb9:n9≤B)=>put4_below h9 hb9 (.int .i64 0) (.int .u64 0) (.slice none 0 0) (.slice none 0 0)
   generalize ((((u).setCell ⟨B,0,none⟩ (.int .i64 0)).setCell ⟨B,1,none⟩ (.int .u64 0)).setCell ⟨B,2,none⟩ (.slice none 0 0)).setCell ⟨B,3,none⟩ (.slice none 0 0)=W' at *;obtain ⟨g0,g1,g2,g3⟩:=cf hp4;refine bodyPost_ret (v:=.tuple #[(vz),.int .i64 0,.int .i64 (er:Int)]) (by simp [vz,results,Tryz.results57,go_sem,g0,g1,g2,g3]) rfl ?_;exact ⟨by subst hBq;exact hb4 _ w HBU.out (Nat.le_refl _),HEE.out,rfl⟩
 | ok x f s=>
   obtain ⟨A,rfl,hI,j,it,hAt,hj,hs⟩:=h9;have P3:=al u0 (o4 x A);have HNX:=dh (aw u0 (o4 x A));have HNU:=kp P3 HN0;have HNP:=dh (bkp P3 hAt (lb hAt));have HBU:Hid (Below w.heap.size w (u0.alloc (o4 x A))):=dh (HB2.out.trans (P3.mono HB2.out.size));have HI:=dh (hI.below P3);have HJ:=dh (And.intro hj hs);clear hI hAt hj hs P3;go_upto_region 5 with fail
   generalize hXq:u0.heap.size=X at *;generalize u0.alloc _=u at *;generalize hBq:w.heap.size=B at *;have HXB:Hid (X≠B∧B + 1≠B):=dh (by have:=HSU.out;omega);obtain ⟨x0,x1,x2,x3⟩:=cf HNX.out;have y1:=cr HNP.out 1;simp at y1;have r:=cf HNU.out;obtain ⟨q0,q1,q2,q3⟩:=ff HNU.out;refine wp_region_held_drew (S:=(fun w'=>(w'.cell? ⟨X,0,none⟩=some (.int .i64 x.kind)∧w'.cell? ⟨X,1,none⟩=some (.int .u64 (x.num:Int))∧w'.cell? ⟨X,2,none⟩=some (.slice A.ab A.nb A.cb)∧w'.cell? ⟨X,3,none⟩=some (.slice A.ai A.ni A.ci))∧w'.cell? ⟨B + 1,1,none⟩=some (.int .i64 (j:Int)))) (by kernel_rfl) ⟨⟨x0,x1,x2,x3⟩,y1⟩ (fun hHeld=>?_);refine tk 0 rfl hHeld ?_;simp only [Act.put,sx]
   refine tk 1 rfl hHeld ?_;simp only [Act.put,sx]
   refine tk 2 rfl hHeld ?_;simp only [Act.put,sx]
   refine tk 3 rfl hHeld ?_;simp only [Act.put,sx]
   refine tk 4 rfl hHeld ?_;simp only [Act.put,sx]
   refine ry 5 (by kernel_rfl) rfl fun K1 hK1=>?_
   have hp4:=put4 (W:=u) HNU.out (.int .i64 x.kind) (.int .u64 (x.num:Int)) (.slice A.ab A.nb A.cb) (.slice A.ai A.ni A.ci);have hs4:=pk (W:=u) (b:=B) (.int .i64 x.kind) (.int .u64 (x.num:Int)) (.slice A.ab A.nb A.cb) (.slice A.ai A.ni A.ci);have hb4:=put4_below (W:=u) (b:=B) HBU.out (Nat.le_refl _) (.int .i64 x.kind) (.int .u64 (x.num:Int)) (.slice A.ab A.nb A.cb) (.slice A.ai A.ni A.ci);have hx4:=(hs4.2 X HXB.out.1).trans HNX.out;have hy4:=(hs4.2 (B + 1) HXB.out.2).trans HNP.out;go_simp
   generalize ((((u).setCell ⟨B,0,none⟩ (.int .i64 x.kind)).setCell ⟨B,1,none⟩ (.int .u64 (x.num:Int))).setCell ⟨B,2,none⟩ (.slice A.ab A.nb A.cb)).setCell ⟨B,3,none⟩ (.slice A.ai A.ni A.ci)=W4 at *
   replace hp4:W4.drew.heap[B]?=_:=hp4
   replace hx4:W4.drew.heap[X]?=_:=hx4
   replace hy4:W4.drew.heap[B + 1]?=_:=hy4
   replace hs4:W4.drew.heap.size=u.heap.size∧∀ k,k≠B→W4.drew.heap[k]?=u.heap[k]?:=hs4
   replace hb4:=hb4.drew
   generalize W4.drew=W' at *;clear r q0 q1 q2 q3;refine hK1.out _ _ ⟨cf hx4,by have:=cr hy4 1;simpa using this⟩ (fun hHeld=>?_);clear hK1;refine tk 6 rfl hHeld ?_;simp only [Act.put,sx]
   refine tk 7 rfl hHeld ?_;simp only [Act.put,sx]
   refine wpAnyH_done (by kernel_rfl) ?_ _
   try simp only [sz]
   go_wp2_with fail
   obtain ⟨g0,g1,g2,g3⟩:=cf hp4;refine bodyPost_ret (v:=.tuple #[(v4 x A),.int .i64 (j:Int),.int .i64 0]) (by simp [v4,results,Tryz.results57,go_sem,g0,g1,g2,g3]) rfl ?_;exact ⟨by subst hBq;exact hb4,A,j,rfl,HI.out.keep (fun q hq _=>⟨hs4.2 q (by have h1:_≤q:=hq;have:=HSU.out;omega),by have h1:_≤q:=hq;have:=HSU.out;show w.heap.size≤q;omega⟩),HJ.out⟩
theorem rdecode_any (l:List UInt8) (a:Option Addr) (n c:Nat) (w:World) (ok:Nat→Prop) (hR:BR ok w a n l) (hc:n≤c) (hcm:c≤9223372036854775807) (hE:Env w):
 Calls Tryz.prog 36 #[.slice a n c] w (DecP (It.decodeP l) w):=by
 have P0:=al w o4z;have HNU:=dh (aw w o4z);have HBU:=dh P0;have hln:=hR.1;by_cases hn:4096 < n
 ·have hnz:(4096:Int) < (n:Int):=by omega
  have hnzb:decide ((4096:Int) < (n:Int))=true:=dt hnz;have HD:Hid (It.decodeP l=.err 8):=dh (by unfold It.decodeP;rw [if_pos (by omega)]);clear hR P0 hE hln;go_enter Tryz.func36,Tryz.ntmps36
  go_upto_region 1 with fail
  generalize w.alloc _=u at *;generalize hBq:w.heap.size=B at *;have r:=cf HNU.out;obtain ⟨q0,q1,q2,q3⟩:=ff HNU.out;go_wp2_with fail
  clear r q0 q1 q2 q3;have hp4:=put4 (HNU.out) (.int .i64 0) (.int .u64 0) (.slice none 0 0) (.slice none 0 0);have hs4:=pk (W:=u) (b:=B) (.int .i64 0) (.int .u64 0) (.slice none 0 0) (.slice none 0 0);have hb4:=put4_below (W:=u) (b:=B) HBU.out (Nat.le_refl _) (.int .i64 0) (.int .u64 0) (.slice none 0 0) (.slice none 0 0);generalize ((((u).setCell ⟨B,0,none⟩ (.int .i64 0)).setCell ⟨B,1,none⟩ (.int .u64 0)).setCell ⟨B,2,none⟩ (.slice none 0 0)).setCell ⟨B,3,none⟩ (.slice none 0 0)=W' at *;obtain ⟨g0,g1,g2,g3⟩:=cf hp4;refine bodyPost_ret (v:=.tuple #[vz,.int .i64 8]) (by simp [vz,results,Tryz.results36,go_sem,g0,g1,g2,g3]) rfl ?_;rw [HD.out];exact ⟨by subst hBq;exact hb4,by decide,rfl⟩
 ·have hnz:¬ (4096:Int) < (n:Int):=by omega
  have hnzb:decide ((4096:Int) < (n:Int))=false:=df hnz;have hlt:l.take 4096=l:=List.take_of_length_le (by omega);have HC:=rprefix_any l a n c (w.alloc o4z) ok (hR.below P0) hc hcm (hE.below P0);rw [hlt] at HC;have HC:=dh HC;have HLN:=dh hln;have HD:Hid (It.decodeP l=decOf (It.prefixP l)):=dh (by unfold It.decodeP;rw [if_neg (by omega)];cases It.prefixP l <;> rfl)
  generalize It.prefixP l=R at *;clear hR P0 hE hln hlt;go_enter Tryz.func36,Tryz.ntmps36
  go_upto_region 1 with fail
  generalize w.alloc _=u at *;generalize hBq:w.heap.size=B at *;go_wp2_with fail
  refine HC.out.mono ?_;rintro e v ⟨hB,h9⟩;have HN1:=kp hB HNU;have HB1:=dh (HBU.out.trans (hB.mono (by have:=HBU.out.size;omega)));have HUV:Hid (B < u.heap.size∧u.heap.size≤v.heap.size):=dh ⟨lb HNU.out,hB.size⟩;clear hB HC;cases R with
  | err er=>
    obtain ⟨h0,rfl⟩:=h9;have he:¬ (er:Int)=0:=by omega
    have heb:((er:Int) !=0)=true:=by simpa using he
    have hen:¬ er=0:=h0;have P3:=al v o4z;have HN2:=kp P3 HN1;have HB2:=dh (HB1.out.trans (P3.mono (by have:=HB1.out.size;omega)));have HEE:=dh h0;clear P3 h0;go_upto_region 4 with fail
    generalize v.alloc _=v2 at *;have r:=cf HN2.out;obtain ⟨q0,q1,q2,q3⟩:=ff HN2.out;go_wp2_with fail
    clear r q0 q1 q2 q3;have hp4:=put4 (HN2.out) (.int .i64 0) (.int .u64 0) (.slice none 0 0) (.slice none 0 0);have hs4:=pk (W:=v2) (b:=B) (.int .i64 0) (.int .u64 0) (.slice none 0 0) (.slice none 0 0);have hb4:=put4_below (W:=v2) (b:=B) HB2.out (Nat.le_refl _) (.int .i64 0) (.int .u64 0) (.slice none 0 0) (.slice none 0 0);generalize ((((v2).setCell ⟨B,0,none⟩ (.int .i64 0)).setCell ⟨B,1,none⟩ (.int .u64 0)).setCell ⟨B,2,none⟩ (.slice none 0 0)).setCell ⟨B,3,none⟩ (.slice none 0 0)=W' at *;obtain ⟨g0,g1,g2,g3⟩:=cf hp4;refine bodyPost_ret (v:=.tuple #[vz,.int .i64 (er:Int)]) (by simp [vz,results,Tryz.results36,go_sem,g0,g1,g2,g3]) rfl ?_;rw [HD.out];exact ⟨by subst hBq;exact hb4,HEE.out,rfl⟩
  | ok x f s=>
    obtain ⟨A,j,rfl,hI,hj,hs⟩:=h9;have P3:=al v (o4 x A);have HNX:=dh (aw v (o4 x A));have HN2:=kp P3 HN1;have HB2:=dh (HB1.out.trans (P3.mono (by have:=HB1.out.size;omega)));have HI:=dh (hI.below P3);have HJ:=dh (And.intro hj hs);have hjn:j≤n:=by have:=HLN.out;omega
    clear P3 hI hj hs;go_upto_region 4 with fail
    generalize v.heap.size=X at *;generalize v.alloc _=v2 at *;have r:=cf HN2.out;obtain ⟨q0,q1,q2,q3⟩:=ff HN2.out;by_cases hjl:j < n
    ·have hjz:(j:Int) < (n:Int):=by omega
     have hjzb:decide ((j:Int) < (n:Int))=true:=dt hjz;have HS:Hid (¬ s=[]):=dh (fun e=>by have h1:=HJ.out.2;rw [e] at h1;have:=congrArg List.length h1;simp at this;have:=HLN.out;omega);go_wp2_with fail
     clear r q0 q1 q2 q3;have hp4:=put4 (HN2.out) (.int .i64 0) (.int .u64 0) (.slice none 0 0) (.slice none 0 0);have hs4:=pk (W:=v2) (b:=B) (.int .i64 0) (.int .u64 0) (.slice none 0 0) (.slice none 0 0);have hb4:=put4_below (W:=v2) (b:=B) HB2.out (Nat.le_refl _) (.int .i64 0) (.int .u64 0) (.slice none 0 0) (.slice none 0 0);generalize ((((v2).setCell ⟨B,0,none⟩ (.int .i64 0)).setCell ⟨B,1,none⟩ (.int .u64 0)).setCell ⟨B,2,none⟩ (.slice none 0 0)).setCell ⟨B,3,none⟩ (.slice none 0 0)=W' at *;obtain ⟨g0,g1,g2,g3⟩:=cf hp4;refine bodyPost_ret (v:=.tuple #[vz,.int .i64 9]) (by simp [vz,results,Tryz.results36,go_sem,g0,g1,g2,g3]) rfl ?_;have hd:It.decodeP l=(if s=[] then .ok x else .err 9):=HD.out;rw [if_neg HS.out] at hd;rw [hd];exact ⟨by subst hBq;exact hb4,by decide,rfl⟩
    ·have hjz:¬ (j:Int) < (n:Int):=by omega
     have hjzb:decide ((j:Int) < (n:Int))=false:=df hjz;have HS:Hid (s=[]):=dh (by rw [HJ.out.2,List.drop_of_length_le (by have:=HLN.out;omega)]);obtain ⟨x0,x1,x2,x3⟩:=cf HNX.out;go_wp2_with fail
     clear x0 x1 x2 x3;clear r q0 q1 q2 q3;have hp4:=put4 (HN2.out) (.int .i64 x.kind) (.int .u64 (x.num:Int)) (.slice A.ab A.nb A.cb) (.slice A.ai A.ni A.ci);have hs4:=pk (W:=v2) (b:=B) (.int .i64 x.kind) (.int .u64 (x.num:Int)) (.slice A.ab A.nb A.cb) (.slice A.ai A.ni A.ci);have hb4:=put4_below (W:=v2) (b:=B) HB2.out (Nat.le_refl _) (.int .i64 x.kind) (.int .u64 (x.num:Int)) (.slice A.ab A.nb A.cb) (.slice A.ai A.ni A.ci);generalize ((((v2).setCell ⟨B,0,none⟩ (.int .i64 x.kind)).setCell ⟨B,1,none⟩ (.int .u64 (x.num:Int))).setCell ⟨B,2,none⟩ (.slice A.ab A.nb A.cb)).setCell ⟨B,3,none⟩ (.slice A.ai A.ni A.ci)=W' at *;obtain ⟨g0,g1,g2,g3⟩:=cf hp4;refine bodyPost_ret (v:=.tuple #[(v4 x A),.int .i64 0]) (by simp [v4,results,Tryz.results36,go_sem,g0,g1,g2,g3]) rfl ?_;have hd:It.decodeP l=(if s=[] then .ok x else .err 9):=HD.out;rw [if_pos HS.out] at hd;rw [hd];have huv:=HUV.out;exact ⟨by subst hBq;exact hb4,A,rfl,HI.out.keep fun q hq _=>⟨hs4.2 q (by have h1:u.heap.size≤q:=hq;omega),by have h1:u.heap.size≤q:=hq;show w.heap.size≤q;omega⟩⟩
