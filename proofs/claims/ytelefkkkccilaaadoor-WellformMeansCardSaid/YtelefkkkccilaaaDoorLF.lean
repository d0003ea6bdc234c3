/- The walk of the checker: items with elements. The checker at every item. -/
import Derived.Test.YtelefkkkccilaaaDoorLE
set_option linter.unusedVariables false
set_option linter.unusedSimpArgs false
namespace Go.Proofs.YtelefkkkccilaaaDoor
open Go.RowKit
set_option maxRecDepth 100000
def CK (D:Nat) (ks:List It) (R:Bool) (an sn c ni:Nat) (w:World) (i:Value) (W:World):Prop:=∃ j aj sj:Nat,i=.int .i64 (j:Int)∧j≤ni∧It.okL D (ks.drop j) aj sj=R∧aj≤256∧sj≤4096∧aj + It.nodesL (ks.drop j)=an + It.nodesL ks∧sj + (It.encs (ks.drop j)).length=sn + (It.encs ks).length∧W.heap[c]?=some (.cells #[.int .i64 (aj:Int),.int .i64 (sj:Int)] 99 (0,0))∧But c w W
theorem CK.start {D:Nat} {ks:List It} {R:Bool} {an sn c ni:Nat} {w:World} (hR:It.okL D ks an sn=R) (ha:an≤256) (hs:sn≤4096) (hc:w.heap[c]?=some (.cells #[.int .i64 (an:Int),.int .i64 (sn:Int)] 99 (0,0))):CK D ks R an sn c ni w (.int .i64 0) w:=
 ⟨0,an,sn,rfl,by omega,by simpa using hR,ha,hs,by simp,by simp,hc,But.refl _ _⟩
theorem CK.stop {D:Nat} {ks:List It} {R:Bool} {aj sj:Nat} (h:It.okL D (ks.drop ks.length) aj sj=R) (ha:aj≤256) (hs:sj≤4096):R=true:=by
 rw [List.drop_length] at h;rw [← h];simp [It.okL,It.wfs,It.nodesL,It.encs,ha,hs]
theorem okP_le {D:Nat} {x:It} {a s:Nat} (h:It.okP D x a s=true):a + It.nodes x≤256∧s + (It.enc x).length≤4096:=by
 unfold It.okP at h;simp only [Bool.and_eq_true,decide_eq_true_eq] at h;exact ⟨h.1.2,h.2⟩
theorem okL_get {D:Nat} {ks:List It} {a s:Nat} (h:It.okL D ks a s=true):It.wfs D ks=true∧(It.encs ks).length≤4096:=by
 unfold It.okL at h;simp only [Bool.and_eq_true,decide_eq_true_eq] at h;exact ⟨h.1.1,by omega⟩
set_option maxHeartbeats 8000000 in
theorem item_over_4 (k N:Int) (A:Ad) (w:World) (c:Nat) (a s LV:Int) (hc:w.heap[c]?=some (.cells #[.int .i64 a,.int .i64 s] 99 (0,0))) (a0:0≤a) (a1:a + 1≤256) (h2:A.nb≤4096) (h3:A.ni≤256) (o:Int) (hkk:k=4) (hN:N=0) (hlv:LV < 8) (hnb:A.nb=0)
 (hsp:∀ W,W.heap[c]?=some (.cells #[.int .i64 (a + 1),.int .i64 s] 99 (0,0))→Calls Tryd.prog 85 #[.pointer (some ⟨c,0,none⟩),.agg #[.int .i64 k,.int .u64 N,.slice A.ab A.nb A.cb,.slice A.ai A.ni A.ci]] W (SP c (a + 1) (s + o) W)) (hbig:4096 < s + o):
 Calls Tryd.prog 54 #[.pointer (some ⟨c,0,none⟩),.agg #[.int .i64 k,.int .u64 N,.slice A.ab A.nb A.cb,.slice A.ai A.ni A.ci],.int .i64 LV] w fun e w'=>e=.returned (.bool false)∧But c w w':=by
 have hk:k≠0∧k≠1∧k≠2∧k≠3∧k≠7∧k≠8:=by omega
 have hcl:=lb hc;obtain ⟨ab,nb,cb,ai,ni,ci⟩:=A;simp only at *;have P0:=al w (.cells #[.int .i64 k,.int .u64 N,.slice ab nb cb,.slice ai ni ci] 31);have N0:=aw w (.cells #[.int .i64 k,.int .u64 N,.slice ab nb cb,.slice ai ni ci] 31);have hc1:=Below.keep P0 hc hcl;have Q0:=But.of_below (b:=c) P0;have hne:w.heap.size≠c:=by omega
 obtain ⟨y0,y1,y2,y3⟩:=cw hc1;obtain ⟨x0,x1,x2,x3⟩:=cf N0;have X2:=set_other (v:=.int .i64 (a + 1)) (a:=⟨c,0,none⟩) N0 hne;have C2:=set_zero (z:=.int .i64 (a + 1)) hc1;have Q2:=Q0.setCell (p:=⟨c,0,none⟩) rfl (.int .i64 (a + 1));have HX2:=dh X2;have HC2:=dh C2;have HQ2:=dh Q2;have HPL:=dh (fun W=>plain_no k N ab ai nb cb ni ci W hk);have h1d:decide (256 < a + 1)=false:=decide_eq_false (by omega);have h2d:decide ((4096:Int) < (nb:Int))=false:=decide_eq_false (by omega);have h3d:decide ((256:Int) < (ni:Int))=false:=decide_eq_false (by omega);have h1z:¬ 256 < a + 1:=by omega
 have h2z:¬ (4096:Int) < (nb:Int):=by omega
 have h3z:¬ (256:Int) < (ni:Int):=by omega
 clear P0 N0 hc1 hc Q0 X2 C2 Q2;generalize hB:w.heap.size=B at *;have d1:decide (k < 4)=false:=decide_eq_false (by omega);have d2:decide (6 < k)=false:=decide_eq_false (by omega);have d3:decide (8≤LV)=false:=decide_eq_false (by omega);have d4:decide ((0:Int) < (nb:Int))=false:=decide_eq_false (by omega);have z1:¬ k < 4:=by omega
 have z2:¬ 6 < k:=by omega
 have z3:¬ 8≤LV:=by omega
 have z4:¬ (0:Int) < (nb:Int):=by omega
 have z5:¬ 0 < nb:=by omega
 have HSP:=dh hsp;have b1:(k==6)=false:=beq_f (by omega);have b1':(k !=6)=true:=by simp;omega
 have b5:(k==5)=false:=beq_f (by omega);have b5':(k !=5)=true:=by simp;omega
 have b2:(N !=0)=false:=by simpa using hN
 have db:decide (s + o≤4096)=false:=decide_eq_false (by omega);clear hkk hk hnb hN hsp;go_enter Tryd.func54,Tryd.ntmps54
 go_upto_region 1 with fail
 generalize w.alloc (.cells #[.int .i64 k,.int .u64 N,.slice ab nb cb,.slice ai ni ci] 31)=w1 at *;go_upto_region 2 with fail
 clear x0 x1 x2 x3 y0 y1 y2 y3;generalize w1.setCell ⟨c,0,none⟩ (.int .i64 (a + 1))=w2 at *;obtain ⟨y0,y1,y2,y3⟩:=cw HC2.out;obtain ⟨x0,x1,x2,x3⟩:=cf HX2.out;have hcl2:=lb HC2.out;have hBl2:=lb HX2.out;go_wp2_with fail
 refine (HPL.out w2).mono ?_;rintro e w3 ⟨rfl,B3⟩;have HC3:=dh (Below.keep B3 HC2.out hcl2);have HX3:=dh (Below.keep B3 HX2.out hBl2);have HQ3:=dh (HQ2.out.trans (But.of_below B3));clear x0 x1 x2 x3 y0 y1 y2 y3 B3;obtain ⟨x0,x1,x2,x3⟩:=cf HX3.out;go_wp2_with fail
 refine (HSP.out w3 HC3.out).mono ?_;rintro e w4 ⟨rfl,C4,Q4⟩;have HQ4:=dh (HQ3.out.trans Q4);clear C4 Q4 x0 x1 x2 x3;go_wp2_with fail
 go_ret
 exact ⟨rfl,HQ4.out⟩
set_option maxHeartbeats 8000000 in
theorem item_over_5 (k N:Int) (A:Ad) (w:World) (c:Nat) (a s LV:Int) (hc:w.heap[c]?=some (.cells #[.int .i64 a,.int .i64 s] 99 (0,0))) (a0:0≤a) (a1:a + 1≤256) (h2:A.nb≤4096) (h3:A.ni≤256) (o:Int) (hkk:k=5) (hN:N=0) (hev:A.ni % 2=0) (hlv:LV < 8) (hnb:A.nb=0)
 (hsp:∀ W,W.heap[c]?=some (.cells #[.int .i64 (a + 1),.int .i64 s] 99 (0,0))→Calls Tryd.prog 85 #[.pointer (some ⟨c,0,none⟩),.agg #[.int .i64 k,.int .u64 N,.slice A.ab A.nb A.cb,.slice A.ai A.ni A.ci]] W (SP c (a + 1) (s + o) W)) (hbig:4096 < s + o):
 Calls Tryd.prog 54 #[.pointer (some ⟨c,0,none⟩),.agg #[.int .i64 k,.int .u64 N,.slice A.ab A.nb A.cb,.slice A.ai A.ni A.ci],.int .i64 LV] w fun e w'=>e=.returned (.bool false)∧But c w w':=by
 have hk:k≠0∧k≠1∧k≠2∧k≠3∧k≠7∧k≠8:=by omega
 have hcl:=lb hc;obtain ⟨ab,nb,cb,ai,ni,ci⟩:=A;simp only at *;have P0:=al w (.cells #[.int .i64 k,.int .u64 N,.slice ab nb cb,.slice ai ni ci] 31);have N0:=aw w (.cells #[.int .i64 k,.int .u64 N,.slice ab nb cb,.slice ai ni ci] 31);have hc1:=Below.keep P0 hc hcl;have Q0:=But.of_below (b:=c) P0;have hne:w.heap.size≠c:=by omega
 obtain ⟨y0,y1,y2,y3⟩:=cw hc1;obtain ⟨x0,x1,x2,x3⟩:=cf N0;have X2:=set_other (v:=.int .i64 (a + 1)) (a:=⟨c,0,none⟩) N0 hne;have C2:=set_zero (z:=.int .i64 (a + 1)) hc1;have Q2:=Q0.setCell (p:=⟨c,0,none⟩) rfl (.int .i64 (a + 1));have HX2:=dh X2;have HC2:=dh C2;have HQ2:=dh Q2;have HPL:=dh (fun W=>plain_no k N ab ai nb cb ni ci W hk);have h1d:decide (256 < a + 1)=false:=decide_eq_false (by omega);have h2d:decide ((4096:Int) < (nb:Int))=false:=decide_eq_false (by omega);have h3d:decide ((256:Int) < (ni:Int))=false:=decide_eq_false (by omega);have h1z:¬ 256 < a + 1:=by omega
 have h2z:¬ (4096:Int) < (nb:Int):=by omega
 have h3z:¬ (256:Int) < (ni:Int):=by omega
 clear P0 N0 hc1 hc Q0 X2 C2 Q2;generalize hB:w.heap.size=B at *;have d1:decide (k < 4)=false:=decide_eq_false (by omega);have d2:decide (6 < k)=false:=decide_eq_false (by omega);have d3:decide (8≤LV)=false:=decide_eq_false (by omega);have d4:decide ((0:Int) < (nb:Int))=false:=decide_eq_false (by omega);have z1:¬ k < 4:=by omega
 have z2:¬ 6 < k:=by omega
 have z3:¬ 8≤LV:=by omega
 have z4:¬ (0:Int) < (nb:Int):=by omega
 have z5:¬ 0 < nb:=by omega
 have HSP:=dh hsp;have b1:(k==6)=false:=beq_f (by omega);have b1':(k !=6)=true:=by simp;omega
 have b5:(k==5)=true:=beq_t hkk;have b5':(k !=5)=false:=by simpa using hkk
 have b2:(N !=0)=false:=by simpa using hN
 have b3:(ni:Int) % 2=0:=by omega
 have db:decide (s + o≤4096)=false:=decide_eq_false (by omega);clear hkk hk hnb hN hev hsp;go_enter Tryd.func54,Tryd.ntmps54
 go_upto_region 1 with fail
 generalize w.alloc (.cells #[.int .i64 k,.int .u64 N,.slice ab nb cb,.slice ai ni ci] 31)=w1 at *;go_upto_region 2 with fail
 clear x0 x1 x2 x3 y0 y1 y2 y3;generalize w1.setCell ⟨c,0,none⟩ (.int .i64 (a + 1))=w2 at *;obtain ⟨y0,y1,y2,y3⟩:=cw HC2.out;obtain ⟨x0,x1,x2,x3⟩:=cf HX2.out;have hcl2:=lb HC2.out;have hBl2:=lb HX2.out;go_wp2_with fail
 refine (HPL.out w2).mono ?_;rintro e w3 ⟨rfl,B3⟩;have HC3:=dh (Below.keep B3 HC2.out hcl2);have HX3:=dh (Below.keep B3 HX2.out hBl2);have HQ3:=dh (HQ2.out.trans (But.of_below B3));clear x0 x1 x2 x3 y0 y1 y2 y3 B3;obtain ⟨x0,x1,x2,x3⟩:=cf HX3.out;go_wp2_with fail
 refine (HSP.out w3 HC3.out).mono ?_;rintro e w4 ⟨rfl,C4,Q4⟩;have HQ4:=dh (HQ3.out.trans Q4);clear C4 Q4 x0 x1 x2 x3;go_wp2_with fail
 go_ret
 exact ⟨rfl,HQ4.out⟩
set_option maxHeartbeats 8000000 in
theorem item_over_6 (k N:Int) (A:Ad) (w:World) (c:Nat) (a s LV:Int) (hc:w.heap[c]?=some (.cells #[.int .i64 a,.int .i64 s] 99 (0,0))) (a0:0≤a) (a1:a + 1≤256) (h2:A.nb≤4096) (h3:A.ni≤256) (o:Int) (hkk:k=6) (hni:A.ni=1) (hlv:LV < 8) (hnb:A.nb=0)
 (hsp:∀ W,W.heap[c]?=some (.cells #[.int .i64 (a + 1),.int .i64 s] 99 (0,0))→Calls Tryd.prog 85 #[.pointer (some ⟨c,0,none⟩),.agg #[.int .i64 k,.int .u64 N,.slice A.ab A.nb A.cb,.slice A.ai A.ni A.ci]] W (SP c (a + 1) (s + o) W)) (hbig:4096 < s + o):
 Calls Tryd.prog 54 #[.pointer (some ⟨c,0,none⟩),.agg #[.int .i64 k,.int .u64 N,.slice A.ab A.nb A.cb,.slice A.ai A.ni A.ci],.int .i64 LV] w fun e w'=>e=.returned (.bool false)∧But c w w':=by
 have hk:k≠0∧k≠1∧k≠2∧k≠3∧k≠7∧k≠8:=by omega
 have hcl:=lb hc;obtain ⟨ab,nb,cb,ai,ni,ci⟩:=A;simp only at *;have P0:=al w (.cells #[.int .i64 k,.int .u64 N,.slice ab nb cb,.slice ai ni ci] 31);have N0:=aw w (.cells #[.int .i64 k,.int .u64 N,.slice ab nb cb,.slice ai ni ci] 31);have hc1:=Below.keep P0 hc hcl;have Q0:=But.of_below (b:=c) P0;have hne:w.heap.size≠c:=by omega
 obtain ⟨y0,y1,y2,y3⟩:=cw hc1;obtain ⟨x0,x1,x2,x3⟩:=cf N0;have X2:=set_other (v:=.int .i64 (a + 1)) (a:=⟨c,0,none⟩) N0 hne;have C2:=set_zero (z:=.int .i64 (a + 1)) hc1;have Q2:=Q0.setCell (p:=⟨c,0,none⟩) rfl (.int .i64 (a + 1));have HX2:=dh X2;have HC2:=dh C2;have HQ2:=dh Q2;have HPL:=dh (fun W=>plain_no k N ab ai nb cb ni ci W hk);have h1d:decide (256 < a + 1)=false:=decide_eq_false (by omega);have h2d:decide ((4096:Int) < (nb:Int))=false:=decide_eq_false (by omega);have h3d:decide ((256:Int) < (ni:Int))=false:=decide_eq_false (by omega);have h1z:¬ 256 < a + 1:=by omega
 have h2z:¬ (4096:Int) < (nb:Int):=by omega
 have h3z:¬ (256:Int) < (ni:Int):=by omega
 clear P0 N0 hc1 hc Q0 X2 C2 Q2;generalize hB:w.heap.size=B at *;have d1:decide (k < 4)=false:=decide_eq_false (by omega);have d2:decide (6 < k)=false:=decide_eq_false (by omega);have d3:decide (8≤LV)=false:=decide_eq_false (by omega);have d4:decide ((0:Int) < (nb:Int))=false:=decide_eq_false (by omega);have z1:¬ k < 4:=by omega
 have z2:¬ 6 < k:=by omega
 have z3:¬ 8≤LV:=by omega
 have z4:¬ (0:Int) < (nb:Int):=by omega
 have z5:¬ 0 < nb:=by omega
 have HSP:=dh hsp;have b1:(k==6)=true:=beq_t hkk;have b1':(k !=6)=false:=by simpa using hkk
 have b5:(k==5)=false:=beq_f (by omega);have b5':(k !=5)=true:=by simp;omega
 have b2:((ni:Int) !=1)=false:=by simp;omega
 have db:decide (s + o≤4096)=false:=decide_eq_false (by omega);clear hkk hk hnb hni hsp;go_enter Tryd.func54,Tryd.ntmps54
 go_upto_region 1 with fail
 generalize w.alloc (.cells #[.int .i64 k,.int .u64 N,.slice ab nb cb,.slice ai ni ci] 31)=w1 at *;go_upto_region 2 with fail
 clear x0 x1 x2 x3 y0 y1 y2 y3;generalize w1.setCell ⟨c,0,none⟩ (.int .i64 (a + 1))=w2 at *;obtain ⟨y0,y1,y2,y3⟩:=cw HC2.out;obtain ⟨x0,x1,x2,x3⟩:=cf HX2.out;have hcl2:=lb HC2.out;have hBl2:=lb HX2.out;go_wp2_with fail
 refine (HPL.out w2).mono ?_;rintro e w3 ⟨rfl,B3⟩;have HC3:=dh (Below.keep B3 HC2.out hcl2);have HX3:=dh (Below.keep B3 HX2.out hBl2);have HQ3:=dh (HQ2.out.trans (But.of_below B3));clear x0 x1 x2 x3 y0 y1 y2 y3 B3;obtain ⟨x0,x1,x2,x3⟩:=cf HX3.out;go_wp2_with fail
 refine (HSP.out w3 HC3.out).mono ?_;rintro e w4 ⟨rfl,C4,Q4⟩;have HQ4:=dh (HQ3.out.trans Q4);clear C4 Q4 x0 x1 x2 x3;go_wp2_with fail
 go_ret
 exact ⟨rfl,HQ4.out⟩
set_option maxHeartbeats 16000000 in
theorem item_kids_4 (k N:Int) (A:Ad) (w:World) (c:Nat) (a s LV:Int) (hc:w.heap[c]?=some (.cells #[.int .i64 a,.int .i64 s] 99 (0,0))) (a0:0≤a) (a1:a + 1≤256) (h2:A.nb≤4096) (h3:A.ni≤256) (o:Int) (hkk:k=4) (hN:N=0) (hlv0:0≤LV) (hlv:LV < 8) (hnb:A.nb=0)
 (hsp:∀ W,W.heap[c]?=some (.cells #[.int .i64 (a + 1),.int .i64 s] 99 (0,0))→Calls Tryd.prog 85 #[.pointer (some ⟨c,0,none⟩),.agg #[.int .i64 k,.int .u64 N,.slice A.ab A.nb A.cb,.slice A.ai A.ni A.ci]] W (SP c (a + 1) (s + o) W)) (hbig:s + o≤4096)
 (D:Nat) (ih:ItC D) (hLV:LV + 1=8 - (D:Int)) (ks:List It) (ok:Nat→Prop) (hT:TL ok w ks A.ai A.ni) (hok:∀ b,ok b→b≠c) (hE:Env w) (h1c:1 < c) (an sn:Nat) (han:a + 1=an) (hsn:s + o=sn) (R:Bool) (hR:It.okL D ks an sn=R):
 Calls Tryd.prog 54 #[.pointer (some ⟨c,0,none⟩),.agg #[.int .i64 k,.int .u64 N,.slice A.ab A.nb A.cb,.slice A.ai A.ni A.ci],.int .i64 LV] w (IPost c R (an + It.nodesL ks) (sn + (It.encs ks).length) w):=by
 have HNI:Hid (A.ni=ks.length):=dh hT.1;have HLV:=dh hLV;have HT0:=dh hT;have HOK:=dh hok;have HE0:=dh hE;have H1C:=dh h1c;have HAN:=dh han;have HSN:=dh hsn;have HR:=dh hR;have HIH:=dh ih;have hana:an≤256:=by omega
 have hsna:sn≤4096:=by omega
 clear hLV hT hok hE h1c han hsn hR ih;have hk:k≠0∧k≠1∧k≠2∧k≠3∧k≠7∧k≠8:=by omega
 have hcl:=lb hc;obtain ⟨ab,nb,cb,ai,ni,ci⟩:=A;simp only at *;have P0:=al w (.cells #[.int .i64 k,.int .u64 N,.slice ab nb cb,.slice ai ni ci] 31);have N0:=aw w (.cells #[.int .i64 k,.int .u64 N,.slice ab nb cb,.slice ai ni ci] 31);have hc1:=Below.keep P0 hc hcl;have Q0:=But.of_below (b:=c) P0;have hne:w.heap.size≠c:=by omega
 obtain ⟨y0,y1,y2,y3⟩:=cw hc1;obtain ⟨x0,x1,x2,x3⟩:=cf N0;have X2:=set_other (v:=.int .i64 (a + 1)) (a:=⟨c,0,none⟩) N0 hne;have C2:=set_zero (z:=.int .i64 (a + 1)) hc1;have Q2:=Q0.setCell (p:=⟨c,0,none⟩) rfl (.int .i64 (a + 1));have HX2:=dh X2;have HC2:=dh C2;have HQ2:=dh Q2;have HPL:=dh (fun W=>plain_no k N ab ai nb cb ni ci W hk);have h1d:decide (256 < a + 1)=false:=decide_eq_false (by omega);have h2d:decide ((4096:Int) < (nb:Int))=false:=decide_eq_false (by omega);have h3d:decide ((256:Int) < (ni:Int))=false:=decide_eq_false (by omega);have h1z:¬ 256 < a + 1:=by omega
 have h2z:¬ (4096:Int) < (nb:Int):=by omega
 have h3z:¬ (256:Int) < (ni:Int):=by omega
 clear P0 N0 hc1 hc Q0 X2 C2 Q2;generalize hB:w.heap.size=B at *;have d1:decide (k < 4)=false:=decide_eq_false (by omega);have d2:decide (6 < k)=false:=decide_eq_false (by omega);have d3:decide (8≤LV)=false:=decide_eq_false (by omega);have d4:decide ((0:Int) < (nb:Int))=false:=decide_eq_false (by omega);have z1:¬ k < 4:=by omega
 have z2:¬ 6 < k:=by omega
 have z3:¬ 8≤LV:=by omega
 have z4:¬ (0:Int) < (nb:Int):=by omega
 have z5:¬ 0 < nb:=by omega
 have HSP:=dh hsp;have b1:(k==6)=false:=beq_f (by omega);have b1':(k !=6)=true:=by simp;omega
 have b5:(k==5)=false:=beq_f (by omega);have b5':(k !=5)=true:=by simp;omega
 have b2:(N !=0)=false:=by simpa using hN
 have db:decide (s + o≤4096)=true:=decide_eq_true hbig;clear hkk hk hnb hN hsp;go_enter Tryd.func54,Tryd.ntmps54
 go_upto_region 1 with fail
 generalize w.alloc (.cells #[.int .i64 k,.int .u64 N,.slice ab nb cb,.slice ai ni ci] 31)=w1 at *;go_upto_region 2 with fail
 clear x0 x1 x2 x3 y0 y1 y2 y3;generalize w1.setCell ⟨c,0,none⟩ (.int .i64 (a + 1))=w2 at *;obtain ⟨y0,y1,y2,y3⟩:=cw HC2.out;obtain ⟨x0,x1,x2,x3⟩:=cf HX2.out;have hcl2:=lb HC2.out;have hBl2:=lb HX2.out;go_wp2_with fail
 refine (HPL.out w2).mono ?_;rintro e w3 ⟨rfl,B3⟩;have HC3:=dh (Below.keep B3 HC2.out hcl2);have HX3:=dh (Below.keep B3 HX2.out hBl2);have HQ3:=dh (HQ2.out.trans (But.of_below B3));clear x0 x1 x2 x3 y0 y1 y2 y3 B3;obtain ⟨x0,x1,x2,x3⟩:=cf HX3.out;go_wp2_with fail
 refine (HSP.out w3 HC3.out).mono ?_;rintro e w4 ⟨rfl,C4,Q4⟩;have HX4:=dh ((Q4.block B (lb HX3.out) hne).trans HX3.out);rw [HAN.out,HSN.out] at C4;have HC4:=dh C4;have HQ4:=dh (HQ3.out.trans Q4);have HIT:=dh (But.tl HT0.out HQ4.out HOK.out);have HE:=dh (But.env HE0.out HQ4.out H1C.out);clear C4 Q4 x0 x1 x2 x3;obtain ⟨x0,x1,x2,x3⟩:=cf HX4.out;go_wp2_with fail
 clear x0 x1 x2 x3;go_loopw [103] (fun i W=>CK D ks R an sn c ni w4 i W) (fun i _=>ni - (intOf i).toNat)
 case atStart=>exact CK.start HR.out hana hsna HC4.out
 case round=>
  obtain ⟨j,aj,sj,rfl,hj,hok',ha,hs,hna,hns,hcj,hbw⟩:=hrel;by_cases hjn:j < ni
  ·have hjk:j < ks.length:=by have:=HNI.out;omega
   have hd:=List.drop_eq_getElem_cons hjk;rw [hd] at hok' hna hns;rw [It.okL_cons] at hok';simp only [It.nodesL,It.encs,List.length_append] at hna hns;obtain ⟨b',o',A',rfl,hb',⟨c0,c1,c2,c3⟩,hI'⟩:=(But.tl HIT.out hbw HOK.out).2.2 j hjk;have PA:=al wr (.cells #[.int .i64 ks[j].kind,.int .u64 (ks[j].num:Int),.slice A'.ab A'.nb A'.cb,.slice A'.ai A'.ni A'.ci] 31);have HCC:=dh (HIH.out ks[j] A' (wr.alloc (.cells #[.int .i64 ks[j].kind,.int .u64 (ks[j].num:Int),.slice A'.ab A'.nb A'.cb,.slice A'.ai A'.ni A'.ci] 31)) ok c aj sj (LV + 1) (hI'.below PA) HOK.out (But.env HE.out (hbw.trans (But.of_below PA)) H1C.out) H1C.out (alloc_keep hcj) ha hs HLV.out);have HPA:=dh (hbw.trans (But.of_below PA));have HOKJ:=dh hok';have HNA:=dh hna;have HNS:=dh hns;have hlt:(j:Int) < (ni:Int):=by omega
   clear hd hok' hna hns hI' PA hcj hbw;generalize ks[j]=y at *;generalize hr:It.okP D y aj sj=r at *;have HRR:=dh hr;clear hr;go_wp2_with fail
   refine HCC.out.mono ?_;rintro e w6 ⟨rfl,B6,C6⟩;have HB6:=dh (HPA.out.trans B6);have HC6:=dh C6;clear B6 C6 c0 c1 c2 c3;cases r with
   | false=>
     go_wp2_with fail
     go_ret
     have hRf:R=false:=by rw [← HOKJ.out];rfl
     exact ⟨by rw [hRf];rfl,HQ4.out.trans HB6.out,fun h=>by rw [hRf] at h;cases h⟩
   | true=>
     go_wp2_with fail
     go_roundw
     case rel=>
      have hl:=okP_le HRR.out;have h1:=HNA.out;have h2:=HNS.out;exact ⟨j + 1,aj + It.nodes y,sj + (It.enc y).length,by go_num,by omega,by simpa using HOKJ.out,hl.1,hl.2,by omega,by omega,HC6.out trivial,HB6.out⟩
     case measure=>simp [intOf];omega
  ·obtain rfl:j=ni:=by omega
   have hx:=(hbw.block B (lb HX4.out) hne).trans HX4.out;obtain ⟨x0,x1,x2,x3⟩:=cf hx;have hjj:j=ks.length:=HNI.out;have hRt:R=true:=CK.stop (by rw [← hjj];exact hok') ha hs;have hdr:ks.drop j=[]:=by rw [hjj];exact List.drop_length
   rw [hdr] at hna hns;simp only [It.nodesL,It.encs,List.length_nil,Nat.add_zero] at hna hns;have HRT:=dh hRt;have HBW:=dh hbw;have HCJ:=dh hcj;have HNA:=dh hna;have HNS:=dh hns;clear hx hjj hRt hdr hna hns hbw hcj hok';go_wp2_with fail
   go_ret
   refine ⟨by rw [HRT.out];rfl,HQ4.out.trans HBW.out,fun _=>?_⟩;rw [← HNA.out,← HNS.out];exact HCJ.out
set_option maxHeartbeats 16000000 in
theorem item_kids_5 (k N:Int) (A:Ad) (w:World) (c:Nat) (a s LV:Int) (hc:w.heap[c]?=some (.cells #[.int .i64 a,.int .i64 s] 99 (0,0))) (a0:0≤a) (a1:a + 1≤256) (h2:A.nb≤4096) (h3:A.ni≤256) (o:Int) (hkk:k=5) (hN:N=0) (hev:A.ni % 2=0) (hlv0:0≤LV) (hlv:LV < 8) (hnb:A.nb=0)
 (hsp:∀ W,W.heap[c]?=some (.cells #[.int .i64 (a + 1),.int .i64 s] 99 (0,0))→Calls Tryd.prog 85 #[.pointer (some ⟨c,0,none⟩),.agg #[.int .i64 k,.int .u64 N,.slice A.ab A.nb A.cb,.slice A.ai A.ni A.ci]] W (SP c (a + 1) (s + o) W)) (hbig:s + o≤4096)
 (D:Nat) (ih:ItC D) (hLV:LV + 1=8 - (D:Int)) (ks:List It) (ok:Nat→Prop) (hT:TL ok w ks A.ai A.ni) (hok:∀ b,ok b→b≠c) (hE:Env w) (h1c:1 < c) (an sn:Nat) (han:a + 1=an) (hsn:s + o=sn) (R:Bool) (hR:It.okL D ks an sn=R):
 Calls Tryd.prog 54 #[.pointer (some ⟨c,0,none⟩),.agg #[.int .i64 k,.int .u64 N,.slice A.ab A.nb A.cb,.slice A.ai A.ni A.ci],.int .i64 LV] w (IPost c (R && It.asc .none ks) (an + It.nodesL ks) (sn + (It.encs ks).length) w):=by
 have HNI:Hid (A.ni=ks.length):=dh hT.1;have HLV:=dh hLV;have HT0:=dh hT;have HOK:=dh hok;have HE0:=dh hE;have H1C:=dh h1c;have HAN:=dh han;have HSN:=dh hsn;have HR:=dh hR;have HIH:=dh ih;have hana:an≤256:=by omega
 have hsna:sn≤4096:=by omega
 clear hLV hT hok hE h1c han hsn hR ih;have hk:k≠0∧k≠1∧k≠2∧k≠3∧k≠7∧k≠8:=by omega
 have hcl:=lb hc;obtain ⟨ab,nb,cb,ai,ni,ci⟩:=A;simp only at *;have P0:=al w (.cells #[.int .i64 k,.int .u64 N,.slice ab nb cb,.slice ai ni ci] 31);have N0:=aw w (.cells #[.int .i64 k,.int .u64 N,.slice ab nb cb,.slice ai ni ci] 31);have hc1:=Below.keep P0 hc hcl;have Q0:=But.of_below (b:=c) P0;have hne:w.heap.size≠c:=by omega
 obtain ⟨y0,y1,y2,y3⟩:=cw hc1;obtain ⟨x0,x1,x2,x3⟩:=cf N0;have X2:=set_other (v:=.int .i64 (a + 1)) (a:=⟨c,0,none⟩) N0 hne;have C2:=set_zero (z:=.int .i64 (a + 1)) hc1;have Q2:=Q0.setCell (p:=⟨c,0,none⟩) rfl (.int .i64 (a + 1));have HX2:=dh X2;have HC2:=dh C2;have HQ2:=dh Q2;have HPL:=dh (fun W=>plain_no k N ab ai nb cb ni ci W hk);have h1d:decide (256 < a + 1)=false:=decide_eq_false (by omega);have h2d:decide ((4096:Int) < (nb:Int))=false:=decide_eq_false (by omega);have h3d:decide ((256:Int) < (ni:Int))=false:=decide_eq_false (by omega);have h1z:¬ 256 < a + 1:=by omega
 have h2z:¬ (4096:Int) < (nb:Int):=by omega
 have h3z:¬ (256:Int) < (ni:Int):=by omega
 clear P0 N0 hc1 hc Q0 X2 C2 Q2;generalize hB:w.heap.size=B at *;have d1:decide (k < 4)=false:=decide_eq_false (by omega);have d2:decide (6 < k)=false:=decide_eq_false (by omega);have d3:decide (8≤LV)=false:=decide_eq_false (by omega);have d4:decide ((0:Int) < (nb:Int))=false:=decide_eq_false (by omega);have z1:¬ k < 4:=by omega
 have z2:¬ 6 < k:=by omega
 have z3:¬ 8≤LV:=by omega
 have z4:¬ (0:Int) < (nb:Int):=by omega
 have z5:¬ 0 < nb:=by omega
 have HSP:=dh hsp;have b1:(k==6)=false:=beq_f (by omega);have b1':(k !=6)=true:=by simp;omega
 have b5:(k==5)=true:=beq_t hkk;have b5':(k !=5)=false:=by simpa using hkk
 have b2:(N !=0)=false:=by simpa using hN
 have b3:(ni:Int) % 2=0:=by omega
 have db:decide (s + o≤4096)=true:=decide_eq_true hbig;have HEV:=dh hev;clear hkk hk hnb hN hev hsp;go_enter Tryd.func54,Tryd.ntmps54
 go_upto_region 1 with fail
 generalize w.alloc (.cells #[.int .i64 k,.int .u64 N,.slice ab nb cb,.slice ai ni ci] 31)=w1 at *;go_upto_region 2 with fail
 clear x0 x1 x2 x3 y0 y1 y2 y3;generalize w1.setCell ⟨c,0,none⟩ (.int .i64 (a + 1))=w2 at *;obtain ⟨y0,y1,y2,y3⟩:=cw HC2.out;obtain ⟨x0,x1,x2,x3⟩:=cf HX2.out;have hcl2:=lb HC2.out;have hBl2:=lb HX2.out;go_wp2_with fail
 refine (HPL.out w2).mono ?_;rintro e w3 ⟨rfl,B3⟩;have HC3:=dh (Below.keep B3 HC2.out hcl2);have HX3:=dh (Below.keep B3 HX2.out hBl2);have HQ3:=dh (HQ2.out.trans (But.of_below B3));clear x0 x1 x2 x3 y0 y1 y2 y3 B3;obtain ⟨x0,x1,x2,x3⟩:=cf HX3.out;go_wp2_with fail
 refine (HSP.out w3 HC3.out).mono ?_;rintro e w4 ⟨rfl,C4,Q4⟩;have HX4:=dh ((Q4.block B (lb HX3.out) hne).trans HX3.out);rw [HAN.out,HSN.out] at C4;have HC4:=dh C4;have HQ4:=dh (HQ3.out.trans Q4);have HIT:=dh (But.tl HT0.out HQ4.out HOK.out);have HE:=dh (But.env HE0.out HQ4.out H1C.out);clear C4 Q4 x0 x1 x2 x3;obtain ⟨x0,x1,x2,x3⟩:=cf HX4.out;go_wp2_with fail
 clear x0 x1 x2 x3;go_loopw [103] (fun i W=>CK D ks R an sn c ni w4 i W) (fun i _=>ni - (intOf i).toNat)
 case atStart=>exact CK.start HR.out hana hsna HC4.out
 case round=>
  obtain ⟨j,aj,sj,rfl,hj,hok',ha,hs,hna,hns,hcj,hbw⟩:=hrel;by_cases hjn:j < ni
  ·have hjk:j < ks.length:=by have:=HNI.out;omega
   have hd:=List.drop_eq_getElem_cons hjk;rw [hd] at hok' hna hns;rw [It.okL_cons] at hok';simp only [It.nodesL,It.encs,List.length_append] at hna hns;obtain ⟨b',o',A',rfl,hb',⟨c0,c1,c2,c3⟩,hI'⟩:=(But.tl HIT.out hbw HOK.out).2.2 j hjk;have PA:=al wr (.cells #[.int .i64 ks[j].kind,.int .u64 (ks[j].num:Int),.slice A'.ab A'.nb A'.cb,.slice A'.ai A'.ni A'.ci] 31);have HCC:=dh (HIH.out ks[j] A' (wr.alloc (.cells #[.int .i64 ks[j].kind,.int .u64 (ks[j].num:Int),.slice A'.ab A'.nb A'.cb,.slice A'.ai A'.ni A'.ci] 31)) ok c aj sj (LV + 1) (hI'.below PA) HOK.out (But.env HE.out (hbw.trans (But.of_below PA)) H1C.out) H1C.out (alloc_keep hcj) ha hs HLV.out);have HPA:=dh (hbw.trans (But.of_below PA));have HOKJ:=dh hok';have HNA:=dh hna;have HNS:=dh hns;have hlt:(j:Int) < (ni:Int):=by omega
   clear hd hok' hna hns hI' PA hcj hbw;generalize ks[j]=y at *;generalize hr:It.okP D y aj sj=r at *;have HRR:=dh hr;clear hr;go_wp2_with fail
   refine HCC.out.mono ?_;rintro e w6 ⟨rfl,B6,C6⟩;have HB6:=dh (HPA.out.trans B6);have HC6:=dh C6;clear B6 C6 c0 c1 c2 c3;cases r with
   | false=>
     go_wp2_with fail
     go_ret
     have hRf:R=false:=by rw [← HOKJ.out];rfl
     exact ⟨by rw [hRf];rfl,HQ4.out.trans HB6.out,fun h=>by rw [hRf] at h;cases h⟩
   | true=>
     go_wp2_with fail
     go_roundw
     case rel=>
      have hl:=okP_le HRR.out;have h1:=HNA.out;have h2:=HNS.out;exact ⟨j + 1,aj + It.nodes y,sj + (It.enc y).length,by go_num,by omega,by simpa using HOKJ.out,hl.1,hl.2,by omega,by omega,HC6.out trivial,HB6.out⟩
     case measure=>simp [intOf];omega
  ·obtain rfl:j=ni:=by omega
   have hx:=(hbw.block B (lb HX4.out) hne).trans HX4.out;obtain ⟨x0,x1,x2,x3⟩:=cf hx;have hjj:j=ks.length:=HNI.out;have hRt:R=true:=CK.stop (by rw [← hjj];exact hok') ha hs;have hdr:ks.drop j=[]:=by rw [hjj];exact List.drop_length
   rw [hdr] at hna hns;simp only [It.nodesL,It.encs,List.length_nil,Nat.add_zero] at hna hns;have hgl:=okL_get (HR.out.trans hRt);have CA:=dh (ascending_any ks ai j ci D ok wr (But.tl HIT.out hbw HOK.out) hgl.1 (by have:=HEV.out;omega) (by omega) _ rfl);generalize It.asc .none ks=r at *;have HRT:=dh hRt;have HBW:=dh hbw;have HCJ:=dh hcj;have HNA:=dh hna;have HNS:=dh hns;clear hx hjj hRt hdr hna hns hbw hcj hok' hgl;go_wp2_with fail
   refine CA.out.mono ?_;rintro e w6 ⟨rfl,B6⟩;have HB6:=dh B6;clear B6 x0 x1 x2 x3;go_wp2_with fail
   go_ret
   refine ⟨by rw [HRT.out];rfl,HQ4.out.trans (HBW.out.trans (But.of_below HB6.out)),fun _=>?_⟩;rw [← HNA.out,← HNS.out];exact Below.keep HB6.out HCJ.out (lb HCJ.out)
set_option maxHeartbeats 16000000 in
theorem item_kids_6 (k N:Int) (A:Ad) (w:World) (c:Nat) (a s LV:Int) (hc:w.heap[c]?=some (.cells #[.int .i64 a,.int .i64 s] 99 (0,0))) (a0:0≤a) (a1:a + 1≤256) (h2:A.nb≤4096) (h3:A.ni≤256) (o:Int) (hkk:k=6) (hni:A.ni=1) (hlv0:0≤LV) (hlv:LV < 8) (hnb:A.nb=0)
 (hsp:∀ W,W.heap[c]?=some (.cells #[.int .i64 (a + 1),.int .i64 s] 99 (0,0))→Calls Tryd.prog 85 #[.pointer (some ⟨c,0,none⟩),.agg #[.int .i64 k,.int .u64 N,.slice A.ab A.nb A.cb,.slice A.ai A.ni A.ci]] W (SP c (a + 1) (s + o) W)) (hbig:s + o≤4096)
 (D:Nat) (ih:ItC D) (hLV:LV + 1=8 - (D:Int)) (ks:List It) (ok:Nat→Prop) (hT:TL ok w ks A.ai A.ni) (hok:∀ b,ok b→b≠c) (hE:Env w) (h1c:1 < c) (an sn:Nat) (han:a + 1=an) (hsn:s + o=sn) (R:Bool) (hR:It.okL D ks an sn=R):
 Calls Tryd.prog 54 #[.pointer (some ⟨c,0,none⟩),.agg #[.int .i64 k,.int .u64 N,.slice A.ab A.nb A.cb,.slice A.ai A.ni A.ci],.int .i64 LV] w (IPost c R (an + It.nodesL ks) (sn + (It.encs ks).length) w):=by
 have HNI:Hid (A.ni=ks.length):=dh hT.1;have HLV:=dh hLV;have HT0:=dh hT;have HOK:=dh hok;have HE0:=dh hE;have H1C:=dh h1c;have HAN:=dh han;have HSN:=dh hsn;have HR:=dh hR;have HIH:=dh ih;have hana:an≤256:=by omega
 have hsna:sn≤4096:=by omega
 clear hLV hT hok hE h1c han hsn hR ih;have hk:k≠0∧k≠1∧k≠2∧k≠3∧k≠7∧k≠8:=by omega
 have hcl:=lb hc;obtain ⟨ab,nb,cb,ai,ni,ci⟩:=A;simp only at *;have P0:=al w (.cells #[.int .i64 k,.int .u64 N,.slice ab nb cb,.slice ai ni ci] 31);have N0:=aw w (.cells #[.int .i64 k,.int .u64 N,.slice ab nb cb,.slice ai ni ci] 31);have hc1:=Below.keep P0 hc hcl;have Q0:=But.of_below (b:=c) P0;have hne:w.heap.size≠c:=by omega
 obtain ⟨y0,y1,y2,y3⟩:=cw hc1;obtain ⟨x0,x1,x2,x3⟩:=cf N0;have X2:=set_other (v:=.int .i64 (a + 1)) (a:=⟨c,0,none⟩) N0 hne;have C2:=set_zero (z:=.int .i64 (a + 1)) hc1;have Q2:=Q0.setCell (p:=⟨c,0,none⟩) rfl (.int .i64 (a + 1));have HX2:=dh X2;have HC2:=dh C2;have HQ2:=dh Q2;have HPL:=dh (fun W=>plain_no k N ab ai nb cb ni ci W hk);have h1d:decide (256 < a + 1)=false:=decide_eq_false (by omega);have h2d:decide ((4096:Int) < (nb:Int))=false:=decide_eq_false (by omega);have h3d:decide ((256:Int) < (ni:Int))=false:=decide_eq_false (by omega);have h1z:¬ 256 < a + 1:=by omega
 have h2z:¬ (4096:Int) < (nb:Int):=by omega
 have h3z:¬ (256:Int) < (ni:Int):=by omega
 clear P0 N0 hc1 hc Q0 X2 C2 Q2;generalize hB:w.heap.size=B at *;have d1:decide (k < 4)=false:=decide_eq_false (by omega);have d2:decide (6 < k)=false:=decide_eq_false (by omega);have d3:decide (8≤LV)=false:=decide_eq_false (by omega);have d4:decide ((0:Int) < (nb:Int))=false:=decide_eq_false (by omega);have z1:¬ k < 4:=by omega
 have z2:¬ 6 < k:=by omega
 have z3:¬ 8≤LV:=by omega
 have z4:¬ (0:Int) < (nb:Int):=by omega
 have z5:¬ 0 < nb:=by omega
 have HSP:=dh hsp;have b1:(k==6)=true:=beq_t hkk;have b1':(k !=6)=false:=by simpa using hkk
 have b5:(k==5)=false:=beq_f (by omega);have b5':(k !=5)=true:=by simp;omega
 have b2:((ni:Int) !=1)=false:=by simp;omega
 have db:decide (s + o≤4096)=true:=decide_eq_true hbig;clear hkk hk hnb hni hsp;go_enter Tryd.func54,Tryd.ntmps54
 go_upto_region 1 with fail
 generalize w.alloc (.cells #[.int .i64 k,.int .u64 N,.slice ab nb cb,.slice ai ni ci] 31)=w1 at *;go_upto_region 2 with fail
 clear x0 x1 x2 x3 y0 y1 y2 y3;generalize w1.setCell ⟨c,0,none⟩ (.int .i64 (a + 1))=w2 at *;obtain ⟨y0,y1,y2,y3⟩:=cw HC2.out;obtain ⟨x0,x1,x2,x3⟩:=cf HX2.out;have hcl2:=lb HC2.out;have hBl2:=lb HX2.out;go_wp2_with fail
 refine (HPL.out w2).mono ?_;rintro e w3 ⟨rfl,B3⟩;have HC3:=dh (Below.keep B3 HC2.out hcl2);have HX3:=dh (Below.keep B3 HX2.out hBl2);have HQ3:=dh (HQ2.out.trans (But.of_below B3));clear x0 x1 x2 x3 y0 y1 y2 y3 B3;obtain ⟨x0,x1,x2,x3⟩:=cf HX3.out;go_wp2_with fail
 refine (HSP.out w3 HC3.out).mono ?_;rintro e w4 ⟨rfl,C4,Q4⟩;have HX4:=dh ((Q4.block B (lb HX3.out) hne).trans HX3.out);rw [HAN.out,HSN.out] at C4;have HC4:=dh C4;have HQ4:=dh (HQ3.out.trans Q4);have HIT:=dh (But.tl HT0.out HQ4.out HOK.out);have HE:=dh (But.env HE0.out HQ4.out H1C.out);clear C4 Q4 x0 x1 x2 x3;obtain ⟨x0,x1,x2,x3⟩:=cf HX4.out;go_wp2_with fail
 clear x0 x1 x2 x3;go_loopw [103] (fun i W=>CK D ks R an sn c ni w4 i W) (fun i _=>ni - (intOf i).toNat)
 case atStart=>exact CK.start HR.out hana hsna HC4.out
 case round=>
  obtain ⟨j,aj,sj,rfl,hj,hok',ha,hs,hna,hns,hcj,hbw⟩:=hrel;by_cases hjn:j < ni
  ·have hjk:j < ks.length:=by have:=HNI.out;omega
   have hd:=List.drop_eq_getElem_cons hjk;rw [hd] at hok' hna hns;rw [It.okL_cons] at hok';simp only [It.nodesL,It.encs,List.length_append] at hna hns;obtain ⟨b',o',A',rfl,hb',⟨c0,c1,c2,c3⟩,hI'⟩:=(But.tl HIT.out hbw HOK.out).2.2 j hjk;have PA:=al wr (.cells #[.int .i64 ks[j].kind,.int .u64 (ks[j].num:Int),.slice A'.ab A'.nb A'.cb,.slice A'.ai A'.ni A'.ci] 31);have HCC:=dh (HIH.out ks[j] A' (wr.alloc (.cells #[.int .i64 ks[j].kind,.int .u64 (ks[j].num:Int),.slice A'.ab A'.nb A'.cb,.slice A'.ai A'.ni A'.ci] 31)) ok c aj sj (LV + 1) (hI'.below PA) HOK.out (But.env HE.out (hbw.trans (But.of_below PA)) H1C.out) H1C.out (alloc_keep hcj) ha hs HLV.out);have HPA:=dh (hbw.trans (But.of_below PA));have HOKJ:=dh hok';have HNA:=dh hna;have HNS:=dh hns;have hlt:(j:Int) < (ni:Int):=by omega
   clear hd hok' hna hns hI' PA hcj hbw;generalize ks[j]=y at *;generalize hr:It.okP D y aj sj=r at *;have HRR:=dh hr;clear hr;go_wp2_with fail
   refine HCC.out.mono ?_;rintro e w6 ⟨rfl,B6,C6⟩;have HB6:=dh (HPA.out.trans B6);have HC6:=dh C6;clear B6 C6 c0 c1 c2 c3;cases r with
   | false=>
     go_wp2_with fail
     go_ret
     have hRf:R=false:=by rw [← HOKJ.out];rfl
     exact ⟨by rw [hRf];rfl,HQ4.out.trans HB6.out,fun h=>by rw [hRf] at h;cases h⟩
   | true=>
     go_wp2_with fail
     go_roundw
     case rel=>
      have hl:=okP_le HRR.out;have h1:=HNA.out;have h2:=HNS.out;exact ⟨j + 1,aj + It.nodes y,sj + (It.enc y).length,by go_num,by omega,by simpa using HOKJ.out,hl.1,hl.2,by omega,by omega,HC6.out trivial,HB6.out⟩
     case measure=>simp [intOf];omega
  ·obtain rfl:j=ni:=by omega
   have hx:=(hbw.block B (lb HX4.out) hne).trans HX4.out;obtain ⟨x0,x1,x2,x3⟩:=cf hx;have hjj:j=ks.length:=HNI.out;have hRt:R=true:=CK.stop (by rw [← hjj];exact hok') ha hs;have hdr:ks.drop j=[]:=by rw [hjj];exact List.drop_length
   rw [hdr] at hna hns;simp only [It.nodesL,It.encs,List.length_nil,Nat.add_zero] at hna hns;have HRT:=dh hRt;have HBW:=dh hbw;have HCJ:=dh hcj;have HNA:=dh hna;have HNS:=dh hns;clear hx hjj hRt hdr hna hns hbw hcj hok';go_wp2_with fail
   go_ret
   refine ⟨by rw [HRT.out];rfl,HQ4.out.trans HBW.out,fun _=>?_⟩;rw [← HNA.out,← HNS.out];exact HCJ.out
theorem ITP.ip {c:Nat} {okv:Bool} {A S:Int} {a s:Nat} {R:Bool} {w:World} {e:Ending} {w':World} (h:ITP c okv A S w e w') (hA:okv=true→A=a) (hS:okv=true→S=s) (hR:R=(okv && decide (S≤4096))):IPost c R a s w e w':=by
 obtain ⟨hB,h⟩:=h;rcases h with ⟨rfl,rfl⟩ | ⟨rfl,rfl,hc⟩
 ·exact ⟨by rw [hR];rfl,hB,fun h=>by rw [hR] at h;cases h⟩
 ·exact ⟨by rw [hR,Bool.true_and],hB,fun _=>by rw [← hA rfl,← hS rfl];exact hc⟩
theorem IPost.no {c:Nat} {a s:Nat} {R:Bool} {w:World} {e:Ending} {w':World} (h:e=.returned (.bool false)∧But c w w') (hR:R=false):IPost c R a s w e w':=
 ⟨by rw [hR];exact h.1,h.2,fun h'=>by rw [hR] at h';cases h'⟩
theorem IPost.as {c:Nat} {a s a' s':Nat} {R R':Bool} {w:World} {e:Ending} {w':World} (h:IPost c R a s w e w') (hR:R'=R) (ha:R=true→a'=a) (hs:R=true→s'=s):IPost c R' a' s' w e w':=by
 subst hR;exact ⟨h.1,h.2.1,fun h'=>by rw [ha h',hs h'];exact h.2.2 h'⟩
theorem okP_plain {d a s:Nat} {x:It} {okv:Bool} {o:Int} (h:It.wf d x=okv) (hn:okv=true→It.nodes x=1) (he:okv=true→((It.enc x).length:Int)=o) (ha:a + 1≤256):It.okP d x a s=(okv && decide ((s:Int) + o≤4096)):=by
 unfold It.okP;rw [h];cases okv with
 | false=>rfl
 | true=>
   have:=he rfl;rw [hn rfl,decide_eq_true ha];simp only [Bool.true_and];rw [decide_eq_decide];omega
theorem okP_false {d a s:Nat} {x:It} (h:It.wf d x=true→256 < a + It.nodes x∨4096 < s + (It.enc x).length):It.okP d x a s=false:=by
 unfold It.okP;cases hw:It.wf d x with
 | false=>rfl
 | true=>
   rcases h hw with h | h
   ·rw [decide_eq_false (by omega:¬ a + It.nodes x≤256)];rfl
   ·rw [decide_eq_false (by omega:¬ s + (It.enc x).length≤4096)];simp
theorem okP_cont {d n a s o:Nat} {k:Int} {ks:List It} (hd:0 < d) (hn:n < 18446744073709551616) (hk:k=4∨k=5∨k=6) (h6:k=6→ks.length=1) (h0:k≠6→n=0) (h5:k=5→ks.length % 2=0) (ho:(It.enc (.mk k n [] ks)).length=o + (It.encs ks).length):
 It.okP d (.mk k n [] ks) a s=(It.okL (d - 1) ks (a + 1) (s + o) && (if k=5 then It.asc .none ks else true)):=by
 have hw:It.wf d (.mk k n [] ks)=((if k=5 then It.asc .none ks else true) && It.wfs (d - 1) ks):=by
  rcases hk with rfl | rfl | rfl
  ·simp [It.wf,hd,h0 (by decide)]
  ·simp [It.wf,hd,h0 (by decide),h5 rfl]
  ·simp [It.wf,hd,hn,h6 rfl]
 unfold It.okP It.okL;rw [hw,ho,show It.nodes (.mk k n [] ks)=1 + It.nodesL ks from rfl];generalize (if k=5 then It.asc .none ks else true)=p;rw [show a + (1 + It.nodesL ks)=a + 1 + It.nodesL ks from by omega,show s + (o + (It.encs ks).length)=s + o + (It.encs ks).length from by omega];cases p <;> cases It.wfs (d - 1) ks <;> simp
theorem But.br {ok:Nat→Prop} {c:Nat} {w w':World} {l:List UInt8} {a:Option Addr} {n:Nat} (h:BR ok w a n l) (hb:But c w w') (hk:∀ b,ok b→b≠c):BR ok w' a n l:=h.keep fun b hb' hl=>⟨hb.block b hl (hk b hb'),hb'⟩
theorem le_enc_str {d:Nat} {k:Int} {n:Nat} {b:List UInt8} {ks:List It} (h:It.wf d (.mk k n b ks)=true):b.length≤(It.enc (.mk k n b ks)).length:=by
 obtain ⟨_,h⟩:=wf_kinds h;rcases h with ⟨h1,rfl,_⟩ | ⟨h1,_,_⟩ | ⟨rfl,rfl,_⟩ | ⟨rfl,rfl,_⟩ | ⟨h1,rfl,_⟩
 ·simp
 ·have:It.enc (.mk k n b ks)=It.head k.toNat b.length ++ b:=by rcases h1 with rfl | rfl <;> simp [It.enc]
  rw [this,List.length_append];omega
 ·simp
 ·simp
 ·simp
theorem wf_0 {d n:Nat} {k:Int} {b:List UInt8} {ks:List It} (hk:k=0∨k=1) (hn:n < 18446744073709551616):It.wf d (.mk k n b ks)=(decide (b.length=0) && decide (ks.length=0)):=by
 unfold It.wf;rw [if_pos hk,decide_eq_true hn];cases b <;> cases ks <;> simp
theorem wf_2 {d n:Nat} {b:List UInt8} {ks:List It} (hn:n < 18446744073709551616):It.wf d (.mk 2 n b ks)=(decide ((n:Int)=0) && decide (ks.length=0)):=by
 unfold It.wf;rw [if_neg (by decide),if_pos rfl,decide_eq_true hn];cases ks <;> simp
theorem wf_3 {d n:Nat} {b:List UInt8} {ks:List It} (hn:n < 18446744073709551616):It.wf d (.mk 3 n b ks)=(decide ((n:Int)=0) && decide (ks.length=0) && Lib.validD b):=by
 unfold It.wf;rw [if_neg (by decide),if_neg (by decide),if_pos rfl,decide_eq_true hn];cases ks <;> simp
theorem wf_7 {d n:Nat} {b:List UInt8} {ks:List It} (hn:n < 18446744073709551616):It.wf d (.mk 7 n b ks)=(decide (b.length=0) && decide (ks.length=0) && (decide ((n:Int) < 24) || decide (32≤(n:Int)∧(n:Int) < 256))):=by
 unfold It.wf;rw [if_neg (by decide),if_neg (by decide),if_neg (by decide),if_pos rfl,decide_eq_true hn];have e1:decide ((n:Int) < 24)=decide (n < 24):=by rw [decide_eq_decide];omega
 have e2:decide (32≤(n:Int)∧(n:Int) < 256)=decide (32≤n∧n < 256):=by rw [decide_eq_decide];omega
 rw [e1,e2];cases b <;> cases ks <;> simp
theorem wf_8 {d n:Nat} {b:List UInt8} {ks:List It} (hn:n < 18446744073709551616):It.wf d (.mk 8 n b ks)=(decide (b.length=0) && decide (ks.length=0) && (!Fl.isNaN n || decide (n=Fl.nan))):=by
 unfold It.wf;rw [if_neg (by decide),if_neg (by decide),if_neg (by decide),if_neg (by decide),if_pos rfl,decide_eq_true hn];cases b <;> cases ks <;> simp
theorem wf_none {d n:Nat} {k:Int} {b:List UInt8} {ks:List It} (hk:¬ (k=0∨k=1∨k=2∨k=3∨k=4∨k=5∨k=6∨k=7∨k=8)):¬ It.wf d (.mk k n b ks)=true:=by
 intro h;obtain ⟨_,h⟩:=wf_kinds h;omega
set_option maxHeartbeats 4000000 in
theorem item_step (d:Nat) (hd8:d≤8) (ih:0 < d→ItC (d - 1)):ItC d:=by
 intro x A w ok c a s LV hI hok hE h1c hc ha hs hLV;have hn:=hI.num;have hnb:=hI.nb.1;have hni:=hI.ni.1;have hbr:=hI.br;have htl:=hI.tl;have hcb:=hI.caps.1;cases x with
 | mk k n b ks=>
   simp only [It.kind,It.num,It.bytes,It.kids] at *;by_cases hov:256 < (a:Int) + 1∨4096 < A.nb∨256 < A.ni
   ·refine (item_over (.mk k n b ks) A w c a s LV hc (by omega) (by omega) hov).mono fun e w' h=>IPost.no h (okP_false fun hw=>?_)
    rcases hov with h | h | h
    ·have:=It.nodes_pos (.mk k n b ks);left;omega
    ·have:=le_enc_str hw;right;omega
    ·have:It.nodes (.mk k n b ks)=1 + It.nodesL ks:=rfl
     have:=It.length_le_nodesL ks;left;omega
   have h2:A.nb≤4096:=by omega
   have h3:A.ni≤256:=by omega
   have a1:a + 1≤256:=by omega
   have a1z:(a:Int) + 1≤256:=by omega
   have a0z:(0:Int)≤(a:Int):=by omega
   clear hov;by_cases hk0:k=0∨k=1
   ·have hw:=wf_0 (d:=d) (b:=b) (ks:=ks) hk0 hn
    rw [← hnb,← hni] at hw;have hb:(decide (A.nb=0) && decide (A.ni=0))=true→b=[]∧ks=[]:=fun h=>by
     simp only [Bool.and_eq_true,decide_eq_true_eq] at h;exact ⟨List.eq_nil_of_length_eq_zero (by omega),List.eq_nil_of_length_eq_zero (by omega)⟩
    have he:(decide (A.nb=0) && decide (A.ni=0))=true→((It.enc (.mk k n b ks)).length:Int)=(It.head k.toNat n).length + (A.nb:Int):=fun h=>by
     obtain ⟨rfl,rfl⟩:=hb h;rw [hnb];rcases hk0 with rfl | rfl <;> simp [It.enc]
    have hnd:(decide (A.nb=0) && decide (A.ni=0))=true→It.nodes (.mk k n b ks)=1:=fun h=>by
     obtain ⟨rfl,rfl⟩:=hb h;rfl
    refine (item_plain k n A w c a s LV ((It.head k.toNat n).length + (A.nb:Int)) hc a0z a1z h2 h3 (decide (A.nb=0) && decide (A.ni=0)) (fun W _=>?_) (fun _ W hW=>?_)).mono fun e w' h=>h.ip (fun h=>by rw [hnd h];omega) (fun h=>by rw [Int.natCast_add,he h]) (okP_plain hw hnd he a1)
    ·rcases hk0 with rfl | rfl
     ·exact plain_0 n A.ab A.ai A.nb A.cb A.ni A.ci W _ rfl
     ·exact plain_1 n A.ab A.ai A.nb A.cb A.ni A.ci W _ rfl
    ·rcases hk0 with rfl | rfl
     ·exact spend_head c _ _ 0 n 0 n n rfl (by omega) _ _ _ _ _ _ (fun W=>major_num 0 0 n rfl (by omega) _ _ _ _ _ _ W) rfl rfl W hW (by omega) (by omega) (by omega)
     ·exact spend_head c _ _ 1 n 1 n n rfl (by omega) _ _ _ _ _ _ (fun W=>major_num 1 1 n rfl (by omega) _ _ _ _ _ _ W) rfl rfl W hW (by omega) (by omega) (by omega)
   by_cases hk2:k=2
   ·subst hk2
    have hw:=wf_2 (d:=d) (b:=b) (ks:=ks) hn;rw [← hni] at hw;have hb:(decide ((n:Int)=0) && decide (A.ni=0))=true→n=0∧ks=[]:=fun h=>by
     simp only [Bool.and_eq_true,decide_eq_true_eq] at h;exact ⟨by omega,List.eq_nil_of_length_eq_zero (by omega)⟩
    have he:(decide ((n:Int)=0) && decide (A.ni=0))=true→((It.enc (.mk 2 n b ks)).length:Int)=(It.head 2 b.length).length + (A.nb:Int):=fun h=>by
     obtain ⟨rfl,rfl⟩:=hb h;rw [hnb];simp [It.enc]
    have hnd:(decide ((n:Int)=0) && decide (A.ni=0))=true→It.nodes (.mk 2 n b ks)=1:=fun h=>by
     obtain ⟨rfl,rfl⟩:=hb h;rfl
    refine (item_plain 2 n A w c a s LV ((It.head 2 b.length).length + (A.nb:Int)) hc a0z a1z h2 h3 (decide ((n:Int)=0) && decide (A.ni=0)) (fun W _=>?_) (fun _ W hW=>?_)).mono fun e w' h=>h.ip (fun h=>by rw [hnd h];omega) (fun h=>by rw [Int.natCast_add,he h]) (okP_plain hw hnd he a1)
    ·exact plain_2 n A.ab A.ai A.nb A.cb A.ni A.ci W _ rfl
    ·exact spend_head c _ _ 2 n 2 b.length A.nb (by omega) (by omega) _ _ _ _ _ _ (fun W=>major_str 2 2 n rfl (by omega) _ _ _ _ _ _ (by omega) W) rfl rfl W hW (by omega) (by omega) (by omega)
   by_cases hk3:k=3
   ·subst hk3
    have hw:=wf_3 (d:=d) (b:=b) (ks:=ks) hn;rw [← hni] at hw;have hb:(decide ((n:Int)=0) && decide (A.ni=0) && Lib.validD b)=true→n=0∧ks=[]:=fun h=>by
     simp only [Bool.and_eq_true,decide_eq_true_eq] at h;exact ⟨by omega,List.eq_nil_of_length_eq_zero (by omega)⟩
    have he:(decide ((n:Int)=0) && decide (A.ni=0) && Lib.validD b)=true→((It.enc (.mk 3 n b ks)).length:Int)=(It.head 3 b.length).length + (A.nb:Int):=fun h=>by
     obtain ⟨rfl,rfl⟩:=hb h;rw [hnb];simp [It.enc]
    have hnd:(decide ((n:Int)=0) && decide (A.ni=0) && Lib.validD b)=true→It.nodes (.mk 3 n b ks)=1:=fun h=>by
     obtain ⟨rfl,rfl⟩:=hb h;rfl
    refine (item_plain 3 n A w c a s LV ((It.head 3 b.length).length + (A.nb:Int)) hc a0z a1z h2 h3 (decide ((n:Int)=0) && decide (A.ni=0) && Lib.validD b) (fun W hbW=>?_) (fun _ W hW=>?_)).mono fun e w' h=>h.ip (fun h=>by rw [hnd h];omega) (fun h=>by rw [Int.natCast_add,he h]) (okP_plain hw hnd he a1)
    ·exact plain_3 n A.ab A.ai A.nb A.cb A.ni A.ci W (Lib.validD b) (fun W' hB=>valid_any ((But.env hE hbW h1c).below hB) ((But.br hbr hbW hok).below hB) hcb.1 _ rfl) _ rfl
    ·exact spend_head c _ _ 3 n 3 b.length A.nb (by omega) (by omega) _ _ _ _ _ _ (fun W=>major_str 3 3 n rfl (by omega) _ _ _ _ _ _ (by omega) W) rfl rfl W hW (by omega) (by omega) (by omega)
   by_cases hk7:k=7
   ·subst hk7
    have hw:=wf_7 (d:=d) (b:=b) (ks:=ks) hn;rw [← hnb,← hni] at hw;have hb:(decide (A.nb=0) && decide (A.ni=0) && (decide ((n:Int) < 24) || decide (32≤(n:Int)∧(n:Int) < 256)))=true→b=[]∧ks=[]:=fun h=>by
     simp only [Bool.and_eq_true,decide_eq_true_eq] at h;exact ⟨List.eq_nil_of_length_eq_zero (by omega),List.eq_nil_of_length_eq_zero (by omega)⟩
    have he:(decide (A.nb=0) && decide (A.ni=0) && (decide ((n:Int) < 24) || decide (32≤(n:Int)∧(n:Int) < 256)))=true→((It.enc (.mk 7 n b ks)).length:Int)=(if n < 24 then 1 else 2):=fun h=>by
     rw [It.enc7]
     split <;> rfl
    have hnd:(decide (A.nb=0) && decide (A.ni=0) && (decide ((n:Int) < 24) || decide (32≤(n:Int)∧(n:Int) < 256)))=true→It.nodes (.mk 7 n b ks)=1:=fun h=>by
     obtain ⟨rfl,rfl⟩:=hb h;rfl
    refine (item_plain 7 n A w c a s LV (if n < 24 then 1 else 2) hc a0z a1z h2 h3 (decide (A.nb=0) && decide (A.ni=0) && (decide ((n:Int) < 24) || decide (32≤(n:Int)∧(n:Int) < 256))) (fun W _=>?_) (fun _ W hW=>?_)).mono fun e w' h=>h.ip (fun h=>by rw [hnd h];omega) (fun h=>by rw [Int.natCast_add,he h]) (okP_plain hw hnd he a1)
    ·exact plain_7 n A.ab A.ai A.nb A.cb A.ni A.ci W _ rfl
    ·exact spend_simple c _ _ n n rfl _ _ _ _ _ _ W hW (by omega) (by omega) _ rfl
   by_cases hk8:k=8
   ·subst hk8
    have hw:=wf_8 (d:=d) (b:=b) (ks:=ks) hn;rw [← hnb,← hni] at hw;have hb:(decide (A.nb=0) && decide (A.ni=0) && (!Fl.isNaN n || decide (n=Fl.nan)))=true→b=[]∧ks=[]:=fun h=>by
     simp only [Bool.and_eq_true,decide_eq_true_eq] at h;exact ⟨List.eq_nil_of_length_eq_zero (by omega),List.eq_nil_of_length_eq_zero (by omega)⟩
    have he:(decide (A.nb=0) && decide (A.ni=0) && (!Fl.isNaN n || decide (n=Fl.nan)))=true→((It.enc (.mk 8 n b ks)).length:Int)=((It.flt n).length:Int):=fun h=>by
     rw [It.enc8]
    have hnd:(decide (A.nb=0) && decide (A.ni=0) && (!Fl.isNaN n || decide (n=Fl.nan)))=true→It.nodes (.mk 8 n b ks)=1:=fun h=>by
     obtain ⟨rfl,rfl⟩:=hb h;rfl
    refine (item_plain 8 n A w c a s LV ((It.flt n).length:Int) hc a0z a1z h2 h3 (decide (A.nb=0) && decide (A.ni=0) && (!Fl.isNaN n || decide (n=Fl.nan))) (fun W _=>?_) (fun _ W hW=>?_)).mono fun e w' h=>h.ip (fun h=>by rw [hnd h];omega) (fun h=>by rw [Int.natCast_add,he h]) (okP_plain hw hnd he a1)
    ·exact plain_8 n n rfl hn A.ab A.ai A.nb A.cb A.ni A.ci W _ rfl
    ·exact spend_float c _ _ n n rfl hn _ _ _ _ _ _ W hW (by omega) (by omega)
   have hkk:k≠0∧k≠1∧k≠2∧k≠3∧k≠7∧k≠8:=by omega
   by_cases hno:k < 4∨6 < k∨8≤LV∨0 < A.nb
   ·refine (item_no k n A w c a s LV hc a0z a1z h2 h3 hkk hno).mono fun e w' h=>IPost.no h (okP_false fun hw=>?_)
    exfalso
    obtain ⟨_,h⟩:=wf_kinds hw;rcases h with ⟨h,_⟩ | ⟨h,_⟩ | ⟨h,_⟩ | ⟨h,_⟩ | ⟨h,rfl,h0,_⟩
    ·omega
    ·omega
    ·omega
    ·omega
    ·rw [List.length_nil] at hnb;omega
   have hk46:4≤k∧k≤6:=by omega
   have hlv:LV < 8:=by omega
   have hnb0:A.nb=0:=by omega
   have hd0:0 < d:=by omega
   have hb0:b=[]:=List.eq_nil_of_length_eq_zero (by omega);subst hb0;clear hno;by_cases hsh:k=6∧A.ni≠1∨k≠6∧(n:Int)≠0∨k=5∧A.ni % 2=1
   ·refine (item_shape k n A w c a s LV hc a0z a1z h2 h3 hk46 hlv hnb0 hsh).mono fun e w' h=>IPost.no h (okP_false fun hw=>?_)
    exfalso
    obtain ⟨_,h⟩:=wf_kinds hw;rcases h with ⟨h,_⟩ | ⟨h,_⟩ | ⟨h,_⟩ | ⟨h,_⟩ | ⟨h,_,h0,g1,g2,g3,_⟩
    ·omega
    ·omega
    ·omega
    ·omega
    ·rcases hsh with ⟨e1,e2⟩ | ⟨e1,e2⟩ | ⟨e1,e2⟩
     ·have:=g1 e1;omega
     ·have:=g2 e1;omega
     ·have:=(g3 e1).1;omega
   have g6:k=6→ks.length=1:=fun h=>by omega
   have g0:k≠6→n=0:=fun h=>by omega
   have g5:k=5→ks.length % 2=0:=fun h=>by omega
   clear hsh;have hih:=ih hd0;have hLV':LV + 1=8 - ((d - 1:Nat):Int):=by omega
   have hlv0:0≤LV:=by omega
   have hk3:k=4∨k=5∨k=6:=by omega
   rcases hk3 with rfl | rfl | rfl
   ·have ho:(It.enc (.mk 4 n [] ks)).length=(It.head 4 ks.length).length + (It.encs ks).length:=by simp [It.enc]
    have hsp:∀ W,W.heap[c]?=some (.cells #[.int .i64 ((a:Int) + 1),.int .i64 (s:Int)] 99 (0,0))→Calls Tryd.prog 85 #[.pointer (some ⟨c,0,none⟩),.agg #[.int .i64 4,.int .u64 (n:Int),.slice A.ab A.nb A.cb,.slice A.ai A.ni A.ci]] W (SP c ((a:Int) + 1) ((s:Int) + ((It.head 4 ks.length).length + (A.nb:Int))) W):=fun W hW=>
     spend_head c _ _ 4 n 4 ks.length A.ni (by omega) (by omega) _ _ _ _ _ _ (fun W=>major_arr n _ _ _ _ _ _ (by omega) W) rfl rfl W hW (by omega) (by omega) (by omega)
    by_cases hbig:4096 < (s:Int) + ((It.head 4 ks.length).length + (A.nb:Int))
    ·exact (item_over_4 4 n A w c a s LV hc a0z a1z h2 h3 _ rfl (by have:=g0 (by decide);omega) hlv hnb0 hsp hbig).mono fun e w' h=>IPost.no h (okP_false fun hw=>by right;omega)
    ·refine (item_kids_4 4 n A w c a s LV hc a0z a1z h2 h3 _ rfl (by have:=g0 (by decide);omega) hlv0 hlv hnb0 hsp (by omega) (d - 1) hih hLV' ks ok htl hok hE h1c (a + 1) (s + (It.head 4 ks.length).length) (by omega) (by omega) _ rfl).mono fun e w' h=>h.as ?_ (fun _=>?_) (fun _=>?_)
     ·rw [okP_cont hd0 hn (by omega) g6 g0 g5 ho,if_neg (by decide),Bool.and_true]
     ·have:It.nodes (.mk 4 n [] ks)=1 + It.nodesL ks:=rfl
      omega
     ·omega
   ·have ho:(It.enc (.mk 5 n [] ks)).length=(It.head 5 (ks.length / 2)).length + (It.encs ks).length:=by simp [It.enc]
    have hsp:∀ W,W.heap[c]?=some (.cells #[.int .i64 ((a:Int) + 1),.int .i64 (s:Int)] 99 (0,0))→Calls Tryd.prog 85 #[.pointer (some ⟨c,0,none⟩),.agg #[.int .i64 5,.int .u64 (n:Int),.slice A.ab A.nb A.cb,.slice A.ai A.ni A.ci]] W (SP c ((a:Int) + 1) ((s:Int) + ((It.head 5 (ks.length / 2)).length + (A.nb:Int))) W):=fun W hW=>
     spend_head c _ _ 5 n 5 (ks.length / 2) ((A.ni / 2:Nat):Int) (by omega) (by omega) _ _ _ _ _ _ (fun W=>major_map n _ _ _ _ _ _ (by omega) W) rfl rfl W hW (by omega) (by omega) (by omega)
    by_cases hbig:4096 < (s:Int) + ((It.head 5 (ks.length / 2)).length + (A.nb:Int))
    ·exact (item_over_5 5 n A w c a s LV hc a0z a1z h2 h3 _ rfl (by have:=g0 (by decide);omega) (by have:=g5 rfl;omega) hlv hnb0 hsp hbig).mono fun e w' h=>IPost.no h (okP_false fun hw=>by right;omega)
    ·refine (item_kids_5 5 n A w c a s LV hc a0z a1z h2 h3 _ rfl (by have:=g0 (by decide);omega) (by have:=g5 rfl;omega) hlv0 hlv hnb0 hsp (by omega) (d - 1) hih hLV' ks ok htl hok hE h1c (a + 1) (s + (It.head 5 (ks.length / 2)).length) (by omega) (by omega) _ rfl).mono fun e w' h=>h.as ?_ (fun _=>?_) (fun _=>?_)
     ·rw [okP_cont hd0 hn (by omega) g6 g0 g5 ho,if_pos rfl]
     ·have:It.nodes (.mk 5 n [] ks)=1 + It.nodesL ks:=rfl
      omega
     ·omega
   ·have ho:(It.enc (.mk 6 n [] ks)).length=(It.head 6 n).length + (It.encs ks).length:=by simp [It.enc]
    have hsp:∀ W,W.heap[c]?=some (.cells #[.int .i64 ((a:Int) + 1),.int .i64 (s:Int)] 99 (0,0))→Calls Tryd.prog 85 #[.pointer (some ⟨c,0,none⟩),.agg #[.int .i64 6,.int .u64 (n:Int),.slice A.ab A.nb A.cb,.slice A.ai A.ni A.ci]] W (SP c ((a:Int) + 1) ((s:Int) + ((It.head 6 n).length + (A.nb:Int))) W):=fun W hW=>
     spend_head c _ _ 6 n 6 n n rfl (by omega) _ _ _ _ _ _ (fun W=>major_num 6 6 n rfl (by omega) _ _ _ _ _ _ W) rfl rfl W hW (by omega) (by omega) (by omega)
    by_cases hbig:4096 < (s:Int) + ((It.head 6 n).length + (A.nb:Int))
    ·exact (item_over_6 6 n A w c a s LV hc a0z a1z h2 h3 _ rfl (by have:=g6 rfl;omega) hlv hnb0 hsp hbig).mono fun e w' h=>IPost.no h (okP_false fun hw=>by right;omega)
    ·refine (item_kids_6 6 n A w c a s LV hc a0z a1z h2 h3 _ rfl (by have:=g6 rfl;omega) hlv0 hlv hnb0 hsp (by omega) (d - 1) hih hLV' ks ok htl hok hE h1c (a + 1) (s + (It.head 6 n).length) (by omega) (by omega) _ rfl).mono fun e w' h=>h.as ?_ (fun _=>?_) (fun _=>?_)
     ·rw [okP_cont hd0 hn (by omega) g6 g0 g5 ho,if_neg (by decide),Bool.and_true]
     ·have:It.nodes (.mk 6 n [] ks)=1 + It.nodesL ks:=rfl
      omega
     ·omega
theorem item_any:∀ d,d≤8→ItC d
 | 0,_=>item_step 0 (by omega) fun h=>by omega
 | d + 1,h=>item_step (d + 1) h fun _=>item_any d (by omega)
end Go.Proofs.YtelefkkkccilaaaDoor
