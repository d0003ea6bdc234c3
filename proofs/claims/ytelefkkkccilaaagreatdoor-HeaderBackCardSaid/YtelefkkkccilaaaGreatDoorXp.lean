/- A deck's items. -/
import Derived.Test.YtelefkkkccilaaaGreatDoorXn
import Derived.Test.YtelefkkkccilaaaGreatDoorLL
import Derived.Test.YtelefkkkccilaaaGreatDoorKA
set_option linter.all false
namespace Go.Proofs.YtelefkkkccilaaaGreatDoor
open Go.RowKit
set_option maxRecDepth 100000
def GIS (d b:Nat) (w:World) (e:Ending) (w':World):Prop:=∃ (x:It) (A:Ad),e=.returned (.agg #[.int .i64 x.kind,.int .u64 (x.num:Int),.slice A.ab A.nb A.cb,.slice A.ai A.ni A.ci])∧(It.valid x=true∧It.Sm d x)∧IR (fun q=>w.heap.size≤q) w' x A∧DW b w w'
def GenS (d:Nat):Prop:=∀ (b:Nat) (w:World) (D:Int),D=d→Deck w b→Env w→1 < b→Calls Tryz.prog 27 #[.pointer (some ⟨b,0,none⟩),.int .i64 D] w (GIS d b w)
theorem valid_flat {k:Int} {n:Nat} {b:List UInt8} (h:It.wf 8 (.mk k n b [])=true) (hl:b.length≤4000):It.valid (.mk k n b [])=true:=by
 unfold It.valid;have h1:=It.enc_le k n b [];rw [h,show It.nodes (.mk k n b [])=1 from rfl,dt (show (1:Nat)≤256 by omega),dt]
 ·rfl
 ·simp [It.encs] at h1;omega
theorem leafS {d:Nat} {k:Int} {n:Nat} {b:List UInt8} (h:∀ d,It.wf d (.mk k n b [])=true) (hl:b.length≤30):It.valid (.mk k n b [])=true∧It.Sm d (.mk k n b []):=⟨valid_flat (h 8) (by omega),It.Sm.flat (h d) hl⟩
theorem buildP_ok {ps:List It} {x:It} (h:It.buildP ps=.ok x):It.valid x=true:=by
 unfold It.buildP at h
 split at h
 ·cases h
 split at h
 ·cases h
 split at h
 ·cases h
 split at h
 ·cases h
 ·rename_i h1
  cases h
  simpa using h1
theorem gen_push {b base:Nat} {W W6:World} {v:Value} {es:List (It × Ad)} (hO:OutI W base (fun q=>base≤q) v es) (hbW:base≤W.heap.size) (hbb:b < base) (hB:But b W W6) {y:It} {A:Ad} (hI:IR (fun q=>W.heap.size≤q) W6 y A) (c:Nat) (hsz:es.length≤1000):
 ∃ v' W',(Builtin.append_ #[24,24] 24 #[v,.slice (some ⟨W6.heap.size,0,none⟩) 1 c]).run Tryz.prog (W6.alloc (o4 y A))=.ok v' W'∧OutI W' base (fun q=>base≤q) v' (es ++ [(y,A)])∧Below base W6 W':=by
 obtain ⟨hP,hN⟩:=an W6 (o4 y A);have h6:=hO.deck hB hbb (fun q hq=>by omega);have h7:=h6.pure hP;have hs:=hB.size;obtain ⟨v',W',h1,h2,h3,_⟩:=h7.app (news:=[(y,A)]) (c:=c) (SrcI.one hN) (fun e he=>by
  simp only [List.mem_singleton] at he;subst he;exact (hI.below hP).imp fun q hq _=>⟨by omega,fun e=>by have:=olt hO.row e;omega⟩) (by omega) (by have:=hP.size;omega)
 exact ⟨v',W',h1,h2,bg (hP.mono (by omega)) (by have:=hP.size;omega) h7.row h3⟩
theorem TL.one {ok:Nat→Prop} {W:World} {b T:Nat} {y:It} {A:Ad} (h:W.heap[b]?=some (.cells #[.int .i64 y.kind,.int .u64 (y.num:Int),.slice A.ab A.nb A.cb,.slice A.ai A.ni A.ci] T (0,0))) (hb:ok b) (hI:IR ok W y A):TL ok W [y] (some ⟨b,0,none⟩) 1:=by
 refine ⟨rfl,by omega,fun j hj=>?_⟩;have:j=0:=by simpa using hj
 subst this;obtain ⟨x0,x1,x2,x3⟩:=cf h;exact ⟨b,0,A,rfl,hb,⟨x0,x1,x2,x3⟩,hI⟩
def isSim:Value→Bool
 | .int .u64 n=>decide (0≤n∧(n < 24∨32≤n∧n < 256))
 | _=>false
theorem lit_sim {W:World} {b T i:Nat} {cs:Array Value} (h:W.heap[b]?=some (.cells cs T (0,0))) (hP:cs.all isSim=true) (hi:i < cs.size):∃ m:Nat,(m < 24∨32≤m∧m < 256)∧W.cell? ⟨b,i,none⟩=some (.int .u64 (m:Int)):=by
 have hc:=cr h i;have hv:=Array.all_eq_true.1 hP i hi;rw [Array.getElem?_eq_getElem hi] at hc;generalize cs[i]=v at *
 match v,hv with
 | .int .u64 n,hv=>
   simp only [isSim,decide_eq_true_eq] at hv;exact ⟨n.toNat,by omega,by rw [hc,Int.toNat_of_nonneg hv.1]⟩
def GL (d b B:Nat) (w:World) (v n:Value) (W:World):Prop:=∃ (q:Nat) (es:List (It × Ad)),n=.int .i64 (q:Int)∧es.length + 2 * q≤6∧(∀ e ∈ es,It.Sm d e.1)∧OutI W (B + 1) (fun q=>B + 1≤q) v es∧DW b w W∧W.heap[B]?=some (.cells #[.int .i64 0,.int .u64 0,.slice none 0 0,.slice none 0 0] 26 (0,0))
set_option maxHeartbeats 16000000 in
theorem gen_step (d:Nat) (hd4:d≤1000) (ih:0 < d→GenS (d - 1)):GenS d:=by
 intro b w D hD hd hE h1b;obtain ⟨P0,N0⟩:=an w o4z;have HD0:=dh ((DW.start hd).down P0 (Nat.le_refl _));have HN0:=dh N0;have hbB:=hd.lt;have HE:=dh hE;have HIH0:=dh ih;have hD0:0≤D:=by omega
 have hD1:D≤1000:=by omega
 have HDE:=dh hD;clear P0 N0 ih hE hD hd;go_enter Tryz.func27,Tryz.ntmps27
 go_upto_region 1 with fail
 generalize w.alloc _=w0 at *;generalize hB:w.heap.size=B at *;have hBw:w.heap.size≤B:=by omega
 go_wp2_with fail
 refine (nxa b 9 w0 HD0.out.deck (by omega) (by omega)).mono ?_;rintro e w1 ⟨k,hk0,hk1,rfl,hD1',hB1,hs1⟩;have HD1:=dh (HD0.out.next hD1' hB1);have HN1:=dh ((hB1.block B (lb HN0.out) (by omega)).trans HN0.out);clear hB1 hs1 hD1' HD0 HN0;have hk:k=0∨k=1∨k=2∨k=3∨k=4∨k=5∨k=6∨k=7∨k=8:=by omega
 clear hk0 hk1;by_cases hz:D=0
 ·subst hz
  rcases hk with rfl | rfl | rfl | rfl | rfl | rfl | rfl | rfl | rfl
  ·go_wp2_with fail
   refine (number_any b w1 HD1.out.deck).mono ?_;rintro e w2 ⟨m,hm,rfl,hD2,hB2⟩;have HD2:=dh (HD1.out.next hD2 hB2);have HN2:=dh ((hB2.block B (lb HN1.out) (by omega)).trans HN1.out);have HM:=dh hm;clear hB2 hD2 hm;obtain ⟨r0,r1,r2,r3⟩:=cf HN2.out;obtain ⟨q0,q1,q2,q3⟩:=ff HN2.out;go_wp2_with fail
   clear r0 r1 r2 r3 q0 q1 q2 q3;obtain ⟨W',hW',hp4,hs4,hb4⟩:=pq (W:=w2) (b:=B) (HN2.out) (.int .i64 0) (.int .u64 (m:Int)) (.slice none 0 0) (.slice none 0 0);rw [hW'];clear hW';obtain ⟨g0,g1,g2,g3⟩:=cf hp4;refine bodyPost_ret (v:=.agg #[.int .i64 0,.int .u64 (m:Int),.slice none 0 0,.slice none 0 0]) (by simp [results,Tryz.results27,go_sem,g0,g1,g2,g3]) rfl ?_;exact ⟨.mk 0 m [] [],⟨none,0,0,none,0,0⟩,rfl,leafS (fun _=>by rw [wf_0 (by omega) HM.out];rfl) (by simp),IR.flat _ _ HM.out,HD2.out.down (hb4 B w2 (Below.refl _ _) (Nat.le_refl _)) (by omega)⟩
  ·go_wp2_with fail
   refine (number_any b w1 HD1.out.deck).mono ?_;rintro e w2 ⟨m,hm,rfl,hD2,hB2⟩;have HD2:=dh (HD1.out.next hD2 hB2);have HN2:=dh ((hB2.block B (lb HN1.out) (by omega)).trans HN1.out);have HM:=dh hm;clear hB2 hD2 hm;obtain ⟨r0,r1,r2,r3⟩:=cf HN2.out;obtain ⟨q0,q1,q2,q3⟩:=ff HN2.out;go_wp2_with fail
   clear r0 r1 r2 r3 q0 q1 q2 q3;obtain ⟨W',hW',hp4,hs4,hb4⟩:=pq (W:=w2) (b:=B) (HN2.out) (.int .i64 1) (.int .u64 (m:Int)) (.slice none 0 0) (.slice none 0 0);rw [hW'];clear hW';obtain ⟨g0,g1,g2,g3⟩:=cf hp4;refine bodyPost_ret (v:=.agg #[.int .i64 1,.int .u64 (m:Int),.slice none 0 0,.slice none 0 0]) (by simp [results,Tryz.results27,go_sem,g0,g1,g2,g3]) rfl ?_;exact ⟨.mk 1 m [] [],⟨none,0,0,none,0,0⟩,rfl,leafS (fun _=>by rw [wf_0 (by omega) HM.out];rfl) (by simp),IR.flat _ _ HM.out,HD2.out.down (hb4 B w2 (Below.refl _ _) (Nat.le_refl _)) (by omega)⟩
  ·go_wp2_with fail
   refine (dbytes_any b 30 (by omega) w1 HD1.out.deck).mono ?_;rintro e w2 ⟨v2,l2,rfl,hO2,hl2,hW2⟩;obtain ⟨a2,c2,rfl,hR2,_,_⟩:=hO2.br;have HD2:=dh (HD1.out.next hW2.deck hW2.but);have HN2:=dh ((hW2.but.block B (lb HN1.out) (by omega)).trans HN1.out);have HC2:=dh (rbytes_any l2 a2 l2.length c2 w2 _ hR2 (by omega));have HL2:=dh hl2;clear hO2 hl2 hW2 hR2;go_wp2_with fail
   refine HC2.out.mono ?_;rintro e w3 ⟨A3,rfl,hI3,hB3⟩;simp only [It.kind,It.num];have HI3:=dh hI3;have HD3:=dh (HD2.out.down hB3 HD2.out.but.size);have HN3:=kp hB3 HN2;have HBL:=dh (lb HN2.out);clear hI3 hB3;obtain ⟨ab,nb,cb,ai,ni,ci⟩:=A3;simp only at *;obtain ⟨r0,r1,r2,r3⟩:=cf HN3.out;obtain ⟨q0,q1,q2,q3⟩:=ff HN3.out;go_wp2_with fail
   clear r0 r1 r2 r3 q0 q1 q2 q3;obtain ⟨W',hW',hp4,hs4,hb4⟩:=pq (W:=w3) (b:=B) (HN3.out) (.int .i64 2) (.int .u64 0) (.slice ab nb cb) (.slice ai ni ci);rw [hW'];clear hW';obtain ⟨g0,g1,g2,g3⟩:=cf hp4;refine bodyPost_ret (v:=.agg #[.int .i64 2,.int .u64 0,.slice ab nb cb,.slice ai ni ci]) (by simp [results,Tryz.results27,go_sem,g0,g1,g2,g3]) rfl ?_;exact ⟨.mk 2 0 l2 [],⟨ab,nb,cb,ai,ni,ci⟩,rfl,leafS (fun _=>by rw [wf_2 (by omega)];simp) (by have:=HL2.out;omega),HI3.out.keep fun q hq _=>⟨hs4.2 q (by have:=HBL.out;omega),by have:=HD2.out.but.size;omega⟩,HD3.out.down (hb4 B w3 (Below.refl _ _) (Nat.le_refl _)) (by omega)⟩
  ·go_wp2_with fail
   refine (dtext_any b 8 (by omega) w1 HD1.out.deck).mono ?_;rintro e w2 ⟨ps2,rfl,hl2,hW2⟩;have HD2:=dh (HD1.out.next hW2.deck hW2.but);have HN2:=dh ((hW2.but.block B (lb HN1.out) (by omega)).trans HN1.out);have hpl:=text_len ps2;have HC2:=dh (rtext_any (ps2.flatMap piece) w2 (by omega));have HVT:=dh (valid_text ps2);have HL2:Hid ((ps2.flatMap piece).length≤30):=dh (by omega);generalize ps2.flatMap piece=l2 at *;clear hl2 hW2 hpl;go_wp2_with fail
   refine HC2.out.mono ?_;rintro e w3 ⟨A3,rfl,hI3,hB3⟩;simp only [It.kind,It.num];have HI3:=dh hI3;have HD3:=dh (HD2.out.down hB3 HD2.out.but.size);have HN3:=kp hB3 HN2;have HBL:=dh (lb HN2.out);clear hI3 hB3;obtain ⟨ab,nb,cb,ai,ni,ci⟩:=A3;simp only at *;obtain ⟨r0,r1,r2,r3⟩:=cf HN3.out;obtain ⟨q0,q1,q2,q3⟩:=ff HN3.out;go_wp2_with fail
   clear r0 r1 r2 r3 q0 q1 q2 q3;obtain ⟨W',hW',hp4,hs4,hb4⟩:=pq (W:=w3) (b:=B) (HN3.out) (.int .i64 3) (.int .u64 0) (.slice ab nb cb) (.slice ai ni ci);rw [hW'];clear hW';obtain ⟨g0,g1,g2,g3⟩:=cf hp4;refine bodyPost_ret (v:=.agg #[.int .i64 3,.int .u64 0,.slice ab nb cb,.slice ai ni ci]) (by simp [results,Tryz.results27,go_sem,g0,g1,g2,g3]) rfl ?_;exact ⟨.mk 3 0 l2 [],⟨ab,nb,cb,ai,ni,ci⟩,rfl,leafS (fun _=>by rw [wf_3 (by omega),HVT.out];simp) HL2.out,HI3.out.keep fun q hq _=>⟨hs4.2 q (by have:=HBL.out;omega),by have:=HD2.out.but.size;omega⟩,HD3.out.down (hb4 B w3 (Below.refl _ _) (Nat.le_refl _)) (by omega)⟩
  ·go_wp2_with fail
   refine (number_any b w1 HD1.out.deck).mono ?_;rintro e w2 ⟨m,hm,rfl,hD2,hB2⟩;have HD2:=dh (HD1.out.next hD2 hB2);have HN2:=dh ((hB2.block B (lb HN1.out) (by omega)).trans HN1.out);have HM:=dh hm;clear hB2 hD2 hm;obtain ⟨r0,r1,r2,r3⟩:=cf HN2.out;obtain ⟨q0,q1,q2,q3⟩:=ff HN2.out;go_wp2_with fail
   clear r0 r1 r2 r3 q0 q1 q2 q3;obtain ⟨W',hW',hp4,hs4,hb4⟩:=pq (W:=w2) (b:=B) (HN2.out) (.int .i64 0) (.int .u64 (m:Int)) (.slice none 0 0) (.slice none 0 0);rw [hW'];clear hW';obtain ⟨g0,g1,g2,g3⟩:=cf hp4;refine bodyPost_ret (v:=.agg #[.int .i64 0,.int .u64 (m:Int),.slice none 0 0,.slice none 0 0]) (by simp [results,Tryz.results27,go_sem,g0,g1,g2,g3]) rfl ?_;exact ⟨.mk 0 m [] [],⟨none,0,0,none,0,0⟩,rfl,leafS (fun _=>by rw [wf_0 (by omega) HM.out];rfl) (by simp),IR.flat _ _ HM.out,HD2.out.down (hb4 B w2 (Below.refl _ _) (Nat.le_refl _)) (by omega)⟩
  ·go_wp2_with fail
   refine (number_any b w1 HD1.out.deck).mono ?_;rintro e w2 ⟨m,hm,rfl,hD2,hB2⟩;have HD2:=dh (HD1.out.next hD2 hB2);have HN2:=dh ((hB2.block B (lb HN1.out) (by omega)).trans HN1.out);have HM:=dh hm;clear hB2 hD2 hm;obtain ⟨r0,r1,r2,r3⟩:=cf HN2.out;obtain ⟨q0,q1,q2,q3⟩:=ff HN2.out;go_wp2_with fail
   clear r0 r1 r2 r3 q0 q1 q2 q3;obtain ⟨W',hW',hp4,hs4,hb4⟩:=pq (W:=w2) (b:=B) (HN2.out) (.int .i64 0) (.int .u64 (m:Int)) (.slice none 0 0) (.slice none 0 0);rw [hW'];clear hW';obtain ⟨g0,g1,g2,g3⟩:=cf hp4;refine bodyPost_ret (v:=.agg #[.int .i64 0,.int .u64 (m:Int),.slice none 0 0,.slice none 0 0]) (by simp [results,Tryz.results27,go_sem,g0,g1,g2,g3]) rfl ?_;exact ⟨.mk 0 m [] [],⟨none,0,0,none,0,0⟩,rfl,leafS (fun _=>by rw [wf_0 (by omega) HM.out];rfl) (by simp),IR.flat _ _ HM.out,HD2.out.down (hb4 B w2 (Below.refl _ _) (Nat.le_refl _)) (by omega)⟩
  ·go_wp2_with fail
   refine (number_any b w1 HD1.out.deck).mono ?_;rintro e w2 ⟨m,hm,rfl,hD2,hB2⟩;have HD2:=dh (HD1.out.next hD2 hB2);have HN2:=dh ((hB2.block B (lb HN1.out) (by omega)).trans HN1.out);have HM:=dh hm;clear hB2 hD2 hm;obtain ⟨r0,r1,r2,r3⟩:=cf HN2.out;obtain ⟨q0,q1,q2,q3⟩:=ff HN2.out;go_wp2_with fail
   clear r0 r1 r2 r3 q0 q1 q2 q3;obtain ⟨W',hW',hp4,hs4,hb4⟩:=pq (W:=w2) (b:=B) (HN2.out) (.int .i64 0) (.int .u64 (m:Int)) (.slice none 0 0) (.slice none 0 0);rw [hW'];clear hW';obtain ⟨g0,g1,g2,g3⟩:=cf hp4;refine bodyPost_ret (v:=.agg #[.int .i64 0,.int .u64 (m:Int),.slice none 0 0,.slice none 0 0]) (by simp [results,Tryz.results27,go_sem,g0,g1,g2,g3]) rfl ?_;exact ⟨.mk 0 m [] [],⟨none,0,0,none,0,0⟩,rfl,leafS (fun _=>by rw [wf_0 (by omega) HM.out];rfl) (by simp),IR.flat _ _ HM.out,HD2.out.down (hb4 B w2 (Below.refl _ _) (Nat.le_refl _)) (by omega)⟩
  ·have P3:=al w1 (.cells #[.int .u64 20,.int .u64 21,.int .u64 22,.int .u64 23,.int .u64 0,.int .u64 19,.int .u64 32,.int .u64 255] 22)
   have N3:=aw w1 (.cells #[.int .u64 20,.int .u64 21,.int .u64 22,.int .u64 23,.int .u64 0,.int .u64 19,.int .u64 32,.int .u64 255] 22);have HD3:=dh (HD1.out.down P3 HD1.out.but.size);have HN1b:=kp P3 HN1;have HN3:=dh N3;have hbl:=HD1.out.deck.lt;clear P3 N3;go_wp2_with fail
   refine (nxa b 8 _ HD3.out.deck (by omega) (by omega)).mono ?_;rintro e w3 ⟨q,hq0,hq1,rfl,hD4,hB4,hs4x⟩;obtain ⟨i,rfl⟩:=Int.eq_ofNat_of_zero_le hq0;have hi:i < 8:=by omega
   obtain ⟨m,hm,hc⟩:=lit_sim (i:=i) ((hB4.block w1.heap.size (lb HN3.out) (by omega)).trans HN3.out) (by decide +kernel) hi;have HN4:=dh ((hB4.block B (lb HN1b.out) (by omega)).trans HN1b.out);have HD4:=dh (HD3.out.next hD4 hB4);have HM:=dh hm;clear hB4 hs4x hD4 hm;obtain ⟨r0,r1,r2,r3⟩:=cf HN4.out;obtain ⟨q0,q1,q2,q3⟩:=ff HN4.out;go_wp2_with fail
   clear r0 r1 r2 r3 q0 q1 q2 q3;obtain ⟨W',hW',hp4,hs4,hb4⟩:=pq (W:=w3) (b:=B) (HN4.out) (.int .i64 7) (.int .u64 (m:Int)) (.slice none 0 0) (.slice none 0 0);rw [hW'];clear hW';obtain ⟨g0,g1,g2,g3⟩:=cf hp4;refine bodyPost_ret (v:=.agg #[.int .i64 7,.int .u64 (m:Int),.slice none 0 0,.slice none 0 0]) (by simp [results,Tryz.results27,go_sem,g0,g1,g2,g3]) rfl ?_;exact ⟨.mk 7 m [] [],⟨none,0,0,none,0,0⟩,rfl,leafS (fun _=>by have:=HM.out;rw [wf_7 (by omega)];rcases this with h | h <;> simp <;> omega) (by simp),IR.flat _ _ (by have:=HM.out;omega),HD4.out.down (hb4 B w3 (Below.refl _ _) (Nat.le_refl _)) (by omega)⟩
  ·go_wp2_with fail
   refine (float_deck b w1 HD1.out.deck).mono ?_;rintro e w2 ⟨m,hm,hmn,rfl,hD2,hB2⟩;have HD2:=dh (HD1.out.next hD2 hB2);have HN2:=dh ((hB2.block B (lb HN1.out) (by omega)).trans HN1.out);have HM:=dh hm;have HMN:=dh hmn;clear hB2 hD2 hm hmn;obtain ⟨r0,r1,r2,r3⟩:=cf HN2.out;obtain ⟨q0,q1,q2,q3⟩:=ff HN2.out;go_wp2_with fail
   clear r0 r1 r2 r3 q0 q1 q2 q3;obtain ⟨W',hW',hp4,hs4,hb4⟩:=pq (W:=w2) (b:=B) (HN2.out) (.int .i64 8) (.int .u64 (m:Int)) (.slice none 0 0) (.slice none 0 0);rw [hW'];clear hW';obtain ⟨g0,g1,g2,g3⟩:=cf hp4;refine bodyPost_ret (v:=.agg #[.int .i64 8,.int .u64 (m:Int),.slice none 0 0,.slice none 0 0]) (by simp [results,Tryz.results27,go_sem,g0,g1,g2,g3]) rfl ?_;exact ⟨.mk 8 m [] [],⟨none,0,0,none,0,0⟩,rfl,leafS (fun _=>by rw [wf_8 HM.out];rcases HMN.out with h | h <;> simp [h]) (by simp),IR.flat _ _ HM.out,HD2.out.down (hb4 B w2 (Below.refl _ _) (Nat.le_refl _)) (by omega)⟩
 ·have hzb:(D==0)=false:=beq_f hz
  obtain ⟨d,rfl⟩:∃ d',d=d' + 1:=⟨d - 1,by have:=HDE.out;omega⟩;have HIH:=dh (show GenS d from HIH0.out (by omega));have HDD:Hid (D - 1=(d:Int)):=dh (by have:=HDE.out;omega);rcases hk with rfl | rfl | rfl | rfl | rfl | rfl | rfl | rfl | rfl
  ·go_wp2_with fail
   refine (number_any b w1 HD1.out.deck).mono ?_;rintro e w2 ⟨m,hm,rfl,hD2,hB2⟩;have HD2:=dh (HD1.out.next hD2 hB2);have HN2:=dh ((hB2.block B (lb HN1.out) (by omega)).trans HN1.out);have HM:=dh hm;clear hB2 hD2 hm;obtain ⟨r0,r1,r2,r3⟩:=cf HN2.out;obtain ⟨q0,q1,q2,q3⟩:=ff HN2.out;go_wp2_with fail
   clear r0 r1 r2 r3 q0 q1 q2 q3;obtain ⟨W',hW',hp4,hs4,hb4⟩:=pq (W:=w2) (b:=B) (HN2.out) (.int .i64 0) (.int .u64 (m:Int)) (.slice none 0 0) (.slice none 0 0);rw [hW'];clear hW';obtain ⟨g0,g1,g2,g3⟩:=cf hp4;refine bodyPost_ret (v:=.agg #[.int .i64 0,.int .u64 (m:Int),.slice none 0 0,.slice none 0 0]) (by simp [results,Tryz.results27,go_sem,g0,g1,g2,g3]) rfl ?_;exact ⟨.mk 0 m [] [],⟨none,0,0,none,0,0⟩,rfl,leafS (fun _=>by rw [wf_0 (by omega) HM.out];rfl) (by simp),IR.flat _ _ HM.out,HD2.out.down (hb4 B w2 (Below.refl _ _) (Nat.le_refl _)) (by omega)⟩
  ·go_wp2_with fail
   refine (number_any b w1 HD1.out.deck).mono ?_;rintro e w2 ⟨m,hm,rfl,hD2,hB2⟩;have HD2:=dh (HD1.out.next hD2 hB2);have HN2:=dh ((hB2.block B (lb HN1.out) (by omega)).trans HN1.out);have HM:=dh hm;clear hB2 hD2 hm;obtain ⟨r0,r1,r2,r3⟩:=cf HN2.out;obtain ⟨q0,q1,q2,q3⟩:=ff HN2.out;go_wp2_with fail
   clear r0 r1 r2 r3 q0 q1 q2 q3;obtain ⟨W',hW',hp4,hs4,hb4⟩:=pq (W:=w2) (b:=B) (HN2.out) (.int .i64 1) (.int .u64 (m:Int)) (.slice none 0 0) (.slice none 0 0);rw [hW'];clear hW';obtain ⟨g0,g1,g2,g3⟩:=cf hp4;refine bodyPost_ret (v:=.agg #[.int .i64 1,.int .u64 (m:Int),.slice none 0 0,.slice none 0 0]) (by simp [results,Tryz.results27,go_sem,g0,g1,g2,g3]) rfl ?_;exact ⟨.mk 1 m [] [],⟨none,0,0,none,0,0⟩,rfl,leafS (fun _=>by rw [wf_0 (by omega) HM.out];rfl) (by simp),IR.flat _ _ HM.out,HD2.out.down (hb4 B w2 (Below.refl _ _) (Nat.le_refl _)) (by omega)⟩
  ·go_wp2_with fail
   refine (dbytes_any b 30 (by omega) w1 HD1.out.deck).mono ?_;rintro e w2 ⟨v2,l2,rfl,hO2,hl2,hW2⟩;obtain ⟨a2,c2,rfl,hR2,_,_⟩:=hO2.br;have HD2:=dh (HD1.out.next hW2.deck hW2.but);have HN2:=dh ((hW2.but.block B (lb HN1.out) (by omega)).trans HN1.out);have HC2:=dh (rbytes_any l2 a2 l2.length c2 w2 _ hR2 (by omega));have HL2:=dh hl2;clear hO2 hl2 hW2 hR2;go_wp2_with fail
   refine HC2.out.mono ?_;rintro e w3 ⟨A3,rfl,hI3,hB3⟩;simp only [It.kind,It.num];have HI3:=dh hI3;have HD3:=dh (HD2.out.down hB3 HD2.out.but.size);have HN3:=kp hB3 HN2;have HBL:=dh (lb HN2.out);clear hI3 hB3;obtain ⟨ab,nb,cb,ai,ni,ci⟩:=A3;simp only at *;obtain ⟨r0,r1,r2,r3⟩:=cf HN3.out;obtain ⟨q0,q1,q2,q3⟩:=ff HN3.out;go_wp2_with fail
   clear r0 r1 r2 r3 q0 q1 q2 q3;obtain ⟨W',hW',hp4,hs4,hb4⟩:=pq (W:=w3) (b:=B) (HN3.out) (.int .i64 2) (.int .u64 0) (.slice ab nb cb) (.slice ai ni ci);rw [hW'];clear hW';obtain ⟨g0,g1,g2,g3⟩:=cf hp4;refine bodyPost_ret (v:=.agg #[.int .i64 2,.int .u64 0,.slice ab nb cb,.slice ai ni ci]) (by simp [results,Tryz.results27,go_sem,g0,g1,g2,g3]) rfl ?_;exact ⟨.mk 2 0 l2 [],⟨ab,nb,cb,ai,ni,ci⟩,rfl,leafS (fun _=>by rw [wf_2 (by omega)];simp) (by have:=HL2.out;omega),HI3.out.keep fun q hq _=>⟨hs4.2 q (by have:=HBL.out;omega),by have:=HD2.out.but.size;omega⟩,HD3.out.down (hb4 B w3 (Below.refl _ _) (Nat.le_refl _)) (by omega)⟩
  ·go_wp2_with fail
   refine (dtext_any b 8 (by omega) w1 HD1.out.deck).mono ?_;rintro e w2 ⟨ps2,rfl,hl2,hW2⟩;have HD2:=dh (HD1.out.next hW2.deck hW2.but);have HN2:=dh ((hW2.but.block B (lb HN1.out) (by omega)).trans HN1.out);have hpl:=text_len ps2;have HC2:=dh (rtext_any (ps2.flatMap piece) w2 (by omega));have HVT:=dh (valid_text ps2);have HL2:Hid ((ps2.flatMap piece).length≤30):=dh (by omega);generalize ps2.flatMap piece=l2 at *;clear hl2 hW2 hpl;go_wp2_with fail
   refine HC2.out.mono ?_;rintro e w3 ⟨A3,rfl,hI3,hB3⟩;simp only [It.kind,It.num];have HI3:=dh hI3;have HD3:=dh (HD2.out.down hB3 HD2.out.but.size);have HN3:=kp hB3 HN2;have HBL:=dh (lb HN2.out);clear hI3 hB3;obtain ⟨ab,nb,cb,ai,ni,ci⟩:=A3;simp only at *;obtain ⟨r0,r1,r2,r3⟩:=cf HN3.out;obtain ⟨q0,q1,q2,q3⟩:=ff HN3.out;go_wp2_with fail
   clear r0 r1 r2 r3 q0 q1 q2 q3;obtain ⟨W',hW',hp4,hs4,hb4⟩:=pq (W:=w3) (b:=B) (HN3.out) (.int .i64 3) (.int .u64 0) (.slice ab nb cb) (.slice ai ni ci);rw [hW'];clear hW';obtain ⟨g0,g1,g2,g3⟩:=cf hp4;refine bodyPost_ret (v:=.agg #[.int .i64 3,.int .u64 0,.slice ab nb cb,.slice ai ni ci]) (by simp [results,Tryz.results27,go_sem,g0,g1,g2,g3]) rfl ?_;exact ⟨.mk 3 0 l2 [],⟨ab,nb,cb,ai,ni,ci⟩,rfl,leafS (fun _=>by rw [wf_3 (by omega),HVT.out];simp) HL2.out,HI3.out.keep fun q hq _=>⟨hs4.2 q (by have:=HBL.out;omega),by have:=HD2.out.but.size;omega⟩,HD3.out.down (hb4 B w3 (Below.refl _ _) (Nat.le_refl _)) (by omega)⟩
  ·go_wp2_with fail
   refine (nxa b 4 w1 HD1.out.deck (by omega) (by omega)).mono ?_;rintro e w2 ⟨r,hr0,hr1,rfl,hD2,hB2,hs2⟩;obtain ⟨n0,rfl⟩:=Int.eq_ofNat_of_zero_le hr0;have HD2:=dh (HD1.out.next hD2 hB2);have HN2:=dh ((hB2.block B (lb HN1.out) (by omega)).trans HN1.out);have HNn:Hid (n0≤3):=dh (by omega);clear hB2 hs2 hD2;go_wp2_with fail
   go_loopw [6,7] (fun v n W=>GL d b B w v n W) (fun _ n _=>(intOf n).toNat)
   case atStart=>exact ⟨n0,[],rfl,by have:=HNn.out;simp;omega,(fun e he=>by simp at he),OutI.nil _ _ _,HD2.out,HN2.out⟩
   case round=>
    obtain ⟨q,es,rfl,hlen,hes,hO,hDW,hNR⟩:=hrel;have HES:=dh hes;clear hes;have hsr:=lb hNR;by_cases hq:0 < (q:Int)
    ·have hq4:(q:Int)≤4:=by omega
     have HO:=dh hO;have HDW:=dh hDW;have HNR:=dh hNR;have HCa:=dh (HIH.out b wr (D - 1) HDD.out hDW.deck (But.env HE.out hDW.but h1b) h1b);clear hO hDW hNR;go_wp2_with fail
     refine HCa.out.mono ?_;rintro e w3 ⟨y,A,rfl,hvy,hIy,hW3⟩;obtain ⟨v4,w4,hrun,hO4,hB4⟩:=gen_push HO.out (by omega) (by omega) hW3.but hIy 1 (by omega);have HR:=dh hrun;have HO4:=dh hO4;have HES4:Hid (∀ e ∈ es ++ [(y,A)],It.Sm d e.1):=dh (fun e he=>by rcases List.mem_append.1 he with h | h;exact HES.out e h;simp only [List.mem_singleton] at h;subst h;exact hvy.2)
     have hs3:=hW3.but.size;have HD4:=dh ((HDW.out.next hW3.deck hW3.but).down hB4 (by omega));have HN4:=dh ((hB4.block B (by omega)).trans ((hW3.but.block B hsr (by omega)).trans HNR.out));clear hrun hO4 hB4 hvy hIy hW3 hs3;go_wp2_with (at_builtin;refine wj rfl _ _ 24 rfl rfl rfl HR.out ?_;clear HR)
     go_roundw
     case rel=>exact ⟨q - 1,_,by go_num,by simp;omega,HES4.out,HO4.out,HD4.out,HN4.out⟩
     case measure=>simp [intOf];omega
    ·obtain ⟨la,lc,rfl⟩:=og hO.row
     have HTS:Hid ((∀ y ∈ es.map (·.1),It.Sm d y)∧(es.map (·.1)).length≤6):=dh ⟨fun y hy=>by obtain ⟨e,he,rfl⟩:=List.mem_map.1 hy;exact HES.out e he,by rw [List.length_map];omega⟩;obtain ⟨hTL,_,hlc,hlcm⟩:=hO.tl';generalize hL:es.length=L at *;have hI4:IR (fun q=>B + 1≤q) wr (.mk 4 0 [] (es.map (·.1))) ⟨none,0,0,la,L,lc⟩:=IR_iff.2 ⟨by show 0 < _;omega,⟨BR.nil _ _ _,by simp,by simp⟩,hTL.imp fun q hq _=>(by rcases hq with h | h <;> exact h),hlc,hlcm⟩
     have HI4:=dh hI4;have HD4:=dh hDW;have HN4:=dh hNR;have HE4:=dh (But.env HE.out hDW.but h1b);clear hI4 hTL hO hDW hNR hL;generalize es.map (·.1)=ts at *;have HSM:=dh (It.Sm.list HTS.out.1 HTS.out.2);cases hv:It.valid (.mk 4 0 [] ts) with
     | true=>
       have HC:=dh (whole_true (.mk 4 0 [] ts) ⟨none,0,0,la,L,lc⟩ wr _ HI4.out HE4.out hv);have HV:=dh hv;clear hv;go_wp2_with fail
       refine HC.out.mono ?_;rintro e w8 ⟨rfl,B8⟩;simp only [It.kind,It.num];have HD8:=dh (HD4.out.down B8 HD4.out.but.size);have HN8:=kp B8 HN4;have HI8:=dh (HI4.out.below B8);clear B8;obtain ⟨r0,r1,r2,r3⟩:=cf HN8.out;obtain ⟨q0,q1,q2,q3⟩:=ff HN8.out;go_wp2_with fail
       clear r0 r1 r2 r3 q0 q1 q2 q3;obtain ⟨W',hW',hp4,hs4,hb4⟩:=pq (W:=w8) (b:=B) (HN8.out) (.int .i64 4) (.int .u64 0) (.slice none 0 0) (.slice la L lc);rw [hW'];clear hW';obtain ⟨g0,g1,g2,g3⟩:=cf hp4;refine bodyPost_ret (v:=.agg #[.int .i64 4,.int .u64 0,.slice none 0 0,.slice la L lc]) (by simp [results,Tryz.results27,go_sem,g0,g1,g2,g3]) rfl ?_;exact ⟨_,⟨none,0,0,la,L,lc⟩,rfl,⟨HV.out,HSM.out⟩,HI8.out.keep fun q hq _=>⟨hs4.2 q (by omega),by omega⟩,HD8.out.down (hb4 B w8 (Below.refl _ _) (Nat.le_refl _)) (by omega)⟩
     | false=>
       have HC:=dh (whole_false (.mk 4 0 [] ts) ⟨none,0,0,la,L,lc⟩ wr _ HI4.out HE4.out hv);clear hv;go_wp2_with fail
       refine HC.out.mono ?_;rintro e w8 ⟨rfl,B8⟩;have HD8:=dh (HD4.out.down B8 HD4.out.but.size);have HN8:=kp B8 HN4;clear B8;obtain ⟨r0,r1,r2,r3⟩:=cf HN8.out;obtain ⟨q0,q1,q2,q3⟩:=ff HN8.out;go_wp2_with fail
       clear r0 r1 r2 r3 q0 q1 q2 q3;obtain ⟨W',hW',hp4,hs4,hb4⟩:=pq0 (W:=w8) (b:=B) (HN8.out);rw [hW'];clear hW';obtain ⟨g0,g1,g2,g3⟩:=cf hp4;refine bodyPost_ret (v:=vz) (by simp [vz,results,Tryz.results27,go_sem,g0,g1,g2,g3]) rfl ?_;exact ⟨.mk 0 0 [] [],⟨none,0,0,none,0,0⟩,rfl,⟨by decide,It.Sm.zero _⟩,IR.flat _ _ (by omega),HD8.out.down (hb4 B w8 (Below.refl _ _) (Nat.le_refl _)) (by omega)⟩
  ·go_wp2_with fail
   refine (nxa b 4 w1 HD1.out.deck (by omega) (by omega)).mono ?_;rintro e w2 ⟨r,hr0,hr1,rfl,hD2,hB2,hs2⟩;obtain ⟨n0,rfl⟩:=Int.eq_ofNat_of_zero_le hr0;have HD2:=dh (HD1.out.next hD2 hB2);have HN2:=dh ((hB2.block B (lb HN1.out) (by omega)).trans HN1.out);have HNn:Hid (n0≤3):=dh (by omega);clear hB2 hs2 hD2;go_wp2_with fail
   go_loopw [6,7] (fun v n W=>GL d b B w v n W) (fun _ n _=>(intOf n).toNat)
   case atStart=>exact ⟨n0,[],rfl,by have:=HNn.out;simp;omega,(fun e he=>by simp at he),OutI.nil _ _ _,HD2.out,HN2.out⟩
   case round=>
    obtain ⟨q,es,rfl,hlen,hes,hO,hDW,hNR⟩:=hrel;have HES:=dh hes;clear hes;have hsr:=lb hNR;by_cases hq:0 < (q:Int)
    ·have hq4:(q:Int)≤4:=by omega
     have HO:=dh hO;have HDW:=dh hDW;have HNR:=dh hNR;have HCa:=dh (HIH.out b wr (D - 1) HDD.out hDW.deck (But.env HE.out hDW.but h1b) h1b);clear hO hDW hNR;go_wp2_with fail
     refine HCa.out.mono ?_;rintro e w3 ⟨y,A,rfl,hvy,hIy,hW3⟩;obtain ⟨v4,w4,hrun,hO4,hB4⟩:=gen_push HO.out (by omega) (by omega) hW3.but hIy 1 (by omega);have HR:=dh hrun;have HO4:=dh hO4;have HES4:Hid (∀ e ∈ es ++ [(y,A)],It.Sm d e.1):=dh (fun e he=>by rcases List.mem_append.1 he with h | h;exact HES.out e h;simp only [List.mem_singleton] at h;subst h;exact hvy.2)
     have hs3:=hW3.but.size;have HD4:=dh ((HDW.out.next hW3.deck hW3.but).down hB4 (by omega));have HN4:=dh ((hB4.block B (by omega)).trans ((hW3.but.block B hsr (by omega)).trans HNR.out));clear hrun hO4 hB4 hvy hIy hW3 hs3;go_wp2_with (at_builtin;refine wj rfl _ _ 24 rfl rfl rfl HR.out ?_;clear HR)
     have hs4:=lb HN4.out;have HCb:=dh (HIH.out b w4 (D - 1) HDD.out HD4.out.deck (But.env HE.out HD4.out.but h1b) h1b);refine HCb.out.mono ?_;rintro e w5 ⟨z,A5,rfl,hvz,hIz,hW5⟩;obtain ⟨v6,w6,hrun,hO6,hB6⟩:=gen_push HO4.out (by omega) (by omega) hW5.but hIz 1 (by simp;omega);have HR:=dh hrun;have HO6:=dh hO6;have HES6:Hid (∀ e ∈ es ++ [(y,A)] ++ [(z,A5)],It.Sm d e.1):=dh (fun e he=>by rcases List.mem_append.1 he with h | h;exact HES4.out e h;simp only [List.mem_singleton] at h;subst h;exact hvz.2)
     have hs5:=hW5.but.size;have HD6:=dh ((HD4.out.next hW5.deck hW5.but).down hB6 (by omega));have HN6:=dh ((hB6.block B (by omega)).trans ((hW5.but.block B hs4 (by omega)).trans HN4.out));clear hrun hO6 hB6 hvz hIz hW5 hs5;go_wp2_with (at_builtin;refine wj rfl _ _ 24 rfl rfl rfl HR.out ?_;clear HR)
     go_roundw
     case rel=>exact ⟨q - 1,_,by go_num,by simp;omega,HES6.out,HO6.out,HD6.out,HN6.out⟩
     case measure=>simp [intOf];omega
    ·obtain ⟨la,lc,rfl⟩:=og hO.row
     have HTS:Hid ((∀ y ∈ es.map (·.1),It.Sm d y)∧(es.map (·.1)).length≤6):=dh ⟨fun y hy=>by obtain ⟨e,he,rfl⟩:=List.mem_map.1 hy;exact HES.out e he,by rw [List.length_map];omega⟩;obtain ⟨hTL,_,hlc,hlcm⟩:=hO.tl';generalize hL:es.length=L at *;have hC:=rbuild_any (es.map (·.1)) la L lc wr _ hTL (by omega) (But.env HE.out hDW.but h1b);have HC:=dh hC;have HD4:=dh hDW;have HN4:=dh hNR;clear hC hTL hO hDW hNR hL;generalize es.map (·.1)=ts at *;go_wp2_with fail
     refine HC.out.mono ?_;rintro e w7 h7;cases hb:It.buildP ts with
     | err n=>
       rw [hb] at h7;obtain ⟨rfl,B7⟩:=h7;have HD7:=dh (HD4.out.down B7 HD4.out.but.size);have HN7:=kp B7 HN4;have hn0:((n:Int) !=0)=true:=by
        have:n≠0:=fun e=>by
         unfold It.buildP at hb
         split at hb
         ·cases hb;cases e
         split at hb
         ·cases hb;cases e
         split at hb
         ·cases hb;cases e
         split at hb
         ·cases hb;cases e
         ·cases hb
        simp;omega
       have P8:=al w7 o4z;have HD8:=dh (HD7.out.down P8 HD7.out.but.size);have HN8:=kp P8 HN7;clear B7 hb P8;go_upto_region 28 with fail
       generalize w7.alloc _=w8 at *;obtain ⟨r0,r1,r2,r3⟩:=cf HN8.out;obtain ⟨q0,q1,q2,q3⟩:=ff HN8.out;go_wp2_with fail
       clear r0 r1 r2 r3 q0 q1 q2 q3;obtain ⟨W',hW',hp4,hs4,hb4⟩:=pq (W:=w8) (b:=B) (HN8.out) (.int .i64 5) (.int .u64 0) (.slice none 0 0) (.slice none 0 0);rw [hW'];clear hW';obtain ⟨g0,g1,g2,g3⟩:=cf hp4;refine bodyPost_ret (v:=.agg #[.int .i64 5,.int .u64 0,.slice none 0 0,.slice none 0 0]) (by simp [results,Tryz.results27,go_sem,g0,g1,g2,g3]) rfl ?_;exact ⟨.mk 5 0 [] [],⟨none,0,0,none,0,0⟩,rfl,⟨by decide,It.Sm.map0 _⟩,IR.flat _ _ (by omega),HD8.out.down (hb4 B w8 (Below.refl _ _) (Nat.le_refl _)) (by omega)⟩
     | ok x=>
       rw [hb] at h7;obtain ⟨A7,rfl,hI7,B7⟩:=h7;have HVX:=dh (And.intro (buildP_ok hb) (It.Sm.build hb HTS.out.1 HTS.out.2));have HD7:=dh (HD4.out.down B7 HD4.out.but.size);have HN7:=kp B7 HN4;have P8:=al w7 (o4 x A7);have HI8:=dh ((hI7.imp (ok':=fun q=>B + 1≤q) fun q hq _=>by omega).below P8);have HD8:=dh (HD7.out.down P8 HD7.out.but.size);have HN8:=kp P8 HN7;have HM8:=dh (aw w7 (o4 x A7));clear B7 hb P8 hI7;go_upto_region 28 with fail
       generalize hw7:w7.heap.size=s7 at *;generalize w7.alloc _=w8 at *;obtain ⟨x0,x1,x2,x3⟩:=cf HM8.out;obtain ⟨r0,r1,r2,r3⟩:=cf HN8.out;obtain ⟨q0,q1,q2,q3⟩:=ff HN8.out;go_wp2_with fail
       clear r0 r1 r2 r3 q0 q1 q2 q3;obtain ⟨W',hW',hp4,hs4,hb4⟩:=p4I (W:=w8) (b:=B) (HN8.out) x A7;rw [hW'];clear hW';obtain ⟨g0,g1,g2,g3⟩:=cf hp4;refine bodyPost_ret (v:=(v4 x A7)) (by simp [v4,results,Tryz.results27,go_sem,g0,g1,g2,g3]) rfl ?_;exact ⟨x,A7,rfl,⟨HVX.out.1,HVX.out.2⟩,HI8.out.keep fun q hq _=>⟨hs4.2 q (by omega),by omega⟩,HD8.out.down (hb4 B w8 (Below.refl _ _) (Nat.le_refl _)) (by omega)⟩
  ·go_wp2_with fail
   refine (number_any b w1 HD1.out.deck).mono ?_;rintro e w2 ⟨m,hm,rfl,hD2,hB2⟩;have HD2:=dh (HD1.out.next hD2 hB2);have HN2:=dh ((hB2.block B (lb HN1.out) (by omega)).trans HN1.out);have HM:=dh hm;have HC2:=dh (HIH.out b w2 (D - 1) HDD.out HD2.out.deck (But.env HE.out HD2.out.but h1b) h1b);clear hB2 hD2 hm;go_wp2_with fail
   refine HC2.out.mono ?_;rintro e w3 ⟨y,A,rfl,hvy,hIy,hW3⟩;have HD3:=dh (HD2.out.next hW3.deck hW3.but);have HN3:=dh ((hW3.but.block B (lb HN2.out) (by omega)).trans HN2.out);have hs2:=lb HN2.out;have hs3:=lb HN3.out;obtain ⟨P4,N4⟩:=an w3 (o4 y A);have hI4:IR (fun q=>B + 1≤q) (w3.alloc (o4 y A)) (.mk 6 m [] [y]) ⟨none,0,0,some ⟨w3.heap.size,0,none⟩,1,1⟩:=IR_iff.2 ⟨HM.out,⟨BR.nil _ _ _,by simp,by simp⟩,TL.one N4 (by omega) ((hIy.imp fun q hq _=>by omega).below P4),by simp,by simp⟩;have HE4:=dh ((But.env HE.out HD3.out.but h1b).below P4);have HD4:=dh (HD3.out.down P4 HD3.out.but.size);have HN4:=kp P4 HN3;have HI4:=dh hI4;have HSM:=dh (It.Sm.tag HM.out hvy.2);clear hvy hIy hW3 P4 N4 hI4;cases hv:It.valid (.mk 6 m [] [y]) with
   | true=>
     have HC:=dh (whole_true (.mk 6 m [] [y]) ⟨none,0,0,some ⟨w3.heap.size,0,none⟩,1,1⟩ (w3.alloc (o4 y A)) _ HI4.out HE4.out hv);have HV:=dh hv;clear hv;go_wp2_with fail
     refine HC.out.mono ?_;rintro e w8 ⟨rfl,B8⟩;simp only [It.kind,It.num];have HD8:=dh (HD4.out.down B8 HD4.out.but.size);have HN8:=kp B8 HN4;have HI8:=dh (HI4.out.below B8);clear B8;obtain ⟨r0,r1,r2,r3⟩:=cf HN8.out;obtain ⟨q0,q1,q2,q3⟩:=ff HN8.out;go_wp2_with fail
     clear r0 r1 r2 r3 q0 q1 q2 q3;obtain ⟨W',hW',hp4,hs4,hb4⟩:=pq (W:=w8) (b:=B) (HN8.out) (.int .i64 6) (.int .u64 (m:Int)) (.slice none 0 0) (.slice (some ⟨w3.heap.size,0,none⟩) 1 1);rw [hW'];clear hW';obtain ⟨g0,g1,g2,g3⟩:=cf hp4;refine bodyPost_ret (v:=.agg #[.int .i64 6,.int .u64 (m:Int),.slice none 0 0,.slice (some ⟨w3.heap.size,0,none⟩) 1 1]) (by simp [results,Tryz.results27,go_sem,g0,g1,g2,g3]) rfl ?_;exact ⟨_,⟨none,0,0,some ⟨w3.heap.size,0,none⟩,1,1⟩,rfl,⟨HV.out,HSM.out⟩,HI8.out.keep fun q hq _=>⟨hs4.2 q (by omega),by omega⟩,HD8.out.down (hb4 B w8 (Below.refl _ _) (Nat.le_refl _)) (by omega)⟩
   | false=>
     have HC:=dh (whole_false (.mk 6 m [] [y]) ⟨none,0,0,some ⟨w3.heap.size,0,none⟩,1,1⟩ (w3.alloc (o4 y A)) _ HI4.out HE4.out hv);clear hv;go_wp2_with fail
     refine HC.out.mono ?_;rintro e w8 ⟨rfl,B8⟩;have HD8:=dh (HD4.out.down B8 HD4.out.but.size);have HN8:=kp B8 HN4;clear B8;obtain ⟨r0,r1,r2,r3⟩:=cf HN8.out;obtain ⟨q0,q1,q2,q3⟩:=ff HN8.out;go_wp2_with fail
     clear r0 r1 r2 r3 q0 q1 q2 q3;obtain ⟨W',hW',hp4,hs4,hb4⟩:=pq0 (W:=w8) (b:=B) (HN8.out);rw [hW'];clear hW';obtain ⟨g0,g1,g2,g3⟩:=cf hp4;refine bodyPost_ret (v:=vz) (by simp [vz,results,Tryz.results27,go_sem,g0,g1,g2,g3]) rfl ?_;exact ⟨.mk 0 0 [] [],⟨none,0,0,none,0,0⟩,rfl,⟨by decide,It.Sm.zero _⟩,IR.flat _ _ (by omega),HD8.out.down (hb4 B w8 (Below.refl _ _) (Nat.le_refl _)) (by omega)⟩
  ·have P3:=al w1 (.cells #[.int .u64 20,.int .u64 21,.int .u64 22,.int .u64 23,.int .u64 0,.int .u64 19,.int .u64 32,.int .u64 255] 22)
   have N3:=aw w1 (.cells #[.int .u64 20,.int .u64 21,.int .u64 22,.int .u64 23,.int .u64 0,.int .u64 19,.int .u64 32,.int .u64 255] 22);have HD3:=dh (HD1.out.down P3 HD1.out.but.size);have HN1b:=kp P3 HN1;have HN3:=dh N3;have hbl:=HD1.out.deck.lt;clear P3 N3;go_wp2_with fail
   refine (nxa b 8 _ HD3.out.deck (by omega) (by omega)).mono ?_;rintro e w3 ⟨q,hq0,hq1,rfl,hD4,hB4,hs4x⟩;obtain ⟨i,rfl⟩:=Int.eq_ofNat_of_zero_le hq0;have hi:i < 8:=by omega
   obtain ⟨m,hm,hc⟩:=lit_sim (i:=i) ((hB4.block w1.heap.size (lb HN3.out) (by omega)).trans HN3.out) (by decide +kernel) hi;have HN4:=dh ((hB4.block B (lb HN1b.out) (by omega)).trans HN1b.out);have HD4:=dh (HD3.out.next hD4 hB4);have HM:=dh hm;clear hB4 hs4x hD4 hm;obtain ⟨r0,r1,r2,r3⟩:=cf HN4.out;obtain ⟨q0,q1,q2,q3⟩:=ff HN4.out;go_wp2_with fail
   clear r0 r1 r2 r3 q0 q1 q2 q3;obtain ⟨W',hW',hp4,hs4,hb4⟩:=pq (W:=w3) (b:=B) (HN4.out) (.int .i64 7) (.int .u64 (m:Int)) (.slice none 0 0) (.slice none 0 0);rw [hW'];clear hW';obtain ⟨g0,g1,g2,g3⟩:=cf hp4;refine bodyPost_ret (v:=.agg #[.int .i64 7,.int .u64 (m:Int),.slice none 0 0,.slice none 0 0]) (by simp [results,Tryz.results27,go_sem,g0,g1,g2,g3]) rfl ?_;exact ⟨.mk 7 m [] [],⟨none,0,0,none,0,0⟩,rfl,leafS (fun _=>by have:=HM.out;rw [wf_7 (by omega)];rcases this with h | h <;> simp <;> omega) (by simp),IR.flat _ _ (by have:=HM.out;omega),HD4.out.down (hb4 B w3 (Below.refl _ _) (Nat.le_refl _)) (by omega)⟩
  ·go_wp2_with fail
   refine (float_deck b w1 HD1.out.deck).mono ?_;rintro e w2 ⟨m,hm,hmn,rfl,hD2,hB2⟩;have HD2:=dh (HD1.out.next hD2 hB2);have HN2:=dh ((hB2.block B (lb HN1.out) (by omega)).trans HN1.out);have HM:=dh hm;have HMN:=dh hmn;clear hB2 hD2 hm hmn;obtain ⟨r0,r1,r2,r3⟩:=cf HN2.out;obtain ⟨q0,q1,q2,q3⟩:=ff HN2.out;go_wp2_with fail
   clear r0 r1 r2 r3 q0 q1 q2 q3;obtain ⟨W',hW',hp4,hs4,hb4⟩:=pq (W:=w2) (b:=B) (HN2.out) (.int .i64 8) (.int .u64 (m:Int)) (.slice none 0 0) (.slice none 0 0);rw [hW'];clear hW';obtain ⟨g0,g1,g2,g3⟩:=cf hp4;refine bodyPost_ret (v:=.agg #[.int .i64 8,.int .u64 (m:Int),.slice none 0 0,.slice none 0 0]) (by simp [results,Tryz.results27,go_sem,g0,g1,g2,g3]) rfl ?_;exact ⟨.mk 8 m [] [],⟨none,0,0,none,0,0⟩,rfl,leafS (fun _=>by rw [wf_8 HM.out];rcases HMN.out with h | h <;> simp [h]) (by simp),IR.flat _ _ HM.out,HD2.out.down (hb4 B w2 (Below.refl _ _) (Nat.le_refl _)) (by omega)⟩
theorem genS_any:∀ d,d≤1000→GenS d
 | 0,h=>gen_step 0 h fun h=>by omega
 | d + 1,h=>gen_step (d + 1) h fun _=>genS_any d (by omega)
def GI (b:Nat) (w:World) (e:Ending) (w':World):Prop:=∃ (x:It) (A:Ad),e=.returned (.agg #[.int .i64 x.kind,.int .u64 (x.num:Int),.slice A.ab A.nb A.cb,.slice A.ai A.ni A.ci])∧It.valid x=true∧IR (fun q=>w.heap.size≤q) w' x A∧DW b w w'
theorem gen_any (d:Nat) (hd:d≤1000) (b:Nat) (w:World) (D:Int) (h1:D=d) (h2:Deck w b) (h3:Env w) (h4:1 < b):Calls Tryz.prog 27 #[.pointer (some ⟨b,0,none⟩),.int .i64 D] w (GI b w):=
 (genS_any d hd b w D h1 h2 h3 h4).mono fun _ _ ⟨x,A,he,hv,hI,hW⟩=>⟨x,A,he,hv.1,hI,hW⟩
