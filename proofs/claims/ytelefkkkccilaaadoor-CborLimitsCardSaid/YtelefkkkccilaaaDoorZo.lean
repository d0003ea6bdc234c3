/- The parser's item 106: bytes and texts. -/
import Derived.Test.YtelefkkkccilaaaDoorZn
set_option linter.unusedVariables false
set_option linter.unusedSimpArgs false
namespace Go.Proofs.YtelefkkkccilaaaDoor
open Go.RowKit
set_option maxRecDepth 100000
set_option maxHeartbeats 8000000 in
theorem pitem_by2a (P k c b o fb n:Nat) (l r:List UInt8) (it lv:Int) (w:World) (hA:AtP P k c b o l it w) (hR:BR (fun b=>b≠P) w (some ⟨b,o,none⟩) l.length l) (hc:l.length≤c) (hN:l.length≤4096) (hi:0≤it) (hi2:it < 256) (hr:It.readHead (l.drop k)=.ok fb n r) (hfb:fb < 256) (hnb:n < 18446744073709551616) (h5n:fb / 32=2) (hsh:¬ r.length < n) (hac:∀ j,r=l.drop j→j≤l.length→¬ c=j):
 Calls Tryd.prog 42 #[.pointer (some ⟨P,0,none⟩),.int .i64 lv] w (ParP P c b o l w (.ok (.mk 2 0 (r.take n) []) (255 - it.toNat) (r.drop n))):=by
 have P0:=al w (.cells #[.int .i64 0,.int .u64 0,.slice none 0 0,.slice none 0 0] 31);have N0:=aw w (.cells #[.int .i64 0,.int .u64 0,.slice none 0 0,.slice none 0 0] 31);have hP1:=Below.keep P0 hA.1 (lb hA.1);have HK:=hA.2;have hPl:=lb hA.1;have x2:=cr hP1 2;have f2:(w.alloc (.cells #[.int .i64 0,.int .u64 0,.slice none 0 0,.slice none 0 0] 31)).frozen? ⟨P,2,none⟩=false:=by simp [World.frozen?,hP1]
 simp at x2;have hit:¬ it=256:=by omega
 have hitb:(it==256)=false:=by simpa using hit
 obtain ⟨it1,hit1⟩:∃ it1,it1=it + 1:=⟨_,rfl⟩;have hw:IntKind.i64.wrap (it + 1)=it1:=by rw [hit1];exact IntWalk.i64_in _ (by omega)
 have hR1:=hR.below P0;have HP0:=dh P0;have HN0:=dh N0;have HA1:=dh hP1;have HR1:=dh hR1;have HL:=dh hPl;clear hA hR P0 N0 hP1 hR1 hPl;go_enter Tryd.func42,Tryd.ntmps42
 go_upto_region 1 with fail
 generalize hw1:w.alloc (.cells #[.int .i64 0,.int .u64 0,.slice none 0 0,.slice none 0 0] 31)=w1 at *;clear hw1;have HA2:Hid (AtP P k c b o l it1 (w1.setCell ⟨P,2,none⟩ (.int .i64 it1))):=dh ⟨by have:=set_arr HA1.out 2 (.int .i64 it1);simpa using this,HK⟩;have HR2:Hid (BR (fun b=>b≠P) (w1.setCell ⟨P,2,none⟩ (.int .i64 it1)) (some ⟨b,o,none⟩) l.length l):=dh (HR1.out.keep fun j hj _=>⟨Below.heap_setCell _ _ _ _ hj,hj⟩);have HC:=dh (phead_any P k c b o l it1 _ HA2.out HR2.out hc hN);have hRP:w.heap.size≠P:=by have:=HL.out;omega
 have HR9:Hid ((w1.setCell ⟨P,2,none⟩ (.int .i64 it1)).heap[w.heap.size]?=some (.cells #[.int .i64 0,.int .u64 0,.slice none 0 0,.slice none 0 0] 31 (0,0))):=dh ((Below.heap_setCell _ _ _ _ hRP).trans HN0.out);have HB2:Hid (But P w (w1.setCell ⟨P,2,none⟩ (.int .i64 it1))):=dh ⟨HP0.out.os,HP0.out.tape,HP0.out.output,by have:=HP0.out.size;simpa [World.setCell] using this,fun j hj hne=>(Below.heap_setCell _ _ _ _ (by show j≠P;exact hne)).trans (HP0.out.block j hj)⟩;rw [hr] at HC;have HIT:=dh hit1;clear hit1;obtain ⟨FB,hFB⟩:∃ FB:Int,FB=fb:=⟨_,rfl⟩;obtain ⟨NN,hNN⟩:∃ NN:Int,NN=n:=⟨_,rfl⟩;have h5:FB / 32=2:=by rw [hFB];omega
 have wk1:IntKind.u8.wrap 2=2:=by show 2 % 256=2;omega
 have wk2:IntKind.i64.wrap 2=2:=IntWalk.i64_in _ (by omega);have HSH:=dh hsh;have HACJ:=dh hac;clear hsh hac;have HNN:=dh (And.intro hFB hNN);have HC':Hid (Calls Tryd.prog 66 #[.pointer (some ⟨P,0,none⟩)] (w1.setCell ⟨P,2,none⟩ (.int .i64 it1)) fun e w'=>But P (w1.setCell ⟨P,2,none⟩ (.int .i64 it1)) w'∧e=.returned (.tuple #[.int .u8 FB,.int .u64 NN,.int .i64 0])∧∃ j,AtP P j c b o l it1 w'∧r=l.drop j):=dh (by rw [hFB,hNN];exact HC.out);have HNB:=dh hnb;clear HC hFB hNN hr hnb;go_wp2_with fail
 refine HC'.out.mono ?_;rintro e u ⟨hB,rfl,j0,hAu,hrj⟩;have hn:=(hB.block _ (lb HR9.out) hRP).trans HR9.out;have HBU:Hid (But P w u):=dh ⟨hB.os.trans HB2.out.os,hB.tape.trans HB2.out.tape,hB.output.trans HB2.out.output,Nat.le_trans HB2.out.size hB.size,fun j hj hne=>(hB.block j (Nat.lt_of_lt_of_le hj HB2.out.size) hne).trans (HB2.out.block j hj hne)⟩;have HRU:Hid (BR (fun b=>b≠P) u (some ⟨b,o,none⟩) l.length l):=dh (HR2.out.keep fun j hj hj2=>⟨hB.block j hj2 hj,hj⟩);have HNU:=dh hn;have HAU:=dh hAu;have HRJ:=dh hrj;obtain ⟨r0,r1,r2,r3⟩:=cf HNU.out;obtain ⟨q0,q1,q2,q3⟩:=ff HNU.out;clear hB hn x2 f2 hAu hrj;generalize hBq:w.heap.size=B at *;have hac:=HACJ.out j0 HRJ.out HAU.out.2;have hnn:=HNN.out.2;subst hnn;have hlj:r.length=l.length - j0:=by rw [HRJ.out,List.length_drop]
 have hj0:=HAU.out.2;have y0:=cr HAU.out.1 0;have y1:=cr HAU.out.1 1;simp at y0 y1;obtain ⟨Z,hZ⟩:∃ Z:Int,Z=(l.length:Int) - (j0:Int):=⟨_,rfl⟩;have hz1:IntKind.i64.wrap ((l.length:Int) - (j0:Int))=Z:=by rw [hZ];exact IntWalk.i64_in _ (by omega)
 have hz2:IntKind.u64.wrap Z=Z:=by show Z % 18446744073709551616=Z;omega
 have hsn:=HSH.out;have hgt:decide (Z < (n:Int))=false:=decide_eq_false (by omega);have hgt2:¬ Z < (n:Int):=by omega
 have hn4:n≤4096:=by omega
 obtain ⟨jn,hjn⟩:∃ jn,jn=j0 + n:=⟨_,rfl⟩;have hwj:IntKind.i64.wrap ((j0:Int) + (n:Int))=(jn:Int):=by rw [IntWalk.i64_in _ (by omega),hjn];omega
 have hwn:IntKind.i64.wrap (n:Int)=(n:Int):=IntWalk.i64_in _ (by omega);have hs1:j0≤jn:=by omega
 have hs2:jn≤c:=by omega
 have hs3:jn≤l.length:=by omega
 have hdn:jn - j0=n:=by omega
 obtain ⟨t,ht⟩:∃ t,t=r.take n:=⟨_,rfl⟩;have htl:t.length=n:=by rw [ht,List.length_take];omega
 have hsub:BR (fun _=>True) u (some ⟨b,o + j0,none⟩) n t:=by
  refine ⟨htl.symm,by omega,fun i hi=>?_⟩;obtain ⟨b',o',e,_,h⟩:=HRU.out.2.2 (j0 + i) (by omega);cases e
  refine ⟨_,_,rfl,trivial,?_⟩;have e2:t[i]=l[j0 + i]'(by omega):=by subst ht;simp [HRJ.out]
  rw [e2,Nat.add_assoc];exact h
 have HSUB0:=dh hsub;have HTL:=dh htl;have HTT:=dh ht;have HJN:=dh (And.intro hjn hs3);have HN4:=dh hn4;clear hlj hsn hZ hj0 hjn hs3 htl ht hsub hn4;go_wp2_with fail
 go_quiet (fail)
 have HB9:Hid (Below u.heap.size u (u.drewN nq)):=dh (bd (Below.refl _ _) nq);have HNV:Hid ((u.drewN nq).heap[B]?=some (.cells #[.int .i64 0,.int .u64 0,.slice none 0 0,.slice none 0 0] 31 (0,0))):=dh HNU.out;have HAV:Hid (AtP P j0 c b o l it1 (u.drewN nq)):=dh HAU.out;clear r0 r1 r2 r3 q0 q1 q2 q3 y0 y1;have HSUB:Hid (BR (fun _=>True) (u.drewN nq) (some ⟨b,o + j0,none⟩) n t):=dh (HSUB0.out.below HB9.out);generalize u.drewN nq=v at *;have HS:Hid (∀ W,Below v.heap.size v W→(fun w'=>w'.cell? ⟨P,0,none⟩=some (.slice (some ⟨b,o,none⟩) l.length c)∧w'.cell? ⟨P,1,none⟩=some (.int .i64 (j0:Int))) W):=dh fun W hW=>by
  have h:=Below.keep hW HAV.out.1 (lb HAV.out.1);have y0:=cr h 0;have y1:=cr h 1;simp at y0 y1;exact ⟨y0,y1⟩
 go_wp2_with fail
 refine wp_region_held_drew (S:=(fun w'=>w'.cell? ⟨P,0,none⟩=some (.slice (some ⟨b,o,none⟩) l.length c)∧w'.cell? ⟨P,1,none⟩=some (.int .i64 (j0:Int)))) (by kernel_rfl) (HS.out _ (Below.refl _ _).drew) (fun hHeld=>?_);refine tk 0 (v:=?_) rfl hHeld ?_ ?_;rotate_left
 ·intro W h;(try dsimp only at h);go_simp;try with_reducible rfl
 try simp only [Act.put,sx]
 refine tk 1 (v:=?_) rfl hHeld ?_ ?_;rotate_left
 ·intro W h;(try dsimp only at h);go_simp;try with_reducible rfl
 try simp only [Act.put,sx]
 refine tk 2 (v:=?_) rfl hHeld ?_ ?_;rotate_left
 ·intro W h;(try dsimp only at h);go_simp;try with_reducible rfl
 try simp only [Act.put,sx]
 refine tk 3 (v:=?_) rfl hHeld ?_ ?_;rotate_left
 ·intro W h;(try dsimp only at h);go_simp;try with_reducible rfl
 try simp only [Act.put,sx]
 refine tk 4 (v:=?_) rfl hHeld ?_ ?_;rotate_left
 ·intro W h;(try dsimp only at h);go_simp;try with_reducible rfl
 try simp only [Act.put,sx]
 refine tk 5 (v:=?_) rfl hHeld ?_ ?_;rotate_left
 ·intro W h;(try dsimp only at h);go_simp;try with_reducible rfl
 try simp only [Act.put,sx]
 refine tk 6 (v:=?_) rfl hHeld ?_ ?_;rotate_left
 ·intro W h;(try dsimp only at h);go_simp;try with_reducible rfl
 try simp only [Act.put,sx]
 refine tk 7 (v:=?_) rfl hHeld ?_ ?_;rotate_left
 ·intro W h;(try dsimp only at h);go_simp;try with_reducible rfl
 try simp only [Act.put,sx]
 refine tk 8 (v:=?_) rfl hHeld ?_ ?_;rotate_left
 ·intro W h;(try dsimp only at h);go_simp;try with_reducible rfl
 try simp only [Act.put,sx]
 refine tk 9 (v:=?_) rfl hHeld ?_ ?_;rotate_left
 ·intro W h;(try dsimp only at h);go_simp;try with_reducible rfl
 try simp only [Act.put,sx]
 refine tk 10 (v:=?_) rfl hHeld ?_ ?_;rotate_left
 ·intro W h;(try dsimp only at h);go_simp;try with_reducible rfl
 try simp only [Act.put,sx]
 refine tk 11 (v:=?_) rfl hHeld ?_ ?_;rotate_left
 ·intro W h;(try dsimp only at h);go_simp;try with_reducible rfl
 try simp only [Act.put,sx]
 refine tk 12 (v:=?_) rfl hHeld ?_ ?_;rotate_left
 ·intro W h;(try dsimp only at h);go_simp;try with_reducible rfl
 try simp only [Act.put,sx]
 refine tk 13 (v:=?_) rfl hHeld ?_ ?_;rotate_left
 ·intro W h;(try dsimp only at h);go_simp;try with_reducible rfl
 try simp only [Act.put,sx]
 refine tk 14 (v:=?_) rfl hHeld ?_ ?_;rotate_left
 ·intro W h;(try dsimp only at h);go_simp;try with_reducible rfl
 try simp only [Act.put,sx]
 refine tk 15 (v:=?_) rfl hHeld ?_ ?_;rotate_left
 ·intro W h;(try dsimp only at h);go_simp;try with_reducible rfl
 try simp only [Act.put,sx]
 refine wpAnyH_ready (rs:=[16]) (by kernel_rfl) (by simp) ?_;refine AllReadyH.cons rfl (fun K1 hK1=>?_) AllReadyH.nil;go_simp
 refine (clone_any (a:=some ⟨b,o + j0,none⟩) (n:=n) (c:=c - j0) (x:=t) (ok:=fun _=>True) (HSUB.out.below (bd (Below.refl _ _) 1)) (by have h1:=HTL.out;have h2:=HN4.out;omega)).mono ?_;rintro e v8 h8;obtain ⟨a8,c8,rfl,_,R8,hc8,hc8m,B8⟩:=h8.open;rw [HTL.out] at R8 hc8 ⊢;have HB8:=dh (pt (bd (Below.refl v.heap.size v) 1) B8);have HR8:=dh R8;have HC8:=dh hc8;have HC8M:=dh hc8m;clear R8 B8 h8 hc8 hc8m;refine hK1.out _ _ (HS.out _ HB8.out) (fun hHeld=>?_);clear hK1
 try simp only [Act.put,sx]
 refine tk 17 (v:=?_) rfl hHeld ?_ ?_;rotate_left
 ·intro W h;(try dsimp only at h);go_simp;try with_reducible rfl
 try simp only [Act.put,sx]
 refine wpAnyH_done (by kernel_rfl) ?_ _
 try simp only [Act.put,sx]
 have hP8:=Below.keep HB8.out HAV.out.1 (lb HAV.out.1);have y1:=cr hP8 1;have f1:v8.frozen? ⟨P,1,none⟩=false:=by simp [World.frozen?,hP8]
 simp at y1;go_upto_region 18 with fail
 have HW9:Hid ((v8.setCell ⟨P,1,none⟩ (.int .i64 (jn:Int))).heap[P]?=some (.cells #[.slice (some ⟨b,o,none⟩) l.length c,.int .i64 (jn:Int),.int .i64 it1] 82 (0,0))):=dh (by have:=set_arr hP8 1 (.int .i64 (jn:Int));simpa using this);have hk9:∀ j,j≠P→(v8.setCell ⟨P,1,none⟩ (.int .i64 (jn:Int))).heap[j]?=v8.heap[j]?:=fun j hj=>Below.heap_setCell _ _ _ _ hj
 have hz9:(v8.setCell ⟨P,1,none⟩ (.int .i64 (jn:Int))).heap.size=v8.heap.size:=by simp [World.setCell]
 have HBX:Hid (But P w (v8.setCell ⟨P,1,none⟩ (.int .i64 (jn:Int)))):=dh ⟨HB8.out.os.trans (HB9.out.os.trans HBU.out.os),HB8.out.tape.trans (HB9.out.tape.trans HBU.out.tape),HB8.out.output.trans (HB9.out.output.trans HBU.out.output),by have h1:=HBU.out.size;have h2:=HB9.out.size;have h3:=HB8.out.size;rw [hz9];omega,fun j hj hne=>(hk9 j hne).trans ((HB8.out.block j (Nat.lt_of_lt_of_le (Nat.lt_of_lt_of_le hj HBU.out.size) HB9.out.size)).trans ((HB9.out.block j (Nat.lt_of_lt_of_le hj HBU.out.size)).trans (HBU.out.block j hj hne)))⟩;have HNX:Hid ((v8.setCell ⟨P,1,none⟩ (.int .i64 (jn:Int))).heap[B]?=some (.cells #[.int .i64 0,.int .u64 0,.slice none 0 0,.slice none 0 0] 31 (0,0))):=dh ((hk9 B hRP).trans (Below.keep HB8.out HNV.out (lb HNV.out)));have hBv:B + 1≤v.heap.size:=lb HNV.out;have HR9:Hid (BR (fun j=>B + 1≤j) (v8.setCell ⟨P,1,none⟩ (.int .i64 (jn:Int))) a8 n t):=dh (HR8.out.keep fun j hj hj2=>⟨hk9 j (by have h1:v.heap.size≤j:=hj;have:=HL.out;omega),by have h1:v.heap.size≤j:=hj;omega⟩);clear hk9 hz9 hP8 y1 f1 hHeld hBv;generalize v8.setCell ⟨P,1,none⟩ (.int .i64 (jn:Int))=w9 at *;obtain ⟨r0,r1,r2,r3⟩:=cf HNX.out;obtain ⟨q0,q1,q2,q3⟩:=ff HNX.out;go_wp2_with fail
 clear r0 r1 r2 r3 q0 q1 q2 q3;obtain ⟨W',hW',hp4,hs4,hb4⟩:=pq (W:=w9) (b:=B) (HNX.out) (.int .i64 2) (.int .u64 0) (.slice a8 n c8) (.slice none 0 0);rw [hW'];clear hW';obtain ⟨g0,g1,g2,g3⟩:=cf hp4;refine bodyPost_ret (v:=.tuple #[.agg #[.int .i64 2,.int .u64 0,.slice a8 n c8,.slice none 0 0],.int .i64 0]) (by simp [results,Tryd.results42,go_sem,g0,g1,g2,g3]) rfl ?_;have hz:=hb4 0 w9 (Below.refl 0 w9) (Nat.zero_le _);have HBW:But P w W':=⟨hz.os.trans HBX.out.os,hz.tape.trans HBX.out.tape,hz.output.trans HBX.out.output,by have:=HBX.out.size;rw [hs4.1];exact this,fun j hj hne=>(hs4.2 j (by omega)).trans (HBX.out.block j hj hne)⟩;have hq:it1=256 - ((255 - it.toNat:Nat):Int):=by rw [HIT.out];omega
 rw [← HTT.out];refine ⟨HBW,⟨a8,n,c8,none,0,0⟩,rfl,IR_iff.2 ⟨by show 0 < _;omega,⟨(HR9.out.keep fun j hj _=>⟨hs4.2 j (by have h1:B + 1≤j:=hj;omega),by have h1:B + 1≤j:=hj;show w.heap.size≤j;omega⟩),HC8.out,HC8M.out⟩,TL.nil _ _ _,by simp,by simp⟩,jn,⟨(hs4.2 P (by omega)).trans (by rw [HW9.out,hq]),HJN.out.2⟩,?_⟩;rw [HRJ.out,List.drop_drop,← HJN.out.1]
set_option maxHeartbeats 8000000 in
theorem pitem_by3a_true (P k c b o fb n:Nat) (l r:List UInt8) (it lv:Int) (w:World) (hA:AtP P k c b o l it w) (hR:BR (fun b=>b≠P) w (some ⟨b,o,none⟩) l.length l) (hc:l.length≤c) (hN:l.length≤4096) (hi:0≤it) (hi2:it < 256) (hr:It.readHead (l.drop k)=.ok fb n r) (hfb:fb < 256) (hnb:n < 18446744073709551616) (h5n:fb / 32=3) (hsh:¬ r.length < n) (hac:∀ j,r=l.drop j→j≤l.length→¬ c=j) (hE:Env w) (hP1:1 < P) (hd:Lib.validD (r.take n)=true):
 Calls Tryd.prog 42 #[.pointer (some ⟨P,0,none⟩),.int .i64 lv] w (ParP P c b o l w (.ok (.mk 3 0 (r.take n) []) (255 - it.toNat) (r.drop n))):=by
 have P0:=al w (.cells #[.int .i64 0,.int .u64 0,.slice none 0 0,.slice none 0 0] 31);have N0:=aw w (.cells #[.int .i64 0,.int .u64 0,.slice none 0 0,.slice none 0 0] 31);have hP1:=Below.keep P0 hA.1 (lb hA.1);have HK:=hA.2;have hPl:=lb hA.1;have x2:=cr hP1 2;have f2:(w.alloc (.cells #[.int .i64 0,.int .u64 0,.slice none 0 0,.slice none 0 0] 31)).frozen? ⟨P,2,none⟩=false:=by simp [World.frozen?,hP1]
 simp at x2;have hit:¬ it=256:=by omega
 have hitb:(it==256)=false:=by simpa using hit
 obtain ⟨it1,hit1⟩:∃ it1,it1=it + 1:=⟨_,rfl⟩;have hw:IntKind.i64.wrap (it + 1)=it1:=by rw [hit1];exact IntWalk.i64_in _ (by omega)
 have hR1:=hR.below P0;have HP0:=dh P0;have HN0:=dh N0;have HA1:=dh hP1;have HR1:=dh hR1;have HL:=dh hPl;clear hA hR P0 N0 hP1 hR1 hPl;go_enter Tryd.func42,Tryd.ntmps42
 go_upto_region 1 with fail
 generalize hw1:w.alloc (.cells #[.int .i64 0,.int .u64 0,.slice none 0 0,.slice none 0 0] 31)=w1 at *;clear hw1;have HA2:Hid (AtP P k c b o l it1 (w1.setCell ⟨P,2,none⟩ (.int .i64 it1))):=dh ⟨by have:=set_arr HA1.out 2 (.int .i64 it1);simpa using this,HK⟩;have HR2:Hid (BR (fun b=>b≠P) (w1.setCell ⟨P,2,none⟩ (.int .i64 it1)) (some ⟨b,o,none⟩) l.length l):=dh (HR1.out.keep fun j hj _=>⟨Below.heap_setCell _ _ _ _ hj,hj⟩);have HC:=dh (phead_any P k c b o l it1 _ HA2.out HR2.out hc hN);have hRP:w.heap.size≠P:=by have:=HL.out;omega
 have HR9:Hid ((w1.setCell ⟨P,2,none⟩ (.int .i64 it1)).heap[w.heap.size]?=some (.cells #[.int .i64 0,.int .u64 0,.slice none 0 0,.slice none 0 0] 31 (0,0))):=dh ((Below.heap_setCell _ _ _ _ hRP).trans HN0.out);have HB2:Hid (But P w (w1.setCell ⟨P,2,none⟩ (.int .i64 it1))):=dh ⟨HP0.out.os,HP0.out.tape,HP0.out.output,by have:=HP0.out.size;simpa [World.setCell] using this,fun j hj hne=>(Below.heap_setCell _ _ _ _ (by show j≠P;exact hne)).trans (HP0.out.block j hj)⟩;rw [hr] at HC;have HIT:=dh hit1;clear hit1;obtain ⟨FB,hFB⟩:∃ FB:Int,FB=fb:=⟨_,rfl⟩;obtain ⟨NN,hNN⟩:∃ NN:Int,NN=n:=⟨_,rfl⟩;have h5:FB / 32=3:=by rw [hFB];omega
 have wk1:IntKind.u8.wrap 3=3:=by show 3 % 256=3;omega
 have wk2:IntKind.i64.wrap 3=3:=IntWalk.i64_in _ (by omega);have HSH:=dh hsh;have HACJ:=dh hac;clear hsh hac;have HE0:=dh hE;have HDD:=dh hd;clear hE hd;have HNN:=dh (And.intro hFB hNN);have HC':Hid (Calls Tryd.prog 66 #[.pointer (some ⟨P,0,none⟩)] (w1.setCell ⟨P,2,none⟩ (.int .i64 it1)) fun e w'=>But P (w1.setCell ⟨P,2,none⟩ (.int .i64 it1)) w'∧e=.returned (.tuple #[.int .u8 FB,.int .u64 NN,.int .i64 0])∧∃ j,AtP P j c b o l it1 w'∧r=l.drop j):=dh (by rw [hFB,hNN];exact HC.out);have HNB:=dh hnb;clear HC hFB hNN hr hnb;go_wp2_with fail
 refine HC'.out.mono ?_;rintro e u ⟨hB,rfl,j0,hAu,hrj⟩;have hn:=(hB.block _ (lb HR9.out) hRP).trans HR9.out;have HBU:Hid (But P w u):=dh ⟨hB.os.trans HB2.out.os,hB.tape.trans HB2.out.tape,hB.output.trans HB2.out.output,Nat.le_trans HB2.out.size hB.size,fun j hj hne=>(hB.block j (Nat.lt_of_lt_of_le hj HB2.out.size) hne).trans (HB2.out.block j hj hne)⟩;have HRU:Hid (BR (fun b=>b≠P) u (some ⟨b,o,none⟩) l.length l):=dh (HR2.out.keep fun j hj hj2=>⟨hB.block j hj2 hj,hj⟩);have HNU:=dh hn;have HAU:=dh hAu;have HRJ:=dh hrj;obtain ⟨r0,r1,r2,r3⟩:=cf HNU.out;obtain ⟨q0,q1,q2,q3⟩:=ff HNU.out;clear hB hn x2 f2 hAu hrj;generalize hBq:w.heap.size=B at *;have hac:=HACJ.out j0 HRJ.out HAU.out.2;have hnn:=HNN.out.2;subst hnn;have hlj:r.length=l.length - j0:=by rw [HRJ.out,List.length_drop]
 have hj0:=HAU.out.2;have y0:=cr HAU.out.1 0;have y1:=cr HAU.out.1 1;simp at y0 y1;obtain ⟨Z,hZ⟩:∃ Z:Int,Z=(l.length:Int) - (j0:Int):=⟨_,rfl⟩;have hz1:IntKind.i64.wrap ((l.length:Int) - (j0:Int))=Z:=by rw [hZ];exact IntWalk.i64_in _ (by omega)
 have hz2:IntKind.u64.wrap Z=Z:=by show Z % 18446744073709551616=Z;omega
 have hsn:=HSH.out;have hgt:decide (Z < (n:Int))=false:=decide_eq_false (by omega);have hgt2:¬ Z < (n:Int):=by omega
 have hn4:n≤4096:=by omega
 obtain ⟨jn,hjn⟩:∃ jn,jn=j0 + n:=⟨_,rfl⟩;have hwj:IntKind.i64.wrap ((j0:Int) + (n:Int))=(jn:Int):=by rw [IntWalk.i64_in _ (by omega),hjn];omega
 have hwn:IntKind.i64.wrap (n:Int)=(n:Int):=IntWalk.i64_in _ (by omega);have hs1:j0≤jn:=by omega
 have hs2:jn≤c:=by omega
 have hs3:jn≤l.length:=by omega
 have hdn:jn - j0=n:=by omega
 obtain ⟨t,ht⟩:∃ t,t=r.take n:=⟨_,rfl⟩;have htl:t.length=n:=by rw [ht,List.length_take];omega
 have hsub:BR (fun _=>True) u (some ⟨b,o + j0,none⟩) n t:=by
  refine ⟨htl.symm,by omega,fun i hi=>?_⟩;obtain ⟨b',o',e,_,h⟩:=HRU.out.2.2 (j0 + i) (by omega);cases e
  refine ⟨_,_,rfl,trivial,?_⟩;have e2:t[i]=l[j0 + i]'(by omega):=by subst ht;simp [HRJ.out]
  rw [e2,Nat.add_assoc];exact h
 have HSUB0:=dh hsub;have HTL:=dh htl;have HTT:=dh ht;have HJN:=dh (And.intro hjn hs3);have HN4:=dh hn4;clear hlj hsn hZ hj0 hjn hs3 htl ht hsub hn4;go_wp2_with fail
 go_quiet (fail)
 have HB9:Hid (Below u.heap.size u (u.drewN nq)):=dh (bd (Below.refl _ _) nq);have HNV:Hid ((u.drewN nq).heap[B]?=some (.cells #[.int .i64 0,.int .u64 0,.slice none 0 0,.slice none 0 0] 31 (0,0))):=dh HNU.out;have HAV:Hid (AtP P j0 c b o l it1 (u.drewN nq)):=dh HAU.out;clear r0 r1 r2 r3 q0 q1 q2 q3 y0 y1;have HSUB:Hid (BR (fun _=>True) (u.drewN nq) (some ⟨b,o + j0,none⟩) n t):=dh (HSUB0.out.below HB9.out);generalize u.drewN nq=v at *;have HS:Hid (∀ W,Below v.heap.size v W→(fun w'=>w'.cell? ⟨P,0,none⟩=some (.slice (some ⟨b,o,none⟩) l.length c)∧w'.cell? ⟨P,1,none⟩=some (.int .i64 (j0:Int))) W):=dh fun W hW=>by
  have h:=Below.keep hW HAV.out.1 (lb HAV.out.1);have y0:=cr h 0;have y1:=cr h 1;simp at y0 y1;exact ⟨y0,y1⟩
 go_wp2_with fail
 refine wp_region_held_drew (S:=(fun w'=>w'.cell? ⟨P,0,none⟩=some (.slice (some ⟨b,o,none⟩) l.length c)∧w'.cell? ⟨P,1,none⟩=some (.int .i64 (j0:Int)))) (by kernel_rfl) (HS.out _ (Below.refl _ _).drew) (fun hHeld=>?_);refine tk 0 (v:=?_) rfl hHeld ?_ ?_;rotate_left
 ·intro W h;(try dsimp only at h);go_simp;try with_reducible rfl
 try simp only [Act.put,sx]
 refine tk 1 (v:=?_) rfl hHeld ?_ ?_;rotate_left
 ·intro W h;(try dsimp only at h);go_simp;try with_reducible rfl
 try simp only [Act.put,sx]
 refine tk 2 (v:=?_) rfl hHeld ?_ ?_;rotate_left
 ·intro W h;(try dsimp only at h);go_simp;try with_reducible rfl
 try simp only [Act.put,sx]
 refine tk 3 (v:=?_) rfl hHeld ?_ ?_;rotate_left
 ·intro W h;(try dsimp only at h);go_simp;try with_reducible rfl
 try simp only [Act.put,sx]
 refine tk 4 (v:=?_) rfl hHeld ?_ ?_;rotate_left
 ·intro W h;(try dsimp only at h);go_simp;try with_reducible rfl
 try simp only [Act.put,sx]
 refine tk 5 (v:=?_) rfl hHeld ?_ ?_;rotate_left
 ·intro W h;(try dsimp only at h);go_simp;try with_reducible rfl
 try simp only [Act.put,sx]
 refine tk 6 (v:=?_) rfl hHeld ?_ ?_;rotate_left
 ·intro W h;(try dsimp only at h);go_simp;try with_reducible rfl
 try simp only [Act.put,sx]
 refine tk 7 (v:=?_) rfl hHeld ?_ ?_;rotate_left
 ·intro W h;(try dsimp only at h);go_simp;try with_reducible rfl
 try simp only [Act.put,sx]
 refine tk 8 (v:=?_) rfl hHeld ?_ ?_;rotate_left
 ·intro W h;(try dsimp only at h);go_simp;try with_reducible rfl
 try simp only [Act.put,sx]
 refine tk 9 (v:=?_) rfl hHeld ?_ ?_;rotate_left
 ·intro W h;(try dsimp only at h);go_simp;try with_reducible rfl
 try simp only [Act.put,sx]
 refine tk 10 (v:=?_) rfl hHeld ?_ ?_;rotate_left
 ·intro W h;(try dsimp only at h);go_simp;try with_reducible rfl
 try simp only [Act.put,sx]
 refine tk 11 (v:=?_) rfl hHeld ?_ ?_;rotate_left
 ·intro W h;(try dsimp only at h);go_simp;try with_reducible rfl
 try simp only [Act.put,sx]
 refine tk 12 (v:=?_) rfl hHeld ?_ ?_;rotate_left
 ·intro W h;(try dsimp only at h);go_simp;try with_reducible rfl
 try simp only [Act.put,sx]
 refine tk 13 (v:=?_) rfl hHeld ?_ ?_;rotate_left
 ·intro W h;(try dsimp only at h);go_simp;try with_reducible rfl
 try simp only [Act.put,sx]
 refine tk 14 (v:=?_) rfl hHeld ?_ ?_;rotate_left
 ·intro W h;(try dsimp only at h);go_simp;try with_reducible rfl
 try simp only [Act.put,sx]
 refine tk 15 (v:=?_) rfl hHeld ?_ ?_;rotate_left
 ·intro W h;(try dsimp only at h);go_simp;try with_reducible rfl
 try simp only [Act.put,sx]
 refine wpAnyH_ready (rs:=[16]) (by kernel_rfl) (by simp) ?_;refine AllReadyH.cons rfl (fun K1 hK1=>?_) AllReadyH.nil;go_simp
 refine (clone_any (a:=some ⟨b,o + j0,none⟩) (n:=n) (c:=c - j0) (x:=t) (ok:=fun _=>True) (HSUB.out.below (bd (Below.refl _ _) 1)) (by have h1:=HTL.out;have h2:=HN4.out;omega)).mono ?_;rintro e v8 h8;obtain ⟨a8,c8,rfl,_,R8,hc8,hc8m,B8⟩:=h8.open;rw [HTL.out] at R8 hc8 ⊢;have HB8:=dh (pt (bd (Below.refl v.heap.size v) 1) B8);have HR8:=dh R8;have HC8:=dh hc8;have HC8M:=dh hc8m;clear R8 B8 h8 hc8 hc8m;refine hK1.out _ _ (HS.out _ HB8.out) (fun hHeld=>?_);clear hK1
 try simp only [Act.put,sx]
 refine tk 17 (v:=?_) rfl hHeld ?_ ?_;rotate_left
 ·intro W h;(try dsimp only at h);go_simp;try with_reducible rfl
 try simp only [Act.put,sx]
 refine wpAnyH_done (by kernel_rfl) ?_ _
 try simp only [Act.put,sx]
 have hP8:=Below.keep HB8.out HAV.out.1 (lb HAV.out.1);have y1:=cr hP8 1;have f1:v8.frozen? ⟨P,1,none⟩=false:=by simp [World.frozen?,hP8]
 simp at y1;go_upto_region 18 with fail
 have HW9:Hid ((v8.setCell ⟨P,1,none⟩ (.int .i64 (jn:Int))).heap[P]?=some (.cells #[.slice (some ⟨b,o,none⟩) l.length c,.int .i64 (jn:Int),.int .i64 it1] 82 (0,0))):=dh (by have:=set_arr hP8 1 (.int .i64 (jn:Int));simpa using this);have hk9:∀ j,j≠P→(v8.setCell ⟨P,1,none⟩ (.int .i64 (jn:Int))).heap[j]?=v8.heap[j]?:=fun j hj=>Below.heap_setCell _ _ _ _ hj
 have hz9:(v8.setCell ⟨P,1,none⟩ (.int .i64 (jn:Int))).heap.size=v8.heap.size:=by simp [World.setCell]
 have HBX:Hid (But P w (v8.setCell ⟨P,1,none⟩ (.int .i64 (jn:Int)))):=dh ⟨HB8.out.os.trans (HB9.out.os.trans HBU.out.os),HB8.out.tape.trans (HB9.out.tape.trans HBU.out.tape),HB8.out.output.trans (HB9.out.output.trans HBU.out.output),by have h1:=HBU.out.size;have h2:=HB9.out.size;have h3:=HB8.out.size;rw [hz9];omega,fun j hj hne=>(hk9 j hne).trans ((HB8.out.block j (Nat.lt_of_lt_of_le (Nat.lt_of_lt_of_le hj HBU.out.size) HB9.out.size)).trans ((HB9.out.block j (Nat.lt_of_lt_of_le hj HBU.out.size)).trans (HBU.out.block j hj hne)))⟩;have HNX:Hid ((v8.setCell ⟨P,1,none⟩ (.int .i64 (jn:Int))).heap[B]?=some (.cells #[.int .i64 0,.int .u64 0,.slice none 0 0,.slice none 0 0] 31 (0,0))):=dh ((hk9 B hRP).trans (Below.keep HB8.out HNV.out (lb HNV.out)));have hBv:B + 1≤v.heap.size:=lb HNV.out;have HR9:Hid (BR (fun j=>B + 1≤j) (v8.setCell ⟨P,1,none⟩ (.int .i64 (jn:Int))) a8 n t):=dh (HR8.out.keep fun j hj hj2=>⟨hk9 j (by have h1:v.heap.size≤j:=hj;have:=HL.out;omega),by have h1:v.heap.size≤j:=hj;omega⟩);clear hk9 hz9 hP8 y1 f1 hHeld hBv;generalize v8.setCell ⟨P,1,none⟩ (.int .i64 (jn:Int))=w9 at *;obtain ⟨r0,r1,r2,r3⟩:=cf HNX.out;obtain ⟨q0,q1,q2,q3⟩:=ff HNX.out;go_wp2_with fail
 refine (valid_any (But.env HE0.out HBX.out hP1) HR9.out HC8.out true (by rw [HTT.out];exact HDD.out)).mono ?_;rintro e v10 ⟨rfl,B10⟩;have HB10:=dh B10;have HNY:=dh (Below.keep B10 HNX.out (lb HNX.out));have HBY:Hid (But P w v10):=dh ⟨B10.os.trans HBX.out.os,B10.tape.trans HBX.out.tape,B10.output.trans HBX.out.output,Nat.le_trans HBX.out.size B10.size,fun j hj hne=>(B10.block j (Nat.lt_of_lt_of_le hj HBX.out.size)).trans (HBX.out.block j hj hne)⟩;have HRY:=dh (HR9.out.below B10);clear B10 r0 r1 r2 r3 q0 q1 q2 q3;obtain ⟨r0,r1,r2,r3⟩:=cf HNY.out;obtain ⟨q0,q1,q2,q3⟩:=ff HNY.out;go_wp2_with fail
 clear r0 r1 r2 r3 q0 q1 q2 q3;obtain ⟨W',hW',hp4,hs4,hb4⟩:=pq (W:=v10) (b:=B) (HNY.out) (.int .i64 3) (.int .u64 0) (.slice a8 n c8) (.slice none 0 0);rw [hW'];clear hW';obtain ⟨g0,g1,g2,g3⟩:=cf hp4;refine bodyPost_ret (v:=.tuple #[.agg #[.int .i64 3,.int .u64 0,.slice a8 n c8,.slice none 0 0],.int .i64 0]) (by simp [results,Tryd.results42,go_sem,g0,g1,g2,g3]) rfl ?_;have hz:=hb4 0 v10 (Below.refl 0 v10) (Nat.zero_le _);have HBW:But P w W':=⟨hz.os.trans HBY.out.os,hz.tape.trans HBY.out.tape,hz.output.trans HBY.out.output,by have:=HBY.out.size;rw [hs4.1];exact this,fun j hj hne=>(hs4.2 j (by omega)).trans (HBY.out.block j hj hne)⟩;have hq:it1=256 - ((255 - it.toNat:Nat):Int):=by rw [HIT.out];omega
 rw [← HTT.out];refine ⟨HBW,⟨a8,n,c8,none,0,0⟩,rfl,IR_iff.2 ⟨by show 0 < _;omega,⟨(HRY.out.keep fun j hj _=>⟨hs4.2 j (by have h1:B + 1≤j:=hj;omega),by have h1:B + 1≤j:=hj;show w.heap.size≤j;omega⟩),HC8.out,HC8M.out⟩,TL.nil _ _ _,by simp,by simp⟩,jn,⟨(hs4.2 P (by omega)).trans (by rw [Below.keep HB10.out HW9.out (lb HW9.out),hq]),HJN.out.2⟩,?_⟩;rw [HRJ.out,List.drop_drop,← HJN.out.1]
set_option maxHeartbeats 8000000 in
theorem pitem_by2b (P k c b o fb n:Nat) (l r:List UInt8) (it lv:Int) (w:World) (hA:AtP P k c b o l it w) (hR:BR (fun b=>b≠P) w (some ⟨b,o,none⟩) l.length l) (hc:l.length≤c) (hN:l.length≤4096) (hi:0≤it) (hi2:it < 256) (hr:It.readHead (l.drop k)=.ok fb n r) (hfb:fb < 256) (hnb:n < 18446744073709551616) (h5n:fb / 32=2) (hsh:¬ r.length < n) (hac:∀ j,r=l.drop j→j≤l.length→c=j):
 Calls Tryd.prog 42 #[.pointer (some ⟨P,0,none⟩),.int .i64 lv] w (ParP P c b o l w (.ok (.mk 2 0 (r.take n) []) (255 - it.toNat) (r.drop n))):=by
 have P0:=al w (.cells #[.int .i64 0,.int .u64 0,.slice none 0 0,.slice none 0 0] 31);have N0:=aw w (.cells #[.int .i64 0,.int .u64 0,.slice none 0 0,.slice none 0 0] 31);have hP1:=Below.keep P0 hA.1 (lb hA.1);have HK:=hA.2;have hPl:=lb hA.1;have x2:=cr hP1 2;have f2:(w.alloc (.cells #[.int .i64 0,.int .u64 0,.slice none 0 0,.slice none 0 0] 31)).frozen? ⟨P,2,none⟩=false:=by simp [World.frozen?,hP1]
 simp at x2;have hit:¬ it=256:=by omega
 have hitb:(it==256)=false:=by simpa using hit
 obtain ⟨it1,hit1⟩:∃ it1,it1=it + 1:=⟨_,rfl⟩;have hw:IntKind.i64.wrap (it + 1)=it1:=by rw [hit1];exact IntWalk.i64_in _ (by omega)
 have hR1:=hR.below P0;have HP0:=dh P0;have HN0:=dh N0;have HA1:=dh hP1;have HR1:=dh hR1;have HL:=dh hPl;clear hA hR P0 N0 hP1 hR1 hPl;go_enter Tryd.func42,Tryd.ntmps42
 go_upto_region 1 with fail
 generalize hw1:w.alloc (.cells #[.int .i64 0,.int .u64 0,.slice none 0 0,.slice none 0 0] 31)=w1 at *;clear hw1;have HA2:Hid (AtP P k c b o l it1 (w1.setCell ⟨P,2,none⟩ (.int .i64 it1))):=dh ⟨by have:=set_arr HA1.out 2 (.int .i64 it1);simpa using this,HK⟩;have HR2:Hid (BR (fun b=>b≠P) (w1.setCell ⟨P,2,none⟩ (.int .i64 it1)) (some ⟨b,o,none⟩) l.length l):=dh (HR1.out.keep fun j hj _=>⟨Below.heap_setCell _ _ _ _ hj,hj⟩);have HC:=dh (phead_any P k c b o l it1 _ HA2.out HR2.out hc hN);have hRP:w.heap.size≠P:=by have:=HL.out;omega
 have HR9:Hid ((w1.setCell ⟨P,2,none⟩ (.int .i64 it1)).heap[w.heap.size]?=some (.cells #[.int .i64 0,.int .u64 0,.slice none 0 0,.slice none 0 0] 31 (0,0))):=dh ((Below.heap_setCell _ _ _ _ hRP).trans HN0.out);have HB2:Hid (But P w (w1.setCell ⟨P,2,none⟩ (.int .i64 it1))):=dh ⟨HP0.out.os,HP0.out.tape,HP0.out.output,by have:=HP0.out.size;simpa [World.setCell] using this,fun j hj hne=>(Below.heap_setCell _ _ _ _ (by show j≠P;exact hne)).trans (HP0.out.block j hj)⟩;rw [hr] at HC;have HIT:=dh hit1;clear hit1;obtain ⟨FB,hFB⟩:∃ FB:Int,FB=fb:=⟨_,rfl⟩;obtain ⟨NN,hNN⟩:∃ NN:Int,NN=n:=⟨_,rfl⟩;have h5:FB / 32=2:=by rw [hFB];omega
 have wk1:IntKind.u8.wrap 2=2:=by show 2 % 256=2;omega
 have wk2:IntKind.i64.wrap 2=2:=IntWalk.i64_in _ (by omega);have HSH:=dh hsh;have HACJ:=dh hac;clear hsh hac;have HNN:=dh (And.intro hFB hNN);have HC':Hid (Calls Tryd.prog 66 #[.pointer (some ⟨P,0,none⟩)] (w1.setCell ⟨P,2,none⟩ (.int .i64 it1)) fun e w'=>But P (w1.setCell ⟨P,2,none⟩ (.int .i64 it1)) w'∧e=.returned (.tuple #[.int .u8 FB,.int .u64 NN,.int .i64 0])∧∃ j,AtP P j c b o l it1 w'∧r=l.drop j):=dh (by rw [hFB,hNN];exact HC.out);have HNB:=dh hnb;clear HC hFB hNN hr hnb;go_wp2_with fail
 refine HC'.out.mono ?_;rintro e u ⟨hB,rfl,j0,hAu,hrj⟩;have hn:=(hB.block _ (lb HR9.out) hRP).trans HR9.out;have HBU:Hid (But P w u):=dh ⟨hB.os.trans HB2.out.os,hB.tape.trans HB2.out.tape,hB.output.trans HB2.out.output,Nat.le_trans HB2.out.size hB.size,fun j hj hne=>(hB.block j (Nat.lt_of_lt_of_le hj HB2.out.size) hne).trans (HB2.out.block j hj hne)⟩;have HRU:Hid (BR (fun b=>b≠P) u (some ⟨b,o,none⟩) l.length l):=dh (HR2.out.keep fun j hj hj2=>⟨hB.block j hj2 hj,hj⟩);have HNU:=dh hn;have HAU:=dh hAu;have HRJ:=dh hrj;obtain ⟨r0,r1,r2,r3⟩:=cf HNU.out;obtain ⟨q0,q1,q2,q3⟩:=ff HNU.out;clear hB hn x2 f2 hAu hrj;generalize hBq:w.heap.size=B at *;have hac0:=HACJ.out j0 HRJ.out HAU.out.2;have hac:=eq_true hac0;have hnn:=HNN.out.2;subst hnn;have hlj:r.length=l.length - j0:=by rw [HRJ.out,List.length_drop]
 have hj0:=HAU.out.2;have y0:=cr HAU.out.1 0;have y1:=cr HAU.out.1 1;simp at y0 y1;obtain ⟨Z,hZ⟩:∃ Z:Int,Z=(l.length:Int) - (j0:Int):=⟨_,rfl⟩;have hz1:IntKind.i64.wrap ((l.length:Int) - (j0:Int))=Z:=by rw [hZ];exact IntWalk.i64_in _ (by omega)
 have hz2:IntKind.u64.wrap Z=Z:=by show Z % 18446744073709551616=Z;omega
 have hsn:=HSH.out;have hgt:decide (Z < (n:Int))=false:=decide_eq_false (by omega);have hgt2:¬ Z < (n:Int):=by omega
 have hn4:n≤4096:=by omega
 obtain ⟨jn,hjn⟩:∃ jn,jn=j0 + n:=⟨_,rfl⟩;have hwj:IntKind.i64.wrap ((j0:Int) + (n:Int))=(jn:Int):=by rw [IntWalk.i64_in _ (by omega),hjn];omega
 have hwn:IntKind.i64.wrap (n:Int)=(n:Int):=IntWalk.i64_in _ (by omega);have hs1:j0≤jn:=by omega
 have hs2:jn≤c:=by omega
 have hs3:jn≤l.length:=by omega
 have hdn:jn - j0=n:=by omega
 obtain ⟨t,ht⟩:∃ t,t=r.take n:=⟨_,rfl⟩;have htl:t.length=n:=by rw [ht,List.length_take];omega
 have hsub:BR (fun _=>True) u (some ⟨b,o,none⟩) n t:=by
  have hn0:n=0:=by omega
  have ht0:t=[]:=List.eq_nil_of_length_eq_zero (by omega);rw [hn0,ht0];exact BR.nil _ _ _
 have HSUB0:=dh hsub;have HTL:=dh htl;have HTT:=dh ht;have HJN:=dh (And.intro hjn hs3);have HN4:=dh hn4;clear hlj hsn hZ hj0 hjn hs3 htl ht hsub hn4 hac0;go_wp2_with fail
 go_quiet (fail)
 have HB9:Hid (Below u.heap.size u (u.drewN nq)):=dh (bd (Below.refl _ _) nq);have HNV:Hid ((u.drewN nq).heap[B]?=some (.cells #[.int .i64 0,.int .u64 0,.slice none 0 0,.slice none 0 0] 31 (0,0))):=dh HNU.out;have HAV:Hid (AtP P j0 c b o l it1 (u.drewN nq)):=dh HAU.out;clear r0 r1 r2 r3 q0 q1 q2 q3 y0 y1;have HSUB:Hid (BR (fun _=>True) (u.drewN nq) (some ⟨b,o,none⟩) n t):=dh (HSUB0.out.below HB9.out);generalize u.drewN nq=v at *;have HS:Hid (∀ W,Below v.heap.size v W→(fun w'=>w'.cell? ⟨P,0,none⟩=some (.slice (some ⟨b,o,none⟩) l.length c)∧w'.cell? ⟨P,1,none⟩=some (.int .i64 (j0:Int))) W):=dh fun W hW=>by
  have h:=Below.keep hW HAV.out.1 (lb HAV.out.1);have y0:=cr h 0;have y1:=cr h 1;simp at y0 y1;exact ⟨y0,y1⟩
 go_wp2_with fail
 refine wp_region_held_drew (S:=(fun w'=>w'.cell? ⟨P,0,none⟩=some (.slice (some ⟨b,o,none⟩) l.length c)∧w'.cell? ⟨P,1,none⟩=some (.int .i64 (j0:Int)))) (by kernel_rfl) (HS.out _ (Below.refl _ _).drew) (fun hHeld=>?_);refine tk 0 (v:=?_) rfl hHeld ?_ ?_;rotate_left
 ·intro W h;(try dsimp only at h);go_simp;try with_reducible rfl
 try simp only [Act.put,sx]
 refine tk 1 (v:=?_) rfl hHeld ?_ ?_;rotate_left
 ·intro W h;(try dsimp only at h);go_simp;try with_reducible rfl
 try simp only [Act.put,sx]
 refine tk 2 (v:=?_) rfl hHeld ?_ ?_;rotate_left
 ·intro W h;(try dsimp only at h);go_simp;try with_reducible rfl
 try simp only [Act.put,sx]
 refine tk 3 (v:=?_) rfl hHeld ?_ ?_;rotate_left
 ·intro W h;(try dsimp only at h);go_simp;try with_reducible rfl
 try simp only [Act.put,sx]
 refine tk 4 (v:=?_) rfl hHeld ?_ ?_;rotate_left
 ·intro W h;(try dsimp only at h);go_simp;try with_reducible rfl
 try simp only [Act.put,sx]
 refine tk 5 (v:=?_) rfl hHeld ?_ ?_;rotate_left
 ·intro W h;(try dsimp only at h);go_simp;try with_reducible rfl
 try simp only [Act.put,sx]
 refine tk 6 (v:=?_) rfl hHeld ?_ ?_;rotate_left
 ·intro W h;(try dsimp only at h);go_simp;try with_reducible rfl
 try simp only [Act.put,sx]
 refine tk 7 (v:=?_) rfl hHeld ?_ ?_;rotate_left
 ·intro W h;(try dsimp only at h);go_simp;try with_reducible rfl
 try simp only [Act.put,sx]
 refine tk 8 (v:=?_) rfl hHeld ?_ ?_;rotate_left
 ·intro W h;(try dsimp only at h);go_simp;try with_reducible rfl
 try simp only [Act.put,sx]
 refine tk 9 (v:=?_) rfl hHeld ?_ ?_;rotate_left
 ·intro W h;(try dsimp only at h);go_simp;try with_reducible rfl
 try simp only [Act.put,sx]
 refine tk 10 (v:=?_) rfl hHeld ?_ ?_;rotate_left
 ·intro W h;(try dsimp only at h);go_simp;try with_reducible rfl
 try simp only [Act.put,sx]
 refine tk 11 (v:=?_) rfl hHeld ?_ ?_;rotate_left
 ·intro W h;(try dsimp only at h);go_simp;try with_reducible rfl
 try simp only [Act.put,sx]
 refine tk 12 (v:=?_) rfl hHeld ?_ ?_;rotate_left
 ·intro W h;(try dsimp only at h);go_simp;try with_reducible rfl
 try simp only [Act.put,sx]
 refine tk 13 (v:=?_) rfl hHeld ?_ ?_;rotate_left
 ·intro W h;(try dsimp only at h);go_simp;try with_reducible rfl
 try simp only [Act.put,sx]
 refine tk 14 (v:=?_) rfl hHeld ?_ ?_;rotate_left
 ·intro W h;(try dsimp only at h);go_simp;try with_reducible rfl
 try simp only [Act.put,sx]
 refine tk 15 (v:=?_) rfl hHeld ?_ ?_;rotate_left
 ·intro W h;(try dsimp only at h);go_simp;try with_reducible rfl
 try simp only [Act.put,sx]
 refine wpAnyH_ready (rs:=[16]) (by kernel_rfl) (by simp) ?_;refine AllReadyH.cons rfl (fun K1 hK1=>?_) AllReadyH.nil;go_simp
 refine (clone_any (a:=some ⟨b,o,none⟩) (n:=n) (c:=c - j0) (x:=t) (ok:=fun _=>True) (HSUB.out.below (bd (Below.refl _ _) 1)) (by have h1:=HTL.out;have h2:=HN4.out;omega)).mono ?_;rintro e v8 h8;obtain ⟨a8,c8,rfl,_,R8,hc8,hc8m,B8⟩:=h8.open;rw [HTL.out] at R8 hc8 ⊢;have HB8:=dh (pt (bd (Below.refl v.heap.size v) 1) B8);have HR8:=dh R8;have HC8:=dh hc8;have HC8M:=dh hc8m;clear R8 B8 h8 hc8 hc8m;refine hK1.out _ _ (HS.out _ HB8.out) (fun hHeld=>?_);clear hK1
 try simp only [Act.put,sx]
 refine tk 17 (v:=?_) rfl hHeld ?_ ?_;rotate_left
 ·intro W h;(try dsimp only at h);go_simp;try with_reducible rfl
 try simp only [Act.put,sx]
 refine wpAnyH_done (by kernel_rfl) ?_ _
 try simp only [Act.put,sx]
 have hP8:=Below.keep HB8.out HAV.out.1 (lb HAV.out.1);have y1:=cr hP8 1;have f1:v8.frozen? ⟨P,1,none⟩=false:=by simp [World.frozen?,hP8]
 simp at y1;go_upto_region 18 with fail
 have HW9:Hid ((v8.setCell ⟨P,1,none⟩ (.int .i64 (jn:Int))).heap[P]?=some (.cells #[.slice (some ⟨b,o,none⟩) l.length c,.int .i64 (jn:Int),.int .i64 it1] 82 (0,0))):=dh (by have:=set_arr hP8 1 (.int .i64 (jn:Int));simpa using this);have hk9:∀ j,j≠P→(v8.setCell ⟨P,1,none⟩ (.int .i64 (jn:Int))).heap[j]?=v8.heap[j]?:=fun j hj=>Below.heap_setCell _ _ _ _ hj
 have hz9:(v8.setCell ⟨P,1,none⟩ (.int .i64 (jn:Int))).heap.size=v8.heap.size:=by simp [World.setCell]
 have HBX:Hid (But P w (v8.setCell ⟨P,1,none⟩ (.int .i64 (jn:Int)))):=dh ⟨HB8.out.os.trans (HB9.out.os.trans HBU.out.os),HB8.out.tape.trans (HB9.out.tape.trans HBU.out.tape),HB8.out.output.trans (HB9.out.output.trans HBU.out.output),by have h1:=HBU.out.size;have h2:=HB9.out.size;have h3:=HB8.out.size;rw [hz9];omega,fun j hj hne=>(hk9 j hne).trans ((HB8.out.block j (Nat.lt_of_lt_of_le (Nat.lt_of_lt_of_le hj HBU.out.size) HB9.out.size)).trans ((HB9.out.block j (Nat.lt_of_lt_of_le hj HBU.out.size)).trans (HBU.out.block j hj hne)))⟩;have HNX:Hid ((v8.setCell ⟨P,1,none⟩ (.int .i64 (jn:Int))).heap[B]?=some (.cells #[.int .i64 0,.int .u64 0,.slice none 0 0,.slice none 0 0] 31 (0,0))):=dh ((hk9 B hRP).trans (Below.keep HB8.out HNV.out (lb HNV.out)));have hBv:B + 1≤v.heap.size:=lb HNV.out;have HR9:Hid (BR (fun j=>B + 1≤j) (v8.setCell ⟨P,1,none⟩ (.int .i64 (jn:Int))) a8 n t):=dh (HR8.out.keep fun j hj hj2=>⟨hk9 j (by have h1:v.heap.size≤j:=hj;have:=HL.out;omega),by have h1:v.heap.size≤j:=hj;omega⟩);clear hk9 hz9 hP8 y1 f1 hHeld hBv;generalize v8.setCell ⟨P,1,none⟩ (.int .i64 (jn:Int))=w9 at *;obtain ⟨r0,r1,r2,r3⟩:=cf HNX.out;obtain ⟨q0,q1,q2,q3⟩:=ff HNX.out;go_wp2_with fail
 clear r0 r1 r2 r3 q0 q1 q2 q3;obtain ⟨W',hW',hp4,hs4,hb4⟩:=pq (W:=w9) (b:=B) (HNX.out) (.int .i64 2) (.int .u64 0) (.slice a8 n c8) (.slice none 0 0);rw [hW'];clear hW';obtain ⟨g0,g1,g2,g3⟩:=cf hp4;refine bodyPost_ret (v:=.tuple #[.agg #[.int .i64 2,.int .u64 0,.slice a8 n c8,.slice none 0 0],.int .i64 0]) (by simp [results,Tryd.results42,go_sem,g0,g1,g2,g3]) rfl ?_;have hz:=hb4 0 w9 (Below.refl 0 w9) (Nat.zero_le _);have HBW:But P w W':=⟨hz.os.trans HBX.out.os,hz.tape.trans HBX.out.tape,hz.output.trans HBX.out.output,by have:=HBX.out.size;rw [hs4.1];exact this,fun j hj hne=>(hs4.2 j (by omega)).trans (HBX.out.block j hj hne)⟩;have hq:it1=256 - ((255 - it.toNat:Nat):Int):=by rw [HIT.out];omega
 rw [← HTT.out];refine ⟨HBW,⟨a8,n,c8,none,0,0⟩,rfl,IR_iff.2 ⟨by show 0 < _;omega,⟨(HR9.out.keep fun j hj _=>⟨hs4.2 j (by have h1:B + 1≤j:=hj;omega),by have h1:B + 1≤j:=hj;show w.heap.size≤j;omega⟩),HC8.out,HC8M.out⟩,TL.nil _ _ _,by simp,by simp⟩,jn,⟨(hs4.2 P (by omega)).trans (by rw [HW9.out,hq]),HJN.out.2⟩,?_⟩;rw [HRJ.out,List.drop_drop,← HJN.out.1]
set_option maxHeartbeats 8000000 in
theorem pitem_by3b_true (P k c b o fb n:Nat) (l r:List UInt8) (it lv:Int) (w:World) (hA:AtP P k c b o l it w) (hR:BR (fun b=>b≠P) w (some ⟨b,o,none⟩) l.length l) (hc:l.length≤c) (hN:l.length≤4096) (hi:0≤it) (hi2:it < 256) (hr:It.readHead (l.drop k)=.ok fb n r) (hfb:fb < 256) (hnb:n < 18446744073709551616) (h5n:fb / 32=3) (hsh:¬ r.length < n) (hac:∀ j,r=l.drop j→j≤l.length→c=j) (hE:Env w) (hP1:1 < P) (hd:Lib.validD (r.take n)=true):
 Calls Tryd.prog 42 #[.pointer (some ⟨P,0,none⟩),.int .i64 lv] w (ParP P c b o l w (.ok (.mk 3 0 (r.take n) []) (255 - it.toNat) (r.drop n))):=by
 have P0:=al w (.cells #[.int .i64 0,.int .u64 0,.slice none 0 0,.slice none 0 0] 31);have N0:=aw w (.cells #[.int .i64 0,.int .u64 0,.slice none 0 0,.slice none 0 0] 31);have hP1:=Below.keep P0 hA.1 (lb hA.1);have HK:=hA.2;have hPl:=lb hA.1;have x2:=cr hP1 2;have f2:(w.alloc (.cells #[.int .i64 0,.int .u64 0,.slice none 0 0,.slice none 0 0] 31)).frozen? ⟨P,2,none⟩=false:=by simp [World.frozen?,hP1]
 simp at x2;have hit:¬ it=256:=by omega
 have hitb:(it==256)=false:=by simpa using hit
 obtain ⟨it1,hit1⟩:∃ it1,it1=it + 1:=⟨_,rfl⟩;have hw:IntKind.i64.wrap (it + 1)=it1:=by rw [hit1];exact IntWalk.i64_in _ (by omega)
 have hR1:=hR.below P0;have HP0:=dh P0;have HN0:=dh N0;have HA1:=dh hP1;have HR1:=dh hR1;have HL:=dh hPl;clear hA hR P0 N0 hP1 hR1 hPl;go_enter Tryd.func42,Tryd.ntmps42
 go_upto_region 1 with fail
 generalize hw1:w.alloc (.cells #[.int .i64 0,.int .u64 0,.slice none 0 0,.slice none 0 0] 31)=w1 at *;clear hw1;have HA2:Hid (AtP P k c b o l it1 (w1.setCell ⟨P,2,none⟩ (.int .i64 it1))):=dh ⟨by have:=set_arr HA1.out 2 (.int .i64 it1);simpa using this,HK⟩;have HR2:Hid (BR (fun b=>b≠P) (w1.setCell ⟨P,2,none⟩ (.int .i64 it1)) (some ⟨b,o,none⟩) l.length l):=dh (HR1.out.keep fun j hj _=>⟨Below.heap_setCell _ _ _ _ hj,hj⟩);have HC:=dh (phead_any P k c b o l it1 _ HA2.out HR2.out hc hN);have hRP:w.heap.size≠P:=by have:=HL.out;omega
 have HR9:Hid ((w1.setCell ⟨P,2,none⟩ (.int .i64 it1)).heap[w.heap.size]?=some (.cells #[.int .i64 0,.int .u64 0,.slice none 0 0,.slice none 0 0] 31 (0,0))):=dh ((Below.heap_setCell _ _ _ _ hRP).trans HN0.out);have HB2:Hid (But P w (w1.setCell ⟨P,2,none⟩ (.int .i64 it1))):=dh ⟨HP0.out.os,HP0.out.tape,HP0.out.output,by have:=HP0.out.size;simpa [World.setCell] using this,fun j hj hne=>(Below.heap_setCell _ _ _ _ (by show j≠P;exact hne)).trans (HP0.out.block j hj)⟩;rw [hr] at HC;have HIT:=dh hit1;clear hit1;obtain ⟨FB,hFB⟩:∃ FB:Int,FB=fb:=⟨_,rfl⟩;obtain ⟨NN,hNN⟩:∃ NN:Int,NN=n:=⟨_,rfl⟩;have h5:FB / 32=3:=by rw [hFB];omega
 have wk1:IntKind.u8.wrap 3=3:=by show 3 % 256=3;omega
 have wk2:IntKind.i64.wrap 3=3:=IntWalk.i64_in _ (by omega);have HSH:=dh hsh;have HACJ:=dh hac;clear hsh hac;have HE0:=dh hE;have HDD:=dh hd;clear hE hd;have HNN:=dh (And.intro hFB hNN);have HC':Hid (Calls Tryd.prog 66 #[.pointer (some ⟨P,0,none⟩)] (w1.setCell ⟨P,2,none⟩ (.int .i64 it1)) fun e w'=>But P (w1.setCell ⟨P,2,none⟩ (.int .i64 it1)) w'∧e=.returned (.tuple #[.int .u8 FB,.int .u64 NN,.int .i64 0])∧∃ j,AtP P j c b o l it1 w'∧r=l.drop j):=dh (by rw [hFB,hNN];exact HC.out);have HNB:=dh hnb;clear HC hFB hNN hr hnb;go_wp2_with fail
 refine HC'.out.mono ?_;rintro e u ⟨hB,rfl,j0,hAu,hrj⟩;have hn:=(hB.block _ (lb HR9.out) hRP).trans HR9.out;have HBU:Hid (But P w u):=dh ⟨hB.os.trans HB2.out.os,hB.tape.trans HB2.out.tape,hB.output.trans HB2.out.output,Nat.le_trans HB2.out.size hB.size,fun j hj hne=>(hB.block j (Nat.lt_of_lt_of_le hj HB2.out.size) hne).trans (HB2.out.block j hj hne)⟩;have HRU:Hid (BR (fun b=>b≠P) u (some ⟨b,o,none⟩) l.length l):=dh (HR2.out.keep fun j hj hj2=>⟨hB.block j hj2 hj,hj⟩);have HNU:=dh hn;have HAU:=dh hAu;have HRJ:=dh hrj;obtain ⟨r0,r1,r2,r3⟩:=cf HNU.out;obtain ⟨q0,q1,q2,q3⟩:=ff HNU.out;clear hB hn x2 f2 hAu hrj;generalize hBq:w.heap.size=B at *;have hac0:=HACJ.out j0 HRJ.out HAU.out.2;have hac:=eq_true hac0;have hnn:=HNN.out.2;subst hnn;have hlj:r.length=l.length - j0:=by rw [HRJ.out,List.length_drop]
 have hj0:=HAU.out.2;have y0:=cr HAU.out.1 0;have y1:=cr HAU.out.1 1;simp at y0 y1;obtain ⟨Z,hZ⟩:∃ Z:Int,Z=(l.length:Int) - (j0:Int):=⟨_,rfl⟩;have hz1:IntKind.i64.wrap ((l.length:Int) - (j0:Int))=Z:=by rw [hZ];exact IntWalk.i64_in _ (by omega)
 have hz2:IntKind.u64.wrap Z=Z:=by show Z % 18446744073709551616=Z;omega
 have hsn:=HSH.out;have hgt:decide (Z < (n:Int))=false:=decide_eq_false (by omega);have hgt2:¬ Z < (n:Int):=by omega
 have hn4:n≤4096:=by omega
 obtain ⟨jn,hjn⟩:∃ jn,jn=j0 + n:=⟨_,rfl⟩;have hwj:IntKind.i64.wrap ((j0:Int) + (n:Int))=(jn:Int):=by rw [IntWalk.i64_in _ (by omega),hjn];omega
 have hwn:IntKind.i64.wrap (n:Int)=(n:Int):=IntWalk.i64_in _ (by omega);have hs1:j0≤jn:=by omega
 have hs2:jn≤c:=by omega
 have hs3:jn≤l.length:=by omega
 have hdn:jn - j0=n:=by omega
 obtain ⟨t,ht⟩:∃ t,t=r.take n:=⟨_,rfl⟩;have htl:t.length=n:=by rw [ht,List.length_take];omega
 have hsub:BR (fun _=>True) u (some ⟨b,o,none⟩) n t:=by
  have hn0:n=0:=by omega
  have ht0:t=[]:=List.eq_nil_of_length_eq_zero (by omega);rw [hn0,ht0];exact BR.nil _ _ _
 have HSUB0:=dh hsub;have HTL:=dh htl;have HTT:=dh ht;have HJN:=dh (And.intro hjn hs3);have HN4:=dh hn4;clear hlj hsn hZ hj0 hjn hs3 htl ht hsub hn4 hac0;go_wp2_with fail
 go_quiet (fail)
 have HB9:Hid (Below u.heap.size u (u.drewN nq)):=dh (bd (Below.refl _ _) nq);have HNV:Hid ((u.drewN nq).heap[B]?=some (.cells #[.int .i64 0,.int .u64 0,.slice none 0 0,.slice none 0 0] 31 (0,0))):=dh HNU.out;have HAV:Hid (AtP P j0 c b o l it1 (u.drewN nq)):=dh HAU.out;clear r0 r1 r2 r3 q0 q1 q2 q3 y0 y1;have HSUB:Hid (BR (fun _=>True) (u.drewN nq) (some ⟨b,o,none⟩) n t):=dh (HSUB0.out.below HB9.out);generalize u.drewN nq=v at *;have HS:Hid (∀ W,Below v.heap.size v W→(fun w'=>w'.cell? ⟨P,0,none⟩=some (.slice (some ⟨b,o,none⟩) l.length c)∧w'.cell? ⟨P,1,none⟩=some (.int .i64 (j0:Int))) W):=dh fun W hW=>by
  have h:=Below.keep hW HAV.out.1 (lb HAV.out.1);have y0:=cr h 0;have y1:=cr h 1;simp at y0 y1;exact ⟨y0,y1⟩
 go_wp2_with fail
 refine wp_region_held_drew (S:=(fun w'=>w'.cell? ⟨P,0,none⟩=some (.slice (some ⟨b,o,none⟩) l.length c)∧w'.cell? ⟨P,1,none⟩=some (.int .i64 (j0:Int)))) (by kernel_rfl) (HS.out _ (Below.refl _ _).drew) (fun hHeld=>?_);refine tk 0 (v:=?_) rfl hHeld ?_ ?_;rotate_left
 ·intro W h;(try dsimp only at h);go_simp;try with_reducible rfl
 try simp only [Act.put,sx]
 refine tk 1 (v:=?_) rfl hHeld ?_ ?_;rotate_left
 ·intro W h;(try dsimp only at h);go_simp;try with_reducible rfl
 try simp only [Act.put,sx]
 refine tk 2 (v:=?_) rfl hHeld ?_ ?_;rotate_left
 ·intro W h;(try dsimp only at h);go_simp;try with_reducible rfl
 try simp only [Act.put,sx]
 refine tk 3 (v:=?_) rfl hHeld ?_ ?_;rotate_left
 ·intro W h;(try dsimp only at h);go_simp;try with_reducible rfl
 try simp only [Act.put,sx]
 refine tk 4 (v:=?_) rfl hHeld ?_ ?_;rotate_left
 ·intro W h;(try dsimp only at h);go_simp;try with_reducible rfl
 try simp only [Act.put,sx]
 refine tk 5 (v:=?_) rfl hHeld ?_ ?_;rotate_left
 ·intro W h;(try dsimp only at h);go_simp;try with_reducible rfl
 try simp only [Act.put,sx]
 refine tk 6 (v:=?_) rfl hHeld ?_ ?_;rotate_left
 ·intro W h;(try dsimp only at h);go_simp;try with_reducible rfl
 try simp only [Act.put,sx]
 refine tk 7 (v:=?_) rfl hHeld ?_ ?_;rotate_left
 ·intro W h;(try dsimp only at h);go_simp;try with_reducible rfl
 try simp only [Act.put,sx]
 refine tk 8 (v:=?_) rfl hHeld ?_ ?_;rotate_left
 ·intro W h;(try dsimp only at h);go_simp;try with_reducible rfl
 try simp only [Act.put,sx]
 refine tk 9 (v:=?_) rfl hHeld ?_ ?_;rotate_left
 ·intro W h;(try dsimp only at h);go_simp;try with_reducible rfl
 try simp only [Act.put,sx]
 refine tk 10 (v:=?_) rfl hHeld ?_ ?_;rotate_left
 ·intro W h;(try dsimp only at h);go_simp;try with_reducible rfl
 try simp only [Act.put,sx]
 refine tk 11 (v:=?_) rfl hHeld ?_ ?_;rotate_left
 ·intro W h;(try dsimp only at h);go_simp;try with_reducible rfl
 try simp only [Act.put,sx]
 refine tk 12 (v:=?_) rfl hHeld ?_ ?_;rotate_left
 ·intro W h;(try dsimp only at h);go_simp;try with_reducible rfl
 try simp only [Act.put,sx]
 refine tk 13 (v:=?_) rfl hHeld ?_ ?_;rotate_left
 ·intro W h;(try dsimp only at h);go_simp;try with_reducible rfl
 try simp only [Act.put,sx]
 refine tk 14 (v:=?_) rfl hHeld ?_ ?_;rotate_left
 ·intro W h;(try dsimp only at h);go_simp;try with_reducible rfl
 try simp only [Act.put,sx]
 refine tk 15 (v:=?_) rfl hHeld ?_ ?_;rotate_left
 ·intro W h;(try dsimp only at h);go_simp;try with_reducible rfl
 try simp only [Act.put,sx]
 refine wpAnyH_ready (rs:=[16]) (by kernel_rfl) (by simp) ?_;refine AllReadyH.cons rfl (fun K1 hK1=>?_) AllReadyH.nil;go_simp
 refine (clone_any (a:=some ⟨b,o,none⟩) (n:=n) (c:=c - j0) (x:=t) (ok:=fun _=>True) (HSUB.out.below (bd (Below.refl _ _) 1)) (by have h1:=HTL.out;have h2:=HN4.out;omega)).mono ?_;rintro e v8 h8;obtain ⟨a8,c8,rfl,_,R8,hc8,hc8m,B8⟩:=h8.open;rw [HTL.out] at R8 hc8 ⊢;have HB8:=dh (pt (bd (Below.refl v.heap.size v) 1) B8);have HR8:=dh R8;have HC8:=dh hc8;have HC8M:=dh hc8m;clear R8 B8 h8 hc8 hc8m;refine hK1.out _ _ (HS.out _ HB8.out) (fun hHeld=>?_);clear hK1
 try simp only [Act.put,sx]
 refine tk 17 (v:=?_) rfl hHeld ?_ ?_;rotate_left
 ·intro W h;(try dsimp only at h);go_simp;try with_reducible rfl
 try simp only [Act.put,sx]
 refine wpAnyH_done (by kernel_rfl) ?_ _
 try simp only [Act.put,sx]
 have hP8:=Below.keep HB8.out HAV.out.1 (lb HAV.out.1);have y1:=cr hP8 1;have f1:v8.frozen? ⟨P,1,none⟩=false:=by simp [World.frozen?,hP8]
 simp at y1;go_upto_region 18 with fail
 have HW9:Hid ((v8.setCell ⟨P,1,none⟩ (.int .i64 (jn:Int))).heap[P]?=some (.cells #[.slice (some ⟨b,o,none⟩) l.length c,.int .i64 (jn:Int),.int .i64 it1] 82 (0,0))):=dh (by have:=set_arr hP8 1 (.int .i64 (jn:Int));simpa using this);have hk9:∀ j,j≠P→(v8.setCell ⟨P,1,none⟩ (.int .i64 (jn:Int))).heap[j]?=v8.heap[j]?:=fun j hj=>Below.heap_setCell _ _ _ _ hj
 have hz9:(v8.setCell ⟨P,1,none⟩ (.int .i64 (jn:Int))).heap.size=v8.heap.size:=by simp [World.setCell]
 have HBX:Hid (But P w (v8.setCell ⟨P,1,none⟩ (.int .i64 (jn:Int)))):=dh ⟨HB8.out.os.trans (HB9.out.os.trans HBU.out.os),HB8.out.tape.trans (HB9.out.tape.trans HBU.out.tape),HB8.out.output.trans (HB9.out.output.trans HBU.out.output),by have h1:=HBU.out.size;have h2:=HB9.out.size;have h3:=HB8.out.size;rw [hz9];omega,fun j hj hne=>(hk9 j hne).trans ((HB8.out.block j (Nat.lt_of_lt_of_le (Nat.lt_of_lt_of_le hj HBU.out.size) HB9.out.size)).trans ((HB9.out.block j (Nat.lt_of_lt_of_le hj HBU.out.size)).trans (HBU.out.block j hj hne)))⟩;have HNX:Hid ((v8.setCell ⟨P,1,none⟩ (.int .i64 (jn:Int))).heap[B]?=some (.cells #[.int .i64 0,.int .u64 0,.slice none 0 0,.slice none 0 0] 31 (0,0))):=dh ((hk9 B hRP).trans (Below.keep HB8.out HNV.out (lb HNV.out)));have hBv:B + 1≤v.heap.size:=lb HNV.out;have HR9:Hid (BR (fun j=>B + 1≤j) (v8.setCell ⟨P,1,none⟩ (.int .i64 (jn:Int))) a8 n t):=dh (HR8.out.keep fun j hj hj2=>⟨hk9 j (by have h1:v.heap.size≤j:=hj;have:=HL.out;omega),by have h1:v.heap.size≤j:=hj;omega⟩);clear hk9 hz9 hP8 y1 f1 hHeld hBv;generalize v8.setCell ⟨P,1,none⟩ (.int .i64 (jn:Int))=w9 at *;obtain ⟨r0,r1,r2,r3⟩:=cf HNX.out;obtain ⟨q0,q1,q2,q3⟩:=ff HNX.out;go_wp2_with fail
 refine (valid_any (But.env HE0.out HBX.out hP1) HR9.out HC8.out true (by rw [HTT.out];exact HDD.out)).mono ?_;rintro e v10 ⟨rfl,B10⟩;have HB10:=dh B10;have HNY:=dh (Below.keep B10 HNX.out (lb HNX.out));have HBY:Hid (But P w v10):=dh ⟨B10.os.trans HBX.out.os,B10.tape.trans HBX.out.tape,B10.output.trans HBX.out.output,Nat.le_trans HBX.out.size B10.size,fun j hj hne=>(B10.block j (Nat.lt_of_lt_of_le hj HBX.out.size)).trans (HBX.out.block j hj hne)⟩;have HRY:=dh (HR9.out.below B10);clear B10 r0 r1 r2 r3 q0 q1 q2 q3;obtain ⟨r0,r1,r2,r3⟩:=cf HNY.out;obtain ⟨q0,q1,q2,q3⟩:=ff HNY.out;go_wp2_with fail
 clear r0 r1 r2 r3 q0 q1 q2 q3;obtain ⟨W',hW',hp4,hs4,hb4⟩:=pq (W:=v10) (b:=B) (HNY.out) (.int .i64 3) (.int .u64 0) (.slice a8 n c8) (.slice none 0 0);rw [hW'];clear hW';obtain ⟨g0,g1,g2,g3⟩:=cf hp4;refine bodyPost_ret (v:=.tuple #[.agg #[.int .i64 3,.int .u64 0,.slice a8 n c8,.slice none 0 0],.int .i64 0]) (by simp [results,Tryd.results42,go_sem,g0,g1,g2,g3]) rfl ?_;have hz:=hb4 0 v10 (Below.refl 0 v10) (Nat.zero_le _);have HBW:But P w W':=⟨hz.os.trans HBY.out.os,hz.tape.trans HBY.out.tape,hz.output.trans HBY.out.output,by have:=HBY.out.size;rw [hs4.1];exact this,fun j hj hne=>(hs4.2 j (by omega)).trans (HBY.out.block j hj hne)⟩;have hq:it1=256 - ((255 - it.toNat:Nat):Int):=by rw [HIT.out];omega
 rw [← HTT.out];refine ⟨HBW,⟨a8,n,c8,none,0,0⟩,rfl,IR_iff.2 ⟨by show 0 < _;omega,⟨(HRY.out.keep fun j hj _=>⟨hs4.2 j (by have h1:B + 1≤j:=hj;omega),by have h1:B + 1≤j:=hj;show w.heap.size≤j;omega⟩),HC8.out,HC8M.out⟩,TL.nil _ _ _,by simp,by simp⟩,jn,⟨(hs4.2 P (by omega)).trans (by rw [Below.keep HB10.out HW9.out (lb HW9.out),hq]),HJN.out.2⟩,?_⟩;rw [HRJ.out,List.drop_drop,← HJN.out.1]
set_option maxHeartbeats 8000000 in
theorem pitem_by3a_false (P k c b o fb n:Nat) (l r:List UInt8) (it lv:Int) (w:World) (hA:AtP P k c b o l it w) (hR:BR (fun b=>b≠P) w (some ⟨b,o,none⟩) l.length l) (hc:l.length≤c) (hN:l.length≤4096) (hi:0≤it) (hi2:it < 256) (hr:It.readHead (l.drop k)=.ok fb n r) (hfb:fb < 256) (hnb:n < 18446744073709551616) (h5n:fb / 32=3) (hsh:¬ r.length < n) (hac:∀ j,r=l.drop j→j≤l.length→¬ c=j) (hE:Env w) (hP1:1 < P) (hd:Lib.validD (r.take n)=false):
 Calls Tryd.prog 42 #[.pointer (some ⟨P,0,none⟩),.int .i64 lv] w (ParP P c b o l w (.err 5)):=by
 have P0:=al w (.cells #[.int .i64 0,.int .u64 0,.slice none 0 0,.slice none 0 0] 31);have N0:=aw w (.cells #[.int .i64 0,.int .u64 0,.slice none 0 0,.slice none 0 0] 31);have hP1:=Below.keep P0 hA.1 (lb hA.1);have HK:=hA.2;have hPl:=lb hA.1;have x2:=cr hP1 2;have f2:(w.alloc (.cells #[.int .i64 0,.int .u64 0,.slice none 0 0,.slice none 0 0] 31)).frozen? ⟨P,2,none⟩=false:=by simp [World.frozen?,hP1]
 simp at x2;have hit:¬ it=256:=by omega
 have hitb:(it==256)=false:=by simpa using hit
 obtain ⟨it1,hit1⟩:∃ it1,it1=it + 1:=⟨_,rfl⟩;have hw:IntKind.i64.wrap (it + 1)=it1:=by rw [hit1];exact IntWalk.i64_in _ (by omega)
 have hR1:=hR.below P0;have HP0:=dh P0;have HN0:=dh N0;have HA1:=dh hP1;have HR1:=dh hR1;have HL:=dh hPl;clear hA hR P0 N0 hP1 hR1 hPl;go_enter Tryd.func42,Tryd.ntmps42
 go_upto_region 1 with fail
 generalize hw1:w.alloc (.cells #[.int .i64 0,.int .u64 0,.slice none 0 0,.slice none 0 0] 31)=w1 at *;clear hw1;have HA2:Hid (AtP P k c b o l it1 (w1.setCell ⟨P,2,none⟩ (.int .i64 it1))):=dh ⟨by have:=set_arr HA1.out 2 (.int .i64 it1);simpa using this,HK⟩;have HR2:Hid (BR (fun b=>b≠P) (w1.setCell ⟨P,2,none⟩ (.int .i64 it1)) (some ⟨b,o,none⟩) l.length l):=dh (HR1.out.keep fun j hj _=>⟨Below.heap_setCell _ _ _ _ hj,hj⟩);have HC:=dh (phead_any P k c b o l it1 _ HA2.out HR2.out hc hN);have hRP:w.heap.size≠P:=by have:=HL.out;omega
 have HR9:Hid ((w1.setCell ⟨P,2,none⟩ (.int .i64 it1)).heap[w.heap.size]?=some (.cells #[.int .i64 0,.int .u64 0,.slice none 0 0,.slice none 0 0] 31 (0,0))):=dh ((Below.heap_setCell _ _ _ _ hRP).trans HN0.out);have HB2:Hid (But P w (w1.setCell ⟨P,2,none⟩ (.int .i64 it1))):=dh ⟨HP0.out.os,HP0.out.tape,HP0.out.output,by have:=HP0.out.size;simpa [World.setCell] using this,fun j hj hne=>(Below.heap_setCell _ _ _ _ (by show j≠P;exact hne)).trans (HP0.out.block j hj)⟩;rw [hr] at HC;have HIT:=dh hit1;clear hit1;obtain ⟨FB,hFB⟩:∃ FB:Int,FB=fb:=⟨_,rfl⟩;obtain ⟨NN,hNN⟩:∃ NN:Int,NN=n:=⟨_,rfl⟩;have h5:FB / 32=3:=by rw [hFB];omega
 have wk1:IntKind.u8.wrap 3=3:=by show 3 % 256=3;omega
 have wk2:IntKind.i64.wrap 3=3:=IntWalk.i64_in _ (by omega);have HSH:=dh hsh;have HACJ:=dh hac;clear hsh hac;have HE0:=dh hE;have HDD:=dh hd;clear hE hd;have HNN:=dh (And.intro hFB hNN);have HC':Hid (Calls Tryd.prog 66 #[.pointer (some ⟨P,0,none⟩)] (w1.setCell ⟨P,2,none⟩ (.int .i64 it1)) fun e w'=>But P (w1.setCell ⟨P,2,none⟩ (.int .i64 it1)) w'∧e=.returned (.tuple #[.int .u8 FB,.int .u64 NN,.int .i64 0])∧∃ j,AtP P j c b o l it1 w'∧r=l.drop j):=dh (by rw [hFB,hNN];exact HC.out);have HNB:=dh hnb;clear HC hFB hNN hr hnb;go_wp2_with fail
 refine HC'.out.mono ?_;rintro e u ⟨hB,rfl,j0,hAu,hrj⟩;have hn:=(hB.block _ (lb HR9.out) hRP).trans HR9.out;have HBU:Hid (But P w u):=dh ⟨hB.os.trans HB2.out.os,hB.tape.trans HB2.out.tape,hB.output.trans HB2.out.output,Nat.le_trans HB2.out.size hB.size,fun j hj hne=>(hB.block j (Nat.lt_of_lt_of_le hj HB2.out.size) hne).trans (HB2.out.block j hj hne)⟩;have HRU:Hid (BR (fun b=>b≠P) u (some ⟨b,o,none⟩) l.length l):=dh (HR2.out.keep fun j hj hj2=>⟨hB.block j hj2 hj,hj⟩);have HNU:=dh hn;have HAU:=dh hAu;have HRJ:=dh hrj;obtain ⟨r0,r1,r2,r3⟩:=cf HNU.out;obtain ⟨q0,q1,q2,q3⟩:=ff HNU.out;clear hB hn x2 f2 hAu hrj;generalize hBq:w.heap.size=B at *;have hac:=HACJ.out j0 HRJ.out HAU.out.2;have hnn:=HNN.out.2;subst hnn;have hlj:r.length=l.length - j0:=by rw [HRJ.out,List.length_drop]
 have hj0:=HAU.out.2;have y0:=cr HAU.out.1 0;have y1:=cr HAU.out.1 1;simp at y0 y1;obtain ⟨Z,hZ⟩:∃ Z:Int,Z=(l.length:Int) - (j0:Int):=⟨_,rfl⟩;have hz1:IntKind.i64.wrap ((l.length:Int) - (j0:Int))=Z:=by rw [hZ];exact IntWalk.i64_in _ (by omega)
 have hz2:IntKind.u64.wrap Z=Z:=by show Z % 18446744073709551616=Z;omega
 have hsn:=HSH.out;have hgt:decide (Z < (n:Int))=false:=decide_eq_false (by omega);have hgt2:¬ Z < (n:Int):=by omega
 have hn4:n≤4096:=by omega
 obtain ⟨jn,hjn⟩:∃ jn,jn=j0 + n:=⟨_,rfl⟩;have hwj:IntKind.i64.wrap ((j0:Int) + (n:Int))=(jn:Int):=by rw [IntWalk.i64_in _ (by omega),hjn];omega
 have hwn:IntKind.i64.wrap (n:Int)=(n:Int):=IntWalk.i64_in _ (by omega);have hs1:j0≤jn:=by omega
 have hs2:jn≤c:=by omega
 have hs3:jn≤l.length:=by omega
 have hdn:jn - j0=n:=by omega
 obtain ⟨t,ht⟩:∃ t,t=r.take n:=⟨_,rfl⟩;have htl:t.length=n:=by rw [ht,List.length_take];omega
 have hsub:BR (fun _=>True) u (some ⟨b,o + j0,none⟩) n t:=by
  refine ⟨htl.symm,by omega,fun i hi=>?_⟩;obtain ⟨b',o',e,_,h⟩:=HRU.out.2.2 (j0 + i) (by omega);cases e
  refine ⟨_,_,rfl,trivial,?_⟩;have e2:t[i]=l[j0 + i]'(by omega):=by subst ht;simp [HRJ.out]
  rw [e2,Nat.add_assoc];exact h
 have HSUB0:=dh hsub;have HTL:=dh htl;have HTT:=dh ht;have HJN:=dh (And.intro hjn hs3);have HN4:=dh hn4;clear hlj hsn hZ hj0 hjn hs3 htl ht hsub hn4;go_wp2_with fail
 go_quiet (fail)
 have HB9:Hid (Below u.heap.size u (u.drewN nq)):=dh (bd (Below.refl _ _) nq);have HNV:Hid ((u.drewN nq).heap[B]?=some (.cells #[.int .i64 0,.int .u64 0,.slice none 0 0,.slice none 0 0] 31 (0,0))):=dh HNU.out;have HAV:Hid (AtP P j0 c b o l it1 (u.drewN nq)):=dh HAU.out;clear r0 r1 r2 r3 q0 q1 q2 q3 y0 y1;have HSUB:Hid (BR (fun _=>True) (u.drewN nq) (some ⟨b,o + j0,none⟩) n t):=dh (HSUB0.out.below HB9.out);generalize u.drewN nq=v at *;have HS:Hid (∀ W,Below v.heap.size v W→(fun w'=>w'.cell? ⟨P,0,none⟩=some (.slice (some ⟨b,o,none⟩) l.length c)∧w'.cell? ⟨P,1,none⟩=some (.int .i64 (j0:Int))) W):=dh fun W hW=>by
  have h:=Below.keep hW HAV.out.1 (lb HAV.out.1);have y0:=cr h 0;have y1:=cr h 1;simp at y0 y1;exact ⟨y0,y1⟩
 go_wp2_with fail
 refine wp_region_held_drew (S:=(fun w'=>w'.cell? ⟨P,0,none⟩=some (.slice (some ⟨b,o,none⟩) l.length c)∧w'.cell? ⟨P,1,none⟩=some (.int .i64 (j0:Int)))) (by kernel_rfl) (HS.out _ (Below.refl _ _).drew) (fun hHeld=>?_);refine tk 0 (v:=?_) rfl hHeld ?_ ?_;rotate_left
 ·intro W h;(try dsimp only at h);go_simp;try with_reducible rfl
 try simp only [Act.put,sx]
 refine tk 1 (v:=?_) rfl hHeld ?_ ?_;rotate_left
 ·intro W h;(try dsimp only at h);go_simp;try with_reducible rfl
 try simp only [Act.put,sx]
 refine tk 2 (v:=?_) rfl hHeld ?_ ?_;rotate_left
 ·intro W h;(try dsimp only at h);go_simp;try with_reducible rfl
 try simp only [Act.put,sx]
 refine tk 3 (v:=?_) rfl hHeld ?_ ?_;rotate_left
 ·intro W h;(try dsimp only at h);go_simp;try with_reducible rfl
 try simp only [Act.put,sx]
 refine tk 4 (v:=?_) rfl hHeld ?_ ?_;rotate_left
 ·intro W h;(try dsimp only at h);go_simp;try with_reducible rfl
 try simp only [Act.put,sx]
 refine tk 5 (v:=?_) rfl hHeld ?_ ?_;rotate_left
 ·intro W h;(try dsimp only at h);go_simp;try with_reducible rfl
 try simp only [Act.put,sx]
 refine tk 6 (v:=?_) rfl hHeld ?_ ?_;rotate_left
 ·intro W h;(try dsimp only at h);go_simp;try with_reducible rfl
 try simp only [Act.put,sx]
 refine tk 7 (v:=?_) rfl hHeld ?_ ?_;rotate_left
 ·intro W h;(try dsimp only at h);go_simp;try with_reducible rfl
 try simp only [Act.put,sx]
 refine tk 8 (v:=?_) rfl hHeld ?_ ?_;rotate_left
 ·intro W h;(try dsimp only at h);go_simp;try with_reducible rfl
 try simp only [Act.put,sx]
 refine tk 9 (v:=?_) rfl hHeld ?_ ?_;rotate_left
 ·intro W h;(try dsimp only at h);go_simp;try with_reducible rfl
 try simp only [Act.put,sx]
 refine tk 10 (v:=?_) rfl hHeld ?_ ?_;rotate_left
 ·intro W h;(try dsimp only at h);go_simp;try with_reducible rfl
 try simp only [Act.put,sx]
 refine tk 11 (v:=?_) rfl hHeld ?_ ?_;rotate_left
 ·intro W h;(try dsimp only at h);go_simp;try with_reducible rfl
 try simp only [Act.put,sx]
 refine tk 12 (v:=?_) rfl hHeld ?_ ?_;rotate_left
 ·intro W h;(try dsimp only at h);go_simp;try with_reducible rfl
 try simp only [Act.put,sx]
 refine tk 13 (v:=?_) rfl hHeld ?_ ?_;rotate_left
 ·intro W h;(try dsimp only at h);go_simp;try with_reducible rfl
 try simp only [Act.put,sx]
 refine tk 14 (v:=?_) rfl hHeld ?_ ?_;rotate_left
 ·intro W h;(try dsimp only at h);go_simp;try with_reducible rfl
 try simp only [Act.put,sx]
 refine tk 15 (v:=?_) rfl hHeld ?_ ?_;rotate_left
 ·intro W h;(try dsimp only at h);go_simp;try with_reducible rfl
 try simp only [Act.put,sx]
 refine wpAnyH_ready (rs:=[16]) (by kernel_rfl) (by simp) ?_;refine AllReadyH.cons rfl (fun K1 hK1=>?_) AllReadyH.nil;go_simp
 refine (clone_any (a:=some ⟨b,o + j0,none⟩) (n:=n) (c:=c - j0) (x:=t) (ok:=fun _=>True) (HSUB.out.below (bd (Below.refl _ _) 1)) (by have h1:=HTL.out;have h2:=HN4.out;omega)).mono ?_;rintro e v8 h8;obtain ⟨a8,c8,rfl,_,R8,hc8,hc8m,B8⟩:=h8.open;rw [HTL.out] at R8 hc8 ⊢;have HB8:=dh (pt (bd (Below.refl v.heap.size v) 1) B8);have HR8:=dh R8;have HC8:=dh hc8;have HC8M:=dh hc8m;clear R8 B8 h8 hc8 hc8m;refine hK1.out _ _ (HS.out _ HB8.out) (fun hHeld=>?_);clear hK1
 try simp only [Act.put,sx]
 refine tk 17 (v:=?_) rfl hHeld ?_ ?_;rotate_left
 ·intro W h;(try dsimp only at h);go_simp;try with_reducible rfl
 try simp only [Act.put,sx]
 refine wpAnyH_done (by kernel_rfl) ?_ _
 try simp only [Act.put,sx]
 have hP8:=Below.keep HB8.out HAV.out.1 (lb HAV.out.1);have y1:=cr hP8 1;have f1:v8.frozen? ⟨P,1,none⟩=false:=by simp [World.frozen?,hP8]
 simp at y1;go_upto_region 18 with fail
 have HW9:Hid ((v8.setCell ⟨P,1,none⟩ (.int .i64 (jn:Int))).heap[P]?=some (.cells #[.slice (some ⟨b,o,none⟩) l.length c,.int .i64 (jn:Int),.int .i64 it1] 82 (0,0))):=dh (by have:=set_arr hP8 1 (.int .i64 (jn:Int));simpa using this);have hk9:∀ j,j≠P→(v8.setCell ⟨P,1,none⟩ (.int .i64 (jn:Int))).heap[j]?=v8.heap[j]?:=fun j hj=>Below.heap_setCell _ _ _ _ hj
 have hz9:(v8.setCell ⟨P,1,none⟩ (.int .i64 (jn:Int))).heap.size=v8.heap.size:=by simp [World.setCell]
 have HBX:Hid (But P w (v8.setCell ⟨P,1,none⟩ (.int .i64 (jn:Int)))):=dh ⟨HB8.out.os.trans (HB9.out.os.trans HBU.out.os),HB8.out.tape.trans (HB9.out.tape.trans HBU.out.tape),HB8.out.output.trans (HB9.out.output.trans HBU.out.output),by have h1:=HBU.out.size;have h2:=HB9.out.size;have h3:=HB8.out.size;rw [hz9];omega,fun j hj hne=>(hk9 j hne).trans ((HB8.out.block j (Nat.lt_of_lt_of_le (Nat.lt_of_lt_of_le hj HBU.out.size) HB9.out.size)).trans ((HB9.out.block j (Nat.lt_of_lt_of_le hj HBU.out.size)).trans (HBU.out.block j hj hne)))⟩;have HNX:Hid ((v8.setCell ⟨P,1,none⟩ (.int .i64 (jn:Int))).heap[B]?=some (.cells #[.int .i64 0,.int .u64 0,.slice none 0 0,.slice none 0 0] 31 (0,0))):=dh ((hk9 B hRP).trans (Below.keep HB8.out HNV.out (lb HNV.out)));have hBv:B + 1≤v.heap.size:=lb HNV.out;have HR9:Hid (BR (fun j=>B + 1≤j) (v8.setCell ⟨P,1,none⟩ (.int .i64 (jn:Int))) a8 n t):=dh (HR8.out.keep fun j hj hj2=>⟨hk9 j (by have h1:v.heap.size≤j:=hj;have:=HL.out;omega),by have h1:v.heap.size≤j:=hj;omega⟩);clear hk9 hz9 hP8 y1 f1 hHeld hBv;generalize v8.setCell ⟨P,1,none⟩ (.int .i64 (jn:Int))=w9 at *;obtain ⟨r0,r1,r2,r3⟩:=cf HNX.out;obtain ⟨q0,q1,q2,q3⟩:=ff HNX.out;go_wp2_with fail
 refine (valid_any (But.env HE0.out HBX.out hP1) HR9.out HC8.out false (by rw [HTT.out];exact HDD.out)).mono ?_;rintro e v10 ⟨rfl,B10⟩;have HB10:=dh B10;have HNY:=dh (Below.keep B10 HNX.out (lb HNX.out));have HBY:Hid (But P w v10):=dh ⟨B10.os.trans HBX.out.os,B10.tape.trans HBX.out.tape,B10.output.trans HBX.out.output,Nat.le_trans HBX.out.size B10.size,fun j hj hne=>(B10.block j (Nat.lt_of_lt_of_le hj HBX.out.size)).trans (HBX.out.block j hj hne)⟩;have HRY:=dh (HR9.out.below B10);clear B10 r0 r1 r2 r3 q0 q1 q2 q3;obtain ⟨r0,r1,r2,r3⟩:=cf HNY.out;obtain ⟨q0,q1,q2,q3⟩:=ff HNY.out;go_wp2_with fail
 clear r0 r1 r2 r3 q0 q1 q2 q3;obtain ⟨W',hW',hp4,hs4,hb4⟩:=pq (W:=v10) (b:=B) (HNY.out) (.int .i64 0) (.int .u64 0) (.slice none 0 0) (.slice none 0 0);rw [hW'];clear hW';obtain ⟨g0,g1,g2,g3⟩:=cf hp4;refine bodyPost_ret (v:=.tuple #[.agg #[.int .i64 0,.int .u64 0,.slice none 0 0,.slice none 0 0],.int .i64 5]) (by simp [results,Tryd.results42,go_sem,g0,g1,g2,g3]) rfl ?_;have hz:=hb4 0 v10 (Below.refl 0 v10) (Nat.zero_le _);have HBW:But P w W':=⟨hz.os.trans HBY.out.os,hz.tape.trans HBY.out.tape,hz.output.trans HBY.out.output,by have:=HBY.out.size;rw [hs4.1];exact this,fun j hj hne=>(hs4.2 j (by omega)).trans (HBY.out.block j hj hne)⟩;exact ⟨HBW,rfl⟩
end Go.Proofs.YtelefkkkccilaaaDoor
