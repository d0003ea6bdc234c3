/- The parser's item 106: a map; and what it reads, whatever the levels. -/
import Derived.Test.YtelefkkkccilaaaDoorZv
set_option linter.unusedVariables false
set_option linter.unusedSimpArgs false
namespace Go.Proofs.YtelefkkkccilaaaDoor
open Go.RowKit
set_option maxRecDepth 100000
set_option maxHeartbeats 8000000 in
theorem pitem_5 (P k c b o fb n:Nat) (l r:List UInt8) (it lv:Int) (w:World) (hA:AtP P k c b o l it w) (hR:BR (fun b=>b≠P) w (some ⟨b,o,none⟩) l.length l) (hc:l.length≤c) (hN:l.length≤4096) (hi:0≤it) (hi2:it < 256) (hr:It.readHead (l.drop k)=.ok fb n r) (hfb:fb < 256) (hnb:n < 18446744073709551616) (h5n:fb / 32=5) (d:Nat) (hd:d < 8) (hlv:lv=7 - (d:Int)) (hPC:ParC d) (hP1:1 < P) (hE:Env w) (R:It.PR (List It)) (hR0:It.prsN (It.item d) none n (255 - it.toNat) r=R):
 Calls Tryd.prog 42 #[.pointer (some ⟨P,0,none⟩),.int .i64 lv] w (ParP P c b o l w (R.map fun x=>.mk 5 0 [] x)):=by
 have P0:=al w (.cells #[.int .i64 0,.int .u64 0,.slice none 0 0,.slice none 0 0] 31);have N0:=aw w (.cells #[.int .i64 0,.int .u64 0,.slice none 0 0,.slice none 0 0] 31);have hP1:=Below.keep P0 hA.1 (lb hA.1);have HK:=hA.2;have hPl:=lb hA.1;have x2:=cr hP1 2;have f2:(w.alloc (.cells #[.int .i64 0,.int .u64 0,.slice none 0 0,.slice none 0 0] 31)).frozen? ⟨P,2,none⟩=false:=by simp [World.frozen?,hP1]
 simp at x2;have hit:¬ it=256:=by omega
 have hitb:(it==256)=false:=by simpa using hit
 obtain ⟨it1,hit1⟩:∃ it1,it1=it + 1:=⟨_,rfl⟩;have hw:IntKind.i64.wrap (it + 1)=it1:=by rw [hit1];exact IntWalk.i64_in _ (by omega)
 have hR1:=hR.below P0;have HP0:=dh P0;have HN0:=dh N0;have HA1:=dh hP1;have HR1:=dh hR1;have HL:=dh hPl;clear hA hR P0 N0 hP1 hR1 hPl;go_enter Tryd.func42,Tryd.ntmps42
 go_upto_region 1 with fail
 generalize hw1:w.alloc (.cells #[.int .i64 0,.int .u64 0,.slice none 0 0,.slice none 0 0] 31)=w1 at *;clear hw1;have HA2:Hid (AtP P k c b o l it1 (w1.setCell ⟨P,2,none⟩ (.int .i64 it1))):=dh ⟨by have:=set_arr HA1.out 2 (.int .i64 it1);simpa using this,HK⟩;have HR2:Hid (BR (fun b=>b≠P) (w1.setCell ⟨P,2,none⟩ (.int .i64 it1)) (some ⟨b,o,none⟩) l.length l):=dh (HR1.out.keep fun j hj _=>⟨Below.heap_setCell _ _ _ _ hj,hj⟩);have HC:=dh (phead_any P k c b o l it1 _ HA2.out HR2.out hc hN);have hRP:w.heap.size≠P:=by have:=HL.out;omega
 have HR9:Hid ((w1.setCell ⟨P,2,none⟩ (.int .i64 it1)).heap[w.heap.size]?=some (.cells #[.int .i64 0,.int .u64 0,.slice none 0 0,.slice none 0 0] 31 (0,0))):=dh ((Below.heap_setCell _ _ _ _ hRP).trans HN0.out);have HB2:Hid (But P w (w1.setCell ⟨P,2,none⟩ (.int .i64 it1))):=dh ⟨HP0.out.os,HP0.out.tape,HP0.out.output,by have:=HP0.out.size;simpa [World.setCell] using this,fun j hj hne=>(Below.heap_setCell _ _ _ _ (by show j≠P;exact hne)).trans (HP0.out.block j hj)⟩;rw [hr] at HC;have HIT:=dh hit1;clear hit1;obtain ⟨FB,hFB⟩:∃ FB:Int,FB=fb:=⟨_,rfl⟩;obtain ⟨NN,hNN⟩:∃ NN:Int,NN=n:=⟨_,rfl⟩;have h5:FB / 32=5:=by rw [hFB];omega
 have wk1:IntKind.u8.wrap 5=5:=by show 5 % 256=5;omega
 have wk2:IntKind.i64.wrap 5=5:=IntWalk.i64_in _ (by omega);have HPC:=dh hPC;have HP1:=dh hP1;have HE0:=dh hE;have HIR0:=dh hR0;have HLV:=dh (And.intro hlv hd);clear hPC hP1 hE hR0 hlv hd;have HNN:=dh (And.intro hFB hNN);have HC':Hid (Calls Tryd.prog 66 #[.pointer (some ⟨P,0,none⟩)] (w1.setCell ⟨P,2,none⟩ (.int .i64 it1)) fun e w'=>But P (w1.setCell ⟨P,2,none⟩ (.int .i64 it1)) w'∧e=.returned (.tuple #[.int .u8 FB,.int .u64 NN,.int .i64 0])∧∃ j,AtP P j c b o l it1 w'∧r=l.drop j):=dh (by rw [hFB,hNN];exact HC.out);have HNB:=dh hnb;clear HC hFB hNN hr hnb;go_wp2_with fail
 refine HC'.out.mono ?_;rintro e u ⟨hB,rfl,j0,hAu,hrj⟩;have hn:=(hB.block _ (lb HR9.out) hRP).trans HR9.out;have HBU:Hid (But P w u):=dh ⟨hB.os.trans HB2.out.os,hB.tape.trans HB2.out.tape,hB.output.trans HB2.out.output,Nat.le_trans HB2.out.size hB.size,fun j hj hne=>(hB.block j (Nat.lt_of_lt_of_le hj HB2.out.size) hne).trans (HB2.out.block j hj hne)⟩;have HRU:Hid (BR (fun b=>b≠P) u (some ⟨b,o,none⟩) l.length l):=dh (HR2.out.keep fun j hj hj2=>⟨hB.block j hj2 hj,hj⟩);have HNU:=dh hn;have HAU:=dh hAu;have HRJ:=dh hrj;obtain ⟨r0,r1,r2,r3⟩:=cf HNU.out;obtain ⟨q0,q1,q2,q3⟩:=ff HNU.out;clear hB hn x2 f2 hAu hrj;generalize hBq:w.heap.size=B at *;have hlv1:=HLV.out.1;have hlv2:=HLV.out.2;obtain ⟨lw,hlw⟩:∃ lw:Int,lw=lv + 1:=⟨_,rfl⟩;have hwl:IntKind.i64.wrap (lv + 1)=lw:=by rw [hlw];exact IntWalk.i64_in _ (by omega)
 have hlg:¬ 8≤lv:=by omega
 have hlgb:decide (8≤lv)=false:=decide_eq_false hlg;have HLW:Hid (lw=8 - (d:Int)):=dh (by omega);clear hlw hlv1 hlv2;have hP1:=HP1.out;have hE2:=But.env HE0.out HBU.out hP1;have HCp:=dh (ppairs P j0 c b o l (255 - it.toNat) n it1 lw u HAU.out HRU.out hc hN (by rw [HIT.out];omega) (by omega) HNB.out d HLW.out HPC.out hP1 hE2 R (by rw [← HRJ.out];exact HIR0.out));rw [← HNN.out.2] at HCp;clear hP1 hE2 r0 r1 r2 r3 q0 q1 q2 q3;go_wp2_with fail
 refine HCp.out.mono ?_;rintro e v ⟨hB9,h9⟩;have HNV:=dh ((hB9.block B (lb HNU.out) hRP).trans HNU.out);have HBV:Hid (But P w v):=dh (bt HBU.out hB9);have HSU:Hid (w.heap.size≤u.heap.size∧B < u.heap.size∧P≠B):=dh ⟨HBU.out.size,lb HNU.out,fun e=>hRP e.symm⟩;clear hB9 HCp;obtain ⟨r0,r1,r2,r3⟩:=cf HNV.out;obtain ⟨q0,q1,q2,q3⟩:=ff HNV.out;cases R with
 | err er=>
  obtain rfl:=h9;go_wp2_with fail
  clear r0 r1 r2 r3 q0 q1 q2 q3;obtain ⟨W',hW',hp4,hs4,hb4⟩:=pq (W:=v) (b:=B) (HNV.out) (.int .i64 0) (.int .u64 0) (.slice none 0 0) (.slice none 0 0);rw [hW'];clear hW';obtain ⟨g0,g1,g2,g3⟩:=cf hp4;refine bodyPost_ret (v:=.tuple #[.agg #[.int .i64 0,.int .u64 0,.slice none 0 0,.slice none 0 0],.int .i64 (er:Int)]) (by simp [results,Tryd.results42,go_sem,g0,g1,g2,g3]) rfl ?_;have hz:=hb4 0 v (Below.refl 0 v) (Nat.zero_le _);have HBW:But P w W':=⟨hz.os.trans HBV.out.os,hz.tape.trans HBV.out.tape,hz.output.trans HBV.out.output,by have:=HBV.out.size;rw [hs4.1];exact this,fun j hj hne=>(hs4.2 j (by omega)).trans (HBV.out.block j hj hne)⟩;exact ⟨HBW,rfl⟩
 | ok ks f9 s9=>
  obtain ⟨A,he,hIR,j1,hA1,hs1⟩:=h9;have he':e=.returned (.tuple #[.agg #[.int .i64 5,.int .u64 0,.slice A.ab A.nb A.cb,.slice A.ai A.ni A.ci],.int .i64 0]):=he;clear he;subst he';have HIR:=dh hIR;have HA1:=dh hA1;have HS1:=dh hs1;clear hIR hA1 hs1;go_wp2_with fail
  clear r0 r1 r2 r3 q0 q1 q2 q3;obtain ⟨W',hW',hp4,hs4,hb4⟩:=pq (W:=v) (b:=B) (HNV.out) (.int .i64 5) (.int .u64 0) (.slice A.ab A.nb A.cb) (.slice A.ai A.ni A.ci);rw [hW'];clear hW';obtain ⟨g0,g1,g2,g3⟩:=cf hp4;refine bodyPost_ret (v:=.tuple #[.agg #[.int .i64 5,.int .u64 0,.slice A.ab A.nb A.cb,.slice A.ai A.ni A.ci],.int .i64 0]) (by simp [results,Tryd.results42,go_sem,g0,g1,g2,g3]) rfl ?_;have hz:=hb4 0 v (Below.refl 0 v) (Nat.zero_le _);have HBW:But P w W':=⟨hz.os.trans HBV.out.os,hz.tape.trans HBV.out.tape,hz.output.trans HBV.out.output,by have:=HBV.out.size;rw [hs4.1];exact this,fun j hj hne=>(hs4.2 j (by omega)).trans (HBV.out.block j hj hne)⟩;have hzz:=HSU.out;exact ⟨HBW,A,rfl,HIR.out.keep (fun q hq _=>⟨hs4.2 q (by have h1:u.heap.size≤q:=hq;omega),by have h1:u.heap.size≤q:=hq;show w.heap.size≤q;omega⟩),j1,⟨(hs4.2 P hzz.2.2).trans HA1.out.1,HA1.out.2⟩,HS1.out⟩
namespace It
theorem item_list {d f c n:Nat} {s r:List UInt8} (h:readHead s=.ok c n r) (hk:c / 32=4):item (d + 1) (f + 1) s=(seqN (item d) n f r).map (mk 4 0 [] ·):=by
 conv=>lhs;unfold item step
 simp only [h];rw [if_neg (by omega),if_neg (by omega),if_neg (by omega),if_neg (by omega),if_neg (by omega)]
theorem item_map {d f c n:Nat} {s r:List UInt8} (h:readHead s=.ok c n r) (hk:c / 32=5):item (d + 1) (f + 1) s=(prsN (item d) .none n f r).map (mk 5 0 [] ·):=by
 conv=>lhs;unfold item step
 simp only [h];rw [if_neg (by omega),if_neg (by omega),if_neg (by omega),if_pos hk]
theorem item_tag {d f c n:Nat} {s r:List UInt8} (h:readHead s=.ok c n r) (hk:c / 32=6):item (d + 1) (f + 1) s=(item d f r).map fun x=>mk 6 n [] [x]:=by
 conv=>lhs;unfold item step
 simp only [h];rw [if_neg (by omega),if_neg (by omega),if_neg (by omega),if_neg (by omega),if_pos hk]
end It
theorem par_any:∀ d,d≤8→ParC d
 | 0,_=>fun P k c b o l f it lv w hA hR hc hN hit hf hlv hP1 hE=>par_leaf 0 P k c b o l f it lv w hA hR hc hN hit hf hlv hP1 hE fun _ _ _ _ _=>rfl
 | d + 1,hd=>fun P k c b o l f it lv w hA hR hc hN hit hf hlv hP1 hE=>by
  have ih:=par_any d (by omega);cases f with
  | zero=>
   rw [item_zero];have:it=256:=by omega
   subst this;exact (pitem_full P k c b o l lv w hA).mono fun e w' h=>⟨h.1,h.2⟩
  | succ f=>
   have hi:0≤it:=by omega
   have hi2:it < 256:=by omega
   have hft:255 - it.toNat=f:=by omega
   cases hr:It.readHead (l.drop k) with
   | err er=>exact par_leaf (d + 1) P k c b o l (f + 1) it lv w hA hR hc hN hit hf hlv hP1 hE fun fb n r hr' _=>by rw [hr] at hr';cases hr'
   | ok fb n r=>
    obtain ⟨b1,b2,b3,b4⟩:=readHead_bounds hr;by_cases h4:fb / 32=4
    ·rw [It.item_list hr h4]
     exact pitem_4 P k c b o fb n l r it lv w hA hR hc hN hi hi2 hr b1 b4 h4 d (by omega) (by omega) ih hP1 hE _ (by rw [hft])
    by_cases h5:fb / 32=5
    ·rw [It.item_map hr h5]
     exact pitem_5 P k c b o fb n l r it lv w hA hR hc hN hi hi2 hr b1 b4 h5 d (by omega) (by omega) ih hP1 hE _ (by rw [hft])
    by_cases h6:fb / 32=6
    ·rw [It.item_tag hr h6]
     exact pitem_6 P k c b o fb n l r it lv w hA hR hc hN hi hi2 hr b1 b4 h6 d (by omega) (by omega) ih hP1 hE _ (by rw [hft]) fun er h=>It.item_errs _ _ _ _ h
    exact par_leaf (d + 1) P k c b o l (f + 1) it lv w hA hR hc hN hit hf hlv hP1 hE fun fb' n' r' hr' h=>by rw [hr] at hr';cases hr';omega
end Go.Proofs.YtelefkkkccilaaaDoor
