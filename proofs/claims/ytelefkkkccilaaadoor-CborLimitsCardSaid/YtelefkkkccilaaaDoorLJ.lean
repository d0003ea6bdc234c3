/- The reference's look at every item, and which items it calls valid. Valid and Encode, of the program and of the reference. The reference's copies of items. Items of numbers, bytes and texts; a deck's numbers. The program's numbers. -/
import Derived.Test.YtelefkkkccilaaaDoorXe
import Derived.Test.YtelefkkkccilaaaDoorXf
import Derived.Test.YtelefkkkccilaaaDoorLC
import Derived.Test.YtelefkkkccilaaaDoorLE
import Derived.Lib.ConvBytes
import Derived.Test.YtelefkkkccilaaaDoorLA
set_option linter.unusedVariables false
set_option linter.unusedSimpArgs false
namespace Go.Proofs.YtelefkkkccilaaaDoor
open Go.RowKit
set_option maxRecDepth 100000
theorem okS_false {d n:Nat} {x:It} (h:It.wf d x=true→It.st x=true→It.nodes x≤n→False):It.okS d x n=false:=by
 rw [Bool.eq_false_iff];intro h1;unfold It.okS at h1;simp only [Bool.and_eq_true,decide_eq_true_eq] at h1;exact h h1.1.1 h1.1.2 h1.2
theorem LP.no {d n:Nat} {x:It} {w:World} {e:Ending} {w':World} (h:LP (-1) w e w') (hr:It.wf d x=true→It.st x=true→It.nodes x≤n→False):LP (It.leftP d x n) w e w':=by
 rw [It.leftP_no (okS_false hr)];exact h
theorem LP.one {d n:Nat} {k:Int} {nn:Nat} {b:List UInt8} {w:World} {e:Ending} {w':World} (h:LP ((n:Int) - 1) w e w') (hw:It.wf d (.mk k nn b [])=true) (hb:b.length≤4096) (hn:1≤n):LP (It.leftP d (.mk k nn b []) n) w e w':=by
 have hs:It.okS d (.mk k nn b []) n=true:=by
  unfold It.okS;rw [hw,show It.st (.mk k nn b [])=(decide (b.length≤4096) && true) from rfl,decide_eq_true hb,show It.nodes (.mk k nn b [])=1 from rfl,decide_eq_true hn]
  rfl
 rw [It.leftP_ok hs];exact h
def EP (x:It) (w:World) (e:Ending) (w':World):Prop:=∃ v,e=.returned (.tuple #[v,.int .i64 (if It.valid x=true then 0 else 1)])∧OwnB w' w.heap.size v (if It.valid x=true then It.enc x else [])∧Below w.heap.size w w'
def VP (V:Bool) (w:World) (e:Ending) (w':World):Prop:=e=.returned (.bool V)∧Below w.heap.size w w'
theorem Env.lt {w:World} (h:Env w):1 < w.heap.size:=by
 have h1:=(h.2 0 (by decide)).1;exact lg (b:=1) h1
set_option maxHeartbeats 4000000 in
theorem cvalid_any (x:It) (A:Ad) (w:World) (ok:Nat→Prop) (hI:IR ok w x A) (hE:Env w) (V:Bool) (hV:It.valid x=V):
 Calls Tryd.prog 25 #[.agg #[.int .i64 x.kind,.int .u64 (x.num:Int),.slice A.ab A.nb A.cb,.slice A.ai A.ni A.ci]] w (VP V w):=by
 have h1:=hE.lt;have P0:=al w (.cells #[.int .i64 x.kind,.int .u64 (x.num:Int),.slice A.ab A.nb A.cb,.slice A.ai A.ni A.ci] 31);have N0:=aw w (.cells #[.int .i64 x.kind,.int .u64 (x.num:Int),.slice A.ab A.nb A.cb,.slice A.ai A.ni A.ci] 31);have P1:=al (w.alloc (.cells #[.int .i64 x.kind,.int .u64 (x.num:Int),.slice A.ab A.nb A.cb,.slice A.ai A.ni A.ci] 31)) (.cells #[.int .i64 0,.int .i64 0] 99);have N1:=aw (w.alloc (.cells #[.int .i64 x.kind,.int .u64 (x.num:Int),.slice A.ab A.nb A.cb,.slice A.ai A.ni A.ci] 31)) (.cells #[.int .i64 0,.int .i64 0] 99);have N01:=Below.keep P1 N0 (lb N0);have hsz:(w.alloc (.cells #[.int .i64 x.kind,.int .u64 (x.num:Int),.slice A.ab A.nb A.cb,.slice A.ai A.ni A.ci] 31)).heap.size=w.heap.size + 1:=by simp
 rw [hsz] at N1;have HC:=dh (item_any 8 (by omega) x A ((w.alloc (.cells #[.int .i64 x.kind,.int .u64 (x.num:Int),.slice A.ab A.nb A.cb,.slice A.ai A.ni A.ci] 31)).alloc (.cells #[.int .i64 0,.int .i64 0] 99)) (fun b=>b < w.heap.size) (w.heap.size + 1) 0 0 0 (((hI.imp (ok':=fun b=>b < w.heap.size) fun b _ hl=>hl).below P0).below P1) (fun b hb=>by omega) ((hE.below P0).below P1) (by omega) N1 (by omega) (by omega) (by omega));rw [← It.valid_ok,hV] at HC;have HP:=dh (pt P0 P1);have HS:Hid (w.heap.size≤((w.alloc (.cells #[.int .i64 x.kind,.int .u64 (x.num:Int),.slice A.ab A.nb A.cb,.slice A.ai A.ni A.ci] 31)).alloc (.cells #[.int .i64 0,.int .i64 0] 99)).heap.size):=dh (by simp;omega);obtain ⟨x0,x1,x2,x3⟩:=cf N01;clear P0 P1 N0 N1 N01 hI hE hsz h1 hV;go_enter Tryd.func25,Tryd.ntmps25
 go_wp2_with fail
 refine HC.out.mono ?_;rintro e w6 ⟨rfl,B6,C6⟩;have HB6:=dh (HP.out.trans (B6.below (by omega) HS.out));clear B6 C6;go_wp2_with fail
 go_ret
 exact ⟨rfl,HB6.out⟩
set_option maxHeartbeats 4000000 in
theorem cencode_any (x:It) (A:Ad) (w:World) (ok:Nat→Prop) (hI:IR ok w x A) (hE:Env w):
 Calls Tryd.prog 18 #[.agg #[.int .i64 x.kind,.int .u64 (x.num:Int),.slice A.ab A.nb A.cb,.slice A.ai A.ni A.ci]] w (EP x w):=by
 have P0:=al w (.cells #[.int .i64 x.kind,.int .u64 (x.num:Int),.slice A.ab A.nb A.cb,.slice A.ai A.ni A.ci] 31);have N0:=aw w (.cells #[.int .i64 x.kind,.int .u64 (x.num:Int),.slice A.ab A.nb A.cb,.slice A.ai A.ni A.ci] 31);obtain ⟨x0,x1,x2,x3⟩:=cf N0;have HN0:=dh N0;have HP:=dh P0;unfold EP;cases hv:It.valid x with
 | false=>
  have HC:=dh (cvalid_any x A (w.alloc (.cells #[.int .i64 x.kind,.int .u64 (x.num:Int),.slice A.ab A.nb A.cb,.slice A.ai A.ni A.ci] 31)) ok (hI.below P0) (hE.below P0) false hv);clear P0 N0 hI hE hv;go_enter Tryd.func18,Tryd.ntmps18
  go_upto_region 1 with fail
  generalize w.alloc (.cells #[.int .i64 x.kind,.int .u64 (x.num:Int),.slice A.ab A.nb A.cb,.slice A.ai A.ni A.ci] 31)=w1 at *;go_wp2_with fail
  refine HC.out.mono ?_;rintro e w6 ⟨rfl,B6⟩;have HB6:=dh (pt HP.out B6);clear B6 x0 x1 x2 x3;go_wp2_with fail
  go_ret2
  exact ⟨_,rfl,OwnB.nil _ _,HB6.out⟩
 | true=>
  have HC:=dh (cvalid_any x A (w.alloc (.cells #[.int .i64 x.kind,.int .u64 (x.num:Int),.slice A.ab A.nb A.cb,.slice A.ai A.ni A.ci] 31)) ok (hI.below P0) (hE.below P0) true hv);have hw:It.wf 8 x=true∧(It.enc x).length≤4096:=by
   unfold It.valid at hv;simp only [Bool.and_eq_true,decide_eq_true_eq] at hv;exact ⟨hv.1.1,hv.2⟩
  have HA:=dh (add_new hw.1 (hI.below P0) (by omega));clear P0 N0 hI hE hv hw;go_enter Tryd.func18,Tryd.ntmps18
  go_upto_region 1 with fail
  generalize w.alloc (.cells #[.int .i64 x.kind,.int .u64 (x.num:Int),.slice A.ab A.nb A.cb,.slice A.ai A.ni A.ci] 31)=w1 at *;go_wp2_with fail
  refine HC.out.mono ?_;rintro e w6 ⟨rfl,B6⟩;have HB6:=dh B6;clear B6 x0 x1 x2 x3;obtain ⟨x0,x1,x2,x3⟩:=cf (Below.keep HB6.out HN0.out (lb HN0.out));go_wp2_with fail
  refine (HA.out w6 HB6.out).mono ?_;rintro e w7 ⟨v,rfl,O7,B7⟩;have HO7:=dh (OwnB.lower O7 (Nat.le_trans HP.out.size HB6.out.size));have HB7:=dh (pt HP.out (pt HB6.out B7));clear O7 B7 x0 x1 x2 x3;go_wp2_with fail
  go_ret2
  exact ⟨_,rfl,HO7.out,HB7.out⟩
theorem nodes_get:∀ {ks:List It} {j:Nat} (h:j < ks.length),It.nodes ks[j]≤It.nodesL ks
 | [],j,h=>by simp at h
 | k :: ks,0,_=>by simp [It.nodesL]
 | k :: ks,j + 1,h=>by
  have:=nodes_get (ks:=ks) (j:=j) (by simpa using h);simp only [It.nodesL,List.getElem_cons_succ];omega
theorem sts_get:∀ {ks:List It} {j:Nat} (_:It.sts ks=true) (h:j < ks.length),It.st ks[j]=true
 | [],j,_,h=>by simp at h
 | k :: ks,0,hs,_=>by unfold It.sts at hs;simp only [Bool.and_eq_true] at hs;exact hs.1
 | k :: ks,j + 1,hs,h=>by
  unfold It.sts at hs;simp only [Bool.and_eq_true] at hs;exact sts_get (ks:=ks) (j:=j) hs.2 (by simpa using h)
def IP (x:It) (w:World) (e:Ending) (w':World):Prop:=∃ A:Ad,e=.returned (.agg #[.int .i64 x.kind,.int .u64 (x.num:Int),.slice A.ab A.nb A.cb,.slice A.ai A.ni A.ci])∧IR (fun b=>w.heap.size≤b) w' x A∧Below w.heap.size w w'
theorem IR.flat {ok:Nat→Prop} {w:World} (k:Int) (n:Nat) (hn:n < 18446744073709551616):IR ok w (.mk k n [] []) ⟨none,0,0,none,0,0⟩:=IR_iff.2 ⟨hn,⟨BR.nil _ _ _,by simp,by simp⟩,TL.nil _ _ _,by simp,by simp⟩
set_option maxHeartbeats 4000000 in
theorem cuint_any (n:Int) (w:World):Calls Tryd.prog 46 #[.int .u64 n] w fun e w'=>e=.returned (.agg #[.int .i64 0,.int .u64 n,.slice none 0 0,.slice none 0 0])∧Below w.heap.size w w':=by
 have P0:=al w (.cells #[.int .i64 0,.int .u64 0,.slice none 0 0,.slice none 0 0] 31);have N0:=aw w (.cells #[.int .i64 0,.int .u64 0,.slice none 0 0,.slice none 0 0] 31);obtain ⟨r0,r1,r2,r3⟩:=cf N0;obtain ⟨q0,q1,q2,q3⟩:=ff N0;have HP:=dh P0;have HN:=dh N0;clear P0 N0;go_enter Tryd.func46,Tryd.ntmps46
 go_upto_region 1 with fail
 generalize w.alloc (.cells #[.int .i64 0,.int .u64 0,.slice none 0 0,.slice none 0 0] 31)=w1 at *;generalize hB:w.heap.size=B at *;go_wp2_with fail
 clear r0 r1 r2 r3 q0 q1 q2 q3;obtain ⟨W',hW',hp4,hs4,hb4⟩:=pq (W:=w1) (b:=B) (HN.out) (.int .i64 0) (.int .u64 n) (.slice none 0 0) (.slice none 0 0);rw [hW'];clear hW';obtain ⟨g0,g1,g2,g3⟩:=cf hp4;refine bodyPost_ret (v:=.agg #[.int .i64 0,.int .u64 n,.slice none 0 0,.slice none 0 0]) (by simp [results,Tryd.results46,go_sem,g0,g1,g2,g3]) rfl ?_;exact ⟨rfl,by first | exact hb4 B w HP.out (by omega) | (rw [hB];exact hb4 B w HP.out (by omega))⟩
set_option maxHeartbeats 4000000 in
theorem cint_neg (n:Int) (h0: -9223372036854775808≤n) (h:n < 0) (w:World):Calls Tryd.prog 44 #[.int .i64 n] w fun e w'=>e=.returned (.agg #[.int .i64 1,.int .u64 (-1 - n),.slice none 0 0,.slice none 0 0])∧Below w.heap.size w w':=by
 have P0:=al w (.cells #[.int .i64 0,.int .u64 0,.slice none 0 0,.slice none 0 0] 31);have N0:=aw w (.cells #[.int .i64 0,.int .u64 0,.slice none 0 0,.slice none 0 0] 31);obtain ⟨r0,r1,r2,r3⟩:=cf N0;obtain ⟨q0,q1,q2,q3⟩:=ff N0;have HP:=dh P0;have HN:=dh N0;clear P0 N0;go_enter Tryd.func44,Tryd.ntmps44
 go_upto_region 1 with fail
 generalize w.alloc (.cells #[.int .i64 0,.int .u64 0,.slice none 0 0,.slice none 0 0] 31)=w1 at *;generalize hB:w.heap.size=B at *;go_wp2_with fail
 clear r0 r1 r2 r3 q0 q1 q2 q3;obtain ⟨W',hW',hp4,hs4,hb4⟩:=pq (W:=w1) (b:=B) (HN.out) (.int .i64 1) (.int .u64 (-1 - n)) (.slice none 0 0) (.slice none 0 0);rw [hW'];clear hW';obtain ⟨g0,g1,g2,g3⟩:=cf hp4;refine bodyPost_ret (v:=.agg #[.int .i64 1,.int .u64 (-1 - n),.slice none 0 0,.slice none 0 0]) (by simp [results,Tryd.results44,go_sem,g0,g1,g2,g3]) rfl ?_;exact ⟨rfl,by first | exact hb4 B w HP.out (by omega) | (rw [hB];exact hb4 B w HP.out (by omega))⟩
end Go.Proofs.YtelefkkkccilaaaDoor
