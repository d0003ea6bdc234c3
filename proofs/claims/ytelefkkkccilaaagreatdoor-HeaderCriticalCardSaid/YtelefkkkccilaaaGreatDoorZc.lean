/- Numbers, bytes, texts and lists as items. -/
import Derived.Test.YtelefkkkccilaaaGreatDoorLM
set_option maxHeartbeats 4000000
set_option linter.all false
namespace Go.Proofs.YtelefkkkccilaaaGreatDoor
open Go.RowKit
set_option maxRecDepth 100000
theorem cint_pos (n:Int) (h0:n≤9223372036854775807) (h:¬ n < 0) (w:World):Calls Tryz.prog 69 #[.int .i64 n] w fun e w'=>e=.returned (.agg #[.int .i64 0,.int .u64 n,.slice none 0 0,.slice none 0 0])∧Below w.heap.size w w':=by
 have P0:=al w o4z;have HN:=dh (aw w o4z);have HP:=dh P0;clear P0;go_enter Tryz.func69,Tryz.ntmps69
 go_upto_region 1 with fail
 generalize w.alloc _=w1 at *;generalize hB:w.heap.size=B at *;go_wp2_with fail
 refine (cuint_any n w1).mono ?_;rintro e w2 ⟨rfl,B2⟩;have HN2:=kp B2 HN;have HP2:=dh (HP.out.trans (B2.mono (by have:=HP.out.size;omega)));clear B2;have r:=cf HN2.out;have q:=ff HN2.out;go_wp2_with fail
 clear r q;obtain ⟨W',hW',hp4,hs4,hb4⟩:=pq (W:=w2) (b:=B) (HN2.out) (.int .i64 0) (.int .u64 n) (.slice none 0 0) (.slice none 0 0);rw [hW'];clear hW';obtain ⟨g0,g1,g2,g3⟩:=cf hp4;refine bodyPost_ret (v:=.agg #[.int .i64 0,.int .u64 n,.slice none 0 0,.slice none 0 0]) (by simp [results,Tryz.results69,go_sem,g0,g1,g2,g3]) rfl ?_;exact ⟨rfl,by rw [hB];exact hb4 B w HP2.out (by omega)⟩
theorem cint_any (n:Int) (h0: -9223372036854775808≤n) (h1:n≤9223372036854775807) (w:World):Calls Tryz.prog 69 #[.int .i64 n] w (IP (intIt n) w):=by
 by_cases h:n < 0
 ·refine (cint_neg n h0 h w).mono ?_
  rintro e w' ⟨rfl,hB⟩;refine ⟨⟨none,0,0,none,0,0⟩,?_,?_,hB⟩
  ·unfold intIt;rw [if_pos h];simp only [It.kind,It.num];rw [Int.toNat_of_nonneg (by omega)]
  ·unfold intIt;rw [if_pos h];exact IR.flat _ _ (by omega)
 ·refine (cint_pos n h1 h w).mono ?_
  rintro e w' ⟨rfl,hB⟩;refine ⟨⟨none,0,0,none,0,0⟩,?_,?_,hB⟩
  ·unfold intIt;rw [if_neg h];simp only [It.kind,It.num];rw [Int.toNat_of_nonneg (by omega)]
  ·unfold intIt;rw [if_neg h];exact IR.flat _ _ (by omega)
theorem rlist_any (l:List It) (a:Option Addr) (n c:Nat) (w:World) (ok:Nat→Prop) (hT:TL ok w l a n) (hc:n≤c) (hcm:c≤9223372036854775807) (hn:It.nodesL l≤90000) (hs:It.sts l=true):
 Calls Tryz.prog 74 #[.slice a n c] w (IP (.mk 4 0 [] l) w):=by
 have P0:=al w o4z;have HN:=dh (aw w o4z);have hI:IR ok (w.alloc o4z) (.mk 4 0 [] l) ⟨none,0,0,a,n,c⟩:=IR_iff.2 ⟨by show 0 < _;omega,⟨BR.nil _ _ _,by simp,by simp⟩,hT.below P0,hc,hcm⟩;have HC:=dh (copy_any 100000 (.mk 4 0 [] l) ⟨none,0,0,a,n,c⟩ _ ok (by show 1 + It.nodesL l≤_;omega) (by omega) (by unfold It.st;simp [hs]) hI);have HP:=dh P0;have hw:(w.alloc o4z).heap.size=w.heap.size + 1:=by simp
 have HW:=dh hw;simp only [It.kind,It.num] at HC;clear P0 hT hI hw;go_enter Tryz.func74,Tryz.ntmps74
 go_upto_region 1 with fail
 generalize w.alloc _=w1 at *;generalize hB:w.heap.size=B at *;go_wp2_with fail
 refine HC.out.mono ?_;rintro e W4 h4;obtain ⟨Z,rfl,hI4,B4⟩:=h4.ir (by show 0 < _;omega);simp only [It.kind,It.num];have HI4:=dh hI4;have HN4:=kp B4 HN;have HB4:=dh (HP.out.trans (B4.mono (by have:=HP.out.size;omega)));have hsw:=HW.out;clear hI4 B4 h4 HC;have r:=cf HN4.out;have q:=ff HN4.out;go_wp2_with fail
 clear r q;obtain ⟨W',hW',hp4,hs4,hb4⟩:=pq (W:=W4) (b:=B) (HN4.out) (.int .i64 4) (.int .u64 0) (.slice Z.ab Z.nb Z.cb) (.slice Z.ai Z.ni Z.ci);rw [hW'];clear hW';obtain ⟨g0,g1,g2,g3⟩:=cf hp4;refine bodyPost_ret (v:=.agg #[.int .i64 4,.int .u64 0,.slice Z.ab Z.nb Z.cb,.slice Z.ai Z.ni Z.ci]) (by simp [results,Tryz.results74,go_sem,g0,g1,g2,g3]) rfl ?_;exact ⟨Z,rfl,HI4.out.keep fun b hb _=>⟨hs4.2 b (by omega),by omega⟩,by rw [hB];exact hb4 B w HB4.out (by omega)⟩
