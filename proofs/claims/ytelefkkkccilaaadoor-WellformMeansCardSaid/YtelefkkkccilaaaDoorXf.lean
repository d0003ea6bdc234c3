/- The walk of the reference's look at an item with elements. -/
import Derived.Test.YtelefkkkccilaaaDoorXe
set_option linter.unusedVariables false
set_option linter.unusedSimpArgs false
namespace Go.Proofs.YtelefkkkccilaaaDoor
open Go.RowKit
set_option maxRecDepth 100000
def LeftC (d:Nat):Prop:=∀ (x:It) (A:Ad) (w:World) (ok:Nat→Prop) (n:Nat) (N D:Int),IR ok w x A→Env w→N=n→n≤256→D=8 - (d:Int)→
 Calls Tryd.prog 58 #[.agg #[.int .i64 x.kind,.int .u64 (x.num:Int),.slice A.ab A.nb A.cb,.slice A.ai A.ni A.ci],.int .i64 N,.int .i64 D] w (LP (It.leftP d x n) w)
def LK (d:Nat) (ks:List It) (R:Bool) (M ni:Nat) (w:World) (n i:Value) (W:World):Prop:=∃ j m:Nat,i=.int .i64 (j:Int)∧n=.int .i64 (m:Int)∧j≤ni∧It.okSL d (ks.drop j) m=R∧m + It.nodesL ks=M + It.nodesL (ks.drop j)∧m≤256∧Below w.heap.size w W
theorem LK.stop {d:Nat} {ks:List It} {R:Bool} {m:Nat} (h:It.okSL d (ks.drop ks.length) m=R):R=true:=by
 rw [List.drop_length] at h;rw [← h];simp [It.okSL,It.wfs,It.sts,It.nodesL]
theorem okSL_get {d:Nat} {ks:List It} {n:Nat} (h:It.okSL d ks n=true):It.wfs d ks=true∧It.sts ks=true∧It.nodesL ks≤n:=by
 unfold It.okSL at h;simp only [Bool.and_eq_true,decide_eq_true_eq] at h;exact ⟨h.1.1,h.1.2,h.2⟩
theorem raw_new {d:Nat} {x:It} {A:Ad} {ok:Nat→Prop} {w:World} (hw:It.wf d x=true) (hI:IR ok w x A) (hl:(It.enc x).length≤1000000000):
 ∀ W,Below w.heap.size w W→Calls Tryd.prog 40 #[.agg #[.int .i64 x.kind,.int .u64 (x.num:Int),.slice A.ab A.nb A.cb,.slice A.ai A.ni A.ci]] W (FB (It.enc x) W):=fun W hB=>raw_any d x A W ok hw (hI.below hB) hl
set_option maxHeartbeats 8000000 in
theorem left_4_bytes (N X D:Int) (ab ai:Option Addr) (nb cb ni ci:Nat) (w:World) (g0:0≤X) (g1:X≤256) (hx:¬ X < 1) (h:0 < (nb:Int)):
 Calls Tryd.prog 58 #[.agg #[.int .i64 4,.int .u64 N,.slice ab nb cb,.slice ai ni ci],.int .i64 X,.int .i64 D] w (LP (-1) w):=by
 have P0:=al w (.cells #[.int .i64 4,.int .u64 N,.slice ab nb cb,.slice ai ni ci] 31);have N0:=aw w (.cells #[.int .i64 4,.int .u64 N,.slice ab nb cb,.slice ai ni ci] 31);obtain ⟨x0,x1,x2,x3⟩:=cf N0;have HP:=dh P0;have HN0:=dh N0;clear P0 N0;generalize hB:w.heap.size=B at *;go_enter Tryd.func58,Tryd.ntmps58
 go_upto_region 1 with fail
 generalize w.alloc (.cells #[.int .i64 4,.int .u64 N,.slice ab nb cb,.slice ai ni ci] 31)=w1 at *;go_wp2_with fail
 go_ret
 exact ⟨rfl,hB ▸ HP.out⟩
set_option maxHeartbeats 8000000 in
theorem left_4_num (N X D:Int) (ab ai:Option Addr) (nb cb ni ci:Nat) (w:World) (g0:0≤X) (g1:X≤256) (hx:¬ X < 1) (h:nb=0) (hN:N≠0):
 Calls Tryd.prog 58 #[.agg #[.int .i64 4,.int .u64 N,.slice ab nb cb,.slice ai ni ci],.int .i64 X,.int .i64 D] w (LP (-1) w):=by
 have P0:=al w (.cells #[.int .i64 4,.int .u64 N,.slice ab nb cb,.slice ai ni ci] 31);have N0:=aw w (.cells #[.int .i64 4,.int .u64 N,.slice ab nb cb,.slice ai ni ci] 31);obtain ⟨x0,x1,x2,x3⟩:=cf N0;have HP:=dh P0;have HN0:=dh N0;clear P0 N0;generalize hB:w.heap.size=B at *;have e1:¬ 0 < (nb:Int):=by omega
 have e1d:decide (0 < (nb:Int))=false:=decide_eq_false e1;have e1l:¬ 4096 < (nb:Int):=by omega
 have e1m:decide (4096 < (nb:Int))=false:=decide_eq_false e1l;have gNb:(N !=0)=true:=by simpa using hN
 clear h;by_cases gsni:0 < (ni:Int)
 ·have gid:decide (0 < (ni:Int))=true:=decide_eq_true gsni
  go_enter Tryd.func58,Tryd.ntmps58
  go_upto_region 1 with fail
  generalize w.alloc (.cells #[.int .i64 4,.int .u64 N,.slice ab nb cb,.slice ai ni ci] 31)=w1 at *;go_wp2_with fail
  go_ret
  exact ⟨rfl,hB ▸ HP.out⟩
 ·have gid:decide (0 < (ni:Int))=false:=decide_eq_false gsni
  go_enter Tryd.func58,Tryd.ntmps58
  go_upto_region 1 with fail
  generalize w.alloc (.cells #[.int .i64 4,.int .u64 N,.slice ab nb cb,.slice ai ni ci] 31)=w1 at *;go_wp2_with fail
  go_ret
  exact ⟨rfl,hB ▸ HP.out⟩
set_option maxHeartbeats 8000000 in
theorem left_4_deep (N X D:Int) (ab ai:Option Addr) (nb cb ni ci:Nat) (w:World) (g0:0≤X) (g1:X≤256) (hx:¬ X < 1) (h:nb=0) (hN:N=0) (hD:8≤D):
 Calls Tryd.prog 58 #[.agg #[.int .i64 4,.int .u64 N,.slice ab nb cb,.slice ai ni ci],.int .i64 X,.int .i64 D] w (LP (-1) w):=by
 have P0:=al w (.cells #[.int .i64 4,.int .u64 N,.slice ab nb cb,.slice ai ni ci] 31);have N0:=aw w (.cells #[.int .i64 4,.int .u64 N,.slice ab nb cb,.slice ai ni ci] 31);obtain ⟨x0,x1,x2,x3⟩:=cf N0;have HP:=dh P0;have HN0:=dh N0;clear P0 N0;generalize hB:w.heap.size=B at *;have e1:¬ 0 < (nb:Int):=by omega
 have e1d:decide (0 < (nb:Int))=false:=decide_eq_false e1;have e1l:¬ 4096 < (nb:Int):=by omega
 have e1m:decide (4096 < (nb:Int))=false:=decide_eq_false e1l;have gNb:(N !=0)=false:=by simpa using hN
 clear hN;have gD:decide (8≤D)=true:=decide_eq_true hD;clear h;by_cases gsni:0 < (ni:Int)
 ·have gid:decide (0 < (ni:Int))=true:=decide_eq_true gsni
  go_enter Tryd.func58,Tryd.ntmps58
  go_upto_region 1 with fail
  generalize w.alloc (.cells #[.int .i64 4,.int .u64 N,.slice ab nb cb,.slice ai ni ci] 31)=w1 at *;go_wp2_with fail
  go_ret
  exact ⟨rfl,hB ▸ HP.out⟩
 ·have gid:decide (0 < (ni:Int))=false:=decide_eq_false gsni
  go_enter Tryd.func58,Tryd.ntmps58
  go_upto_region 1 with fail
  generalize w.alloc (.cells #[.int .i64 4,.int .u64 N,.slice ab nb cb,.slice ai ni ci] 31)=w1 at *;go_wp2_with fail
  go_ret
  exact ⟨rfl,hB ▸ HP.out⟩
set_option maxHeartbeats 8000000 in
theorem left_5_bytes (N X D:Int) (ab ai:Option Addr) (nb cb ni ci:Nat) (w:World) (g0:0≤X) (g1:X≤256) (hx:¬ X < 1) (h:0 < (nb:Int)):
 Calls Tryd.prog 58 #[.agg #[.int .i64 5,.int .u64 N,.slice ab nb cb,.slice ai ni ci],.int .i64 X,.int .i64 D] w (LP (-1) w):=by
 have P0:=al w (.cells #[.int .i64 5,.int .u64 N,.slice ab nb cb,.slice ai ni ci] 31);have N0:=aw w (.cells #[.int .i64 5,.int .u64 N,.slice ab nb cb,.slice ai ni ci] 31);obtain ⟨x0,x1,x2,x3⟩:=cf N0;have HP:=dh P0;have HN0:=dh N0;clear P0 N0;generalize hB:w.heap.size=B at *;go_enter Tryd.func58,Tryd.ntmps58
 go_upto_region 1 with fail
 generalize w.alloc (.cells #[.int .i64 5,.int .u64 N,.slice ab nb cb,.slice ai ni ci] 31)=w1 at *;go_wp2_with fail
 go_ret
 exact ⟨rfl,hB ▸ HP.out⟩
set_option maxHeartbeats 8000000 in
theorem left_5_num (N X D:Int) (ab ai:Option Addr) (nb cb ni ci:Nat) (w:World) (g0:0≤X) (g1:X≤256) (hx:¬ X < 1) (h:nb=0) (hN:N≠0):
 Calls Tryd.prog 58 #[.agg #[.int .i64 5,.int .u64 N,.slice ab nb cb,.slice ai ni ci],.int .i64 X,.int .i64 D] w (LP (-1) w):=by
 have P0:=al w (.cells #[.int .i64 5,.int .u64 N,.slice ab nb cb,.slice ai ni ci] 31);have N0:=aw w (.cells #[.int .i64 5,.int .u64 N,.slice ab nb cb,.slice ai ni ci] 31);obtain ⟨x0,x1,x2,x3⟩:=cf N0;have HP:=dh P0;have HN0:=dh N0;clear P0 N0;generalize hB:w.heap.size=B at *;have e1:¬ 0 < (nb:Int):=by omega
 have e1d:decide (0 < (nb:Int))=false:=decide_eq_false e1;have e1l:¬ 4096 < (nb:Int):=by omega
 have e1m:decide (4096 < (nb:Int))=false:=decide_eq_false e1l;have gNb:(N !=0)=true:=by simpa using hN
 clear h;by_cases gsni:0 < (ni:Int)
 ·have gid:decide (0 < (ni:Int))=true:=decide_eq_true gsni
  go_enter Tryd.func58,Tryd.ntmps58
  go_upto_region 1 with fail
  generalize w.alloc (.cells #[.int .i64 5,.int .u64 N,.slice ab nb cb,.slice ai ni ci] 31)=w1 at *;go_wp2_with fail
  go_ret
  exact ⟨rfl,hB ▸ HP.out⟩
 ·have gid:decide (0 < (ni:Int))=false:=decide_eq_false gsni
  go_enter Tryd.func58,Tryd.ntmps58
  go_upto_region 1 with fail
  generalize w.alloc (.cells #[.int .i64 5,.int .u64 N,.slice ab nb cb,.slice ai ni ci] 31)=w1 at *;go_wp2_with fail
  go_ret
  exact ⟨rfl,hB ▸ HP.out⟩
set_option maxHeartbeats 8000000 in
theorem left_5_deep (N X D:Int) (ab ai:Option Addr) (nb cb ni ci:Nat) (w:World) (g0:0≤X) (g1:X≤256) (hx:¬ X < 1) (h:nb=0) (hN:N=0) (hD:8≤D):
 Calls Tryd.prog 58 #[.agg #[.int .i64 5,.int .u64 N,.slice ab nb cb,.slice ai ni ci],.int .i64 X,.int .i64 D] w (LP (-1) w):=by
 have P0:=al w (.cells #[.int .i64 5,.int .u64 N,.slice ab nb cb,.slice ai ni ci] 31);have N0:=aw w (.cells #[.int .i64 5,.int .u64 N,.slice ab nb cb,.slice ai ni ci] 31);obtain ⟨x0,x1,x2,x3⟩:=cf N0;have HP:=dh P0;have HN0:=dh N0;clear P0 N0;generalize hB:w.heap.size=B at *;have e1:¬ 0 < (nb:Int):=by omega
 have e1d:decide (0 < (nb:Int))=false:=decide_eq_false e1;have e1l:¬ 4096 < (nb:Int):=by omega
 have e1m:decide (4096 < (nb:Int))=false:=decide_eq_false e1l;have gNb:(N !=0)=false:=by simpa using hN
 clear hN;have gD:decide (8≤D)=true:=decide_eq_true hD;clear h;by_cases gsni:0 < (ni:Int)
 ·have gid:decide (0 < (ni:Int))=true:=decide_eq_true gsni
  go_enter Tryd.func58,Tryd.ntmps58
  go_upto_region 1 with fail
  generalize w.alloc (.cells #[.int .i64 5,.int .u64 N,.slice ab nb cb,.slice ai ni ci] 31)=w1 at *;go_wp2_with fail
  go_ret
  exact ⟨rfl,hB ▸ HP.out⟩
 ·have gid:decide (0 < (ni:Int))=false:=decide_eq_false gsni
  go_enter Tryd.func58,Tryd.ntmps58
  go_upto_region 1 with fail
  generalize w.alloc (.cells #[.int .i64 5,.int .u64 N,.slice ab nb cb,.slice ai ni ci] 31)=w1 at *;go_wp2_with fail
  go_ret
  exact ⟨rfl,hB ▸ HP.out⟩
set_option maxHeartbeats 8000000 in
theorem left_6_bytes (N X D:Int) (ab ai:Option Addr) (nb cb ni ci:Nat) (w:World) (g0:0≤X) (g1:X≤256) (hx:¬ X < 1) (h:0 < (nb:Int)):
 Calls Tryd.prog 58 #[.agg #[.int .i64 6,.int .u64 N,.slice ab nb cb,.slice ai ni ci],.int .i64 X,.int .i64 D] w (LP (-1) w):=by
 have P0:=al w (.cells #[.int .i64 6,.int .u64 N,.slice ab nb cb,.slice ai ni ci] 31);have N0:=aw w (.cells #[.int .i64 6,.int .u64 N,.slice ab nb cb,.slice ai ni ci] 31);obtain ⟨x0,x1,x2,x3⟩:=cf N0;have HP:=dh P0;have HN0:=dh N0;clear P0 N0;generalize hB:w.heap.size=B at *;go_enter Tryd.func58,Tryd.ntmps58
 go_upto_region 1 with fail
 generalize w.alloc (.cells #[.int .i64 6,.int .u64 N,.slice ab nb cb,.slice ai ni ci] 31)=w1 at *;go_wp2_with fail
 go_ret
 exact ⟨rfl,hB ▸ HP.out⟩
set_option maxHeartbeats 8000000 in
theorem left_6_deep (N X D:Int) (ab ai:Option Addr) (nb cb ni ci:Nat) (w:World) (g0:0≤X) (g1:X≤256) (hx:¬ X < 1) (h:nb=0) (hD:8≤D):
 Calls Tryd.prog 58 #[.agg #[.int .i64 6,.int .u64 N,.slice ab nb cb,.slice ai ni ci],.int .i64 X,.int .i64 D] w (LP (-1) w):=by
 have P0:=al w (.cells #[.int .i64 6,.int .u64 N,.slice ab nb cb,.slice ai ni ci] 31);have N0:=aw w (.cells #[.int .i64 6,.int .u64 N,.slice ab nb cb,.slice ai ni ci] 31);obtain ⟨x0,x1,x2,x3⟩:=cf N0;have HP:=dh P0;have HN0:=dh N0;clear P0 N0;generalize hB:w.heap.size=B at *;have e1:¬ 0 < (nb:Int):=by omega
 have e1d:decide (0 < (nb:Int))=false:=decide_eq_false e1;have e1l:¬ 4096 < (nb:Int):=by omega
 have e1m:decide (4096 < (nb:Int))=false:=decide_eq_false e1l;have gD:decide (8≤D)=true:=decide_eq_true hD;clear h;by_cases gsni:0 < (ni:Int)
 ·have gid:decide (0 < (ni:Int))=true:=decide_eq_true gsni
  by_cases gsN:N=0
  ·have gNb:(N !=0)=false:=by simpa using gsN
   clear gsN;go_enter Tryd.func58,Tryd.ntmps58
   go_upto_region 1 with fail
   generalize w.alloc (.cells #[.int .i64 6,.int .u64 N,.slice ab nb cb,.slice ai ni ci] 31)=w1 at *;go_wp2_with fail
   go_ret
   exact ⟨rfl,hB ▸ HP.out⟩
  ·have gNb:(N !=0)=true:=by simpa using gsN
   clear gsN;go_enter Tryd.func58,Tryd.ntmps58
   go_upto_region 1 with fail
   generalize w.alloc (.cells #[.int .i64 6,.int .u64 N,.slice ab nb cb,.slice ai ni ci] 31)=w1 at *;go_wp2_with fail
   go_ret
   exact ⟨rfl,hB ▸ HP.out⟩
 ·have gid:decide (0 < (ni:Int))=false:=decide_eq_false gsni
  by_cases gsN:N=0
  ·have gNb:(N !=0)=false:=by simpa using gsN
   clear gsN;go_enter Tryd.func58,Tryd.ntmps58
   go_upto_region 1 with fail
   generalize w.alloc (.cells #[.int .i64 6,.int .u64 N,.slice ab nb cb,.slice ai ni ci] 31)=w1 at *;go_wp2_with fail
   go_ret
   exact ⟨rfl,hB ▸ HP.out⟩
  ·have gNb:(N !=0)=true:=by simpa using gsN
   clear gsN;go_enter Tryd.func58,Tryd.ntmps58
   go_upto_region 1 with fail
   generalize w.alloc (.cells #[.int .i64 6,.int .u64 N,.slice ab nb cb,.slice ai ni ci] 31)=w1 at *;go_wp2_with fail
   go_ret
   exact ⟨rfl,hB ▸ HP.out⟩
set_option maxHeartbeats 8000000 in
theorem left_6_shape (N X D:Int) (ab ai:Option Addr) (nb cb ni ci:Nat) (w:World) (g0:0≤X) (g1:X≤256) (hx:¬ X < 1) (h:nb=0) (hD:D < 8) (hs:ni≠1):
 Calls Tryd.prog 58 #[.agg #[.int .i64 6,.int .u64 N,.slice ab nb cb,.slice ai ni ci],.int .i64 X,.int .i64 D] w (LP (-1) w):=by
 have P0:=al w (.cells #[.int .i64 6,.int .u64 N,.slice ab nb cb,.slice ai ni ci] 31);have N0:=aw w (.cells #[.int .i64 6,.int .u64 N,.slice ab nb cb,.slice ai ni ci] 31);obtain ⟨x0,x1,x2,x3⟩:=cf N0;have HP:=dh P0;have HN0:=dh N0;clear P0 N0;generalize hB:w.heap.size=B at *;have e1:¬ 0 < (nb:Int):=by omega
 have e1d:decide (0 < (nb:Int))=false:=decide_eq_false e1;have e1l:¬ 4096 < (nb:Int):=by omega
 have e1m:decide (4096 < (nb:Int))=false:=decide_eq_false e1l;have gDn:¬ 8≤D:=by omega
 have gD:decide (8≤D)=false:=decide_eq_false gDn;have gs:((ni:Int) !=1)=true:=by simp;omega
 clear h;by_cases gsni:0 < (ni:Int)
 ·have gid:decide (0 < (ni:Int))=true:=decide_eq_true gsni
  by_cases gsN:N=0
  ·have gNb:(N !=0)=false:=by simpa using gsN
   clear gsN;go_enter Tryd.func58,Tryd.ntmps58
   go_upto_region 1 with fail
   generalize w.alloc (.cells #[.int .i64 6,.int .u64 N,.slice ab nb cb,.slice ai ni ci] 31)=w1 at *;go_wp2_with fail
   go_ret
   exact ⟨rfl,hB ▸ HP.out⟩
  ·have gNb:(N !=0)=true:=by simpa using gsN
   clear gsN;go_enter Tryd.func58,Tryd.ntmps58
   go_upto_region 1 with fail
   generalize w.alloc (.cells #[.int .i64 6,.int .u64 N,.slice ab nb cb,.slice ai ni ci] 31)=w1 at *;go_wp2_with fail
   go_ret
   exact ⟨rfl,hB ▸ HP.out⟩
 ·have gid:decide (0 < (ni:Int))=false:=decide_eq_false gsni
  by_cases gsN:N=0
  ·have gNb:(N !=0)=false:=by simpa using gsN
   clear gsN;go_enter Tryd.func58,Tryd.ntmps58
   go_upto_region 1 with fail
   generalize w.alloc (.cells #[.int .i64 6,.int .u64 N,.slice ab nb cb,.slice ai ni ci] 31)=w1 at *;go_wp2_with fail
   go_ret
   exact ⟨rfl,hB ▸ HP.out⟩
  ·have gNb:(N !=0)=true:=by simpa using gsN
   clear gsN;go_enter Tryd.func58,Tryd.ntmps58
   go_upto_region 1 with fail
   generalize w.alloc (.cells #[.int .i64 6,.int .u64 N,.slice ab nb cb,.slice ai ni ci] 31)=w1 at *;go_wp2_with fail
   go_ret
   exact ⟨rfl,hB ▸ HP.out⟩
set_option maxHeartbeats 8000000 in
theorem left_6_many (N X D:Int) (ab ai:Option Addr) (nb cb ni ci:Nat) (w:World) (g0:0≤X) (g1:X≤256) (hx:¬ X < 1) (h:nb=0) (hD:D < 8) (hs:ni=1) (hm:X - 1 < (ni:Int)):
 Calls Tryd.prog 58 #[.agg #[.int .i64 6,.int .u64 N,.slice ab nb cb,.slice ai ni ci],.int .i64 X,.int .i64 D] w (LP (-1) w):=by
 have P0:=al w (.cells #[.int .i64 6,.int .u64 N,.slice ab nb cb,.slice ai ni ci] 31);have N0:=aw w (.cells #[.int .i64 6,.int .u64 N,.slice ab nb cb,.slice ai ni ci] 31);obtain ⟨x0,x1,x2,x3⟩:=cf N0;have HP:=dh P0;have HN0:=dh N0;clear P0 N0;generalize hB:w.heap.size=B at *;have e1:¬ 0 < (nb:Int):=by omega
 have e1d:decide (0 < (nb:Int))=false:=decide_eq_false e1;have e1l:¬ 4096 < (nb:Int):=by omega
 have e1m:decide (4096 < (nb:Int))=false:=decide_eq_false e1l;have gDn:¬ 8≤D:=by omega
 have gD:decide (8≤D)=false:=decide_eq_false gDn;have gs:((ni:Int) !=1)=false:=by simp;omega
 have gi:0 < (ni:Int):=by omega
 have gid:decide (0 < (ni:Int))=true:=decide_eq_true gi;clear h hs;by_cases gsN:N=0
 ·have gNb:(N !=0)=false:=by simpa using gsN
  clear gsN;go_enter Tryd.func58,Tryd.ntmps58
  go_upto_region 1 with fail
  generalize w.alloc (.cells #[.int .i64 6,.int .u64 N,.slice ab nb cb,.slice ai ni ci] 31)=w1 at *;go_wp2_with fail
  go_ret
  exact ⟨rfl,hB ▸ HP.out⟩
 ·have gNb:(N !=0)=true:=by simpa using gsN
  clear gsN;go_enter Tryd.func58,Tryd.ntmps58
  go_upto_region 1 with fail
  generalize w.alloc (.cells #[.int .i64 6,.int .u64 N,.slice ab nb cb,.slice ai ni ci] 31)=w1 at *;go_wp2_with fail
  go_ret
  exact ⟨rfl,hB ▸ HP.out⟩
set_option maxHeartbeats 8000000 in
theorem left_4_many (N X D:Int) (ab ai:Option Addr) (nb cb ni ci:Nat) (w:World) (g0:0≤X) (g1:X≤256) (hx:¬ X < 1) (h:nb=0) (hN:N=0) (hD:D < 8) (hm:X - 1 < (ni:Int)) (hc:ni≤9223372036854775807):
 Calls Tryd.prog 58 #[.agg #[.int .i64 4,.int .u64 N,.slice ab nb cb,.slice ai ni ci],.int .i64 X,.int .i64 D] w (LP (-1) w):=by
 have P0:=al w (.cells #[.int .i64 4,.int .u64 N,.slice ab nb cb,.slice ai ni ci] 31);have N0:=aw w (.cells #[.int .i64 4,.int .u64 N,.slice ab nb cb,.slice ai ni ci] 31);obtain ⟨x0,x1,x2,x3⟩:=cf N0;have HP:=dh P0;have HN0:=dh N0;clear P0 N0;generalize hB:w.heap.size=B at *;have e1:¬ 0 < (nb:Int):=by omega
 have e1d:decide (0 < (nb:Int))=false:=decide_eq_false e1;have e1l:¬ 4096 < (nb:Int):=by omega
 have e1m:decide (4096 < (nb:Int))=false:=decide_eq_false e1l;have gNb:(N !=0)=false:=by simpa using hN
 clear hN;have gDn:¬ 8≤D:=by omega
 have gD:decide (8≤D)=false:=decide_eq_false gDn;have gi:0 < (ni:Int):=by omega
 have gid:decide (0 < (ni:Int))=true:=decide_eq_true gi;have gni:(ni:Int)≤9223372036854775807:=by omega
 clear h hc;go_enter Tryd.func58,Tryd.ntmps58
 go_upto_region 1 with fail
 generalize w.alloc (.cells #[.int .i64 4,.int .u64 N,.slice ab nb cb,.slice ai ni ci] 31)=w1 at *;go_wp2_with fail
 go_ret
 exact ⟨rfl,hB ▸ HP.out⟩
set_option maxHeartbeats 8000000 in
theorem left_5_odd (N X D:Int) (ab ai:Option Addr) (nb cb ni ci:Nat) (w:World) (g0:0≤X) (g1:X≤256) (hx:¬ X < 1) (h:nb=0) (hN:N=0) (hD:D < 8) (ho:ni % 2=1) (hc:ni≤9223372036854775807):
 Calls Tryd.prog 58 #[.agg #[.int .i64 5,.int .u64 N,.slice ab nb cb,.slice ai ni ci],.int .i64 X,.int .i64 D] w (LP (-1) w):=by
 have P0:=al w (.cells #[.int .i64 5,.int .u64 N,.slice ab nb cb,.slice ai ni ci] 31);have N0:=aw w (.cells #[.int .i64 5,.int .u64 N,.slice ab nb cb,.slice ai ni ci] 31);obtain ⟨x0,x1,x2,x3⟩:=cf N0;have HP:=dh P0;have HN0:=dh N0;clear P0 N0;generalize hB:w.heap.size=B at *;have e1:¬ 0 < (nb:Int):=by omega
 have e1d:decide (0 < (nb:Int))=false:=decide_eq_false e1;have e1l:¬ 4096 < (nb:Int):=by omega
 have e1m:decide (4096 < (nb:Int))=false:=decide_eq_false e1l;have gNb:(N !=0)=false:=by simpa using hN
 clear hN;have gDn:¬ 8≤D:=by omega
 have gD:decide (8≤D)=false:=decide_eq_false gDn;have gi:0 < (ni:Int):=by omega
 have gid:decide (0 < (ni:Int))=true:=decide_eq_true gi;have gni:(ni:Int)≤9223372036854775807:=by omega
 have go2:((ni:Int) % 2 !=0)=true:=by simp;omega
 have go3:(ni:Int) % 2=1:=by omega
 clear h hc ho;go_enter Tryd.func58,Tryd.ntmps58
 go_upto_region 1 with fail
 generalize w.alloc (.cells #[.int .i64 5,.int .u64 N,.slice ab nb cb,.slice ai ni ci] 31)=w1 at *;go_wp2_with fail
 go_ret
 exact ⟨rfl,hB ▸ HP.out⟩
set_option maxHeartbeats 8000000 in
theorem left_5_many (N X D:Int) (ab ai:Option Addr) (nb cb ni ci:Nat) (w:World) (g0:0≤X) (g1:X≤256) (hx:¬ X < 1) (h:nb=0) (hN:N=0) (hD:D < 8) (ho:ni % 2=0) (hm:X - 1 < (ni:Int)) (hc:ni≤9223372036854775807):
 Calls Tryd.prog 58 #[.agg #[.int .i64 5,.int .u64 N,.slice ab nb cb,.slice ai ni ci],.int .i64 X,.int .i64 D] w (LP (-1) w):=by
 have P0:=al w (.cells #[.int .i64 5,.int .u64 N,.slice ab nb cb,.slice ai ni ci] 31);have N0:=aw w (.cells #[.int .i64 5,.int .u64 N,.slice ab nb cb,.slice ai ni ci] 31);obtain ⟨x0,x1,x2,x3⟩:=cf N0;have HP:=dh P0;have HN0:=dh N0;clear P0 N0;generalize hB:w.heap.size=B at *;have e1:¬ 0 < (nb:Int):=by omega
 have e1d:decide (0 < (nb:Int))=false:=decide_eq_false e1;have e1l:¬ 4096 < (nb:Int):=by omega
 have e1m:decide (4096 < (nb:Int))=false:=decide_eq_false e1l;have gNb:(N !=0)=false:=by simpa using hN
 clear hN;have gDn:¬ 8≤D:=by omega
 have gD:decide (8≤D)=false:=decide_eq_false gDn;have gi:0 < (ni:Int):=by omega
 have gid:decide (0 < (ni:Int))=true:=decide_eq_true gi;have gni:(ni:Int)≤9223372036854775807:=by omega
 have go2:((ni:Int) % 2 !=0)=false:=by simp;omega
 have go3:(ni:Int) % 2=0:=by omega
 clear h hc ho;go_enter Tryd.func58,Tryd.ntmps58
 go_upto_region 1 with fail
 generalize w.alloc (.cells #[.int .i64 5,.int .u64 N,.slice ab nb cb,.slice ai ni ci] 31)=w1 at *;go_wp2_with fail
 go_ret
 exact ⟨rfl,hB ▸ HP.out⟩
set_option maxHeartbeats 8000000 in
theorem left_4_empty (N X D:Int) (ab ai:Option Addr) (nb cb ni ci:Nat) (w:World) (g0:0≤X) (g1:X≤256) (hx:¬ X < 1) (h:nb=0) (hN:N=0) (hD:D < 8) (h2:ni=0):
 Calls Tryd.prog 58 #[.agg #[.int .i64 4,.int .u64 N,.slice ab nb cb,.slice ai ni ci],.int .i64 X,.int .i64 D] w (LP (X - 1) w):=by
 have P0:=al w (.cells #[.int .i64 4,.int .u64 N,.slice ab nb cb,.slice ai ni ci] 31);have N0:=aw w (.cells #[.int .i64 4,.int .u64 N,.slice ab nb cb,.slice ai ni ci] 31);obtain ⟨x0,x1,x2,x3⟩:=cf N0;have HP:=dh P0;have HN0:=dh N0;clear P0 N0;generalize hB:w.heap.size=B at *;have e1:¬ 0 < (nb:Int):=by omega
 have e1d:decide (0 < (nb:Int))=false:=decide_eq_false e1;have e1l:¬ 4096 < (nb:Int):=by omega
 have e1m:decide (4096 < (nb:Int))=false:=decide_eq_false e1l;have gNb:(N !=0)=false:=by simpa using hN
 clear hN;have gDn:¬ 8≤D:=by omega
 have gD:decide (8≤D)=false:=decide_eq_false gDn;have e2:¬ 0 < (ni:Int):=by omega
 have e2d:decide (0 < (ni:Int))=false:=decide_eq_false e2;have e3:¬ X - 1 < (ni:Int):=by omega
 clear h h2;go_enter Tryd.func58,Tryd.ntmps58
 go_upto_region 1 with fail
 generalize w.alloc (.cells #[.int .i64 4,.int .u64 N,.slice ab nb cb,.slice ai ni ci] 31)=w1 at *;go_wp2_with fail
 clear x0 x1 x2 x3;go_loopw [1,157] (fun n i W=>n=.int .i64 (X - 1)∧i=.int .i64 0∧Below w1.heap.size w1 W) (fun _ _ _=>0)
 case atStart=>exact ⟨rfl,rfl,Below.refl _ _⟩
 case round=>
  obtain ⟨rfl,rfl,hW⟩:=hrel;have HW:=dh hW;clear hW;obtain ⟨x0,x1,x2,x3⟩:=cf (Below.keep HW.out HN0.out (lb HN0.out));go_wp2_with fail
  clear x0 x1 x2 x3;go_loopw [11] (fun i W=>i=.int .i64 2∧Below w1.heap.size w1 W) (fun _ _=>0)
  case atStart=>exact ⟨rfl,HW.out⟩
  case round=>
   clear HW;obtain ⟨rfl,hW⟩:=hrel;have HW:=dh hW;clear hW;obtain ⟨x0,x1,x2,x3⟩:=cf (Below.keep HW.out HN0.out (lb HN0.out));go_wp2_with fail
   go_ret
   exact ⟨rfl,by rw [hB];exact HP.out.trans (HW.out.mono (by have:=HP.out.size;omega))⟩
set_option maxHeartbeats 8000000 in
theorem left_5_empty (N X D:Int) (ab ai:Option Addr) (nb cb ni ci:Nat) (w:World) (g0:0≤X) (g1:X≤256) (hx:¬ X < 1) (h:nb=0) (hN:N=0) (hD:D < 8) (h2:ni=0):
 Calls Tryd.prog 58 #[.agg #[.int .i64 5,.int .u64 N,.slice ab nb cb,.slice ai ni ci],.int .i64 X,.int .i64 D] w (LP (X - 1) w):=by
 have P0:=al w (.cells #[.int .i64 5,.int .u64 N,.slice ab nb cb,.slice ai ni ci] 31);have N0:=aw w (.cells #[.int .i64 5,.int .u64 N,.slice ab nb cb,.slice ai ni ci] 31);obtain ⟨x0,x1,x2,x3⟩:=cf N0;have HP:=dh P0;have HN0:=dh N0;clear P0 N0;generalize hB:w.heap.size=B at *;have e1:¬ 0 < (nb:Int):=by omega
 have e1d:decide (0 < (nb:Int))=false:=decide_eq_false e1;have e1l:¬ 4096 < (nb:Int):=by omega
 have e1m:decide (4096 < (nb:Int))=false:=decide_eq_false e1l;have gNb:(N !=0)=false:=by simpa using hN
 clear hN;have gDn:¬ 8≤D:=by omega
 have gD:decide (8≤D)=false:=decide_eq_false gDn;have e2:¬ 0 < (ni:Int):=by omega
 have e2d:decide (0 < (ni:Int))=false:=decide_eq_false e2;have e3:¬ X - 1 < (ni:Int):=by omega
 have go2:((ni:Int) % 2 !=0)=false:=by simp;omega
 have go3:(ni:Int) % 2=0:=by omega
 clear h h2;go_enter Tryd.func58,Tryd.ntmps58
 go_upto_region 1 with fail
 generalize w.alloc (.cells #[.int .i64 5,.int .u64 N,.slice ab nb cb,.slice ai ni ci] 31)=w1 at *;go_wp2_with fail
 clear x0 x1 x2 x3;go_loopw [1,157] (fun n i W=>n=.int .i64 (X - 1)∧i=.int .i64 0∧Below w1.heap.size w1 W) (fun _ _ _=>0)
 case atStart=>exact ⟨rfl,rfl,Below.refl _ _⟩
 case round=>
  obtain ⟨rfl,rfl,hW⟩:=hrel;have HW:=dh hW;clear hW;obtain ⟨x0,x1,x2,x3⟩:=cf (Below.keep HW.out HN0.out (lb HN0.out));go_wp2_with fail
  clear x0 x1 x2 x3;go_loopw [11] (fun i W=>i=.int .i64 2∧Below w1.heap.size w1 W) (fun _ _=>0)
  case atStart=>exact ⟨rfl,HW.out⟩
  case round=>
   clear HW;obtain ⟨rfl,hW⟩:=hrel;have HW:=dh hW;clear hW;obtain ⟨x0,x1,x2,x3⟩:=cf (Below.keep HW.out HN0.out (lb HN0.out));go_wp2_with fail
   go_ret
   exact ⟨rfl,by rw [hB];exact HP.out.trans (HW.out.mono (by have:=HP.out.size;omega))⟩
end Go.Proofs.YtelefkkkccilaaaDoor
