/- The walk of the reference's look at an item, strings and floats. -/
import Derived.Test.YtelefkkkccilaaaDoorXe
set_option linter.unusedVariables false
set_option linter.unusedSimpArgs false
namespace Go.Proofs.YtelefkkkccilaaaDoor
open Go.RowKit
set_option maxRecDepth 100000
set_option maxHeartbeats 8000000 in
theorem left_2_items (N X D:Int) (ab ai:Option Addr) (nb cb ni ci:Nat) (w:World) (g0:0≤X) (g1:X≤256) (hx:¬ X < 1) (h2:0 < (ni:Int)):
 Calls Tryd.prog 58 #[.agg #[.int .i64 2,.int .u64 N,.slice ab nb cb,.slice ai ni ci],.int .i64 X,.int .i64 D] w (LP (-1) w):=by
 have P0:=al w (.cells #[.int .i64 2,.int .u64 N,.slice ab nb cb,.slice ai ni ci] 31);have N0:=aw w (.cells #[.int .i64 2,.int .u64 N,.slice ab nb cb,.slice ai ni ci] 31);obtain ⟨x0,x1,x2,x3⟩:=cf N0;have HP:=dh P0;have HN0:=dh N0;clear P0 N0;generalize hB:w.heap.size=B at *;by_cases gsnb:0 < (nb:Int)
 ·have gsd:decide (0 < (nb:Int))=true:=decide_eq_true gsnb
  go_enter Tryd.func58,Tryd.ntmps58
  go_upto_region 1 with fail
  generalize w.alloc (.cells #[.int .i64 2,.int .u64 N,.slice ab nb cb,.slice ai ni ci] 31)=w1 at *;go_wp2_with fail
  go_ret
  exact ⟨rfl,hB ▸ HP.out⟩
 ·have gsd:decide (0 < (nb:Int))=false:=decide_eq_false gsnb
  go_enter Tryd.func58,Tryd.ntmps58
  go_upto_region 1 with fail
  generalize w.alloc (.cells #[.int .i64 2,.int .u64 N,.slice ab nb cb,.slice ai ni ci] 31)=w1 at *;go_wp2_with fail
  go_ret
  exact ⟨rfl,hB ▸ HP.out⟩
set_option maxHeartbeats 8000000 in
theorem left_2_num (N X D:Int) (ab ai:Option Addr) (nb cb ni ci:Nat) (w:World) (g0:0≤X) (g1:X≤256) (hx:¬ X < 1) (h2:ni=0) (hN:N≠0):
 Calls Tryd.prog 58 #[.agg #[.int .i64 2,.int .u64 N,.slice ab nb cb,.slice ai ni ci],.int .i64 X,.int .i64 D] w (LP (-1) w):=by
 have P0:=al w (.cells #[.int .i64 2,.int .u64 N,.slice ab nb cb,.slice ai ni ci] 31);have N0:=aw w (.cells #[.int .i64 2,.int .u64 N,.slice ab nb cb,.slice ai ni ci] 31);obtain ⟨x0,x1,x2,x3⟩:=cf N0;have HP:=dh P0;have HN0:=dh N0;clear P0 N0;generalize hB:w.heap.size=B at *;have e2:¬ 0 < (ni:Int):=by omega
 have e2d:decide (0 < (ni:Int))=false:=decide_eq_false e2;have e3:¬ X - 1 < (ni:Int):=by omega
 have gNb:(N !=0)=true:=by simpa using hN
 clear h2;by_cases gsnb:0 < (nb:Int)
 ·have gsd:decide (0 < (nb:Int))=true:=decide_eq_true gsnb
  go_enter Tryd.func58,Tryd.ntmps58
  go_upto_region 1 with fail
  generalize w.alloc (.cells #[.int .i64 2,.int .u64 N,.slice ab nb cb,.slice ai ni ci] 31)=w1 at *;go_wp2_with fail
  go_ret
  exact ⟨rfl,hB ▸ HP.out⟩
 ·have gsd:decide (0 < (nb:Int))=false:=decide_eq_false gsnb
  go_enter Tryd.func58,Tryd.ntmps58
  go_upto_region 1 with fail
  generalize w.alloc (.cells #[.int .i64 2,.int .u64 N,.slice ab nb cb,.slice ai ni ci] 31)=w1 at *;go_wp2_with fail
  go_ret
  exact ⟨rfl,hB ▸ HP.out⟩
set_option maxHeartbeats 8000000 in
theorem left_2_long (N X D:Int) (ab ai:Option Addr) (nb cb ni ci:Nat) (w:World) (g0:0≤X) (g1:X≤256) (hx:¬ X < 1) (h2:ni=0) (hN:N=0) (h:4096 < (nb:Int)):
 Calls Tryd.prog 58 #[.agg #[.int .i64 2,.int .u64 N,.slice ab nb cb,.slice ai ni ci],.int .i64 X,.int .i64 D] w (LP (-1) w):=by
 have P0:=al w (.cells #[.int .i64 2,.int .u64 N,.slice ab nb cb,.slice ai ni ci] 31);have N0:=aw w (.cells #[.int .i64 2,.int .u64 N,.slice ab nb cb,.slice ai ni ci] 31);obtain ⟨x0,x1,x2,x3⟩:=cf N0;have HP:=dh P0;have HN0:=dh N0;clear P0 N0;generalize hB:w.heap.size=B at *;have e2:¬ 0 < (ni:Int):=by omega
 have e2d:decide (0 < (ni:Int))=false:=decide_eq_false e2;have e3:¬ X - 1 < (ni:Int):=by omega
 have gNb:(N !=0)=false:=by simpa using hN
 clear hN;have gb:0 < (nb:Int):=by omega
 have gsd:decide (0 < (nb:Int))=true:=decide_eq_true gb;clear h2;go_enter Tryd.func58,Tryd.ntmps58
 go_upto_region 1 with fail
 generalize w.alloc (.cells #[.int .i64 2,.int .u64 N,.slice ab nb cb,.slice ai ni ci] 31)=w1 at *;go_wp2_with fail
 go_ret
 exact ⟨rfl,hB ▸ HP.out⟩
set_option maxHeartbeats 8000000 in
theorem left_3_items (N X D:Int) (ab ai:Option Addr) (nb cb ni ci:Nat) (w:World) (g0:0≤X) (g1:X≤256) (hx:¬ X < 1) (h2:0 < (ni:Int)):
 Calls Tryd.prog 58 #[.agg #[.int .i64 3,.int .u64 N,.slice ab nb cb,.slice ai ni ci],.int .i64 X,.int .i64 D] w (LP (-1) w):=by
 have P0:=al w (.cells #[.int .i64 3,.int .u64 N,.slice ab nb cb,.slice ai ni ci] 31);have N0:=aw w (.cells #[.int .i64 3,.int .u64 N,.slice ab nb cb,.slice ai ni ci] 31);obtain ⟨x0,x1,x2,x3⟩:=cf N0;have HP:=dh P0;have HN0:=dh N0;clear P0 N0;generalize hB:w.heap.size=B at *;by_cases gsnb:0 < (nb:Int)
 ·have gsd:decide (0 < (nb:Int))=true:=decide_eq_true gsnb
  go_enter Tryd.func58,Tryd.ntmps58
  go_upto_region 1 with fail
  generalize w.alloc (.cells #[.int .i64 3,.int .u64 N,.slice ab nb cb,.slice ai ni ci] 31)=w1 at *;go_wp2_with fail
  go_ret
  exact ⟨rfl,hB ▸ HP.out⟩
 ·have gsd:decide (0 < (nb:Int))=false:=decide_eq_false gsnb
  go_enter Tryd.func58,Tryd.ntmps58
  go_upto_region 1 with fail
  generalize w.alloc (.cells #[.int .i64 3,.int .u64 N,.slice ab nb cb,.slice ai ni ci] 31)=w1 at *;go_wp2_with fail
  go_ret
  exact ⟨rfl,hB ▸ HP.out⟩
set_option maxHeartbeats 8000000 in
theorem left_3_num (N X D:Int) (ab ai:Option Addr) (nb cb ni ci:Nat) (w:World) (g0:0≤X) (g1:X≤256) (hx:¬ X < 1) (h2:ni=0) (hN:N≠0):
 Calls Tryd.prog 58 #[.agg #[.int .i64 3,.int .u64 N,.slice ab nb cb,.slice ai ni ci],.int .i64 X,.int .i64 D] w (LP (-1) w):=by
 have P0:=al w (.cells #[.int .i64 3,.int .u64 N,.slice ab nb cb,.slice ai ni ci] 31);have N0:=aw w (.cells #[.int .i64 3,.int .u64 N,.slice ab nb cb,.slice ai ni ci] 31);obtain ⟨x0,x1,x2,x3⟩:=cf N0;have HP:=dh P0;have HN0:=dh N0;clear P0 N0;generalize hB:w.heap.size=B at *;have e2:¬ 0 < (ni:Int):=by omega
 have e2d:decide (0 < (ni:Int))=false:=decide_eq_false e2;have e3:¬ X - 1 < (ni:Int):=by omega
 have gNb:(N !=0)=true:=by simpa using hN
 clear h2;by_cases gsnb:0 < (nb:Int)
 ·have gsd:decide (0 < (nb:Int))=true:=decide_eq_true gsnb
  go_enter Tryd.func58,Tryd.ntmps58
  go_upto_region 1 with fail
  generalize w.alloc (.cells #[.int .i64 3,.int .u64 N,.slice ab nb cb,.slice ai ni ci] 31)=w1 at *;go_wp2_with fail
  go_ret
  exact ⟨rfl,hB ▸ HP.out⟩
 ·have gsd:decide (0 < (nb:Int))=false:=decide_eq_false gsnb
  go_enter Tryd.func58,Tryd.ntmps58
  go_upto_region 1 with fail
  generalize w.alloc (.cells #[.int .i64 3,.int .u64 N,.slice ab nb cb,.slice ai ni ci] 31)=w1 at *;go_wp2_with fail
  go_ret
  exact ⟨rfl,hB ▸ HP.out⟩
set_option maxHeartbeats 8000000 in
theorem left_3_long (N X D:Int) (ab ai:Option Addr) (nb cb ni ci:Nat) (w:World) (g0:0≤X) (g1:X≤256) (hx:¬ X < 1) (h2:ni=0) (hN:N=0) (h:4096 < (nb:Int)):
 Calls Tryd.prog 58 #[.agg #[.int .i64 3,.int .u64 N,.slice ab nb cb,.slice ai ni ci],.int .i64 X,.int .i64 D] w (LP (-1) w):=by
 have P0:=al w (.cells #[.int .i64 3,.int .u64 N,.slice ab nb cb,.slice ai ni ci] 31);have N0:=aw w (.cells #[.int .i64 3,.int .u64 N,.slice ab nb cb,.slice ai ni ci] 31);obtain ⟨x0,x1,x2,x3⟩:=cf N0;have HP:=dh P0;have HN0:=dh N0;clear P0 N0;generalize hB:w.heap.size=B at *;have e2:¬ 0 < (ni:Int):=by omega
 have e2d:decide (0 < (ni:Int))=false:=decide_eq_false e2;have e3:¬ X - 1 < (ni:Int):=by omega
 have gNb:(N !=0)=false:=by simpa using hN
 clear hN;have gb:0 < (nb:Int):=by omega
 have gsd:decide (0 < (nb:Int))=true:=decide_eq_true gb;clear h2;go_enter Tryd.func58,Tryd.ntmps58
 go_upto_region 1 with fail
 generalize w.alloc (.cells #[.int .i64 3,.int .u64 N,.slice ab nb cb,.slice ai ni ci] 31)=w1 at *;go_wp2_with fail
 go_ret
 exact ⟨rfl,hB ▸ HP.out⟩
set_option maxHeartbeats 8000000 in
theorem left_2 (N X D:Int) (ab ai:Option Addr) (nb cb ni ci:Nat) (w:World) (g0:0≤X) (g1:X≤256) (hx:¬ X < 1) (h2:ni=0) (hN:N=0) (h:¬ 4096 < (nb:Int)):
 Calls Tryd.prog 58 #[.agg #[.int .i64 2,.int .u64 N,.slice ab nb cb,.slice ai ni ci],.int .i64 X,.int .i64 D] w (LP (X - 1) w):=by
 have P0:=al w (.cells #[.int .i64 2,.int .u64 N,.slice ab nb cb,.slice ai ni ci] 31);have N0:=aw w (.cells #[.int .i64 2,.int .u64 N,.slice ab nb cb,.slice ai ni ci] 31);obtain ⟨x0,x1,x2,x3⟩:=cf N0;have HP:=dh P0;have HN0:=dh N0;clear P0 N0;generalize hB:w.heap.size=B at *;have e2:¬ 0 < (ni:Int):=by omega
 have e2d:decide (0 < (ni:Int))=false:=decide_eq_false e2;have e3:¬ X - 1 < (ni:Int):=by omega
 have gNb:(N !=0)=false:=by simpa using hN
 clear hN;have gl:decide (4096 < (nb:Int))=false:=decide_eq_false h;clear h2;by_cases gsnb:0 < (nb:Int)
 ·have gsd:decide (0 < (nb:Int))=true:=decide_eq_true gsnb
  go_enter Tryd.func58,Tryd.ntmps58
  go_upto_region 1 with fail
  generalize w.alloc (.cells #[.int .i64 2,.int .u64 N,.slice ab nb cb,.slice ai ni ci] 31)=w1 at *;go_wp2_with fail
  clear x0 x1 x2 x3;go_loopw [1,157] (fun n i W=>n=.int .i64 (X - 1)∧i=.int .i64 0∧Below w1.heap.size w1 W) (fun _ _ _=>0)
  case atStart=>exact ⟨rfl,rfl,Below.refl _ _⟩
  case round=>
   obtain ⟨rfl,rfl,hW⟩:=hrel;have HW:=dh hW;clear hW;obtain ⟨x0,x1,x2,x3⟩:=cf (Below.keep HW.out HN0.out (lb HN0.out));go_wp2_with fail
   clear x0 x1 x2 x3;go_loopw [11] (fun i W=>i=.int .i64 2∧Below w1.heap.size w1 W) (fun _ _=>0)
   case atStart=>exact ⟨rfl,HW.out⟩
   case round=>
    clear HW;obtain ⟨rfl,hW⟩:=hrel;have HW:=dh hW;clear hW;obtain ⟨x0,x1,x2,x3⟩:=cf (Below.keep HW.out HN0.out (lb HN0.out));go_wp2_with fail
    go_ret
    exact ⟨rfl,by rw [hB];exact HP.out.trans (HW.out.mono (by have:=HP.out.size;omega))⟩
 ·have gsd:decide (0 < (nb:Int))=false:=decide_eq_false gsnb
  go_enter Tryd.func58,Tryd.ntmps58
  go_upto_region 1 with fail
  generalize w.alloc (.cells #[.int .i64 2,.int .u64 N,.slice ab nb cb,.slice ai ni ci] 31)=w1 at *;go_wp2_with fail
  clear x0 x1 x2 x3;go_loopw [1,157] (fun n i W=>n=.int .i64 (X - 1)∧i=.int .i64 0∧Below w1.heap.size w1 W) (fun _ _ _=>0)
  case atStart=>exact ⟨rfl,rfl,Below.refl _ _⟩
  case round=>
   obtain ⟨rfl,rfl,hW⟩:=hrel;have HW:=dh hW;clear hW;obtain ⟨x0,x1,x2,x3⟩:=cf (Below.keep HW.out HN0.out (lb HN0.out));go_wp2_with fail
   clear x0 x1 x2 x3;go_loopw [11] (fun i W=>i=.int .i64 2∧Below w1.heap.size w1 W) (fun _ _=>0)
   case atStart=>exact ⟨rfl,HW.out⟩
   case round=>
    clear HW;obtain ⟨rfl,hW⟩:=hrel;have HW:=dh hW;clear hW;obtain ⟨x0,x1,x2,x3⟩:=cf (Below.keep HW.out HN0.out (lb HN0.out));go_wp2_with fail
    go_ret
    exact ⟨rfl,by rw [hB];exact HP.out.trans (HW.out.mono (by have:=HP.out.size;omega))⟩
set_option maxHeartbeats 8000000 in
theorem left_3_text (N X D:Int) (ab ai:Option Addr) (nb cb ni ci:Nat) (w:World) (g0:0≤X) (g1:X≤256) (hx:¬ X < 1) (h2:ni=0) (hN:N=0) (h:¬ 4096 < (nb:Int)) (hV:∀ W,Below w.heap.size w W→Calls Tryd.prog 55 #[.slice ab nb cb] W fun e w'=>e=.returned (.bool false)∧Below W.heap.size W w'):
 Calls Tryd.prog 58 #[.agg #[.int .i64 3,.int .u64 N,.slice ab nb cb,.slice ai ni ci],.int .i64 X,.int .i64 D] w (LP (-1) w):=by
 have P0:=al w (.cells #[.int .i64 3,.int .u64 N,.slice ab nb cb,.slice ai ni ci] 31);have N0:=aw w (.cells #[.int .i64 3,.int .u64 N,.slice ab nb cb,.slice ai ni ci] 31);obtain ⟨x0,x1,x2,x3⟩:=cf N0;have HP:=dh P0;have HN0:=dh N0;clear P0 N0;generalize hB:w.heap.size=B at *;have e2:¬ 0 < (ni:Int):=by omega
 have e2d:decide (0 < (ni:Int))=false:=decide_eq_false e2;have e3:¬ X - 1 < (ni:Int):=by omega
 have gNb:(N !=0)=false:=by simpa using hN
 clear hN;have gl:decide (4096 < (nb:Int))=false:=decide_eq_false h;have HV:=dh hV;clear h2 hV;by_cases gsnb:0 < (nb:Int)
 ·have gsd:decide (0 < (nb:Int))=true:=decide_eq_true gsnb
  go_enter Tryd.func58,Tryd.ntmps58
  go_upto_region 1 with fail
  generalize w.alloc (.cells #[.int .i64 3,.int .u64 N,.slice ab nb cb,.slice ai ni ci] 31)=w1 at *;go_wp2_with fail
  refine (HV.out w1 (hB ▸ HP.out)).mono ?_;rintro e u ⟨rfl,hU⟩;have HU:=dh hU;clear hU x0 x1 x2 x3;obtain ⟨x0,x1,x2,x3⟩:=cf (Below.keep HU.out HN0.out (lb HN0.out));go_wp2_with fail
  go_ret
  exact ⟨rfl,by rw [hB];exact HP.out.trans (HU.out.mono (by have:=HP.out.size;omega))⟩
 ·have gsd:decide (0 < (nb:Int))=false:=decide_eq_false gsnb
  go_enter Tryd.func58,Tryd.ntmps58
  go_upto_region 1 with fail
  generalize w.alloc (.cells #[.int .i64 3,.int .u64 N,.slice ab nb cb,.slice ai ni ci] 31)=w1 at *;go_wp2_with fail
  refine (HV.out w1 (hB ▸ HP.out)).mono ?_;rintro e u ⟨rfl,hU⟩;have HU:=dh hU;clear hU x0 x1 x2 x3;obtain ⟨x0,x1,x2,x3⟩:=cf (Below.keep HU.out HN0.out (lb HN0.out));go_wp2_with fail
  go_ret
  exact ⟨rfl,by rw [hB];exact HP.out.trans (HU.out.mono (by have:=HP.out.size;omega))⟩
set_option maxHeartbeats 8000000 in
theorem left_3 (N X D:Int) (ab ai:Option Addr) (nb cb ni ci:Nat) (w:World) (g0:0≤X) (g1:X≤256) (hx:¬ X < 1) (h2:ni=0) (hN:N=0) (h:¬ 4096 < (nb:Int)) (hV:∀ W,Below w.heap.size w W→Calls Tryd.prog 55 #[.slice ab nb cb] W fun e w'=>e=.returned (.bool true)∧Below W.heap.size W w'):
 Calls Tryd.prog 58 #[.agg #[.int .i64 3,.int .u64 N,.slice ab nb cb,.slice ai ni ci],.int .i64 X,.int .i64 D] w (LP (X - 1) w):=by
 have P0:=al w (.cells #[.int .i64 3,.int .u64 N,.slice ab nb cb,.slice ai ni ci] 31);have N0:=aw w (.cells #[.int .i64 3,.int .u64 N,.slice ab nb cb,.slice ai ni ci] 31);obtain ⟨x0,x1,x2,x3⟩:=cf N0;have HP:=dh P0;have HN0:=dh N0;clear P0 N0;generalize hB:w.heap.size=B at *;have e2:¬ 0 < (ni:Int):=by omega
 have e2d:decide (0 < (ni:Int))=false:=decide_eq_false e2;have e3:¬ X - 1 < (ni:Int):=by omega
 have gNb:(N !=0)=false:=by simpa using hN
 clear hN;have gl:decide (4096 < (nb:Int))=false:=decide_eq_false h;have HV:=dh hV;clear h2 hV;by_cases gsnb:0 < (nb:Int)
 ·have gsd:decide (0 < (nb:Int))=true:=decide_eq_true gsnb
  go_enter Tryd.func58,Tryd.ntmps58
  go_upto_region 1 with fail
  generalize w.alloc (.cells #[.int .i64 3,.int .u64 N,.slice ab nb cb,.slice ai ni ci] 31)=w1 at *;go_wp2_with fail
  refine (HV.out w1 (hB ▸ HP.out)).mono ?_;rintro e u ⟨rfl,hU⟩;have HU:=dh hU;clear hU x0 x1 x2 x3;obtain ⟨x0,x1,x2,x3⟩:=cf (Below.keep HU.out HN0.out (lb HN0.out));go_wp2_with fail
  clear x0 x1 x2 x3;go_loopw [1,157] (fun n i W=>n=.int .i64 (X - 1)∧i=.int .i64 0∧Below w1.heap.size w1 W) (fun _ _ _=>0)
  case atStart=>exact ⟨rfl,rfl,HU.out⟩
  case round=>
   obtain ⟨rfl,rfl,hW⟩:=hrel;have HW:=dh hW;clear hW;obtain ⟨x0,x1,x2,x3⟩:=cf (Below.keep HW.out HN0.out (lb HN0.out));go_wp2_with fail
   clear x0 x1 x2 x3;go_loopw [11] (fun i W=>i=.int .i64 2∧Below w1.heap.size w1 W) (fun _ _=>0)
   case atStart=>exact ⟨rfl,HW.out⟩
   case round=>
    clear HW;obtain ⟨rfl,hW⟩:=hrel;have HW:=dh hW;clear hW;obtain ⟨x0,x1,x2,x3⟩:=cf (Below.keep HW.out HN0.out (lb HN0.out));go_wp2_with fail
    go_ret
    exact ⟨rfl,by rw [hB];exact HP.out.trans (HW.out.mono (by have:=HP.out.size;omega))⟩
 ·have gsd:decide (0 < (nb:Int))=false:=decide_eq_false gsnb
  go_enter Tryd.func58,Tryd.ntmps58
  go_upto_region 1 with fail
  generalize w.alloc (.cells #[.int .i64 3,.int .u64 N,.slice ab nb cb,.slice ai ni ci] 31)=w1 at *;go_wp2_with fail
  refine (HV.out w1 (hB ▸ HP.out)).mono ?_;rintro e u ⟨rfl,hU⟩;have HU:=dh hU;clear hU x0 x1 x2 x3;obtain ⟨x0,x1,x2,x3⟩:=cf (Below.keep HU.out HN0.out (lb HN0.out));go_wp2_with fail
  clear x0 x1 x2 x3;go_loopw [1,157] (fun n i W=>n=.int .i64 (X - 1)∧i=.int .i64 0∧Below w1.heap.size w1 W) (fun _ _ _=>0)
  case atStart=>exact ⟨rfl,rfl,HU.out⟩
  case round=>
   obtain ⟨rfl,rfl,hW⟩:=hrel;have HW:=dh hW;clear hW;obtain ⟨x0,x1,x2,x3⟩:=cf (Below.keep HW.out HN0.out (lb HN0.out));go_wp2_with fail
   clear x0 x1 x2 x3;go_loopw [11] (fun i W=>i=.int .i64 2∧Below w1.heap.size w1 W) (fun _ _=>0)
   case atStart=>exact ⟨rfl,HW.out⟩
   case round=>
    clear HW;obtain ⟨rfl,hW⟩:=hrel;have HW:=dh hW;clear hW;obtain ⟨x0,x1,x2,x3⟩:=cf (Below.keep HW.out HN0.out (lb HN0.out));go_wp2_with fail
    go_ret
    exact ⟨rfl,by rw [hB];exact HP.out.trans (HW.out.mono (by have:=HP.out.size;omega))⟩
set_option maxHeartbeats 8000000 in
theorem left_8_bad (N X D:Int) (ab ai:Option Addr) (nb cb ni ci:Nat) (w:World) (g0:0≤X) (g1:X≤256) (hx:¬ X < 1) (h:nb=0) (h2:ni=0) (hN:N≠0) (hn:N≠9221120237041090560) (hV:∀ W,Calls Tryd.prog 57 #[.int .u64 N] W fun e w'=>e=.returned (.bool true)∧W=w'):
 Calls Tryd.prog 58 #[.agg #[.int .i64 8,.int .u64 N,.slice ab nb cb,.slice ai ni ci],.int .i64 X,.int .i64 D] w (LP (-1) w):=by
 have P0:=al w (.cells #[.int .i64 8,.int .u64 N,.slice ab nb cb,.slice ai ni ci] 31);have N0:=aw w (.cells #[.int .i64 8,.int .u64 N,.slice ab nb cb,.slice ai ni ci] 31);obtain ⟨x0,x1,x2,x3⟩:=cf N0;have HP:=dh P0;have HN0:=dh N0;clear P0 N0;generalize hB:w.heap.size=B at *;have gNb:(N !=0)=true:=by simpa using hN
 have gq:(N !=9221120237041090560)=true:=by simpa using hn
 have e1:¬ 0 < (nb:Int):=by omega
 have e1d:decide (0 < (nb:Int))=false:=decide_eq_false e1;have e2:¬ 0 < (ni:Int):=by omega
 have e2d:decide (0 < (ni:Int))=false:=decide_eq_false e2;have e3:¬ X - 1 < (ni:Int):=by omega
 have HV:=dh hV;clear h h2 hV;go_enter Tryd.func58,Tryd.ntmps58
 go_upto_region 1 with fail
 generalize w.alloc (.cells #[.int .i64 8,.int .u64 N,.slice ab nb cb,.slice ai ni ci] 31)=w1 at *;go_wp2_with fail
 refine (HV.out w1).mono ?_;rintro e u ⟨rfl,rfl⟩;go_wp2_with fail
 go_ret
 exact ⟨rfl,hB ▸ HP.out⟩
set_option maxHeartbeats 8000000 in
theorem left_8_nan (N X D:Int) (ab ai:Option Addr) (nb cb ni ci:Nat) (w:World) (g0:0≤X) (g1:X≤256) (hx:¬ X < 1) (h:nb=0) (h2:ni=0) (hN:N≠0) (hn:N=9221120237041090560) (hV:∀ W,Calls Tryd.prog 57 #[.int .u64 N] W fun e w'=>e=.returned (.bool true)∧W=w'):
 Calls Tryd.prog 58 #[.agg #[.int .i64 8,.int .u64 N,.slice ab nb cb,.slice ai ni ci],.int .i64 X,.int .i64 D] w (LP (X - 1) w):=by
 have P0:=al w (.cells #[.int .i64 8,.int .u64 N,.slice ab nb cb,.slice ai ni ci] 31);have N0:=aw w (.cells #[.int .i64 8,.int .u64 N,.slice ab nb cb,.slice ai ni ci] 31);obtain ⟨x0,x1,x2,x3⟩:=cf N0;have HP:=dh P0;have HN0:=dh N0;clear P0 N0;generalize hB:w.heap.size=B at *;have gNb:(N !=0)=true:=by simpa using hN
 have gq:(N !=9221120237041090560)=false:=by simpa using hn
 clear hn;have e1:¬ 0 < (nb:Int):=by omega
 have e1d:decide (0 < (nb:Int))=false:=decide_eq_false e1;have e2:¬ 0 < (ni:Int):=by omega
 have e2d:decide (0 < (ni:Int))=false:=decide_eq_false e2;have e3:¬ X - 1 < (ni:Int):=by omega
 have HV:=dh hV;clear h h2 hV;go_enter Tryd.func58,Tryd.ntmps58
 go_upto_region 1 with fail
 generalize w.alloc (.cells #[.int .i64 8,.int .u64 N,.slice ab nb cb,.slice ai ni ci] 31)=w1 at *;go_wp2_with fail
 refine (HV.out w1).mono ?_;rintro e u ⟨rfl,rfl⟩;go_wp2_with fail
 clear x0 x1 x2 x3;go_loopw [1,157] (fun n i W=>n=.int .i64 (X - 1)∧i=.int .i64 0∧Below w1.heap.size w1 W) (fun _ _ _=>0)
 case atStart=>exact ⟨rfl,rfl,Below.refl _ _⟩
 case round=>
  obtain ⟨rfl,rfl,hW⟩:=hrel;have HW:=dh hW;clear hW;obtain ⟨x0,x1,x2,x3⟩:=cf (Below.keep HW.out HN0.out (lb HN0.out));go_wp2_with fail
  clear x0 x1 x2 x3;go_loopw [11] (fun i W=>i=.int .i64 2∧Below w1.heap.size w1 W) (fun _ _=>0)
  case atStart=>exact ⟨rfl,HW.out⟩
  case round=>
   clear HW;obtain ⟨rfl,hW⟩:=hrel;have HW:=dh hW;clear hW;obtain ⟨x0,x1,x2,x3⟩:=cf (Below.keep HW.out HN0.out (lb HN0.out));go_wp2_with fail
   go_ret
   exact ⟨rfl,by rw [hB];exact HP.out.trans (HW.out.mono (by have:=HP.out.size;omega))⟩
set_option maxHeartbeats 8000000 in
theorem left_8 (N X D:Int) (ab ai:Option Addr) (nb cb ni ci:Nat) (w:World) (g0:0≤X) (g1:X≤256) (hx:¬ X < 1) (h:nb=0) (h2:ni=0) (hV:∀ W,Calls Tryd.prog 57 #[.int .u64 N] W fun e w'=>e=.returned (.bool false)∧W=w'):
 Calls Tryd.prog 58 #[.agg #[.int .i64 8,.int .u64 N,.slice ab nb cb,.slice ai ni ci],.int .i64 X,.int .i64 D] w (LP (X - 1) w):=by
 have P0:=al w (.cells #[.int .i64 8,.int .u64 N,.slice ab nb cb,.slice ai ni ci] 31);have N0:=aw w (.cells #[.int .i64 8,.int .u64 N,.slice ab nb cb,.slice ai ni ci] 31);obtain ⟨x0,x1,x2,x3⟩:=cf N0;have HP:=dh P0;have HN0:=dh N0;clear P0 N0;generalize hB:w.heap.size=B at *;have e1:¬ 0 < (nb:Int):=by omega
 have e1d:decide (0 < (nb:Int))=false:=decide_eq_false e1;have e2:¬ 0 < (ni:Int):=by omega
 have e2d:decide (0 < (ni:Int))=false:=decide_eq_false e2;have e3:¬ X - 1 < (ni:Int):=by omega
 have HV:=dh hV;clear h h2 hV;by_cases gsN:N=0
 ·have gNb:(N !=0)=false:=by simpa using gsN
  clear gsN;go_enter Tryd.func58,Tryd.ntmps58
  go_upto_region 1 with fail
  generalize w.alloc (.cells #[.int .i64 8,.int .u64 N,.slice ab nb cb,.slice ai ni ci] 31)=w1 at *;go_wp2_with fail
  refine (HV.out w1).mono ?_;rintro e u ⟨rfl,rfl⟩;go_wp2_with fail
  clear x0 x1 x2 x3;go_loopw [1,157] (fun n i W=>n=.int .i64 (X - 1)∧i=.int .i64 0∧Below w1.heap.size w1 W) (fun _ _ _=>0)
  case atStart=>exact ⟨rfl,rfl,Below.refl _ _⟩
  case round=>
   obtain ⟨rfl,rfl,hW⟩:=hrel;have HW:=dh hW;clear hW;obtain ⟨x0,x1,x2,x3⟩:=cf (Below.keep HW.out HN0.out (lb HN0.out));go_wp2_with fail
   clear x0 x1 x2 x3;go_loopw [11] (fun i W=>i=.int .i64 2∧Below w1.heap.size w1 W) (fun _ _=>0)
   case atStart=>exact ⟨rfl,HW.out⟩
   case round=>
    clear HW;obtain ⟨rfl,hW⟩:=hrel;have HW:=dh hW;clear hW;obtain ⟨x0,x1,x2,x3⟩:=cf (Below.keep HW.out HN0.out (lb HN0.out));go_wp2_with fail
    go_ret
    exact ⟨rfl,by rw [hB];exact HP.out.trans (HW.out.mono (by have:=HP.out.size;omega))⟩
 ·have gNb:(N !=0)=true:=by simpa using gsN
  clear gsN;go_enter Tryd.func58,Tryd.ntmps58
  go_upto_region 1 with fail
  generalize w.alloc (.cells #[.int .i64 8,.int .u64 N,.slice ab nb cb,.slice ai ni ci] 31)=w1 at *;go_wp2_with fail
  refine (HV.out w1).mono ?_;rintro e u ⟨rfl,rfl⟩;go_wp2_with fail
  clear x0 x1 x2 x3;go_loopw [1,157] (fun n i W=>n=.int .i64 (X - 1)∧i=.int .i64 0∧Below w1.heap.size w1 W) (fun _ _ _=>0)
  case atStart=>exact ⟨rfl,rfl,Below.refl _ _⟩
  case round=>
   obtain ⟨rfl,rfl,hW⟩:=hrel;have HW:=dh hW;clear hW;obtain ⟨x0,x1,x2,x3⟩:=cf (Below.keep HW.out HN0.out (lb HN0.out));go_wp2_with fail
   clear x0 x1 x2 x3;go_loopw [11] (fun i W=>i=.int .i64 2∧Below w1.heap.size w1 W) (fun _ _=>0)
   case atStart=>exact ⟨rfl,HW.out⟩
   case round=>
    clear HW;obtain ⟨rfl,hW⟩:=hrel;have HW:=dh hW;clear hW;obtain ⟨x0,x1,x2,x3⟩:=cf (Below.keep HW.out HN0.out (lb HN0.out));go_wp2_with fail
    go_ret
    exact ⟨rfl,by rw [hB];exact HP.out.trans (HW.out.mono (by have:=HP.out.size;omega))⟩
end Go.Proofs.YtelefkkkccilaaaDoor
