/- The walk of the reference's look at an item: the items that are left. -/
import Derived.Test.YtelefkkkccilaaaDoorLF
import Derived.Test.YtelefkkkccilaaaDoorLG
import Derived.Test.YtelefkkkccilaaaDoorLA
set_option linter.unusedVariables false
set_option linter.unusedSimpArgs false
namespace Go.Proofs.YtelefkkkccilaaaDoor
open Go.RowKit
set_option maxRecDepth 100000
def LP (r:Int) (w:World) (e:Ending) (w':World):Prop:=e=.returned (.int .i64 r)∧Below w.heap.size w w'
set_option maxHeartbeats 8000000 in
theorem left_few (k:Int) (N X D:Int) (ab ai:Option Addr) (nb cb ni ci:Nat) (w:World) (g0:0≤X) (g1:X≤256) (h:X < 1):
 Calls Tryd.prog 58 #[.agg #[.int .i64 k,.int .u64 N,.slice ab nb cb,.slice ai ni ci],.int .i64 X,.int .i64 D] w (LP (-1) w):=by
 have P0:=al w (.cells #[.int .i64 k,.int .u64 N,.slice ab nb cb,.slice ai ni ci] 31);have N0:=aw w (.cells #[.int .i64 k,.int .u64 N,.slice ab nb cb,.slice ai ni ci] 31);obtain ⟨x0,x1,x2,x3⟩:=cf N0;have HP:=dh P0;have HN0:=dh N0;clear P0 N0;generalize hB:w.heap.size=B at *;go_enter Tryd.func58,Tryd.ntmps58
 go_upto_region 1 with fail
 generalize w.alloc (.cells #[.int .i64 k,.int .u64 N,.slice ab nb cb,.slice ai ni ci] 31)=w1 at *;go_wp2_with fail
 go_ret
 exact ⟨rfl,hB ▸ HP.out⟩
set_option maxHeartbeats 8000000 in
theorem left_neg (k:Int) (N X D:Int) (ab ai:Option Addr) (nb cb ni ci:Nat) (w:World) (g0:0≤X) (g1:X≤256) (hx:¬ X < 1) (h:k < 0):
 Calls Tryd.prog 58 #[.agg #[.int .i64 k,.int .u64 N,.slice ab nb cb,.slice ai ni ci],.int .i64 X,.int .i64 D] w (LP (-1) w):=by
 have P0:=al w (.cells #[.int .i64 k,.int .u64 N,.slice ab nb cb,.slice ai ni ci] 31);have N0:=aw w (.cells #[.int .i64 k,.int .u64 N,.slice ab nb cb,.slice ai ni ci] 31);obtain ⟨x0,x1,x2,x3⟩:=cf N0;have HP:=dh P0;have HN0:=dh N0;clear P0 N0;generalize hB:w.heap.size=B at *;have a1:(k==4)=false:=beq_f (by omega);have a2:(k==5)=false:=beq_f (by omega);have a3:(k==6)=false:=beq_f (by omega);have a4:(k==2)=false:=beq_f (by omega);have a5:(k==3)=false:=beq_f (by omega);go_enter Tryd.func58,Tryd.ntmps58
 go_upto_region 1 with fail
 generalize w.alloc (.cells #[.int .i64 k,.int .u64 N,.slice ab nb cb,.slice ai ni ci] 31)=w1 at *;go_wp2_with fail
 go_ret
 exact ⟨rfl,hB ▸ HP.out⟩
set_option maxHeartbeats 8000000 in
theorem left_big (k:Int) (N X D:Int) (ab ai:Option Addr) (nb cb ni ci:Nat) (w:World) (g0:0≤X) (g1:X≤256) (hx:¬ X < 1) (h:8 < k):
 Calls Tryd.prog 58 #[.agg #[.int .i64 k,.int .u64 N,.slice ab nb cb,.slice ai ni ci],.int .i64 X,.int .i64 D] w (LP (-1) w):=by
 have P0:=al w (.cells #[.int .i64 k,.int .u64 N,.slice ab nb cb,.slice ai ni ci] 31);have N0:=aw w (.cells #[.int .i64 k,.int .u64 N,.slice ab nb cb,.slice ai ni ci] 31);obtain ⟨x0,x1,x2,x3⟩:=cf N0;have HP:=dh P0;have HN0:=dh N0;clear P0 N0;generalize hB:w.heap.size=B at *;have a1:(k==4)=false:=beq_f (by omega);have a2:(k==5)=false:=beq_f (by omega);have a3:(k==6)=false:=beq_f (by omega);have a4:(k==2)=false:=beq_f (by omega);have a5:(k==3)=false:=beq_f (by omega);have a6:decide (k < 0)=false:=decide_eq_false (by omega);have a7:¬ k < 0:=by omega
 go_enter Tryd.func58,Tryd.ntmps58
 go_upto_region 1 with fail
 generalize w.alloc (.cells #[.int .i64 k,.int .u64 N,.slice ab nb cb,.slice ai ni ci] 31)=w1 at *;go_wp2_with fail
 go_ret
 exact ⟨rfl,hB ▸ HP.out⟩
set_option maxHeartbeats 8000000 in
theorem left_0_bytes (N X D:Int) (ab ai:Option Addr) (nb cb ni ci:Nat) (w:World) (g0:0≤X) (g1:X≤256) (hx:¬ X < 1) (h:0 < (nb:Int)):
 Calls Tryd.prog 58 #[.agg #[.int .i64 0,.int .u64 N,.slice ab nb cb,.slice ai ni ci],.int .i64 X,.int .i64 D] w (LP (-1) w):=by
 have P0:=al w (.cells #[.int .i64 0,.int .u64 N,.slice ab nb cb,.slice ai ni ci] 31);have N0:=aw w (.cells #[.int .i64 0,.int .u64 N,.slice ab nb cb,.slice ai ni ci] 31);obtain ⟨x0,x1,x2,x3⟩:=cf N0;have HP:=dh P0;have HN0:=dh N0;clear P0 N0;generalize hB:w.heap.size=B at *;go_enter Tryd.func58,Tryd.ntmps58
 go_upto_region 1 with fail
 generalize w.alloc (.cells #[.int .i64 0,.int .u64 N,.slice ab nb cb,.slice ai ni ci] 31)=w1 at *;go_wp2_with fail
 go_ret
 exact ⟨rfl,hB ▸ HP.out⟩
set_option maxHeartbeats 8000000 in
theorem left_0_items (N X D:Int) (ab ai:Option Addr) (nb cb ni ci:Nat) (w:World) (g0:0≤X) (g1:X≤256) (hx:¬ X < 1) (h:nb=0) (h2:0 < (ni:Int)):
 Calls Tryd.prog 58 #[.agg #[.int .i64 0,.int .u64 N,.slice ab nb cb,.slice ai ni ci],.int .i64 X,.int .i64 D] w (LP (-1) w):=by
 have P0:=al w (.cells #[.int .i64 0,.int .u64 N,.slice ab nb cb,.slice ai ni ci] 31);have N0:=aw w (.cells #[.int .i64 0,.int .u64 N,.slice ab nb cb,.slice ai ni ci] 31);obtain ⟨x0,x1,x2,x3⟩:=cf N0;have HP:=dh P0;have HN0:=dh N0;clear P0 N0;generalize hB:w.heap.size=B at *;have e1:¬ 0 < (nb:Int):=by omega
 have e1d:decide (0 < (nb:Int))=false:=decide_eq_false e1;clear h;go_enter Tryd.func58,Tryd.ntmps58
 go_upto_region 1 with fail
 generalize w.alloc (.cells #[.int .i64 0,.int .u64 N,.slice ab nb cb,.slice ai ni ci] 31)=w1 at *;go_wp2_with fail
 go_ret
 exact ⟨rfl,hB ▸ HP.out⟩
set_option maxHeartbeats 8000000 in
theorem left_1_bytes (N X D:Int) (ab ai:Option Addr) (nb cb ni ci:Nat) (w:World) (g0:0≤X) (g1:X≤256) (hx:¬ X < 1) (h:0 < (nb:Int)):
 Calls Tryd.prog 58 #[.agg #[.int .i64 1,.int .u64 N,.slice ab nb cb,.slice ai ni ci],.int .i64 X,.int .i64 D] w (LP (-1) w):=by
 have P0:=al w (.cells #[.int .i64 1,.int .u64 N,.slice ab nb cb,.slice ai ni ci] 31);have N0:=aw w (.cells #[.int .i64 1,.int .u64 N,.slice ab nb cb,.slice ai ni ci] 31);obtain ⟨x0,x1,x2,x3⟩:=cf N0;have HP:=dh P0;have HN0:=dh N0;clear P0 N0;generalize hB:w.heap.size=B at *;go_enter Tryd.func58,Tryd.ntmps58
 go_upto_region 1 with fail
 generalize w.alloc (.cells #[.int .i64 1,.int .u64 N,.slice ab nb cb,.slice ai ni ci] 31)=w1 at *;go_wp2_with fail
 go_ret
 exact ⟨rfl,hB ▸ HP.out⟩
set_option maxHeartbeats 8000000 in
theorem left_1_items (N X D:Int) (ab ai:Option Addr) (nb cb ni ci:Nat) (w:World) (g0:0≤X) (g1:X≤256) (hx:¬ X < 1) (h:nb=0) (h2:0 < (ni:Int)):
 Calls Tryd.prog 58 #[.agg #[.int .i64 1,.int .u64 N,.slice ab nb cb,.slice ai ni ci],.int .i64 X,.int .i64 D] w (LP (-1) w):=by
 have P0:=al w (.cells #[.int .i64 1,.int .u64 N,.slice ab nb cb,.slice ai ni ci] 31);have N0:=aw w (.cells #[.int .i64 1,.int .u64 N,.slice ab nb cb,.slice ai ni ci] 31);obtain ⟨x0,x1,x2,x3⟩:=cf N0;have HP:=dh P0;have HN0:=dh N0;clear P0 N0;generalize hB:w.heap.size=B at *;have e1:¬ 0 < (nb:Int):=by omega
 have e1d:decide (0 < (nb:Int))=false:=decide_eq_false e1;clear h;go_enter Tryd.func58,Tryd.ntmps58
 go_upto_region 1 with fail
 generalize w.alloc (.cells #[.int .i64 1,.int .u64 N,.slice ab nb cb,.slice ai ni ci] 31)=w1 at *;go_wp2_with fail
 go_ret
 exact ⟨rfl,hB ▸ HP.out⟩
set_option maxHeartbeats 8000000 in
theorem left_7_bytes (N X D:Int) (ab ai:Option Addr) (nb cb ni ci:Nat) (w:World) (g0:0≤X) (g1:X≤256) (hx:¬ X < 1) (h:0 < (nb:Int)):
 Calls Tryd.prog 58 #[.agg #[.int .i64 7,.int .u64 N,.slice ab nb cb,.slice ai ni ci],.int .i64 X,.int .i64 D] w (LP (-1) w):=by
 have P0:=al w (.cells #[.int .i64 7,.int .u64 N,.slice ab nb cb,.slice ai ni ci] 31);have N0:=aw w (.cells #[.int .i64 7,.int .u64 N,.slice ab nb cb,.slice ai ni ci] 31);obtain ⟨x0,x1,x2,x3⟩:=cf N0;have HP:=dh P0;have HN0:=dh N0;clear P0 N0;generalize hB:w.heap.size=B at *;go_enter Tryd.func58,Tryd.ntmps58
 go_upto_region 1 with fail
 generalize w.alloc (.cells #[.int .i64 7,.int .u64 N,.slice ab nb cb,.slice ai ni ci] 31)=w1 at *;go_wp2_with fail
 go_ret
 exact ⟨rfl,hB ▸ HP.out⟩
set_option maxHeartbeats 8000000 in
theorem left_7_items (N X D:Int) (ab ai:Option Addr) (nb cb ni ci:Nat) (w:World) (g0:0≤X) (g1:X≤256) (hx:¬ X < 1) (h:nb=0) (h2:0 < (ni:Int)):
 Calls Tryd.prog 58 #[.agg #[.int .i64 7,.int .u64 N,.slice ab nb cb,.slice ai ni ci],.int .i64 X,.int .i64 D] w (LP (-1) w):=by
 have P0:=al w (.cells #[.int .i64 7,.int .u64 N,.slice ab nb cb,.slice ai ni ci] 31);have N0:=aw w (.cells #[.int .i64 7,.int .u64 N,.slice ab nb cb,.slice ai ni ci] 31);obtain ⟨x0,x1,x2,x3⟩:=cf N0;have HP:=dh P0;have HN0:=dh N0;clear P0 N0;generalize hB:w.heap.size=B at *;have e1:¬ 0 < (nb:Int):=by omega
 have e1d:decide (0 < (nb:Int))=false:=decide_eq_false e1;clear h;go_enter Tryd.func58,Tryd.ntmps58
 go_upto_region 1 with fail
 generalize w.alloc (.cells #[.int .i64 7,.int .u64 N,.slice ab nb cb,.slice ai ni ci] 31)=w1 at *;go_wp2_with fail
 go_ret
 exact ⟨rfl,hB ▸ HP.out⟩
set_option maxHeartbeats 8000000 in
theorem left_8_bytes (N X D:Int) (ab ai:Option Addr) (nb cb ni ci:Nat) (w:World) (g0:0≤X) (g1:X≤256) (hx:¬ X < 1) (h:0 < (nb:Int)):
 Calls Tryd.prog 58 #[.agg #[.int .i64 8,.int .u64 N,.slice ab nb cb,.slice ai ni ci],.int .i64 X,.int .i64 D] w (LP (-1) w):=by
 have P0:=al w (.cells #[.int .i64 8,.int .u64 N,.slice ab nb cb,.slice ai ni ci] 31);have N0:=aw w (.cells #[.int .i64 8,.int .u64 N,.slice ab nb cb,.slice ai ni ci] 31);obtain ⟨x0,x1,x2,x3⟩:=cf N0;have HP:=dh P0;have HN0:=dh N0;clear P0 N0;generalize hB:w.heap.size=B at *;go_enter Tryd.func58,Tryd.ntmps58
 go_upto_region 1 with fail
 generalize w.alloc (.cells #[.int .i64 8,.int .u64 N,.slice ab nb cb,.slice ai ni ci] 31)=w1 at *;go_wp2_with fail
 go_ret
 exact ⟨rfl,hB ▸ HP.out⟩
set_option maxHeartbeats 8000000 in
theorem left_8_items (N X D:Int) (ab ai:Option Addr) (nb cb ni ci:Nat) (w:World) (g0:0≤X) (g1:X≤256) (hx:¬ X < 1) (h:nb=0) (h2:0 < (ni:Int)):
 Calls Tryd.prog 58 #[.agg #[.int .i64 8,.int .u64 N,.slice ab nb cb,.slice ai ni ci],.int .i64 X,.int .i64 D] w (LP (-1) w):=by
 have P0:=al w (.cells #[.int .i64 8,.int .u64 N,.slice ab nb cb,.slice ai ni ci] 31);have N0:=aw w (.cells #[.int .i64 8,.int .u64 N,.slice ab nb cb,.slice ai ni ci] 31);obtain ⟨x0,x1,x2,x3⟩:=cf N0;have HP:=dh P0;have HN0:=dh N0;clear P0 N0;generalize hB:w.heap.size=B at *;have e1:¬ 0 < (nb:Int):=by omega
 have e1d:decide (0 < (nb:Int))=false:=decide_eq_false e1;clear h;go_enter Tryd.func58,Tryd.ntmps58
 go_upto_region 1 with fail
 generalize w.alloc (.cells #[.int .i64 8,.int .u64 N,.slice ab nb cb,.slice ai ni ci] 31)=w1 at *;go_wp2_with fail
 go_ret
 exact ⟨rfl,hB ▸ HP.out⟩
set_option maxHeartbeats 8000000 in
theorem left_0 (N X D:Int) (ab ai:Option Addr) (nb cb ni ci:Nat) (w:World) (g0:0≤X) (g1:X≤256) (hx:¬ X < 1) (h:nb=0) (h2:ni=0):
 Calls Tryd.prog 58 #[.agg #[.int .i64 0,.int .u64 N,.slice ab nb cb,.slice ai ni ci],.int .i64 X,.int .i64 D] w (LP (X - 1) w):=by
 have P0:=al w (.cells #[.int .i64 0,.int .u64 N,.slice ab nb cb,.slice ai ni ci] 31);have N0:=aw w (.cells #[.int .i64 0,.int .u64 N,.slice ab nb cb,.slice ai ni ci] 31);obtain ⟨x0,x1,x2,x3⟩:=cf N0;have HP:=dh P0;have HN0:=dh N0;clear P0 N0;generalize hB:w.heap.size=B at *;have e1:¬ 0 < (nb:Int):=by omega
 have e1d:decide (0 < (nb:Int))=false:=decide_eq_false e1;have e2:¬ 0 < (ni:Int):=by omega
 have e2d:decide (0 < (ni:Int))=false:=decide_eq_false e2;have e3:¬ X - 1 < (ni:Int):=by omega
 clear h h2;by_cases gsN:N=0
 ·have gNb:(N !=0)=false:=by simpa using gsN
  clear gsN;go_enter Tryd.func58,Tryd.ntmps58
  go_upto_region 1 with fail
  generalize w.alloc (.cells #[.int .i64 0,.int .u64 N,.slice ab nb cb,.slice ai ni ci] 31)=w1 at *;go_wp2_with fail
  clear x0 x1 x2 x3;go_loopw [1,157] (fun n i W=>n=.int .i64 (X - 1)∧i=.int .i64 0∧Below w1.heap.size w1 W) (fun _ _ _=>0)
  case atStart=>exact ⟨rfl,rfl,Below.refl _ _⟩
  case round=>
   obtain ⟨rfl,rfl,hW⟩:=hrel;have HW:=dh hW;clear hW;obtain ⟨x0,x1,x2,x3⟩:=cf (Below.keep HW.out HN0.out (lb HN0.out));go_wp2_with fail
   clear x0 x1 x2 x3;go_loopw [11] (fun i W=>i=.int .i64 2∧Below w1.heap.size w1 W) (fun _ _=>0)
   case atStart=>exact ⟨rfl,HW.out⟩
   case round=>
    clear HW;obtain ⟨rfl,hW⟩:=hrel;have HW:=dh hW;clear hW;obtain ⟨x0,x1,x2,x3⟩:=cf (Below.keep HW.out HN0.out (lb HN0.out));go_wp2_with fail
    go_ret
    exact ⟨rfl,by rw [hB];exact HP.out.trans (HW.out.mono (by have:=HP.out.size;omega))⟩
 ·have gNb:(N !=0)=true:=by simpa using gsN
  clear gsN;go_enter Tryd.func58,Tryd.ntmps58
  go_upto_region 1 with fail
  generalize w.alloc (.cells #[.int .i64 0,.int .u64 N,.slice ab nb cb,.slice ai ni ci] 31)=w1 at *;go_wp2_with fail
  clear x0 x1 x2 x3;go_loopw [1,157] (fun n i W=>n=.int .i64 (X - 1)∧i=.int .i64 0∧Below w1.heap.size w1 W) (fun _ _ _=>0)
  case atStart=>exact ⟨rfl,rfl,Below.refl _ _⟩
  case round=>
   obtain ⟨rfl,rfl,hW⟩:=hrel;have HW:=dh hW;clear hW;obtain ⟨x0,x1,x2,x3⟩:=cf (Below.keep HW.out HN0.out (lb HN0.out));go_wp2_with fail
   clear x0 x1 x2 x3;go_loopw [11] (fun i W=>i=.int .i64 2∧Below w1.heap.size w1 W) (fun _ _=>0)
   case atStart=>exact ⟨rfl,HW.out⟩
   case round=>
    clear HW;obtain ⟨rfl,hW⟩:=hrel;have HW:=dh hW;clear hW;obtain ⟨x0,x1,x2,x3⟩:=cf (Below.keep HW.out HN0.out (lb HN0.out));go_wp2_with fail
    go_ret
    exact ⟨rfl,by rw [hB];exact HP.out.trans (HW.out.mono (by have:=HP.out.size;omega))⟩
set_option maxHeartbeats 8000000 in
theorem left_1 (N X D:Int) (ab ai:Option Addr) (nb cb ni ci:Nat) (w:World) (g0:0≤X) (g1:X≤256) (hx:¬ X < 1) (h:nb=0) (h2:ni=0):
 Calls Tryd.prog 58 #[.agg #[.int .i64 1,.int .u64 N,.slice ab nb cb,.slice ai ni ci],.int .i64 X,.int .i64 D] w (LP (X - 1) w):=by
 have P0:=al w (.cells #[.int .i64 1,.int .u64 N,.slice ab nb cb,.slice ai ni ci] 31);have N0:=aw w (.cells #[.int .i64 1,.int .u64 N,.slice ab nb cb,.slice ai ni ci] 31);obtain ⟨x0,x1,x2,x3⟩:=cf N0;have HP:=dh P0;have HN0:=dh N0;clear P0 N0;generalize hB:w.heap.size=B at *;have e1:¬ 0 < (nb:Int):=by omega
 have e1d:decide (0 < (nb:Int))=false:=decide_eq_false e1;have e2:¬ 0 < (ni:Int):=by omega
 have e2d:decide (0 < (ni:Int))=false:=decide_eq_false e2;have e3:¬ X - 1 < (ni:Int):=by omega
 clear h h2;by_cases gsN:N=0
 ·have gNb:(N !=0)=false:=by simpa using gsN
  clear gsN;go_enter Tryd.func58,Tryd.ntmps58
  go_upto_region 1 with fail
  generalize w.alloc (.cells #[.int .i64 1,.int .u64 N,.slice ab nb cb,.slice ai ni ci] 31)=w1 at *;go_wp2_with fail
  clear x0 x1 x2 x3;go_loopw [1,157] (fun n i W=>n=.int .i64 (X - 1)∧i=.int .i64 0∧Below w1.heap.size w1 W) (fun _ _ _=>0)
  case atStart=>exact ⟨rfl,rfl,Below.refl _ _⟩
  case round=>
   obtain ⟨rfl,rfl,hW⟩:=hrel;have HW:=dh hW;clear hW;obtain ⟨x0,x1,x2,x3⟩:=cf (Below.keep HW.out HN0.out (lb HN0.out));go_wp2_with fail
   clear x0 x1 x2 x3;go_loopw [11] (fun i W=>i=.int .i64 2∧Below w1.heap.size w1 W) (fun _ _=>0)
   case atStart=>exact ⟨rfl,HW.out⟩
   case round=>
    clear HW;obtain ⟨rfl,hW⟩:=hrel;have HW:=dh hW;clear hW;obtain ⟨x0,x1,x2,x3⟩:=cf (Below.keep HW.out HN0.out (lb HN0.out));go_wp2_with fail
    go_ret
    exact ⟨rfl,by rw [hB];exact HP.out.trans (HW.out.mono (by have:=HP.out.size;omega))⟩
 ·have gNb:(N !=0)=true:=by simpa using gsN
  clear gsN;go_enter Tryd.func58,Tryd.ntmps58
  go_upto_region 1 with fail
  generalize w.alloc (.cells #[.int .i64 1,.int .u64 N,.slice ab nb cb,.slice ai ni ci] 31)=w1 at *;go_wp2_with fail
  clear x0 x1 x2 x3;go_loopw [1,157] (fun n i W=>n=.int .i64 (X - 1)∧i=.int .i64 0∧Below w1.heap.size w1 W) (fun _ _ _=>0)
  case atStart=>exact ⟨rfl,rfl,Below.refl _ _⟩
  case round=>
   obtain ⟨rfl,rfl,hW⟩:=hrel;have HW:=dh hW;clear hW;obtain ⟨x0,x1,x2,x3⟩:=cf (Below.keep HW.out HN0.out (lb HN0.out));go_wp2_with fail
   clear x0 x1 x2 x3;go_loopw [11] (fun i W=>i=.int .i64 2∧Below w1.heap.size w1 W) (fun _ _=>0)
   case atStart=>exact ⟨rfl,HW.out⟩
   case round=>
    clear HW;obtain ⟨rfl,hW⟩:=hrel;have HW:=dh hW;clear hW;obtain ⟨x0,x1,x2,x3⟩:=cf (Below.keep HW.out HN0.out (lb HN0.out));go_wp2_with fail
    go_ret
    exact ⟨rfl,by rw [hB];exact HP.out.trans (HW.out.mono (by have:=HP.out.size;omega))⟩
set_option maxHeartbeats 8000000 in
theorem left_7_over (N X D:Int) (ab ai:Option Addr) (nb cb ni ci:Nat) (w:World) (g0:0≤X) (g1:X≤256) (hx:¬ X < 1) (h:nb=0) (h2:ni=0) (h3:255 < N):
 Calls Tryd.prog 58 #[.agg #[.int .i64 7,.int .u64 N,.slice ab nb cb,.slice ai ni ci],.int .i64 X,.int .i64 D] w (LP (-1) w):=by
 have P0:=al w (.cells #[.int .i64 7,.int .u64 N,.slice ab nb cb,.slice ai ni ci] 31);have N0:=aw w (.cells #[.int .i64 7,.int .u64 N,.slice ab nb cb,.slice ai ni ci] 31);obtain ⟨x0,x1,x2,x3⟩:=cf N0;have HP:=dh P0;have HN0:=dh N0;clear P0 N0;generalize hB:w.heap.size=B at *;have e1:¬ 0 < (nb:Int):=by omega
 have e1d:decide (0 < (nb:Int))=false:=decide_eq_false e1;have e2:¬ 0 < (ni:Int):=by omega
 have e2d:decide (0 < (ni:Int))=false:=decide_eq_false e2;have e3:¬ X - 1 < (ni:Int):=by omega
 have gNb:(N !=0)=true:=by simp;omega
 clear h h2;go_enter Tryd.func58,Tryd.ntmps58
 go_upto_region 1 with fail
 generalize w.alloc (.cells #[.int .i64 7,.int .u64 N,.slice ab nb cb,.slice ai ni ci] 31)=w1 at *;go_wp2_with fail
 go_ret
 exact ⟨rfl,hB ▸ HP.out⟩
set_option maxHeartbeats 8000000 in
theorem left_7_gap (N X D:Int) (ab ai:Option Addr) (nb cb ni ci:Nat) (w:World) (g0:0≤X) (g1:X≤256) (hx:¬ X < 1) (h:nb=0) (h2:ni=0) (h3:23 < N) (h4:N < 32):
 Calls Tryd.prog 58 #[.agg #[.int .i64 7,.int .u64 N,.slice ab nb cb,.slice ai ni ci],.int .i64 X,.int .i64 D] w (LP (-1) w):=by
 have P0:=al w (.cells #[.int .i64 7,.int .u64 N,.slice ab nb cb,.slice ai ni ci] 31);have N0:=aw w (.cells #[.int .i64 7,.int .u64 N,.slice ab nb cb,.slice ai ni ci] 31);obtain ⟨x0,x1,x2,x3⟩:=cf N0;have HP:=dh P0;have HN0:=dh N0;clear P0 N0;generalize hB:w.heap.size=B at *;have e1:¬ 0 < (nb:Int):=by omega
 have e1d:decide (0 < (nb:Int))=false:=decide_eq_false e1;have e2:¬ 0 < (ni:Int):=by omega
 have e2d:decide (0 < (ni:Int))=false:=decide_eq_false e2;have e3:¬ X - 1 < (ni:Int):=by omega
 have e4:¬ 255 < N:=by omega
 have e4d:decide (255 < N)=false:=decide_eq_false e4;have gNb:(N !=0)=true:=by simp;omega
 clear h h2;go_enter Tryd.func58,Tryd.ntmps58
 go_upto_region 1 with fail
 generalize w.alloc (.cells #[.int .i64 7,.int .u64 N,.slice ab nb cb,.slice ai ni ci] 31)=w1 at *;go_wp2_with fail
 go_ret
 exact ⟨rfl,hB ▸ HP.out⟩
set_option maxHeartbeats 8000000 in
theorem left_7_low (N X D:Int) (ab ai:Option Addr) (nb cb ni ci:Nat) (w:World) (g0:0≤X) (g1:X≤256) (hx:¬ X < 1) (h:nb=0) (h2:ni=0) (h3:¬ 23 < N):
 Calls Tryd.prog 58 #[.agg #[.int .i64 7,.int .u64 N,.slice ab nb cb,.slice ai ni ci],.int .i64 X,.int .i64 D] w (LP (X - 1) w):=by
 have P0:=al w (.cells #[.int .i64 7,.int .u64 N,.slice ab nb cb,.slice ai ni ci] 31);have N0:=aw w (.cells #[.int .i64 7,.int .u64 N,.slice ab nb cb,.slice ai ni ci] 31);obtain ⟨x0,x1,x2,x3⟩:=cf N0;have HP:=dh P0;have HN0:=dh N0;clear P0 N0;generalize hB:w.heap.size=B at *;have e1:¬ 0 < (nb:Int):=by omega
 have e1d:decide (0 < (nb:Int))=false:=decide_eq_false e1;have e2:¬ 0 < (ni:Int):=by omega
 have e2d:decide (0 < (ni:Int))=false:=decide_eq_false e2;have e3:¬ X - 1 < (ni:Int):=by omega
 have e4:¬ 255 < N:=by omega
 have e4d:decide (255 < N)=false:=decide_eq_false e4;have e5d:decide (23 < N)=false:=decide_eq_false h3;clear h h2;by_cases gsN:N=0
 ·have gNb:(N !=0)=false:=by simpa using gsN
  clear gsN;go_enter Tryd.func58,Tryd.ntmps58
  go_upto_region 1 with fail
  generalize w.alloc (.cells #[.int .i64 7,.int .u64 N,.slice ab nb cb,.slice ai ni ci] 31)=w1 at *;go_wp2_with fail
  clear x0 x1 x2 x3;go_loopw [1,157] (fun n i W=>n=.int .i64 (X - 1)∧i=.int .i64 0∧Below w1.heap.size w1 W) (fun _ _ _=>0)
  case atStart=>exact ⟨rfl,rfl,Below.refl _ _⟩
  case round=>
   obtain ⟨rfl,rfl,hW⟩:=hrel;have HW:=dh hW;clear hW;obtain ⟨x0,x1,x2,x3⟩:=cf (Below.keep HW.out HN0.out (lb HN0.out));go_wp2_with fail
   clear x0 x1 x2 x3;go_loopw [11] (fun i W=>i=.int .i64 2∧Below w1.heap.size w1 W) (fun _ _=>0)
   case atStart=>exact ⟨rfl,HW.out⟩
   case round=>
    clear HW;obtain ⟨rfl,hW⟩:=hrel;have HW:=dh hW;clear hW;obtain ⟨x0,x1,x2,x3⟩:=cf (Below.keep HW.out HN0.out (lb HN0.out));go_wp2_with fail
    go_ret
    exact ⟨rfl,by rw [hB];exact HP.out.trans (HW.out.mono (by have:=HP.out.size;omega))⟩
 ·have gNb:(N !=0)=true:=by simpa using gsN
  clear gsN;go_enter Tryd.func58,Tryd.ntmps58
  go_upto_region 1 with fail
  generalize w.alloc (.cells #[.int .i64 7,.int .u64 N,.slice ab nb cb,.slice ai ni ci] 31)=w1 at *;go_wp2_with fail
  clear x0 x1 x2 x3;go_loopw [1,157] (fun n i W=>n=.int .i64 (X - 1)∧i=.int .i64 0∧Below w1.heap.size w1 W) (fun _ _ _=>0)
  case atStart=>exact ⟨rfl,rfl,Below.refl _ _⟩
  case round=>
   obtain ⟨rfl,rfl,hW⟩:=hrel;have HW:=dh hW;clear hW;obtain ⟨x0,x1,x2,x3⟩:=cf (Below.keep HW.out HN0.out (lb HN0.out));go_wp2_with fail
   clear x0 x1 x2 x3;go_loopw [11] (fun i W=>i=.int .i64 2∧Below w1.heap.size w1 W) (fun _ _=>0)
   case atStart=>exact ⟨rfl,HW.out⟩
   case round=>
    clear HW;obtain ⟨rfl,hW⟩:=hrel;have HW:=dh hW;clear hW;obtain ⟨x0,x1,x2,x3⟩:=cf (Below.keep HW.out HN0.out (lb HN0.out));go_wp2_with fail
    go_ret
    exact ⟨rfl,by rw [hB];exact HP.out.trans (HW.out.mono (by have:=HP.out.size;omega))⟩
set_option maxHeartbeats 8000000 in
theorem left_7_high (N X D:Int) (ab ai:Option Addr) (nb cb ni ci:Nat) (w:World) (g0:0≤X) (g1:X≤256) (hx:¬ X < 1) (h:nb=0) (h2:ni=0) (h3:32≤N) (h4:N≤255):
 Calls Tryd.prog 58 #[.agg #[.int .i64 7,.int .u64 N,.slice ab nb cb,.slice ai ni ci],.int .i64 X,.int .i64 D] w (LP (X - 1) w):=by
 have P0:=al w (.cells #[.int .i64 7,.int .u64 N,.slice ab nb cb,.slice ai ni ci] 31);have N0:=aw w (.cells #[.int .i64 7,.int .u64 N,.slice ab nb cb,.slice ai ni ci] 31);obtain ⟨x0,x1,x2,x3⟩:=cf N0;have HP:=dh P0;have HN0:=dh N0;clear P0 N0;generalize hB:w.heap.size=B at *;have e1:¬ 0 < (nb:Int):=by omega
 have e1d:decide (0 < (nb:Int))=false:=decide_eq_false e1;have e2:¬ 0 < (ni:Int):=by omega
 have e2d:decide (0 < (ni:Int))=false:=decide_eq_false e2;have e3:¬ X - 1 < (ni:Int):=by omega
 have e4:¬ 255 < N:=by omega
 have e4d:decide (255 < N)=false:=decide_eq_false e4;have e5:23 < N:=by omega
 have e5d:decide (23 < N)=true:=decide_eq_true e5;have e6:¬ N < 32:=by omega
 have e6d:decide (N < 32)=false:=decide_eq_false e6;have gNb:(N !=0)=true:=by simp;omega
 clear h h2;go_enter Tryd.func58,Tryd.ntmps58
 go_upto_region 1 with fail
 generalize w.alloc (.cells #[.int .i64 7,.int .u64 N,.slice ab nb cb,.slice ai ni ci] 31)=w1 at *;go_wp2_with fail
 clear x0 x1 x2 x3;go_loopw [1,157] (fun n i W=>n=.int .i64 (X - 1)∧i=.int .i64 0∧Below w1.heap.size w1 W) (fun _ _ _=>0)
 case atStart=>exact ⟨rfl,rfl,Below.refl _ _⟩
 case round=>
  obtain ⟨rfl,rfl,hW⟩:=hrel;have HW:=dh hW;clear hW;obtain ⟨x0,x1,x2,x3⟩:=cf (Below.keep HW.out HN0.out (lb HN0.out));go_wp2_with fail
  clear x0 x1 x2 x3;go_loopw [11] (fun i W=>i=.int .i64 2∧Below w1.heap.size w1 W) (fun _ _=>0)
  case atStart=>exact ⟨rfl,HW.out⟩
  case round=>
   clear HW;obtain ⟨rfl,hW⟩:=hrel;have HW:=dh hW;clear hW;obtain ⟨x0,x1,x2,x3⟩:=cf (Below.keep HW.out HN0.out (lb HN0.out));go_wp2_with fail
   go_ret
   exact ⟨rfl,by rw [hB];exact HP.out.trans (HW.out.mono (by have:=HP.out.size;omega))⟩
end Go.Proofs.YtelefkkkccilaaaDoor
