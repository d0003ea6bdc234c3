/- The walk of plain: items without elements. The walk of spend. The walk of spend, at simple values and at all others. The walk of ascending. The walk of the checker of items. The walk of the checker: items that are refused by their shape. -/
import Derived.Test.YtelefkkkccilaaaDoorLD
import Derived.Test.YtelefkkkccilaaaDoorLC
import Derived.Test.YtelefkkkccilaaaDoorLA
set_option linter.unusedVariables false
set_option linter.unusedSimpArgs false
namespace Go.Proofs.YtelefkkkccilaaaDoor
open Go.RowKit
set_option maxRecDepth 100000
def PL (ok is:Bool) (w:World) (e:Ending) (w':World):Prop:=e=.returned (.tuple #[.bool ok,.bool is])∧Below w.heap.size w w'
theorem beq_t {a b:Int} (h:a=b):(a==b)=true:=by simpa using h
theorem beq_f {a b:Int} (h:¬ a=b):(a==b)=false:=by simpa using h
set_option maxHeartbeats 4000000 in
theorem plain_0 (N:Int) (ab ai:Option Addr) (nb cb ni ci:Nat) (w:World) (r:Bool) (hr:r=(decide (nb=0) && decide (ni=0))):
 Calls Tryd.prog 84 #[.agg #[.int .i64 0,.int .u64 N,.slice ab nb cb,.slice ai ni ci]] w (PL r true w):=by
 by_cases h1:nb=0
 ·subst h1
  by_cases h2:ni=0
  ·subst h2
   obtain rfl:r=true:=by simpa using hr
   clear hr;go_enter Tryd.func84,Tryd.ntmps84
   go_wp2_with fail
   go_ret2
   exact ⟨rfl,al _ _⟩
  ·obtain rfl:r=false:=by simpa [h2] using hr
   have b2:((ni:Int)==0)=false:=beq_f (by omega);clear hr h2;go_enter Tryd.func84,Tryd.ntmps84
   go_wp2_with fail
   go_ret2
   exact ⟨by first | rfl | simp [b2],al _ _⟩
 ·obtain rfl:r=false:=by simpa [h1] using hr
  have b1:((nb:Int)==0)=false:=beq_f (by omega);clear hr h1;go_enter Tryd.func84,Tryd.ntmps84
  go_wp2_with fail
  go_ret2
  exact ⟨by first | rfl | simp [b1],al _ _⟩
set_option maxHeartbeats 4000000 in
theorem plain_1 (N:Int) (ab ai:Option Addr) (nb cb ni ci:Nat) (w:World) (r:Bool) (hr:r=(decide (nb=0) && decide (ni=0))):
 Calls Tryd.prog 84 #[.agg #[.int .i64 1,.int .u64 N,.slice ab nb cb,.slice ai ni ci]] w (PL r true w):=by
 by_cases h1:nb=0
 ·subst h1
  by_cases h2:ni=0
  ·subst h2
   obtain rfl:r=true:=by simpa using hr
   clear hr;go_enter Tryd.func84,Tryd.ntmps84
   go_wp2_with fail
   go_ret2
   exact ⟨rfl,al _ _⟩
  ·obtain rfl:r=false:=by simpa [h2] using hr
   have b2:((ni:Int)==0)=false:=beq_f (by omega);clear hr h2;go_enter Tryd.func84,Tryd.ntmps84
   go_wp2_with fail
   go_ret2
   exact ⟨by first | rfl | simp [b2],al _ _⟩
 ·obtain rfl:r=false:=by simpa [h1] using hr
  have b1:((nb:Int)==0)=false:=beq_f (by omega);clear hr h1;go_enter Tryd.func84,Tryd.ntmps84
  go_wp2_with fail
  go_ret2
  exact ⟨by first | rfl | simp [b1],al _ _⟩
set_option maxHeartbeats 4000000 in
theorem plain_2 (N:Int) (ab ai:Option Addr) (nb cb ni ci:Nat) (w:World) (r:Bool) (hr:r=(decide (N=0) && decide (ni=0))):
 Calls Tryd.prog 84 #[.agg #[.int .i64 2,.int .u64 N,.slice ab nb cb,.slice ai ni ci]] w (PL r true w):=by
 by_cases h1:N=0
 ·subst h1
  by_cases h2:ni=0
  ·subst h2
   obtain rfl:r=true:=by simpa using hr
   clear hr;go_enter Tryd.func84,Tryd.ntmps84
   go_wp2_with fail
   go_ret2
   exact ⟨by first | rfl | simp [*],by first | exact al _ _ | exact (al _ _).trans ((by assumption:Below _ _ _).mono (by simp))⟩
  ·obtain rfl:r=false:=by simpa [h2] using hr
   have b2:((ni:Int)==0)=false:=beq_f (by omega);clear hr h2;go_enter Tryd.func84,Tryd.ntmps84
   go_wp2_with fail
   go_ret2
   exact ⟨by first | rfl | simp [*],by first | exact al _ _ | exact (al _ _).trans ((by assumption:Below _ _ _).mono (by simp))⟩
 ·obtain rfl:r=false:=by simpa [h1] using hr
  have b1:(N==0)=false:=beq_f h1;clear hr h1;go_enter Tryd.func84,Tryd.ntmps84
  go_wp2_with fail
  go_ret2
  exact ⟨by first | rfl | simp [*],by first | exact al _ _ | exact (al _ _).trans ((by assumption:Below _ _ _).mono (by simp))⟩
set_option maxHeartbeats 4000000 in
theorem plain_3 (N:Int) (ab ai:Option Addr) (nb cb ni ci:Nat) (w:World) (V:Bool) (hV:∀ W,Below w.heap.size w W→Calls Tryd.prog 55 #[.slice ab nb cb] W fun e w'=>e=.returned (.bool V)∧Below W.heap.size W w') (r:Bool) (hr:r=(decide (N=0) && decide (ni=0) && V)):
 Calls Tryd.prog 84 #[.agg #[.int .i64 3,.int .u64 N,.slice ab nb cb,.slice ai ni ci]] w (PL r true w):=by
 by_cases h1:N=0
 ·subst h1
  by_cases h2:ni=0
  ·subst h2
   obtain rfl:r=V:=by simpa using hr
   have HV:=dh (hV (w.alloc (.cells #[.int .i64 3,.int .u64 0,.slice ab nb cb,.slice ai 0 ci] 31)) (al _ _));clear hr hV;go_enter Tryd.func84,Tryd.ntmps84
   go_wp2_with (go_at_call 55;refine HV.out.mono ?_;rintro e w2 ⟨rfl,hB⟩;have HB:=dh hB;clear hB)
   go_ret2
   exact ⟨rfl,pt (al _ _) HB.out⟩
  ·obtain rfl:r=false:=by simpa [h2] using hr
   have b2:((ni:Int)==0)=false:=beq_f (by omega);clear hr h2 hV;go_enter Tryd.func84,Tryd.ntmps84
   go_wp2_with fail
   go_ret2
   exact ⟨by first | rfl | simp [*],by first | exact al _ _ | exact (al _ _).trans ((by assumption:Below _ _ _).mono (by simp))⟩
 ·obtain rfl:r=false:=by simpa [h1] using hr
  have b1:(N==0)=false:=beq_f h1;clear hr h1 hV;go_enter Tryd.func84,Tryd.ntmps84
  go_wp2_with fail
  go_ret2
  exact ⟨by first | rfl | simp [*],by first | exact al _ _ | exact (al _ _).trans ((by assumption:Below _ _ _).mono (by simp))⟩
set_option maxHeartbeats 4000000 in
theorem plain_7 (N:Int) (ab ai:Option Addr) (nb cb ni ci:Nat) (w:World) (r:Bool) (hr:r=(decide (nb=0) && decide (ni=0) && (decide (N < 24) || decide (32≤N∧N < 256)))):
 Calls Tryd.prog 84 #[.agg #[.int .i64 7,.int .u64 N,.slice ab nb cb,.slice ai ni ci]] w (PL r true w):=by
 by_cases h1:nb=0
 ·subst h1
  by_cases h2:ni=0
  ·subst h2
   by_cases h3:N < 24
   ·obtain rfl:r=true:=by simpa [h3] using hr
    clear hr;go_enter Tryd.func84,Tryd.ntmps84
    go_wp2_with fail
    go_ret2
    exact ⟨by first | rfl | simp [*],by first | exact al _ _ | exact (al _ _).trans ((by assumption:Below _ _ _).mono (by simp))⟩
   ·by_cases h4:32≤N
    ·by_cases h5:N < 256
     ·obtain rfl:r=true:=by simpa [h3,h4,h5] using hr
      have d3:decide (N < 24)=false:=decide_eq_false h3;have d4:decide ((32:Int)≤N)=true:=decide_eq_true h4;clear hr;go_enter Tryd.func84,Tryd.ntmps84
      go_wp2_with fail
      go_ret2
      exact ⟨by first | rfl | simp [*],by first | exact al _ _ | exact (al _ _).trans ((by assumption:Below _ _ _).mono (by simp))⟩
     ·obtain rfl:r=false:=by simpa [h3,h4,h5] using hr
      have d3:decide (N < 24)=false:=decide_eq_false h3;have d4:decide ((32:Int)≤N)=true:=decide_eq_true h4;have d5:decide (N < 256)=false:=decide_eq_false h5;clear hr;go_enter Tryd.func84,Tryd.ntmps84
      go_wp2_with fail
      go_ret2
      exact ⟨by first | rfl | simp [*],by first | exact al _ _ | exact (al _ _).trans ((by assumption:Below _ _ _).mono (by simp))⟩
    ·obtain rfl:r=false:=by simpa [h3,h4] using hr
     have d3:decide (N < 24)=false:=decide_eq_false h3;have d4:decide ((32:Int)≤N)=false:=decide_eq_false h4;clear hr;go_enter Tryd.func84,Tryd.ntmps84
     go_wp2_with fail
     go_ret2
     exact ⟨by first | rfl | simp [*],by first | exact al _ _ | exact (al _ _).trans ((by assumption:Below _ _ _).mono (by simp))⟩
  ·obtain rfl:r=false:=by simpa [h2] using hr
   have b2:((ni:Int)==0)=false:=beq_f (by omega);clear hr h2;go_enter Tryd.func84,Tryd.ntmps84
   go_wp2_with fail
   go_ret2
   exact ⟨by first | rfl | simp [*],by first | exact al _ _ | exact (al _ _).trans ((by assumption:Below _ _ _).mono (by simp))⟩
 ·obtain rfl:r=false:=by simpa [h1] using hr
  have b1:((nb:Int)==0)=false:=beq_f (by omega);clear hr h1;go_enter Tryd.func84,Tryd.ntmps84
  go_wp2_with fail
  go_ret2
  exact ⟨by first | rfl | simp [*],by first | exact al _ _ | exact (al _ _).trans ((by assumption:Below _ _ _).mono (by simp))⟩
set_option maxHeartbeats 4000000 in
theorem plain_no (k N:Int) (ab ai:Option Addr) (nb cb ni ci:Nat) (w:World) (hk:k≠0∧k≠1∧k≠2∧k≠3∧k≠7∧k≠8):
 Calls Tryd.prog 84 #[.agg #[.int .i64 k,.int .u64 N,.slice ab nb cb,.slice ai ni ci]] w (PL false false w):=by
 have b0:=beq_f hk.1;have b1:=beq_f hk.2.1;have b2:=beq_f hk.2.2.1;have b3:=beq_f hk.2.2.2.1;have b7:=beq_f hk.2.2.2.2.1;have b8:=beq_f hk.2.2.2.2.2;clear hk;go_enter Tryd.func84,Tryd.ntmps84
 go_wp2_with fail
 go_ret2
 exact ⟨by first | rfl | simp [*],by first | exact al _ _ | exact (al _ _).trans ((by assumption:Below _ _ _).mono (by simp))⟩
set_option maxHeartbeats 4000000 in
theorem plain_8 (n:Nat) (N:Int) (hN:N=n) (hn:n < 18446744073709551616) (ab ai:Option Addr) (nb cb ni ci:Nat) (w:World) (r:Bool) (hr:r=(decide (nb=0) && decide (ni=0) && (!Fl.isNaN n || decide (n=Fl.nan)))):
 Calls Tryd.prog 84 #[.agg #[.int .i64 8,.int .u64 N,.slice ab nb cb,.slice ai ni ci]] w (PL r true w):=by
 have X1:=fun W=>x157 hN W
 by_cases h1:nb=0
 ·subst h1
  by_cases h2:ni=0
  ·subst h2
   cases hnan:Fl.isNaN n with
   | false=>
     obtain rfl:r=true:=by simpa [hnan] using hr
     have C2:(FloatKind.f64.format.order n n==some Ordering.eq)=true:=by
      show (Ieee.double.order n n==some Ordering.eq)=true
      rw [order_self hn hnan];rfl
     clear hr hN hn hnan;go_enter Tryd.func84,Tryd.ntmps84
     go_wp2_with (simp only [X1])
     go_ret2
     exact ⟨by first | rfl | simp [*],al _ _⟩
   | true=>
     have C2:(FloatKind.f64.format.order n n==some Ordering.eq)=false:=by
      show (Ieee.double.order n n==some Ordering.eq)=false
      rw [order_nan hn hnan];rfl
     by_cases h3:n=Fl.nan
     ·obtain rfl:r=true:=by simpa [hnan,h3] using hr
      have b3:(N==9221120237041090560)=true:=beq_t (by rw [hN,h3];rfl);clear hr hN hn hnan h3;go_enter Tryd.func84,Tryd.ntmps84
      go_wp2_with (simp only [X1])
      go_ret2
      exact ⟨by first | rfl | simp [*],al _ _⟩
     ·obtain rfl:r=false:=by simpa [hnan,h3] using hr
      have b3:(N==9221120237041090560)=false:=beq_f (by rw [hN];intro e;exact h3 (by unfold Fl.nan;omega));clear hr hN hn hnan h3;go_enter Tryd.func84,Tryd.ntmps84
      go_wp2_with (simp only [X1])
      go_ret2
      exact ⟨by first | rfl | simp [*],al _ _⟩
  ·obtain rfl:r=false:=by simpa [h2] using hr
   have b2:((ni:Int)==0)=false:=beq_f (by omega);clear hr h2 hN hn;go_enter Tryd.func84,Tryd.ntmps84
   go_wp2_with (simp only [X1])
   go_ret2
   exact ⟨by first | rfl | simp [*],al _ _⟩
 ·obtain rfl:r=false:=by simpa [h1] using hr
  have b1:((nb:Int)==0)=false:=beq_f (by omega);clear hr h1 hN hn;go_enter Tryd.func84,Tryd.ntmps84
  go_wp2_with (simp only [X1])
  go_ret2
  exact ⟨by first | rfl | simp [*],al _ _⟩
def SP (c:Nat) (it s:Int) (w:World) (e:Ending) (w':World):Prop:=e=.returned (.bool (decide (s≤4096)))∧w'.heap[c]?=some (.cells #[.int .i64 it,.int .i64 s] 99 (0,0))∧But c w w'
theorem cw {w:World} {b:Nat} {x y:Value} {T:Nat} (h:w.heap[b]?=some (.cells #[x,y] T (0,0))):
 w.cell? ⟨b,0,none⟩=some x∧w.cell? ⟨b,1,none⟩=some y∧w.frozen? ⟨b,1,none⟩=false∧w.frozen? ⟨b,0,none⟩=false:=by
 simp [World.cell?,World.frozen?,h]
theorem set_one {w:World} {b:Nat} {x y z:Value} {T:Nat} (h:w.heap[b]?=some (.cells #[x,y] T (0,0))):(w.setCell ⟨b,1,none⟩ z).heap[b]?=some (.cells #[x,z] T (0,0)):=by
 rw [sar h 1 z];simp
theorem set_zero {w:World} {b:Nat} {x y z:Value} {T:Nat} (h:w.heap[b]?=some (.cells #[x,y] T (0,0))):(w.setCell ⟨b,0,none⟩ z).heap[b]?=some (.cells #[z,y] T (0,0)):=by
 rw [sar h 0 z];simp
set_option maxHeartbeats 4000000 in
theorem spend_float (c:Nat) (it s:Int) (n:Nat) (N:Int) (hN:N=n) (hn:n < 18446744073709551616) (ab ai:Option Addr) (nb cb ni ci:Nat) (w:World) (hc:w.heap[c]?=some (.cells #[.int .i64 it,.int .i64 s] 99 (0,0))) (s0:0≤s) (s1:s≤100000):
 Calls Tryd.prog 85 #[.pointer (some ⟨c,0,none⟩),.agg #[.int .i64 8,.int .u64 N,.slice ab nb cb,.slice ai ni ci]] w (SP c it (s + (It.flt n).length) w):=by
 have fl:=It.flt_length n;have C1:=fun W=>float_any n N hN hn W
 have hcl:=lb hc;have P0:=al w (.cells #[.int .i64 8,.int .u64 N,.slice ab nb cb,.slice ai ni ci] 31);have N0:=aw w (.cells #[.int .i64 8,.int .u64 N,.slice ab nb cb,.slice ai ni ci] 31);have hc1:=Below.keep P0 hc hcl;have hne:w.heap.size≠c:=by omega
 have HP:=dh P0;have HC1:=dh hc1;have HN0:=dh N0;clear hN hn P0 N0 hc1 hc;go_enter Tryd.func85,Tryd.ntmps85
 go_upto_region 4 with fail
 generalize w.alloc (.cells #[.int .i64 8,.int .u64 N,.slice ab nb cb,.slice ai ni ci] 31)=w1 at *;have hcl1:=lb HC1.out;have hnl1:=lb HN0.out;obtain ⟨y0,y1,y2,y3⟩:=cw HC1.out;obtain ⟨x0,x1,x2,x3⟩:=cf HN0.out;generalize hB:w.heap.size=B at *;refine wp_region_held_drew (S:=(fun w'=>w'.cell? ⟨B,1,none⟩=some (.int .u64 N))) (by kernel_rfl) x1 (fun hHeld=>?_);refine tk 0 (v:=?_) rfl hHeld ?_ ?_;rotate_left
 ·intro W h;(try dsimp only at h);go_simp;try with_reducible rfl
 try simp only [Act.put,sx]
 refine tk 1 (v:=?_) rfl hHeld ?_ ?_;rotate_left
 ·intro W h;(try dsimp only at h);go_simp;try with_reducible rfl
 try simp only [Act.put,sx]
 refine tk 2 (v:=?_) rfl hHeld ?_ ?_;rotate_left
 ·intro W h;(try dsimp only at h);go_simp;try with_reducible rfl
 try simp only [Act.put,sx]
 refine tk 4 (v:=?_) rfl hHeld ?_ ?_;rotate_left
 ·intro W h;(try dsimp only at h);go_simp;try with_reducible rfl
 try simp only [Act.put,sx]
 refine tk 5 (v:=?_) rfl hHeld ?_ ?_;rotate_left
 ·intro W h;(try dsimp only at h);go_simp;try with_reducible rfl
 try simp only [Act.put,sx]
 refine wpAnyH_ready (rs:=[3,6]) (by kernel_rfl) (by simp) ?_;refine AllReadyH.cons rfl (fun K1 hK1=>?_) (AllReadyH.cons rfl (fun K1 hK1=>?_) AllReadyH.nil)
 ·go_simp
  refine hK1.out _ _ hHeld (fun hHeld=>?_);clear hK1
  try simp only [Act.put,sx]
  refine wpAnyH_ready (rs:=[6]) (by kernel_rfl) (by simp) ?_;refine AllReadyH.cons rfl (fun K1 hK1=>?_) AllReadyH.nil;go_simp
  refine (C1 _).mono ?_;rintro e w3 h3;obtain ⟨a3,c3,rfl,z1,R3,z2,z3,B3⟩:=h3.open;clear z1 z2 z3 h3 R3;have HC3:=dh (Below.keep B3 HC1.out hcl1);have HB3:=dh ((But.of_below (b:=c) (hB ▸ HP.out)).trans ((But.refl c w1).drewN 1 |>.trans (But.of_below B3)));have e1:=(B3.cell (p:=⟨c,1,none⟩) hcl1).trans y1;have e2:=(B3.frozen (p:=⟨c,1,none⟩) hcl1).trans y2;have e3:=(B3.cell (p:=⟨B,1,none⟩) hnl1).trans x1;refine hK1.out _ _ e3 (fun hHeld=>?_);clear hK1
  try simp only [Act.put,sx]
  refine tk 7 (v:=?_) rfl hHeld ?_ ?_;rotate_left
  ·intro W h;(try dsimp only at h);go_simp;try with_reducible rfl
  try simp only [Act.put,sx]
  refine tk 8 (v:=?_) rfl hHeld ?_ ?_;rotate_left
  ·intro W h;(try dsimp only at h);go_simp;try with_reducible rfl
  try simp only [Act.put,sx]
  refine tk 9 (v:=?_) rfl hHeld ?_ ?_;rotate_left
  ·intro W h;(try dsimp only at h);go_simp;try with_reducible rfl
  try simp only [Act.put,sx]
  refine tk 10 (v:=?_) rfl hHeld ?_ ?_;rotate_left
  ·intro W h;(try dsimp only at h);go_simp;try with_reducible rfl
  try simp only [Act.put,sx]
  refine wpAnyH_ready (rs:=[11]) (by kernel_rfl) (by simp) ?_;refine AllReadyH.cons rfl (fun K1 hK1=>?_) AllReadyH.nil;go_simp
  refine hK1.out _ _ ((cu (Below.heap_setCell _ _ _ _ hne)).trans e3) (fun hHeld=>?_);clear hK1
  try simp only [Act.put,sx]
  refine wpAnyH_done (by kernel_rfl) ?_ _
  try simp only [Act.put,sx]
  have hw:IntKind.i64.wrap (s + ((It.flt n).length:Int))=s + ((It.flt n).length:Int):=IntWalk.i64_in _ (by omega);rw [hw];have HC5:=dh (set_one (z:=.int .i64 (s + ((It.flt n).length:Int))) HC3.out);have HB5:=dh (HB3.out.setCell (p:=⟨c,1,none⟩) rfl (.int .i64 (s + ((It.flt n).length:Int))));clear hw hHeld e1 e2 e3 B3 HC3 HB3;generalize w3.setCell ⟨c,1,none⟩ (.int .i64 (s + ((It.flt n).length:Int)))=w5 at *;obtain ⟨t0,t1,_,_⟩:=cw HC5.out;clear x0 x1 x2 x3 y0 y1 y2 y3;generalize s + ((It.flt n).length:Int)=S at *;go_wp2_with fail
  go_ret
  exact ⟨rfl,HC5.out,HB5.out⟩
 ·go_simp
  refine (C1 _).mono ?_;rintro e w3 h3;obtain ⟨a3,c3,rfl,z1,R3,z2,z3,B3⟩:=h3.open;clear z1 z2 z3 h3 R3;have HC3:=dh (Below.keep B3 HC1.out hcl1);have HB3:=dh ((But.of_below (b:=c) (hB ▸ HP.out)).trans ((But.refl c w1).drewN 1 |>.trans (But.of_below B3)));have e1:=(B3.cell (p:=⟨c,1,none⟩) hcl1).trans y1;have e2:=(B3.frozen (p:=⟨c,1,none⟩) hcl1).trans y2;have e3:=(B3.cell (p:=⟨B,1,none⟩) hnl1).trans x1;refine hK1.out _ _ e3 (fun hHeld=>?_);clear hK1
  try simp only [Act.put,sx]
  refine tk 7 (v:=?_) rfl hHeld ?_ ?_;rotate_left
  ·intro W h;(try dsimp only at h);go_simp;try with_reducible rfl
  try simp only [Act.put,sx]
  refine wpAnyH_ready (rs:=[3]) (by kernel_rfl) (by simp) ?_;refine AllReadyH.cons rfl (fun K1 hK1=>?_) AllReadyH.nil;go_simp
  refine hK1.out _ _ hHeld (fun hHeld=>?_);clear hK1
  try simp only [Act.put,sx]
  refine tk 8 (v:=?_) rfl hHeld ?_ ?_;rotate_left
  ·intro W h;(try dsimp only at h);go_simp;try with_reducible rfl
  try simp only [Act.put,sx]
  refine tk 9 (v:=?_) rfl hHeld ?_ ?_;rotate_left
  ·intro W h;(try dsimp only at h);go_simp;try with_reducible rfl
  try simp only [Act.put,sx]
  refine tk 10 (v:=?_) rfl hHeld ?_ ?_;rotate_left
  ·intro W h;(try dsimp only at h);go_simp;try with_reducible rfl
  try simp only [Act.put,sx]
  refine wpAnyH_ready (rs:=[11]) (by kernel_rfl) (by simp) ?_;refine AllReadyH.cons rfl (fun K1 hK1=>?_) AllReadyH.nil;go_simp
  refine hK1.out _ _ ((cu (Below.heap_setCell _ _ _ _ hne)).trans e3) (fun hHeld=>?_);clear hK1
  try simp only [Act.put,sx]
  refine wpAnyH_done (by kernel_rfl) ?_ _
  try simp only [Act.put,sx]
  have hw:IntKind.i64.wrap (s + ((It.flt n).length:Int))=s + ((It.flt n).length:Int):=IntWalk.i64_in _ (by omega);rw [hw];have HC5:=dh (set_one (z:=.int .i64 (s + ((It.flt n).length:Int))) HC3.out);have HB5:=dh (HB3.out.setCell (p:=⟨c,1,none⟩) rfl (.int .i64 (s + ((It.flt n).length:Int))));clear hw hHeld e1 e2 e3 B3 HC3 HB3;generalize w3.setCell ⟨c,1,none⟩ (.int .i64 (s + ((It.flt n).length:Int)))=w5 at *;obtain ⟨t0,t1,_,_⟩:=cw HC5.out;clear x0 x1 x2 x3 y0 y1 y2 y3;generalize s + ((It.flt n).length:Int)=S at *;go_wp2_with fail
  go_ret
  exact ⟨rfl,HC5.out,HB5.out⟩
set_option maxHeartbeats 4000000 in
theorem spend_simple (c:Nat) (it s:Int) (n:Nat) (N:Int) (hN:N=n) (ab ai:Option Addr) (nb cb ni ci:Nat) (w:World) (hc:w.heap[c]?=some (.cells #[.int .i64 it,.int .i64 s] 99 (0,0))) (s0:0≤s) (s1:s≤100000) (L:Int) (hL:L=if n < 24 then 1 else 2):
 Calls Tryd.prog 85 #[.pointer (some ⟨c,0,none⟩),.agg #[.int .i64 7,.int .u64 N,.slice ab nb cb,.slice ai ni ci]] w (SP c it (s + L) w):=by
 have hcl:=lb hc;have P0:=al w (.cells #[.int .i64 7,.int .u64 N,.slice ab nb cb,.slice ai ni ci] 31);have hc1:=Below.keep P0 hc hcl;obtain ⟨y0,y1,y2,y3⟩:=cw hc1;have hne:w.heap.size≠c:=by omega
 have n0:0≤N:=by omega
 have N0:=aw w (.cells #[.int .i64 7,.int .u64 N,.slice ab nb cb,.slice ai ni ci] 31);obtain ⟨x0,x1,x2,x3⟩:=cf N0;have Q0:=But.of_below (b:=c) P0;generalize hB:w.heap.size=B at *;by_cases h24:n < 24
 ·rw [if_pos h24] at hL
  subst hL;have hz:N < 24:=by omega
  have X1:=dh (set_one (z:=.int .i64 (s + 1)) hc1);have B1:=dh (((Q0)).setCell (p:=⟨c,1,none⟩) rfl (.int .i64 (s + 1)));clear P0 Q0 hc1 hc hN h24 N0;go_enter Tryd.func85,Tryd.ntmps85
  go_upto_region 5 with fail
  generalize w.alloc (.cells #[.int .i64 7,.int .u64 N,.slice ab nb cb,.slice ai ni ci] 31)=w1 at *;go_wp2_with fail
  go_ret
  exact ⟨rfl,X1.out,B1.out⟩
 ·rw [if_neg h24] at hL
  subst hL;have hz:¬ N < 24:=by omega
  have hz2:24≤N:=by omega
  have X1:=set_one (z:=.int .i64 (s + 1)) hc1;have X2:=dh (set_one (z:=.int .i64 (s + 1 + 1)) X1);have B1:=dh ((((Q0)).setCell (p:=⟨c,1,none⟩) rfl (.int .i64 (s + 1))).setCell (p:=⟨c,1,none⟩) rfl (.int .i64 (s + 1 + 1)));clear P0 Q0 hc1 hc hN h24 X1 N0;have e2:s + 1 + 1=s + 2:=by omega
  rw [e2] at X2 B1;clear e2;go_enter Tryd.func85,Tryd.ntmps85
  go_upto_region 5 with fail
  generalize w.alloc (.cells #[.int .i64 7,.int .u64 N,.slice ab nb cb,.slice ai ni ci] 31)=w1 at *;go_wp2_with fail
  go_ret
  have e2:s + 1 + 1=s + 2:=by omega
  rw [e2];exact ⟨rfl,X2.out,B1.out⟩
set_option maxHeartbeats 8000000 in
theorem spend_head (c:Nat) (it s:Int) (k N:Int) (m q:Nat) (C:Int) (hC:C=q) (hm:m < 8) (ab ai:Option Addr) (nb cb ni ci:Nat) (hmaj:∀ W,Calls Tryd.prog 65 #[.agg #[.int .i64 k,.int .u64 N,.slice ab nb cb,.slice ai ni ci]] W (MJ m C W)) (b8:(k==8)=false) (b7:(k==7)=false) (w:World) (hc:w.heap[c]?=some (.cells #[.int .i64 it,.int .i64 s] 99 (0,0))) (s0:0≤s) (s1:s≤100000) (hnb:nb≤1000000):
 Calls Tryd.prog 85 #[.pointer (some ⟨c,0,none⟩),.agg #[.int .i64 k,.int .u64 N,.slice ab nb cb,.slice ai ni ci]] w (SP c it (s + ((It.head m q).length + (nb:Int))) w):=by
 have fl:(It.head m q).length≤9:=by rw [It.head_length];(repeat' split) <;> omega
 have C2:=fun W=>head_any m q C hC m rfl hm W
 have hcl:=lb hc;have P0:=al w (.cells #[.int .i64 k,.int .u64 N,.slice ab nb cb,.slice ai ni ci] 31);have N0:=aw w (.cells #[.int .i64 k,.int .u64 N,.slice ab nb cb,.slice ai ni ci] 31);have hc1:=Below.keep P0 hc hcl;have hne:w.heap.size≠c:=by omega
 have HP:=dh P0;have HC1:=dh hc1;have HN0:=dh N0;have HJ:=dh hmaj;clear P0 N0 hc1 hc hC hm hmaj;go_enter Tryd.func85,Tryd.ntmps85
 go_upto_region 2 with fail
 generalize w.alloc (.cells #[.int .i64 k,.int .u64 N,.slice ab nb cb,.slice ai ni ci] 31)=w1 at *;have hcl1:=lb HC1.out;have hnl1:=lb HN0.out;obtain ⟨y0,y1,y2,y3⟩:=cw HC1.out;obtain ⟨x0,x1,x2,x3⟩:=cf HN0.out;generalize hB:w.heap.size=B at *;refine wp_region_held_drew (S:=(fun w'=>w'.cell? ⟨B,0,none⟩=some (.int .i64 k)∧w'.cell? ⟨B,1,none⟩=some (.int .u64 N)∧w'.cell? ⟨B,2,none⟩=some (.slice ab nb cb)∧w'.cell? ⟨B,3,none⟩=some (.slice ai ni ci))) (by kernel_rfl) ⟨x0,x1,x2,x3⟩ (fun hHeld=>?_);refine tk 0 (v:=?_) rfl hHeld ?_ ?_;rotate_left
 ·intro W h;(try dsimp only at h);go_simp;try with_reducible rfl
 try simp only [Act.put,sx]
 refine tk 1 (v:=?_) rfl hHeld ?_ ?_;rotate_left
 ·intro W h;(try dsimp only at h);go_simp;try with_reducible rfl
 try simp only [Act.put,sx]
 refine tk 2 (v:=?_) rfl hHeld ?_ ?_;rotate_left
 ·intro W h;(try dsimp only at h);go_simp;try with_reducible rfl
 try simp only [Act.put,sx]
 refine tk 4 (v:=?_) rfl hHeld ?_ ?_;rotate_left
 ·intro W h;(try dsimp only at h);go_simp;try with_reducible rfl
 try simp only [Act.put,sx]
 refine tk 10 (v:=?_) rfl hHeld ?_ ?_;rotate_left
 ·intro W h;(try dsimp only at h);go_simp;try with_reducible rfl
 try simp only [Act.put,sx]
 refine tk 11 (v:=?_) rfl hHeld ?_ ?_;rotate_left
 ·intro W h;(try dsimp only at h);go_simp;try with_reducible rfl
 try simp only [Act.put,sx]
 refine tk 12 (v:=?_) rfl hHeld ?_ ?_;rotate_left
 ·intro W h;(try dsimp only at h);go_simp;try with_reducible rfl
 try simp only [Act.put,sx]
 refine wpAnyH_ready (rs:=[3,5]) (by kernel_rfl) (by simp) ?_;refine AllReadyH.cons rfl (fun K1 hK1=>?_) (AllReadyH.cons rfl (fun K1 hK1=>?_) AllReadyH.nil)
 ·go_simp
  refine hK1.out _ _ hHeld (fun hHeld=>?_);clear hK1
  try simp only [Act.put,sx]
  refine wpAnyH_ready (rs:=[5]) (by kernel_rfl) (by simp) ?_;refine AllReadyH.cons rfl (fun K1 hK1=>?_) AllReadyH.nil;go_simp
  refine (HJ.out _).mono ?_;rintro e w2 ⟨rfl,B2⟩;have HC2:=dh (Below.keep B2 HC1.out hcl1);have HN2:=dh (Below.keep B2 HN0.out hnl1);have HB2:=dh ((But.of_below (b:=c) (hB ▸ HP.out)).trans ((But.refl c w1).drewN 1 |>.trans (But.of_below B2)));obtain ⟨e0,e1,e2,e3⟩:=cw HC2.out;obtain ⟨f0,f1,f2,f3⟩:=cf HN2.out;have hcl2:=lb HC2.out;have hnl2:=lb HN2.out;clear B2;refine hK1.out _ _ ⟨f0,f1,f2,f3⟩ (fun hHeld=>?_);clear hK1
  try simp only [Act.put,sx]
  refine tk 6 (v:=?_) rfl hHeld ?_ ?_;rotate_left
  ·intro W h;(try dsimp only at h);go_simp;try with_reducible rfl
  try simp only [Act.put,sx]
  refine tk 7 (v:=?_) rfl hHeld ?_ ?_;rotate_left
  ·intro W h;(try dsimp only at h);go_simp;try with_reducible rfl
  try simp only [Act.put,sx]
  refine wpAnyH_ready (rs:=[8]) (by kernel_rfl) (by simp) ?_;refine AllReadyH.cons rfl (fun K1 hK1=>?_) AllReadyH.nil;go_simp
  refine (C2 _).mono ?_;rintro e w3 h3;obtain ⟨a3,c3,rfl,z1,R3,z2,z3,B3⟩:=h3.open;clear z1 z2 z3 h3 R3;have HC3:=dh (Below.keep B3 HC2.out hcl2);have HN3:=dh (Below.keep B3 HN2.out hnl2);have HB3:=dh (HB2.out.trans (But.of_below B3));obtain ⟨g0,g1,g2,g3⟩:=cw HC3.out;obtain ⟨h0,h1,h2,h3⟩:=cf HN3.out;clear B3;refine hK1.out _ _ ⟨h0,h1,h2,h3⟩ (fun hHeld=>?_);clear hK1
  try simp only [Act.put,sx]
  refine tk 9 (v:=?_) rfl hHeld ?_ ?_;rotate_left
  ·intro W h;(try dsimp only at h);go_simp;try with_reducible rfl
  try simp only [Act.put,sx]
  refine tk 13 (v:=?_) rfl hHeld ?_ ?_;rotate_left
  ·intro W h;(try dsimp only at h);go_simp;try with_reducible rfl
  try simp only [Act.put,sx]
  refine tk 14 (v:=?_) rfl hHeld ?_ ?_;rotate_left
  ·intro W h;(try dsimp only at h);go_simp;try with_reducible rfl
  try simp only [Act.put,sx]
  refine tk 15 (v:=?_) rfl hHeld ?_ ?_;rotate_left
  ·intro W h;(try dsimp only at h);go_simp;try with_reducible rfl
  try simp only [Act.put,sx]
  refine tk 16 (v:=?_) rfl hHeld ?_ ?_;rotate_left
  ·intro W h;(try dsimp only at h);go_simp;try with_reducible rfl
  try simp only [Act.put,sx]
  refine wpAnyH_ready (rs:=[17]) (by kernel_rfl) (by simp) ?_;refine AllReadyH.cons rfl (fun K1 hK1=>?_) AllReadyH.nil;have hw0:IntKind.i64.wrap (((It.head m q).length:Int) + (nb:Int))=((It.head m q).length:Int) + (nb:Int):=IntWalk.i64_in _ (by omega);rw [hw0];clear hw0;go_simp
  have far:=fun (j:Nat)=>cu (o:=j) (Below.heap_setCell w3 ⟨c,1,none⟩ (.int .i64 (IntKind.i64.wrap (s + ((It.head m q).length + (nb:Int))))) B hne)
  refine hK1.out _ _ ⟨(far 0).trans h0,(far 1).trans h1,(far 2).trans h2,(far 3).trans h3⟩ (fun hHeld=>?_);clear hK1
  try simp only [Act.put,sx]
  refine wpAnyH_done (by kernel_rfl) ?_ _
  try simp only [Act.put,sx]
  have hw:IntKind.i64.wrap (s + ((It.head m q).length + (nb:Int)))=s + ((It.head m q).length + (nb:Int)):=IntWalk.i64_in _ (by omega);rw [hw];have HC5:=dh (set_one (z:=.int .i64 (s + ((It.head m q).length + (nb:Int)))) HC3.out);have HB5:=dh (HB3.out.setCell (p:=⟨c,1,none⟩) rfl (.int .i64 (s + ((It.head m q).length + (nb:Int)))));clear hw hHeld g0 g1 g2 g3 h0 h1 h2 h3 e0 e1 e2 e3 f0 f1 f2 f3 HC3 HB3 far;generalize w3.setCell ⟨c,1,none⟩ (.int .i64 (s + ((It.head m q).length + (nb:Int))))=w5 at *;obtain ⟨t0,t1,t2,t3⟩:=cw HC5.out;clear x0 x1 x2 x3 y0 y1 y2 y3;generalize s + ((It.head m q).length + (nb:Int))=S at *;go_wp2_with fail
  go_ret
  exact ⟨rfl,HC5.out,HB5.out⟩
 ·go_simp
  refine (HJ.out _).mono ?_;rintro e w2 ⟨rfl,B2⟩;have HC2:=dh (Below.keep B2 HC1.out hcl1);have HN2:=dh (Below.keep B2 HN0.out hnl1);have HB2:=dh ((But.of_below (b:=c) (hB ▸ HP.out)).trans ((But.refl c w1).drewN 1 |>.trans (But.of_below B2)));obtain ⟨e0,e1,e2,e3⟩:=cw HC2.out;obtain ⟨f0,f1,f2,f3⟩:=cf HN2.out;have hcl2:=lb HC2.out;have hnl2:=lb HN2.out;clear B2;refine hK1.out _ _ ⟨f0,f1,f2,f3⟩ (fun hHeld=>?_);clear hK1
  try simp only [Act.put,sx]
  refine tk 6 (v:=?_) rfl hHeld ?_ ?_;rotate_left
  ·intro W h;(try dsimp only at h);go_simp;try with_reducible rfl
  try simp only [Act.put,sx]
  refine tk 7 (v:=?_) rfl hHeld ?_ ?_;rotate_left
  ·intro W h;(try dsimp only at h);go_simp;try with_reducible rfl
  try simp only [Act.put,sx]
  refine wpAnyH_ready (rs:=[3,8]) (by kernel_rfl) (by simp) ?_;refine AllReadyH.cons rfl (fun K1 hK1=>?_) (AllReadyH.cons rfl (fun K1 hK1=>?_) AllReadyH.nil)
  ·go_simp
   refine hK1.out _ _ hHeld (fun hHeld=>?_);clear hK1
   try simp only [Act.put,sx]
   refine wpAnyH_ready (rs:=[8]) (by kernel_rfl) (by simp) ?_;refine AllReadyH.cons rfl (fun K1 hK1=>?_) AllReadyH.nil;go_simp
   refine (C2 _).mono ?_;rintro e w3 h3;obtain ⟨a3,c3,rfl,z1,R3,z2,z3,B3⟩:=h3.open;clear z1 z2 z3 h3 R3;have HC3:=dh (Below.keep B3 HC2.out hcl2);have HN3:=dh (Below.keep B3 HN2.out hnl2);have HB3:=dh (HB2.out.trans (But.of_below B3));obtain ⟨g0,g1,g2,g3⟩:=cw HC3.out;obtain ⟨h0,h1,h2,h3⟩:=cf HN3.out;clear B3;refine hK1.out _ _ ⟨h0,h1,h2,h3⟩ (fun hHeld=>?_);clear hK1
   try simp only [Act.put,sx]
   refine tk 9 (v:=?_) rfl hHeld ?_ ?_;rotate_left
   ·intro W h;(try dsimp only at h);go_simp;try with_reducible rfl
   try simp only [Act.put,sx]
   refine tk 13 (v:=?_) rfl hHeld ?_ ?_;rotate_left
   ·intro W h;(try dsimp only at h);go_simp;try with_reducible rfl
   try simp only [Act.put,sx]
   refine tk 14 (v:=?_) rfl hHeld ?_ ?_;rotate_left
   ·intro W h;(try dsimp only at h);go_simp;try with_reducible rfl
   try simp only [Act.put,sx]
   refine tk 15 (v:=?_) rfl hHeld ?_ ?_;rotate_left
   ·intro W h;(try dsimp only at h);go_simp;try with_reducible rfl
   try simp only [Act.put,sx]
   refine tk 16 (v:=?_) rfl hHeld ?_ ?_;rotate_left
   ·intro W h;(try dsimp only at h);go_simp;try with_reducible rfl
   try simp only [Act.put,sx]
   refine wpAnyH_ready (rs:=[17]) (by kernel_rfl) (by simp) ?_;refine AllReadyH.cons rfl (fun K1 hK1=>?_) AllReadyH.nil;have hw0:IntKind.i64.wrap (((It.head m q).length:Int) + (nb:Int))=((It.head m q).length:Int) + (nb:Int):=IntWalk.i64_in _ (by omega);rw [hw0];clear hw0;go_simp
   have far:=fun (j:Nat)=>cu (o:=j) (Below.heap_setCell w3 ⟨c,1,none⟩ (.int .i64 (IntKind.i64.wrap (s + ((It.head m q).length + (nb:Int))))) B hne)
   refine hK1.out _ _ ⟨(far 0).trans h0,(far 1).trans h1,(far 2).trans h2,(far 3).trans h3⟩ (fun hHeld=>?_);clear hK1
   try simp only [Act.put,sx]
   refine wpAnyH_done (by kernel_rfl) ?_ _
   try simp only [Act.put,sx]
   have hw:IntKind.i64.wrap (s + ((It.head m q).length + (nb:Int)))=s + ((It.head m q).length + (nb:Int)):=IntWalk.i64_in _ (by omega);rw [hw];have HC5:=dh (set_one (z:=.int .i64 (s + ((It.head m q).length + (nb:Int)))) HC3.out);have HB5:=dh (HB3.out.setCell (p:=⟨c,1,none⟩) rfl (.int .i64 (s + ((It.head m q).length + (nb:Int)))));clear hw hHeld g0 g1 g2 g3 h0 h1 h2 h3 e0 e1 e2 e3 f0 f1 f2 f3 HC3 HB3 far;generalize w3.setCell ⟨c,1,none⟩ (.int .i64 (s + ((It.head m q).length + (nb:Int))))=w5 at *;obtain ⟨t0,t1,t2,t3⟩:=cw HC5.out;clear x0 x1 x2 x3 y0 y1 y2 y3;generalize s + ((It.head m q).length + (nb:Int))=S at *;go_wp2_with fail
   go_ret
   exact ⟨rfl,HC5.out,HB5.out⟩
  ·go_simp
   refine (C2 _).mono ?_;rintro e w3 h3;obtain ⟨a3,c3,rfl,z1,R3,z2,z3,B3⟩:=h3.open;clear z1 z2 z3 h3 R3;have HC3:=dh (Below.keep B3 HC2.out hcl2);have HN3:=dh (Below.keep B3 HN2.out hnl2);have HB3:=dh (HB2.out.trans (But.of_below B3));obtain ⟨g0,g1,g2,g3⟩:=cw HC3.out;obtain ⟨h0,h1,h2,h3⟩:=cf HN3.out;clear B3;refine hK1.out _ _ ⟨h0,h1,h2,h3⟩ (fun hHeld=>?_);clear hK1
   try simp only [Act.put,sx]
   refine tk 9 (v:=?_) rfl hHeld ?_ ?_;rotate_left
   ·intro W h;(try dsimp only at h);go_simp;try with_reducible rfl
   try simp only [Act.put,sx]
   refine tk 13 (v:=?_) rfl hHeld ?_ ?_;rotate_left
   ·intro W h;(try dsimp only at h);go_simp;try with_reducible rfl
   try simp only [Act.put,sx]
   refine wpAnyH_ready (rs:=[3]) (by kernel_rfl) (by simp) ?_;refine AllReadyH.cons rfl (fun K1 hK1=>?_) AllReadyH.nil;go_simp
   refine hK1.out _ _ hHeld (fun hHeld=>?_);clear hK1
   try simp only [Act.put,sx]
   refine tk 14 (v:=?_) rfl hHeld ?_ ?_;rotate_left
   ·intro W h;(try dsimp only at h);go_simp;try with_reducible rfl
   try simp only [Act.put,sx]
   refine tk 15 (v:=?_) rfl hHeld ?_ ?_;rotate_left
   ·intro W h;(try dsimp only at h);go_simp;try with_reducible rfl
   try simp only [Act.put,sx]
   refine tk 16 (v:=?_) rfl hHeld ?_ ?_;rotate_left
   ·intro W h;(try dsimp only at h);go_simp;try with_reducible rfl
   try simp only [Act.put,sx]
   refine wpAnyH_ready (rs:=[17]) (by kernel_rfl) (by simp) ?_;refine AllReadyH.cons rfl (fun K1 hK1=>?_) AllReadyH.nil;have hw0:IntKind.i64.wrap (((It.head m q).length:Int) + (nb:Int))=((It.head m q).length:Int) + (nb:Int):=IntWalk.i64_in _ (by omega);rw [hw0];clear hw0;go_simp
   have far:=fun (j:Nat)=>cu (o:=j) (Below.heap_setCell w3 ⟨c,1,none⟩ (.int .i64 (IntKind.i64.wrap (s + ((It.head m q).length + (nb:Int))))) B hne)
   refine hK1.out _ _ ⟨(far 0).trans h0,(far 1).trans h1,(far 2).trans h2,(far 3).trans h3⟩ (fun hHeld=>?_);clear hK1
   try simp only [Act.put,sx]
   refine wpAnyH_done (by kernel_rfl) ?_ _
   try simp only [Act.put,sx]
   have hw:IntKind.i64.wrap (s + ((It.head m q).length + (nb:Int)))=s + ((It.head m q).length + (nb:Int)):=IntWalk.i64_in _ (by omega);rw [hw];have HC5:=dh (set_one (z:=.int .i64 (s + ((It.head m q).length + (nb:Int)))) HC3.out);have HB5:=dh (HB3.out.setCell (p:=⟨c,1,none⟩) rfl (.int .i64 (s + ((It.head m q).length + (nb:Int)))));clear hw hHeld g0 g1 g2 g3 h0 h1 h2 h3 e0 e1 e2 e3 f0 f1 f2 f3 HC3 HB3 far;generalize w3.setCell ⟨c,1,none⟩ (.int .i64 (s + ((It.head m q).length + (nb:Int))))=w5 at *;obtain ⟨t0,t1,t2,t3⟩:=cw HC5.out;clear x0 x1 x2 x3 y0 y1 y2 y3;generalize s + ((It.head m q).length + (nb:Int))=S at *;go_wp2_with fail
   go_ret
   exact ⟨rfl,HC5.out,HB5.out⟩
theorem add_new {d:Nat} {x:It} {A:Ad} {ok:Nat→Prop} {w:World} (hw:It.wf d x=true) (hI:IR ok w x A) (hl:(It.enc x).length≤1000000000):
 ∀ W,Below w.heap.size w W→Calls Tryd.prog 41 #[.slice none 0 0,.agg #[.int .i64 x.kind,.int .u64 (x.num:Int),.slice A.ab A.nb A.cb,.slice A.ai A.ni A.ci]] W (FB (It.enc x) W):=fun W hB=>by
 have h:=add_any d x A W.heap.size W (.slice none 0 0) [] hw ((hI.imp (ok':=fun b=>b < w.heap.size) (fun b _ h=>h)).keep fun b hb hl=>⟨hB.block b hb,Nat.lt_of_lt_of_le hb hB.size⟩) (OwnB.nil _ _) (by simpa using hl) (Nat.le_refl _);exact h
def ascI (l:List It) (i:Nat):Bool:=match l[i - 2]? with | some k=>It.asc (some (It.enc k)) (l.drop i) | none=>true
theorem ascI_start (l:List It) (h:l.length % 2=0):It.asc .none l=ascI l 2:=by
 match l,h with
 | [],_=>rfl
 | [_],h=>simp at h
 | k :: v :: r,_=>simp [ascI,It.asc]
theorem ascI_end (l:List It) (i:Nat) (h:l.length≤i):ascI l i=true:=by
 unfold ascI
 split
 ·rw [List.drop_of_length_le h];rfl
 ·rfl
theorem ascI_step (l:List It) (i:Nat) (h2:2≤i) (h:i + 1 < l.length):ascI l i=(decide (It.cmpB (It.enc l[i - 2]) (It.enc l[i]) < 0) && ascI l (i + 2)):=by
 have e1:l.drop i=l[i] :: l[i + 1] :: l.drop (i + 2):=by
  rw [List.drop_eq_getElem_cons (by omega),List.drop_eq_getElem_cons (by omega)]
 unfold ascI;rw [List.getElem?_eq_getElem (by omega),e1];have e2:i + 2 - 2=i:=by omega
 rw [e2,List.getElem?_eq_getElem (by omega)];simp [It.asc]
set_option maxHeartbeats 8000000 in
theorem ascending_any (l:List It) (a:Option Addr) (n c d:Nat) (ok:Nat→Prop) (w:World) (hT:TL ok w l a n) (hw:It.wfs d l=true) (he:l.length % 2=0) (hl:(It.encs l).length≤1000000000) (R:Bool) (hR:It.asc .none l=R):
 Calls Tryd.prog 86 #[.slice a n c] w fun e w'=>e=.returned (.bool R)∧Below w.heap.size w w':=by
 have hn:=hT.1;have hnb:n≤1000000000:=by have:=It.length_le_encs l;omega
 have HT:=dh hT;have HW:=dh hw;have HL:=dh hl;have HE:=dh he;have HN:=dh hn;have HR:=dh ((ascI_start l he).symm.trans hR);clear hT hw hl hR he hn;go_enter Tryd.func86,Tryd.ntmps86
 go_wp2_with fail
 go_loopw [3] (fun i W=>∃ j:Nat,i=.int .i64 j∧2≤j∧j % 2=0∧j≤n + 2∧ascI l j=R∧Below w.heap.size w W) (fun i _=>n + 2 - (intOf i).toNat)
 case atStart=>exact ⟨2,rfl,by omega,by omega,by omega,HR.out,Below.refl _ _⟩
 case round=>
  obtain ⟨j,rfl,hj2,hje,hjn,hasc,hB⟩:=hrel;by_cases hlt:j < n
  ·have hj1:j + 1 < l.length:=by have:=HN.out;have:=HE.out;omega
   have hstep:=ascI_step l j hj2 hj1;rw [hasc] at hstep;obtain ⟨b,o,A1,rfl,_,⟨x0,x1,x2,x3⟩,hI1⟩:=(HT.out.below hB).2.2 (j - 2) (by omega);obtain ⟨b',o',A2,eab,_,⟨y0,y1,y2,y3⟩,hI2⟩:=(HT.out.below hB).2.2 j (by omega);cases eab
   have hlen:∀ q (h:q < l.length),(It.enc l[q]).length≤1000000000:=fun q h=>by
    have e1:=encs_take_succ h;have e2:=encs_take_le l (q + 1);rw [e1,List.length_append] at e2;have:=HL.out;omega
   have CA1:=dh (add_new (wfs_get HW.out (j - 2) (by omega)) hI1 (hlen _ (by omega)));have CA2:=dh (add_new (wfs_get HW.out j (by omega)) hI2 (hlen _ (by omega)));have HB:=dh hB;have HST:=dh hstep;have hnb':(n:Int)≤1000000000:=by omega
   clear hI1 hI2 hlen hB hstep hasc;generalize l[j - 2]=p at *;generalize l[j]=q at *;clear hj1;have hjz:(j:Int) < (n:Int):=by omega
   generalize hJ:j - 2=J at *;have hs0:IntKind.i64.wrap ((j:Int) - 2)=(J:Int):=by rw [IntWalk.i64_in _ (by omega)];omega
   have hj0b:(J:Int) < (n:Int):=by omega
   have hJ0:J < n:=by omega
   clear hJ;have hlx0:=lg x0;go_wp2_with fail
   refine wp_region_held_drew (S:=(fun w'=>(w'.cell? ⟨b,o + J * 4,none⟩=some (.int .i64 p.kind)∧w'.cell? ⟨b,o + J * 4 + 1,none⟩=some (.int .u64 (p.num:Int))∧w'.cell? ⟨b,o + J * 4 + 2,none⟩=some (.slice A1.ab A1.nb A1.cb)∧w'.cell? ⟨b,o + J * 4 + 3,none⟩=some (.slice A1.ai A1.ni A1.ci))∧w'.cell? ⟨b,o + j * 4,none⟩=some (.int .i64 q.kind)∧w'.cell? ⟨b,o + j * 4 + 1,none⟩=some (.int .u64 (q.num:Int))∧w'.cell? ⟨b,o + j * 4 + 2,none⟩=some (.slice A2.ab A2.nb A2.cb)∧w'.cell? ⟨b,o + j * 4 + 3,none⟩=some (.slice A2.ai A2.ni A2.ci))) (by kernel_rfl) ⟨⟨x0,x1,x2,x3⟩,y0,y1,y2,y3⟩ (fun hHeld=>?_);refine tk 0 (v:=?_) rfl hHeld ?_ ?_;rotate_left
   ·intro W h;(try dsimp only at h);go_simp;try with_reducible rfl
   try simp only [Act.put,sx]
   refine tk 1 (v:=?_) rfl hHeld ?_ ?_;rotate_left
   ·intro W h;(try dsimp only at h);go_simp;try with_reducible rfl
   try simp only [Act.put,sx]
   refine tk 2 (v:=?_) rfl hHeld ?_ ?_;rotate_left
   ·intro W h;(try dsimp only at h);go_simp;try with_reducible rfl
   try simp only [Act.put,sx]
   refine tk 3 (v:=?_) rfl hHeld ?_ ?_;rotate_left
   ·intro W h;(try dsimp only at h);go_simp;try with_reducible rfl
   try simp only [Act.put,sx]
   refine tk 4 (v:=?_) rfl hHeld ?_ ?_;rotate_left
   ·intro W h;(try dsimp only at h);go_simp;try with_reducible rfl
   try simp only [Act.put,sx]
   refine tk 6 (v:=?_) rfl hHeld ?_ ?_;rotate_left
   ·intro W h;(try dsimp only at h);go_simp;try with_reducible rfl
   try simp only [Act.put,sx]
   refine tk 7 (v:=?_) rfl hHeld ?_ ?_;rotate_left
   ·intro W h;(try dsimp only at h);go_simp;try with_reducible rfl
   try simp only [Act.put,sx]
   refine tk 8 (v:=?_) rfl hHeld ?_ ?_;rotate_left
   ·intro W h;(try dsimp only at h);go_simp;try with_reducible rfl
   try simp only [Act.put,sx]
   refine tk 9 (v:=?_) rfl hHeld ?_ ?_;rotate_left
   ·intro W h;(try dsimp only at h);go_simp;try with_reducible rfl
   try simp only [Act.put,sx]
   refine wpAnyH_ready (rs:=[5]) (by kernel_rfl) (by simp) ?_;refine AllReadyH.cons rfl (fun K1 hK1=>?_) AllReadyH.nil;go_simp
   refine (CA1.out _ (bd (Below.refl _ _) 1)).mono ?_;rintro e w2 g2;obtain ⟨a2,c2,rfl,z1,R2,z2,z3,B2⟩:=g2.open;clear z1 z2 z3 g2;have HB2:=dh (pt (bd (Below.refl wr.heap.size wr) 1) B2);have HR2:=dh R2;clear R2 B2;refine hK1.out _ _ ?_ (fun hHeld=>?_)
   ·have B2X:=HB2.out
    exact ⟨⟨(B2X.cell (p:=⟨b,o + J * 4,none⟩) hlx0).trans x0,(B2X.cell (p:=⟨b,o + J * 4 + 1,none⟩) hlx0).trans x1,(B2X.cell (p:=⟨b,o + J * 4 + 2,none⟩) hlx0).trans x2,(B2X.cell (p:=⟨b,o + J * 4 + 3,none⟩) hlx0).trans x3⟩,(B2X.cell (p:=⟨b,o + j * 4,none⟩) hlx0).trans y0,(B2X.cell (p:=⟨b,o + j * 4 + 1,none⟩) hlx0).trans y1,(B2X.cell (p:=⟨b,o + j * 4 + 2,none⟩) hlx0).trans y2,(B2X.cell (p:=⟨b,o + j * 4 + 3,none⟩) hlx0).trans y3⟩
   clear hK1
   try simp only [Act.put,sx]
   refine wpAnyH_ready (rs:=[10]) (by kernel_rfl) (by simp) ?_;refine AllReadyH.cons rfl (fun K1 hK1=>?_) AllReadyH.nil;go_simp
   refine (CA2.out _ HB2.out).mono ?_;rintro e w3 g3;obtain ⟨a3,c3,rfl,z1,R3,z2,z3,B3⟩:=g3.open;clear z1 z2 z3 g3;have HB3:=dh (pt HB2.out B3);have HR3:=dh R3;have HR2':=dh (HR2.out.below B3);clear R3 B3;refine hK1.out _ _ ?_ (fun hHeld=>?_)
   ·have B2X:=HB3.out
    exact ⟨⟨(B2X.cell (p:=⟨b,o + J * 4,none⟩) hlx0).trans x0,(B2X.cell (p:=⟨b,o + J * 4 + 1,none⟩) hlx0).trans x1,(B2X.cell (p:=⟨b,o + J * 4 + 2,none⟩) hlx0).trans x2,(B2X.cell (p:=⟨b,o + J * 4 + 3,none⟩) hlx0).trans x3⟩,(B2X.cell (p:=⟨b,o + j * 4,none⟩) hlx0).trans y0,(B2X.cell (p:=⟨b,o + j * 4 + 1,none⟩) hlx0).trans y1,(B2X.cell (p:=⟨b,o + j * 4 + 2,none⟩) hlx0).trans y2,(B2X.cell (p:=⟨b,o + j * 4 + 3,none⟩) hlx0).trans y3⟩
   clear hK1
   try simp only [Act.put,sx]
   refine wpAnyH_ready (rs:=[11]) (by kernel_rfl) (by simp) ?_;refine AllReadyH.cons rfl (fun K1 hK1=>?_) AllReadyH.nil;go_simp
   refine (compare_any HR2'.out HR3.out _ rfl).mono ?_;rintro e u ⟨rfl,rfl⟩;refine hK1.out _ _ hHeld (fun hHeld=>?_);clear hK1
   try simp only [Act.put,sx]
   refine tk 12 (v:=?_) rfl hHeld ?_ ?_;rotate_left
   ·intro W h;(try dsimp only at h);go_simp;try with_reducible rfl
   try simp only [Act.put,sx]
   refine wpAnyH_done (by kernel_rfl) ?_ _
   try simp only [Act.put,sx]
   clear hHeld;have hst:=HST.out;by_cases hcc:It.cmpB (It.enc p) (It.enc q) < 0
   ·have hst':Hid (R=ascI l (j + 2)):=by rw [hst,decide_eq_true hcc];exact dh (by simp)
    clear hst;generalize It.cmpB (It.enc p) (It.enc q)=C at *;have hcz:¬ (0:Int)≤C:=by omega
    go_wp2_with fail
    go_roundw
    case rel=>exact ⟨j + 2,by go_num,by omega,by omega,by omega,hst'.out.symm,HB.out.trans (HB3.out.mono HB.out.size)⟩
    case measure=>simp [intOf];omega
   ·have hst':Hid (R=false):=by rw [hst,decide_eq_false hcc];exact dh (by simp)
    clear hst;generalize It.cmpB (It.enc p) (It.enc q)=C at *;have hcz:(0:Int)≤C:=by omega
    go_wp2_with fail
    go_ret
    exact ⟨by rw [hst'.out];rfl,HB.out.trans (HB3.out.mono HB.out.size)⟩
  ·have hR1:Hid (R=true):=dh (by rw [← hasc];exact ascI_end l j (by have:=HN.out;omega))
   have hB':=dh hB;have hnl:¬ (j:Int) < (n:Int):=by omega
   clear hasc hB;go_wp2_with fail
   go_ret
   exact ⟨by rw [hR1.out];rfl,hB'.out⟩
def IPost (c:Nat) (r:Bool) (a s:Nat) (w:World) (e:Ending) (w':World):Prop:=e=.returned (.bool r)∧But c w w'∧(r=true→w'.heap[c]?=some (.cells #[.int .i64 (a:Int),.int .i64 (s:Int)] 99 (0,0)))
def ItC (d:Nat):Prop:=∀ (x:It) (A:Ad) (w:World) (ok:Nat→Prop) (c a s:Nat) (LV:Int),IR ok w x A→(∀ b,ok b→b≠c)→Env w→1 < c→w.heap[c]?=some (.cells #[.int .i64 (a:Int),.int .i64 (s:Int)] 99 (0,0))→a≤256→s≤4096→LV=8 - (d:Int)→
 Calls Tryd.prog 54 #[.pointer (some ⟨c,0,none⟩),.agg #[.int .i64 x.kind,.int .u64 (x.num:Int),.slice A.ab A.nb A.cb,.slice A.ai A.ni A.ci],.int .i64 LV] w (IPost c (It.okP d x a s) (a + It.nodes x) (s + (It.enc x).length) w)
theorem But.ir {ok:Nat→Prop} {c:Nat} {w w':World} {x:It} {A:Ad} (h:IR ok w x A) (hb:But c w w') (hk:∀ b,ok b→b≠c):IR ok w' x A:=h.keep fun b hb' hl=>⟨hb.block b hl (hk b hb'),hb'⟩
theorem But.tl {ok:Nat→Prop} {c:Nat} {w w':World} {l:List It} {a:Option Addr} {n:Nat} (h:TL ok w l a n) (hb:But c w w') (hk:∀ b,ok b→b≠c):TL ok w' l a n:=h.keep fun b hb' hl=>⟨hb.block b hl (hk b hb'),hb'⟩
theorem But.env {c:Nat} {w w':World} (h:Env w) (hb:But c w w') (hc:1 < c):Env w':=by
 refine ⟨fun i hi=>?_,fun i hi=>⟨?_,?_⟩⟩
 ·have h1:=h.1 i hi
  exact (hb.cell (p:=⟨0,i,none⟩) (lg h1) (by show (0:Nat)≠c;omega)).trans h1
 ·have h1:=(h.2 i hi).1
  exact (hb.cell (p:=⟨1,2 * i,none⟩) (lg h1) (by show (1:Nat)≠c;omega)).trans h1
 ·have h1:=(h.2 i hi).2
  exact (hb.cell (p:=⟨1,2 * i + 1,none⟩) (lg h1) (by show (1:Nat)≠c;omega)).trans h1
set_option maxHeartbeats 4000000 in
theorem item_over (x:It) (A:Ad) (w:World) (c:Nat) (a s LV:Int) (hc:w.heap[c]?=some (.cells #[.int .i64 a,.int .i64 s] 99 (0,0))) (a0:0≤a) (a1:a≤256) (h:256 < a + 1∨4096 < A.nb∨256 < A.ni):
 Calls Tryd.prog 54 #[.pointer (some ⟨c,0,none⟩),.agg #[.int .i64 x.kind,.int .u64 (x.num:Int),.slice A.ab A.nb A.cb,.slice A.ai A.ni A.ci],.int .i64 LV] w fun e w'=>e=.returned (.bool false)∧But c w w':=by
 have hcl:=lb hc;generalize x.kind=k at *;generalize (x.num:Int)=N at *;obtain ⟨ab,nb,cb,ai,ni,ci⟩:=A;simp only at *;have P0:=al w (.cells #[.int .i64 k,.int .u64 N,.slice ab nb cb,.slice ai ni ci] 31);have N0:=aw w (.cells #[.int .i64 k,.int .u64 N,.slice ab nb cb,.slice ai ni ci] 31);have hc1:=Below.keep P0 hc hcl;have Q0:=dh (But.of_below (b:=c) P0);have hne:w.heap.size≠c:=by omega
 obtain ⟨y0,y1,y2,y3⟩:=cw hc1;obtain ⟨x0,x1,x2,x3⟩:=cf N0;clear P0 N0 hc1 hc;generalize hB:w.heap.size=B at *;by_cases h1:256 < a + 1
 ·go_enter Tryd.func54,Tryd.ntmps54
  go_upto_region 1 with fail
  generalize w.alloc (.cells #[.int .i64 k,.int .u64 N,.slice ab nb cb,.slice ai ni ci] 31)=w1 at *;go_wp2_with fail
  go_ret
  exact ⟨rfl,Q0.out.setCell (p:=⟨c,0,none⟩) rfl _⟩
 ·have h1z:¬ 256 < a + 1:=h1
  have h1d:decide (256 < a + 1)=false:=decide_eq_false h1;by_cases h2:4096 < nb
  ·have h2z:(4096:Int) < (nb:Int):=by omega
   clear h h1;go_enter Tryd.func54,Tryd.ntmps54
   go_upto_region 1 with fail
   generalize w.alloc (.cells #[.int .i64 k,.int .u64 N,.slice ab nb cb,.slice ai ni ci] 31)=w1 at *;go_wp2_with fail
   go_ret
   exact ⟨rfl,Q0.out.setCell (p:=⟨c,0,none⟩) rfl _⟩
  ·have h2z:¬ (4096:Int) < (nb:Int):=by omega
   have h2d:decide ((4096:Int) < (nb:Int))=false:=decide_eq_false h2z;have h3z:(256:Int) < (ni:Int):=by omega
   clear h h1 h2;go_enter Tryd.func54,Tryd.ntmps54
   go_upto_region 1 with fail
   generalize w.alloc (.cells #[.int .i64 k,.int .u64 N,.slice ab nb cb,.slice ai ni ci] 31)=w1 at *;go_wp2_with fail
   go_ret
   exact ⟨rfl,Q0.out.setCell (p:=⟨c,0,none⟩) rfl _⟩
def ITP (c:Nat) (okv:Bool) (a s:Int) (w:World) (e:Ending) (w':World):Prop:=But c w w'∧(okv=false∧e=.returned (.bool false)∨okv=true∧e=.returned (.bool (decide (s≤4096)))∧w'.heap[c]?=some (.cells #[.int .i64 a,.int .i64 s] 99 (0,0)))
set_option maxHeartbeats 4000000 in
theorem item_plain (k N:Int) (A:Ad) (w:World) (c:Nat) (a s LV o:Int) (hc:w.heap[c]?=some (.cells #[.int .i64 a,.int .i64 s] 99 (0,0))) (a0:0≤a) (a1:a + 1≤256) (h2:A.nb≤4096) (h3:A.ni≤256) (okv:Bool)
 (hpl:∀ W,But c w W→Calls Tryd.prog 84 #[.agg #[.int .i64 k,.int .u64 N,.slice A.ab A.nb A.cb,.slice A.ai A.ni A.ci]] W (PL okv true W))
 (hsp:okv=true→∀ W,W.heap[c]?=some (.cells #[.int .i64 (a + 1),.int .i64 s] 99 (0,0))→Calls Tryd.prog 85 #[.pointer (some ⟨c,0,none⟩),.agg #[.int .i64 k,.int .u64 N,.slice A.ab A.nb A.cb,.slice A.ai A.ni A.ci]] W (SP c (a + 1) (s + o) W)):
 Calls Tryd.prog 54 #[.pointer (some ⟨c,0,none⟩),.agg #[.int .i64 k,.int .u64 N,.slice A.ab A.nb A.cb,.slice A.ai A.ni A.ci],.int .i64 LV] w (ITP c okv (a + 1) (s + o) w):=by
 have hcl:=lb hc;obtain ⟨ab,nb,cb,ai,ni,ci⟩:=A;simp only at *;have P0:=al w (.cells #[.int .i64 k,.int .u64 N,.slice ab nb cb,.slice ai ni ci] 31);have N0:=aw w (.cells #[.int .i64 k,.int .u64 N,.slice ab nb cb,.slice ai ni ci] 31);have hc1:=Below.keep P0 hc hcl;have Q0:=But.of_below (b:=c) P0;have hne:w.heap.size≠c:=by omega
 obtain ⟨y0,y1,y2,y3⟩:=cw hc1;obtain ⟨x0,x1,x2,x3⟩:=cf N0;have X2:=set_other (v:=.int .i64 (a + 1)) (a:=⟨c,0,none⟩) N0 hne;have C2:=set_zero (z:=.int .i64 (a + 1)) hc1;have Q2:=Q0.setCell (p:=⟨c,0,none⟩) rfl (.int .i64 (a + 1));have HX2:=dh X2;have HC2:=dh C2;have HQ2:=dh Q2;have HPL:=dh hpl;have HSP:=dh hsp;have h1d:decide (256 < a + 1)=false:=decide_eq_false (by omega);have h2d:decide ((4096:Int) < (nb:Int))=false:=decide_eq_false (by omega);have h3d:decide ((256:Int) < (ni:Int))=false:=decide_eq_false (by omega);have h1z:¬ 256 < a + 1:=by omega
 have h2z:¬ (4096:Int) < (nb:Int):=by omega
 have h3z:¬ (256:Int) < (ni:Int):=by omega
 clear P0 N0 hc1 hc Q0 X2 C2 Q2 hpl hsp;generalize hB:w.heap.size=B at *;go_enter Tryd.func54,Tryd.ntmps54
 go_upto_region 1 with fail
 generalize w.alloc (.cells #[.int .i64 k,.int .u64 N,.slice ab nb cb,.slice ai ni ci] 31)=w1 at *;go_upto_region 2 with fail
 clear x0 x1 x2 x3 y0 y1 y2 y3;generalize w1.setCell ⟨c,0,none⟩ (.int .i64 (a + 1))=w2 at *;obtain ⟨y0,y1,y2,y3⟩:=cw HC2.out;obtain ⟨x0,x1,x2,x3⟩:=cf HX2.out;have hcl2:=lb HC2.out;have hBl2:=lb HX2.out;go_wp2_with fail
 refine (HPL.out w2 HQ2.out).mono ?_;rintro e w3 ⟨rfl,B3⟩;have HC3:=dh (Below.keep B3 HC2.out hcl2);have HX3:=dh (Below.keep B3 HX2.out hBl2);have HQ3:=dh (HQ2.out.trans (But.of_below B3));clear x0 x1 x2 x3 y0 y1 y2 y3 B3;obtain ⟨x0,x1,x2,x3⟩:=cf HX3.out;cases okv with
 | false=>
   go_wp2_with fail
   go_ret
   exact ⟨HQ3.out,.inl ⟨rfl,rfl⟩⟩
 | true=>
   go_wp2_with fail
   refine (HSP.out trivial w3 HC3.out).mono ?_;rintro e w4 ⟨rfl,C4,Q4⟩;have HC4:=dh C4;have HQ4:=dh (HQ3.out.trans Q4);clear C4 Q4 x0 x1 x2 x3;go_wp2_with fail
   go_ret
   exact ⟨HQ4.out,.inr ⟨rfl,rfl,HC4.out⟩⟩
set_option maxHeartbeats 8000000 in
theorem item_no (k N:Int) (A:Ad) (w:World) (c:Nat) (a s LV:Int) (hc:w.heap[c]?=some (.cells #[.int .i64 a,.int .i64 s] 99 (0,0))) (a0:0≤a) (a1:a + 1≤256) (h2:A.nb≤4096) (h3:A.ni≤256) (hk:k≠0∧k≠1∧k≠2∧k≠3∧k≠7∧k≠8) (h:k < 4∨6 < k∨8≤LV∨0 < A.nb):
 Calls Tryd.prog 54 #[.pointer (some ⟨c,0,none⟩),.agg #[.int .i64 k,.int .u64 N,.slice A.ab A.nb A.cb,.slice A.ai A.ni A.ci],.int .i64 LV] w fun e w'=>e=.returned (.bool false)∧But c w w':=by
 have hcl:=lb hc;obtain ⟨ab,nb,cb,ai,ni,ci⟩:=A;simp only at *;have P0:=al w (.cells #[.int .i64 k,.int .u64 N,.slice ab nb cb,.slice ai ni ci] 31);have N0:=aw w (.cells #[.int .i64 k,.int .u64 N,.slice ab nb cb,.slice ai ni ci] 31);have hc1:=Below.keep P0 hc hcl;have Q0:=But.of_below (b:=c) P0;have hne:w.heap.size≠c:=by omega
 obtain ⟨y0,y1,y2,y3⟩:=cw hc1;obtain ⟨x0,x1,x2,x3⟩:=cf N0;have X2:=set_other (v:=.int .i64 (a + 1)) (a:=⟨c,0,none⟩) N0 hne;have C2:=set_zero (z:=.int .i64 (a + 1)) hc1;have Q2:=Q0.setCell (p:=⟨c,0,none⟩) rfl (.int .i64 (a + 1));have HX2:=dh X2;have HC2:=dh C2;have HQ2:=dh Q2;have HPL:=dh (fun W=>plain_no k N ab ai nb cb ni ci W hk);have h1d:decide (256 < a + 1)=false:=decide_eq_false (by omega);have h2d:decide ((4096:Int) < (nb:Int))=false:=decide_eq_false (by omega);have h3d:decide ((256:Int) < (ni:Int))=false:=decide_eq_false (by omega);have h1z:¬ 256 < a + 1:=by omega
 have h2z:¬ (4096:Int) < (nb:Int):=by omega
 have h3z:¬ (256:Int) < (ni:Int):=by omega
 clear P0 N0 hc1 hc Q0 X2 C2 Q2;generalize hB:w.heap.size=B at *;by_cases g1:k < 4
 ·clear h
  go_enter Tryd.func54,Tryd.ntmps54
  go_upto_region 1 with fail
  generalize w.alloc (.cells #[.int .i64 k,.int .u64 N,.slice ab nb cb,.slice ai ni ci] 31)=w1 at *;go_upto_region 2 with fail
  clear x0 x1 x2 x3 y0 y1 y2 y3;generalize w1.setCell ⟨c,0,none⟩ (.int .i64 (a + 1))=w2 at *;obtain ⟨y0,y1,y2,y3⟩:=cw HC2.out;obtain ⟨x0,x1,x2,x3⟩:=cf HX2.out;have hcl2:=lb HC2.out;have hBl2:=lb HX2.out;go_wp2_with fail
  refine (HPL.out w2).mono ?_;rintro e w3 ⟨rfl,B3⟩;have HC3:=dh (Below.keep B3 HC2.out hcl2);have HX3:=dh (Below.keep B3 HX2.out hBl2);have HQ3:=dh (HQ2.out.trans (But.of_below B3));clear x0 x1 x2 x3 y0 y1 y2 y3 B3;obtain ⟨x0,x1,x2,x3⟩:=cf HX3.out;go_wp2_with fail
  go_ret
  exact ⟨rfl,HQ3.out⟩
 have d1:decide (k < 4)=false:=decide_eq_false g1;by_cases g2:6 < k
 ·clear h
  go_enter Tryd.func54,Tryd.ntmps54
  go_upto_region 1 with fail
  generalize w.alloc (.cells #[.int .i64 k,.int .u64 N,.slice ab nb cb,.slice ai ni ci] 31)=w1 at *;go_upto_region 2 with fail
  clear x0 x1 x2 x3 y0 y1 y2 y3;generalize w1.setCell ⟨c,0,none⟩ (.int .i64 (a + 1))=w2 at *;obtain ⟨y0,y1,y2,y3⟩:=cw HC2.out;obtain ⟨x0,x1,x2,x3⟩:=cf HX2.out;have hcl2:=lb HC2.out;have hBl2:=lb HX2.out;go_wp2_with fail
  refine (HPL.out w2).mono ?_;rintro e w3 ⟨rfl,B3⟩;have HC3:=dh (Below.keep B3 HC2.out hcl2);have HX3:=dh (Below.keep B3 HX2.out hBl2);have HQ3:=dh (HQ2.out.trans (But.of_below B3));clear x0 x1 x2 x3 y0 y1 y2 y3 B3;obtain ⟨x0,x1,x2,x3⟩:=cf HX3.out;go_wp2_with fail
  go_ret
  exact ⟨rfl,HQ3.out⟩
 have d2:decide (6 < k)=false:=decide_eq_false g2;by_cases g3:8≤LV
 ·clear h
  go_enter Tryd.func54,Tryd.ntmps54
  go_upto_region 1 with fail
  generalize w.alloc (.cells #[.int .i64 k,.int .u64 N,.slice ab nb cb,.slice ai ni ci] 31)=w1 at *;go_upto_region 2 with fail
  clear x0 x1 x2 x3 y0 y1 y2 y3;generalize w1.setCell ⟨c,0,none⟩ (.int .i64 (a + 1))=w2 at *;obtain ⟨y0,y1,y2,y3⟩:=cw HC2.out;obtain ⟨x0,x1,x2,x3⟩:=cf HX2.out;have hcl2:=lb HC2.out;have hBl2:=lb HX2.out;go_wp2_with fail
  refine (HPL.out w2).mono ?_;rintro e w3 ⟨rfl,B3⟩;have HC3:=dh (Below.keep B3 HC2.out hcl2);have HX3:=dh (Below.keep B3 HX2.out hBl2);have HQ3:=dh (HQ2.out.trans (But.of_below B3));clear x0 x1 x2 x3 y0 y1 y2 y3 B3;obtain ⟨x0,x1,x2,x3⟩:=cf HX3.out;go_wp2_with fail
  go_ret
  exact ⟨rfl,HQ3.out⟩
 have d3:decide (8≤LV)=false:=decide_eq_false g3;have g4:(0:Int) < (nb:Int):=by omega
 have g5:0 < nb:=by omega
 clear h;go_enter Tryd.func54,Tryd.ntmps54
 go_upto_region 1 with fail
 generalize w.alloc (.cells #[.int .i64 k,.int .u64 N,.slice ab nb cb,.slice ai ni ci] 31)=w1 at *;go_upto_region 2 with fail
 clear x0 x1 x2 x3 y0 y1 y2 y3;generalize w1.setCell ⟨c,0,none⟩ (.int .i64 (a + 1))=w2 at *;obtain ⟨y0,y1,y2,y3⟩:=cw HC2.out;obtain ⟨x0,x1,x2,x3⟩:=cf HX2.out;have hcl2:=lb HC2.out;have hBl2:=lb HX2.out;go_wp2_with fail
 refine (HPL.out w2).mono ?_;rintro e w3 ⟨rfl,B3⟩;have HC3:=dh (Below.keep B3 HC2.out hcl2);have HX3:=dh (Below.keep B3 HX2.out hBl2);have HQ3:=dh (HQ2.out.trans (But.of_below B3));clear x0 x1 x2 x3 y0 y1 y2 y3 B3;obtain ⟨x0,x1,x2,x3⟩:=cf HX3.out;go_wp2_with fail
 go_ret
 exact ⟨rfl,HQ3.out⟩
set_option maxHeartbeats 8000000 in
theorem item_shape (k N:Int) (A:Ad) (w:World) (c:Nat) (a s LV:Int) (hc:w.heap[c]?=some (.cells #[.int .i64 a,.int .i64 s] 99 (0,0))) (a0:0≤a) (a1:a + 1≤256) (h2:A.nb≤4096) (h3:A.ni≤256) (hkk:4≤k∧k≤6) (hlv:LV < 8) (hnb:A.nb=0) (h:k=6∧A.ni≠1∨k≠6∧N≠0∨k=5∧A.ni % 2=1):
 Calls Tryd.prog 54 #[.pointer (some ⟨c,0,none⟩),.agg #[.int .i64 k,.int .u64 N,.slice A.ab A.nb A.cb,.slice A.ai A.ni A.ci],.int .i64 LV] w fun e w'=>e=.returned (.bool false)∧But c w w':=by
 have hk:k≠0∧k≠1∧k≠2∧k≠3∧k≠7∧k≠8:=by omega
 have hcl:=lb hc;obtain ⟨ab,nb,cb,ai,ni,ci⟩:=A;simp only at *;have P0:=al w (.cells #[.int .i64 k,.int .u64 N,.slice ab nb cb,.slice ai ni ci] 31);have N0:=aw w (.cells #[.int .i64 k,.int .u64 N,.slice ab nb cb,.slice ai ni ci] 31);have hc1:=Below.keep P0 hc hcl;have Q0:=But.of_below (b:=c) P0;have hne:w.heap.size≠c:=by omega
 obtain ⟨y0,y1,y2,y3⟩:=cw hc1;obtain ⟨x0,x1,x2,x3⟩:=cf N0;have X2:=set_other (v:=.int .i64 (a + 1)) (a:=⟨c,0,none⟩) N0 hne;have C2:=set_zero (z:=.int .i64 (a + 1)) hc1;have Q2:=Q0.setCell (p:=⟨c,0,none⟩) rfl (.int .i64 (a + 1));have HX2:=dh X2;have HC2:=dh C2;have HQ2:=dh Q2;have HPL:=dh (fun W=>plain_no k N ab ai nb cb ni ci W hk);have h1d:decide (256 < a + 1)=false:=decide_eq_false (by omega);have h2d:decide ((4096:Int) < (nb:Int))=false:=decide_eq_false (by omega);have h3d:decide ((256:Int) < (ni:Int))=false:=decide_eq_false (by omega);have h1z:¬ 256 < a + 1:=by omega
 have h2z:¬ (4096:Int) < (nb:Int):=by omega
 have h3z:¬ (256:Int) < (ni:Int):=by omega
 clear P0 N0 hc1 hc Q0 X2 C2 Q2;generalize hB:w.heap.size=B at *;have d1:decide (k < 4)=false:=decide_eq_false (by omega);have d2:decide (6 < k)=false:=decide_eq_false (by omega);have d3:decide (8≤LV)=false:=decide_eq_false (by omega);have d4:decide ((0:Int) < (nb:Int))=false:=decide_eq_false (by omega);have z1:¬ k < 4:=by omega
 have z2:¬ 6 < k:=by omega
 have z3:¬ 8≤LV:=by omega
 have z4:¬ (0:Int) < (nb:Int):=by omega
 have z5:¬ 0 < nb:=by omega
 by_cases g1:k=6
 ·have g2:((ni:Int) !=1)=true:=by simp;omega
  have b1:(k==6)=true:=beq_t g1;have b1':(k !=6)=false:=by simpa using g1
  clear h g1 hkk hk hnb;go_enter Tryd.func54,Tryd.ntmps54
  go_upto_region 1 with fail
  generalize w.alloc (.cells #[.int .i64 k,.int .u64 N,.slice ab nb cb,.slice ai ni ci] 31)=w1 at *;go_upto_region 2 with fail
  clear x0 x1 x2 x3 y0 y1 y2 y3;generalize w1.setCell ⟨c,0,none⟩ (.int .i64 (a + 1))=w2 at *;obtain ⟨y0,y1,y2,y3⟩:=cw HC2.out;obtain ⟨x0,x1,x2,x3⟩:=cf HX2.out;have hcl2:=lb HC2.out;have hBl2:=lb HX2.out;go_wp2_with fail
  refine (HPL.out w2).mono ?_;rintro e w3 ⟨rfl,B3⟩;have HC3:=dh (Below.keep B3 HC2.out hcl2);have HX3:=dh (Below.keep B3 HX2.out hBl2);have HQ3:=dh (HQ2.out.trans (But.of_below B3));clear x0 x1 x2 x3 y0 y1 y2 y3 B3;obtain ⟨x0,x1,x2,x3⟩:=cf HX3.out;go_wp2_with fail
  go_ret
  exact ⟨rfl,HQ3.out⟩
 have b1:(k==6)=false:=beq_f g1;have b1':(k !=6)=true:=by simpa using g1
 by_cases g2:N=0
 ·have g3:(k==5)=true:=beq_t (by omega)
  have g2b:(N==0)=true:=beq_t g2;have g2c:(N !=0)=false:=by simpa using g2
  have g4:(ni:Int) % 2=1:=by omega
  clear h g1 g2 hkk hk hnb;go_enter Tryd.func54,Tryd.ntmps54
  go_upto_region 1 with fail
  generalize w.alloc (.cells #[.int .i64 k,.int .u64 N,.slice ab nb cb,.slice ai ni ci] 31)=w1 at *;go_upto_region 2 with fail
  clear x0 x1 x2 x3 y0 y1 y2 y3;generalize w1.setCell ⟨c,0,none⟩ (.int .i64 (a + 1))=w2 at *;obtain ⟨y0,y1,y2,y3⟩:=cw HC2.out;obtain ⟨x0,x1,x2,x3⟩:=cf HX2.out;have hcl2:=lb HC2.out;have hBl2:=lb HX2.out;go_wp2_with fail
  refine (HPL.out w2).mono ?_;rintro e w3 ⟨rfl,B3⟩;have HC3:=dh (Below.keep B3 HC2.out hcl2);have HX3:=dh (Below.keep B3 HX2.out hBl2);have HQ3:=dh (HQ2.out.trans (But.of_below B3));clear x0 x1 x2 x3 y0 y1 y2 y3 B3;obtain ⟨x0,x1,x2,x3⟩:=cf HX3.out;go_wp2_with fail
  go_ret
  exact ⟨rfl,HQ3.out⟩
 ·have g3:(N !=0)=true:=by simpa using g2
  have g3':(N==0)=false:=beq_f g2;clear h g1 g2 hkk hk hnb;go_enter Tryd.func54,Tryd.ntmps54
  go_upto_region 1 with fail
  generalize w.alloc (.cells #[.int .i64 k,.int .u64 N,.slice ab nb cb,.slice ai ni ci] 31)=w1 at *;go_upto_region 2 with fail
  clear x0 x1 x2 x3 y0 y1 y2 y3;generalize w1.setCell ⟨c,0,none⟩ (.int .i64 (a + 1))=w2 at *;obtain ⟨y0,y1,y2,y3⟩:=cw HC2.out;obtain ⟨x0,x1,x2,x3⟩:=cf HX2.out;have hcl2:=lb HC2.out;have hBl2:=lb HX2.out;go_wp2_with fail
  refine (HPL.out w2).mono ?_;rintro e w3 ⟨rfl,B3⟩;have HC3:=dh (Below.keep B3 HC2.out hcl2);have HX3:=dh (Below.keep B3 HX2.out hBl2);have HQ3:=dh (HQ2.out.trans (But.of_below B3));clear x0 x1 x2 x3 y0 y1 y2 y3 B3;obtain ⟨x0,x1,x2,x3⟩:=cf HX3.out;go_wp2_with fail
  go_ret
  exact ⟨rfl,HQ3.out⟩
end Go.Proofs.YtelefkkkccilaaaDoor
