/- The reference's reader: numbers. -/
import Derived.Test.YtelefkkkccilaaaDoorZu
set_option linter.unusedVariables false
set_option linter.unusedSimpArgs false
namespace Go.Proofs.YtelefkkkccilaaaDoor
open Go.RowKit
set_option maxRecDepth 100000
def AtR (P k c b o:Nat) (l:List UInt8) (it:Int) (w:World):Prop:=w.heap[P]?=some (.cells #[.slice (some ⟨b,o,none⟩) l.length c,.int .i64 (k:Int),.int .i64 it] 86 (0,0))∧k≤l.length
theorem AtR.set {P k c b o:Nat} {l:List UInt8} {it:Int} {w:World} (h:AtR P k c b o l it w) {k':Nat} (hk:k'≤l.length):AtR P k' c b o l it (w.setCell ⟨P,1,none⟩ (.int .i64 (k':Int))):=⟨by have:=set_arr h.1 1 (.int .i64 (k':Int));simpa using this,hk⟩
theorem AtR.drewN {P k c b o:Nat} {l:List UInt8} {it:Int} {w:World} (h:AtR P k c b o l it w) (n:Nat):AtR P k c b o l it (w.drewN n):=⟨h.1,h.2⟩
set_option maxHeartbeats 4000000 in
theorem rnumber_short (P k n c b o:Nat) (l:List UInt8) (it:Int) (w:World) (hA:AtR P k c b o l it w) (hN:l.length≤4096) (hn:n≤8) (hs:l.length - k < n):
 Calls Tryd.prog 71 #[.pointer (some ⟨P,0,none⟩),.int .i64 (n:Int)] w fun e w'=>e=.returned (.tuple #[.int .u64 0,.bool false])∧∃ q,w'=w.drewN q:=by
 obtain ⟨hP,hk⟩:=hA;have x0:=cr hP 0;have x1:=cr hP 1;simp at x0 x1;obtain ⟨N,hN0⟩:∃ N,N=l.length:=⟨_,rfl⟩;rw [← hN0] at x0 hN hs hk;have hw:IntKind.i64.wrap ((N:Int) - k)=(N:Int) - k:=IntWalk.i64_in _ (by omega);have hlt:(N:Int) - k < (n:Int):=by omega
 clear hP hN0;go_enter Tryd.func71,Tryd.ntmps71
 go_wp2_with fail
 go_quiet (fail)
 go_wp2_with fail
 go_ret2
 exact ⟨rfl,nq,rfl⟩
def RNR (P k c b o n:Nat) (l t:List UInt8) (it:Int) (w:World) (x i:Value) (W:World):Prop:=∃ j:Nat,i=.int .i64 (j:Int)∧j≤n∧x=.int .u64 ((It.unbe (t.take j):Nat):Int)∧AtR P (k + j) c b o l it W∧But P w W∧W.heap.size=w.heap.size
set_option maxHeartbeats 4000000 in
theorem rnumber_full (P k n c b o:Nat) (l:List UInt8) (it:Int) (w:World) (hA:AtR P k c b o l it w) (hR:BR (fun b=>b≠P) w (some ⟨b,o,none⟩) l.length l) (hc:l.length≤c) (hN:l.length≤4096) (hn:n≤8) (h1:1≤n) (hs:k + n≤l.length):
 Calls Tryd.prog 71 #[.pointer (some ⟨P,0,none⟩),.int .i64 (n:Int)] w fun e w'=>e=.returned (.tuple #[.int .u64 ((It.unbe ((l.drop k).take n):Nat):Int),.bool true])∧AtR P (k + n) c b o l it w'∧But P w w'∧w'.heap.size=w.heap.size:=by
 have x0:=cr hA.1 0;have x1:=cr hA.1 1;simp at x0 x1;obtain ⟨N,hN0⟩:∃ N,N=l.length:=⟨_,rfl⟩;rw [← hN0] at x0 hN hs hc;have hw:IntKind.i64.wrap ((N:Int) - k)=(N:Int) - k:=IntWalk.i64_in _ (by omega);have hlt:¬ (N:Int) - k < (n:Int):=by omega
 obtain ⟨t,ht⟩:∃ t,t=(l.drop k).take n:=⟨_,rfl⟩;have htl:t.length=n:=by rw [ht,List.length_take,List.length_drop];omega
 have hti:∀ i (hi:i < t.length) (h2:k + i < l.length),t[i]=l[k + i]:=fun i hi _=>by subst ht;simp
 rw [← ht];have HA:=dh hA;have HRB:=dh hR;have HTL:=dh htl;have HTI:=dh hti;have HN0:=dh hN0;clear hA hR ht htl hti hN0;go_enter Tryd.func71,Tryd.ntmps71
 go_wp2_with fail
 go_quiet (fail)
 have HA1:=dh (HA.out.drewN nq);have HB1:Hid (But P w (w.drewN nq)∧(w.drewN nq).heap.size=w.heap.size):=dh ⟨(But.refl _ _).drewN nq,rfl⟩;clear x0 x1;generalize w.drewN nq=w1 at *;go_wp2_with fail
 go_loopw [6,20] (fun x i W=>RNR P k c b o n l t it w x i W) (fun _ i _=>n - (intOf i).toNat)
 case atStart=>exact ⟨0,rfl,Nat.zero_le _,rfl,HA1.out,HB1.out.1,HB1.out.2⟩
 case round=>
  obtain ⟨j,rfl,hj,rfl,hAj,hBj,hsj⟩:=hrel;have HAj:=dh hAj;have HBj:=dh (And.intro hBj hsj);clear hAj hBj hsj;by_cases hjn:j < n
  ·have hjz:(j:Int) < (n:Int):=by omega
   have hjt:j < t.length:=by have:=HTL.out;omega
   have hkl:k + j < l.length:=by have:=HN0.out;omega
   have hcell:wr.cell? ⟨b,o + (k + j),none⟩=some (.int .u8 ((t[j]).toNat:Int)):=by
    obtain ⟨b',o',e,_,h⟩:=(HRB.out.sep HBj.out.1).2.2 (k + j) hkl;cases e
    rw [HTI.out j hjt hkl];exact h
   obtain ⟨kj,hkj⟩:∃ kj,kj=k + j:=⟨_,rfl⟩;have HKJ:=dh hkj;rw [← hkj] at hcell HAj;have x0:=cr HAj.out.1 0;have x1:=cr HAj.out.1 1;have f1:wr.frozen? ⟨P,1,none⟩=false:=by simp [World.frozen?,HAj.out.1]
   simp at x0 x1;rw [← HN0.out] at x0;obtain ⟨cb,hcb⟩:∃ cb,cb=t[j]:=⟨_,rfl⟩;rw [← hcb] at hcell;have hlt:=It.unbe_lt (t.take j);have hX:It.unbe (t.take j) < 256 ^ 7:=Nat.lt_of_lt_of_le hlt (Nat.pow_le_pow_right (by omega) (by rw [List.length_take];omega));have hstep:It.unbe (t.take (j + 1))=It.unbe (t.take j) * 256 + cb.toNat:=by
    rw [List.take_add_one,List.getElem?_eq_getElem hjt,hcb];exact unbe_snoc _ _
   have HST:=dh hstep;generalize It.unbe (t.take j)=X at *;have hcl:=cb.toNat_lt;have hw1:IntKind.u64.wrap ((X:Int) * 256)=((X * 2 ^ 8:Nat):Int):=by rw [wrap_u64 (by omega) (by omega)];omega
   have hw2:IntKind.u64.wrap (cb.toNat:Int)=(cb.toNat:Int):=wrap_u64 (by omega) (by omega);have hor:bits .or .u64 ((X * 2 ^ 8:Nat):Int) (cb.toNat:Int)=((X * 2 ^ 8 + cb.toNat:Nat):Int):=or_hi 8 rfl rfl (by omega) (by omega);obtain ⟨X2,hX2⟩:∃ X2:Nat,X2=X * 2 ^ 8:=⟨_,rfl⟩;rw [← hX2] at hw1 hor;have hwj:IntKind.i64.wrap ((j:Int) + 1)=((j + 1:Nat):Int):=by rw [IntWalk.i64_in _ (by omega)];omega
   have hwk:IntKind.i64.wrap ((kj:Int) + 1)=((kj + 1:Nat):Int):=by rw [IntWalk.i64_in _ (by omega)];omega
   have hkN:kj < N:=by omega
   obtain ⟨X3,hX3⟩:∃ X3:Nat,X3=X2 + cb.toNat:=⟨_,rfl⟩;rw [← hX3] at hor;have HX3:Hid (X3=It.unbe (t.take (j + 1))):=dh (by rw [HST.out];omega);have HKL:=dh hkl;clear hcb hlt hX hstep hX2 hX3 hcl hkj hkl hjt;go_wp2_with fail
   go_quiet (fail)
   have HA2:=dh (HAj.out.drewN nq);have HB2:Hid (But P w (wr.drewN nq)∧(wr.drewN nq).heap.size=w.heap.size):=dh ⟨HBj.out.1.drewN nq,HBj.out.2⟩;have f2:(wr.drewN nq).frozen? ⟨P,1,none⟩=false:=f1;have x2:(wr.drewN nq).cell? ⟨P,1,none⟩=_:=x1;clear x0 x1 f1 hcell HAj HBj;generalize wr.drewN nq=w2 at *;have HA3:=dh (HA2.out.set (k':=kj + 1) (by have:=HKL.out;have:=HKJ.out;omega));have HB3:=dh (HB2.out.1.setCell (p:=⟨P,1,none⟩) rfl (.int .i64 ((kj + 1:Nat):Int)));have HS3:Hid ((w2.setCell ⟨P,1,none⟩ (.int .i64 ((kj + 1:Nat):Int))).heap.size=w.heap.size):=dh (by have:=HB2.out.2;simpa [World.setCell] using this);go_wp2_with fail
   go_roundw
   case rel=>exact ⟨j + 1,by go_num,hjn,by rw [HX3.out],by have h9:=HA3.out;have e9:=HKJ.out;rw [show k + (j + 1)=kj + 1 by omega];exact h9,HB3.out,HS3.out⟩
   case measure=>simp [intOf];omega
  ·have hjz:¬ (j:Int) < (n:Int):=by omega
   have hjn':j=n:=by omega
   have htk:t.take j=t:=List.take_of_length_le (by have:=HTL.out;omega);rw [htk];have HJN:=dh hjn';clear hj hjn' htk;go_wp2_with fail
   go_ret2
   exact ⟨rfl,by rw [← HJN.out];exact HAj.out,HBj.out.1,HBj.out.2⟩
end Go.Proofs.YtelefkkkccilaaaDoor
