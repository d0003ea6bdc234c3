/- The parser's number. The parser's head. The parser's item where the head is wrong. Prefix where the head is wrong. Decode where the head is wrong. -/
import Derived.Test.YtelefkkkccilaaaDoorLJ
import Derived.Test.YtelefkkkccilaaaDoorLC
set_option linter.unusedVariables false
set_option linter.unusedSimpArgs false
namespace Go.Proofs.YtelefkkkccilaaaDoor
open Go.RowKit
set_option maxRecDepth 100000
set_option maxHeartbeats 4000000 in
theorem number_short (P at_ n c N:Nat) (a:Option Addr) (it:Int) (w:World) (hP:w.heap[P]?=some (.cells #[.slice a N c,.int .i64 (at_:Int),.int .i64 it] 82 (0,0))) (hat:at_≤N) (hN:N≤4096) (hn:n≤8) (hs:N - at_ < n):
 Calls Tryd.prog 94 #[.pointer (some ⟨P,0,none⟩),.int .i64 (n:Int)] w fun e w'=>e=.returned (.tuple #[.int .u64 0,.bool false])∧∃ q,w'=w.drewN q:=by
 have x0:=cr hP 0;have x1:=cr hP 1;simp at x0 x1;have hw:IntKind.i64.wrap ((N:Int) - at_)=(N:Int) - at_:=IntWalk.i64_in _ (by omega);have hlt:(N:Int) - at_ < (n:Int):=by omega
 clear hP;go_enter Tryd.func94,Tryd.ntmps94
 go_wp2_with fail
 go_quiet (fail)
 go_wp2_with fail
 go_ret2
 exact ⟨rfl,nq,rfl⟩
theorem unbe_snoc (l:List UInt8) (c:UInt8):It.unbe (l ++ [c])=It.unbe l * 256 + c.toNat:=by simp [It.unbe]
theorem unbe_lt:∀ l:List UInt8,It.unbe l < 256 ^ l.length:=by
 intro l;have h:∀ (l:List UInt8) (x k:Nat),x < 256 ^ k→l.foldl (fun x c=>x * 256 + c.toNat) x < 256 ^ (k + l.length):=by
  intro l
  induction l with
  | nil=>intro x k h;simpa using h
  | cons c l ih=>
   intro x k h;have hc:=c.toNat_lt;have:=ih (x * 256 + c.toNat) (k + 1) (by rw [Nat.pow_succ];omega);simpa [Nat.add_assoc,Nat.add_comm 1] using this
 have:=h l 0 0 (by simp);rw [Nat.zero_add] at this;exact this
def RN (t:List UInt8) (w:World) (x i:Value) (W:World):Prop:=∃ (k q:Nat),i=.int .i64 (k:Int)∧k≤t.length∧x=.int .u64 ((It.unbe (t.take k):Nat):Int)∧W=w.drewN q
set_option maxHeartbeats 4000000 in
theorem number_full (P at_ n c b o:Nat) (l:List UInt8) (it:Int) (w:World) (hP:w.heap[P]?=some (.cells #[.slice (some ⟨b,o,none⟩) l.length c,.int .i64 (at_:Int),.int .i64 it] 82 (0,0))) (hR:BR (fun b=>b≠P) w (some ⟨b,o,none⟩) l.length l) (hc:l.length≤c) (hN:l.length≤4096) (hn:n≤8) (h1:1≤n) (hs:at_ + n≤l.length):
 Calls Tryd.prog 94 #[.pointer (some ⟨P,0,none⟩),.int .i64 (n:Int)] w fun e w'=>e=.returned (.tuple #[.int .u64 ((It.unbe ((l.drop at_).take n):Nat):Int),.bool true])∧∃ q,w'=(w.drewN q).setCell ⟨P,1,none⟩ (.int .i64 ((at_ + n:Nat):Int)):=by
 have x0:=cr hP 0;have x1:=cr hP 1;have f1:w.frozen? ⟨P,1,none⟩=false:=by simp [World.frozen?,hP]
 simp at x0 x1;have hw:IntKind.i64.wrap ((l.length:Int) - at_)=(l.length:Int) - at_:=IntWalk.i64_in _ (by omega);have hwp:IntKind.i64.wrap ((at_:Int) + n)=((at_ + n:Nat):Int):=by rw [IntWalk.i64_in _ (by omega)];omega
 have hlt:¬ (l.length:Int) - at_ < (n:Int):=by omega
 obtain ⟨t,ht⟩:∃ t,t=(l.drop at_).take n:=⟨_,rfl⟩;have htl:t.length=n:=by rw [ht,List.length_take,List.length_drop];omega
 have hcells:∀ i (hi:i < t.length),w.cell? ⟨b,o + at_ + i,none⟩=some (.int .u8 ((t[i]).toNat:Int)):=fun i hi=>by
  obtain ⟨b',o',e,_,h⟩:=hR.2.2 (at_ + i) (by omega);cases e
  have:t[i]=l[at_ + i]'(by omega):=by subst ht;simp
  rw [this,Nat.add_assoc];exact h
 rw [← ht];have HC:=dh hcells;have HTL:=dh htl;have hac:¬ c=at_:=by omega
 have hs1:at_≤at_ + n:=by omega
 have hs2:at_ + n≤c:=by omega
 obtain ⟨N,hN0⟩:∃ N,N=l.length:=⟨_,rfl⟩;rw [← hN0] at x0 hw hlt hc hN hs;obtain ⟨an,han⟩:∃ an,an=at_ + n:=⟨_,rfl⟩;rw [← han] at hwp hs1 hs2 hs ⊢;have HAN:=dh han;have hdn:an - at_=n:=by omega
 clear hP hR hcells hN0 ht htl han;go_enter Tryd.func94,Tryd.ntmps94
 go_wp2_with fail
 go_quiet (fail)
 obtain ⟨nq0,hnq0⟩:∃ m,m=nq:=⟨_,rfl⟩;subst hnq0;go_wp2_with fail
 go_quiet (fail)
 go_wp2_with fail
 have hwd:(w.drewN nq0).drewN nq=w.drewN (nq0 + nq):=by simp [World.drewN,Nat.add_assoc]
 rw [hwd];clear hwd;go_loopw [6,37] (fun x i W=>RN t w x i W) (fun _ i _=>n - (intOf i).toNat)
 case atStart=>exact ⟨0,_,rfl,Nat.zero_le _,rfl,rfl⟩
 case round=>
  obtain ⟨k,q,rfl,hk,rfl,rfl⟩:=hrel;have hk':k≤n:=by have:=HTL.out;omega
  by_cases hkn:k < n
  ·have hkz:(k:Int) < (n:Int):=by omega
   have hkt:k < t.length:=by have:=HTL.out;omega
   have hcell:=HC.out k hkt;obtain ⟨cb,hcb⟩:∃ cb,cb=t[k]:=⟨_,rfl⟩;rw [← hcb] at hcell;have hlt:=unbe_lt (t.take k);have hX:It.unbe (t.take k) < 256 ^ 7:=Nat.lt_of_lt_of_le hlt (Nat.pow_le_pow_right (by omega) (by rw [List.length_take];omega));have hstep:It.unbe (t.take (k + 1))=It.unbe (t.take k) * 256 + cb.toNat:=by
    rw [List.take_add_one,List.getElem?_eq_getElem hkt,hcb];exact unbe_snoc _ _
   have HST:=dh hstep;generalize It.unbe (t.take k)=X at *;have hcl:=cb.toNat_lt;have hw1:IntKind.u64.wrap ((X:Int) * 256)=((X * 2 ^ 8:Nat):Int):=by rw [wrap_u64 (by omega) (by omega)];omega
   have hw2:IntKind.u64.wrap (cb.toNat:Int)=(cb.toNat:Int):=wrap_u64 (by omega) (by omega);have hor:bits .or .u64 ((X * 2 ^ 8:Nat):Int) (cb.toNat:Int)=((X * 2 ^ 8 + cb.toNat:Nat):Int):=or_hi 8 rfl rfl (by omega) (by omega);obtain ⟨X2,hX2⟩:∃ X2:Nat,X2=X * 2 ^ 8:=⟨_,rfl⟩;rw [← hX2] at hw1 hor;have hwk:IntKind.i64.wrap ((k:Int) + 1)=((k + 1:Nat):Int):=by rw [IntWalk.i64_in _ (by omega)];omega
   obtain ⟨X3,hX3⟩:∃ X3:Nat,X3=X2 + cb.toNat:=⟨_,rfl⟩;rw [← hX3] at hor;have HX3:Hid (X3=It.unbe (t.take (k + 1))):=dh (by rw [HST.out];omega);clear hcb hlt hX hstep hX2 hX3 hcl;go_wp2_with fail
   go_roundw
   case rel=>exact ⟨k + 1,_,rfl,hkt,by rw [HX3.out],rfl⟩
   case measure=>simp [intOf];omega
  ·have hkz:(n:Int)≤(k:Int):=by omega
   have hkn':¬ (k:Int) < (n:Int):=by omega
   have htk:t.take k=t:=List.take_of_length_le (by have:=HTL.out;omega);rw [htk];clear hk hk' hkn;go_wp2_with fail
   go_ret2
   exact ⟨rfl,q,rfl⟩
def AtP (P k c b o:Nat) (l:List UInt8) (it:Int) (w:World):Prop:=w.heap[P]?=some (.cells #[.slice (some ⟨b,o,none⟩) l.length c,.int .i64 (k:Int),.int .i64 it] 82 (0,0))∧k≤l.length
def HeadP (P c b o:Nat) (l:List UInt8) (it:Int) (w:World) (r:It.HR) (e:Ending) (w':World):Prop:=But P w w'∧match r with
 | .err k=>e=.returned (.tuple #[.int .u8 0,.int .u64 0,.int .i64 (k:Int)])∧∃ j,AtP P j c b o l it w'
 | .ok h n s=>e=.returned (.tuple #[.int .u8 (h:Int),.int .u64 (n:Int),.int .i64 0])∧∃ j,AtP P j c b o l it w'∧s=l.drop j
theorem and31:∀ k:Fin 256,bits .and .u8 (k.val:Int) 31=((k.val % 32:Nat):Int):=by decide
theorem and31' (c:UInt8):bits .and .u8 (c.toNat:Int) 31=((c.toNat % 32:Nat):Int):=and31 ⟨c.toNat,c.toNat_lt⟩
set_option maxHeartbeats 8000000 in
theorem phead_any (P k c b o:Nat) (l:List UInt8) (it:Int) (w:World) (hA:AtP P k c b o l it w) (hR:BR (fun b=>b≠P) w (some ⟨b,o,none⟩) l.length l) (hc:l.length≤c) (hN:l.length≤4096):
 Calls Tryd.prog 66 #[.pointer (some ⟨P,0,none⟩)] w (HeadP P c b o l it w (It.readHead (l.drop k))):=by
 obtain ⟨hP,hk⟩:=hA;have x0:=cr hP 0;have x1:=cr hP 1;have f1:w.frozen? ⟨P,1,none⟩=false:=by simp [World.frozen?,hP]
 simp at x0 x1;have HA:Hid (AtP P k c b o l it w):=dh ⟨hP,hk⟩;have HR:=dh hR;obtain ⟨N,hN0⟩:∃ N,N=l.length:=⟨_,rfl⟩;rw [← hN0] at x0 hc hN;have HN:=dh hN0;rcases Nat.lt_or_ge k l.length with hlt | hge
 ·have hcell:w.cell? ⟨b,o + k,none⟩=some (.int .u8 ((l[k]).toNat:Int)):=by
   obtain ⟨b',o',e,_,h⟩:=hR.2.2 k hlt;cases e;exact h
  obtain ⟨cb,hcb⟩:∃ cb,cb=l[k]:=⟨_,rfl⟩;rw [← hcb] at hcell;have HD:Hid (l.drop k=cb :: l.drop (k + 1)):=dh (by rw [hcb];exact List.drop_eq_getElem_cons hlt);have hkN:k < N:=by omega
  have hkz:(k:Int) < (N:Int):=by omega
  have hkd:((k:Int)==(N:Int))=false:=by simp;omega
  have hand:=and31' cb;obtain ⟨low,hlow⟩:∃ low,low=cb.toNat % 32:=⟨_,rfl⟩;rw [← hlow] at hand;have HL:=dh hlow;have hl32:low < 32:=by omega
  clear hP hR hcb hN0 hk hlt;go_enter Tryd.func66,Tryd.ntmps66
  go_wp2_with fail
  go_quiet (fail)
  obtain ⟨q1,hq1⟩:∃ m,m=nq:=⟨_,rfl⟩;subst hq1;go_wp2_with fail
  go_quiet (fail)
  obtain ⟨q2,hq2⟩:∃ m,m=nq:=⟨_,rfl⟩;subst hq2;by_cases h27:27 < low
  ·have h27z:(27:Int) < (low:Int):=by omega
   have h27d:decide ((27:Int) < (low:Int))=true:=decide_eq_true h27z;go_wp2_with fail
   go_ret3
   rw [HD.out,It.readHead,if_pos (by rw [← HL.out];exact h27)];exact ⟨⟨rfl,rfl,rfl,Nat.le_refl _,fun _ _ _=>rfl⟩,rfl,k,HA.out⟩
  ·have h27z:¬ (27:Int) < (low:Int):=by omega
   have HA1:Hid (AtP P k c b o l it ((w.drewN q1).drewN q2)):=dh HA.out;have HB1:Hid (But P w ((w.drewN q1).drewN q2)):=dh ⟨rfl,rfl,rfl,Nat.le_refl _,fun _ _ _=>rfl⟩;have HR1:Hid (BR (fun b=>b≠P) ((w.drewN q1).drewN q2) (some ⟨b,o,none⟩) l.length l):=dh (HR.out.below (bd (bd (Below.refl _ _) q1) q2));have z1:((w.drewN q1).drewN q2).cell? ⟨P,1,none⟩=some (.int .i64 (k:Int)):=x1;have g1:((w.drewN q1).drewN q2).frozen? ⟨P,1,none⟩=false:=f1;have hwk:IntKind.i64.wrap ((k:Int) + 1)=((k + 1:Nat):Int):=by rw [IntWalk.i64_in _ (by omega)];omega
   generalize (w.drewN q1).drewN q2=w1 at *;clear x0 x1 f1 hcell;have HA2:Hid (AtP P (k + 1) c b o l it (w1.setCell ⟨P,1,none⟩ (.int .i64 ((k + 1:Nat):Int)))):=dh ⟨by have:=set_arr HA1.out.1 1 (.int .i64 ((k + 1:Nat):Int));simpa using this,by have:=HN.out;omega⟩;have HB2:Hid (But P w (w1.setCell ⟨P,1,none⟩ (.int .i64 ((k + 1:Nat):Int)))):=dh ⟨HB1.out.os,HB1.out.tape,HB1.out.output,by have:=HB1.out.size;simpa [World.setCell] using this,fun j hj hne=>(Below.heap_setCell _ _ _ _ (by show j≠P;exact hne)).trans (HB1.out.block j hj hne)⟩;obtain ⟨k1,hk1⟩:∃ k1,k1=k + 1:=⟨_,rfl⟩;rw [← hk1] at HA2 HB2 hwk HD;have HK1:=dh hk1;clear hk1;by_cases h24:low < 24
   ·have h24z:(low:Int) < 24:=by omega
    have h24d:decide ((low:Int) < 24)=true:=decide_eq_true h24z;have hwl:IntKind.u64.wrap (low:Int)=(low:Int):=wrap_u64 (by omega) (by omega);clear hlow;go_wp2_with fail
    go_ret3
    rw [HD.out,It.readHead,if_neg (by rw [← HL.out];exact h27),if_pos (by rw [← HL.out];exact h24),← HL.out];exact ⟨HB2.out,rfl,k1,HA2.out,rfl⟩
   ·have h24z:¬ (low:Int) < 24:=by omega
    have HR2:Hid (BR (fun b=>b≠P) (w1.setCell ⟨P,1,none⟩ (.int .i64 (k1:Int))) (some ⟨b,o,none⟩) l.length l):=dh (HR1.out.keep fun j hj _=>⟨Below.heap_setCell _ _ _ _ hj,hj⟩);rcases (show low=24∨low=25∨low=26∨low=27 by omega) with rfl | rfl | rfl | rfl
    ·have HM:Hid (2 ^ (cb.toNat % 32 - 24)=1):=dh (by rw [← HL.out])
     clear hlow;by_cases hsh:N - k1 < 1
     ·have HC:=dh (number_short P k1 1 c N _ it _ (by rw [HN.out];exact HA2.out.1) (by have:=HA2.out.2;have:=HN.out;omega) hN (by omega) hsh)
      go_wp2_with fail
      refine HC.out.mono ?_;rintro e v ⟨rfl,q3,rfl⟩;go_wp2_with fail
      go_ret3
      rw [HD.out,It.readHead,if_neg (by rw [← HL.out];decide),if_neg (by rw [← HL.out];decide),if_pos (by rw [HM.out,List.length_drop,← HN.out];exact hsh)];exact ⟨⟨HB2.out.os,HB2.out.tape,HB2.out.output,HB2.out.size,HB2.out.block⟩,rfl,k1,HA2.out⟩
     ·have HNS:Hid (¬ (l.drop k1).length < 2 ^ (cb.toNat % 32 - 24)):=dh (by rw [HM.out,List.length_drop,← HN.out];exact hsh)
      have hC:=number_full P k1 1 c b o l it _ HA2.out.1 HR2.out (by rw [← HN.out];exact hc) (by rw [← HN.out];exact hN) (by omega) (by omega) (by have:=HN.out;omega);have hn64:It.unbe ((l.drop k1).take 1) < 256 ^ 8:=Nat.lt_of_lt_of_le (unbe_lt _) (Nat.pow_le_pow_right (by omega) (by rw [List.length_take];omega));have hrh:It.readHead (l.drop k)=if cb.toNat / 32 < 7∧(It.head 0 (It.unbe ((l.drop k1).take 1))).length≠1 + 1 then .err 4 else .ok cb.toNat (It.unbe ((l.drop k1).take 1)) (l.drop (k1 + 1)):=by
       rw [HD.out,It.readHead,if_neg (by rw [← HL.out];decide),if_neg (by rw [← HL.out];decide),if_neg HNS.out,HM.out,List.drop_drop]
      have hk2l:k1 + 1≤l.length:=by have:=HN.out;omega
      obtain ⟨k2,hk2⟩:∃ k2,k2=k1 + 1:=⟨_,rfl⟩;rw [← hk2] at hC hrh hk2l;have HRH:=dh hrh;have HC:=dh hC;clear hC hk2 hrh;go_wp2_with fail
      refine HC.out.mono ?_;rintro e v ⟨rfl,q3,rfl⟩;generalize It.unbe ((l.drop k1).take 1)=n at *;have HA3:Hid (AtP P k2 c b o l it (((w1.setCell ⟨P,1,none⟩ (.int .i64 (k1:Int))).drewN q3).setCell ⟨P,1,none⟩ (.int .i64 (k2:Int)))):=dh ⟨by have:=set_arr (w:=(w1.setCell ⟨P,1,none⟩ (.int .i64 (k1:Int))).drewN q3) HA2.out.1 1 (.int .i64 (k2:Int));simpa using this,hk2l⟩;have HB3:Hid (But P w (((w1.setCell ⟨P,1,none⟩ (.int .i64 (k1:Int))).drewN q3).setCell ⟨P,1,none⟩ (.int .i64 (k2:Int)))):=dh ⟨HB2.out.os,HB2.out.tape,HB2.out.output,by have:=HB2.out.size;simpa [World.setCell] using this,fun j hj hne=>(Below.heap_setCell _ _ _ _ (by show j≠P;exact hne)).trans (HB2.out.block j hj hne)⟩;generalize ((w1.setCell ⟨P,1,none⟩ (.int .i64 (k1:Int))).drewN q3).setCell ⟨P,1,none⟩ (.int .i64 (k2:Int))=w3 at *;by_cases h7:(cb.toNat:Int) / 32 < 7
      ·have h7d:decide ((cb.toNat:Int) / 32 < 7)=true:=decide_eq_true h7
       have h7n:cb.toNat / 32 < 7:=by omega
       have H7:=dh h7n;clear h7n;go_wp2_with fail
       refine (head_any 0 n (n:Int) rfl 0 rfl (by decide) _).mono ?_;rintro e v9 g9;obtain ⟨a9,c9,rfl,_,_,_,_,B9⟩:=g9.open;have HA4:Hid (AtP P k2 c b o l it v9):=dh ⟨Below.keep B9 HA3.out.1 (lb HA3.out.1),HA3.out.2⟩;have HB4:Hid (But P w v9):=dh ⟨B9.os.trans HB3.out.os,B9.tape.trans HB3.out.tape,B9.output.trans HB3.out.output,Nat.le_trans HB3.out.size B9.size,fun j hj hne=>(B9.block j (Nat.lt_of_lt_of_le hj HB3.out.size)).trans (HB3.out.block j hj hne)⟩;clear B9 g9;generalize (It.head 0 n).length=LN at *;by_cases hln:LN=1 + 1
       ·subst hln
        go_wp2_with fail
        go_ret3
        rw [HRH.out,if_neg (by intro h;exact h.2 rfl)];exact ⟨HB4.out,rfl,k2,HA4.out,rfl⟩
       ·have hlz:¬ (LN:Int)=2:=by omega
        have hlb:((LN:Int)==2)=false:=by simpa using hlz
        have HLN:=dh hln;clear hln;go_wp2_with fail
        go_ret3
        rw [HRH.out,if_pos ⟨H7.out,HLN.out⟩];exact ⟨HB4.out,rfl,k2,HA4.out⟩
      ·have h7d:decide ((cb.toNat:Int) / 32 < 7)=false:=decide_eq_false h7
       have H7:Hid (¬ cb.toNat / 32 < 7):=dh (by omega);go_wp2_with fail
       go_ret3
       rw [HRH.out,if_neg (by intro h;exact H7.out h.1)];exact ⟨HB3.out,rfl,k2,HA3.out,rfl⟩
    ·have HM:Hid (2 ^ (cb.toNat % 32 - 24)=2):=dh (by rw [← HL.out])
     clear hlow;by_cases hsh:N - k1 < 2
     ·have HC:=dh (number_short P k1 2 c N _ it _ (by rw [HN.out];exact HA2.out.1) (by have:=HA2.out.2;have:=HN.out;omega) hN (by omega) hsh)
      go_wp2_with fail
      refine HC.out.mono ?_;rintro e v ⟨rfl,q3,rfl⟩;go_wp2_with fail
      go_ret3
      rw [HD.out,It.readHead,if_neg (by rw [← HL.out];decide),if_neg (by rw [← HL.out];decide),if_pos (by rw [HM.out,List.length_drop,← HN.out];exact hsh)];exact ⟨⟨HB2.out.os,HB2.out.tape,HB2.out.output,HB2.out.size,HB2.out.block⟩,rfl,k1,HA2.out⟩
     ·have HNS:Hid (¬ (l.drop k1).length < 2 ^ (cb.toNat % 32 - 24)):=dh (by rw [HM.out,List.length_drop,← HN.out];exact hsh)
      have hC:=number_full P k1 2 c b o l it _ HA2.out.1 HR2.out (by rw [← HN.out];exact hc) (by rw [← HN.out];exact hN) (by omega) (by omega) (by have:=HN.out;omega);have hn64:It.unbe ((l.drop k1).take 2) < 256 ^ 8:=Nat.lt_of_lt_of_le (unbe_lt _) (Nat.pow_le_pow_right (by omega) (by rw [List.length_take];omega));have hrh:It.readHead (l.drop k)=if cb.toNat / 32 < 7∧(It.head 0 (It.unbe ((l.drop k1).take 2))).length≠1 + 2 then .err 4 else .ok cb.toNat (It.unbe ((l.drop k1).take 2)) (l.drop (k1 + 2)):=by
       rw [HD.out,It.readHead,if_neg (by rw [← HL.out];decide),if_neg (by rw [← HL.out];decide),if_neg HNS.out,HM.out,List.drop_drop]
      have hk2l:k1 + 2≤l.length:=by have:=HN.out;omega
      obtain ⟨k2,hk2⟩:∃ k2,k2=k1 + 2:=⟨_,rfl⟩;rw [← hk2] at hC hrh hk2l;have HRH:=dh hrh;have HC:=dh hC;clear hC hk2 hrh;go_wp2_with fail
      refine HC.out.mono ?_;rintro e v ⟨rfl,q3,rfl⟩;generalize It.unbe ((l.drop k1).take 2)=n at *;have HA3:Hid (AtP P k2 c b o l it (((w1.setCell ⟨P,1,none⟩ (.int .i64 (k1:Int))).drewN q3).setCell ⟨P,1,none⟩ (.int .i64 (k2:Int)))):=dh ⟨by have:=set_arr (w:=(w1.setCell ⟨P,1,none⟩ (.int .i64 (k1:Int))).drewN q3) HA2.out.1 1 (.int .i64 (k2:Int));simpa using this,hk2l⟩;have HB3:Hid (But P w (((w1.setCell ⟨P,1,none⟩ (.int .i64 (k1:Int))).drewN q3).setCell ⟨P,1,none⟩ (.int .i64 (k2:Int)))):=dh ⟨HB2.out.os,HB2.out.tape,HB2.out.output,by have:=HB2.out.size;simpa [World.setCell] using this,fun j hj hne=>(Below.heap_setCell _ _ _ _ (by show j≠P;exact hne)).trans (HB2.out.block j hj hne)⟩;generalize ((w1.setCell ⟨P,1,none⟩ (.int .i64 (k1:Int))).drewN q3).setCell ⟨P,1,none⟩ (.int .i64 (k2:Int))=w3 at *;by_cases h7:(cb.toNat:Int) / 32 < 7
      ·have h7d:decide ((cb.toNat:Int) / 32 < 7)=true:=decide_eq_true h7
       have h7n:cb.toNat / 32 < 7:=by omega
       have H7:=dh h7n;clear h7n;go_wp2_with fail
       refine (head_any 0 n (n:Int) rfl 0 rfl (by decide) _).mono ?_;rintro e v9 g9;obtain ⟨a9,c9,rfl,_,_,_,_,B9⟩:=g9.open;have HA4:Hid (AtP P k2 c b o l it v9):=dh ⟨Below.keep B9 HA3.out.1 (lb HA3.out.1),HA3.out.2⟩;have HB4:Hid (But P w v9):=dh ⟨B9.os.trans HB3.out.os,B9.tape.trans HB3.out.tape,B9.output.trans HB3.out.output,Nat.le_trans HB3.out.size B9.size,fun j hj hne=>(B9.block j (Nat.lt_of_lt_of_le hj HB3.out.size)).trans (HB3.out.block j hj hne)⟩;clear B9 g9;generalize (It.head 0 n).length=LN at *;by_cases hln:LN=1 + 2
       ·subst hln
        go_wp2_with fail
        go_ret3
        rw [HRH.out,if_neg (by intro h;exact h.2 rfl)];exact ⟨HB4.out,rfl,k2,HA4.out,rfl⟩
       ·have hlz:¬ (LN:Int)=3:=by omega
        have hlb:((LN:Int)==3)=false:=by simpa using hlz
        have HLN:=dh hln;clear hln;go_wp2_with fail
        go_ret3
        rw [HRH.out,if_pos ⟨H7.out,HLN.out⟩];exact ⟨HB4.out,rfl,k2,HA4.out⟩
      ·have h7d:decide ((cb.toNat:Int) / 32 < 7)=false:=decide_eq_false h7
       have H7:Hid (¬ cb.toNat / 32 < 7):=dh (by omega);go_wp2_with fail
       go_ret3
       rw [HRH.out,if_neg (by intro h;exact H7.out h.1)];exact ⟨HB3.out,rfl,k2,HA3.out,rfl⟩
    ·have HM:Hid (2 ^ (cb.toNat % 32 - 24)=4):=dh (by rw [← HL.out])
     clear hlow;by_cases hsh:N - k1 < 4
     ·have HC:=dh (number_short P k1 4 c N _ it _ (by rw [HN.out];exact HA2.out.1) (by have:=HA2.out.2;have:=HN.out;omega) hN (by omega) hsh)
      go_wp2_with fail
      refine HC.out.mono ?_;rintro e v ⟨rfl,q3,rfl⟩;go_wp2_with fail
      go_ret3
      rw [HD.out,It.readHead,if_neg (by rw [← HL.out];decide),if_neg (by rw [← HL.out];decide),if_pos (by rw [HM.out,List.length_drop,← HN.out];exact hsh)];exact ⟨⟨HB2.out.os,HB2.out.tape,HB2.out.output,HB2.out.size,HB2.out.block⟩,rfl,k1,HA2.out⟩
     ·have HNS:Hid (¬ (l.drop k1).length < 2 ^ (cb.toNat % 32 - 24)):=dh (by rw [HM.out,List.length_drop,← HN.out];exact hsh)
      have hC:=number_full P k1 4 c b o l it _ HA2.out.1 HR2.out (by rw [← HN.out];exact hc) (by rw [← HN.out];exact hN) (by omega) (by omega) (by have:=HN.out;omega);have hn64:It.unbe ((l.drop k1).take 4) < 256 ^ 8:=Nat.lt_of_lt_of_le (unbe_lt _) (Nat.pow_le_pow_right (by omega) (by rw [List.length_take];omega));have hrh:It.readHead (l.drop k)=if cb.toNat / 32 < 7∧(It.head 0 (It.unbe ((l.drop k1).take 4))).length≠1 + 4 then .err 4 else .ok cb.toNat (It.unbe ((l.drop k1).take 4)) (l.drop (k1 + 4)):=by
       rw [HD.out,It.readHead,if_neg (by rw [← HL.out];decide),if_neg (by rw [← HL.out];decide),if_neg HNS.out,HM.out,List.drop_drop]
      have hk2l:k1 + 4≤l.length:=by have:=HN.out;omega
      obtain ⟨k2,hk2⟩:∃ k2,k2=k1 + 4:=⟨_,rfl⟩;rw [← hk2] at hC hrh hk2l;have HRH:=dh hrh;have HC:=dh hC;clear hC hk2 hrh;go_wp2_with fail
      refine HC.out.mono ?_;rintro e v ⟨rfl,q3,rfl⟩;generalize It.unbe ((l.drop k1).take 4)=n at *;have HA3:Hid (AtP P k2 c b o l it (((w1.setCell ⟨P,1,none⟩ (.int .i64 (k1:Int))).drewN q3).setCell ⟨P,1,none⟩ (.int .i64 (k2:Int)))):=dh ⟨by have:=set_arr (w:=(w1.setCell ⟨P,1,none⟩ (.int .i64 (k1:Int))).drewN q3) HA2.out.1 1 (.int .i64 (k2:Int));simpa using this,hk2l⟩;have HB3:Hid (But P w (((w1.setCell ⟨P,1,none⟩ (.int .i64 (k1:Int))).drewN q3).setCell ⟨P,1,none⟩ (.int .i64 (k2:Int)))):=dh ⟨HB2.out.os,HB2.out.tape,HB2.out.output,by have:=HB2.out.size;simpa [World.setCell] using this,fun j hj hne=>(Below.heap_setCell _ _ _ _ (by show j≠P;exact hne)).trans (HB2.out.block j hj hne)⟩;generalize ((w1.setCell ⟨P,1,none⟩ (.int .i64 (k1:Int))).drewN q3).setCell ⟨P,1,none⟩ (.int .i64 (k2:Int))=w3 at *;by_cases h7:(cb.toNat:Int) / 32 < 7
      ·have h7d:decide ((cb.toNat:Int) / 32 < 7)=true:=decide_eq_true h7
       have h7n:cb.toNat / 32 < 7:=by omega
       have H7:=dh h7n;clear h7n;go_wp2_with fail
       refine (head_any 0 n (n:Int) rfl 0 rfl (by decide) _).mono ?_;rintro e v9 g9;obtain ⟨a9,c9,rfl,_,_,_,_,B9⟩:=g9.open;have HA4:Hid (AtP P k2 c b o l it v9):=dh ⟨Below.keep B9 HA3.out.1 (lb HA3.out.1),HA3.out.2⟩;have HB4:Hid (But P w v9):=dh ⟨B9.os.trans HB3.out.os,B9.tape.trans HB3.out.tape,B9.output.trans HB3.out.output,Nat.le_trans HB3.out.size B9.size,fun j hj hne=>(B9.block j (Nat.lt_of_lt_of_le hj HB3.out.size)).trans (HB3.out.block j hj hne)⟩;clear B9 g9;generalize (It.head 0 n).length=LN at *;by_cases hln:LN=1 + 4
       ·subst hln
        go_wp2_with fail
        go_ret3
        rw [HRH.out,if_neg (by intro h;exact h.2 rfl)];exact ⟨HB4.out,rfl,k2,HA4.out,rfl⟩
       ·have hlz:¬ (LN:Int)=5:=by omega
        have hlb:((LN:Int)==5)=false:=by simpa using hlz
        have HLN:=dh hln;clear hln;go_wp2_with fail
        go_ret3
        rw [HRH.out,if_pos ⟨H7.out,HLN.out⟩];exact ⟨HB4.out,rfl,k2,HA4.out⟩
      ·have h7d:decide ((cb.toNat:Int) / 32 < 7)=false:=decide_eq_false h7
       have H7:Hid (¬ cb.toNat / 32 < 7):=dh (by omega);go_wp2_with fail
       go_ret3
       rw [HRH.out,if_neg (by intro h;exact H7.out h.1)];exact ⟨HB3.out,rfl,k2,HA3.out,rfl⟩
    ·have HM:Hid (2 ^ (cb.toNat % 32 - 24)=8):=dh (by rw [← HL.out])
     clear hlow;by_cases hsh:N - k1 < 8
     ·have HC:=dh (number_short P k1 8 c N _ it _ (by rw [HN.out];exact HA2.out.1) (by have:=HA2.out.2;have:=HN.out;omega) hN (by omega) hsh)
      go_wp2_with fail
      refine HC.out.mono ?_;rintro e v ⟨rfl,q3,rfl⟩;go_wp2_with fail
      go_ret3
      rw [HD.out,It.readHead,if_neg (by rw [← HL.out];decide),if_neg (by rw [← HL.out];decide),if_pos (by rw [HM.out,List.length_drop,← HN.out];exact hsh)];exact ⟨⟨HB2.out.os,HB2.out.tape,HB2.out.output,HB2.out.size,HB2.out.block⟩,rfl,k1,HA2.out⟩
     ·have HNS:Hid (¬ (l.drop k1).length < 2 ^ (cb.toNat % 32 - 24)):=dh (by rw [HM.out,List.length_drop,← HN.out];exact hsh)
      have hC:=number_full P k1 8 c b o l it _ HA2.out.1 HR2.out (by rw [← HN.out];exact hc) (by rw [← HN.out];exact hN) (by omega) (by omega) (by have:=HN.out;omega);have hn64:It.unbe ((l.drop k1).take 8) < 256 ^ 8:=Nat.lt_of_lt_of_le (unbe_lt _) (Nat.pow_le_pow_right (by omega) (by rw [List.length_take];omega));have hrh:It.readHead (l.drop k)=if cb.toNat / 32 < 7∧(It.head 0 (It.unbe ((l.drop k1).take 8))).length≠1 + 8 then .err 4 else .ok cb.toNat (It.unbe ((l.drop k1).take 8)) (l.drop (k1 + 8)):=by
       rw [HD.out,It.readHead,if_neg (by rw [← HL.out];decide),if_neg (by rw [← HL.out];decide),if_neg HNS.out,HM.out,List.drop_drop]
      have hk2l:k1 + 8≤l.length:=by have:=HN.out;omega
      obtain ⟨k2,hk2⟩:∃ k2,k2=k1 + 8:=⟨_,rfl⟩;rw [← hk2] at hC hrh hk2l;have HRH:=dh hrh;have HC:=dh hC;clear hC hk2 hrh;go_wp2_with fail
      refine HC.out.mono ?_;rintro e v ⟨rfl,q3,rfl⟩;generalize It.unbe ((l.drop k1).take 8)=n at *;have HA3:Hid (AtP P k2 c b o l it (((w1.setCell ⟨P,1,none⟩ (.int .i64 (k1:Int))).drewN q3).setCell ⟨P,1,none⟩ (.int .i64 (k2:Int)))):=dh ⟨by have:=set_arr (w:=(w1.setCell ⟨P,1,none⟩ (.int .i64 (k1:Int))).drewN q3) HA2.out.1 1 (.int .i64 (k2:Int));simpa using this,hk2l⟩;have HB3:Hid (But P w (((w1.setCell ⟨P,1,none⟩ (.int .i64 (k1:Int))).drewN q3).setCell ⟨P,1,none⟩ (.int .i64 (k2:Int)))):=dh ⟨HB2.out.os,HB2.out.tape,HB2.out.output,by have:=HB2.out.size;simpa [World.setCell] using this,fun j hj hne=>(Below.heap_setCell _ _ _ _ (by show j≠P;exact hne)).trans (HB2.out.block j hj hne)⟩;generalize ((w1.setCell ⟨P,1,none⟩ (.int .i64 (k1:Int))).drewN q3).setCell ⟨P,1,none⟩ (.int .i64 (k2:Int))=w3 at *;by_cases h7:(cb.toNat:Int) / 32 < 7
      ·have h7d:decide ((cb.toNat:Int) / 32 < 7)=true:=decide_eq_true h7
       have h7n:cb.toNat / 32 < 7:=by omega
       have H7:=dh h7n;clear h7n;go_wp2_with fail
       refine (head_any 0 n (n:Int) rfl 0 rfl (by decide) _).mono ?_;rintro e v9 g9;obtain ⟨a9,c9,rfl,_,_,_,_,B9⟩:=g9.open;have HA4:Hid (AtP P k2 c b o l it v9):=dh ⟨Below.keep B9 HA3.out.1 (lb HA3.out.1),HA3.out.2⟩;have HB4:Hid (But P w v9):=dh ⟨B9.os.trans HB3.out.os,B9.tape.trans HB3.out.tape,B9.output.trans HB3.out.output,Nat.le_trans HB3.out.size B9.size,fun j hj hne=>(B9.block j (Nat.lt_of_lt_of_le hj HB3.out.size)).trans (HB3.out.block j hj hne)⟩;clear B9 g9;generalize (It.head 0 n).length=LN at *;by_cases hln:LN=1 + 8
       ·subst hln
        go_wp2_with fail
        go_ret3
        rw [HRH.out,if_neg (by intro h;exact h.2 rfl)];exact ⟨HB4.out,rfl,k2,HA4.out,rfl⟩
       ·have hlz:¬ (LN:Int)=9:=by omega
        have hlb:((LN:Int)==9)=false:=by simpa using hlz
        have HLN:=dh hln;clear hln;go_wp2_with fail
        go_ret3
        rw [HRH.out,if_pos ⟨H7.out,HLN.out⟩];exact ⟨HB4.out,rfl,k2,HA4.out⟩
      ·have h7d:decide ((cb.toNat:Int) / 32 < 7)=false:=decide_eq_false h7
       have H7:Hid (¬ cb.toNat / 32 < 7):=dh (by omega);go_wp2_with fail
       go_ret3
       rw [HRH.out,if_neg (by intro h;exact H7.out h.1)];exact ⟨HB3.out,rfl,k2,HA3.out,rfl⟩
 ·have hkN:k=N:=by omega
  clear hP hR hN0 hk;have hkd:((k:Int)==(N:Int))=true:=by simp;omega
  have hdn:l.drop k=[]:=List.drop_of_length_le hge;have HDN:=dh hdn;clear hdn hge;subst hkN;go_enter Tryd.func66,Tryd.ntmps66
  go_wp2_with fail
  go_quiet (fail)
  go_wp2_with fail
  go_ret3
  rw [HDN.out];exact ⟨⟨rfl,rfl,rfl,Nat.le_refl _,fun _ _ _=>rfl⟩,rfl,k,HA.out⟩
set_option maxHeartbeats 8000000 in
theorem pitem_err (P c b o er:Nat) (l:List UInt8) (it lv:Int) (w:World) (hA:AtP P 0 c b o l it w) (hR:BR (fun b=>b≠P) w (some ⟨b,o,none⟩) l.length l) (hc:l.length≤c) (hN:l.length≤4096) (hi:0≤it) (hi2:it < 256) (hr:It.readHead l=.err er) (h0:er≠0):
 Calls Tryd.prog 42 #[.pointer (some ⟨P,0,none⟩),.int .i64 lv] w fun e w'=>e=.returned (.tuple #[(.agg #[.int .i64 0,.int .u64 0,.slice none 0 0,.slice none 0 0]),.int .i64 (er:Int)])∧But P w w':=by
 have P0:=al w (.cells #[.int .i64 0,.int .u64 0,.slice none 0 0,.slice none 0 0] 31);have N0:=aw w (.cells #[.int .i64 0,.int .u64 0,.slice none 0 0,.slice none 0 0] 31);have hP1:=Below.keep P0 hA.1 (lb hA.1);have hPl:=lb hA.1;have x2:=cr hP1 2;have f2:(w.alloc (.cells #[.int .i64 0,.int .u64 0,.slice none 0 0,.slice none 0 0] 31)).frozen? ⟨P,2,none⟩=false:=by simp [World.frozen?,hP1]
 simp at x2;have hit:¬ it=256:=by omega
 have hitb:(it==256)=false:=by simpa using hit
 obtain ⟨it1,hit1⟩:∃ it1,it1=it + 1:=⟨_,rfl⟩;have hw:IntKind.i64.wrap (it + 1)=it1:=by rw [hit1];exact IntWalk.i64_in _ (by omega)
 have hR1:=hR.below P0;have HP0:=dh P0;have HN0:=dh N0;have HA1:=dh hP1;have HR1:=dh hR1;have HL:=dh hPl;clear hA hR P0 N0 hP1 hR1 hPl;go_enter Tryd.func42,Tryd.ntmps42
 go_upto_region 1 with fail
 generalize hw1:w.alloc (.cells #[.int .i64 0,.int .u64 0,.slice none 0 0,.slice none 0 0] 31)=w1 at *;clear hw1;have HA2:Hid (AtP P 0 c b o l it1 (w1.setCell ⟨P,2,none⟩ (.int .i64 it1))):=dh ⟨by have:=set_arr HA1.out 2 (.int .i64 it1);simpa using this,Nat.zero_le _⟩;have HR2:Hid (BR (fun b=>b≠P) (w1.setCell ⟨P,2,none⟩ (.int .i64 it1)) (some ⟨b,o,none⟩) l.length l):=dh (HR1.out.keep fun j hj _=>⟨Below.heap_setCell _ _ _ _ hj,hj⟩);have HC:=dh (phead_any P 0 c b o l it1 _ HA2.out HR2.out hc hN);have hRP:w.heap.size≠P:=by have:=HL.out;omega
 have HR9:Hid ((w1.setCell ⟨P,2,none⟩ (.int .i64 it1)).heap[w.heap.size]?=some (.cells #[.int .i64 0,.int .u64 0,.slice none 0 0,.slice none 0 0] 31 (0,0))):=dh ((Below.heap_setCell _ _ _ _ hRP).trans HN0.out);have HB2:Hid (But P w (w1.setCell ⟨P,2,none⟩ (.int .i64 it1))):=dh ⟨HP0.out.os,HP0.out.tape,HP0.out.output,by have:=HP0.out.size;simpa [World.setCell] using this,fun j hj hne=>(Below.heap_setCell _ _ _ _ (by show j≠P;exact hne)).trans (HP0.out.block j hj)⟩;rw [List.drop_zero,hr] at HC;clear hit1;go_wp2_with fail
 refine HC.out.mono ?_;rintro e u ⟨hB,rfl,_⟩;have hn:=(hB.block _ (lb HR9.out) hRP).trans HR9.out;have HBU:Hid (But P w u):=dh ⟨hB.os.trans HB2.out.os,hB.tape.trans HB2.out.tape,hB.output.trans HB2.out.output,Nat.le_trans HB2.out.size hB.size,fun j hj hne=>(hB.block j (Nat.lt_of_lt_of_le hj HB2.out.size) hne).trans (HB2.out.block j hj hne)⟩;have HNU:=dh hn;obtain ⟨r0,r1,r2,r3⟩:=cf HNU.out;obtain ⟨q0,q1,q2,q3⟩:=ff HNU.out;have he:¬ (er:Int)=0:=by omega
 have heb:((er:Int) !=0)=true:=by simpa using he
 have hen:¬ er=0:=h0;clear hB hn x2 f2;generalize hBq:w.heap.size=B at *;go_wp2_with fail
 clear r0 r1 r2 r3 q0 q1 q2 q3;obtain ⟨W',hW',hp4,hs4,hb4⟩:=pq (W:=u) (b:=B) (HNU.out) (.int .i64 0) (.int .u64 0) (.slice none 0 0) (.slice none 0 0);rw [hW'];clear hW';obtain ⟨g0,g1,g2,g3⟩:=cf hp4;refine bodyPost_ret (v:=.tuple #[.agg #[.int .i64 0,.int .u64 0,.slice none 0 0,.slice none 0 0],.int .i64 (er:Int)]) (by simp [results,Tryd.results42,go_sem,g0,g1,g2,g3]) rfl ?_;have hz:=hb4 0 u (Below.refl 0 u) (Nat.zero_le _);exact ⟨rfl,⟨hz.os.trans HBU.out.os,hz.tape.trans HBU.out.tape,hz.output.trans HBU.out.output,by have:=HBU.out.size;rw [hs4.1];exact this,fun j hj hne=>(hs4.2 j (by omega)).trans (HBU.out.block j hj hne)⟩⟩
set_option maxHeartbeats 8000000 in
theorem prefix_err (c b o er:Nat) (l:List UInt8) (w:World) (ok:Nat→Prop) (hR:BR ok w (some ⟨b,o,none⟩) l.length l) (hc:l.length≤c) (hN:l.length≤4096) (hr:It.readHead l=.err er) (h0:er≠0) (hbw:b < w.heap.size):
 Calls Tryd.prog 19 #[.slice (some ⟨b,o,none⟩) l.length c] w fun e w'=>e=.returned (.tuple #[(.agg #[.int .i64 0,.int .u64 0,.slice none 0 0,.slice none 0 0]),.int .i64 0,.int .i64 (er:Int)])∧Below w.heap.size w w':=by
 have P0:=al w (.cells #[.int .i64 0,.int .u64 0,.slice none 0 0,.slice none 0 0] 31);have N0:=aw w (.cells #[.int .i64 0,.int .u64 0,.slice none 0 0,.slice none 0 0] 31);have P1:=al (w.alloc (.cells #[.int .i64 0,.int .u64 0,.slice none 0 0,.slice none 0 0] 31)) (.cells #[.slice (some ⟨b,o,none⟩) l.length c,.int .i64 0,.int .i64 0] 82);have N1:=aw (w.alloc (.cells #[.int .i64 0,.int .u64 0,.slice none 0 0,.slice none 0 0] 31)) (.cells #[.slice (some ⟨b,o,none⟩) l.length c,.int .i64 0,.int .i64 0] 82);have hsz0:(w.alloc (.cells #[.int .i64 0,.int .u64 0,.slice none 0 0,.slice none 0 0] 31)).heap.size=w.heap.size + 1:=by simp
 rw [hsz0] at N1;have hR1:BR (fun b=>b≠w.heap.size + 1) ((w.alloc (.cells #[.int .i64 0,.int .u64 0,.slice none 0 0,.slice none 0 0] 31)).alloc (.cells #[.slice (some ⟨b,o,none⟩) l.length c,.int .i64 0,.int .i64 0] 82)) (some ⟨b,o,none⟩) l.length l:=by
  refine ⟨hR.1,hR.2.1,fun i hi=>?_⟩;obtain ⟨b',o',e,_,h⟩:=hR.2.2 i hi;cases e
  exact ⟨b,o,rfl,by omega,((pt P0 P1).cell (p:=⟨b,o + i,none⟩) hbw).trans h⟩
 have HC:=dh (pitem_err (w.heap.size + 1) c b o er l 0 0 _ ⟨N1,Nat.zero_le _⟩ hR1 hc hN (by omega) (by omega) hr h0);have HB1:=dh (pt P0 P1);have HR9:=dh (Below.keep P1 N0 (lb N0));have hmin:min (l.length:Int) 4096=(l.length:Int):=by omega
 have hmin2:min l.length 4096=l.length:=by omega
 generalize hNe:l.length=N at *;clear hR hR1 P0 P1 N0 N1;go_enter Tryd.func19,Tryd.ntmps19
 go_wp2_with fail
 refine HC.out.mono ?_;rintro e u0 ⟨rfl,hB⟩;have hsz1:=HB1.out.size;have hB2:Below w.heap.size w u0:=⟨hB.os.trans HB1.out.os,hB.tape.trans HB1.out.tape,hB.output.trans HB1.out.output,Nat.le_trans HB1.out.size hB.size,fun j hj=>(hB.block j (by omega) (by omega)).trans (HB1.out.block j hj)⟩;have hn0:=(hB.block _ (lb HR9.out) (by omega)).trans HR9.out;have P3:=al u0 (.cells #[.int .i64 0,.int .u64 0,.slice none 0 0,.slice none 0 0] 31);have HNU:=dh (Below.keep P3 hn0 (lb hn0));have HBU:Hid (Below w.heap.size w (u0.alloc (.cells #[.int .i64 0,.int .u64 0,.slice none 0 0,.slice none 0 0] 31))):=dh (hB2.trans (P3.mono hB2.size));obtain ⟨r0,r1,r2,r3⟩:=cf HNU.out;obtain ⟨q0,q1,q2,q3⟩:=ff HNU.out;have he:¬ (er:Int)=0:=by omega
 have heb:((er:Int) !=0)=true:=by simpa using he
 have hen:¬ er=0:=h0;clear hB hB2 hn0 P3 HC HB1 HR9;go_wp2_with fail
 clear r0 r1 r2 r3 q0 q1 q2 q3;generalize u0.alloc (.cells #[.int .i64 0,.int .u64 0,.slice none 0 0,.slice none 0 0] 31)=u at *;generalize hBq:w.heap.size=B at *;obtain ⟨W',hW',hp4,hs4,hb4⟩:=pq (W:=u) (b:=B) (HNU.out) (.int .i64 0) (.int .u64 0) (.slice none 0 0) (.slice none 0 0);rw [hW'];clear hW';obtain ⟨g0,g1,g2,g3⟩:=cf hp4;refine bodyPost_ret (v:=.tuple #[(.agg #[.int .i64 0,.int .u64 0,.slice none 0 0,.slice none 0 0]),.int .i64 0,.int .i64 (er:Int)]) (by simp [results,Tryd.results19,go_sem,g0,g1,g2,g3]) rfl ?_;exact ⟨rfl,hb4 B w HBU.out (Nat.le_refl _)⟩
set_option maxHeartbeats 8000000 in
theorem decode_err (c b o er:Nat) (l:List UInt8) (w:World) (ok:Nat→Prop) (hR:BR ok w (some ⟨b,o,none⟩) l.length l) (hc:l.length≤c) (hN:l.length≤4096) (hr:It.readHead l=.err er) (h0:er≠0) (hbw:b < w.heap.size):
 Calls Tryd.prog 47 #[.slice (some ⟨b,o,none⟩) l.length c] w fun e w'=>e=.returned (.tuple #[(.agg #[.int .i64 0,.int .u64 0,.slice none 0 0,.slice none 0 0]),.int .i64 (er:Int)])∧Below w.heap.size w w':=by
 have P0:=al w (.cells #[.int .i64 0,.int .u64 0,.slice none 0 0,.slice none 0 0] 31);have N0:=aw w (.cells #[.int .i64 0,.int .u64 0,.slice none 0 0,.slice none 0 0] 31);have HC:=dh (prefix_err c b o er l _ ok (hR.below P0) hc hN hr h0 (Nat.lt_of_lt_of_le hbw P0.size));have HP:=dh P0;have HN:=dh N0;have hgt:¬ 4096 < (l.length:Int):=by omega
 have hgd:decide ((4096:Int) < (l.length:Int))=false:=decide_eq_false hgt;have hgn:¬ 4096 < l.length:=by omega
 generalize hNe:l.length=N at *;clear hR P0 N0;go_enter Tryd.func47,Tryd.ntmps47
 go_upto_region 1 with fail
 generalize hw1:w.alloc (.cells #[.int .i64 0,.int .u64 0,.slice none 0 0,.slice none 0 0] 31)=w1 at *;clear hw1;go_wp2_with fail
 refine HC.out.mono ?_;rintro e u0 ⟨rfl,hB⟩;have hn0:=Below.keep hB HN.out (lb HN.out);have P3:=al u0 (.cells #[.int .i64 0,.int .u64 0,.slice none 0 0,.slice none 0 0] 31);have HNU:=dh (Below.keep P3 hn0 (lb hn0));have HBU:Hid (Below w.heap.size w (u0.alloc (.cells #[.int .i64 0,.int .u64 0,.slice none 0 0,.slice none 0 0] 31))):=dh (pt HP.out (pt hB P3));obtain ⟨r0,r1,r2,r3⟩:=cf HNU.out;obtain ⟨q0,q1,q2,q3⟩:=ff HNU.out;have he:¬ (er:Int)=0:=by omega
 have heb:((er:Int) !=0)=true:=by simpa using he
 have hen:¬ er=0:=h0;clear hB hn0 P3 HC;go_wp2_with fail
 clear r0 r1 r2 r3 q0 q1 q2 q3;generalize u0.alloc (.cells #[.int .i64 0,.int .u64 0,.slice none 0 0,.slice none 0 0] 31)=u at *;generalize hBq:w.heap.size=B at *;obtain ⟨W',hW',hp4,hs4,hb4⟩:=pq (W:=u) (b:=B) (HNU.out) (.int .i64 0) (.int .u64 0) (.slice none 0 0) (.slice none 0 0);rw [hW'];clear hW';obtain ⟨g0,g1,g2,g3⟩:=cf hp4;refine bodyPost_ret (v:=.tuple #[.agg #[.int .i64 0,.int .u64 0,.slice none 0 0,.slice none 0 0],.int .i64 (er:Int)]) (by simp [results,Tryd.results47,go_sem,g0,g1,g2,g3]) rfl ?_;exact ⟨rfl,hb4 B w HBU.out (Nat.le_refl _)⟩
end Go.Proofs.YtelefkkkccilaaaDoor
