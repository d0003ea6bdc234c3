/- The reference's Widen. -/
import Derived.Test.YtelefkkkccilaaaGreatDoorLJ
set_option maxHeartbeats 8000000
set_option linter.all false
namespace Go.Proofs.YtelefkkkccilaaaGreatDoor
open Go.RowKit
set_option maxRecDepth 100000
theorem i64_and_nat (a b:Nat) (ha:a < 9223372036854775808) (hb:b < 9223372036854775808):bits .and .i64 (a:Int) (b:Int)=((a &&& b:Nat):Int):=by
 have hx:a &&& b < 9223372036854775808:=Nat.and_lt_two_pow (n:=63) _ (by omega)
 show IntKind.i64.wrap ((BitVec.ofInt 64 (a:Int) &&& BitVec.ofInt 64 (b:Int)).toNat:Int)=_
 rw [BitVec.toNat_and,ofInt_u64 a (by omega),ofInt_u64 b (by omega)];exact IntWalk.i64_in _ (by omega)
theorem and_i64 (k:Nat) (hk:k≤62) {n:Nat} {N:Int} (hN:N=n) (hn:n < 9223372036854775808) (K:Int) (hK:K=((2 ^ k - 1:Nat):Int)):bits .and .i64 N K=((n % 2 ^ k:Nat):Int):=by
 subst hN hK;have h2:2 ^ k≤2 ^ 62:=Nat.pow_le_pow_right (by omega) hk;have h3:0 < 2 ^ k:=Nat.two_pow_pos k;rw [i64_and_nat _ _ hn (by omega),Nat.and_two_pow_sub_one_eq_mod]
theorem widenS_any (n:Nat) (N:Int) (hN:N=n) (hn:n < 4294967296) (w:World):Calls Tryz.prog 120 #[.int .u64 N,.int .i64 8,.int .i64 23] w fun e w'=>e=.returned (.int .u64 ((Fl.widenS n:Nat):Int))∧w=w':=by
 obtain ⟨G,hG⟩:∃ G:Int,G=((n / 2147483648:Nat):Int):=⟨_,rfl⟩;obtain ⟨E,hE⟩:∃ E:Int,E=((n / 8388608 % 256:Nat):Int):=⟨_,rfl⟩;obtain ⟨M,hM⟩:∃ M:Int,M=((n % 8388608:Nat):Int):=⟨_,rfl⟩;have q1:N / 2147483648=G:=(shr_nat hN 2147483648 _ rfl).trans hG.symm;have q0:N / 8388608=((n / 8388608:Nat):Int):=shr_nat hN 8388608 _ rfl;have q2:bits .and .i64 (N / 8388608) 255=E:=(and_i64 8 (by omega) q0 (by omega) _ rfl).trans hE.symm;have q3:bits .and .u64 N 8388607=M:=(and_mask 23 (by omega) hN (by omega) _ rfl).trans hM.symm;have n0:0≤N:=by omega
 have n1:N < 4294967296:=by omega
 have g0:0≤G:=by omega
 have g1:G≤1:=by omega
 have e0:0≤E:=by omega
 have e1:E≤255:=by omega
 have m0:0≤M:=by omega
 have m1:M < 8388608:=by omega
 clear hN hn q0;obtain ⟨R,hR⟩:∃ R,R=Fl.widenS n:=⟨_,rfl⟩;rw [← hR];unfold Fl.widenS at hR
 dsimp only at hR
 generalize n / 2147483648=g at *;generalize n / 8388608 % 256=e at *;generalize n % 8388608=m at *;clear n;have HG:=dh hG;have HE:=dh hE;have HM:=dh hM;clear hG hE hM;by_cases c1:E=255
 ·rw [if_pos (by have:=HE.out;omega)] at hR
  have o1:bits .or .u64 (G * 9223372036854775808) 9218868437227405312=((g * 2 ^ 63 + 9218868437227405312:Nat):Int):=or_hi 63 (by have:=HG.out;omega) rfl (by omega) (by have:=HG.out;omega);have o2:bits .or .u64 (bits .or .u64 (G * 9223372036854775808) 9218868437227405312) (M * 536870912)=((g * 9223372036854775808 + 9218868437227405312 + m * 536870912:Nat):Int):=by
   rw [o1,show g * 2 ^ 63 + 9218868437227405312=(g * 2048 + 2047) * 2 ^ 52 from by omega,or_hi 52 rfl (b:=m * 536870912) (by have:=HM.out;omega) (by have:=HM.out;omega) (by have:=HM.out;have:=HG.out;omega)]
   try (congr 1;omega)
  have HO:=dh o2;subst c1;clear o1 o2;have HR:=dh hR;clear hR;go_enter Tryz.func120,Tryz.ntmps120
  go_wp2_with fail
  go_ret
  exact ⟨by rw [HR.out,← HO.out];rfl,rfl⟩
 have b1:(E==255)=false:=by simpa using c1
 rw [if_neg (by have:=HE.out;omega)] at hR;by_cases c2:E=0
 ·rw [if_pos (by have:=HE.out;omega)] at hR
  by_cases c3:M=0
  ·rw [if_pos (by have:=HM.out;omega)] at hR
   have HO:Hid (G * 9223372036854775808=((g * 9223372036854775808:Nat):Int)):=dh (by have:=HG.out;omega);subst c2 c3;have HR:=dh hR;clear hR;go_enter Tryz.func120,Tryz.ntmps120
   go_wp2_with fail
   go_ret
   exact ⟨by rw [HR.out,← HO.out];rfl,rfl⟩
  ·rw [if_neg (by have:=HM.out;omega)] at hR
   have b3:(M==0)=false:=by simpa using c3
   subst c2;have HR:=dh hR;clear hR;go_enter Tryz.func120,Tryz.ntmps120
   have hmz:m≠0:=by have:=HM.out;omega
   obtain ⟨L,hL⟩:∃ L,L=m.log2:=⟨_,rfl⟩;obtain ⟨l1,l2⟩:=Fl.log2_bd hmz;rw [← hL] at l1 l2;have hL10:L < 23:=by
    rcases Nat.lt_or_ge L 23 with h | h
    ·exact h
    ·have:2 ^ 23≤2 ^ L:=Nat.pow_le_pow_right (by omega) h
     have:=HM.out;omega
   have HL1:=dh l1;have HL2:=dh l2;have HLm:=dh hL;clear hmz l1 l2 hL c3;go_wp2_with fail
   go_loopw [12] (fun k W=>∃ q:Nat,k=.int .i64 (q:Int)∧q≤L∧W=w) (fun k _=>L - (intOf k).toNat)
   case atStart=>exact ⟨0,rfl,by omega,rfl⟩
   case round=>
    obtain ⟨q,rfl,hq,rfl⟩:=hrel;by_cases hql:q < L
    ·have hge:2 ^ (q + 1)≤m:=Nat.le_trans (Nat.pow_le_pow_right (by omega) hql) HL1.out
     have hdv:(1:Int)≤M / 2 ^ (q + 1):=by
      have e1:(2:Int) ^ (q + 1)=((2 ^ (q + 1):Nat):Int):=by norm_cast
      rw [e1,HM.out,← Int.natCast_ediv];have:1≤m / 2 ^ (q + 1):=(Nat.le_div_iff_mul_le (Nat.two_pow_pos _)).2 (by omega);omega
     have hz:(0:Int) < M / 2 ^ (q + 1):=by omega
     go_wp2_with fail
     go_roundw
     case rel=>exact ⟨q + 1,by go_num,by omega,trivial⟩
     case measure=>simp [intOf];omega
    ·obtain rfl:q=L:=by omega
     have hdv:M / 2 ^ (q + 1)=0:=by
      have e1:(2:Int) ^ (q + 1)=((2 ^ (q + 1):Nat):Int):=by norm_cast
      rw [e1,HM.out,← Int.natCast_ediv,Nat.div_eq_of_lt HL2.out]
      rfl
     have hz:¬ (0:Int) < M / 2 ^ (q + 1):=by omega
     have o1:bits .or .u64 (G * 9223372036854775808) (((q:Int) + 1 - 127 - 23 + 1023) * 4503599627370496)=((g * 2 ^ 63 + (q + 874) * 4503599627370496:Nat):Int):=or_hi 63 (by have:=HG.out;omega) (by omega) (by omega) (by have:=HG.out;omega);have p1:2 ^ q * 2 ^ (52 - q)=2 ^ 52:=by rw [← Nat.pow_add];congr 1;omega
     have p2:2 ^ (q + 1) * 2 ^ (52 - q)=2 ^ 53:=by rw [← Nat.pow_add];congr 1;omega
     have p3:2 ^ 52≤m * 2 ^ (52 - q):=by rw [← p1];exact Nat.mul_le_mul_right _ HL1.out
     have p4:m * 2 ^ (52 - q) < 2 ^ 53:=by rw [← p2];exact Nat.mul_lt_mul_of_pos_right HL2.out (Nat.two_pow_pos _)
     have p5:M * 2 ^ (52 - q)=((m * 2 ^ (52 - q):Nat):Int):=by rw [HM.out];norm_cast
     have p6:bits .and .u64 (IntKind.u64.wrap (M * 2 ^ (52 - q))) 4503599627370495=((m * 2 ^ (52 - q) - 4503599627370496:Nat):Int):=by
      rw [p5,wrap_u64 (by omega) (by omega)];have hz2:(m * 2 ^ (52 - q)) % 2 ^ 52=m * 2 ^ (52 - q) - 4503599627370496:=by
       generalize m * 2 ^ (52 - q)=Z at p3 p4;omega
      rw [← hz2];exact and_mask 52 (by omega) rfl (by omega) _ rfl
     have o2:bits .or .u64 (bits .or .u64 (G * 9223372036854775808) (((q:Int) + 1 - 127 - 23 + 1023) * 4503599627370496)) (bits .and .u64 (IntKind.u64.wrap (M * 2 ^ (52 - q))) 4503599627370495)=((g * 9223372036854775808 + (q + 874) * 4503599627370496 + (m * 2 ^ (52 - q) - 4503599627370496):Nat):Int):=by
      rw [o1,p6,show g * 2 ^ 63 + (q + 874) * 4503599627370496=(g * 2048 + (q + 874)) * 2 ^ 52 from by omega,or_hi 52 rfl rfl (by omega) (by have:=HG.out;omega)]
      try (congr 1;omega)
     have HO:=dh o2;clear o1 o2 p1 p2 p3 p4 p5 p6 hdv;go_wp2_with fail
     go_ret
     exact ⟨by rw [HR.out,← HLm.out,← HO.out];rfl,rfl⟩
 ·rw [if_neg (by have:=HE.out;omega)] at hR
  have b2:(E==0)=false:=by simpa using c2
  have o1:bits .or .u64 (G * 9223372036854775808) ((E - 127 + 1023) * 4503599627370496)=((g * 2 ^ 63 + (e + 896) * 4503599627370496:Nat):Int):=or_hi 63 (by have:=HG.out;omega) (by have:=HE.out;omega) (by have:=HE.out;omega) (by have:=HG.out;have:=HE.out;omega);have o2:bits .or .u64 (bits .or .u64 (G * 9223372036854775808) ((E - 127 + 1023) * 4503599627370496)) (M * 536870912)=((g * 9223372036854775808 + (e + 896) * 4503599627370496 + m * 536870912:Nat):Int):=by
   rw [o1,show g * 2 ^ 63 + (e + 896) * 4503599627370496=(g * 2048 + (e + 896)) * 2 ^ 52 from by omega,or_hi 52 rfl (b:=m * 536870912) (by have:=HM.out;omega) (by have:=HM.out;omega) (by have:=HM.out;have:=HG.out;have:=HE.out;omega)]
   try (congr 1;omega)
  have HO:=dh o2;clear o1 o2;have HR:=dh hR;clear hR;go_enter Tryz.func120,Tryz.ntmps120
  go_wp2_with fail
  go_ret
  exact ⟨by rw [HR.out,← HO.out];rfl,rfl⟩
theorem widenH_any (n:Nat) (N:Int) (hN:N=n) (hn:n < 65536) (w:World):Calls Tryz.prog 120 #[.int .u64 N,.int .i64 5,.int .i64 10] w fun e w'=>e=.returned (.int .u64 ((Fl.widenH n:Nat):Int))∧w=w':=by
 obtain ⟨G,hG⟩:∃ G:Int,G=((n / 32768:Nat):Int):=⟨_,rfl⟩;obtain ⟨E,hE⟩:∃ E:Int,E=((n / 1024 % 32:Nat):Int):=⟨_,rfl⟩;obtain ⟨M,hM⟩:∃ M:Int,M=((n % 1024:Nat):Int):=⟨_,rfl⟩;have q1:N / 32768=G:=(shr_nat hN 32768 _ rfl).trans hG.symm;have q0:N / 1024=((n / 1024:Nat):Int):=shr_nat hN 1024 _ rfl;have q2:bits .and .i64 (N / 1024) 31=E:=(and_i64 5 (by omega) q0 (by omega) _ rfl).trans hE.symm;have q3:bits .and .u64 N 1023=M:=(and_mask 10 (by omega) hN (by omega) _ rfl).trans hM.symm;have n0:0≤N:=by omega
 have n1:N < 65536:=by omega
 have g0:0≤G:=by omega
 have g1:G≤1:=by omega
 have e0:0≤E:=by omega
 have e1:E≤31:=by omega
 have m0:0≤M:=by omega
 have m1:M < 1024:=by omega
 clear hN hn q0;obtain ⟨R,hR⟩:∃ R,R=Fl.widenH n:=⟨_,rfl⟩;rw [← hR];unfold Fl.widenH at hR
 dsimp only at hR
 generalize n / 32768=g at *;generalize n / 1024 % 32=e at *;generalize n % 1024=m at *;clear n;have HG:=dh hG;have HE:=dh hE;have HM:=dh hM;clear hG hE hM;by_cases c1:E=31
 ·rw [if_pos (by have:=HE.out;omega)] at hR
  have o1:bits .or .u64 (G * 9223372036854775808) 9218868437227405312=((g * 2 ^ 63 + 9218868437227405312:Nat):Int):=or_hi 63 (by have:=HG.out;omega) rfl (by omega) (by have:=HG.out;omega);have o2:bits .or .u64 (bits .or .u64 (G * 9223372036854775808) 9218868437227405312) (M * 4398046511104)=((g * 9223372036854775808 + 9218868437227405312 + m * 4398046511104:Nat):Int):=by
   rw [o1,show g * 2 ^ 63 + 9218868437227405312=(g * 2048 + 2047) * 2 ^ 52 from by omega,or_hi 52 rfl (b:=m * 4398046511104) (by have:=HM.out;omega) (by have:=HM.out;omega) (by have:=HM.out;have:=HG.out;omega)]
   try (congr 1;omega)
  have HO:=dh o2;subst c1;clear o1 o2;have HR:=dh hR;clear hR;go_enter Tryz.func120,Tryz.ntmps120
  go_wp2_with fail
  go_ret
  exact ⟨by rw [HR.out,← HO.out];rfl,rfl⟩
 have b1:(E==31)=false:=by simpa using c1
 rw [if_neg (by have:=HE.out;omega)] at hR;by_cases c2:E=0
 ·rw [if_pos (by have:=HE.out;omega)] at hR
  by_cases c3:M=0
  ·rw [if_pos (by have:=HM.out;omega)] at hR
   have HO:Hid (G * 9223372036854775808=((g * 9223372036854775808:Nat):Int)):=dh (by have:=HG.out;omega);subst c2 c3;have HR:=dh hR;clear hR;go_enter Tryz.func120,Tryz.ntmps120
   go_wp2_with fail
   go_ret
   exact ⟨by rw [HR.out,← HO.out];rfl,rfl⟩
  ·rw [if_neg (by have:=HM.out;omega)] at hR
   have b3:(M==0)=false:=by simpa using c3
   subst c2;have HR:=dh hR;clear hR;go_enter Tryz.func120,Tryz.ntmps120
   have hmz:m≠0:=by have:=HM.out;omega
   obtain ⟨L,hL⟩:∃ L,L=m.log2:=⟨_,rfl⟩;obtain ⟨l1,l2⟩:=Fl.log2_bd hmz;rw [← hL] at l1 l2;have hL10:L < 10:=by
    rcases Nat.lt_or_ge L 10 with h | h
    ·exact h
    ·have:2 ^ 10≤2 ^ L:=Nat.pow_le_pow_right (by omega) h
     have:=HM.out;omega
   have HL1:=dh l1;have HL2:=dh l2;have HLm:=dh hL;clear hmz l1 l2 hL c3;go_wp2_with fail
   go_loopw [12] (fun k W=>∃ q:Nat,k=.int .i64 (q:Int)∧q≤L∧W=w) (fun k _=>L - (intOf k).toNat)
   case atStart=>exact ⟨0,rfl,by omega,rfl⟩
   case round=>
    obtain ⟨q,rfl,hq,rfl⟩:=hrel;by_cases hql:q < L
    ·have hge:2 ^ (q + 1)≤m:=Nat.le_trans (Nat.pow_le_pow_right (by omega) hql) HL1.out
     have hdv:(1:Int)≤M / 2 ^ (q + 1):=by
      have e1:(2:Int) ^ (q + 1)=((2 ^ (q + 1):Nat):Int):=by norm_cast
      rw [e1,HM.out,← Int.natCast_ediv];have:1≤m / 2 ^ (q + 1):=(Nat.le_div_iff_mul_le (Nat.two_pow_pos _)).2 (by omega);omega
     have hz:(0:Int) < M / 2 ^ (q + 1):=by omega
     go_wp2_with fail
     go_roundw
     case rel=>exact ⟨q + 1,by go_num,by omega,trivial⟩
     case measure=>simp [intOf];omega
    ·obtain rfl:q=L:=by omega
     have hdv:M / 2 ^ (q + 1)=0:=by
      have e1:(2:Int) ^ (q + 1)=((2 ^ (q + 1):Nat):Int):=by norm_cast
      rw [e1,HM.out,← Int.natCast_ediv,Nat.div_eq_of_lt HL2.out]
      rfl
     have hz:¬ (0:Int) < M / 2 ^ (q + 1):=by omega
     have o1:bits .or .u64 (G * 9223372036854775808) (((q:Int) + 1 - 15 - 10 + 1023) * 4503599627370496)=((g * 2 ^ 63 + (q + 999) * 4503599627370496:Nat):Int):=or_hi 63 (by have:=HG.out;omega) (by omega) (by omega) (by have:=HG.out;omega);have p1:2 ^ q * 2 ^ (52 - q)=2 ^ 52:=by rw [← Nat.pow_add];congr 1;omega
     have p2:2 ^ (q + 1) * 2 ^ (52 - q)=2 ^ 53:=by rw [← Nat.pow_add];congr 1;omega
     have p3:2 ^ 52≤m * 2 ^ (52 - q):=by rw [← p1];exact Nat.mul_le_mul_right _ HL1.out
     have p4:m * 2 ^ (52 - q) < 2 ^ 53:=by rw [← p2];exact Nat.mul_lt_mul_of_pos_right HL2.out (Nat.two_pow_pos _)
     have p5:M * 2 ^ (52 - q)=((m * 2 ^ (52 - q):Nat):Int):=by rw [HM.out];norm_cast
     have p6:bits .and .u64 (IntKind.u64.wrap (M * 2 ^ (52 - q))) 4503599627370495=((m * 2 ^ (52 - q) - 4503599627370496:Nat):Int):=by
      rw [p5,wrap_u64 (by omega) (by omega)];have hz2:(m * 2 ^ (52 - q)) % 2 ^ 52=m * 2 ^ (52 - q) - 4503599627370496:=by
       generalize m * 2 ^ (52 - q)=Z at p3 p4;omega
      rw [← hz2];exact and_mask 52 (by omega) rfl (by omega) _ rfl
     have o2:bits .or .u64 (bits .or .u64 (G * 9223372036854775808) (((q:Int) + 1 - 15 - 10 + 1023) * 4503599627370496)) (bits .and .u64 (IntKind.u64.wrap (M * 2 ^ (52 - q))) 4503599627370495)=((g * 9223372036854775808 + (q + 999) * 4503599627370496 + (m * 2 ^ (52 - q) - 4503599627370496):Nat):Int):=by
      rw [o1,p6,show g * 2 ^ 63 + (q + 999) * 4503599627370496=(g * 2048 + (q + 999)) * 2 ^ 52 from by omega,or_hi 52 rfl rfl (by omega) (by have:=HG.out;omega)]
      try (congr 1;omega)
     have HO:=dh o2;clear o1 o2 p1 p2 p3 p4 p5 p6 hdv;go_wp2_with fail
     go_ret
     exact ⟨by rw [HR.out,← HLm.out,← HO.out];rfl,rfl⟩
 ·rw [if_neg (by have:=HE.out;omega)] at hR
  have b2:(E==0)=false:=by simpa using c2
  have o1:bits .or .u64 (G * 9223372036854775808) ((E - 15 + 1023) * 4503599627370496)=((g * 2 ^ 63 + (e + 1008) * 4503599627370496:Nat):Int):=or_hi 63 (by have:=HG.out;omega) (by have:=HE.out;omega) (by have:=HE.out;omega) (by have:=HG.out;have:=HE.out;omega);have o2:bits .or .u64 (bits .or .u64 (G * 9223372036854775808) ((E - 15 + 1023) * 4503599627370496)) (M * 4398046511104)=((g * 9223372036854775808 + (e + 1008) * 4503599627370496 + m * 4398046511104:Nat):Int):=by
   rw [o1,show g * 2 ^ 63 + (e + 1008) * 4503599627370496=(g * 2048 + (e + 1008)) * 2 ^ 52 from by omega,or_hi 52 rfl (b:=m * 4398046511104) (by have:=HM.out;omega) (by have:=HM.out;omega) (by have:=HM.out;have:=HG.out;have:=HE.out;omega)]
   try (congr 1;omega)
  have HO:=dh o2;clear o1 o2;have HR:=dh hR;clear hR;go_enter Tryz.func120,Tryz.ntmps120
  go_wp2_with fail
  go_ret
  exact ⟨by rw [HR.out,← HO.out];rfl,rfl⟩
def FltP (b:Nat) (w:World) (e:Ending) (w':World):Prop:=∃ m:Nat,m < 18446744073709551616∧(Fl.isNaN m=false∨m=Fl.nan)∧e=.returned (.int .u64 (m:Int))∧Deck w' b∧But b w w'
def isFlt:Value→Bool
 | .int .u64 n=>decide (0≤n∧n < 18446744073709551616) && (!Fl.isNaN n.toNat || decide (n.toNat=Fl.nan))
 | _=>false
theorem lit_flt {W:World} {b T i:Nat} {cs:Array Value} (h:W.heap[b]?=some (.cells cs T (0,0))) (hP:cs.all isFlt=true) (hi:i < cs.size):∃ m:Nat,m < 18446744073709551616∧(Fl.isNaN m=false∨m=Fl.nan)∧W.cell? ⟨b,i,none⟩=some (.int .u64 (m:Int)):=by
 have hc:=cr h i;have hv:=Array.all_eq_true.1 hP i hi;rw [Array.getElem?_eq_getElem hi] at hc;generalize cs[i]=v at *
 match v,hv with
 | .int .u64 n,hv=>
   simp only [isFlt,decide_eq_true_eq,Bool.and_eq_true,Bool.or_eq_true,Bool.not_eq_true'] at hv;exact ⟨n.toNat,by omega,hv.2,by rw [hc,Int.toNat_of_nonneg hv.1.1]⟩
theorem bits_lt (k:Nat) {a b:Nat} {A B:Int} (hA:A=a) (hB:B=b) (ha:a < 2 ^ k) (hb:b < 2 ^ k) (hk:k≤64):∃ m:Nat,m < 2 ^ k∧bits .or .u64 A B=(m:Int):=by
 subst hA hB;have h2:2 ^ k≤2 ^ 64:=Nat.pow_le_pow_right (by omega) hk;exact ⟨a ||| b,Nat.or_lt_two_pow ha hb,u64_or_nat _ _ (by omega) (by omega)⟩
theorem half_bits (n:Nat) (hn:n < 1073741824):∃ v:Nat,v < 65536∧Fl.nanH v=false∧bits .or .u64 (bits .and .u64 (n:Int) 31743) (bits .and .u64 ((n:Int) / 16384) 32768)=(v:Int):=by
 have e2:(n:Int) / 16384=((n / 16384:Nat):Int):=shr_nat rfl 16384 _ rfl;have a1:n &&& 31743 < 65536:=Nat.lt_of_le_of_lt Nat.and_le_right (by omega);have a2:n / 16384 &&& 32768 < 65536:=Nat.lt_of_le_of_lt Nat.and_le_right (by omega);have hv:(n &&& 31743) ||| (n / 16384 &&& 32768) < 2 ^ 16:=Nat.or_lt_two_pow a1 a2;refine ⟨(n &&& 31743) ||| (n / 16384 &&& 32768),hv,?_,?_⟩
 ·have hb:((n &&& 31743) ||| (n / 16384 &&& 32768)).testBit 10=false:=by
   rw [Nat.testBit_or,Nat.testBit_and,Nat.testBit_and,show Nat.testBit 31743 10=false from by decide,show Nat.testBit 32768 10=false from by decide];simp
  generalize (n &&& 31743) ||| (n / 16384 &&& 32768)=v at hb;rw [Nat.testBit_eq_decide_div_mod_eq] at hb;have hb2:=of_decide_eq_false hb;unfold Fl.nanH;have:(v / 1024 % 32==31)=false:=by simp;omega
  rw [this];rfl
 ·rw [e2,show (31743:Int)=((31743:Nat):Int) from rfl,show (32768:Int)=((32768:Nat):Int) from rfl,u64_and_nat _ _ (by omega) (by omega),u64_and_nat _ _ (by omega) (by omega),u64_or_nat _ _ (by omega) (by omega)]
theorem single_bits (n:Nat) (hn:n < 1073741824):∃ v:Nat,v < 4294967296∧Fl.nanS v=false∧bits .and .u64 (n:Int) 2139095039=(v:Int):=by
 refine ⟨n &&& 2139095039,Nat.lt_of_le_of_lt Nat.and_le_right (by omega),?_,?_⟩
 ·have hb:(n &&& 2139095039).testBit 23=false:=by
   rw [Nat.testBit_and,show Nat.testBit 2139095039 23=false from by decide];simp
  generalize n &&& 2139095039=v at hb;rw [Nat.testBit_eq_decide_div_mod_eq] at hb;have hb2:=of_decide_eq_false hb;unfold Fl.nanS;have:(v / 8388608 % 256==255)=false:=by simp;omega
  rw [this];rfl
 ·rw [show (2139095039:Int)=((2139095039:Nat):Int) from rfl,u64_and_nat _ _ (by omega) (by omega)]
theorem float_deck (b:Nat) (w:World) (hd:Deck w b):Calls Tryz.prog 93 #[.pointer (some ⟨b,0,none⟩)] w (FltP b w):=by
 go_enter Tryz.func93,Tryz.ntmps93
 go_wp2_with fail
 refine (nxa b 1073741824 w hd (by omega) (by omega)).mono ?_;rintro e w1 ⟨r,hr0,hr1,rfl,hD1,hB1,hs1⟩;obtain ⟨n,rfl⟩:=Int.eq_ofNat_of_zero_le hr0;have HB1:=dh hB1;have HD1:=dh hD1;have HN:Hid (n < 1073741824):=dh (by omega);clear hB1 hs1;go_wp2_with fail
 refine (nxa b 5 w1 HD1.out (by omega) (by omega)).mono ?_;rintro e w2 ⟨q,hq0,hq1,rfl,hD2,hB2,hs2⟩;have HB2:=dh (HB1.out.trans hB2);have HD2:=dh hD2;clear hB2 hs2;by_cases h0:q=0
 ·subst h0
  obtain ⟨v,hv,hvn,hve⟩:=half_bits n HN.out;have hw:=Fl.widenH_narrow hv hvn;have HWD:=dh hw;have HC:=dh (widenH_any v _ hve hv w2);clear hw hvn hv hve;go_wp2_with fail
  refine HC.out.mono ?_;rintro e u ⟨rfl,rfl⟩;generalize Fl.widenH v=m at *;go_wp2_with fail
  go_ret
  exact ⟨m,HWD.out.2.1,.inl HWD.out.2.2,rfl,HD2.out,HB2.out⟩
 have z0:(q==0)=false:=beq_f h0;by_cases h1:q=1
 ·subst h1
  obtain ⟨v,hv,hvn,hve⟩:=single_bits n HN.out;have hw:=Fl.widenS_narrow hv hvn;have HWD:=dh hw;have HC:=dh (widenS_any v _ hve hv w2);clear hw hvn hv hve;go_wp2_with fail
  refine HC.out.mono ?_;rintro e u ⟨rfl,rfl⟩;generalize Fl.widenS v=m at *;go_wp2_with fail
  go_ret
  exact ⟨m,HWD.out.2.1,.inl HWD.out.2.2,rfl,HD2.out,HB2.out⟩
 have z1:(q==1)=false:=beq_f h1;by_cases h2:q=2
 ·subst h2
  have P3:=al w2 (.cells #[.int .u64 9221120237041090560,.int .u64 9218868437227405312,.int .u64 18442240474082181120,.int .u64 9223372036854775808,.int .u64 0,.int .u64 1,.int .u64 4609434218613702656] 22);have N3:=aw w2 (.cells #[.int .u64 9221120237041090560,.int .u64 9218868437227405312,.int .u64 18442240474082181120,.int .u64 9223372036854775808,.int .u64 0,.int .u64 1,.int .u64 4609434218613702656] 22);have HD3:=dh (HD2.out.below P3);have HP3:=dh P3;have HN3:=dh N3;have hbl:=HD2.out.lt;clear P3 N3;go_wp2_with fail
  refine (nxa b 7 _ HD3.out (by omega) (by omega)).mono ?_;rintro e w3 ⟨q,hq0,hq1,rfl,hD4,hB4,hs4⟩;obtain ⟨i,rfl⟩:=Int.eq_ofNat_of_zero_le hq0;have hi:i < 7:=by omega
  obtain ⟨m,hm,hm2,hc⟩:=lit_flt (i:=i) ((hB4.block w2.heap.size (lb HN3.out) (by omega)).trans HN3.out) (by decide +kernel) hi;have HB4:=dh ((bob HP3.out).trans hB4);have HD4:=dh hD4;have HM:=dh hm;have HM2:=dh hm2;clear hB4 hs4 hD4 hm hm2;go_wp2_with fail
  go_ret
  exact ⟨m,HM.out,HM2.out,rfl,HD4.out,HB2.out.trans HB4.out⟩
 ·have z2:(q==2)=false:=beq_f h2
  go_wp2_with fail
  refine (nxa b 1073741824 w2 HD2.out (by omega) (by omega)).mono ?_;rintro e w3 ⟨p,hp0,hp1,rfl,hD3,hB3,hs3⟩;obtain ⟨i,rfl⟩:=Int.eq_ofNat_of_zero_le hp0;have HB3:=dh (HB2.out.trans hB3);have HD3:=dh hD3;have HI:Hid (i < 1073741824):=dh (by omega);obtain ⟨m,hm,hme⟩:=bits_lt 64 (a:=n * 17179869184) (b:=i * 16) (A:=(n:Int) * 17179869184) (B:=(i:Int) * 16) (by omega) (by omega) (by have:=HN.out;omega) (by omega) (by omega);have HC:=dh (isnan_any m _ hme hm w3);have HM:=dh hm;have HME:=dh hme;clear hB3 hs3 hD3 hm hme;go_wp2_with fail
  refine HC.out.mono ?_;rintro e u ⟨rfl,rfl⟩;cases hv:Fl.isNaN m with
  | true=>
    clear hv;go_wp2_with fail
    go_ret
    exact ⟨Fl.nan,by decide,.inr rfl,rfl,HD3.out,HB3.out⟩
  | false=>
    have HV:=dh hv;clear hv;go_wp2_with fail
    go_ret
    exact ⟨m,HM.out,.inl HV.out,by rw [← HME.out];rfl,HD3.out,HB3.out⟩
structure DW (b:Nat) (w W:World):Prop where
 deck:Deck W b
 but:But b w W
 lt:b < w.heap.size
theorem DW.start {b:Nat} {w:World} (h:Deck w b):DW b w w:=⟨h,But.refl _ _,h.lt⟩
theorem DW.down {b n:Nat} {w W W':World} (h:DW b w W) (hB:Below n W W') (hn:w.heap.size≤n):DW b w W':=
 ⟨h.deck.keep fun j hj=>hB.block j (by have:=h.lt;omega),⟨hB.os.trans h.but.os,hB.tape.trans h.but.tape,hB.output.trans h.but.output,Nat.le_trans h.but.size hB.size,fun k hk hb=>(hB.block k (by omega)).trans (h.but.block k hk hb)⟩,h.lt⟩
theorem DW.next {b:Nat} {w W W':World} (h:DW b w W) (hD:Deck W' b) (hB:But b W W'):DW b w W':=⟨hD,h.but.trans hB,h.lt⟩
theorem OwnB.but {b base:Nat} {W W':World} {v:Value} {l:List UInt8} (h:OwnB W base v l) (hB:But b W W') (hb:b < base):OwnB W' base v l:=
 own_keep h fun g hg=>hB.block g (olt h hg).1 (by have:=olt h hg;omega)
theorem OutI.deck {b base:Nat} {Q:Nat→Prop} {W W':World} {v:Value} {es:List (It × Ad)} (h:OutI W base Q v es) (hB:But b W W') (hb:b < base) (hQ:∀ q,Q q→q≠b):OutI W' base Q v es:=
 h.keep (fun g hg=>hB.block g (olt h.row hg).1 (by have:=olt h.row hg;omega)) fun q hq hl=>hB.block q hl (hQ q hq)
theorem app_at {W:World} {base:Nat} {v:Value} {l r:List UInt8} {a:Option Addr} {n c:Nat} {ok:Nat→Prop} (hO:OwnB W base v l) (hb:base≤W.heap.size) (hr:BR ok W a n r) (hl:l.length + r.length≤1000000000000):
 ∃ v' W',(Builtin.append_ #[23,23] 23 #[v,.slice a n c]).run Tryz.prog W=.ok v' W'∧OwnB W' base v' (l ++ r)∧Below base W W':=by
 obtain ⟨a',c',w',h1,h2,h3,_⟩:=app_bytes W base v l hO a n c r ok hr (by rw [hr.1];exact hl) hb;exact ⟨_,w',h1,h2,bg (Below.refl base W) hb hO h3⟩
theorem BR.lit {W:World} {b T:Nat} {n:Int} (h:W.heap[b]?=some (.cells #[.int .u8 n] T (0,0))) (h0:0≤n) (h1:n < 256):BR (fun _=>True) W (some ⟨b,0,none⟩) 1 [UInt8.ofNat n.toNat]:=by
 refine ⟨rfl,by omega,fun i hi=>⟨b,0,rfl,trivial,?_⟩⟩;have:i=0:=by simpa using hi
 subst this;rw [cr h];have e:((UInt8.ofNat n.toNat).toNat:Int)=n:=by rw [It.ofNat_toNat (by omega)];omega
 show some (Value.int .u8 n)=some (.int .u8 (((UInt8.ofNat n.toNat).toNat:Nat):Int))
 rw [e]
def BytP (b N:Nat) (w:World) (e:Ending) (w':World):Prop:=∃ v l,e=.returned v∧OwnB w' w.heap.size v l∧l.length≤N∧DW b w w'
theorem dbytes_any (b:Nat) (N:Nat) (hN:N≤1000) (w:World) (hd:Deck w b):
 Calls Tryz.prog 90 #[.pointer (some ⟨b,0,none⟩),.int .i64 (N:Int)] w (BytP b N w):=by
 have hbw:=hd.lt;go_enter Tryz.func90,Tryz.ntmps90
 go_wp2_with fail
 refine (nxa b ((N:Int) + 1) w hd (by omega) (by omega)).mono ?_;rintro e w2 ⟨r,hr0,hr1,rfl,hD2,hB2,hs2⟩;obtain ⟨m,rfl⟩:=Int.eq_ofNat_of_zero_le hr0;have HW2:=dh ((DW.start hd).next hD2 hB2);have HM:Hid (m≤N):=dh (by omega);clear hD2 hB2 hs2 hr0 hr1;go_wp2_with fail
 go_loopw [5,6] (fun v k W=>∃ (q:Nat) (l:List UInt8),k=.int .i64 (q:Int)∧OwnB W w.heap.size v l∧l.length + q≤N∧DW b w W) (fun _ k _=>(intOf k).toNat)
 case atStart=>exact ⟨m,[],rfl,OwnB.nil _ _,by simpa using HM.out,HW2.out⟩
 case round=>
  obtain ⟨q,l,rfl,hO,hlq,hDW⟩:=hrel;by_cases hq:0 < (q:Int)
  ·have hq':(q:Int)≤1000:=by omega
   have HO:=dh hO;have HLQ:=dh hlq;have HDW:=dh hDW;clear hO hlq hDW;go_wp2_with fail
   refine (nxa b 256 wr HDW.out.deck (by omega) (by omega)).mono ?_;rintro e w3 ⟨r,hr0,hr1,rfl,hD3,hB3,hs3⟩;have hO3:=HO.out.but hB3 HDW.out.lt;have hw3:=HDW.out.next hD3 hB3;have P4:=al w3 (.cells #[.int .u8 r] 5);have N4:=aw w3 (.cells #[.int .u8 r] 5);obtain ⟨v5,w5,hrun,hO5,hB5⟩:=app_at (c:=1) (hO3.pure P4) (Nat.le_trans hw3.but.size P4.size) (BR.lit N4 hr0 hr1) (by have:=HLQ.out;simp;omega);have HR:=dh hrun;have HO5:=dh hO5;have HW5:=dh ((hw3.down P4 hw3.but.size).down hB5 (Nat.le_refl _));clear hrun hO5 hB5 hO3 hw3 P4 N4 hD3 hB3 hs3;go_wp2_with (at_builtin;refine wj rfl _ _ 23 rfl rfl rfl HR.out ?_;clear HR)
   go_roundw
   case rel=>exact ⟨q - 1,_,by go_num,HO5.out,by have:=HLQ.out;simp;omega,HW5.out⟩
   case measure=>simp [intOf];omega
  ·have HO:=dh hO
   have HLQ:=dh hlq;have HDW:=dh hDW;clear hO hlq hDW;go_wp2_with fail
   go_ret
   exact ⟨_,l,rfl,HO.out,by have:=HLQ.out;omega,HDW.out⟩
def TxtP (b N:Nat) (w:World) (e:Ending) (w':World):Prop:=∃ ps:List Nat,e=.returned (.string ⟨(ps.flatMap piece).toArray⟩)∧ps.length≤N∧DW b w w'
theorem lit_str {W:World} {b i:Nat} (h:W.heap[b]?=some (.cells #[.string ⟨#[97]⟩,.string ⟨#[98]⟩,.string ⟨#[47]⟩,.string ⟨#[34]⟩,.string ⟨#[92]⟩,.string ⟨#[10]⟩,.string ⟨#[127]⟩,.string ⟨#[37]⟩,.string ⟨#[195,169]⟩,.string ⟨#[226,130,172]⟩] 9 (0,0))) (hi:i < 10):W.cell? ⟨b,i,none⟩=some (.string ⟨(piece i).toArray⟩):=by
 rw [cr h];rcases (show i=0∨i=1∨i=2∨i=3∨i=4∨i=5∨i=6∨i=7∨i=8∨i=9 by omega) with rfl | rfl | rfl | rfl | rfl | rfl | rfl | rfl | rfl | rfl <;> rfl
theorem dtext_any (b:Nat) (N:Nat) (hN:N≤1000) (w:World) (hd:Deck w b):
 Calls Tryz.prog 91 #[.pointer (some ⟨b,0,none⟩),.int .i64 (N:Int)] w (TxtP b N w):=by
 have hbw:=hd.lt;go_enter Tryz.func91,Tryz.ntmps91
 go_wp2_with fail
 refine (nxa b ((N:Int) + 1) w hd (by omega) (by omega)).mono ?_;rintro e w2 ⟨r,hr0,hr1,rfl,hD2,hB2,hs2⟩;obtain ⟨m,rfl⟩:=Int.eq_ofNat_of_zero_le hr0;have HW2:=dh ((DW.start hd).next hD2 hB2);have HM:Hid (m≤N):=dh (by omega);clear hD2 hB2 hs2 hr0 hr1;go_wp2_with fail
 go_loopw [5,6] (fun v k W=>∃ (q:Nat) (ps:List Nat) (l:List UInt8),k=.int .i64 (q:Int)∧v=.string ⟨l.toArray⟩∧l=ps.flatMap piece∧ps.length + q≤N∧DW b w W) (fun _ k _=>(intOf k).toNat)
 case atStart=>exact ⟨m,[],[],rfl,rfl,rfl,by simpa using HM.out,HW2.out⟩
 case round=>
  obtain ⟨q,ps,l,rfl,rfl,hl,hlq,hDW⟩:=hrel;have HL:=dh hl;clear hl;by_cases hq:0 < (q:Int)
  ·have hq':(q:Int)≤1000:=by omega
   have HLQ:=dh hlq;have HDW:=dh hDW;have P3:=al wr (.cells #[.string ⟨#[97]⟩,.string ⟨#[98]⟩,.string ⟨#[47]⟩,.string ⟨#[34]⟩,.string ⟨#[92]⟩,.string ⟨#[10]⟩,.string ⟨#[127]⟩,.string ⟨#[37]⟩,.string ⟨#[195,169]⟩,.string ⟨#[226,130,172]⟩] 9);have N3:=aw wr (.cells #[.string ⟨#[97]⟩,.string ⟨#[98]⟩,.string ⟨#[47]⟩,.string ⟨#[34]⟩,.string ⟨#[92]⟩,.string ⟨#[10]⟩,.string ⟨#[127]⟩,.string ⟨#[37]⟩,.string ⟨#[195,169]⟩,.string ⟨#[226,130,172]⟩] 9);have HW3:=dh (hDW.down P3 hDW.but.size);have HN3:=dh N3;have hbr:b≠wr.heap.size:=by have:=hDW.lt;have:=hDW.but.size;omega
   clear hlq hDW P3 N3;go_wp2_with fail
   refine (nxa b 10 _ HW3.out.deck (by omega) (by omega)).mono ?_;rintro e w4 ⟨r,hr0,hr1,rfl,hD4,hB4,hs4⟩;obtain ⟨i,rfl⟩:=Int.eq_ofNat_of_zero_le hr0;have hc:=lit_str (i:=i) ((hB4.block wr.heap.size (lb HN3.out) (fun e=>hbr e.symm)).trans HN3.out) (by omega);have HW4:=dh (HW3.out.next hD4 hB4);have hcat:¬ 9223372036854775807 < l.length + (piece i).length:=by have:=HLQ.out;have:=text_len ps;have:=piece_len i;have:=HL.out;subst this;omega
   have HPI:Hid (l ++ piece i=(ps ++ [i]).flatMap piece):=dh (by rw [HL.out];simp);clear hD4 hB4 hs4;generalize piece i=pc at *;have HBA:Hid ((⟨l.toArray⟩:ByteArray) ++ ⟨pc.toArray⟩=⟨(l ++ pc).toArray⟩):=dh (by apply ByteArray.ext;simp);go_wp2_with fail
   go_roundw
   case rel=>exact ⟨q - 1,ps ++ [i],l ++ pc,by go_num,by rw [HBA.out],HPI.out,by have:=HLQ.out;simp;omega,HW4.out⟩
   case measure=>simp [intOf];omega
  ·have HLQ:=dh hlq
   have HDW:=dh hDW;clear hlq hDW;go_wp2_with fail
   go_ret
   exact ⟨ps,by rw [← HL.out];rfl,by have:=HLQ.out;omega,HDW.out⟩
