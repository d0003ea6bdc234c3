/- The reference's Widen. A deck's floats. A deck's bytes and texts. -/
import Derived.Test.YtelefkkkccilaaaDoorLJ
set_option linter.unusedVariables false
set_option linter.unusedSimpArgs false
namespace Go.Proofs.YtelefkkkccilaaaDoor
open Go.RowKit
set_option maxRecDepth 100000
theorem i64_and_nat (a b:Nat) (ha:a < 9223372036854775808) (hb:b < 9223372036854775808):bits .and .i64 (a:Int) (b:Int)=((a &&& b:Nat):Int):=by
 have hx:a &&& b < 9223372036854775808:=Nat.and_lt_two_pow (n:=63) _ (by omega)
 show IntKind.i64.wrap ((BitVec.ofInt 64 (a:Int) &&& BitVec.ofInt 64 (b:Int)).toNat:Int)=_
 rw [BitVec.toNat_and,ofInt_u64 a (by omega),ofInt_u64 b (by omega)];exact IntWalk.i64_in _ (by omega)
theorem and_i64 (k:Nat) (hk:k≤62) {n:Nat} {N:Int} (hN:N=n) (hn:n < 9223372036854775808) (K:Int) (hK:K=((2 ^ k - 1:Nat):Int)):bits .and .i64 N K=((n % 2 ^ k:Nat):Int):=by
 subst hN hK;have h2:2 ^ k≤2 ^ 62:=Nat.pow_le_pow_right (by omega) hk;have h3:0 < 2 ^ k:=Nat.two_pow_pos k;rw [i64_and_nat _ _ hn (by omega),Nat.and_two_pow_sub_one_eq_mod]
set_option maxHeartbeats 8000000 in
theorem widenS_any (n:Nat) (N:Int) (hN:N=n) (hn:n < 4294967296) (w:World):Calls Tryd.prog 59 #[.int .u64 N,.int .i64 8,.int .i64 23] w fun e w'=>e=.returned (.int .u64 ((Fl.widenS n:Nat):Int))∧w=w':=by
 obtain ⟨G,hG⟩:∃ G:Int,G=((n / 2147483648:Nat):Int):=⟨_,rfl⟩;obtain ⟨E,hE⟩:∃ E:Int,E=((n / 8388608 % 256:Nat):Int):=⟨_,rfl⟩;obtain ⟨M,hM⟩:∃ M:Int,M=((n % 8388608:Nat):Int):=⟨_,rfl⟩;have q1:N / 2147483648=G:=(shr_nat hN 2147483648 _ rfl).trans hG.symm;have q0:N / 8388608=((n / 8388608:Nat):Int):=shr_nat hN 8388608 _ rfl;have q2:bits .and .i64 (N / 8388608) 255=E:=(and_i64 8 (by omega) q0 (by omega) _ rfl).trans hE.symm;have q3:bits .and .u64 N 8388607=M:=(and_mask 23 (by omega) hN (by omega) _ rfl).trans hM.symm;have n0:0≤N:=by omega
 have n1:N < 4294967296:=by omega
 have g0:0≤G:=by omega
 have g1:G≤1:=by omega
 have e0:0≤E:=by omega
 have e1:E≤255:=by omega
 have m0:0≤M:=by omega
 have m1:M < 8388608:=by omega
 clear hN hn q0;obtain ⟨R,hR⟩:∃ R,R=Fl.widenS n:=⟨_,rfl⟩;rw [← hR];unfold Fl.widenS at hR
 dsimp only at hR
 generalize n / 2147483648=g at *;generalize n / 8388608 % 256=e at *;generalize n % 8388608=m at *;clear n;have HG:=dh hG;have HE:=dh hE;have HM:=dh hM;clear hG hE hM;by_cases c1:E=255
 ·rw [if_pos (by have:=HE.out;omega)] at hR
  have o1:bits .or .u64 (G * 9223372036854775808) 9218868437227405312=((g * 2 ^ 63 + 9218868437227405312:Nat):Int):=or_hi 63 (by have:=HG.out;omega) rfl (by omega) (by have:=HG.out;omega);have o2:bits .or .u64 (bits .or .u64 (G * 9223372036854775808) 9218868437227405312) (M * 536870912)=((g * 9223372036854775808 + 9218868437227405312 + m * 536870912:Nat):Int):=by
   rw [o1,show g * 2 ^ 63 + 9218868437227405312=(g * 2048 + 2047) * 2 ^ 52 from by omega,or_hi 52 rfl (b:=m * 536870912) (by have:=HM.out;omega) (by have:=HM.out;omega) (by have:=HM.out;have:=HG.out;omega)]
   try (congr 1;omega)
  have HO:=dh o2;subst c1;clear o1 o2;have HR:=dh hR;clear hR;go_enter Tryd.func59,Tryd.ntmps59
  go_wp2_with fail
  go_ret
  exact ⟨by rw [HR.out,← HO.out];rfl,rfl⟩
 have b1:(E==255)=false:=by simpa using c1
 rw [if_neg (by have:=HE.out;omega)] at hR;by_cases c2:E=0
 ·rw [if_pos (by have:=HE.out;omega)] at hR
  by_cases c3:M=0
  ·rw [if_pos (by have:=HM.out;omega)] at hR
   have HO:Hid (G * 9223372036854775808=((g * 9223372036854775808:Nat):Int)):=dh (by have:=HG.out;omega);subst c2 c3;have HR:=dh hR;clear hR;go_enter Tryd.func59,Tryd.ntmps59
   go_wp2_with fail
   go_ret
   exact ⟨by rw [HR.out,← HO.out];rfl,rfl⟩
  ·rw [if_neg (by have:=HM.out;omega)] at hR
   have b3:(M==0)=false:=by simpa using c3
   subst c2;have HR:=dh hR;clear hR;go_enter Tryd.func59,Tryd.ntmps59
   have hmz:m≠0:=by have:=HM.out;omega
   obtain ⟨L,hL⟩:∃ L,L=m.log2:=⟨_,rfl⟩;obtain ⟨l1,l2⟩:=Fl.log2_bd hmz;rw [← hL] at l1 l2;have hL10:L < 23:=by
    rcases Nat.lt_or_ge L 23 with h | h
    ·exact h
    ·have:2 ^ 23≤2 ^ L:=Nat.pow_le_pow_right (by omega) h
     have:=HM.out;omega
   have HL1:=dh l1;have HL2:=dh l2;have HLm:=dh hL;clear hmz l1 l2 hL c3;go_wp2_with fail
   go_loopw [12] (fun k W=>∃ q:Nat,k=.int .i64 (q:Int)∧q≤L∧W=w) (fun k _=>L - (intOf k).toNat)
   case atStart=>exact ⟨0,rfl,by omega,rfl⟩
   case round=>
    obtain ⟨q,rfl,hq,rfl⟩:=hrel;by_cases hql:q < L
    ·have hge:2 ^ (q + 1)≤m:=Nat.le_trans (Nat.pow_le_pow_right (by omega) hql) HL1.out
     have hdv:(1:Int)≤M / 2 ^ (q + 1):=by
      have e1:(2:Int) ^ (q + 1)=((2 ^ (q + 1):Nat):Int):=by norm_cast
      rw [e1,HM.out,← Int.natCast_ediv];have:1≤m / 2 ^ (q + 1):=(Nat.le_div_iff_mul_le (Nat.two_pow_pos _)).2 (by omega);omega
     have hz:(0:Int) < M / 2 ^ (q + 1):=by omega
     go_wp2_with fail
     go_roundw
     case rel=>exact ⟨q + 1,by go_num,by omega,trivial⟩
     case measure=>simp [intOf];omega
    ·obtain rfl:q=L:=by omega
     have hdv:M / 2 ^ (q + 1)=0:=by
      have e1:(2:Int) ^ (q + 1)=((2 ^ (q + 1):Nat):Int):=by norm_cast
      rw [e1,HM.out,← Int.natCast_ediv,Nat.div_eq_of_lt HL2.out]
      rfl
     have hz:¬ (0:Int) < M / 2 ^ (q + 1):=by omega
     have o1:bits .or .u64 (G * 9223372036854775808) (((q:Int) + 1 - 127 - 23 + 1023) * 4503599627370496)=((g * 2 ^ 63 + (q + 874) * 4503599627370496:Nat):Int):=or_hi 63 (by have:=HG.out;omega) (by omega) (by omega) (by have:=HG.out;omega);have p1:2 ^ q * 2 ^ (52 - q)=2 ^ 52:=by rw [← Nat.pow_add];congr 1;omega
     have p2:2 ^ (q + 1) * 2 ^ (52 - q)=2 ^ 53:=by rw [← Nat.pow_add];congr 1;omega
     have p3:2 ^ 52≤m * 2 ^ (52 - q):=by rw [← p1];exact Nat.mul_le_mul_right _ HL1.out
     have p4:m * 2 ^ (52 - q) < 2 ^ 53:=by rw [← p2];exact Nat.mul_lt_mul_of_pos_right HL2.out (Nat.two_pow_pos _)
     have p5:M * 2 ^ (52 - q)=((m * 2 ^ (52 - q):Nat):Int):=by rw [HM.out];norm_cast
     have p6:bits .and .u64 (IntKind.u64.wrap (M * 2 ^ (52 - q))) 4503599627370495=((m * 2 ^ (52 - q) - 4503599627370496:Nat):Int):=by
      rw [p5,wrap_u64 (by omega) (by omega)];have hz2:(m * 2 ^ (52 - q)) % 2 ^ 52=m * 2 ^ (52 - q) - 4503599627370496:=by
       generalize m * 2 ^ (52 - q)=Z at p3 p4;omega
      rw [← hz2];exact and_mask 52 (by omega) rfl (by omega) _ rfl
     have o2:bits .or .u64 (bits .or .u64 (G * 9223372036854775808) (((q:Int) + 1 - 127 - 23 + 1023) * 4503599627370496)) (bits .and .u64 (IntKind.u64.wrap (M * 2 ^ (52 - q))) 4503599627370495)=((g * 9223372036854775808 + (q + 874) * 4503599627370496 + (m * 2 ^ (52 - q) - 4503599627370496):Nat):Int):=by
      rw [o1,p6,show g * 2 ^ 63 + (q + 874) * 4503599627370496=(g * 2048 + (q + 874)) * 2 ^ 52 from by omega,or_hi 52 rfl rfl (by omega) (by have:=HG.out;omega)]
      try (congr 1;omega)
     have HO:=dh o2;clear o1 o2 p1 p2 p3 p4 p5 p6 hdv;go_wp2_with fail
     go_ret
     exact ⟨by rw [HR.out,← HLm.out,← HO.out];rfl,rfl⟩
 ·rw [if_neg (by have:=HE.out;omega)] at hR
  have b2:(E==0)=false:=by simpa using c2
  have o1:bits .or .u64 (G * 9223372036854775808) ((E - 127 + 1023) * 4503599627370496)=((g * 2 ^ 63 + (e + 896) * 4503599627370496:Nat):Int):=or_hi 63 (by have:=HG.out;omega) (by have:=HE.out;omega) (by have:=HE.out;omega) (by have:=HG.out;have:=HE.out;omega);have o2:bits .or .u64 (bits .or .u64 (G * 9223372036854775808) ((E - 127 + 1023) * 4503599627370496)) (M * 536870912)=((g * 9223372036854775808 + (e + 896) * 4503599627370496 + m * 536870912:Nat):Int):=by
   rw [o1,show g * 2 ^ 63 + (e + 896) * 4503599627370496=(g * 2048 + (e + 896)) * 2 ^ 52 from by omega,or_hi 52 rfl (b:=m * 536870912) (by have:=HM.out;omega) (by have:=HM.out;omega) (by have:=HM.out;have:=HG.out;have:=HE.out;omega)]
   try (congr 1;omega)
  have HO:=dh o2;clear o1 o2;have HR:=dh hR;clear hR;go_enter Tryd.func59,Tryd.ntmps59
  go_wp2_with fail
  go_ret
  exact ⟨by rw [HR.out,← HO.out];rfl,rfl⟩
set_option maxHeartbeats 8000000 in
theorem widenH_any (n:Nat) (N:Int) (hN:N=n) (hn:n < 65536) (w:World):Calls Tryd.prog 59 #[.int .u64 N,.int .i64 5,.int .i64 10] w fun e w'=>e=.returned (.int .u64 ((Fl.widenH n:Nat):Int))∧w=w':=by
 obtain ⟨G,hG⟩:∃ G:Int,G=((n / 32768:Nat):Int):=⟨_,rfl⟩;obtain ⟨E,hE⟩:∃ E:Int,E=((n / 1024 % 32:Nat):Int):=⟨_,rfl⟩;obtain ⟨M,hM⟩:∃ M:Int,M=((n % 1024:Nat):Int):=⟨_,rfl⟩;have q1:N / 32768=G:=(shr_nat hN 32768 _ rfl).trans hG.symm;have q0:N / 1024=((n / 1024:Nat):Int):=shr_nat hN 1024 _ rfl;have q2:bits .and .i64 (N / 1024) 31=E:=(and_i64 5 (by omega) q0 (by omega) _ rfl).trans hE.symm;have q3:bits .and .u64 N 1023=M:=(and_mask 10 (by omega) hN (by omega) _ rfl).trans hM.symm;have n0:0≤N:=by omega
 have n1:N < 65536:=by omega
 have g0:0≤G:=by omega
 have g1:G≤1:=by omega
 have e0:0≤E:=by omega
 have e1:E≤31:=by omega
 have m0:0≤M:=by omega
 have m1:M < 1024:=by omega
 clear hN hn q0;obtain ⟨R,hR⟩:∃ R,R=Fl.widenH n:=⟨_,rfl⟩;rw [← hR];unfold Fl.widenH at hR
 dsimp only at hR
 generalize n / 32768=g at *;generalize n / 1024 % 32=e at *;generalize n % 1024=m at *;clear n;have HG:=dh hG;have HE:=dh hE;have HM:=dh hM;clear hG hE hM;by_cases c1:E=31
 ·rw [if_pos (by have:=HE.out;omega)] at hR
  have o1:bits .or .u64 (G * 9223372036854775808) 9218868437227405312=((g * 2 ^ 63 + 9218868437227405312:Nat):Int):=or_hi 63 (by have:=HG.out;omega) rfl (by omega) (by have:=HG.out;omega);have o2:bits .or .u64 (bits .or .u64 (G * 9223372036854775808) 9218868437227405312) (M * 4398046511104)=((g * 9223372036854775808 + 9218868437227405312 + m * 4398046511104:Nat):Int):=by
   rw [o1,show g * 2 ^ 63 + 9218868437227405312=(g * 2048 + 2047) * 2 ^ 52 from by omega,or_hi 52 rfl (b:=m * 4398046511104) (by have:=HM.out;omega) (by have:=HM.out;omega) (by have:=HM.out;have:=HG.out;omega)]
   try (congr 1;omega)
  have HO:=dh o2;subst c1;clear o1 o2;have HR:=dh hR;clear hR;go_enter Tryd.func59,Tryd.ntmps59
  go_wp2_with fail
  go_ret
  exact ⟨by rw [HR.out,← HO.out];rfl,rfl⟩
 have b1:(E==31)=false:=by simpa using c1
 rw [if_neg (by have:=HE.out;omega)] at hR;by_cases c2:E=0
 ·rw [if_pos (by have:=HE.out;omega)] at hR
  by_cases c3:M=0
  ·rw [if_pos (by have:=HM.out;omega)] at hR
   have HO:Hid (G * 9223372036854775808=((g * 9223372036854775808:Nat):Int)):=dh (by have:=HG.out;omega);subst c2 c3;have HR:=dh hR;clear hR;go_enter Tryd.func59,Tryd.ntmps59
   go_wp2_with fail
   go_ret
   exact ⟨by rw [HR.out,← HO.out];rfl,rfl⟩
  ·rw [if_neg (by have:=HM.out;omega)] at hR
   have b3:(M==0)=false:=by simpa using c3
   subst c2;have HR:=dh hR;clear hR;go_enter Tryd.func59,Tryd.ntmps59
   have hmz:m≠0:=by have:=HM.out;omega
   obtain ⟨L,hL⟩:∃ L,L=m.log2:=⟨_,rfl⟩;obtain ⟨l1,l2⟩:=Fl.log2_bd hmz;rw [← hL] at l1 l2;have hL10:L < 10:=by
    rcases Nat.lt_or_ge L 10 with h | h
    ·exact h
    ·have:2 ^ 10≤2 ^ L:=Nat.pow_le_pow_right (by omega) h
     have:=HM.out;omega
   have HL1:=dh l1;have HL2:=dh l2;have HLm:=dh hL;clear hmz l1 l2 hL c3;go_wp2_with fail
   go_loopw [12] (fun k W=>∃ q:Nat,k=.int .i64 (q:Int)∧q≤L∧W=w) (fun k _=>L - (intOf k).toNat)
   case atStart=>exact ⟨0,rfl,by omega,rfl⟩
   case round=>
    obtain ⟨q,rfl,hq,rfl⟩:=hrel;by_cases hql:q < L
    ·have hge:2 ^ (q + 1)≤m:=Nat.le_trans (Nat.pow_le_pow_right (by omega) hql) HL1.out
     have hdv:(1:Int)≤M / 2 ^ (q + 1):=by
      have e1:(2:Int) ^ (q + 1)=((2 ^ (q + 1):Nat):Int):=by norm_cast
      rw [e1,HM.out,← Int.natCast_ediv];have:1≤m / 2 ^ (q + 1):=(Nat.le_div_iff_mul_le (Nat.two_pow_pos _)).2 (by omega);omega
     have hz:(0:Int) < M / 2 ^ (q + 1):=by omega
     go_wp2_with fail
     go_roundw
     case rel=>exact ⟨q + 1,by go_num,by omega,trivial⟩
     case measure=>simp [intOf];omega
    ·obtain rfl:q=L:=by omega
     have hdv:M / 2 ^ (q + 1)=0:=by
      have e1:(2:Int) ^ (q + 1)=((2 ^ (q + 1):Nat):Int):=by norm_cast
      rw [e1,HM.out,← Int.natCast_ediv,Nat.div_eq_of_lt HL2.out]
      rfl
     have hz:¬ (0:Int) < M / 2 ^ (q + 1):=by omega
     have o1:bits .or .u64 (G * 9223372036854775808) (((q:Int) + 1 - 15 - 10 + 1023) * 4503599627370496)=((g * 2 ^ 63 + (q + 999) * 4503599627370496:Nat):Int):=or_hi 63 (by have:=HG.out;omega) (by omega) (by omega) (by have:=HG.out;omega);have p1:2 ^ q * 2 ^ (52 - q)=2 ^ 52:=by rw [← Nat.pow_add];congr 1;omega
     have p2:2 ^ (q + 1) * 2 ^ (52 - q)=2 ^ 53:=by rw [← Nat.pow_add];congr 1;omega
     have p3:2 ^ 52≤m * 2 ^ (52 - q):=by rw [← p1];exact Nat.mul_le_mul_right _ HL1.out
     have p4:m * 2 ^ (52 - q) < 2 ^ 53:=by rw [← p2];exact Nat.mul_lt_mul_of_pos_right HL2.out (Nat.two_pow_pos _)
     have p5:M * 2 ^ (52 - q)=((m * 2 ^ (52 - q):Nat):Int):=by rw [HM.out];norm_cast
     have p6:bits .and .u64 (IntKind.u64.wrap (M * 2 ^ (52 - q))) 4503599627370495=((m * 2 ^ (52 - q) - 4503599627370496:Nat):Int):=by
      rw [p5,wrap_u64 (by omega) (by omega)];have hz2:(m * 2 ^ (52 - q)) % 2 ^ 52=m * 2 ^ (52 - q) - 4503599627370496:=by
       generalize m * 2 ^ (52 - q)=Z at p3 p4;omega
      rw [← hz2];exact and_mask 52 (by omega) rfl (by omega) _ rfl
     have o2:bits .or .u64 (bits .or .u64 (G * 9223372036854775808) (((q:Int) + 1 - 15 - 10 + 1023) * 4503599627370496)) (bits .and .u64 (IntKind.u64.wrap (M * 2 ^ (52 - q))) 4503599627370495)=((g * 9223372036854775808 + (q + 999) * 4503599627370496 + (m * 2 ^ (52 - q) - 4503599627370496):Nat):Int):=by
      rw [o1,p6,show g * 2 ^ 63 + (q + 999) * 4503599627370496=(g * 2048 + (q + 999)) * 2 ^ 52 from by omega,or_hi 52 rfl rfl (by omega) (by have:=HG.out;omega)]
      try (congr 1;omega)
     have HO:=dh o2;clear o1 o2 p1 p2 p3 p4 p5 p6 hdv;go_wp2_with fail
     go_ret
     exact ⟨by rw [HR.out,← HLm.out,← HO.out];rfl,rfl⟩
 ·rw [if_neg (by have:=HE.out;omega)] at hR
  have b2:(E==0)=false:=by simpa using c2
  have o1:bits .or .u64 (G * 9223372036854775808) ((E - 15 + 1023) * 4503599627370496)=((g * 2 ^ 63 + (e + 1008) * 4503599627370496:Nat):Int):=or_hi 63 (by have:=HG.out;omega) (by have:=HE.out;omega) (by have:=HE.out;omega) (by have:=HG.out;have:=HE.out;omega);have o2:bits .or .u64 (bits .or .u64 (G * 9223372036854775808) ((E - 15 + 1023) * 4503599627370496)) (M * 4398046511104)=((g * 9223372036854775808 + (e + 1008) * 4503599627370496 + m * 4398046511104:Nat):Int):=by
   rw [o1,show g * 2 ^ 63 + (e + 1008) * 4503599627370496=(g * 2048 + (e + 1008)) * 2 ^ 52 from by omega,or_hi 52 rfl (b:=m * 4398046511104) (by have:=HM.out;omega) (by have:=HM.out;omega) (by have:=HM.out;have:=HG.out;have:=HE.out;omega)]
   try (congr 1;omega)
  have HO:=dh o2;clear o1 o2;have HR:=dh hR;clear hR;go_enter Tryd.func59,Tryd.ntmps59
  go_wp2_with fail
  go_ret
  exact ⟨by rw [HR.out,← HO.out];rfl,rfl⟩
theorem bits_lt (k:Nat) {a b:Nat} {A B:Int} (hA:A=a) (hB:B=b) (ha:a < 2 ^ k) (hb:b < 2 ^ k) (hk:k≤64):∃ m:Nat,m < 2 ^ k∧bits .or .u64 A B=(m:Int):=by
 subst hA hB;have h2:2 ^ k≤2 ^ 64:=Nat.pow_le_pow_right (by omega) hk;exact ⟨a ||| b,Nat.or_lt_two_pow ha hb,u64_or_nat _ _ (by omega) (by omega)⟩
theorem half_bits (n:Nat) (hn:n < 1073741824):∃ v:Nat,v < 65536∧Fl.nanH v=false∧bits .or .u64 (bits .and .u64 (n:Int) 31743) (bits .and .u64 ((n:Int) / 16384) 32768)=(v:Int):=by
 have e2:(n:Int) / 16384=((n / 16384:Nat):Int):=shr_nat rfl 16384 _ rfl;have a1:n &&& 31743 < 65536:=Nat.lt_of_le_of_lt Nat.and_le_right (by omega);have a2:n / 16384 &&& 32768 < 65536:=Nat.lt_of_le_of_lt Nat.and_le_right (by omega);have hv:(n &&& 31743) ||| (n / 16384 &&& 32768) < 2 ^ 16:=Nat.or_lt_two_pow a1 a2;refine ⟨(n &&& 31743) ||| (n / 16384 &&& 32768),hv,?_,?_⟩
 ·have hb:((n &&& 31743) ||| (n / 16384 &&& 32768)).testBit 10=false:=by
   rw [Nat.testBit_or,Nat.testBit_and,Nat.testBit_and,show Nat.testBit 31743 10=false from by decide,show Nat.testBit 32768 10=false from by decide];simp
  generalize (n &&& 31743) ||| (n / 16384 &&& 32768)=v at hb;rw [Nat.testBit_eq_decide_div_mod_eq] at hb;have hb2:=of_decide_eq_false hb;unfold Fl.nanH;have:(v / 1024 % 32==31)=false:=by simp;omega
  rw [this];rfl
 ·rw [e2,show (31743:Int)=((31743:Nat):Int) from rfl,show (32768:Int)=((32768:Nat):Int) from rfl,u64_and_nat _ _ (by omega) (by omega),u64_and_nat _ _ (by omega) (by omega),u64_or_nat _ _ (by omega) (by omega)]
theorem single_bits (n:Nat) (hn:n < 1073741824):∃ v:Nat,v < 4294967296∧Fl.nanS v=false∧bits .and .u64 (n:Int) 2139095039=(v:Int):=by
 refine ⟨n &&& 2139095039,Nat.lt_of_le_of_lt Nat.and_le_right (by omega),?_,?_⟩
 ·have hb:(n &&& 2139095039).testBit 23=false:=by
   rw [Nat.testBit_and,show Nat.testBit 2139095039 23=false from by decide];simp
  generalize n &&& 2139095039=v at hb;rw [Nat.testBit_eq_decide_div_mod_eq] at hb;have hb2:=of_decide_eq_false hb;unfold Fl.nanS;have:(v / 8388608 % 256==255)=false:=by simp;omega
  rw [this];rfl
 ·rw [show (2139095039:Int)=((2139095039:Nat):Int) from rfl,u64_and_nat _ _ (by omega) (by omega)]
structure DW (b:Nat) (w W:World):Prop where
 deck:Deck W b
 but:But b w W
 lt:b < w.heap.size
theorem DW.start {b:Nat} {w:World} (h:Deck w b):DW b w w:=⟨h,But.refl _ _,h.lt⟩
theorem DW.down {b n:Nat} {w W W':World} (h:DW b w W) (hB:Below n W W') (hn:w.heap.size≤n):DW b w W':=
 ⟨h.deck.keep fun j hj=>hB.block j (by have:=h.lt;omega),⟨hB.os.trans h.but.os,hB.tape.trans h.but.tape,hB.output.trans h.but.output,Nat.le_trans h.but.size hB.size,fun k hk hb=>(hB.block k (by omega)).trans (h.but.block k hk hb)⟩,h.lt⟩
theorem DW.next {b:Nat} {w W W':World} (h:DW b w W) (hD:Deck W' b) (hB:But b W W'):DW b w W':=⟨hD,h.but.trans hB,h.lt⟩
theorem OwnB.but {b base:Nat} {W W':World} {v:Value} {l:List UInt8} (h:OwnB W base v l) (hB:But b W W') (hb:b < base):OwnB W' base v l:=
 own_keep h fun g hg=>hB.block g (olt h hg).1 (by have:=olt h hg;omega)
theorem OutI.deck {b base:Nat} {Q:Nat→Prop} {W W':World} {v:Value} {es:List (It × Ad)} (h:OutI W base Q v es) (hB:But b W W') (hb:b < base) (hQ:∀ q,Q q→q≠b):OutI W' base Q v es:=
 h.keep (fun g hg=>hB.block g (olt h.row hg).1 (by have:=olt h.row hg;omega)) fun q hq hl=>hB.block q hl (hQ q hq)
end Go.Proofs.YtelefkkkccilaaaDoor
