/- Floats over whole numbers: narrowing and widening, and what the model's conversions give. Data items, their encodings, which of them are valid, and how bytes are read: plain functions. What is read is what was encoded: reading is sound and complete. Reading whole items is sound and complete. What the checker of items counts. What the reference counts when it looks whether an item is valid. Pairs that are sorted by their keys, and the maps that are built of them. The texts of the decks are valid, and when two items are the same. Finding in maps, plainly. -/
import Ieee.Word
import Derived.Lib.ValidU
import Derived.Lib.ValidLaws
set_option linter.unusedVariables false
set_option linter.unusedSimpArgs false
namespace Go.Proofs.YtelefkkkccilaaaDoor
theorem df {p:Prop} [Decidable p] (h:¬ p):decide p=false:=decide_eq_false h
namespace Fl
set_option maxRecDepth 100000
def isNaN (n:Nat):Bool:=n / 4503599627370496 % 2048==2047 && n % 4503599627370496 !=0
def nan:Nat:=9221120237041090560
def nanH (h:Nat):Bool:=h / 1024 % 32==31 && h % 1024 !=0
def nanS (s:Nat):Bool:=s / 8388608 % 256==255 && s % 8388608 !=0
def narrowS (n:Nat):Option Nat:=
 let s:=n / 9223372036854775808;let e:=n / 4503599627370496 % 2048;let m:=n % 4503599627370496
 if e=2047 then (if m=0 then some (s * 2147483648 + 2139095040) else none)
 else if e=0 then (if m=0 then some (s * 2147483648) else none)
 else if 1151≤e then none
 else if 897≤e then (if m % 536870912=0 then some (s * 2147483648 + (e - 896) * 8388608 + m / 536870912) else none)
 else if e < 874 then none
 else if (m + 4503599627370496) % 2 ^ (926 - e)=0 then some (s * 2147483648 + (m + 4503599627370496) / 2 ^ (926 - e)) else none
def narrowH (n:Nat):Option Nat:=
 let s:=n / 9223372036854775808;let e:=n / 4503599627370496 % 2048;let m:=n % 4503599627370496
 if e=2047 then (if m=0 then some (s * 32768 + 31744) else none)
 else if e=0 then (if m=0 then some (s * 32768) else none)
 else if 1039≤e then none
 else if 1009≤e then (if m % 4398046511104=0 then some (s * 32768 + (e - 1008) * 1024 + m / 4398046511104) else none)
 else if e < 999 then none
 else if (m + 4503599627370496) % 2 ^ (1051 - e)=0 then some (s * 32768 + (m + 4503599627370496) / 2 ^ (1051 - e)) else none
def widenS (s:Nat):Nat:=
 let g:=s / 2147483648;let x:=s / 8388608 % 256;let m:=s % 8388608
 if x=255 then g * 9223372036854775808 + 9218868437227405312 + m * 536870912
 else if x=0 then (if m=0 then g * 9223372036854775808 else g * 9223372036854775808 + (m.log2 + 874) * 4503599627370496 + (m * 2 ^ (52 - m.log2) - 4503599627370496))
 else g * 9223372036854775808 + (x + 896) * 4503599627370496 + m * 536870912
def widenH (h:Nat):Nat:=
 let g:=h / 32768;let x:=h / 1024 % 32;let m:=h % 1024
 if x=31 then g * 9223372036854775808 + 9218868437227405312 + m * 4398046511104
 else if x=0 then (if m=0 then g * 9223372036854775808 else g * 9223372036854775808 + (m.log2 + 999) * 4503599627370496 + (m * 2 ^ (52 - m.log2) - 4503599627370496))
 else g * 9223372036854775808 + (x + 1008) * 4503599627370496 + m * 4398046511104
def halfP (s:Nat):Option Nat:=
 let g:=s / 2147483648 * 32768;let e:=s / 8388608 % 256;let m:=s % 8388608
 if e=255 then some (g + 31744)
 else if e=0 then (if m=0 then some g else none)
 else if 113≤e∧e≤142 then (if m % 8192=0 then some (g + (e - 112) * 1024 + m / 8192) else none)
 else if 103≤e∧e < 113 then (if (m + 8388608) % 2 ^ (126 - e)=0 then some (g + (m + 8388608) / 2 ^ (126 - e)) else none)
 else none
theorem two_pow_split {a b:Nat} (h:b≤a):2 ^ a=2 ^ (a - b) * 2 ^ b:=by rw [← Nat.pow_add,Nat.sub_add_cancel h]
theorem log2_of {q k:Nat} (h1:2 ^ k≤q) (h2:q < 2 ^ (k + 1)):q.log2=k:=by
 have h0:q≠0:=by have:=Nat.two_pow_pos k;omega
 have a:=(Nat.le_log2 h0).2 h1;have b:=(Nat.log2_lt h0).2 h2;omega
theorem log2_bd {q:Nat} (h:q≠0):2 ^ q.log2≤q∧q < 2 ^ (q.log2 + 1):=⟨Nat.log2_self_le h,Nat.lt_log2_self⟩
theorem unit_log {full j:Nat} (hl:4503599627370496≤full) (hu:full < 9007199254740992) (hj:j≤52) (hd:full % 2 ^ j=0):(full / 2 ^ j).log2=52 - j∧full / 2 ^ j * 2 ^ j=full∧2 ^ (52 - j)≤full / 2 ^ j∧full / 2 ^ j < 2 ^ (53 - j):=by
 have e1:full / 2 ^ j * 2 ^ j=full:=Nat.div_mul_cancel (Nat.dvd_of_mod_eq_zero hd);have p:0 < 2 ^ j:=Nat.two_pow_pos j;have e2:(4503599627370496:Nat)=2 ^ (52 - j) * 2 ^ j:=by rw [← two_pow_split hj]
 have e3:(9007199254740992:Nat)=2 ^ (53 - j) * 2 ^ j:=by rw [← two_pow_split (by omega)]
 have h1:2 ^ (52 - j)≤full / 2 ^ j:=by rw [Nat.le_div_iff_mul_le p,← e2];exact hl
 have h2:full / 2 ^ j < 2 ^ (53 - j):=by rw [Nat.div_lt_iff_lt_mul p,← e3];exact hu
 refine ⟨log2_of h1 ?_,e1,h1,h2⟩;have:52 - j + 1=53 - j:=by omega
 rw [this];exact h2
theorem narrowS_widen {n s:Nat} (hn:n < 18446744073709551616) (h:narrowS n=some s):widenS s=n∧s < 4294967296∧nanS s=false:=by
 unfold narrowS at h
 dsimp only at h
 generalize hg:n / 9223372036854775808=g at h;generalize he:n / 4503599627370496 % 2048=e at h;generalize hm:n % 4503599627370496=m at h;have hmm:m < 4503599627370496:=by omega
 have hee:e < 2048:=by omega
 have hgg:g < 2:=by omega
 have hN:n=g * 9223372036854775808 + e * 4503599627370496 + m:=by omega
 clear hg he hm hn;subst hN
 split at h
 ·split at h
  ·cases h
   have a1:(g * 2147483648 + 2139095040) / 2147483648=g:=by omega
   have a2:(g * 2147483648 + 2139095040) / 8388608 % 256=255:=by omega
   have a3:(g * 2147483648 + 2139095040) % 8388608=0:=by omega
   refine ⟨?_,(by omega),?_⟩
   ·unfold widenS;simp only [a1,a2,a3,if_true];omega
   ·unfold nanS;simp only [a2,a3];rfl
  ·cases h
 split at h
 ·split at h
  ·cases h
   have a1:(g * 2147483648) / 2147483648=g:=by omega
   have a2:(g * 2147483648) / 8388608 % 256=0:=by omega
   have a3:(g * 2147483648) % 8388608=0:=by omega
   refine ⟨?_,(by omega),?_⟩
   ·unfold widenS;simp only [a1,a2,a3,if_true];rw [if_neg (by omega)];omega
   ·unfold nanS;simp only [a2,a3];rfl
  ·cases h
 split at h
 ·cases h
 split at h
 ·split at h
  ·rename_i hz
   cases h
   have hq:m / 536870912 < 8388608:=by omega
   have hq2:m=m / 536870912 * 536870912:=by omega
   generalize m / 536870912=q at *;have a1:(g * 2147483648 + (e - 896) * 8388608 + q) / 2147483648=g:=by omega
   have a2:(g * 2147483648 + (e - 896) * 8388608 + q) / 8388608 % 256=e - 896:=by omega
   have a3:(g * 2147483648 + (e - 896) * 8388608 + q) % 8388608=q:=by omega
   refine ⟨?_,(by omega),?_⟩
   ·unfold widenS;simp only [a1,a2,a3];rw [if_neg (by omega),if_neg (by omega)];omega
   ·unfold nanS;simp only [a2,a3];rw [show (e - 896==255)=false from by simp;omega];rfl
  ·cases h
 split at h
 ·cases h
 split at h
 ·rename_i hz
  cases h
  obtain ⟨u1,u2,u3,u4⟩:=unit_log (full:=m + 4503599627370496) (by omega) (by omega) (j:=926 - e) (by omega) hz;generalize (m + 4503599627370496) / 2 ^ (926 - e)=q at *;have hq:q < 8388608:=by
   have:2 ^ (53 - (926 - e))≤2 ^ 23:=Nat.pow_le_pow_right (by omega) (by omega);omega
  have hq0:q≠0:=by have:=Nat.two_pow_pos (52 - (926 - e));omega
  have a1:(g * 2147483648 + q) / 2147483648=g:=by omega
  have a2:(g * 2147483648 + q) / 8388608 % 256=0:=by omega
  have a3:(g * 2147483648 + q) % 8388608=q:=by omega
  refine ⟨?_,(by omega),?_⟩
  ·unfold widenS;simp only [a1,a2,a3]
   rw [if_neg (by omega),if_pos trivial,if_neg hq0,u1];have e1:52 - (52 - (926 - e))=926 - e:=by omega
   rw [e1,u2];omega
  ·unfold nanS;simp only [a2,a3];rfl
 ·cases h
theorem aux5 (g x m:Nat):g * 2147483648 + (x + 896 - 896) * 8388608 + m * 536870912 / 536870912=g * 2147483648 + x * 8388608 + m:=by omega
theorem aux6 (q:Nat) (h:q % 8192=0):q * 536870912 % 4398046511104=0:=by
 rw [show (4398046511104:Nat)=8192 * 536870912 from rfl,Nat.mul_mod_mul_right,h]
theorem aux7 (q:Nat) (h:¬ q % 8192=0):¬ q * 536870912 % 4398046511104=0:=by
 rw [show (4398046511104:Nat)=8192 * 536870912 from rfl,Nat.mul_mod_mul_right];omega
theorem aux8 (q g e:Nat) (h:1009≤e):g * 32768 + (e - 896 - 112) * 1024 + q / 8192=g * 32768 + (e - 1008) * 1024 + q * 536870912 / 4398046511104:=by
 rw [show (4398046511104:Nat)=8192 * 536870912 from rfl,Nat.mul_div_mul_right _ _ (by decide)];omega
theorem sub_aux (g k m F:Nat) (hgg:g < 2) (hk:k < 23) (c1:4503599627370496≤F) (c2:F < 9007199254740992) (c3:F % 2 ^ (52 - k)=0) (c4:F / 2 ^ (52 - k)=m) (S:Nat) (hS:S=g * 2147483648 + m):
 narrowS (g * 9223372036854775808 + (k + 874) * 4503599627370496 + (F - 4503599627370496))=some S∧g * 9223372036854775808 + (k + 874) * 4503599627370496 + (F - 4503599627370496) < 18446744073709551616∧isNaN (g * 9223372036854775808 + (k + 874) * 4503599627370496 + (F - 4503599627370496))=false:=by
 obtain ⟨r,hr⟩:∃ r,r=F - 4503599627370496:=⟨_,rfl⟩;have hr1:r < 4503599627370496:=by omega
 have hr2:r + 4503599627370496=F:=by omega
 rw [← hr];rw [← hr2] at c3 c4;clear hr hr2 c1 c2;have a1:(g * 9223372036854775808 + (k + 874) * 4503599627370496 + r) / 9223372036854775808=g:=by clear c3 c4;omega
 have a2:(g * 9223372036854775808 + (k + 874) * 4503599627370496 + r) / 4503599627370496 % 2048=k + 874:=by clear c3 c4 a1;omega
 have a3:(g * 9223372036854775808 + (k + 874) * 4503599627370496 + r) % 4503599627370496=r:=by clear c3 c4 a1 a2;omega
 refine ⟨?_,(by clear c3 c4 a1 a2 a3;omega),?_⟩
 ·unfold narrowS;simp only [a1,a2,a3]
  clear a1 a2 a3;rw [if_neg (by omega),if_neg (by omega),if_neg (by omega),if_neg (by omega),if_neg (by omega)];have e1:926 - (k + 874)=52 - k:=by omega
  rw [e1,c3,c4,if_pos rfl,hS]
 ·unfold isNaN;simp only [a2,a3];rw [show (k + 874==2047)=false from by simp;omega];rfl
theorem widenS_narrow {s:Nat} (hs:s < 4294967296) (hN:nanS s=false):narrowS (widenS s)=some s∧widenS s < 18446744073709551616∧isNaN (widenS s)=false:=by
 unfold nanS at hN;unfold widenS
 dsimp only
 generalize hg:s / 2147483648=g;generalize hx:s / 8388608 % 256=x at *;generalize hm:s % 8388608=m at *;have hmm:m < 8388608:=by omega
 have hxx:x < 256:=by omega
 have hgg:g < 2:=by omega
 have hS:s=g * 2147483648 + x * 8388608 + m:=by omega
 clear hg hx hm hs;subst hS;by_cases h1:x=255
 ·subst h1
  have hm0:m=0:=by simpa using hN
  subst hm0;rw [if_pos rfl];have a1:(g * 9223372036854775808 + 9218868437227405312 + 0 * 536870912) / 9223372036854775808=g:=by omega
  have a2:(g * 9223372036854775808 + 9218868437227405312 + 0 * 536870912) / 4503599627370496 % 2048=2047:=by omega
  have a3:(g * 9223372036854775808 + 9218868437227405312 + 0 * 536870912) % 4503599627370496=0:=by omega
  refine ⟨?_,(by omega),?_⟩
  ·unfold narrowS;simp only [a1,a2,a3,if_true]
  ·unfold isNaN;simp only [a2,a3];rfl
 rw [if_neg h1];by_cases h2:x=0
 ·subst h2
  rw [if_pos rfl];by_cases h3:m=0
  ·subst h3
   rw [if_pos rfl];have a1:(g * 9223372036854775808) / 9223372036854775808=g:=by omega
   have a2:(g * 9223372036854775808) / 4503599627370496 % 2048=0:=by omega
   have a3:(g * 9223372036854775808) % 4503599627370496=0:=by omega
   refine ⟨?_,(by omega),?_⟩
   ·unfold narrowS;simp only [a1,a2,a3,if_true];rw [if_neg (by omega)];exact congrArg some (by omega)
   ·unfold isNaN;simp only [a2,a3];rfl
  ·rw [if_neg h3]
   obtain ⟨b1,b2⟩:=log2_bd h3;have hk:m.log2 < 23:=(Nat.log2_lt h3).2 (by simpa using hmm);generalize m.log2=k at *;have hp:0 < 2 ^ (52 - k):=Nat.two_pow_pos _;have c1:4503599627370496≤m * 2 ^ (52 - k):=by
    have:(4503599627370496:Nat)=2 ^ k * 2 ^ (52 - k):=by rw [← Nat.pow_add,show k + (52 - k)=52 from by omega]
    rw [this];exact Nat.mul_le_mul_right _ b1
   have c2:m * 2 ^ (52 - k) < 9007199254740992:=by
    have:(9007199254740992:Nat)=2 ^ (k + 1) * 2 ^ (52 - k):=by rw [← Nat.pow_add,show k + 1 + (52 - k)=53 from by omega]
    rw [this];exact Nat.mul_lt_mul_of_pos_right b2 hp
   have c3:m * 2 ^ (52 - k) % 2 ^ (52 - k)=0:=Nat.mul_mod_left _ _;have c4:m * 2 ^ (52 - k) / 2 ^ (52 - k)=m:=Nat.mul_div_cancel _ hp;exact sub_aux g k m (m * 2 ^ (52 - k)) hgg hk c1 c2 c3 c4 _ (by clear c1 c2 c3 c4 b1 b2;omega)
 ·rw [if_neg h2]
  have a1:(g * 9223372036854775808 + (x + 896) * 4503599627370496 + m * 536870912) / 9223372036854775808=g:=by omega
  have a2:(g * 9223372036854775808 + (x + 896) * 4503599627370496 + m * 536870912) / 4503599627370496 % 2048=x + 896:=by omega
  have a3:(g * 9223372036854775808 + (x + 896) * 4503599627370496 + m * 536870912) % 4503599627370496=m * 536870912:=by omega
  refine ⟨?_,(by omega),?_⟩
  ·unfold narrowS;simp only [a1,a2,a3]
   rw [if_neg (by omega),if_neg (by omega),if_neg (by omega),if_pos (by omega),if_pos (Nat.mul_mod_left _ _)];exact congrArg some (aux5 g x m)
  ·unfold isNaN;simp only [a2,a3];rw [show (x + 896==2047)=false from by simp;omega];rfl
theorem narrowH_widen {n s:Nat} (hn:n < 18446744073709551616) (h:narrowH n=some s):widenH s=n∧s < 65536∧nanH s=false:=by
 unfold narrowH at h
 dsimp only at h
 generalize hg:n / 9223372036854775808=g at h;generalize he:n / 4503599627370496 % 2048=e at h;generalize hm:n % 4503599627370496=m at h;have hmm:m < 4503599627370496:=by omega
 have hee:e < 2048:=by omega
 have hgg:g < 2:=by omega
 have hN:n=g * 9223372036854775808 + e * 4503599627370496 + m:=by omega
 clear hg he hm hn;subst hN
 split at h
 ·split at h
  ·cases h
   have a1:(g * 32768 + 31744) / 32768=g:=by omega
   have a2:(g * 32768 + 31744) / 1024 % 32=31:=by omega
   have a3:(g * 32768 + 31744) % 1024=0:=by omega
   refine ⟨?_,(by omega),?_⟩
   ·unfold widenH;simp only [a1,a2,a3,if_true];omega
   ·unfold nanH;simp only [a2,a3];rfl
  ·cases h
 split at h
 ·split at h
  ·cases h
   have a1:(g * 32768) / 32768=g:=by omega
   have a2:(g * 32768) / 1024 % 32=0:=by omega
   have a3:(g * 32768) % 1024=0:=by omega
   refine ⟨?_,(by omega),?_⟩
   ·unfold widenH;simp only [a1,a2,a3,if_true];rw [if_neg (by omega)];omega
   ·unfold nanH;simp only [a2,a3];rfl
  ·cases h
 split at h
 ·cases h
 split at h
 ·split at h
  ·rename_i hz
   cases h
   have hq:m / 4398046511104 < 1024:=by omega
   have hq2:m=m / 4398046511104 * 4398046511104:=by omega
   generalize m / 4398046511104=q at *;have a1:(g * 32768 + (e - 1008) * 1024 + q) / 32768=g:=by omega
   have a2:(g * 32768 + (e - 1008) * 1024 + q) / 1024 % 32=e - 1008:=by omega
   have a3:(g * 32768 + (e - 1008) * 1024 + q) % 1024=q:=by omega
   refine ⟨?_,(by omega),?_⟩
   ·unfold widenH;simp only [a1,a2,a3];rw [if_neg (by omega),if_neg (by omega)];omega
   ·unfold nanH;simp only [a2,a3];rw [show (e - 1008==31)=false from by simp;omega];rfl
  ·cases h
 split at h
 ·cases h
 split at h
 ·rename_i hz
  cases h
  obtain ⟨u1,u2,u3,u4⟩:=unit_log (full:=m + 4503599627370496) (by omega) (by omega) (j:=1051 - e) (by omega) hz;generalize (m + 4503599627370496) / 2 ^ (1051 - e)=q at *;have hq:q < 1024:=by
   have:2 ^ (53 - (1051 - e))≤2 ^ 10:=Nat.pow_le_pow_right (by omega) (by omega);omega
  have hq0:q≠0:=by have:=Nat.two_pow_pos (52 - (1051 - e));omega
  have a1:(g * 32768 + q) / 32768=g:=by omega
  have a2:(g * 32768 + q) / 1024 % 32=0:=by omega
  have a3:(g * 32768 + q) % 1024=q:=by omega
  refine ⟨?_,(by omega),?_⟩
  ·unfold widenH;simp only [a1,a2,a3]
   rw [if_neg (by omega),if_pos trivial,if_neg hq0,u1];have e1:52 - (52 - (1051 - e))=1051 - e:=by omega
   rw [e1,u2];omega
  ·unfold nanH;simp only [a2,a3];rfl
 ·cases h
theorem aux5H (g x m:Nat):g * 32768 + (x + 1008 - 1008) * 1024 + m * 4398046511104 / 4398046511104=g * 32768 + x * 1024 + m:=by omega
theorem sub_auxH (g k m F:Nat) (hgg:g < 2) (hk:k < 10) (c1:4503599627370496≤F) (c2:F < 9007199254740992) (c3:F % 2 ^ (52 - k)=0) (c4:F / 2 ^ (52 - k)=m) (S:Nat) (hS:S=g * 32768 + m):
 narrowH (g * 9223372036854775808 + (k + 999) * 4503599627370496 + (F - 4503599627370496))=some S∧g * 9223372036854775808 + (k + 999) * 4503599627370496 + (F - 4503599627370496) < 18446744073709551616∧isNaN (g * 9223372036854775808 + (k + 999) * 4503599627370496 + (F - 4503599627370496))=false:=by
 obtain ⟨r,hr⟩:∃ r,r=F - 4503599627370496:=⟨_,rfl⟩;have hr1:r < 4503599627370496:=by omega
 have hr2:r + 4503599627370496=F:=by omega
 rw [← hr];rw [← hr2] at c3 c4;clear hr hr2 c1 c2;have a1:(g * 9223372036854775808 + (k + 999) * 4503599627370496 + r) / 9223372036854775808=g:=by clear c3 c4;omega
 have a2:(g * 9223372036854775808 + (k + 999) * 4503599627370496 + r) / 4503599627370496 % 2048=k + 999:=by clear c3 c4 a1;omega
 have a3:(g * 9223372036854775808 + (k + 999) * 4503599627370496 + r) % 4503599627370496=r:=by clear c3 c4 a1 a2;omega
 refine ⟨?_,(by clear c3 c4 a1 a2 a3;omega),?_⟩
 ·unfold narrowH;simp only [a1,a2,a3]
  clear a1 a2 a3;rw [if_neg (by omega),if_neg (by omega),if_neg (by omega),if_neg (by omega),if_neg (by omega)];have e1:1051 - (k + 999)=52 - k:=by omega
  rw [e1,c3,c4,if_pos rfl,hS]
 ·unfold isNaN;simp only [a2,a3];rw [show (k + 999==2047)=false from by simp;omega];rfl
theorem widenH_narrow {s:Nat} (hs:s < 65536) (hN:nanH s=false):narrowH (widenH s)=some s∧widenH s < 18446744073709551616∧isNaN (widenH s)=false:=by
 unfold nanH at hN;unfold widenH
 dsimp only
 generalize hg:s / 32768=g;generalize hx:s / 1024 % 32=x at *;generalize hm:s % 1024=m at *;have hmm:m < 1024:=by omega
 have hxx:x < 32:=by omega
 have hgg:g < 2:=by omega
 have hS:s=g * 32768 + x * 1024 + m:=by omega
 clear hg hx hm hs;subst hS;by_cases h1:x=31
 ·subst h1
  have hm0:m=0:=by simpa using hN
  subst hm0;rw [if_pos rfl];have a1:(g * 9223372036854775808 + 9218868437227405312 + 0 * 4398046511104) / 9223372036854775808=g:=by omega
  have a2:(g * 9223372036854775808 + 9218868437227405312 + 0 * 4398046511104) / 4503599627370496 % 2048=2047:=by omega
  have a3:(g * 9223372036854775808 + 9218868437227405312 + 0 * 4398046511104) % 4503599627370496=0:=by omega
  refine ⟨?_,(by omega),?_⟩
  ·unfold narrowH;simp only [a1,a2,a3,if_true]
  ·unfold isNaN;simp only [a2,a3];rfl
 rw [if_neg h1];by_cases h2:x=0
 ·subst h2
  rw [if_pos rfl];by_cases h3:m=0
  ·subst h3
   rw [if_pos rfl];have a1:(g * 9223372036854775808) / 9223372036854775808=g:=by omega
   have a2:(g * 9223372036854775808) / 4503599627370496 % 2048=0:=by omega
   have a3:(g * 9223372036854775808) % 4503599627370496=0:=by omega
   refine ⟨?_,(by omega),?_⟩
   ·unfold narrowH;simp only [a1,a2,a3,if_true];rw [if_neg (by omega)];exact congrArg some (by omega)
   ·unfold isNaN;simp only [a2,a3];rfl
  ·rw [if_neg h3]
   obtain ⟨b1,b2⟩:=log2_bd h3;have hk:m.log2 < 10:=(Nat.log2_lt h3).2 (by simpa using hmm);generalize m.log2=k at *;have hp:0 < 2 ^ (52 - k):=Nat.two_pow_pos _;have c1:4503599627370496≤m * 2 ^ (52 - k):=by
    have:(4503599627370496:Nat)=2 ^ k * 2 ^ (52 - k):=by rw [← Nat.pow_add,show k + (52 - k)=52 from by omega]
    rw [this];exact Nat.mul_le_mul_right _ b1
   have c2:m * 2 ^ (52 - k) < 9007199254740992:=by
    have:(9007199254740992:Nat)=2 ^ (k + 1) * 2 ^ (52 - k):=by rw [← Nat.pow_add,show k + 1 + (52 - k)=53 from by omega]
    rw [this];exact Nat.mul_lt_mul_of_pos_right b2 hp
   have c3:m * 2 ^ (52 - k) % 2 ^ (52 - k)=0:=Nat.mul_mod_left _ _;have c4:m * 2 ^ (52 - k) / 2 ^ (52 - k)=m:=Nat.mul_div_cancel _ hp;exact sub_auxH g k m (m * 2 ^ (52 - k)) hgg hk c1 c2 c3 c4 _ (by clear c1 c2 c3 c4 b1 b2;omega)
 ·rw [if_neg h2]
  have a1:(g * 9223372036854775808 + (x + 1008) * 4503599627370496 + m * 4398046511104) / 9223372036854775808=g:=by omega
  have a2:(g * 9223372036854775808 + (x + 1008) * 4503599627370496 + m * 4398046511104) / 4503599627370496 % 2048=x + 1008:=by omega
  have a3:(g * 9223372036854775808 + (x + 1008) * 4503599627370496 + m * 4398046511104) % 4503599627370496=m * 4398046511104:=by omega
  refine ⟨?_,(by omega),?_⟩
  ·unfold narrowH;simp only [a1,a2,a3]
   rw [if_neg (by omega),if_neg (by omega),if_neg (by omega),if_pos (by omega),if_pos (Nat.mul_mod_left _ _)];exact congrArg some (aux5H g x m)
  ·unfold isNaN;simp only [a2,a3];rw [show (x + 1008==2047)=false from by simp;omega];rfl
theorem half_narrow {n s:Nat} (hn:n < 18446744073709551616) (h:narrowS n=some s):halfP s=narrowH n:=by
 unfold narrowS at h;unfold narrowH
 dsimp only at h ⊢
 generalize hg:n / 9223372036854775808=g at *;generalize he:n / 4503599627370496 % 2048=e at *;generalize hm:n % 4503599627370496=m at *;have hmm:m < 4503599627370496:=by omega
 have hee:e < 2048:=by omega
 have hgg:g < 2:=by omega
 clear hg he hm hn
 split at h
 ·rename_i h1;subst h1
  split at h
  ·rename_i hz
   cases h
   have a1:(g * 2147483648 + 2139095040) / 2147483648=g:=by omega
   have a2:(g * 2147483648 + 2139095040) / 8388608 % 256=255:=by omega
   rw [if_pos rfl,if_pos hz];unfold halfP;simp only [a1,a2,if_true]
  ·cases h
 rename_i h1;rw [if_neg h1]
 split at h
 ·rename_i h2;subst h2
  split at h
  ·rename_i hz
   cases h
   have a1:(g * 2147483648) / 2147483648=g:=by omega
   have a2:(g * 2147483648) / 8388608 % 256=0:=by omega
   have a3:(g * 2147483648) % 8388608=0:=by omega
   rw [if_pos rfl,if_pos hz];unfold halfP;simp only [a1,a2,a3,if_true];rw [if_neg (by omega)]
  ·cases h
 rename_i h2;rw [if_neg h2]
 split at h
 ·cases h
 rename_i h3
 split at h
 ·rename_i h4
  split at h
  ·rename_i hz
   cases h
   have hq:m / 536870912 < 8388608:=by omega
   have hq2:m=m / 536870912 * 536870912:=by omega
   generalize m / 536870912=q at *;clear hz;subst hq2;have a1:(g * 2147483648 + (e - 896) * 8388608 + q) / 2147483648=g:=by omega
   have a2:(g * 2147483648 + (e - 896) * 8388608 + q) / 8388608 % 256=e - 896:=by omega
   have a3:(g * 2147483648 + (e - 896) * 8388608 + q) % 8388608=q:=by omega
   unfold halfP;simp only [a1,a2,a3];rw [if_neg (by omega),if_neg (by omega)];by_cases b1:1039≤e
   ·rw [if_pos b1,if_neg (by omega),if_neg (by omega)]
   rw [if_neg b1];by_cases b2:1009≤e
   ·rw [if_pos (by omega),if_pos b2]
    by_cases b3:q % 8192=0
    ·rw [if_pos b3,if_pos (aux6 q b3)];exact congrArg some (aux8 q g e b2)
    ·rw [if_neg b3,if_neg (aux7 q b3)]
   rw [if_neg (by omega),if_neg b2];by_cases b3:e < 999
   ·rw [if_pos b3,if_neg (by omega)]
   ·rw [if_neg b3,if_pos (by omega)]
    have e1:126 - (e - 896)=1022 - e:=by omega
    have e2:q * 536870912 + 4503599627370496=(q + 8388608) * 536870912:=by omega
    have e3:(2:Nat) ^ (1051 - e)=2 ^ (1022 - e) * 536870912:=by
     rw [show 1051 - e=1022 - e + 29 from by omega,Nat.pow_add]
    rw [e1,e2,e3,Nat.mul_mod_mul_right,Nat.mul_div_mul_right _ _ (by omega)];by_cases b4:(q + 8388608) % 2 ^ (1022 - e)=0
    ·rw [if_pos b4,if_pos (by rw [b4])]
    ·rw [if_neg b4,if_neg (by clear a1 a2 a3 e2 e3;omega)]
  ·cases h
 rename_i h4
 split at h
 ·cases h
 rename_i h5
 split at h
 ·rename_i hz
  cases h
  obtain ⟨u1,u2,u3,u4⟩:=unit_log (full:=m + 4503599627370496) (by omega) (by omega) (j:=926 - e) (by omega) hz;generalize (m + 4503599627370496) / 2 ^ (926 - e)=q at *;have hq:q < 8388608:=by
   have:2 ^ (53 - (926 - e))≤2 ^ 23:=Nat.pow_le_pow_right (by omega) (by omega);omega
  have hq0:q≠0:=by have:=Nat.two_pow_pos (52 - (926 - e));omega
  have a1:(g * 2147483648 + q) / 2147483648=g:=by omega
  have a2:(g * 2147483648 + q) / 8388608 % 256=0:=by omega
  have a3:(g * 2147483648 + q) % 8388608=q:=by omega
  unfold halfP;simp only [a1,a2,a3];rw [if_neg (by omega),if_pos trivial,if_neg hq0,if_neg (by omega),if_neg (by omega),if_pos (by omega)]
 ·cases h
theorem narrow_none {n:Nat} (h:narrowS n=none) (hN:isNaN n=false):narrowH n=none:=by
 unfold isNaN at hN;unfold narrowS at h;unfold narrowH
 dsimp only at h ⊢
 generalize hg:n / 9223372036854775808=g at *;generalize he:n / 4503599627370496 % 2048=e at *;generalize hm:n % 4503599627370496=m at *;have hmm:m < 4503599627370496:=by omega
 have hee:e < 2048:=by omega
 clear hg he hm
 split at h
 ·rename_i h1;subst h1
  split at h
  ·cases h
  ·rename_i hz;rw [if_pos rfl,if_neg hz]
 rename_i h1;rw [if_neg h1]
 split at h
 ·rename_i h2;subst h2
  split at h
  ·cases h
  ·rename_i hz;rw [if_pos rfl,if_neg hz]
 rename_i h2;rw [if_neg h2]
 split at h
 ·rename_i h3;rw [if_pos (by omega)]
 rename_i h3
 split at h
 ·rename_i h4
  split at h
  ·cases h
  ·rename_i hz
   by_cases b1:1039≤e
   ·rw [if_pos b1]
   rw [if_neg b1];by_cases b2:1009≤e
   ·rw [if_pos b2,if_neg (by omega)]
   rw [if_neg b2];by_cases b3:e < 999
   ·rw [if_pos b3]
   ·rw [if_neg b3]
    have e3:(2:Nat) ^ (1051 - e)=536870912 * 2 ^ (1022 - e):=by
     rw [show 1051 - e=29 + (1022 - e) from by omega,Nat.pow_add]
    rw [if_neg];intro hd;have h6:2 ^ (1051 - e) ∣ m + 4503599627370496:=Nat.dvd_of_mod_eq_zero hd;have h7:536870912 ∣ m + 4503599627370496:=Nat.dvd_trans ⟨_,e3⟩ h6;omega
 rename_i h4
 split at h
 ·rw [if_neg (by omega),if_neg (by omega),if_pos (by omega)]
 split at h
 ·cases h
 ·rw [if_neg (by omega),if_neg (by omega),if_pos (by omega)]
/-! ### The model's conversions -/
theorem cut_exact {n j:Nat} {neg:Bool} (hl:4503599627370496≤n) (hj:j≤52) (hd:n % 2 ^ j=0):Ieee.Toward.even.cut neg n j=n / 2 ^ j:=by
 have h0:n≠0:=by omega
 have hk:52≤n.log2:=(Nat.le_log2 h0).2 (by simpa using hl);unfold Ieee.Toward.cut;have e1:min j (n.log2 + 2)=j:=by omega
 simp only [e1,Nat.one_shiftLeft,hd];have p:0 < 2 ^ j:=Nat.two_pow_pos j;have b1:decide (2 ^ j < 2 * 0)=false:=by simp
 have b2:(2 ^ j==2 * 0)=false:=by simp
 simp [b1,b2]
theorem cut_none {n:Nat} {neg:Bool}:Ieee.Toward.even.cut neg n 0=n:=by
 unfold Ieee.Toward.cut;have e1:min 0 (n.log2 + 2)=0:=by omega
 simp only [e1,Nat.shiftLeft_zero,Nat.div_one,Nat.mod_one];simp
theorem nearest_at (f:Ieee.Format) (neg:Bool) (mag:Nat) (place L:Int) (hm:mag≠0) (hL:max (place + mag.log2 - f.fractionBits) f.leastPlace=L):
 f.nearest neg mag place=f.word neg (min ((L - f.leastPlace).toNat * f.binade + Ieee.Toward.even.cut neg (mag <<< (place - L).toNat) (L - place).toNat) f.infRung):=by
 unfold Ieee.Format.nearest;rw [if_neg hm];simp only [hL]
theorem s1:Ieee.single.signWeight=2147483648:=by decide
theorem s2:Ieee.single.binade=8388608:=by decide
theorem s3:Ieee.single.infRung=2139095040:=by decide
theorem s4:Ieee.single.leastPlace= -149:=by decide
theorem s5:Ieee.single.fractionBits=23:=rfl
theorem d1:Ieee.double.signWeight=9223372036854775808:=by decide
theorem d2:Ieee.double.binade=4503599627370496:=by decide
theorem d3:Ieee.double.infRung=9218868437227405312:=by decide
theorem d4:Ieee.double.leastPlace= -1074:=by decide
theorem d5:Ieee.double.fractionBits=52:=rfl
theorem wordD (g:Nat) (hg:g < 2) (r:Nat):Ieee.double.word (g % 2==1) r=g * 9223372036854775808 + r:=by
 unfold Ieee.Format.word;rw [d1];rcases (show g=0∨g=1 from by omega) with rfl | rfl <;> simp
theorem wordS (g:Nat) (hg:g < 2) (r:Nat):Ieee.single.word (g % 2==1) r=g * 2147483648 + r:=by
 unfold Ieee.Format.word;rw [s1];rcases (show g=0∨g=1 from by omega) with rfl | rfl <;> simp
theorem readD (g e m:Nat) (hg:g < 2) (he:e < 2048) (hm:m < 4503599627370496):
 Ieee.double.read (g * 9223372036854775808 + e * 4503599627370496 + m)=if e=0 then .number (g % 2==1) m (-1074) else if e < 2047 then .number (g % 2==1) (m + 4503599627370496) ((e:Int) - 1075) else if m=0 then .infinity (g % 2==1) else .nan (g % 2==1) m:=by
 unfold Ieee.Format.read;simp only [d1,d2,d3,d4];have a1:(g * 9223372036854775808 + e * 4503599627370496 + m) / 9223372036854775808=g:=by omega
 have a2:(g * 9223372036854775808 + e * 4503599627370496 + m) % 9223372036854775808=e * 4503599627370496 + m:=by clear a1;omega
 have a3:(e * 4503599627370496 + m) % 4503599627370496=m:=by clear a1 a2;omega
 have a4:(e * 4503599627370496 + m) / 4503599627370496=e:=by clear a1 a2 a3;omega
 rw [a1,a2,a3,a4];clear a1 a2 a3 a4;by_cases h0:e=0
 ·subst h0
  rw [if_pos (by omega),if_pos rfl,Nat.zero_mul,Nat.zero_add]
 rw [if_neg (by omega),if_neg h0];by_cases h1:e < 2047
 ·rw [if_pos (by omega),if_pos h1,Nat.add_comm m]
  congr 1
  omega
 ·obtain rfl:e=2047:=by omega
  rw [if_neg (by omega),if_neg h1];by_cases h2:m=0
  ·subst h2;rw [if_pos (by omega),if_pos rfl]
  ·rw [if_neg (by omega),if_neg h2,show 2047 * 4503599627370496 + m - 9218868437227405312=m from by omega]
theorem readS (g e m:Nat) (hg:g < 2) (he:e < 256) (hm:m < 8388608):
 Ieee.single.read (g * 2147483648 + e * 8388608 + m)=if e=0 then .number (g % 2==1) m (-149) else if e < 255 then .number (g % 2==1) (m + 8388608) ((e:Int) - 150) else if m=0 then .infinity (g % 2==1) else .nan (g % 2==1) m:=by
 unfold Ieee.Format.read;simp only [s1,s2,s3,s4];have a1:(g * 2147483648 + e * 8388608 + m) / 2147483648=g:=by omega
 have a2:(g * 2147483648 + e * 8388608 + m) % 2147483648=e * 8388608 + m:=by clear a1;omega
 have a3:(e * 8388608 + m) % 8388608=m:=by clear a1 a2;omega
 have a4:(e * 8388608 + m) / 8388608=e:=by clear a1 a2 a3;omega
 rw [a1,a2,a3,a4];clear a1 a2 a3 a4;by_cases h0:e=0
 ·subst h0
  rw [if_pos (by omega),if_pos rfl,Nat.zero_mul,Nat.zero_add]
 rw [if_neg (by omega),if_neg h0];by_cases h1:e < 255
 ·rw [if_pos (by omega),if_pos h1,Nat.add_comm m]
  congr 1
  omega
 ·obtain rfl:e=255:=by omega
  rw [if_neg (by omega),if_neg h1];by_cases h2:m=0
  ·subst h2;rw [if_pos (by omega),if_pos rfl]
  ·rw [if_neg (by omega),if_neg h2,show 255 * 8388608 + m - 2139095040=m from by omega]
theorem double_of_single {s:Nat} (hs:s < 4294967296) (hN:nanS s=false):Ieee.double.write (Ieee.single.read s)=widenS s:=by
 unfold nanS at hN;unfold widenS
 dsimp only
 generalize hg:s / 2147483648=g;generalize hx:s / 8388608 % 256=x at *;generalize hm:s % 8388608=m at *;have hmm:m < 8388608:=by omega
 have hxx:x < 256:=by omega
 have hgg:g < 2:=by omega
 have hS:s=g * 2147483648 + x * 8388608 + m:=by omega
 clear hg hx hm hs;subst hS;rw [readS g x m hgg hxx hmm];by_cases h2:x=0
 ·subst h2
  rw [if_pos rfl,if_neg (by omega),if_pos rfl]
  show Ieee.double.nearest _ _ _=_
  by_cases h3:m=0
  ·subst h3
   rw [if_pos rfl];unfold Ieee.Format.nearest;rw [if_pos rfl,wordD g hgg,Nat.add_zero]
  ·rw [if_neg h3]
   obtain ⟨b1,b2⟩:=log2_bd h3;have hk:m.log2 < 23:=(Nat.log2_lt h3).2 (by simpa using hmm);rw [nearest_at Ieee.double _ m (-149) (m.log2 - 201) h3 (by rw [d4,d5];omega),d4,d2,d3,wordD g hgg];generalize m.log2=k at *;have e1:((-149:Int) - ((k:Int) - 201)).toNat=52 - k:=by omega
   have e2:(((k:Int) - 201) - -149).toNat=0:=by omega
   have e3:(((k:Int) - 201) - -1074).toNat=k + 873:=by omega
   rw [e1,e2,e3,cut_none,Nat.shiftLeft_eq];have hp:0 < 2 ^ (52 - k):=Nat.two_pow_pos _;have c1:4503599627370496≤m * 2 ^ (52 - k):=by
    have:(4503599627370496:Nat)=2 ^ k * 2 ^ (52 - k):=by rw [← Nat.pow_add,show k + (52 - k)=52 from by omega]
    rw [this];exact Nat.mul_le_mul_right _ b1
   have c2:m * 2 ^ (52 - k) < 9007199254740992:=by
    have:(9007199254740992:Nat)=2 ^ (k + 1) * 2 ^ (52 - k):=by rw [← Nat.pow_add,show k + 1 + (52 - k)=53 from by omega]
    rw [this];exact Nat.mul_lt_mul_of_pos_right b2 hp
   have key:∀ F:Nat,4503599627370496≤F→F < 9007199254740992→g * 9223372036854775808 + min ((k + 873) * 4503599627370496 + F) 9218868437227405312=g * 9223372036854775808 + (k + 874) * 4503599627370496 + (F - 4503599627370496):=by
    intro F u v;rw [Nat.min_eq_left (by omega)];omega
   exact key _ c1 c2
 ·rw [if_neg h2]
  by_cases h1:x=255
  ·subst h1
   have hm0:m=0:=by simpa using hN
   subst hm0;rw [if_neg (by omega),if_pos rfl,if_pos rfl]
   show Ieee.double.word _ _=_
   rw [wordD g hgg,d3,Nat.zero_mul,Nat.add_zero]
  ·rw [if_pos (by omega),if_neg h1,if_neg h2]
   show Ieee.double.nearest _ _ _=_
   have hl:(m + 8388608).log2=23:=log2_of (by omega) (by omega);rw [nearest_at Ieee.double _ (m + 8388608) (x - 150) (x - 179) (by omega) (by rw [d4,d5,hl];omega),d4,d2,d3,wordD g hgg];have e1:(((x:Int) - 150) - ((x:Int) - 179)).toNat=29:=by omega
   have e2:(((x:Int) - 179) - ((x:Int) - 150)).toNat=0:=by omega
   have e3:(((x:Int) - 179) - -1074).toNat=x + 895:=by omega
   rw [e1,e2,e3,cut_none,Nat.shiftLeft_eq];have key:g * 9223372036854775808 + min ((x + 895) * 4503599627370496 + (m + 8388608) * 536870912) 9218868437227405312=g * 9223372036854775808 + (x + 896) * 4503599627370496 + m * 536870912:=by
    rw [Nat.min_eq_left (by omega)];omega
   exact key
theorem single_of_double {n s:Nat} (hn:n < 18446744073709551616) (h:narrowS n=some s):Ieee.single.write (Ieee.double.read n)=s:=by
 unfold narrowS at h
 dsimp only at h
 generalize hg:n / 9223372036854775808=g at h;generalize he:n / 4503599627370496 % 2048=e at h;generalize hm:n % 4503599627370496=m at h;have hmm:m < 4503599627370496:=by omega
 have hee:e < 2048:=by omega
 have hgg:g < 2:=by omega
 have hN:n=g * 9223372036854775808 + e * 4503599627370496 + m:=by omega
 clear hg he hm hn;subst hN;rw [readD g e m hgg hee hmm]
 split at h
 ·rename_i h1;subst h1
  split at h
  ·rename_i hz
   cases h
   rw [if_neg (by omega),if_neg (by omega),if_pos hz]
   show Ieee.single.word _ _=_
   rw [wordS g hgg,s3]
  ·cases h
 rename_i h1
 split at h
 ·rename_i h2;subst h2
  split at h
  ·rename_i hz
   subst hz;cases h
   rw [if_pos rfl]
   show Ieee.single.nearest _ _ _=_
   unfold Ieee.Format.nearest;rw [if_pos rfl,wordS g hgg,Nat.add_zero]
  ·cases h
 rename_i h2
 split at h
 ·cases h
 rename_i h3
 rw [if_neg h2,if_pos (by omega)];have hl:(m + 4503599627370496).log2=52:=log2_of (by omega) (by omega)
 split at h
 ·rename_i h4
  split at h
  ·rename_i hz
   cases h
   show Ieee.single.nearest _ _ _=_
   rw [nearest_at Ieee.single _ (m + 4503599627370496) (e - 1075) (e - 1046) (by omega) (by rw [s4,s5,hl];omega),s4,s2,s3,wordS g hgg];have e1:(((e:Int) - 1075) - ((e:Int) - 1046)).toNat=0:=by omega
   have e2:(((e:Int) - 1046) - ((e:Int) - 1075)).toNat=29:=by omega
   have e3:(((e:Int) - 1046) - -149).toNat=e - 897:=by omega
   rw [e1,e2,e3,Nat.shiftLeft_zero,cut_exact (j:=29) (by omega) (by omega) (by omega)];have key:g * 2147483648 + min ((e - 897) * 8388608 + (m + 4503599627370496) / 536870912) 2139095040=g * 2147483648 + (e - 896) * 8388608 + m / 536870912:=by
    have:(m + 4503599627370496) / 536870912=m / 536870912 + 8388608:=by clear hl;omega
    rw [this];have:m / 536870912 < 8388608:=by omega
    rw [Nat.min_eq_left (by omega)];omega
   exact key
  ·cases h
 rename_i h4
 split at h
 ·cases h
 rename_i h5
 split at h
 ·rename_i hz
  cases h
  obtain ⟨u1,u2,u3,u4⟩:=unit_log (full:=m + 4503599627370496) (by omega) (by omega) (j:=926 - e) (by omega) hz
  show Ieee.single.nearest _ _ _=_
  rw [nearest_at Ieee.single _ (m + 4503599627370496) (e - 1075) (-149) (by omega) (by rw [s4,s5,hl];omega),s4,s2,s3,wordS g hgg];have e1:(((e:Int) - 1075) - (-149)).toNat=0:=by omega
  have e2:((-149:Int) - ((e:Int) - 1075)).toNat=926 - e:=by omega
  have e3:((-149:Int) - -149).toNat=0:=by omega
  rw [e1,e2,e3,Nat.shiftLeft_zero,cut_exact (by omega) (by omega) hz];generalize (m + 4503599627370496) / 2 ^ (926 - e)=q at *;have hq:q < 8388608:=by
   have:2 ^ (53 - (926 - e))≤2 ^ 23:=Nat.pow_le_pow_right (by omega) (by omega);omega
  rw [Nat.zero_mul,Nat.zero_add,Nat.min_eq_left (by omega)]
 ·cases h
theorem read_nan {n:Nat} (hn:n < 18446744073709551616) (h:isNaN n=true):∃ b f,Ieee.double.read n=.nan b f:=by
 unfold isNaN at h;simp only [Bool.and_eq_true,beq_iff_eq,bne_iff_ne,ne_eq] at h;obtain ⟨h1,h2⟩:=h;have hN:n=(n / 9223372036854775808) * 9223372036854775808 + 2047 * 4503599627370496 + n % 4503599627370496:=by omega
 rw [hN,readD _ 2047 _ (by omega) (by omega) (by omega),if_neg (by omega),if_neg (by omega),if_neg h2];exact ⟨_,_,rfl⟩
theorem read_not {n:Nat} (hn:n < 18446744073709551616) (h:isNaN n=false):(Ieee.double.read n).isNaN=false:=by
 unfold isNaN at h;have hN:n=(n / 9223372036854775808) * 9223372036854775808 + (n / 4503599627370496 % 2048) * 4503599627370496 + n % 4503599627370496:=by omega
 rw [hN,readD _ _ _ (by omega) (by omega) (by omega)]
 split
 ·rfl
 split
 ·rfl
 split
 ·rfl
 ·exfalso
  rename_i a b c
  have:n / 4503599627370496 % 2048=2047:=by clear hN h;omega
  rw [this] at h;simp at h;exact c h
theorem read_nanS {s:Nat} (hs:s < 4294967296) (h:nanS s=true):∃ b f,Ieee.single.read s=.nan b f:=by
 unfold nanS at h;simp only [Bool.and_eq_true,beq_iff_eq,bne_iff_ne,ne_eq] at h;obtain ⟨h1,h2⟩:=h;have hN:s=(s / 2147483648) * 2147483648 + 255 * 8388608 + s % 8388608:=by omega
 rw [hN,readS _ 255 _ (by omega) (by omega) (by omega),if_neg (by omega),if_neg (by omega),if_neg h2];exact ⟨_,_,rfl⟩
end Fl
inductive It where
 | mk (kind:Int) (num:Nat) (bytes:List UInt8) (kids:List It)
namespace It
def kind:It→Int | mk k _ _ _=>k
def num:It→Nat | mk _ n _ _=>n
def bytes:It→List UInt8 | mk _ _ b _=>b
def kids:It→List It | mk _ _ _ ks=>ks
theorem eta (x:It):mk x.kind x.num x.bytes x.kids=x:=by cases x;rfl
def none:It:=mk 0 0 [] []
def be:Nat→Nat→List UInt8
 | 0,_=>[]
 | k + 1,n=>UInt8.ofNat (n / 256 ^ k) :: be k n
def unbe (l:List UInt8):Nat:=l.foldl (fun x c=>x * 256 + c.toNat) 0
def head (m n:Nat):List UInt8:=
 if n < 24 then [UInt8.ofNat (m * 32 + n)]
 else if n < 256 then UInt8.ofNat (m * 32 + 24) :: be 1 n
 else if n < 65536 then UInt8.ofNat (m * 32 + 25) :: be 2 n
 else if n < 4294967296 then UInt8.ofNat (m * 32 + 26) :: be 4 n
 else UInt8.ofNat (m * 32 + 27) :: be 8 n
def flt (n:Nat):List UInt8:=
 if Fl.isNaN n then [249,126,0]
 else match Fl.narrowH n with
  | some h=>249 :: be 2 h
  | .none=>match Fl.narrowS n with
    | some s=>250 :: be 4 s
    | .none=>251 :: be 8 n
mutual
def enc:It→List UInt8
 | mk k n b ks=>
   if k=0∨k=1 then head k.toNat n
   else if k=2∨k=3 then head k.toNat b.length ++ b
   else if k=4 then head 4 ks.length ++ encs ks
   else if k=5 then head 5 (ks.length / 2) ++ encs ks
   else if k=6 then head 6 n ++ encs ks
   else if k=7 then (if n < 24 then [UInt8.ofNat (224 + n)] else [248,UInt8.ofNat n])
   else flt n
def encs:List It→List UInt8
 | []=>[]
 | k :: ks=>enc k ++ encs ks
end
mutual
def nodes:It→Nat
 | mk _ _ _ ks=>1 + nodesL ks
def nodesL:List It→Nat
 | []=>0
 | k :: ks=>nodes k + nodesL ks
end
def cmpB:List UInt8→List UInt8→Int
 | [],[]=>0
 | [],_ :: _=> -1
 | _ :: _,[]=>1
 | a :: as,b :: bs=>if a < b then -1 else if b < a then 1 else cmpB as bs
def asc:Option (List UInt8)→List It→Bool
 | p,k :: _ :: r=>(match p with | some q=>decide (cmpB q (enc k) < 0) | .none=>true) && asc (some (enc k)) r
 | _,_=>true
mutual
def wf:Nat→It→Bool
 | d,mk k n b ks=>
   decide (n < 18446744073709551616) &&
   (if k=0∨k=1 then b.isEmpty && ks.isEmpty
   else if k=2 then decide (n=0) && ks.isEmpty
   else if k=3 then decide (n=0) && ks.isEmpty && Lib.validD b
   else if k=7 then b.isEmpty && ks.isEmpty && (decide (n < 24) || decide (32≤n∧n < 256))
   else if k=8 then b.isEmpty && ks.isEmpty && (!Fl.isNaN n || decide (n=Fl.nan))
   else if k=4∨k=5∨k=6 then
    b.isEmpty && decide (0 < d) && (if k=6 then decide (ks.length=1) else decide (n=0)) && (if k=5 then decide (ks.length % 2=0) && asc .none ks else true) && wfs (d - 1) ks
   else false)
def wfs:Nat→List It→Bool
 | _,[]=>true
 | d,k :: ks=>wf d k && wfs d ks
end
def valid (x:It):Bool:=wf 8 x && decide (nodes x≤256) && decide ((enc x).length≤4096)
/-! ### Reading -/
inductive PR (α:Type) where
 | err (e:Nat)
 | ok (x:α) (f:Nat) (s:List UInt8)
def PR.map {α β:Type} (g:α→β):PR α→PR β
 | .err e=>.err e
 | .ok x f s=>.ok (g x) f s
inductive HR where
 | err (e:Nat)
 | ok (first n:Nat) (rest:List UInt8)
def readHead:List UInt8→HR
 | []=>.err 2
 | c :: s=>
   if 27 < c.toNat % 32 then .err 3
   else if c.toNat % 32 < 24 then .ok c.toNat (c.toNat % 32) s
   else if s.length < 2 ^ (c.toNat % 32 - 24) then .err 2
   else if c.toNat / 32 < 7∧(head 0 (unbe (s.take (2 ^ (c.toNat % 32 - 24))))).length≠1 + 2 ^ (c.toNat % 32 - 24) then .err 4
   else .ok c.toNat (unbe (s.take (2 ^ (c.toNat % 32 - 24)))) (s.drop (2 ^ (c.toNat % 32 - 24)))
def sevenF (f k:Nat):Option It:=if (Fl.isNaN f=true∧f≠Fl.nan)∨(flt f).length≠1 + k then .none else some (mk 8 f [] [])
def seven (low n:Nat):Option It:=
 if low=24 then (if n < 32 then .none else some (mk 7 n [] []))
 else if low=25 then sevenF (Fl.widenH n) 2
 else if low=26 then sevenF (Fl.widenS n) 4
 else if low=27 then sevenF n 8
 else some (mk 7 n [] [])
def seqN (it:Nat→List UInt8→PR It):Nat→Nat→List UInt8→PR (List It)
 | 0,f,s=>.ok [] f s
 | n + 1,f,s=>match it f s with
   | .err e=>.err e
   | .ok y f1 s1=>(seqN it n f1 s1).map (y :: ·)
def keyC:Option (List UInt8)→List UInt8→Int
 | some q,key=>cmpB key q
 | .none,_=>1
def prsN (it:Nat→List UInt8→PR It):Option (List UInt8)→Nat→Nat→List UInt8→PR (List It)
 | _,0,f,s=>.ok [] f s
 | last,n + 1,f,s=>match it f s with
   | .err e=>.err e
   | .ok k f1 s1=>
     let key:=s.take (s.length - s1.length)
     if keyC last key=0 then .err 7 else if keyC last key < 0 then .err 6 else
     match it f1 s1 with
     | .err e=>.err e
     | .ok v f2 s2=>(prsN it (some key) n f2 s2).map (k :: v :: ·)
def step (sub:Option (Nat→List UInt8→PR It)):Nat→List UInt8→PR It
 | 0,_=>.err 8
 | f + 1,s=>match readHead s with
   | .err e=>.err e
   | .ok c n r=>
     if c / 32≤1 then .ok (mk (c / 32:Nat) n [] []) f r
     else if c / 32≤3 then
      if r.length < n then .err 2
      else if c / 32=3∧Lib.validD (r.take n)=false then .err 5
      else .ok (mk (c / 32:Nat) 0 (r.take n) []) f (r.drop n)
     else if c / 32=7 then match seven (c % 32) n with | some x=>.ok x f r | .none=>.err 4
     else match sub with
      | .none=>.err 8
      | some it=>
        if c / 32=5 then (prsN it .none n f r).map (mk 5 0 [] ·)
        else if c / 32=6 then (it f r).map fun x=>mk 6 n [] [x]
        else (seqN it n f r).map (mk 4 0 [] ·)
def item:Nat→Nat→List UInt8→PR It
 | 0=>step .none
 | d + 1=>step (some (item d))
/-! ### Numbers in bytes -/
theorem be_length:∀ k n,(be k n).length=k
 | 0,_=>rfl
 | k + 1,n=>by simp [be,be_length k n]
theorem unbe_append (l m:List UInt8):unbe (l ++ m)=unbe l * 256 ^ m.length + unbe m:=by
 unfold unbe;rw [List.foldl_append];generalize l.foldl (fun x c=>x * 256 + c.toNat) 0=a;have h:∀ (m:List UInt8) (a:Nat),m.foldl (fun x c=>x * 256 + c.toNat) a=a * 256 ^ m.length + m.foldl (fun x c=>x * 256 + c.toNat) 0:=by
  intro m
  induction m with
  | nil=>intro a;simp
  | cons c m ih=>
    intro a;simp only [List.foldl_cons,List.length_cons,Nat.zero_mul,Nat.zero_add];rw [ih,ih c.toNat,Nat.pow_succ,Nat.add_mul,Nat.mul_assoc,Nat.mul_comm 256,Nat.add_assoc]
 exact h m a
theorem unbe_cons (c:UInt8) (l:List UInt8):unbe (c :: l)=c.toNat * 256 ^ l.length + unbe l:=by
 have:=unbe_append [c] l;simpa [unbe] using this
theorem unbe_lt:∀ l:List UInt8,unbe l < 256 ^ l.length
 | []=>by simp [unbe]
 | c :: l=>by
   have h:=unbe_lt l;have hc:=c.toNat_lt;rw [unbe_cons,List.length_cons,Nat.pow_succ];have:c.toNat * 256 ^ l.length≤255 * 256 ^ l.length:=Nat.mul_le_mul_right _ (by omega);omega
theorem unbe_be:∀ k n,n < 256 ^ k→unbe (be k n)=n
 | 0,n,h=>by simp at h;subst h;rfl
 | k + 1,n,h=>by
   have hk:0 < 256 ^ k:=Nat.pow_pos (by omega);have hq:n / 256 ^ k < 256:=by rw [Nat.div_lt_iff_lt_mul hk,Nat.mul_comm,← Nat.pow_succ];exact h
   have ih:∀ n,unbe (be k n)=n % 256 ^ k:=by
    intro n;have e:be k n=be k (n % 256 ^ k):=by
     have:∀ j,j≤k→be j n=be j (n % 256 ^ k):=by
      intro j
      induction j with
      | zero=>intro _;rfl
      | succ j ihj=>
        intro hj;unfold be;rw [ihj (by omega)];congr 1
        have hpp:256 ^ k=256 ^ j * 256 ^ (k - j):=by rw [← Nat.pow_add];congr 1;omega
        rw [hpp,Nat.mod_mul_right_div_self];apply UInt8.toNat_inj.1
        rw [UInt8.toNat_ofNat',UInt8.toNat_ofNat'];have h256:256 ∣ 256 ^ (k - j):=Nat.dvd_trans (by simp) (Nat.pow_dvd_pow 256 (show 1≤k - j by omega))
        show _ % 256=_ % 256
        rw [Nat.mod_mod_of_dvd _ h256]
     exact this k (Nat.le_refl _)
    rw [e];exact unbe_be k _ (Nat.mod_lt _ hk)
   unfold be;rw [unbe_cons,be_length,ih,UInt8.toNat_ofNat',Nat.mod_eq_of_lt (by simpa using hq),Nat.mul_comm];exact Nat.div_add_mod n (256 ^ k)
theorem head_length (m n:Nat):(head m n).length=if n < 24 then 1 else if n < 256 then 2 else if n < 65536 then 3 else if n < 4294967296 then 5 else 9:=by
 unfold head
 repeat' split
 all_goals simp [be_length]
end It
namespace It
set_option maxRecDepth 100000
theorem ofNat_toNat {n:Nat} (h:n < 256):(UInt8.ofNat n).toNat=n:=by rw [UInt8.toNat_ofNat'];exact Nat.mod_eq_of_lt (by simpa using h)
theorem ofNat_of (c:UInt8):UInt8.ofNat c.toNat=c:=UInt8.toNat_inj.1 (ofNat_toNat c.toNat_lt)
theorem cmpB_self:∀ a:List UInt8,cmpB a a=0
 | []=>rfl
 | a :: as=>by unfold cmpB;rw [if_neg (UInt8.lt_irrefl a),if_neg (UInt8.lt_irrefl a)];exact cmpB_self as
theorem cmpB_swap:∀ a b:List UInt8,cmpB b a= - cmpB a b
 | [],[]=>rfl
 | [],_ :: _=>rfl
 | _ :: _,[]=>rfl
 | a :: as,b :: bs=>by
   unfold cmpB;by_cases h:a < b
   ·have h':¬ b < a:=fun h2=>UInt8.lt_irrefl a (UInt8.lt_trans h h2)
    simp only [if_pos h,if_neg h'];decide
   ·by_cases h':b < a
    ·simp only [if_pos h',if_neg h]
    ·simp only [if_neg h',if_neg h];exact cmpB_swap as bs
theorem cmpB_eq:∀ {a b:List UInt8},cmpB a b=0→a=b
 | [],[],_=>rfl
 | [],_ :: _,h=>by simp [cmpB] at h
 | _ :: _,[],h=>by simp [cmpB] at h
 | a :: as,b :: bs,h=>by
   unfold cmpB at h
   split at h
   ·cases h
   split at h
   ·cases h
   ·rename_i h1 h2
    have:a=b:=UInt8.toNat_inj.1 (by rw [UInt8.lt_iff_toNat_lt] at h1 h2;omega);rw [this,cmpB_eq h]
theorem cmpB_trans:∀ {a b c:List UInt8},cmpB a b < 0→cmpB b c < 0→cmpB a c < 0
 | [],[],_,h,_=>by simp [cmpB] at h
 | [],_ :: _,[],_,h=>by simp [cmpB] at h
 | [],_ :: _,_ :: _,_,_=>by simp [cmpB]
 | _ :: _,[],_,h,_=>by simp [cmpB] at h
 | _ :: _,_ :: _,[],_,h=>by simp [cmpB] at h
 | a :: as,b :: bs,c :: cs,h,k=>by
   unfold cmpB at h k ⊢;simp only [UInt8.lt_iff_toNat_lt] at h k ⊢;by_cases h1:a.toNat < b.toNat
   ·by_cases k1:b.toNat < c.toNat
    ·rw [if_pos (by omega)];omega
    ·rw [if_neg k1] at k
     by_cases k2:c.toNat < b.toNat
     ·rw [if_pos k2] at k;omega
     ·rw [if_pos (by omega)];omega
   ·rw [if_neg h1] at h
    by_cases h2:b.toNat < a.toNat
    ·rw [if_pos h2] at h;omega
    ·rw [if_neg h2] at h
     by_cases k1:b.toNat < c.toNat
     ·rw [if_pos (by omega)];omega
     ·rw [if_neg k1] at k
      by_cases k2:c.toNat < b.toNat
      ·rw [if_pos k2] at k;omega
      ·rw [if_neg k2] at k
       rw [if_neg (by omega),if_neg (by omega)];exact cmpB_trans h k
/-! ### Heads -/
/-! ### Major type 7 -/
theorem flt_nan {n:Nat} (h:Fl.isNaN n=true):flt n=[249,126,0]:=by unfold flt;rw [if_pos h]
theorem flt_half {n h:Nat} (hn:Fl.isNaN n=false) (hh:Fl.narrowH n=some h):flt n=249 :: be 2 h:=by unfold flt;rw [if_neg (by simp [hn])];simp only [hh]
theorem flt_single {n s:Nat} (hn:Fl.isNaN n=false) (hh:Fl.narrowH n=.none) (hs:Fl.narrowS n=some s):flt n=250 :: be 4 s:=by unfold flt;rw [if_neg (by simp [hn])];simp only [hh,hs]
theorem flt_double {n:Nat} (hn:Fl.isNaN n=false) (hh:Fl.narrowH n=.none) (hs:Fl.narrowS n=.none):flt n=251 :: be 8 n:=by unfold flt;rw [if_neg (by simp [hn])];simp only [hh,hs]
theorem flt_length (n:Nat):(flt n).length=3∨(flt n).length=5∨(flt n).length=9:=by
 cases hn:Fl.isNaN n with
 | true=>rw [flt_nan hn];exact .inl rfl
 | false=>
   cases hh:Fl.narrowH n with
   | some h=>rw [flt_half hn hh];left;simp [be_length]
   | none=>
     cases hs:Fl.narrowS n with
     | some s=>rw [flt_single hn hh hs];right;left;simp [be_length]
     | none=>rw [flt_double hn hh hs];right;right;simp [be_length]
theorem enc8 (n:Nat) (b:List UInt8) (ks:List It):enc (mk 8 n b ks)=flt n:=by simp [enc]
theorem enc7 (n:Nat) (b:List UInt8) (ks:List It):enc (mk 7 n b ks)=if n < 24 then [UInt8.ofNat (224 + n)] else [248,UInt8.ofNat n]:=by simp [enc]
end It
namespace It
set_option maxRecDepth 100000
theorem nodes_pos (x:It):1≤nodes x:=by cases x;simp [nodes]
theorem encs_append:∀ l m:List It,encs (l ++ m)=encs l ++ encs m
 | [],m=>by simp [encs]
 | k :: ks,m=>by simp [encs,encs_append ks m]
theorem length_le_nodesL:∀ l:List It,l.length≤nodesL l
 | []=>by simp [nodesL]
 | k :: ks=>by have:=length_le_nodesL ks;have:=nodes_pos k;simp [nodesL];omega
theorem head_pos (m n:Nat):1≤(head m n).length:=by rw [head_length];(repeat' split) <;> omega
theorem enc_pos (x:It):1≤(enc x).length:=by
 cases x with
 | mk k n b ks=>
   unfold enc;have h0:=head_pos k.toNat n;have h1:=head_pos k.toNat b.length;have h2:=head_pos 4 ks.length;have h3:=head_pos 5 (ks.length / 2);have h4:=head_pos 6 n
   repeat' split
   all_goals (try simp only [List.length_append])
   all_goals (try omega)
   ·simp
   ·simp
   ·rcases flt_length n with h | h | h <;> omega
theorem length_le_encs:∀ l:List It,l.length≤(encs l).length
 | []=>by simp [encs]
 | k :: ks=>by have:=length_le_encs ks;have:=enc_pos k;simp [encs];omega
/-! ### Whole texts -/
end It
namespace It
def own:It→Nat
 | mk k n b ks=>
   if k=0∨k=1∨k=6 then (head k.toNat n).length + b.length
   else if k=2∨k=3 then (head k.toNat b.length).length + b.length
   else if k=4 then (head 4 ks.length).length + b.length
   else if k=5 then (head 5 (ks.length / 2)).length + b.length
   else if k=7 then (if n < 24 then 1 else 2)
   else (flt n).length
def okP (d:Nat) (x:It) (a s:Nat):Bool:=wf d x && decide (a + nodes x≤256) && decide (s + (enc x).length≤4096)
def okL (d:Nat) (l:List It) (a s:Nat):Bool:=wfs d l && decide (a + nodesL l≤256) && decide (s + (encs l).length≤4096)
theorem okL_cons (d:Nat) (x:It) (l:List It) (a s:Nat):okL d (x :: l) a s=(okP d x a s && okL d l (a + nodes x) (s + (enc x).length)):=by
 unfold okL okP;simp only [wfs,nodesL,encs,List.length_append];by_cases h1:wf d x=true
 ·by_cases h2:wfs d l=true
  ·rw [h1,h2,Bool.eq_iff_iff]
   simp only [Bool.and_eq_true,decide_eq_true_eq,Bool.true_and];constructor
   ·rintro ⟨h3,h4⟩;have h3:=of_decide_eq_true h3;refine ⟨⟨?_,?_⟩,?_,?_⟩ <;> omega
   ·rintro ⟨⟨h3,h4⟩,h5,h6⟩;exact ⟨decide_eq_true (by omega),by omega⟩
  ·simp only [Bool.not_eq_true] at h2
   rw [h2];simp
 ·simp only [Bool.not_eq_true] at h1
  rw [h1];simp
end It
namespace It
mutual
def st:It→Bool
 | mk _ _ b ks=>decide (b.length≤4096) && sts ks
def sts:List It→Bool
 | []=>true
 | k :: ks=>st k && sts ks
end
def okS (d:Nat) (x:It) (n:Nat):Bool:=wf d x && st x && decide (nodes x≤n)
def okSL (d:Nat) (l:List It) (n:Nat):Bool:=wfs d l && sts l && decide (nodesL l≤n)
def leftP (d:Nat) (x:It) (n:Nat):Int:=if okS d x n=true then (n:Int) - nodes x else -1
theorem okS_le {d n:Nat} {x:It} (h:okS d x n=true):nodes x≤n:=by
 unfold okS at h;simp only [Bool.and_eq_true,decide_eq_true_eq] at h;exact h.2
theorem okSL_cons (d:Nat) (x:It) (l:List It) (n:Nat):okSL d (x :: l) n=(okS d x n && okSL d l (n - nodes x)):=by
 unfold okSL okS;simp only [wfs,nodesL,sts];rw [Bool.eq_iff_iff,Bool.and_eq_true,Bool.and_eq_true,Bool.and_eq_true,Bool.and_eq_true,Bool.and_eq_true,Bool.and_eq_true,Bool.and_eq_true,Bool.and_eq_true,Bool.and_eq_true];constructor
 ·rintro ⟨⟨⟨h1,h2⟩,h3,h4⟩,h5⟩
  have h5:=of_decide_eq_true h5;exact ⟨⟨⟨h1,h3⟩,decide_eq_true (by omega)⟩,⟨h2,h4⟩,decide_eq_true (by omega)⟩
 ·rintro ⟨⟨⟨h1,h3⟩,h5⟩,⟨h2,h4⟩,h6⟩
  have h5:=of_decide_eq_true h5;have h6:=of_decide_eq_true h6;exact ⟨⟨⟨h1,h2⟩,h3,h4⟩,decide_eq_true (by omega)⟩
theorem flt_le (n:Nat):(flt n).length≤9:=by have:=flt_length n;omega
theorem head_le (m n:Nat):(head m n).length≤9:=by rw [head_length];(repeat' split) <;> omega
theorem enc_le (k:Int) (n:Nat) (b:List UInt8) (ks:List It):(enc (mk k n b ks)).length≤9 + b.length + (encs ks).length:=by
 unfold enc
 split
 ·have:=head_le k.toNat n;omega
 split
 ·have:=head_le k.toNat b.length;rw [List.length_append];omega
 split
 ·have:=head_le 4 ks.length;rw [List.length_append];omega
 split
 ·have:=head_le 5 (ks.length / 2);rw [List.length_append];omega
 split
 ·have:=head_le 6 n;rw [List.length_append];omega
 split
 ·split <;> simp <;> omega
 ·have:=flt_le n;omega
mutual
theorem st_enc:∀ {x:It},st x=true→(enc x).length≤4105 * nodes x
 | mk k n b ks,h=>by
   unfold st at h;simp only [Bool.and_eq_true,decide_eq_true_eq] at h;have h1:=enc_le k n b ks;have h2:=sts_encs h.2;rw [show nodes (mk k n b ks)=1 + nodesL ks from rfl];omega
theorem sts_encs:∀ {l:List It},sts l=true→(encs l).length≤4105 * nodesL l
 | [],_=>by simp [encs]
 | k :: ks,h=>by
   unfold sts at h;simp only [Bool.and_eq_true] at h;have h1:=st_enc h.1;have h2:=sts_encs h.2;simp only [encs,nodesL,List.length_append];omega
end
theorem bytes_le {d:Nat} {k:Int} {n:Nat} {b:List UInt8} {ks:List It} (h:wf d (mk k n b ks)=true):b.length + (encs ks).length≤(enc (mk k n b ks)).length∧wfs (d - 1) ks=true:=by
 unfold wf at h;unfold enc;rw [Bool.and_eq_true] at h;obtain ⟨_,h⟩:=h
 split at h
 ·rename_i h1;simp at h;rw [h.1,h.2];simp [encs,wfs]
 split at h
 ·rename_i h1 h2;simp at h;subst h2;simp [h.2,encs,wfs]
 split at h
 ·rename_i h1 h2 h3;simp at h;subst h3;simp [h.1.2,encs,wfs]
 split at h
 ·rename_i h1 h2 h3 h4;simp at h;subst h4;simp [h.1.2,h.1.1,encs,wfs]
 split at h
 ·rename_i h1 h2 h3 h4 h5;simp at h;subst h5;simp [h.1.2,h.1.1,encs,wfs]
 split at h
 ·rename_i h1 h2 h3 h4 h5 h6
  simp only [Bool.and_eq_true,List.isEmpty_iff] at h;obtain ⟨⟨⟨⟨rfl,_⟩,_⟩,_⟩,h7⟩:=h;refine ⟨?_,h7⟩;rcases h6 with rfl | rfl | rfl <;> simp
 ·cases h
mutual
theorem st_of:∀ {x:It} {d:Nat},wf d x=true→(enc x).length≤4096→st x=true
 | mk k n b ks,d,hw,h=>by
   obtain ⟨h1,h2⟩:=bytes_le hw;unfold st;rw [decide_eq_true (by omega),sts_of h2 (by omega)]
   rfl
theorem sts_of:∀ {l:List It} {d:Nat},wfs d l=true→(encs l).length≤4096→sts l=true
 | [],_,_,_=>rfl
 | k :: ks,d,hw,h=>by
   unfold wfs at hw;simp only [encs,List.length_append] at h;simp only [Bool.and_eq_true] at hw;unfold sts;rw [st_of hw.1 (by omega),sts_of hw.2 (by omega)]
   rfl
end
theorem valid_left (x:It):valid x=(okS 8 x 256 && decide ((enc x).length≤4096)):=by
 unfold valid okS;cases hw:wf 8 x with
 | false=>rfl
 | true=>
   by_cases h:(enc x).length≤4096
   ·rw [st_of hw h,decide_eq_true h];simp
   ·rw [decide_eq_false h];simp
theorem leftP_ok {d n:Nat} {x:It} (h:okS d x n=true):leftP d x n=(n:Int) - nodes x:=if_pos h
theorem leftP_no {d n:Nat} {x:It} (h:okS d x n=false):leftP d x n= -1:=if_neg (by rw [h];simp)
theorem valid_ok (x:It):valid x=okP 8 x 0 0:=by
 unfold valid okP;rw [Nat.zero_add,Nat.zero_add]
end It
namespace It
abbrev KV:=It × It
def key (p:KV):List UInt8:=enc p.1
def kle (a b:KV):Prop:=cmpB (key a) (key b)≤0
def klt (a b:KV):Prop:=cmpB (key a) (key b) < 0
def insK:List KV→KV→List KV
 | [],p=>[p]
 | q :: l,p=>if cmpB (key p) (key q) < 0 then p :: q :: l else q :: insK l p
def sortK (l:List KV):List KV:=l.foldl insK []
def flatK:List KV→List It
 | []=>[]
 | p :: l=>p.1 :: p.2 :: flatK l
def pairsK:List It→List KV
 | k :: v :: l=>(k,v) :: pairsK l
 | _=>[]
inductive MR where
 | err (e:Nat)
 | ok (x:It)
def buildP (ps:List It):MR:=
 if ps.length % 2=1 then .err 1
 else if ps.all valid=false then .err 1
 else if asc .none (flatK (sortK (pairsK ps)))=false then .err 7
 else if valid (mk 5 0 [] (flatK (sortK (pairsK ps))))=false then .err 8
 else .ok (mk 5 0 [] (flatK (sortK (pairsK ps))))
theorem cmp_le_trans {a b c:List UInt8} (h1:cmpB a b≤0) (h2:cmpB b c≤0):cmpB a c≤0:=by
 by_cases e1:cmpB a b=0
 ·rw [cmpB_eq e1];exact h2
 by_cases e2:cmpB b c=0
 ·rw [← cmpB_eq e2];exact h1
 ·have:=cmpB_trans (a:=a) (b:=b) (c:=c) (by omega) (by omega);omega
theorem cmp_lt_le {a b c:List UInt8} (h1:cmpB a b < 0) (h2:cmpB b c≤0):cmpB a c < 0:=by
 by_cases e2:cmpB b c=0
 ·rw [← cmpB_eq e2];exact h1
 ·exact cmpB_trans h1 (by omega)
theorem insK_perm:∀ (l:List KV) (p:KV),(insK l p).Perm (p :: l)
 | [],p=>List.Perm.refl _
 | q :: l,p=>by
   unfold insK
   split
   ·exact List.Perm.refl _
   ·exact ((insK_perm l p).cons q).trans (List.Perm.swap p q l)
theorem insK_at:∀ {l:List KV} {p:KV} (k:Nat),(∀ q ∈ l.take k,cmpB (key q) (key p)≤0)→(∀ q ∈ l.drop k,0 < cmpB (key q) (key p))→insK l p=l.take k ++ p :: l.drop k
 | [],p,k,_,_=>by simp [insK]
 | q :: l,p,0,_,h2=>by
   have h:=h2 q (by simp);have:=cmpB_swap (key p) (key q);unfold insK;rw [if_pos (by omega)]
   rfl
 | q :: l,p,k + 1,h1,h2=>by
   have h:=h1 q (by simp);have:=cmpB_swap (key p) (key q);unfold insK;rw [if_neg (by omega),insK_at k (fun q hq=>h1 q (by simp [hq])) (fun q hq=>h2 q (by simpa using hq))]
   rfl
theorem insK_mem {l:List KV} {p q:KV} (h:q ∈ insK l p):q=p∨q ∈ l:=by
 have:=(insK_perm l p).mem_iff.1 h;simpa using this
theorem insK_sorted:∀ {l:List KV} {p:KV},l.Pairwise kle→(insK l p).Pairwise kle
 | [],p,_=>by simp [insK]
 | q :: l,p,h=>by
   rw [List.pairwise_cons] at h;have hs:=cmpB_swap (key p) (key q);unfold insK
   split
   ·rename_i hc
    rw [List.pairwise_cons];refine ⟨fun r hr=>?_,List.pairwise_cons.2 h⟩;have hpq:cmpB (key p) (key q)≤0:=by omega
    rcases List.mem_cons.1 hr with rfl | hr
    ·exact hpq
    ·exact cmp_le_trans hpq (h.1 r hr)
   ·rename_i hc
    rw [List.pairwise_cons];refine ⟨fun r hr=>?_,insK_sorted h.2⟩;rcases insK_mem hr with rfl | hr
    ·show cmpB (key q) (key r)≤0
     omega
    ·exact h.1 r hr
theorem foldK_sorted:∀ (l m:List KV),m.Pairwise kle→(l.foldl insK m).Pairwise kle
 | [],m,h=>h
 | p :: l,m,h=>foldK_sorted l (insK m p) (insK_sorted h)
theorem foldK_perm:∀ (l m:List KV),(l.foldl insK m).Perm (m ++ l)
 | [],m=>by simp
 | p :: l,m=>by
   have h1:=foldK_perm l (insK m p);have h2:=(insK_perm m p).append_right l;refine h1.trans (h2.trans ?_);exact List.perm_middle.symm
theorem sortK_sorted (l:List KV):(sortK l).Pairwise kle:=foldK_sorted l [] List.Pairwise.nil
theorem sortK_perm (l:List KV):(sortK l).Perm l:=by have h:=foldK_perm l [];rw [List.nil_append] at h;exact h
theorem asc_some:∀ (l:List KV) (q:List UInt8),asc (some q) (flatK l)=true↔(∀ p ∈ l,cmpB q (key p) < 0)∧l.Pairwise klt
 | [],q=>by simp [flatK,asc]
 | p :: l,q=>by
   have ih:=asc_some l (enc p.1);simp only [flatK,asc,Bool.and_eq_true,decide_eq_true_eq,ih,List.pairwise_cons];constructor
   ·rintro ⟨h1,h2,h3⟩
    refine ⟨fun r hr=>?_,h2,h3⟩;rcases List.mem_cons.1 hr with rfl | hr
    ·exact h1
    ·exact cmpB_trans h1 (h2 r hr)
   ·rintro ⟨h1,h2,h3⟩
    exact ⟨h1 p (by simp),h2,h3⟩
theorem asc_none (l:List KV):asc .none (flatK l)=true↔l.Pairwise klt:=by
 cases l with
 | nil=>simp [flatK,asc]
 | cons p l=>
   have ih:=asc_some l (enc p.1);simp only [flatK,asc,Bool.true_and,ih,List.pairwise_cons];exact Iff.rfl
theorem klt_uniq:∀ {l m:List KV},l.Pairwise klt→m.Pairwise klt→l.Perm m→l=m
 | [],m,_,_,h=>(List.Perm.nil_eq h)
 | a :: l,[],_,_,h=>by have:=h.length_eq;simp at this
 | a :: l,b :: m,h1,h2,h=>by
   have hab:a=b:=by
    have ha:a ∈ b :: m:=h.mem_iff.1 (by simp);have hb:b ∈ a :: l:=h.mem_iff.2 (by simp);rcases List.mem_cons.1 ha with e | ha
    ·exact e
    rcases List.mem_cons.1 hb with e | hb
    ·exact e.symm
    have g1:cmpB (key b) (key a) < 0:=(List.pairwise_cons.1 h2).1 a ha;have g2:cmpB (key a) (key b) < 0:=(List.pairwise_cons.1 h1).1 b hb;have:=cmpB_swap (key a) (key b);omega
   subst hab;rw [klt_uniq (List.pairwise_cons.1 h1).2 (List.pairwise_cons.1 h2).2 (List.perm_cons a |>.1 h)]
theorem klt_nodup {l:List KV} (h:l.Pairwise klt):(l.map key).Nodup:=by
 rw [List.Nodup,List.pairwise_map];refine h.imp fun {a b} hab e=>?_
 unfold klt at hab;rw [e,cmpB_self] at hab;omega
theorem nodup_klt {l:List KV} (h:l.Pairwise kle) (hn:(l.map key).Nodup):l.Pairwise klt:=by
 rw [List.Nodup,List.pairwise_map] at hn;refine (h.and hn).imp fun {a b} hab=>?_
 have h1:cmpB (key a) (key b)≤0:=hab.1;have h2:cmpB (key a) (key b)≠0:=fun e=>hab.2 (cmpB_eq e)
 show cmpB (key a) (key b) < 0
 omega
theorem asc_sort (l:List KV):asc .none (flatK (sortK l))=true↔(l.map key).Nodup:=by
 rw [asc_none];have hp:=(sortK_perm l).map key;exact ⟨fun h=>hp.nodup_iff.1 (klt_nodup h),fun h=>nodup_klt (sortK_sorted l) (hp.nodup_iff.2 h)⟩
theorem sort_uniq {l m:List KV} (hp:m.Perm l) (h:m.Pairwise klt):m=sortK l:=by
 have hn:((sortK l).map key).Nodup:=((hp.trans (sortK_perm l).symm).map key).nodup_iff.1 (klt_nodup h);exact klt_uniq h (nodup_klt (sortK_sorted l) hn) (hp.trans (sortK_perm l).symm)
theorem flatK_length (l:List KV):(flatK l).length=2 * l.length:=by
 induction l with
 | nil=>rfl
 | cons p l ih=>simp [flatK,ih];omega
theorem flatK_append (l m:List KV):flatK (l ++ m)=flatK l ++ flatK m:=by
 induction l with
 | nil=>rfl
 | cons p l ih=>simp [flatK,ih]
theorem flatK_take (l:List KV):∀ k,(flatK l).take (2 * k)=flatK (l.take k):=by
 induction l with
 | nil=>intro k;simp [flatK]
 | cons p l ih=>
   intro k;cases k with
   | zero=>rfl
   | succ k=>rw [show 2 * (k + 1)=2 * k + 1 + 1 from by omega];simp [flatK,ih]
theorem flatK_drop (l:List KV):∀ k,(flatK l).drop (2 * k)=flatK (l.drop k):=by
 induction l with
 | nil=>intro k;simp [flatK]
 | cons p l ih=>
   intro k;cases k with
   | zero=>rfl
   | succ k=>rw [show 2 * (k + 1)=2 * k + 1 + 1 from by omega];simp [flatK,ih]
theorem flatK_get:∀ (l:List KV) (k:Nat) (h:k < l.length),(flatK l)[2 * k]?=some l[k].1∧(flatK l)[2 * k + 1]?=some l[k].2
 | [],k,h=>by simp at h
 | p :: l,0,_=>by simp [flatK]
 | p :: l,k + 1,h=>by
   have:=flatK_get l k (by simpa using h);rw [show 2 * (k + 1)=2 * k + 1 + 1 from by omega];simpa [flatK] using this
theorem pairsK_length:∀ (l:List It),l.length % 2=0→2 * (pairsK l).length=l.length
 | [],_=>rfl
 | [_],h=>by simp at h
 | k :: v :: l,h=>by
   have:=pairsK_length l (by simp at h;omega);simp [pairsK];omega
/-! ### The reference's loop:l is sorted,t says whether a key came twice -/
structure Ins (l:List KV) (t:Bool):Prop where
 sorted:l.Pairwise kle
 twice:t=true↔¬ (l.map key).Nodup
theorem Ins.nil:Ins [] false:=⟨List.Pairwise.nil,by simp⟩
structure At (l:List KV) (p:KV) (k:Nat):Prop where
 le:k≤l.length
 gt:∀ q ∈ l.drop k,0 < cmpB (key q) (key p)
theorem At.start (l:List KV) (p:KV):At l p l.length:=⟨Nat.le_refl _,by simp⟩
theorem At.down {l:List KV} {p:KV} {k:Nat} (h:At l p (k + 1)) (hk:k < l.length) (hc:0 < cmpB (key l[k]) (key p)):At l p k:=by
 refine ⟨by omega,fun q hq=>?_⟩;rw [List.drop_eq_getElem_cons hk] at hq;rcases List.mem_cons.1 hq with rfl | hq
 ·exact hc
 ·exact h.gt q hq
theorem Ins.low {l:List KV} {t:Bool} {p:KV} {k:Nat} (h:Ins l t) (hk:k < l.length) (hc:¬ 0 < cmpB (key l[k]) (key p)):∀ q ∈ l.take (k + 1),cmpB (key q) (key p)≤0:=by
 intro q hq;obtain ⟨i,hi,rfl⟩:=List.mem_iff_getElem.1 hq;rw [List.getElem_take];rw [List.length_take] at hi;by_cases e:i=k
 ·subst e;omega
 ·have h1:kle l[i] l[k]:=(List.pairwise_iff_getElem.1 h.sorted) i k (by omega) hk (by omega)
  exact cmp_le_trans h1 (by omega)
theorem Ins.step {l:List KV} {t:Bool} {p:KV} {k:Nat} (h:Ins l t) (ha:At l p k) (hl:∀ q ∈ l.take k,cmpB (key q) (key p)≤0):insK l p=l.take k ++ p :: l.drop k:=insK_at k hl ha.gt
theorem Ins.next {l:List KV} {t:Bool} {p:KV} (h:Ins l t) (b:Bool) (hb:b=true↔key p ∈ l.map key):Ins (insK l p) (t || b):=by
 refine ⟨insK_sorted h.sorted,?_⟩;rw [((insK_perm l p).map key).nodup_iff,List.map_cons,List.nodup_cons,Bool.or_eq_true,h.twice,hb];constructor
 ·rintro (h1 | h1) ⟨h2,h3⟩
  ·exact h1 h3
  ·exact h2 h1
 ·intro h1
  by_cases h2:key p ∈ l.map key
  ·exact .inr h2
  ·exact .inl fun h3=>h1 ⟨h2,h3⟩
theorem At.zero_none {l:List KV} {p:KV} (ha:At l p 0):¬ key p ∈ l.map key:=by
 intro h;obtain ⟨q,hq,e⟩:=List.mem_map.1 h;have:=ha.gt q (by simpa using hq);rw [e,cmpB_self] at this;omega
theorem Ins.member {l:List KV} {t:Bool} {p:KV} {k:Nat} (h:Ins l t) (ha:At l p (k + 1)) (hk:k < l.length) (hc:¬ 0 < cmpB (key l[k]) (key p)):(cmpB (key l[k]) (key p)=0)↔key p ∈ l.map key:=by
 constructor
 ·intro e
  rw [← cmpB_eq e];exact List.mem_map_of_mem (List.getElem_mem hk)
 ·intro hm
  obtain ⟨q,hq,e⟩:=List.mem_map.1 hm;obtain ⟨i,hi,rfl⟩:=List.mem_iff_getElem.1 hq;by_cases h1:k + 1≤i
  ·exfalso
   have hg:=ha.gt l[i] (by
    rw [List.mem_iff_getElem];exact ⟨i - (k + 1),by rw [List.length_drop];omega,by rw [List.getElem_drop];congr 1;omega⟩)
   rw [e,cmpB_self] at hg;omega
  ·by_cases h2:i=k
   ·subst h2;rw [e,cmpB_self]
   ·have h3:kle l[i] l[k]:=(List.pairwise_iff_getElem.1 h.sorted) i k hi hk (by omega)
    unfold kle at h3;rw [e] at h3;have:=cmpB_swap (key p) (key l[k]);omega
theorem Ins.done {l:List KV} {t:Bool} (h:Ins (sortK l) t):asc .none (flatK (sortK l))= !t:=by
 have h1:=h.twice;have h2:=asc_sort l;have h3:((sortK l).map key).Nodup↔(l.map key).Nodup:=((sortK_perm l).map key).nodup_iff;rw [h3] at h1;cases t with
 | true=>simp at h1;simp only [Bool.not_true];rw [Bool.eq_false_iff];intro h;exact h1 (h2.1 h)
 | false=>simp at h1;rw [h2.2 h1];rfl
end It
def piece (k:Nat):List UInt8:=
 if k=0 then [97] else if k=1 then [98] else if k=2 then [47] else if k=3 then [34] else if k=4 then [92]
 else if k=5 then [10] else if k=6 then [127] else if k=7 then [37] else if k=8 then [195,169] else [226,130,172]
theorem valid_two (t:List UInt8):Lib.validD (195 :: 169 :: t)=Lib.validD t:=by
 rw [Lib.validD_lead (195 :: 169 :: t) (by simp) (by simp)];have h:Lib.checkN (195 :: 169 :: t).length ((195 :: 169 :: t:List UInt8).getD 1 0).toNat ((195 :: 169 :: t:List UInt8).getD 2 0).toNat ((195 :: 169 :: t:List UInt8).getD 3 0).toNat (Lib.firstT ((195 :: 169 :: t:List UInt8).getD 0 0).toNat % 8) (Lib.accLo (Lib.firstT ((195 :: 169 :: t:List UInt8).getD 0 0).toNat / 16)) (Lib.accHi (Lib.firstT ((195 :: 169 :: t:List UInt8).getD 0 0).toNat / 16))=some 2:=by
  generalize ((195 :: 169 :: t:List UInt8).getD 2 0).toNat=b2;generalize ((195 :: 169 :: t:List UInt8).getD 3 0).toNat=b3;rw [List.length_cons,List.length_cons];generalize t.length=n;have e1:Lib.firstT ((195 :: 169 :: t:List UInt8).getD 0 0).toNat=2:=rfl;have e2:((195 :: 169 :: t:List UInt8).getD 1 0).toNat=169:=rfl;rw [e1,e2];unfold Lib.checkN;rw [if_pos (by decide),if_neg (by have h1:Lib.accLo (2 / 16)=128:=rfl;have h2:Lib.accHi (2 / 16)=191:=rfl;rw [h1,h2];omega)]
 rw [h]
 rfl
theorem valid_three (t:List UInt8):Lib.validD (226 :: 130 :: 172 :: t)=Lib.validD t:=by
 rw [Lib.validD_lead (226 :: 130 :: 172 :: t) (by simp) (by simp)];have h:Lib.checkN (226 :: 130 :: 172 :: t).length ((226 :: 130 :: 172 :: t:List UInt8).getD 1 0).toNat ((226 :: 130 :: 172 :: t:List UInt8).getD 2 0).toNat ((226 :: 130 :: 172 :: t:List UInt8).getD 3 0).toNat (Lib.firstT ((226 :: 130 :: 172 :: t:List UInt8).getD 0 0).toNat % 8) (Lib.accLo (Lib.firstT ((226 :: 130 :: 172 :: t:List UInt8).getD 0 0).toNat / 16)) (Lib.accHi (Lib.firstT ((226 :: 130 :: 172 :: t:List UInt8).getD 0 0).toNat / 16))=some 3:=by
  generalize ((226 :: 130 :: 172 :: t:List UInt8).getD 3 0).toNat=b3;rw [List.length_cons,List.length_cons,List.length_cons];generalize t.length=n;have e1:Lib.firstT ((226 :: 130 :: 172 :: t:List UInt8).getD 0 0).toNat=3:=rfl;have e2:((226 :: 130 :: 172 :: t:List UInt8).getD 1 0).toNat=130:=rfl;have e3:((226 :: 130 :: 172 :: t:List UInt8).getD 2 0).toNat=172:=rfl;rw [e1,e2,e3];unfold Lib.checkN;rw [if_neg (by decide),if_pos (by decide),if_neg (by have h1:Lib.accLo (3 / 16)=128:=rfl;have h2:Lib.accHi (3 / 16)=191:=rfl;rw [h1,h2];omega)]
 rw [h]
 rfl
theorem valid_piece (k:Nat) (t:List UInt8):Lib.validD (piece k ++ t)=Lib.validD t:=by
 unfold piece
 split
 ·exact Lib.validD_cons _ _ (by decide)
 split
 ·exact Lib.validD_cons _ _ (by decide)
 split
 ·exact Lib.validD_cons _ _ (by decide)
 split
 ·exact Lib.validD_cons _ _ (by decide)
 split
 ·exact Lib.validD_cons _ _ (by decide)
 split
 ·exact Lib.validD_cons _ _ (by decide)
 split
 ·exact Lib.validD_cons _ _ (by decide)
 split
 ·exact Lib.validD_cons _ _ (by decide)
 split
 ·exact valid_two t
 ·exact valid_three t
theorem valid_text:∀ ps:List Nat,Lib.validD (ps.flatMap piece)=true
 | []=>rfl
 | k :: ps=>by rw [List.flatMap_cons,valid_piece];exact valid_text ps
theorem piece_len (k:Nat):(piece k).length≤3:=by
 unfold piece
 (repeat' split) <;> simp
theorem text_len:∀ ps:List Nat,(ps.flatMap piece).length≤3 * ps.length
 | []=>by simp
 | k :: ps=>by
   have:=piece_len k;have:=text_len ps;rw [List.flatMap_cons,List.length_append,List.length_cons];omega
namespace It
mutual
def same:It→It→Bool
 | mk k n b ks,mk k' n' b' ks'=>decide (k=k') && decide (n=n') && decide (b=b') && sames ks ks'
def sames:List It→List It→Bool
 | [],[]=>true
 | x :: l,y :: m=>same x y && sames l m
 | _,_=>false
end
end It
namespace It
mutual
theorem wf_up:∀ {x:It} {d e:Nat},d≤e→wf d x=true→wf e x=true
 | .mk k n b ks,d,e,h,hw=>by
   unfold wf at hw ⊢;by_cases c:k=4∨k=5∨k=6
   ·have c0:¬ (k=0∨k=1):=by omega
    have c2:¬ k=2:=by omega
    have c3:¬ k=3:=by omega
    have c7:¬ k=7:=by omega
    have c8:¬ k=8:=by omega
    rw [if_neg c0,if_neg c2,if_neg c3,if_neg c7,if_neg c8,if_pos c] at hw ⊢;simp only [Bool.and_eq_true,decide_eq_true_eq] at hw ⊢;obtain ⟨hn,⟨⟨⟨hb,hd⟩,h6⟩,h5⟩,hks⟩:=hw;exact ⟨hn,⟨⟨⟨hb,by omega⟩,h6⟩,h5⟩,wfs_up (by omega) hks⟩
   ·simp only [if_neg c] at hw ⊢;exact hw
theorem wfs_up:∀ {l:List It} {d e:Nat},d≤e→wfs d l=true→wfs e l=true
 | [],_,_,_,_=>by unfold wfs;rfl
 | k :: ks,d,e,h,hw=>by
   unfold wfs at hw ⊢;simp only [Bool.and_eq_true] at hw ⊢;exact ⟨wf_up h hw.1,wfs_up h hw.2⟩
end
theorem enc_mem:∀ {l:List It} {y:It},y ∈ l→(enc y).length≤(encs l).length
 | k :: ks,y,hy=>by
   unfold encs;rw [List.length_append];rcases List.mem_cons.1 hy with rfl | hy
   ·omega
   ·have:=enc_mem hy;omega
def look:List It→It→Option It
 | k :: v :: l,q=>if same k q=true then some v else look l q
 | _,_=>.none
end It
end Go.Proofs.YtelefkkkccilaaaDoor
