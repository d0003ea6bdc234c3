/- The program's widening of half floats. -/
import Derived.Test.YtelefkkkccilaaaDoorLC
import Derived.Test.YtelefkkkccilaaaDoorPj
import Derived.Laws.BitsAllLaws
set_option linter.unusedVariables false
set_option linter.unusedSimpArgs false
namespace Go.Proofs.YtelefkkkccilaaaDoor
open Go.RowKit
set_option maxRecDepth 100000
theorem low_mask (k:Nat) {n:Nat} (h:n < 2 ^ k):n &&& (2 ^ k - 1)=n:=by rw [Nat.and_two_pow_sub_one_eq_mod,Nat.mod_eq_of_lt h]
theorem bits_abs {n:Nat} {N:Int} (hN:N=n) (h:n < 9223372036854775808):bits .andNot .u64 N 9223372036854775808=N:=by
 subst hN;have:=Go.u64_andNot_nat n 9223372036854775808 (by omega) (by omega);rw [show (18446744073709551615 - 9223372036854775808:Nat)=2 ^ 63 - 1 from by decide,low_mask 63 (by simpa using h)] at this;exact this
theorem bits_frac {n:Nat} {N:Int} (hN:N=n) (h:n < 9223372036854775808):bits .andNot .u64 N 9218868437227405312=((n % 4503599627370496:Nat):Int):=by
 subst hN;have:=Go.u64_andNot_nat n 9218868437227405312 (by omega) (by omega);rw [show ((9218868437227405312:Nat):Int)=9218868437227405312 from rfl] at this;rw [this];congr 1
 have e1:(18446744073709551615 - 9218868437227405312:Nat)=2 ^ 63 ||| (2 ^ 52 - 1):=by decide +kernel
 rw [e1,Nat.and_or_distrib_left,Nat.and_two_pow_sub_one_eq_mod];have e2:n &&& 2 ^ 63=0:=by
  apply Nat.eq_of_testBit_eq
  intro i;rw [Nat.testBit_and,Nat.testBit_two_pow,Nat.zero_testBit];by_cases hi:63=i
  ·subst hi
   rw [Nat.testBit_lt_two_pow (by simpa using h)];rfl
  ·simp [hi]
 rw [e2,Nat.zero_or]
theorem or_top (k:Nat) {a b:Nat} (h:a < 2 ^ k):a ||| b * 2 ^ k=b * 2 ^ k + a:=by
 rw [Nat.or_comm,Nat.mul_comm];exact (Nat.two_pow_add_eq_or_of_lt h b).symm
theorem bits_or_top (k:Nat) {a b:Nat} {A B:Int} (hA:A=a) (hB:B=((b * 2 ^ k:Nat):Int)) (h:a < 2 ^ k) (hk:b * 2 ^ k + a < 18446744073709551616):bits .or .u64 A B=((b * 2 ^ k + a:Nat):Int):=by
 subst hA hB;have h1:=Go.u64_or_nat a (b * 2 ^ k) (by omega) (by omega);rw [h1,or_top k h]
set_option maxHeartbeats 4000000 in
theorem abs_any {n:Nat} (h:n < 9223372036854775808) (w:World):Calls Tryd.prog 154 #[.float .f64 n] w fun e w'=>e=.returned (.float .f64 n)∧w=w':=by
 obtain ⟨N,hN⟩:∃ N:Int,N=n:=⟨_,rfl⟩;have X1:=fun W=>x158 hN W
 have X2:=fun W=>x157 hN W
 have hb:=bits_abs hN h;clear hN h;go_enter Tryd.func154,Tryd.ntmps154
 go_wp2_with (first | simp only [X1] | simp only [X2])
 go_ret
 exact ⟨rfl,rfl⟩
set_option maxHeartbeats 4000000 in
theorem inf_any (w:World):Calls Tryd.prog 117 #[.int .i64 1] w fun e w'=>e=.returned (.float .f64 9218868437227405312)∧w=w':=by
 have X2:=fun W=>x157 (n:=9218868437227405312) (N:=9218868437227405312) rfl W
 go_enter Tryd.func117,Tryd.ntmps117
 go_wp2_with (simp only [X2])
 go_ret
 exact ⟨rfl,rfl⟩
set_option maxHeartbeats 4000000 in
theorem sign_any {n:Nat} (h:n < 9223372036854775808) (w:World):Calls Tryd.prog 119 #[.float .f64 n,.float .f64 13830554455654793216] w fun e w'=>e=.returned (.float .f64 (9223372036854775808 + n))∧w=w':=by
 obtain ⟨N,hN⟩:∃ N:Int,N=n:=⟨_,rfl⟩;obtain ⟨M,hM⟩:∃ M:Int,M=((9223372036854775808 + n:Nat):Int):=⟨_,rfl⟩;have X1:=fun W=>x158 hN W
 have X3:=fun W=>x158 (n:=13830554455654793216) (N:=13830554455654793216) rfl W
 have X2:=fun W=>x157 hM W
 have hb:=bits_abs hN h;have hc:bits .and .u64 13830554455654793216 9223372036854775808=9223372036854775808:=by decide +kernel
 have hd:bits .or .u64 N 9223372036854775808=M:=by
  have:=bits_or_top 63 (b:=1) (B:=9223372036854775808) hN (by decide) (by simpa using h) (by omega);rw [this,hM,show 1 * 2 ^ 63=9223372036854775808 from by decide]
 clear hN hM h;go_enter Tryd.func119,Tryd.ntmps119
 go_wp2_with (first | simp only [X1] | simp only [X3] | simp only [X2])
 go_ret
 exact ⟨rfl,rfl⟩
/-! ### A positive normal number against the marks. -/
theorem read_pos {E F:Nat} (h1:1≤E) (h2:E < 2047) (hF:F < 4503599627370496):Ieee.double.read (E * 4503599627370496 + F)=.number false (F + 4503599627370496) ((E:Int) - 1075):=by
 have r2:=Fl.readD 0 E F (by omega) (by omega) hF;rw [Nat.zero_mul,Nat.zero_add,if_neg (by omega),if_pos h2] at r2;exact r2
theorem order_zero {E F:Nat} (h1:1≤E) (h2:E < 2047) (hF:F < 4503599627370496):(FloatKind.f64.format.order (E * 4503599627370496 + F) 0==some Ordering.eq)=false:=by
 show (Ieee.double.order _ _==_)=false
 unfold Ieee.Format.order;rw [read_pos h1 h2 hF,show Ieee.double.read 0=.number false 0 (-1074) from by kernel_rfl];unfold Ieee.Datum.order;simp only [Ieee.signed,Bool.false_eq_true,if_false,Nat.shiftLeft_eq,Nat.zero_mul];have hp:0 < (F + 4503599627370496) * 2 ^ (((E:Int) - 1075 - min ((E:Int) - 1075) (-1074)).toNat):=Nat.mul_pos (by omega) (Nat.two_pow_pos _);generalize (F + 4503599627370496) * 2 ^ (((E:Int) - 1075 - min ((E:Int) - 1075) (-1074)).toNat)=Z at *;have:compare (Z:Int) ((0:Nat):Int)=.gt:=by rw [Int.compare_eq_gt];omega
 rw [this];rfl
theorem not_gt {a b:Int} (h:a≤b):(some (compare a b)==some Ordering.gt)=false:=by
 cases hc:compare a b with
 | gt=>rw [Int.compare_eq_gt] at hc;omega
 | eq=>rfl
 | lt=>rfl
theorem not_lt {a b:Int} (h:b≤a):(some (compare a b)==some Ordering.lt)=false:=by
 cases hc:compare a b with
 | lt=>rw [Int.compare_eq_lt] at hc;omega
 | eq=>rfl
 | gt=>rfl
theorem order_max {E F:Nat} (h1:1≤E) (h2:E < 2047) (hF:F < 4503599627370496):(FloatKind.f64.format.order (E * 4503599627370496 + F) 9218868437227405311==some Ordering.gt)=false:=by
 show (Ieee.double.order _ _==_)=false
 unfold Ieee.Format.order;rw [read_pos h1 h2 hF,show Ieee.double.read 9218868437227405311=.number false 9007199254740991 971 from by kernel_rfl];unfold Ieee.Datum.order;have hb:min ((E:Int) - 1075) 971=(E:Int) - 1075:=by omega
 simp only [Ieee.signed,Bool.false_eq_true,if_false,hb];have e1:((E:Int) - 1075 - ((E:Int) - 1075)).toNat=0:=by omega
 rw [e1,Nat.shiftLeft_zero,Nat.shiftLeft_eq];have hp:9007199254740991≤9007199254740991 * 2 ^ ((971:Int) - ((E:Int) - 1075)).toNat:=Nat.le_mul_of_pos_right _ (Nat.two_pow_pos _);generalize 9007199254740991 * 2 ^ ((971:Int) - ((E:Int) - 1075)).toNat=Z at *;exact not_gt (by omega)
theorem order_small {E F:Nat} (h1:1≤E) (h2:E < 2047) (hF:F < 4503599627370496):(FloatKind.f64.format.order (E * 4503599627370496 + F) 4503599627370496==some Ordering.lt)=false:=by
 show (Ieee.double.order _ _==_)=false
 unfold Ieee.Format.order;rw [read_pos h1 h2 hF,show Ieee.double.read 4503599627370496=.number false 4503599627370496 (-1074) from by kernel_rfl];unfold Ieee.Datum.order;have hb:min ((E:Int) - 1075) (-1074)= -1074:=by omega
 simp only [Ieee.signed,Bool.false_eq_true,if_false,hb];have e1:((-1074:Int) - -1074).toNat=0:=by omega
 rw [e1,Nat.shiftLeft_zero,Nat.shiftLeft_eq];have hp:F + 4503599627370496≤(F + 4503599627370496) * 2 ^ ((E:Int) - 1075 - -1074).toNat:=Nat.le_mul_of_pos_right _ (Nat.two_pow_pos _);generalize (F + 4503599627370496) * 2 ^ ((E:Int) - 1075 - -1074).toNat=Z at *;exact not_lt (by omega)
theorem order_same {E F:Nat} (h1:1≤E) (h2:E < 2047) (hF:F < 4503599627370496):(FloatKind.f64.format.order (E * 4503599627370496 + F) (E * 4503599627370496 + F) !=some Ordering.eq)=false:=by
 show (Ieee.double.order _ _ !=_)=false
 unfold Ieee.Format.order;rw [read_pos h1 h2 hF];simp [Ieee.Datum.order]
/-! ### math.Ldexp at positive normal numbers. -/
structure Nrm (E F X:Nat):Prop where
 e1:1≤E
 e2:E < 2047
 f:F < 4503599627370496
 x:X=E * 4503599627370496 + F
theorem Nrm.lt {E F X:Nat} (h:Nrm E F X):X < 9223372036854775808:=by have:=h.e2;have:=h.f;have:=h.x;omega
set_option maxHeartbeats 4000000 in
theorem isinf_any {E F X:Nat} (h:Nrm E F X) (w:World):Calls Tryd.prog 150 #[.float .f64 X,.int .i64 0] w fun e w'=>e=.returned (.bool false)∧w=w':=by
 have ho:(FloatKind.f64.format.order X 9218868437227405311==some Ordering.gt)=false:=by rw [h.x];exact order_max h.e1 h.e2 h.f
 have HC:=dh (abs_any h.lt w);clear h;go_enter Tryd.func150,Tryd.ntmps150
 go_wp2_with fail
 refine HC.out.mono ?_;rintro e w' ⟨rfl,rfl⟩;go_wp2_with fail
 go_ret
 exact ⟨rfl,rfl⟩
set_option maxHeartbeats 4000000 in
theorem isnanf_any {E F X:Nat} (h:Nrm E F X) (w:World):Calls Tryd.prog 151 #[.float .f64 X] w fun e w'=>e=.returned (.bool false)∧w=w':=by
 have ho:(FloatKind.f64.format.order X X !=some Ordering.eq)=false:=by rw [h.x];exact order_same h.e1 h.e2 h.f
 clear h;go_enter Tryd.func151,Tryd.ntmps151
 go_wp2_with fail
 go_ret
 exact ⟨rfl,rfl⟩
set_option maxHeartbeats 4000000 in
theorem normalize_any {E F X:Nat} (h:Nrm E F X) (w:World):Calls Tryd.prog 152 #[.float .f64 X] w fun e w'=>e=.returned (.tuple #[.float .f64 X,.int .i64 0])∧w=w':=by
 have ho:(FloatKind.f64.format.order X 4503599627370496==some Ordering.lt)=false:=by rw [h.x];exact order_small h.e1 h.e2 h.f
 have HC:=dh (abs_any h.lt w);clear h;go_enter Tryd.func152,Tryd.ntmps152
 go_wp2_with fail
 refine HC.out.mono ?_;rintro e w' ⟨rfl,rfl⟩;go_wp2_with fail
 go_ret2
 exact ⟨rfl,rfl⟩
theorem and2047:∀ E:Fin 2047,bits .and .i64 (E.val:Int) 2047=(E.val:Int):=by decide +kernel
set_option maxHeartbeats 8000000 in
theorem ldexp_any {E F X G Y:Nat} (h:Nrm E F X) (h':Nrm G F Y) (k:Int) (hk:(E:Int) + k=G) (w:World):Calls Tryd.prog 143 #[.float .f64 X,.int .i64 k] w fun e w'=>e=.returned (.float .f64 Y)∧w=w':=by
 have ho:(FloatKind.f64.format.order X 0==some Ordering.eq)=false:=by rw [h.x];exact order_zero h.e1 h.e2 h.f
 have HC1:=dh (isinf_any h w);have HC2:=dh (isnanf_any h w);have HC3:=dh (normalize_any h w);obtain ⟨N,hN⟩:∃ N:Int,N=X:=⟨_,rfl⟩;obtain ⟨M,hM⟩:∃ M:Int,M=Y:=⟨_,rfl⟩;obtain ⟨EI,hEI⟩:∃ EI:Int,EI=E:=⟨_,rfl⟩;obtain ⟨FI,hFI⟩:∃ FI:Int,FI=F:=⟨_,rfl⟩;have X1:=fun W=>x158 hN W
 have X2:=fun W=>x157 hM W
 have he1:=h.e1;have he2:=h.e2;have hg1:=h'.e1;have hg2:=h'.e2;have hf:=h.f;have hx:=h.x;have hy:=h'.x;have hb1:IntKind.i64.wrap (N / 4503599627370496)=EI:=by
  have:N / 4503599627370496=EI:=by omega
  rw [this,IntWalk.i64_in _ (by omega)]
 have hb2:bits .and .i64 EI 2047=EI:=by rw [hEI];exact and2047 ⟨E,he2⟩
 have hb3:bits .andNot .u64 N 9218868437227405312=FI:=by
  rw [bits_frac hN h.lt,hFI];congr 1;omega
 have hw1:IntKind.i64.wrap (EI - 1023)=EI - 1023:=IntWalk.i64_in _ (by omega);obtain ⟨K,hK⟩:∃ K:Int,K=(G:Int) - 1023:=⟨_,rfl⟩;have hw2:IntKind.i64.wrap (k + (EI - 1023))=K:=by rw [IntWalk.i64_in _ (by omega)];omega
 have hw0:IntKind.i64.wrap k=k:=IntWalk.i64_in _ (by omega);have hc1:¬ K < -1075:=by omega
 have hc2:¬ 1023 < K:=by omega
 have hc3:¬ K < -1022:=by omega
 obtain ⟨GI,hGI⟩:∃ GI:Int,GI=G:=⟨_,rfl⟩;have hw3:IntKind.i64.wrap (K + 1023)=GI:=by rw [IntWalk.i64_in _ (by omega)];omega
 have hw4:IntKind.u64.wrap GI=GI:=wrap_u64 (by omega) (by omega);have hw5:IntKind.u64.wrap (GI * 4503599627370496)=GI * 4503599627370496:=wrap_u64 (by omega) (by omega);have hb4:bits .or .u64 FI (GI * 4503599627370496)=M:=by
  rw [bits_or_top 52 (b:=G) hFI (by rw [hGI];rfl) (by simpa using hf) (by rw [show 2 ^ 52=4503599627370496 from by decide];omega),hM,hy]
 have hm:floatBits .mul .f64 4607182418800017408 Y=some Y:=by rw [hy];exact Fl.mul_one hg1 hg2 hf
 have X3:=fun W=>run_float_arith (P:=Tryd.prog) (w:=W) .mul 146 .f64 _ _ _ hm
 clear h h' hN hM hEI hFI hGI hK hk he1 he2 hg1 hg2 hf hx hy hm;go_enter Tryd.func143,Tryd.ntmps143
 go_wp2_with (first | simp only [X1] | simp only [X2] | simp only [X3] | (go_at_call 150;refine HC1.out.mono ?_;rintro e w' ⟨rfl,rfl⟩) | (go_at_call 151;refine HC2.out.mono ?_;rintro e w' ⟨rfl,rfl⟩) | (go_at_call 152;refine HC3.out.mono ?_;rintro e w' ⟨rfl,rfl⟩))
 go_ret
 exact ⟨rfl,rfl⟩
set_option maxHeartbeats 4000000 in
theorem Ldexp_any {E F X G Y:Nat} (h:Nrm E F X) (h':Nrm G F Y) (k:Int) (hk:(E:Int) + k=G) (w:World):Calls Tryd.prog 118 #[.float .f64 X,.int .i64 k] w fun e w'=>e=.returned (.float .f64 Y)∧w=w':=by
 have HC:=dh (ldexp_any h h' k hk w);clear h h' hk;go_enter Tryd.func118,Tryd.ntmps118
 go_wp2_with fail
 refine HC.out.mono ?_;rintro e w' ⟨rfl,rfl⟩;go_wp2_with fail
 go_ret
 exact ⟨rfl,rfl⟩
set_option maxHeartbeats 4000000 in
theorem Ldexp_zero (k:Int) (w:World):Calls Tryd.prog 118 #[.float .f64 0,.int .i64 k] w fun e w'=>e=.returned (.float .f64 0)∧w=w':=by
 have ho:(FloatKind.f64.format.order 0 0==some Ordering.eq)=true:=by kernel_rfl
 have HC:Hid (Calls Tryd.prog 143 #[.float .f64 0,.int .i64 k] w fun e w'=>e=.returned (.float .f64 0)∧w=w'):=dh (by
  go_enter Tryd.func143,Tryd.ntmps143
  go_wp2_with fail
  go_ret
  exact ⟨rfl,rfl⟩)
 clear ho;go_enter Tryd.func118,Tryd.ntmps118
 go_wp2_with fail
 refine HC.out.mono ?_;rintro e w' ⟨rfl,rfl⟩;go_wp2_with fail
 go_ret
 exact ⟨rfl,rfl⟩
theorem float_small:∀ m:Fin 1024,m.val≠0→floatOfInt .f64 (m.val:Int)=(m.val.log2 + 1023) * 4503599627370496 + (m.val * 2 ^ (52 - m.val.log2) - 4503599627370496):=by decide +kernel
theorem float_add:∀ m:Fin 1024,floatBits .add .f64 (floatOfInt .f64 (m.val:Int)) 4652218415073722368=some (1033 * 4503599627370496 + m.val * 4398046511104):=by decide +kernel
def Fl.widenP (n:Nat):Nat:=if Fl.nanH n=true then Fl.nan else Fl.widenH n
def Fl.posH (e m:Nat):Nat:=if e=31 then 9218868437227405312 else if e=0 then (if m=0 then 0 else (m.log2 + 999) * 4503599627370496 + (m * 2 ^ (52 - m.log2) - 4503599627370496)) else (e + 1008) * 4503599627370496 + m * 4398046511104
theorem posH_lt {e m:Nat} (he:e < 32) (hm:m < 1024):Fl.posH e m < 9223372036854775808:=by
 unfold Fl.posH
 split
 ·omega
 split
 ·split
  ·omega
  ·rename_i h
   have hl:m.log2 < 10:=(Nat.log2_lt h).2 (by simpa using hm);obtain ⟨_,hb⟩:=Fl.log2_bd h;generalize m.log2=k at *;have:m * 2 ^ (52 - k) < 9007199254740992:=by
    have:(9007199254740992:Nat)=2 ^ (k + 1) * 2 ^ (52 - k):=by rw [← Nat.pow_add,show k + 1 + (52 - k)=53 from by omega]
    rw [this];exact Nat.mul_lt_mul_of_pos_right hb (Nat.two_pow_pos _)
   generalize m * 2 ^ (52 - k)=Z at *;omega
 ·omega
theorem widenP_eq {g e m:Nat} (hg:g < 2) (he:e < 32) (hm:m < 1024) (h:e=31→m=0):Fl.widenP (g * 32768 + e * 1024 + m)=g * 9223372036854775808 + Fl.posH e m:=by
 have a1:(g * 32768 + e * 1024 + m) / 32768=g:=by omega
 have a2:(g * 32768 + e * 1024 + m) / 1024 % 32=e:=by omega
 have a3:(g * 32768 + e * 1024 + m) % 1024=m:=by omega
 have hn:Fl.nanH (g * 32768 + e * 1024 + m)=false:=by
  unfold Fl.nanH;rw [a2,a3];by_cases c:e=31
  ·rw [h c];simp
  ·simp [c]
 unfold Fl.widenP;rw [hn,if_neg (by decide)];unfold Fl.widenH Fl.posH
 dsimp only
 rw [a1,a2,a3];by_cases c:e=31
 ·rw [if_pos c,if_pos c,h c]
 ·rw [if_neg c,if_neg c]
  by_cases c0:e=0
  ·rw [if_pos c0,if_pos c0]
   by_cases cm:m=0
   ·rw [if_pos cm,if_pos cm];omega
   ·rw [if_neg cm,if_neg cm];omega
  ·rw [if_neg c0,if_neg c0];omega
theorem sub_norm {m:Nat} (h:m≠0) (hm:m < 1024):Nrm (m.log2 + 1023) (m * 2 ^ (52 - m.log2) - 4503599627370496) (floatOfInt .f64 (m:Int))∧Nrm (m.log2 + 999) (m * 2 ^ (52 - m.log2) - 4503599627370496) (Fl.posH 0 m):=by
 have hl:m.log2 < 10:=(Nat.log2_lt h).2 (by simpa using hm);obtain ⟨_,hb⟩:=Fl.log2_bd h;have hf:=float_small ⟨m,hm⟩ h;have hp:Fl.posH 0 m=(m.log2 + 999) * 4503599627370496 + (m * 2 ^ (52 - m.log2) - 4503599627370496):=by
  unfold Fl.posH;rw [if_neg (by omega),if_pos rfl,if_neg h]
 simp only at hf;rw [hf,hp];generalize m.log2=k at *;have:m * 2 ^ (52 - k) < 9007199254740992:=by
  have:(9007199254740992:Nat)=2 ^ (k + 1) * 2 ^ (52 - k):=by rw [← Nat.pow_add,show k + 1 + (52 - k)=53 from by omega]
  rw [this];exact Nat.mul_lt_mul_of_pos_right hb (Nat.two_pow_pos _)
 generalize m * 2 ^ (52 - k)=Z at *;exact ⟨⟨by omega,by omega,by omega,rfl⟩,⟨by omega,by omega,by omega,rfl⟩⟩
set_option maxHeartbeats 8000000 in
theorem widen_any (g e m:Nat) (N:Int) (hN:N=((g * 32768 + e * 1024 + m:Nat):Int)) (hg:g < 2) (he:e < 32) (hm:m < 1024) (w:World):Calls Tryd.prog 95 #[.int .u16 N] w fun e' w'=>e'=.returned (.int .u64 (Fl.widenP (g * 32768 + e * 1024 + m):Nat))∧w=w':=by
 obtain ⟨M,hM⟩:∃ M:Int,M=m:=⟨_,rfl⟩;obtain ⟨E,hE⟩:∃ E:Int,E=e:=⟨_,rfl⟩;obtain ⟨G,hG⟩:∃ G:Int,G=g:=⟨_,rfl⟩;have hb1:bits .and .u16 N 1023=M:=by
  rw [hN,hM];have:=Go.u16_and_nat (g * 32768 + e * 1024 + m) 1023 (by omega) (by omega);rw [show (1023:Nat)=2 ^ 10 - 1 from rfl,Nat.and_two_pow_sub_one_eq_mod] at this;rw [show (1023:Int)=((2 ^ 10 - 1:Nat):Int) from rfl,this];congr 1;omega
 have hb2:bits .and .u16 (N / 1024) 31=E:=by
  have h1:N / 1024=((g * 32 + e:Nat):Int):=by omega
  rw [h1,hE];have:=Go.u16_and_nat (g * 32 + e) 31 (by omega) (by omega);rw [show (31:Nat)=2 ^ 5 - 1 from rfl,Nat.and_two_pow_sub_one_eq_mod] at this;rw [show (31:Int)=((2 ^ 5 - 1:Nat):Int) from rfl,this];congr 1;omega
 have hb3:N / 32768=G:=by omega
 have hwE:IntKind.i64.wrap E=E:=IntWalk.i64_in _ (by omega);by_cases hnan:e=31∧m≠0
 case pos=>
  have hres:Fl.widenP (g * 32768 + e * 1024 + m)=9221120237041090560:=by
   unfold Fl.widenP Fl.nanH;have a2:(g * 32768 + e * 1024 + m) / 1024 % 32=e:=by omega
   have a3:(g * 32768 + e * 1024 + m) % 1024=m:=by omega
   rw [a2,a3,if_pos (by simp [hnan.1,hnan.2])]
   rfl
  rw [hres];obtain rfl:E=31:=by omega
  have hmb:(M !=0)=true:=by simp;omega
  have hmz:¬ M=0:=by omega
  clear hN hM hE hG hnan hres hb3;go_enter Tryd.func95,Tryd.ntmps95
  go_wp2_with fail
  go_ret
  exact ⟨rfl,rfl⟩
 have hres:=widenP_eq hg he hm (fun h=>by omega);have hpl:=posH_lt he hm;rw [hres];have HS:=dh (sign_any hpl w);obtain ⟨R,hR⟩:∃ R:Int,R=((g * 9223372036854775808 + Fl.posH e m:Nat):Int):=⟨_,rfl⟩;rw [← hR];have HR:=dh hR;have X1:∀ z:Nat,(z:Int)=R→∀ W,(callFunc 90 #[.float .f64 z]).run Tryd.prog W=.ok (.value (.int .u64 R)) W:=fun z hz W=>x158 hz.symm W
 rcases (show g=0∨g=1 by omega) with rfl | rfl
 ·obtain rfl:G=0:=by omega
  have X1':=X1 (Fl.posH e m) (by have:=HR.out;omega);by_cases h31:e=31
  ·obtain rfl:E=31:=by omega
   obtain rfl:M=0:=by omega
   have hP:Fl.posH e m=9218868437227405312:=by unfold Fl.posH;rw [if_pos h31]
   have HC:=dh (inf_any w);rw [hP] at HS X1';clear hP h31 HR;clear hN hM hE hG hg he hm hnan hres hpl hR X1;go_enter Tryd.func95,Tryd.ntmps95
   go_wp2_with (first | simp only [X1'] | (go_at_call 117;refine HC.out.mono ?_;rintro e' w' ⟨rfl,rfl⟩) | (go_at_call 119;refine HS.out.mono ?_;rintro e' w' ⟨rfl,rfl⟩))
   go_ret
   exact ⟨rfl,rfl⟩
  by_cases h0:e=0
  ·by_cases hm0:m=0
   ·obtain rfl:E=0:=by omega
    obtain rfl:M=0:=by omega
    have hP:Fl.posH e m=0:=by unfold Fl.posH;rw [if_neg h31,if_pos h0,if_pos hm0]
    have HC:=dh (Ldexp_zero (-24) w);have hF:floatOfInt .f64 0=0:=by kernel_rfl
    rw [hP] at HS X1';clear hP h31 h0 hm0 HR;clear hN hM hE hG hg he hm hnan hres hpl hR X1;go_enter Tryd.func95,Tryd.ntmps95
    go_wp2_with (first | simp only [X1'] | (simp only [hF];go_at_call 118;refine HC.out.mono ?_;rintro e' w' ⟨rfl,rfl⟩) | (go_at_call 118;refine HC.out.mono ?_;rintro e' w' ⟨rfl,rfl⟩) | (go_at_call 119;refine HS.out.mono ?_;rintro e' w' ⟨rfl,rfl⟩))
    go_ret
    exact ⟨rfl,rfl⟩
   ·obtain rfl:E=0:=by omega
    have hsn:=sub_norm hm0 hm;have HC:=dh (Ldexp_any hsn.1 hsn.2 (-24) (by omega) w);rw [← hM] at HC;rw [h0] at HS X1';clear hsn h31 h0 hm0 HR;clear hN hM hE hG hg he hm hnan hres hpl hR X1;go_enter Tryd.func95,Tryd.ntmps95
    go_wp2_with (first | simp only [X1'] | (go_at_call 118;refine HC.out.mono ?_;rintro e' w' ⟨rfl,rfl⟩) | (go_at_call 119;refine HS.out.mono ?_;rintro e' w' ⟨rfl,rfl⟩))
    go_ret
    exact ⟨rfl,rfl⟩
  have hE31:(E==31)=false:=(by simp;omega);have hE0:(E==0)=false:=(by simp;omega);have hP:Fl.posH e m=(e + 1008) * 4503599627370496 + m * 4398046511104:=by unfold Fl.posH;rw [if_neg h31,if_neg h0]
  have hfa:=float_add ⟨m,hm⟩;simp only at hfa;rw [← hM] at hfa;have X3:=fun W=>run_float_arith (P:=Tryd.prog) (w:=W) .add 146 .f64 _ _ _ hfa
  have hwk:IntKind.i64.wrap (E - 25)=E - 25:=IntWalk.i64_in _ (by omega);have HC:=dh (Ldexp_any (E:=1033) (F:=m * 4398046511104) (G:=e + 1008) ⟨by omega,by omega,by omega,rfl⟩ ⟨by omega,by omega,by omega,hP⟩ (E - 25) (by omega) w);clear hP h31 h0 HR hfa;clear hN hM hE hG hg he hm hnan hres hpl hR X1;go_enter Tryd.func95,Tryd.ntmps95
  go_wp2_with (first | simp only [X1'] | simp only [X3] | (go_at_call 118;refine HC.out.mono ?_;rintro e' w' ⟨rfl,rfl⟩) | (go_at_call 119;refine HS.out.mono ?_;rintro e' w' ⟨rfl,rfl⟩))
  go_ret
  exact ⟨rfl,rfl⟩
 ·obtain rfl:G=1:=by omega
  have X1':=X1 (9223372036854775808 + Fl.posH e m) (by have:=HR.out;omega);by_cases h31:e=31
  ·obtain rfl:E=31:=by omega
   obtain rfl:M=0:=by omega
   have hP:Fl.posH e m=9218868437227405312:=by unfold Fl.posH;rw [if_pos h31]
   have HC:=dh (inf_any w);rw [hP] at HS X1';clear hP h31 HR;clear hN hM hE hG hg he hm hnan hres hpl hR X1;go_enter Tryd.func95,Tryd.ntmps95
   go_wp2_with (first | simp only [X1'] | (go_at_call 117;refine HC.out.mono ?_;rintro e' w' ⟨rfl,rfl⟩) | (go_at_call 119;refine HS.out.mono ?_;rintro e' w' ⟨rfl,rfl⟩))
   go_ret
   exact ⟨rfl,rfl⟩
  by_cases h0:e=0
  ·by_cases hm0:m=0
   ·obtain rfl:E=0:=by omega
    obtain rfl:M=0:=by omega
    have hP:Fl.posH e m=0:=by unfold Fl.posH;rw [if_neg h31,if_pos h0,if_pos hm0]
    have HC:=dh (Ldexp_zero (-24) w);have hF:floatOfInt .f64 0=0:=by kernel_rfl
    rw [hP] at HS X1';clear hP h31 h0 hm0 HR;clear hN hM hE hG hg he hm hnan hres hpl hR X1;go_enter Tryd.func95,Tryd.ntmps95
    go_wp2_with (first | simp only [X1'] | (simp only [hF];go_at_call 118;refine HC.out.mono ?_;rintro e' w' ⟨rfl,rfl⟩) | (go_at_call 118;refine HC.out.mono ?_;rintro e' w' ⟨rfl,rfl⟩) | (go_at_call 119;refine HS.out.mono ?_;rintro e' w' ⟨rfl,rfl⟩))
    go_ret
    exact ⟨rfl,rfl⟩
   ·obtain rfl:E=0:=by omega
    have hsn:=sub_norm hm0 hm;have HC:=dh (Ldexp_any hsn.1 hsn.2 (-24) (by omega) w);rw [← hM] at HC;rw [h0] at HS X1';clear hsn h31 h0 hm0 HR;clear hN hM hE hG hg he hm hnan hres hpl hR X1;go_enter Tryd.func95,Tryd.ntmps95
    go_wp2_with (first | simp only [X1'] | (go_at_call 118;refine HC.out.mono ?_;rintro e' w' ⟨rfl,rfl⟩) | (go_at_call 119;refine HS.out.mono ?_;rintro e' w' ⟨rfl,rfl⟩))
    go_ret
    exact ⟨rfl,rfl⟩
  have hE31:(E==31)=false:=(by simp;omega);have hE0:(E==0)=false:=(by simp;omega);have hP:Fl.posH e m=(e + 1008) * 4503599627370496 + m * 4398046511104:=by unfold Fl.posH;rw [if_neg h31,if_neg h0]
  have hfa:=float_add ⟨m,hm⟩;simp only at hfa;rw [← hM] at hfa;have X3:=fun W=>run_float_arith (P:=Tryd.prog) (w:=W) .add 146 .f64 _ _ _ hfa
  have hwk:IntKind.i64.wrap (E - 25)=E - 25:=IntWalk.i64_in _ (by omega);have HC:=dh (Ldexp_any (E:=1033) (F:=m * 4398046511104) (G:=e + 1008) ⟨by omega,by omega,by omega,rfl⟩ ⟨by omega,by omega,by omega,hP⟩ (E - 25) (by omega) w);clear hP h31 h0 HR hfa;clear hN hM hE hG hg he hm hnan hres hpl hR X1;go_enter Tryd.func95,Tryd.ntmps95
  go_wp2_with (first | simp only [X1'] | simp only [X3] | (go_at_call 118;refine HC.out.mono ?_;rintro e' w' ⟨rfl,rfl⟩) | (go_at_call 119;refine HS.out.mono ?_;rintro e' w' ⟨rfl,rfl⟩))
  go_ret
  exact ⟨rfl,rfl⟩
end Go.Proofs.YtelefkkkccilaaaDoor
