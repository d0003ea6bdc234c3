/- Floats that the widening meets. -/
import Derived.Test.YtelefkkkccilaaaDoorLA
import Derived.Laws.FloatArith
set_option linter.unusedVariables false
set_option linter.unusedSimpArgs false
namespace Go.Proofs.YtelefkkkccilaaaDoor
open Go.RowKit
set_option maxRecDepth 100000
namespace Fl
theorem read_one:Ieee.double.read 4607182418800017408=.number false 4503599627370496 (-52):=by kernel_rfl
theorem mul_one {e m:Nat} (h1:1≤e) (h2:e < 2047) (hm:m < 4503599627370496):floatBits .mul .f64 4607182418800017408 (e * 4503599627370496 + m)=some (e * 4503599627370496 + m):=by
 show Ieee.double.mul _ _=_
 unfold Ieee.Format.mul;have r2:=readD 0 e m (by omega) (by omega) hm;rw [Nat.zero_mul,Nat.zero_add,if_neg (by omega),if_pos h2] at r2;rw [read_one,r2]
 show some (Ieee.double.nearest _ _ _)=_
 congr 1
 have hl:(4503599627370496 * (m + 4503599627370496)).log2=104:=log2_of (by omega) (by omega);have hs:∃ b,b=(false ^^ (0 % 2==1)):=⟨_,rfl⟩;rw [nearest_at Ieee.double _ (4503599627370496 * (m + 4503599627370496)) (-52 + ((e:Int) - 1075)) ((e:Int) - 1075) (by omega) (by rw [d4,d5,hl];omega),d4,d2,d3];have e1:((-52 + ((e:Int) - 1075)) - ((e:Int) - 1075)).toNat=0:=by omega
 have e2:(((e:Int) - 1075) - (-52 + ((e:Int) - 1075))).toNat=52:=by omega
 have e3:(((e:Int) - 1075) - -1074).toNat=e - 1:=by omega
 rw [e1,e2,e3,Nat.shiftLeft_zero,cut_exact (by omega) (by omega) (by rw [show (2:Nat) ^ 52=4503599627370496 from by decide];omega)];have e4:4503599627370496 * (m + 4503599627370496) / 2 ^ 52=m + 4503599627370496:=by rw [show (2:Nat) ^ 52=4503599627370496 from by decide];omega
 rw [e4];have e5:min ((e - 1) * 4503599627370496 + (m + 4503599627370496)) 9218868437227405312=e * 4503599627370496 + m:=by omega
 rw [e5];have:=wordD 0 (by omega) (e * 4503599627370496 + m);rw [Nat.zero_mul,Nat.zero_add] at this;exact this
end Fl
end Go.Proofs.YtelefkkkccilaaaDoor
