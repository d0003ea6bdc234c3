/- The program's seven, joined. -/
import Derived.Test.YtelefkkkccilaaaDoorZk
set_option linter.unusedVariables false
set_option linter.unusedSimpArgs false
namespace Go.Proofs.YtelefkkkccilaaaDoor
open Go.RowKit
theorem sevenF_len {f k:Nat} (hk:k≠2):It.sevenF f k=if (It.flt f).length=1 + k then some (.mk 8 f [] []) else .none:=by
 unfold It.sevenF;by_cases h:(It.flt f).length=1 + k
 ·rw [if_pos h,if_neg]
  rintro (⟨h1,_⟩ | h2)
  ·rw [flt_nan_len h1] at h;omega
  ·exact h2 h
 ·rw [if_neg h,if_pos (.inr h)]
theorem seven25_eq {n:Nat} (hn:n < 65536):It.sevenF (Fl.widenH n) 2=if Fl.nanH n=true∧n≠32256 then .none else if (It.flt (Fl.widenP n)).length=3 then some (.mk 8 (Fl.widenP n) [] []) else .none:=by
 unfold It.sevenF Fl.widenP;cases hN:Fl.nanH n with
 | true=>
  obtain ⟨h1,h2⟩:=It.widenH_nan hn hN;simp only [if_true,true_and,h1];by_cases h3:n=32256
  ·have h4:=h2.2 h3
   rw [h4];simp only [h3,ne_eq,not_true_eq_false,false_or,if_false];have:(It.flt Fl.nan).length=3:=flt_nan_len It.nan_is;simp [this]
  ·have h4:Fl.widenH n≠Fl.nan:=fun h=>h3 (h2.1 h)
   rw [if_pos (.inl h4),if_pos h3]
 | false=>
  obtain ⟨_,_,h3⟩:=Fl.widenH_narrow hn hN;simp only [h3,Bool.false_eq_true,false_and,false_or,if_false];by_cases h:(It.flt (Fl.widenH n)).length=3 <;> simp [h]
def capN (low:Nat):Nat:=if low < 24 then 24 else if low=24 then 256 else if low=25 then 65536 else if low=26 then 4294967296 else 18446744073709551616
theorem seven_any (C N:Int) (n:Nat) (hN:N=n) (w:World) (c:Nat) (hc:c≤27) (hb:bits .and .u8 C 31=(c:Int)) (hn:n < capN c):
 Calls Tryd.prog 68 #[.int .u8 C,.int .u64 N] w (SevP (It.seven c n) w):=by
 unfold capN at hn;rcases (show c < 24∨c=24∨c=25∨c=26∨c=27 by omega) with h | h | h | h | h
 ·rw [if_pos h] at hn
  refine seven_low C N n hN w c h hb (by omega) _ ?_;unfold It.seven;rw [if_neg (by omega),if_neg (by omega),if_neg (by omega),if_neg (by omega)]
 ·subst h
  refine seven_24 C N n hN w hb (by simp at hn;omega) _ ?_;unfold It.seven;rw [if_pos rfl]
 ·subst h
  have hn':n < 65536:=by simpa using hn
  refine seven_25 C N n hN w hb hn' _ ?_;unfold It.seven;rw [if_neg (by decide),if_pos rfl];exact seven25_eq hn'
 ·subst h
  have hn':n < 4294967296:=by simpa using hn
  refine seven_26 C N n hN w hb hn' _ ?_;unfold It.seven;rw [if_neg (by decide),if_neg (by decide),if_pos rfl];exact sevenF_len (by decide)
 ·subst h
  have hn':n < 18446744073709551616:=by simpa using hn
  refine seven_27 C N n hN w hb hn' _ ?_;unfold It.seven;rw [if_neg (by decide),if_neg (by decide),if_neg (by decide),if_pos rfl];exact sevenF_len (by decide)
end Go.Proofs.YtelefkkkccilaaaDoor
