/- The reference's Build. -/
import Derived.Test.YtelefkkkccilaaaDoorLJ
import Derived.Test.YtelefkkkccilaaaDoorLA
set_option linter.unusedVariables false
set_option linter.unusedSimpArgs false
namespace Go.Proofs.YtelefkkkccilaaaDoor
open Go.RowKit
set_option maxRecDepth 100000
theorem flat4_append (l m:List (It × Ad)):(l ++ m).flatMap cells4=l.flatMap cells4 ++ m.flatMap cells4:=by simp
theorem SrcI.take {W:World} {a:Option Addr} {n k:Nat} {es:List (It × Ad)} (h:SrcI W a n es) (hk:k≤n):SrcI W a k (es.take k):=by
 refine ⟨by rw [List.length_take];have:=h.1;omega,fun j u hu=>h.2 j u ?_⟩
 conv=>lhs;rw [← List.take_append_drop k es,flat4_append]
 have hj:j < ((es.take k).flatMap cells4).length:=by
  rcases Nat.lt_or_ge j ((es.take k).flatMap cells4).length with h | h
  ·exact h
  ·rw [List.getElem?_eq_none h] at hu;cases hu
 rw [List.getElem?_append_left hj];exact hu
theorem SrcI.drop {W:World} {g o n k:Nat} {es:List (It × Ad)} (h:SrcI W (some ⟨g,o,none⟩) n es) (hk:k≤n):SrcI W (some ⟨g,o + k * 4,none⟩) (n - k) (es.drop k):=by
 refine ⟨by rw [List.length_drop];have:=h.1;omega,fun j u hu=>?_⟩;have h1:=h.2 (k * 4 + j) u (by
  conv=>lhs;rw [← List.take_append_drop k es,flat4_append]
  have hl:((es.take k).flatMap cells4).length=k * 4:=by rw [flat4_len,List.length_take];have:=h.1;congr 1;omega
  rw [List.getElem?_append_right (by omega),hl];rw [show k * 4 + j - k * 4=j from by omega];exact hu)
 obtain ⟨b,o',e1,e2⟩:=h1;simp only [Option.some.injEq,Addr.mk.injEq,and_true] at e1;obtain ⟨rfl,rfl⟩:=e1;exact ⟨g,o + k * 4,rfl,by rw [Nat.add_assoc];exact e2⟩
theorem SrcI.nil (w:World):SrcI w none 0 []:=⟨rfl,fun j u h=>by simp at h⟩
end Go.Proofs.YtelefkkkccilaaaDoor
