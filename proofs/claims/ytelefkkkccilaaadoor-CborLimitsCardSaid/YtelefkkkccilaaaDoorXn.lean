/- The reference's Build. -/
import Derived.Test.YtelefkkkccilaaaDoorLJ
import Derived.Test.YtelefkkkccilaaaDoorLA
set_option linter.unusedVariables false
set_option linter.unusedSimpArgs false
namespace Go.Proofs.YtelefkkkccilaaaDoor
open Go.RowKit
set_option maxRecDepth 100000
theorem OutI.tl' {W:World} {base:Nat} {Q:Nat→Prop} {a:Option Addr} {L c:Nat} {es:List (It × Ad)} (h:OutI W base Q (.slice a L c) es):TL (fun b=>base≤b∨Q b) W (es.map (·.1)) a L∧L=es.length∧L≤c∧c≤9223372036854775807:=by
 obtain ⟨a',c',e,h1,h2,h3⟩:=h.tl;simp only [Value.slice.injEq] at e;obtain ⟨rfl,rfl,rfl⟩:=e;exact ⟨h1,rfl,h2,h3⟩
theorem flat4_append (l m:List (It × Ad)):(l ++ m).flatMap cells4=l.flatMap cells4 ++ m.flatMap cells4:=by simp
theorem SrcI.take {W:World} {a:Option Addr} {n k:Nat} {es:List (It × Ad)} (h:SrcI W a n es) (hk:k≤n):SrcI W a k (es.take k):=by
 refine ⟨by rw [List.length_take];have:=h.1;omega,fun j u hu=>h.2 j u ?_⟩
 conv=>lhs;rw [← List.take_append_drop k es,flat4_append]
 have hj:j < ((es.take k).flatMap cells4).length:=by
  rcases Nat.lt_or_ge j ((es.take k).flatMap cells4).length with h | h
  ·exact h
  ·rw [List.getElem?_eq_none h] at hu;cases hu
 rw [List.getElem?_append_left hj];exact hu
theorem SrcI.drop {W:World} {g o n k:Nat} {es:List (It × Ad)} (h:SrcI W (some ⟨g,o,none⟩) n es) (hk:k≤n):SrcI W (some ⟨g,o + k * 4,none⟩) (n - k) (es.drop k):=by
 refine ⟨by rw [List.length_drop];have:=h.1;omega,fun j u hu=>?_⟩;have h1:=h.2 (k * 4 + j) u (by
  conv=>lhs;rw [← List.take_append_drop k es,flat4_append]
  have hl:((es.take k).flatMap cells4).length=k * 4:=by rw [flat4_len,List.length_take];have:=h.1;congr 1;omega
  rw [List.getElem?_append_right (by omega),hl];rw [show k * 4 + j - k * 4=j from by omega];exact hu)
 obtain ⟨b,o',e1,e2⟩:=h1;simp only [Option.some.injEq,Addr.mk.injEq,and_true] at e1;obtain ⟨rfl,rfl⟩:=e1;exact ⟨g,o + k * 4,rfl,by rw [Nat.add_assoc];exact e2⟩
theorem pairsK_get:∀ {l:List It} {q:Nat} (h:2 * q + 1 < l.length),(It.pairsK l)[q]?=some (l[2 * q],l[2 * q + 1])
 | [],q,h=>by simp at h
 | [_],q,h=>by simp at h
 | k :: v :: l,0,h=>by simp [It.pairsK]
 | k :: v :: l,q + 1,h=>by
  have:=pairsK_get (l:=l) (q:=q) (by simp at h;omega);simp only [It.pairsK,List.getElem?_cons_succ,this];congr 1
theorem SrcI.nil (w:World):SrcI w none 0 []:=⟨rfl,fun j u h=>by simp at h⟩
def VL (ps:List It) (j:Nat):Prop:=∀ q (h:q < ps.length),q < j→It.valid ps[q]=true
theorem valid_wf {x:It} (h:It.valid x=true):It.wf 8 x=true∧(It.enc x).length≤4096∧It.nodes x≤256:=by
 unfold It.valid at h;simp only [Bool.and_eq_true,decide_eq_true_eq] at h;exact ⟨h.1.1,h.2,h.1.2⟩
def BPost (r:It.MR) (w:World) (e:Ending) (w':World):Prop:=match r with
 | .err n=>e=.returned (.tuple #[.agg #[.int .i64 0,.int .u64 0,.slice none 0 0,.slice none 0 0],.int .i64 n])∧Below w.heap.size w w'
 | .ok x=>∃ A:Ad,e=.returned (.tuple #[.agg #[.int .i64 x.kind,.int .u64 (x.num:Int),.slice A.ab A.nb A.cb,.slice A.ai A.ni A.ci],.int .i64 0])∧IR (fun b=>w.heap.size≤b) w' x A∧Below w.heap.size w w'
end Go.Proofs.YtelefkkkccilaaaDoor
