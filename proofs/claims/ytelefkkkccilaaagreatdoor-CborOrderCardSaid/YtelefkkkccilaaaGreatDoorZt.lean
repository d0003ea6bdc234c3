/- Rows appended to rows; Cmp as an operation. -/
import Derived.Test.YtelefkkkccilaaaGreatDoorZf
import Derived.Test.YtelefkkkccilaaaGreatDoorZg
import Derived.Test.YtelefkkkccilaaaGreatDoorZh
set_option linter.unusedVariables false
set_option linter.unusedSimpArgs false
namespace Go.Proofs.YtelefkkkccilaaaGreatDoor
open Go.RowKit
set_option maxRecDepth 100000
theorem TL.upto {ok : Nat → Prop} {w : World} {l : List It} {a : Option Addr} {n : Nat} (h : TL ok w l a n) {k : Nat} (hk : k ≤ n) : TL ok w (l.take k) a k := by
  obtain ⟨h1, h2, h3⟩ := h
  refine ⟨by rw [List.length_take]; omega, by omega, fun j hj => ?_⟩
  have hj' : j < l.length := by rw [List.length_take] at hj; omega
  rw [List.getElem_take]
  exact h3 j hj'
/-- A row that is appended to a row of one's own. -/
theorem app_rows {W : World} {base : Nat} {Q ok : Nat → Prop} {v : Value} {es : List (It × Ad)} (hO : OutI W base Q v es) {l : List It} {a : Option Addr} {n : Nat} (hT : TL ok W l a n) (hok : ∀ b, ok b → b < W.heap.size → okQ Q v b) (hsz : es.length + n ≤ 1000000) (hb : base ≤ W.heap.size) (c : Nat) :
    ∃ v' W' es2, (Builtin.append_ #[24, 24] 24 #[v, .slice a n c]).run Tryz.prog W = .ok v' W' ∧ es2.map (·.1) = l ∧ OutI W' base Q v' (es ++ es2) ∧ W.grownBy W' v.ownBlock := by
  obtain ⟨es2, h1, h2, h3⟩ := hT.src
  obtain ⟨v', W', h4, h5, h6, _⟩ := hO.app (news := es2) (c := c) h2 (fun e he => (h3 e he).imp fun b hb' hl => hok b hb' hl) hsz hb
  exact ⟨v', W', es2, h4, h1, h5, h6⟩
theorem q_ccmp {x y : It} {v u : Value} {w : World} (hE : Env w) (hx : (Fq.it x).holds v w) (hy : (Fq.it y).holds u w) : Calls Tryz.prog 65 #[v, u] w (EndQ w (.eq (.int .i64 (It.cmpI x y)))) := by
  obtain ⟨A, rfl, hI⟩ := hx
  obtain ⟨C, rfl, hJ⟩ := hy
  exact (ccmp_any x y A C w _ _ hI hJ hE).mono fun e w' h => ⟨_, h.1, h.2, trivial, rfl⟩
end Go.Proofs.YtelefkkkccilaaaGreatDoor
