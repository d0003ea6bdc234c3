/- The walks of twin's name and node. -/
import Derived.Test.YtkgbjoepjcenlaaDoorWs
namespace Go.Proofs.YtkgbjoepjcenlaaDoor
open Go.RowKit
theorem tname_any (q : Int) (w : World) : Calls Tryd.prog 45 #[.int .i64 q] w fun e w' => e = .returned (.agg #[.int .i64 1, .int .i64 q, .slice none 0 0]) ∧ Below w.heap.size w w' := by
  have P1 := Lib.hid (pure_alloc w (.cells #[.int .i64 1, .int .i64 q, .slice none 0 0] 28))
  have N1 := alloc_new w (.cells #[.int .i64 1, .int .i64 q, .slice none 0 0] 28)
  go_enter Tryd.func45, Tryd.ntmps45
  go_wp2_with fail
  generalize w.alloc (.cells #[.int .i64 1, .int .i64 q, .slice none 0 0] 28) = w1 at *
  have p0 := cell_of_arr N1 0
  have p1 := cell_of_arr N1 1
  have p2 := cell_of_arr N1 2
  simp at p0 p1 p2
  refine bodyPost_ret (v := .agg #[.int .i64 1, .int .i64 q, .slice none 0 0]) (by simp [results, Tryd.results45, go_sem, p0, p1, p2]) rfl ?_
  exact ⟨rfl, P1.out⟩
theorem node_any (o : Int) (a : Option Addr) (n c : Nat) (w : World) : Calls Tryd.prog 47 #[.int .i64 o, .slice a n c] w fun e w' => e = .returned (.agg #[.int .i64 o, .int .i64 0, .slice a n c]) ∧ Below w.heap.size w w' := by
  have P1 := Lib.hid (pure_alloc w (.cells #[.int .i64 o, .int .i64 0, .slice a n c] 28))
  have N1 := alloc_new w (.cells #[.int .i64 o, .int .i64 0, .slice a n c] 28)
  go_enter Tryd.func47, Tryd.ntmps47
  go_wp2_with fail
  generalize w.alloc (.cells #[.int .i64 o, .int .i64 0, .slice a n c] 28) = w1 at *
  have p0 := cell_of_arr N1 0
  have p1 := cell_of_arr N1 1
  have p2 := cell_of_arr N1 2
  simp at p0 p1 p2
  refine bodyPost_ret (v := .agg #[.int .i64 o, .int .i64 0, .slice a n c]) (by simp [results, Tryd.results47, go_sem, p0, p1, p2]) rfl ?_
  exact ⟨rfl, P1.out⟩
end Go.Proofs.YtkgbjoepjcenlaaDoor
