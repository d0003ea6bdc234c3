/- Operations that cut and read a row of five terms; the loop at the end of Exchange. -/
import Derived.Test.YtkgbjoepjcenlaaDoorRk
namespace Go.Proofs.YtkgbjoepjcenlaaDoor
open Go.RowKit
theorem does_slice44 {B : Nat} {L : List (Nat × Tm)} {o : Oper} {ρ : Operand → Value} {w : World} (hG : GM B L w) (x : Operand) (g cap : Nat) (hcap : 5 ≤ cap) (ho : o.op = .slice 23 x none (some (.const (.int .i64 4))) (some (.const (.int .i64 4)))) (hx : ρ x = .slice (some ⟨g, 0, none⟩) 5 cap) (hc : ρ (.const (.int .i64 4)) = .int .i64 4) : Rg.Does Tryd.prog o ρ w fun v w' => RB w w' ∧ GM B L w' ∧ (Fa.eq (.slice (some ⟨g, 0, none⟩) 4 4)).holds B L v w' := by
  refine Rg.Does.value (v := .slice (some ⟨g, 0, none⟩) 4 4) (w' := w) ?_ ⟨RB.refl _, hG, rfl⟩
  have h1 : (4 : Int) ≤ (cap : Int) := by omega
  have h2 : 4 ≤ cap := by omega
  have h3 : ¬ cap < 4 := by omega
  simp only [execOp, ho, hx, hc, Option.map_some, Option.map_none]
  go_simp
theorem does_index4 {B : Nat} {L : List (Nat × Tm)} {o : Oper} {ρ : Operand → Value} {w : World} (hG : GM B L w) (x : Operand) (g cap : Nat) (ho : o.op = .indexAddr 23 x (.const (.int .i64 4))) (hx : ρ x = .slice (some ⟨g, 0, none⟩) 5 cap) (hc : ρ (.const (.int .i64 4)) = .int .i64 4) : Rg.Does Tryd.prog o ρ w fun v w' => RB w w' ∧ GM B L w' ∧ (Fa.eq (.pointer (some ⟨g, 12, none⟩))).holds B L v w' := by
  refine Rg.Does.value (v := .pointer (some ⟨g, 12, none⟩)) (w' := w) ?_ ⟨RB.refl _, hG, rfl⟩
  simp only [execOp, ho, hx, hc]
  go_simp
theorem does_load12 {B : Nat} {L : List (Nat × Tm)} {o : Oper} {ρ : Operand → Value} {w : World} (hG : GM B L w) (x : Operand) (g : Nat) (a b : Int) (an : Option Addr) (nn cc : Nat) (ho : o.op = .load 28 x) (hx : ρ x = .pointer (some ⟨g, 12, none⟩)) (c0 : w.cell? ⟨g, 12, none⟩ = some (.int .i64 a)) (c1 : w.cell? ⟨g, 13, none⟩ = some (.int .i64 b)) (c2 : w.cell? ⟨g, 14, none⟩ = some (.slice an nn cc)) : Rg.Does Tryd.prog o ρ w fun v w' => RB w w' ∧ GM B L w' ∧ (Fa.eq (.agg #[.int .i64 a, .int .i64 b, .slice an nn cc])).holds B L v w' := by
  refine Rg.Does.value (v := .agg #[.int .i64 a, .int .i64 b, .slice an nn cc]) (w' := w) ?_ ⟨RB.refl _, hG, rfl⟩
  simp only [execOp, ho, hx]
  go_simp
def XLoop (w : World) (ms : List Tm) (Z0 : Nat) (ml : Option Addr) (k v : Value) (W : World) : Prop := ∃ (j : Nat) (es : List Elem), j ≤ 5 ∧ k = .int .i64 j ∧ OutT W Z0 (w.heap.size + 1) w.heap.size v es ((ms.take j).map Tm.normal) ∧ TL (fun k => w.heap.size < k ∧ k < Z0) W ms ml 5 ∧ Below w.heap.size w W ∧ W.heap[w.heap.size]? = some (.cells #[.int .i64 0, .int .i64 0, .slice none 0 0] 28 (0, 0)) ∧ v.ownBlock ≠ some w.heap.size ∧ Z0 ≤ W.heap.size
/-- What a round leaves. -/
theorem XLoop.next {w wr w3 : World} {ms : List Tm} {Z0 j : Nat} {ml : Option Addr} {es : List Elem} {v : Value} (hZl : w.heap.size < Z0) (hml : ms.length = 5) (hj : j < 5) (hO : OutT wr Z0 (w.heap.size + 1) w.heap.size v es ((ms.take j).map Tm.normal)) (hTL : TL (fun k => w.heap.size < k ∧ k < Z0) wr ms ml 5) (hB : Below w.heap.size w wr) (hZ : wr.heap[w.heap.size]? = some (.cells #[.int .i64 0, .int .i64 0, .slice none 0 0] 28 (0, 0))) (hX : v.ownBlock ≠ some w.heap.size) (hZw : Z0 ≤ wr.heap.size)
    (hw3 : RB wr w3) {k : Tm} (hk : k = ms[j]'(by omega)) {ra : Option Addr} {rn rc : Nat} (hTR : TR (fun b => wr.heap.size ≤ b) w3 (Tm.normal k) ra rn) (hrc : rn ≤ rc) :
    ∃ v' w6, (Builtin.append_ #[23, 23] 23 #[v, .slice (some ⟨(w3.alloc (.cells #[.int .i64 (Tm.normal k).op, .int .i64 (Tm.normal k).num, .slice ra rn rc] 28)).heap.size, 0, none⟩) 1 1]).run Tryd.prog ((w3.alloc (.cells #[.int .i64 (Tm.normal k).op, .int .i64 (Tm.normal k).num, .slice ra rn rc] 28)).alloc (.cells #[.int .i64 (Tm.normal k).op, .int .i64 (Tm.normal k).num, .slice ra rn rc] 28)) = .ok v' w6 ∧ ∀ i : Value, i = .int .i64 ((j + 1 : Nat) : Int) → XLoop w ms Z0 ml i v' w6 := by
  have hs : w.heap.size < wr.heap.size := lt_of_block hZ
  have hw5 : RB wr ((w3.alloc (.cells #[.int .i64 (Tm.normal k).op, .int .i64 (Tm.normal k).num, .slice ra rn rc] 28)).alloc (.cells #[.int .i64 (Tm.normal k).op, .int .i64 (Tm.normal k).num, .slice ra rn rc] 28)) := pure_trans (pure_trans hw3 (pure_alloc _ _)) (pure_alloc _ _)
  have hT5 := (hTR.below (pure_alloc w3 (.cells #[.int .i64 (Tm.normal k).op, .int .i64 (Tm.normal k).num, .slice ra rn rc] 28))).below (pure_alloc _ (.cells #[.int .i64 (Tm.normal k).op, .int .i64 (Tm.normal k).num, .slice ra rn rc] 28))
  have N5 := alloc_new (w3.alloc (.cells #[.int .i64 (Tm.normal k).op, .int .i64 (Tm.normal k).num, .slice ra rn rc] 28)) (.cells #[.int .i64 (Tm.normal k).op, .int .i64 (Tm.normal k).num, .slice ra rn rc] 28)
  have hO5 := hO.pure hw5
  obtain ⟨v', w6, hrun, hO6, hgr, hob, hoX⟩ := hO5.push (c := 1) (e := ⟨(Tm.normal k).op, (Tm.normal k).num, ra, rn, rc⟩) (t := Tm.normal k) N5 rfl rfl hrc (hT5.imp fun b hb _ => ⟨by have : wr.heap.size ≤ b := hb; omega, by have : wr.heap.size ≤ b := hb; omega, fun e => by have h1 := (own_lt hO.row e).1; have : wr.heap.size ≤ b := hb; omega⟩) (by simp; omega) (by have := hw5.size; omega) hX (by have := hw5.size; omega)
  have htk : (ms.take j).map Tm.normal ++ [Tm.normal k] = (ms.take (j + 1)).map Tm.normal := by
    rw [List.take_succ_eq_append_getElem (by omega), List.map_append, hk]; rfl
  rw [htk] at hO6
  have hg : ∀ g, v.ownBlock = some g → Z0 ≤ g := fun g h => (own_lt hO.row h).2.1
  refine ⟨v', w6, hrun, fun i hi => ⟨j + 1, _, by omega, hi, hO6, ?_, ?_, ?_, hoX, ?_⟩⟩
  · refine hTL.keep fun b hb hl => ⟨?_, hb⟩
    refine (hgr.block b (by have := hw5.size; omega) fun e => ?_).trans (hw5.block b hl)
    have := hg b e.symm
    have : b < Z0 := hb.2
    omega
  · have h1 := hB.trans (hw5.mono hB.size)
    refine ⟨hgr.os.trans h1.os, hgr.tape.trans h1.tape, hgr.output.trans h1.output, Nat.le_trans h1.size hgr.size, fun i hi => (hgr.block i (by have := h1.size; omega) fun e => ?_).trans (h1.block i hi)⟩
    have := hg i e.symm
    omega
  · refine (hgr.block _ (by have := hw5.size; omega) fun e => hX e.symm).trans ((hw5.block _ hs).trans hZ)
  · have := hw5.size; have := hgr.size; omega
end Go.Proofs.YtkgbjoepjcenlaaDoor
