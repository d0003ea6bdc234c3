/- Regions of pure operations on items: facts that the operations hand on. -/
import Derived.Test.YtelefkkkccilaaaGreatDoorRg
import Derived.Test.YtelefkkkccilaaaGreatDoorLJ
set_option linter.unusedVariables false
set_option linter.unusedSimpArgs false
namespace Go.Proofs.YtelefkkkccilaaaGreatDoor
open Go.RowKit
set_option maxRecDepth 100000
def RB (w w' : World) : Prop := Below w.heap.size w w'
theorem RB.refl (w : World) : RB w w := Below.refl _ _
theorem RB.trans (u v w : World) (h : RB u v) (k : RB v w) : RB u w := pure_trans h k
theorem RB.drew (w : World) : RB w w.drew := (Below.refl _ _).drew
/-- What is known of a value. -/
inductive Fq where
  | eq (v : Value)
  | it (x : It)
  | rw (l : List It)
  | any
def Fq.holds : Fq → Value → World → Prop
  | .eq v0, v, _ => v = v0
  | .it x, v, w => ∃ A : Ad, v = .agg #[.int .i64 x.kind, .int .u64 (x.num : Int), .slice A.ab A.nb A.cb, .slice A.ai A.ni A.ci] ∧ IR (fun _ => True) w x A
  | .rw l, v, w => ∃ (a : Option Addr) (c : Nat), v = .slice a l.length c ∧ TL (fun _ => True) w l a l.length ∧ l.length ≤ c ∧ c ≤ 9223372036854775807
  | .any, _, _ => True
theorem Fq.stable (f : Fq) (v : Value) (w w' : World) (h : RB w w') (hf : f.holds v w) : f.holds v w' := by
  cases f with
  | eq v0 => exact hf
  | it x =>
    obtain ⟨A, e, hI⟩ := hf
    exact ⟨A, e, hI.below h⟩
  | rw l =>
    obtain ⟨a, c, e, hT, hc⟩ := hf
    exact ⟨a, c, e, hT.below h, hc⟩
  | any => trivial
abbrev factq (l : List Fq) (j : Nat) : Value → World → Prop := Fq.holds (l.getD j .any)
theorem region_q {M id : Nat} {b : Bool} {w : World} {Q : Exit → Act → World → Prop} {ops : Array Oper} {a0 : Act} (l : List Fq) (hok : Rg.okB ops M a0.tmps.size = true) (ht : (if b then Rg.tailB ops M else decide (M ≤ ops.size)) = true)
    (hs : Rg.Steps Tryz.prog a0 ops w RB (fun _ => True) (factq l) 0 (ops.toList.take M))
    (hend : ∀ vs w', RB w w' → True → (∀ j, j < M → factq l j (vs j) w') → wpList Tryz.prog ops Q (ops.toList.drop M) (Rg.putAll ops M vs a0) w') : (Code.region id ops b).wp Tryz.prog Q a0 w :=
  Rg.region_of RB (fun _ => True) (factq l) (by kernel_rfl) RB.refl RB.trans RB.drew (fun _ _ _ _ h hf => Fq.stable _ _ _ _ h hf) hok ht (fun _ => trivial) trivial hs hend
/-- What a call leaves. -/
def EndQ (w : World) (f : Fq) (e : Ending) (w' : World) : Prop := ∃ v, e = .returned v ∧ RB w w' ∧ True ∧ f.holds v w'
theorem EndQ.ip {x : It} {w : World} {e : Ending} {w' : World} (h : IP x w e w') : EndQ w (.it x) e w' := by
  obtain ⟨A, rfl, hI, hB⟩ := h
  exact ⟨_, rfl, hB, trivial, A, rfl, hI.imp fun _ _ _ => trivial⟩
theorem EndQ.bool {b : Bool} {w : World} {e : Ending} {w' : World} (h : e = .returned (.bool b) ∧ Below w.heap.size w w') : EndQ w (.eq (.bool b)) e w' := ⟨_, h.1, h.2, trivial, rfl⟩
theorem cfq (f : FuncId) (fn : Func) (hf : Tryz.prog.funcs[f]? = some fn) (hn : (fn.name == "runtime.NumGoroutine") = false) (hb : fn.body.isNone = false) (vals : Array Value) (w : World) : (callFunc f vals).run Tryz.prog w = .ok (.enter f vals) w := by
  unfold callFunc
  simp only [Sem.run_bind, run_program, Result.andThen_ok, hf]
  simp [hn, hb]
theorem does_q {o : Oper} {ρ : Operand → Value} {w : World} {q : Fq} (f : FuncId) (fo : Operand) (args : Array Operand) (ts : Array TypeId) (ho : o.op = .call { callee := .value fo, args := args, argTypes := ts }) (hf : ρ fo = .func (.func f) #[] #[]) {vals : Array Value} (hv : args.map ρ = vals)
    (hcf : ∀ w, (callFunc f vals).run Tryz.prog w = .ok (.enter f vals) w) (h : Calls Tryz.prog f vals w (EndQ w q)) : Rg.Does Tryz.prog o ρ w fun v w' => RB w w' ∧ True ∧ q.holds v w' :=
  Rg.Does.call f fo args ts ho hf hv hcf h
theorem does_pick_t {o : Oper} {ρ : Operand → Value} {w : World} {f : Fq} (c x y : Operand) (ho : o.op = .pick c x y) (hc : ρ c = .bool true) (hk : f.holds (ρ x) w) : Rg.Does Tryz.prog o ρ w fun v w' => RB w w' ∧ True ∧ f.holds v w' :=
  Rg.Does.value (v := ρ x) (w' := w) (by simp [execOp, ho, hc, asBool]) ⟨RB.refl _, trivial, hk⟩
theorem does_pick_f {o : Oper} {ρ : Operand → Value} {w : World} {f : Fq} (c x y : Operand) (ho : o.op = .pick c x y) (hc : ρ c = .bool false) (hk : f.holds (ρ y) w) : Rg.Does Tryz.prog o ρ w fun v w' => RB w w' ∧ True ∧ f.holds v w' :=
  Rg.Does.value (v := ρ y) (w' := w) (by simp [execOp, ho, hc, asBool]) ⟨RB.refl _, trivial, hk⟩
theorem does_loadI {o : Oper} {ρ : Operand → Value} {w : World} {ok : Nat → Prop} (p : Operand) (b : Nat) (x : It) (A : Ad) (ho : o.op = .load 26 p) (hp : ρ p = .pointer (some ⟨b, 0, none⟩)) (hb : w.heap[b]? = some (.cells #[.int .i64 x.kind, .int .u64 (x.num : Int), .slice A.ab A.nb A.cb, .slice A.ai A.ni A.ci] 26 (0, 0))) (hI : IR ok w x A) : Rg.Does Tryz.prog o ρ w fun v w' => RB w w' ∧ True ∧ (Fq.it x).holds v w' := by
  obtain ⟨p0, p1, p2, p3⟩ := cell_of4 hb
  refine Rg.Does.value (v := (.agg #[.int .i64 x.kind, .int .u64 (x.num : Int), .slice A.ab A.nb A.cb, .slice A.ai A.ni A.ci])) (w' := w) ?_ ⟨RB.refl _, trivial, A, rfl, hI.imp fun _ _ _ => trivial⟩
  have hr : (Instr.loadAt 26 (.pointer (some ⟨b, 0, none⟩))).run Tryz.prog w = .ok (.agg #[.int .i64 x.kind, .int .u64 (x.num : Int), .slice A.ab A.nb A.cb, .slice A.ai A.ni A.ci]) w := by
    clear hb
    go_simp
  simp only [execOp, ho, hp, Sem.run_bind, hr, Result.andThen_ok, Sem.run_pure]
theorem run_row1 (k0 N0 : Int) (ab0 ai0 : Option Addr) (nb0 cb0 ni0 ci0 : Nat) (w : World) : (Instr.buildSlice 24 1 #[(0, .agg #[.int .i64 k0, .int .u64 N0, .slice ab0 nb0 cb0, .slice ai0 ni0 ci0])]).run Tryz.prog w = .ok (.slice (some ⟨w.heap.size, 0, none⟩) 1 1) (w.alloc (.cells #[.int .i64 k0, .int .u64 N0, .slice ab0 nb0 cb0, .slice ai0 ni0 ci0] 26)) := by
  go_simp
theorem does_row1 {o : Oper} {ρ : Operand → Value} {w : World} (o0 : Operand) (x0 : It) (ho : o.op = .buildSlice 24 1 #[(0, o0)]) (h0 : (Fq.it x0).holds (ρ o0) w) : Rg.Does Tryz.prog o ρ w fun v w' => RB w w' ∧ True ∧ (Fq.rw [x0]).holds v w' := by
  obtain ⟨A0, e0, hI0⟩ := h0
  have hP := pure_alloc w (.cells #[.int .i64 x0.kind, .int .u64 (x0.num : Int), .slice A0.ab A0.nb A0.cb, .slice A0.ai A0.ni A0.ci] 26)
  have hN := alloc_new w (.cells #[.int .i64 x0.kind, .int .u64 (x0.num : Int), .slice A0.ab A0.nb A0.cb, .slice A0.ai A0.ni A0.ci] 26)
  refine Rg.Does.value (v := .slice (some ⟨w.heap.size, 0, none⟩) 1 1) (w' := w.alloc (.cells #[.int .i64 x0.kind, .int .u64 (x0.num : Int), .slice A0.ab A0.nb A0.cb, .slice A0.ai A0.ni A0.ci] 26)) ?_ ⟨hP, trivial, some ⟨w.heap.size, 0, none⟩, 1, rfl, ⟨rfl, by simp, fun j hj => ?_⟩, by simp, by simp⟩
  · have hr := run_row1 x0.kind (x0.num : Int) A0.ab A0.ai A0.nb A0.cb A0.ni A0.ci w
    simp only [execOp, ho, List.map_toArray, List.map_cons, List.map_nil, e0, Sem.run_bind, hr, Result.andThen_ok, Sem.run_pure]
  · have hj : j < 1 := hj
    rcases (show j = 0 by omega) with rfl
    · exact ⟨w.heap.size, 0, A0, rfl, trivial, ⟨cell_of_arr hN _, cell_of_arr hN _, cell_of_arr hN _, cell_of_arr hN _⟩, hI0.below hP⟩
theorem run_row2 (k0 N0 : Int) (ab0 ai0 : Option Addr) (nb0 cb0 ni0 ci0 : Nat) (k1 N1 : Int) (ab1 ai1 : Option Addr) (nb1 cb1 ni1 ci1 : Nat) (w : World) : (Instr.buildSlice 24 2 #[(0, .agg #[.int .i64 k0, .int .u64 N0, .slice ab0 nb0 cb0, .slice ai0 ni0 ci0]), (1, .agg #[.int .i64 k1, .int .u64 N1, .slice ab1 nb1 cb1, .slice ai1 ni1 ci1])]).run Tryz.prog w = .ok (.slice (some ⟨w.heap.size, 0, none⟩) 2 2) (w.alloc (.cells #[.int .i64 k0, .int .u64 N0, .slice ab0 nb0 cb0, .slice ai0 ni0 ci0, .int .i64 k1, .int .u64 N1, .slice ab1 nb1 cb1, .slice ai1 ni1 ci1] 26)) := by
  go_simp
theorem does_row2 {o : Oper} {ρ : Operand → Value} {w : World} (o0 o1 : Operand) (x0 x1 : It) (ho : o.op = .buildSlice 24 2 #[(0, o0), (1, o1)]) (h0 : (Fq.it x0).holds (ρ o0) w) (h1 : (Fq.it x1).holds (ρ o1) w) : Rg.Does Tryz.prog o ρ w fun v w' => RB w w' ∧ True ∧ (Fq.rw [x0, x1]).holds v w' := by
  obtain ⟨A0, e0, hI0⟩ := h0
  obtain ⟨A1, e1, hI1⟩ := h1
  have hP := pure_alloc w (.cells #[.int .i64 x0.kind, .int .u64 (x0.num : Int), .slice A0.ab A0.nb A0.cb, .slice A0.ai A0.ni A0.ci, .int .i64 x1.kind, .int .u64 (x1.num : Int), .slice A1.ab A1.nb A1.cb, .slice A1.ai A1.ni A1.ci] 26)
  have hN := alloc_new w (.cells #[.int .i64 x0.kind, .int .u64 (x0.num : Int), .slice A0.ab A0.nb A0.cb, .slice A0.ai A0.ni A0.ci, .int .i64 x1.kind, .int .u64 (x1.num : Int), .slice A1.ab A1.nb A1.cb, .slice A1.ai A1.ni A1.ci] 26)
  refine Rg.Does.value (v := .slice (some ⟨w.heap.size, 0, none⟩) 2 2) (w' := w.alloc (.cells #[.int .i64 x0.kind, .int .u64 (x0.num : Int), .slice A0.ab A0.nb A0.cb, .slice A0.ai A0.ni A0.ci, .int .i64 x1.kind, .int .u64 (x1.num : Int), .slice A1.ab A1.nb A1.cb, .slice A1.ai A1.ni A1.ci] 26)) ?_ ⟨hP, trivial, some ⟨w.heap.size, 0, none⟩, 2, rfl, ⟨rfl, by simp, fun j hj => ?_⟩, by simp, by simp⟩
  · have hr := run_row2 x0.kind (x0.num : Int) A0.ab A0.ai A0.nb A0.cb A0.ni A0.ci x1.kind (x1.num : Int) A1.ab A1.ai A1.nb A1.cb A1.ni A1.ci w
    simp only [execOp, ho, List.map_toArray, List.map_cons, List.map_nil, e0, e1, Sem.run_bind, hr, Result.andThen_ok, Sem.run_pure]
  · have hj : j < 2 := hj
    rcases (show j = 0 ∨ j = 1 by omega) with rfl | rfl
    · exact ⟨w.heap.size, 0, A0, rfl, trivial, ⟨cell_of_arr hN _, cell_of_arr hN _, cell_of_arr hN _, cell_of_arr hN _⟩, hI0.below hP⟩
    · exact ⟨w.heap.size, 0, A1, rfl, trivial, ⟨cell_of_arr hN _, cell_of_arr hN _, cell_of_arr hN _, cell_of_arr hN _⟩, hI1.below hP⟩
end Go.Proofs.YtelefkkkccilaaaGreatDoor
