/- The walk of sides. -/
import Derived.Test.YtkgbjoepjcenlaaDoorFb
import Derived.Test.YtkgbjoepjcenlaaDoorGa
namespace Go.Proofs.YtkgbjoepjcenlaaDoor
open Go.RowKit
namespace Tm
theorem wf_nz : ∀ t : Tm, wf t = true → nz t = true := by
  intro t
  refine Tm.rec (motive_1 := fun t => wf t = true → nz t = true) (motive_2 := fun l => ∀ t ∈ l, wf t = true → nz t = true) ?_ ?_ ?_ t
  · intro o n ks ih h
    have h1 := wf_kids h
    have ho := okN_op h1.1
    unfold nz
    rw [Bool.and_eq_true]
    refine ⟨?_, nzs_of fun k hk => ih k hk ((wfs_iff _).1 h1.2 k hk)⟩
    have : o ≠ 0 := by
      have ho' : o = 1 ∨ o = 2 ∨ o = 3 ∨ o = 4 ∨ o = 5 ∨ o = 6 ∨ o = 7 ∨ o = 8 := ho
      omega
    simpa using this
  · intro t ht; simp at ht
  · intro k ks h1 h2 t ht
    rcases List.mem_cons.1 ht with rfl | ht
    · exact h1
    · exact h2 t ht
theorem shaped_nz {t : Tm} {d : Nat} (h : shaped t d = true) : nz t = true := wf_nz t (shaped_wf t d h)
end Tm
theorem tr_nz {ok : Nat → Prop} {w : World} {b : Nat} (hb : w.heap[b]? = some (.cells #[.int .i64 0, .int .i64 0, .slice none 0 0] 28 (0, 0))) {t : Tm} (hz : Tm.nz t = true) {a : Option Addr} {n : Nat} (hT : TR ok w t a n) : TR (fun k => ok k ∧ k ≠ b) w t a n := by
  revert a n
  refine Tm.rec (motive_1 := fun t => Tm.nz t = true → ∀ {a : Option Addr} {n : Nat}, TR ok w t a n → TR (fun k => ok k ∧ k ≠ b) w t a n) (motive_2 := fun l => ∀ t ∈ l, Tm.nz t = true → ∀ {a : Option Addr} {n : Nat}, TR ok w t a n → TR (fun k => ok k ∧ k ≠ b) w t a n) ?_ ?_ ?_ t hz
  · intro o m ks ih hz a n h
    rw [TR_iff] at h ⊢
    unfold Tm.nz at hz
    rw [Bool.and_eq_true] at hz
    refine ⟨h.1, h.2.1, fun j hj => ?_⟩
    obtain ⟨b', o', an, nn, cc, e, hb', c0, c1, c2, ht⟩ := h.2.2 j hj
    have hzj := Tm.nzs_mem hz.2 _ (List.getElem_mem hj)
    refine ⟨b', o', an, nn, cc, e, ⟨⟨hb'.1, fun hbb => ?_⟩, hb'.2⟩, c0, c1, c2, ih _ (List.getElem_mem hj) hzj ht⟩
    subst hbb
    rw [cell_of_arr hb] at c0
    have hop : (Tm.kids (.mk o m ks))[j].op ≠ 0 := by
      cases hk : (Tm.kids (.mk o m ks))[j] with
      | mk o1 m1 ks1 =>
        rw [hk] at hzj
        unfold Tm.nz at hzj
        rw [Bool.and_eq_true] at hzj
        simpa [Tm.op] using hzj.1
    rcases hq : o' + j * 3 with _ | _ | _ | q
    · rw [hq] at c0; simp at c0; exact hop c0.symm
    · rw [hq] at c0; simp at c0; exact hop c0.symm
    · rw [hq] at c0; simp at c0
    · rw [hq] at c0; simp at c0
  · intro t ht; simp at ht
  · intro k ks h1 h2 t ht
    rcases List.mem_cons.1 ht with rfl | ht
    · exact h1
    · exact h2 t ht
/-- What is known of a value in sides; b is the deck's block. -/
inductive Fs where
  | eq (v : Value)
  | tm (t : Tm)
  | tmd (d : Nat)
  | row (t : Tm) (d : Nat)
  | bld (o m : Int) (t : Tm) (d : Nat)
  | four (x y z : Tm) (d : Nat)
  | cell (lo : Nat)
  | any
def isTm (b : Nat) (t : Tm) (v : Value) (w : World) : Prop := ∃ a n c, v = .agg #[.int .i64 t.op, .int .i64 t.num, .slice a n c] ∧ TR (fun k => k ≠ b) w t a n ∧ n ≤ c
def Fs.holds (b : Nat) : Fs → Value → World → Prop
  | .eq v0, v, _ => v = v0
  | .tm t, v, w => isTm b t v w
  | .tmd d, v, w => ∃ t, Tm.shaped t d = true ∧ isTm b t v w
  | .row t d, v, w => ∃ t', Tm.shaped t' d = true ∧ ∃ a c, v = .slice a 2 c ∧ TL (fun k => k ≠ b) w [t, t'] a 2 ∧ 2 ≤ c
  | .bld o m t d, v, w => ∃ t', Tm.shaped t' d = true ∧ ∃ a c, v = .agg #[.int .i64 o, .int .i64 m, .slice a 2 c] ∧ TL (fun k => k ≠ b) w [t, t'] a 2 ∧ 2 ≤ c
  | .four x y z d, v, w => ∃ t', Tm.shaped t' d = true ∧ ∃ g, v = .slice (some ⟨g, 0, none⟩) 4 4 ∧ TL (fun k => k ≠ b) w [x, y, z, t'] (some ⟨g, 0, none⟩) 4
  | .cell lo, v, w => ∃ q, v = .pointer (some ⟨q, 0, none⟩) ∧ w.heap[q]? = some (.cells #[.int .i64 0, .int .i64 0, .slice none 0 0] 28 (0, 0)) ∧ lo ≤ q ∧ q ≠ b
  | .any, _, _ => True
theorem But.ne {b : Nat} {w w' : World} (h : But b w w') (k : Nat) (hk : k ≠ b) (hl : k < w.heap.size) : w'.heap[k]? = w.heap[k]? ∧ k ≠ b := ⟨h.block k hl hk, hk⟩
theorem Fs.stable (b : Nat) (f : Fs) (v : Value) (w w' : World) (h : But b w w') (hf : f.holds b v w) : f.holds b v w' := by
  cases f with
  | eq v0 => exact hf
  | tm t =>
    obtain ⟨a, n, c, e, hT, hn⟩ := hf
    exact ⟨a, n, c, e, hT.keep fun k hk hl => h.ne k hk hl, hn⟩
  | tmd d =>
    obtain ⟨t, hs, a, n, c, e, hT, hn⟩ := hf
    exact ⟨t, hs, a, n, c, e, hT.keep fun k hk hl => h.ne k hk hl, hn⟩
  | row t d =>
    obtain ⟨t', hs, a, c, e, hT, hn⟩ := hf
    exact ⟨t', hs, a, c, e, hT.keep fun k hk hl => h.ne k hk hl, hn⟩
  | bld o m t d =>
    obtain ⟨t', hs, a, c, e, hT, hn⟩ := hf
    exact ⟨t', hs, a, c, e, hT.keep fun k hk hl => h.ne k hk hl, hn⟩
  | four x y z d =>
    obtain ⟨t', hs, g, e, hT⟩ := hf
    exact ⟨t', hs, g, e, hT.keep fun k hk hl => h.ne k hk hl⟩
  | cell lo =>
    obtain ⟨q, e, hq, hlo, hne⟩ := hf
    exact ⟨q, e, (h.block q (lt_of_block hq) hne).trans hq, hlo, hne⟩
  | any => trivial
/-- The variables of sides. -/
structure GS (b : Nat) (V : List (Nat × Tm)) (w : World) : Prop where
  deck : Deck w b
  var : ∀ p ∈ V, p.1 ≠ b ∧ ∃ a n c, w.heap[p.1]? = some (.cells #[.int .i64 p.2.op, .int .i64 p.2.num, .slice a n c] 28 (0, 0)) ∧ TR (fun k => k ≠ b) w p.2 a n ∧ n ≤ c
theorem GS.but {b : Nat} {V : List (Nat × Tm)} {w w' : World} (hG : GS b V w) (h : But b w w') (hd : Deck w' b) : GS b V w' :=
  ⟨hd, fun p hp => by
    obtain ⟨hne, a, n, c, hb, hT, hn⟩ := hG.var p hp
    exact ⟨hne, a, n, c, (h.block _ (lt_of_block hb) hne).trans hb, hT.keep fun k hk hl => h.ne k hk hl, hn⟩⟩
theorem GS.pure {b : Nat} {V : List (Nat × Tm)} {w w' : World} (hG : GS b V w) (h : RB w w') : But b w w' ∧ GS b V w' := ⟨But.of_below h, hG.but (But.of_below h) (hG.deck.below h)⟩
theorem s_load {b : Nat} {V : List (Nat × Tm)} {o : Oper} {ρ : Operand → Value} {w : World} (hG : GS b V w) (x : Operand) (q : Nat) (t : Tm) (hp : (q, t) ∈ V) (ho : o.op = .load 28 x) (hx : ρ x = .pointer (some ⟨q, 0, none⟩)) : Rg.Does Tryd.prog o ρ w fun v w' => But b w w' ∧ GS b V w' ∧ (Fs.tm t).holds b v w' := by
  obtain ⟨hne, a, n, c, hb, hT, hn⟩ := hG.var _ hp
  have p0 := cell_of_arr hb 0
  have p1 := cell_of_arr hb 1
  have p2 := cell_of_arr hb 2
  simp at p0 p1 p2
  refine Rg.Does.value (v := .agg #[.int .i64 t.op, .int .i64 t.num, .slice a n c]) (w' := w) ?_ ⟨But.refl _ _, hG, a, n, c, rfl, hT, hn⟩
  have hr : (Instr.loadAt 28 (.pointer (some ⟨q, 0, none⟩))).run Tryd.prog w = .ok (.agg #[.int .i64 t.op, .int .i64 t.num, .slice a n c]) w := by
    clear hb
    go_simp
  simp only [execOp, ho, hx, Sem.run_bind, hr, Result.andThen_ok, Sem.run_pure]
theorem s_int {b : Nat} {V : List (Nat × Tm)} {o : Oper} {ρ : Operand → Value} {w : World} (hG : GS b V w) (x : Operand) (q i : Nat) (z : Int) (ho : o.op = .load 3 x) (hx : ρ x = .pointer (some ⟨q, i, none⟩)) (hc : w.cell? ⟨q, i, none⟩ = some (.int .i64 z)) : Rg.Does Tryd.prog o ρ w fun v w' => But b w w' ∧ GS b V w' ∧ (Fs.eq (.int .i64 z)).holds b v w' := by
  refine Rg.Does.value (v := .int .i64 z) (w' := w) ?_ ⟨But.refl _ _, hG, rfl⟩
  simp only [execOp, ho, hx]
  go_simp
theorem s_field {b : Nat} {V : List (Nat × Tm)} {o : Oper} {ρ : Operand → Value} {w : World} (hG : GS b V w) (x : Operand) (q i : Nat) (hi : i = 0 ∨ i = 1) (ho : o.op = .fieldAddr 28 x i) (hx : ρ x = .pointer (some ⟨q, 0, none⟩)) : Rg.Does Tryd.prog o ρ w fun v w' => But b w w' ∧ GS b V w' ∧ (Fs.eq (.pointer (some ⟨q, i, none⟩))).holds b v w' := by
  refine Rg.Does.value (v := .pointer (some ⟨q, i, none⟩)) (w' := w) ?_ ⟨But.refl _ _, hG, rfl⟩
  rcases hi with rfl | rfl <;> (simp only [execOp, ho, hx]; go_simp)
theorem s_mod {b : Nat} {V : List (Nat × Tm)} {o : Oper} {ρ : Operand → Value} {w : World} (hG : GS b V w) (x : Operand) (z : Int) (ts : Array TypeId) (ho : o.op = .call { callee := .value (.func 28), args := #[x, .const (.int .i64 9)], argTypes := ts }) (hf : ρ (.func 28) = .func (.func 28) #[] #[]) (hv : #[x, .const (.int .i64 9)].map ρ = #[.int .i64 z, .int .i64 9]) : Rg.Does Tryd.prog o ρ w fun v w' => But b w w' ∧ GS b V w' ∧ (Fs.eq (.int .i64 (z % 9))).holds b v w' :=
  Rg.Does.call 28 (.func 28) _ ts ho hf hv (cf 28 _ Tryd.func28 (by kernel_rfl) (by kernel_rfl) _) ((mod_any z 9 w (by omega) (by omega)).mono fun e w' ⟨he, hw⟩ => ⟨_, he, by subst hw; exact ⟨But.refl _ _, hG, rfl⟩⟩)
theorem s_term {b : Nat} {V : List (Nat × Tm)} {o : Oper} {ρ : Operand → Value} {w : World} (hG : GS b V w) (x : Operand) (lv : Nat) (hlv : lv ≤ 100) (ts : Array TypeId) (ho : o.op = .call { callee := .value (.func 9), args := #[x, .const (.int .i64 lv)], argTypes := ts }) (hf : ρ (.func 9) = .func (.func 9) #[] #[]) (hv : #[x, .const (.int .i64 lv)].map ρ = #[.pointer (some ⟨b, 0, none⟩), .int .i64 lv]) : Rg.Does Tryd.prog o ρ w fun v w' => But b w w' ∧ GS b V w' ∧ (Fs.tmd (lv + 1)).holds b v w' :=
  Rg.Does.call 9 (.func 9) _ ts ho hf hv (cf 9 _ Tryd.func9 (by kernel_rfl) (by kernel_rfl) _) ((term_any lv b w hG.deck hlv).mono fun e w' ⟨t, a, n, c, he, hs, ⟨hT, hn⟩, hd, hb⟩ => ⟨_, he, hb, hG.but hb hd, t, hs, a, n, c, rfl, hT.imp fun k hk hl => by have h1 : w.heap.size ≤ k := hk; have := hG.deck.lt; omega, hn⟩)
theorem s_alloc {b : Nat} {V : List (Nat × Tm)} {o : Oper} {ρ : Operand → Value} {w : World} (hG : GS b V w) (lo : Nat) (hlo : lo ≤ w.heap.size) (ho : o.op = .alloc 28) : Rg.Does Tryd.prog o ρ w fun v w' => But b w w' ∧ GS b V w' ∧ (Fs.cell lo).holds b v w' := by
  have hb : RB w (w.alloc (.cells #[.int .i64 0, .int .i64 0, .slice none 0 0] 28)) := pure_alloc _ _
  obtain ⟨h1, h2⟩ := hG.pure hb
  refine Rg.Does.value (v := .pointer (some ⟨w.heap.size, 0, none⟩)) (w' := w.alloc (.cells #[.int .i64 0, .int .i64 0, .slice none 0 0] 28)) ?_ ⟨h1, h2, w.heap.size, rfl, alloc_new _ _, hlo, by have := hG.deck.lt; omega⟩
  have hr : (Instr.alloc 28 true (.tuple #[])).run Tryd.prog w = .ok (.pointer (some ⟨w.heap.size, 0, none⟩)) (w.alloc (.cells #[.int .i64 0, .int .i64 0, .slice none 0 0] 28)) := by go_simp
  simp only [execOp, ho, Sem.run_bind, hr, Result.andThen_ok, Sem.run_pure]
theorem s_row {b : Nat} {V : List (Nat × Tm)} {o : Oper} {ρ : Operand → Value} {w : World} (hG : GS b V w) (x y : Operand) (t : Tm) (d : Nat) (ho : o.op = .buildSlice 23 2 #[(0, x), (1, y)]) (hx : (Fs.tm t).holds b (ρ x) w) (hy : (Fs.tmd d).holds b (ρ y) w) : Rg.Does Tryd.prog o ρ w fun v w' => But b w w' ∧ GS b V w' ∧ (Fs.row t d).holds b v w' := by
  obtain ⟨a, n, c, ex, T, l⟩ := hx
  obtain ⟨t', hs, a', n', c', ey, T', l'⟩ := hy
  have hb : RB w (w.alloc (.cells #[.int .i64 t.op, .int .i64 t.num, .slice a n c, .int .i64 t'.op, .int .i64 t'.num, .slice a' n' c'] 28)) := pure_alloc _ _
  obtain ⟨h1, h2⟩ := hG.pure hb
  have hN := alloc_new w (.cells #[.int .i64 t.op, .int .i64 t.num, .slice a n c, .int .i64 t'.op, .int .i64 t'.num, .slice a' n' c'] 28)
  have hne : w.heap.size ≠ b := by have := hG.deck.lt; omega
  refine Rg.Does.value (v := .slice (some ⟨w.heap.size, 0, none⟩) 2 2) (w' := w.alloc (.cells #[.int .i64 t.op, .int .i64 t.num, .slice a n c, .int .i64 t'.op, .int .i64 t'.num, .slice a' n' c'] 28)) ?_ ⟨h1, h2, t', hs, some ⟨w.heap.size, 0, none⟩, 2, rfl, ⟨rfl, by omega, fun j hj => ?_⟩, Nat.le_refl _⟩
  · have hr := run_row2 t.op t.num a n c t'.op t'.num a' n' c' w
    simp only [execOp, ho, List.map_toArray, List.map_cons, List.map_nil, ex, ey, Sem.run_bind, hr, Result.andThen_ok, Sem.run_pure]
  · have hj2 : j < 2 := hj
    rcases (show j = 0 ∨ j = 1 by omega) with rfl | rfl
    · exact ⟨w.heap.size, 0, a, n, c, rfl, ⟨hne, l⟩, cell_of_arr hN 0, cell_of_arr hN 1, cell_of_arr hN 2, T.below hb⟩
    · exact ⟨w.heap.size, 0, a', n', c', rfl, ⟨hne, l'⟩, cell_of_arr hN 3, cell_of_arr hN 4, cell_of_arr hN 5, T'.below hb⟩
theorem s_build {b : Nat} {V : List (Nat × Tm)} {o : Oper} {ρ : Operand → Value} {w : World} (hG : GS b V w) (x y z : Operand) (p q : Int) (t : Tm) (d : Nat) (ho : o.op = .build 28 #[(0, x), (1, y), (2, z)]) (hx : ρ x = .int .i64 p) (hy : ρ y = .int .i64 q) (hz : (Fs.row t d).holds b (ρ z) w) : Rg.Does Tryd.prog o ρ w fun v w' => But b w w' ∧ GS b V w' ∧ (Fs.bld p q t d).holds b v w' := by
  obtain ⟨t', hs, a, c, ez, T, l⟩ := hz
  refine Rg.Does.value (v := .agg #[.int .i64 p, .int .i64 q, .slice a 2 c]) (w' := w) ?_ ⟨But.refl _ _, hG, t', hs, a, c, rfl, T, l⟩
  simp only [execOp, ho, List.map_toArray, List.map_cons, List.map_nil, hx, hy, ez]
  go_simp
theorem s_four {b : Nat} {V : List (Nat × Tm)} {o : Oper} {ρ : Operand → Value} {w : World} (hG : GS b V w) (x0 x1 x2 x3 : Operand) (t0 t1 t2 : Tm) (d : Nat) (ho : o.op = .buildSlice 23 4 #[(0, x0), (1, x1), (2, x2), (3, x3)]) (h0 : (Fs.tm t0).holds b (ρ x0) w) (h1 : (Fs.tm t1).holds b (ρ x1) w) (h2 : (Fs.tm t2).holds b (ρ x2) w) (h3 : (Fs.tmd d).holds b (ρ x3) w) : Rg.Does Tryd.prog o ρ w fun v w' => But b w w' ∧ GS b V w' ∧ (Fs.four t0 t1 t2 d).holds b v w' := by
  obtain ⟨a0, n0, c0, e0, T0, l0⟩ := h0
  obtain ⟨a1, n1, c1, e1, T1, l1⟩ := h1
  obtain ⟨a2, n2, c2, e2, T2, l2⟩ := h2
  obtain ⟨t3, hs, a3, n3, c3, e3, T3, l3⟩ := h3
  have hb : RB w (w.alloc (.cells #[.int .i64 t0.op, .int .i64 t0.num, .slice a0 n0 c0, .int .i64 t1.op, .int .i64 t1.num, .slice a1 n1 c1, .int .i64 t2.op, .int .i64 t2.num, .slice a2 n2 c2, .int .i64 t3.op, .int .i64 t3.num, .slice a3 n3 c3] 28)) := pure_alloc _ _
  obtain ⟨g1, g2⟩ := hG.pure hb
  have hlt := hG.deck.lt
  have hN := alloc_new w (.cells #[.int .i64 t0.op, .int .i64 t0.num, .slice a0 n0 c0, .int .i64 t1.op, .int .i64 t1.num, .slice a1 n1 c1, .int .i64 t2.op, .int .i64 t2.num, .slice a2 n2 c2, .int .i64 t3.op, .int .i64 t3.num, .slice a3 n3 c3] 28)
  have hne : w.heap.size ≠ b := by omega
  refine Rg.Does.value (v := .slice (some ⟨w.heap.size, 0, none⟩) 4 4) (w' := w.alloc (.cells #[.int .i64 t0.op, .int .i64 t0.num, .slice a0 n0 c0, .int .i64 t1.op, .int .i64 t1.num, .slice a1 n1 c1, .int .i64 t2.op, .int .i64 t2.num, .slice a2 n2 c2, .int .i64 t3.op, .int .i64 t3.num, .slice a3 n3 c3] 28)) ?_ ⟨g1, g2, t3, hs, w.heap.size, rfl, rfl, by omega, fun j hj => ?_⟩
  · have hr := run_row4 t0.op t0.num a0 n0 c0 t1.op t1.num a1 n1 c1 t2.op t2.num a2 n2 c2 t3.op t3.num a3 n3 c3 w
    simp only [execOp, ho, List.map_toArray, List.map_cons, List.map_nil, e0, e1, e2, e3, Sem.run_bind, hr, Result.andThen_ok, Sem.run_pure]
  · have hi : j < 4 := hj
    rcases (show j = 0 ∨ j = 1 ∨ j = 2 ∨ j = 3 by omega) with rfl | rfl | rfl | rfl
    · exact ⟨w.heap.size, 0, a0, n0, c0, rfl, ⟨hne, l0⟩, cell_of_arr hN 0, cell_of_arr hN 1, cell_of_arr hN 2, T0.below hb⟩
    · exact ⟨w.heap.size, 0, a1, n1, c1, rfl, ⟨hne, l1⟩, cell_of_arr hN 3, cell_of_arr hN 4, cell_of_arr hN 5, T1.below hb⟩
    · exact ⟨w.heap.size, 0, a2, n2, c2, rfl, ⟨hne, l2⟩, cell_of_arr hN 6, cell_of_arr hN 7, cell_of_arr hN 8, T2.below hb⟩
    · exact ⟨w.heap.size, 0, a3, n3, c3, rfl, ⟨hne, l3⟩, cell_of_arr hN 9, cell_of_arr hN 10, cell_of_arr hN 11, T3.below hb⟩
abbrev sfacts (b : Nat) (l : List Fs) (j : Nat) : Value → World → Prop := Fs.holds b (l.getD j .any)
theorem region_s {b : Nat} {V : List (Nat × Tm)} {M id : Nat} {dr : Bool} {w : World} {Q : Exit → Act → World → Prop} {ops : Array Oper} {a0 : Act} (l : List Fs) (hok : Rg.okB ops M a0.tmps.size = true) (ht : (if dr then Rg.tailB ops M else decide (M ≤ ops.size)) = true) (hG : GS b V w)
    (hs : Rg.Steps Tryd.prog a0 ops w (But b) (GS b V) (sfacts b l) 0 (ops.toList.take M))
    (hend : ∀ vs w', But b w w' → GS b V w' → (∀ j, j < M → sfacts b l j (vs j) w') → wpList Tryd.prog ops Q (ops.toList.drop M) (Rg.putAll ops M vs a0) w') : (Code.region id ops dr).wp Tryd.prog Q a0 w :=
  Rg.region_of (But b) (GS b V) (sfacts b l) (by kernel_rfl) (But.refl b) (fun _ _ _ h k => h.trans k) (fun w => But.of_below (RB.drew w)) (fun _ _ _ _ h hf => Fs.stable _ _ _ _ _ h hf) hok ht (fun h => (h.pure (RB.drew _)).2) hG hs hend
end Go.Proofs.YtkgbjoepjcenlaaDoor
