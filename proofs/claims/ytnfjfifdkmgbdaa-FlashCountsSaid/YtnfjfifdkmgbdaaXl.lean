/- Lists of memories in memory. -/
import Derived.Test.YtnfjfifdkmgbdaaXk
import Derived.Test.YtnfjfifdkmgbdaaPg
namespace Go.Proofs.Ytnfjfifdkmgbdaa
open Go.RowKit Go.Shelf
/-- A memory that does not lie in bad blocks. -/
def FAway (bad : Nat → Prop) (W : World) (sz : Int) (pa : Option Addr) (pn : Nat) (ea : Option Addr) (en : Nat) (m : Fl.Mem) : Prop :=
  ∀ W' : World, (∀ k, ¬ bad k → k < W.heap.size → W'.heap[k]? = W.heap[k]?) → FRep W' sz pa pn ea en m
theorem FAway.rep {bad : Nat → Prop} {W : World} {sz : Int} {pa ea : Option Addr} {pn en : Nat} {m : Fl.Mem} (h : FAway bad W sz pa pn ea en m) : FRep W sz pa pn ea en m := h W fun _ _ _ => rfl
theorem FAway.on {bad bad' : Nat → Prop} {W W1 : World} {sz : Int} {pa ea : Option Addr} {pn en : Nat} {m : Fl.Mem} (h : FAway bad W sz pa pn ea en m) (hs : W.heap.size ≤ W1.heap.size) (hk : ∀ k, ¬ bad k → k < W.heap.size → W1.heap[k]? = W.heap[k]?) (hb : ∀ k, bad' k → bad k ∨ W.heap.size ≤ k) : FAway bad' W1 sz pa pn ea en m :=
  fun W' hW' => h W' fun k h1 h2 => (hW' k (fun h => by rcases hb k h with h | h; exact h1 h; omega) (by omega)).trans (hk k h1 h2)
theorem FAway.pure {bad : Nat → Prop} {W W1 : World} {sz : Int} {pa ea : Option Addr} {pn en : Nat} {m : Fl.Mem} (h : FAway bad W sz pa pn ea en m) (hB : Below W.heap.size W W1) : FAway bad W1 sz pa pn ea en m :=
  h.on hB.size (fun k _ h2 => hB.block k h2) (fun _ h => .inl h)
theorem FAway.of_new {bad : Nat → Prop} {n : Nat} {w5 : World} {sz : Int} {pa ea : Option Addr} {pn en : Nat} {m : Fl.Mem} (hF : ∀ W : World, (∀ k, n ≤ k → W.heap[k]? = w5.heap[k]?) → FRep W sz pa pn ea en m) (hb : ∀ k, bad k → k < n ∨ w5.heap.size ≤ k) : FAway bad w5 sz pa pn ea en m :=
  fun W' hW' => FRep.upto hF fun k k1 k2 => hW' k (fun h => by rcases hb k h with h | h <;> omega) k2
theorem FAway.old {bad : Nat → Prop} {w W : World} {sz : Int} {pa ea : Option Addr} {pn en : Nat} {m : Fl.Mem} (h : FRep w sz pa pn ea en m) (hB : Below w.heap.size w W) (hb : ∀ k, bad k → w.heap.size ≤ k) : FAway bad W sz pa pn ea en m :=
  fun W' hW' => h.keep fun b o v hc => by
    have hl := lt_of_cell hc
    have e : W'.heap[b]? = w.heap[b]? := (hW' b (fun h => by have := hb b h; omega) (by have := hB.size; omega)).trans (hB.block b hl)
    rw [← hc]; unfold World.cell?; rw [e]
structure Elem where
  sz : Int
  pa : Option Addr
  pn : Nat
  pc : Nat
  ea : Option Addr
  en : Nat
  ec : Nat
def Elem.cells (e : Elem) : List Value := [.int .i64 e.sz, .slice e.pa e.pn e.pc, .slice e.ea e.en e.ec]
def FE (bad : Nat → Prop) (W : World) (e : Elem) (m : Fl.Mem) : Prop := FAway bad W e.sz e.pa e.pn e.ea e.en m
/-- A list of memories in a row of one's own; X is a variable beside it. -/
def badOf (X : Nat) (v : Value) (k : Nat) : Prop := k = X ∨ v.ownBlock = some k
structure OutR (W : World) (base X : Nat) (v : Value) (es : List Elem) (ms : List Fl.Mem) : Prop where
  len : es.length = ms.length
  row : W.ownsRow base 32 3 v ms.length (es.flatMap Elem.cells)
  each : ∀ i (h : i < es.length) (h' : i < ms.length), FE (badOf X v) W es[i] ms[i]
theorem OutR.pure {W W' : World} {base X : Nat} {v : Value} {es : List Elem} {ms : List Fl.Mem} (h : OutR W base X v es ms) (hB : Below W.heap.size W W') : OutR W' base X v es ms :=
  ⟨h.len, own_pure h.row hB, fun i h1 h2 => (h.each i h1 h2).pure hB⟩
/-- The variable is written. -/
theorem OutR.var {W W' : World} {base X : Nat} {v : Value} {es : List Elem} {ms : List Fl.Mem} (h : OutR W base X v es ms) (hs : W.heap.size ≤ W'.heap.size) (hk : ∀ k, k ≠ X → k < W.heap.size → W'.heap[k]? = W.heap[k]?) (hX : v.ownBlock ≠ some X) : OutR W' base X v es ms :=
  ⟨h.len, own_keep h.row (fun g hg => hk g (fun e => hX (e ▸ hg)) (own_lt h.row hg).1), fun i h1 h2 => (h.each i h1 h2).on hs (fun k hb hl => hk k (fun e => hb (.inl e)) hl) (fun _ h => .inl h)⟩
theorem inf32 : (Try.prog.info? 32).map (fun i => (i.zero, i.size, i.bytes)) = some (some (.agg #[.int .i64 0, .slice none 0 0, .slice none 0 0]), 3, 56) := by kernel_rfl
theorem flatMap_len (es : List Elem) : (es.flatMap Elem.cells).length = es.length * 3 := by
  induction es with
  | nil => rfl
  | cons e es ih => simp only [List.flatMap_cons, List.length_append, ih, List.length_cons]; simp [Elem.cells]; omega
/-- One memory more. -/
theorem OutR.push {W : World} {base X : Nat} {v : Value} {es : List Elem} {ms : List Fl.Mem} (h : OutR W base X v es ms) {a c : Nat} {e : Elem} {m : Fl.Mem} (ha : W.heap[a]? = some (.cells #[.int .i64 e.sz, .slice e.pa e.pn e.pc, .slice e.ea e.en e.ec] 32 (0, 0))) (he : FE (badOf X v) W e m) (hsz : ms.length ≤ 1000000) (hb : base ≤ W.heap.size) (hX : v.ownBlock ≠ some X) (hXl : X < W.heap.size) :
    ∃ v' W', (Builtin.append_ #[51, 51] 51 #[v, .slice (some ⟨a, 0, none⟩) 1 c]).run Try.prog W = .ok v' W' ∧ OutR W' base X v' (es ++ [e]) (ms ++ [m]) ∧ W.grownBy W' v.ownBlock ∧ (v'.ownBlock = v.ownBlock ∨ v'.ownBlock = some W.heap.size) ∧ v'.ownBlock ≠ some X := by
  obtain ⟨i0, hi, hz0, hz1, hz2⟩ := info_parts inf32
  have c0 := cell_of_arr ha 0
  have c1 := cell_of_arr ha 1
  have c2 := cell_of_arr ha 2
  simp at c0 c1 c2
  obtain ⟨v', W', h2, h3, h4, _, h5⟩ := run_append_own_at (P := Try.prog) W base 51 51 32 i0 _ 3 56 Try.underlying51 hi hz0 hz1 hz2 rfl (by omega) v ms.length _ h.row ⟨a, 0, none⟩ 1 c e.cells rfl (fun j u hu => by
    rcases (show j = 0 ∨ j = 1 ∨ j = 2 ∨ 3 ≤ j by omega) with rfl | rfl | rfl | hj
    · simp [Elem.cells] at hu; subst hu; exact c0
    · simp [Elem.cells] at hu; subst hu; exact c1
    · simp [Elem.cells] at hu; subst hu; exact c2
    · rw [List.getElem?_eq_none (by simpa [Elem.cells] using hj)] at hu; cases hu) (fun u hu => by simp [Elem.cells] at hu; rcases hu with rfl | rfl | rfl <;> rfl) (by unfold maxLen; omega) (by omega) hb
  have hk : ∀ k, ¬ badOf X v k → k < W.heap.size → W'.heap[k]? = W.heap[k]? := fun k hbad hl => h4.block k hl (fun e => hbad (.inr e.symm))
  have hbad : ∀ k, badOf X v' k → badOf X v k ∨ W.heap.size ≤ k := fun k hk => by
    rcases hk with rfl | hk
    · exact .inl (.inl rfl)
    · rcases h5 with h5 | h5
      · exact .inl (.inr (h5 ▸ hk))
      · rw [h5] at hk; cases hk; exact .inr (Nat.le_refl _)
  refine ⟨v', W', h2, ⟨by simp [h.len], ?_, fun i h1 h2 => ?_⟩, h4, h5, ?_⟩
  · rw [List.length_append, List.flatMap_append]
    simpa [Elem.cells] using h3
  · by_cases hi : i < es.length
    · rw [List.getElem_append_left hi, List.getElem_append_left (by rw [← h.len]; exact hi)]
      exact (h.each i hi (by rw [← h.len]; exact hi)).on h4.size hk hbad
    · have e1 : i = es.length := by simp at h1; omega
      subst e1
      rw [List.getElem_append_right (by omega), List.getElem_append_right (by rw [h.len]; omega)]
      simp only [Nat.sub_self, List.getElem_cons_zero]
      have : es.length - ms.length = 0 := by rw [h.len]; omega
      simp only [this, List.getElem_cons_zero]
      exact FAway.on he h4.size hk hbad
  · rcases h5 with h5 | h5
    · rw [h5]; exact hX
    · rw [h5]; simp; omega
/-- The elements of a list of memories. -/
theorem OutR.get {W : World} {base X : Nat} {v : Value} {es : List Elem} {ms : List Fl.Mem} (h : OutR W base X v es ms) (hne : 0 < ms.length) : ∃ g cap, v = .slice (some ⟨g, 0, none⟩) ms.length cap ∧ ∀ i (h1 : i < ms.length), ∃ e : Elem, W.cell? ⟨g, i * 3, none⟩ = some (.int .i64 e.sz) ∧ W.cell? ⟨g, i * 3 + 1, none⟩ = some (.slice e.pa e.pn e.pc) ∧ W.cell? ⟨g, i * 3 + 2, none⟩ = some (.slice e.ea e.en e.ec) ∧ FRep W e.sz e.pa e.pn e.ea e.en ms[i] := by
  obtain ⟨g, cap, rfl, _, _⟩ := World.ownsRow.form h.row hne
  refine ⟨g, cap, rfl, fun i h1 => ?_⟩
  have h2 : i < es.length := by rw [h.len]; exact h1
  rcases h.row.2 with ⟨hv, _⟩ | ⟨g', cap', cur, hv, _, hg, _, _, _, ht⟩
  · cases hv
  · simp only [Value.slice.injEq, Option.some.injEq, Addr.mk.injEq, and_true, true_and] at hv
    obtain ⟨rfl, rfl⟩ := hv
    have hcell : ∀ (k : Nat) (u : Value), (es.flatMap Elem.cells)[k]? = some u → W.cell? ⟨g, k, none⟩ = some u := fun k u hk => by
      rw [cell_of_arr hg]
      rw [← ht, List.getElem?_take] at hk
      split at hk
      · simpa using hk
      · cases hk
    have hat : ∀ (es : List Elem) (i : Nat) (h : i < es.length) (j : Nat), j < 3 → (es.flatMap Elem.cells)[i * 3 + j]? = (es[i].cells)[j]? := by
      intro es
      induction es with
      | nil => intro i h; simp at h
      | cons e es ih =>
        intro i h j hj
        rw [List.flatMap_cons]
        cases i with
        | zero => rw [List.getElem?_append_left (by simp [Elem.cells]; omega)]; simp
        | succ i =>
          rw [List.getElem?_append_right (by simp [Elem.cells]; omega)]
          have : (i + 1) * 3 + j - e.cells.length = i * 3 + j := by simp [Elem.cells]; omega
          rw [this, ih i (by simpa using h) j hj]
          simp
    refine ⟨es[i], hcell _ _ ?_, hcell _ _ ?_, hcell _ _ ?_, (h.each i h2 h1).rep⟩
    · have := hat es i h2 0 (by omega); rw [Nat.add_zero] at this; rw [this]; rfl
    · rw [hat es i h2 1 (by omega)]; rfl
    · rw [hat es i h2 2 (by omega)]; rfl
end Go.Proofs.Ytnfjfifdkmgbdaa
