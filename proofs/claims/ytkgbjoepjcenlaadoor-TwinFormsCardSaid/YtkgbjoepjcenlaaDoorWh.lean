/- Lists of terms in rows of one's own. -/
import Derived.Test.YtkgbjoepjcenlaaDoorWg
import Derived.Deep.AppendLies
import Derived.BigRegion
namespace Go.Proofs.YtkgbjoepjcenlaaDoor
open Go.RowKit
structure Elem where
  op : Int
  num : Int
  an : Option Addr
  nn : Nat
  cc : Nat
def Elem.cells (e : Elem) : List Value := [.int .i64 e.op, .int .i64 e.num, .slice e.an e.nn e.cc]
/-- Blocks from lo on that are neither the variable's nor the row's own. -/
def okV (lo X : Nat) (v : Value) (b : Nat) : Prop := lo ≤ b ∧ b ≠ X ∧ v.ownBlock ≠ some b
/-- The terms ts in a row of one's own, their kids in other blocks; X is a variable beside it. -/
structure OutT (W : World) (base lo X : Nat) (v : Value) (es : List Elem) (ts : List Tm) : Prop where
  len : es.length = ts.length
  row : W.ownsRow base 28 3 v ts.length (es.flatMap Elem.cells)
  each : ∀ i (h : i < es.length) (h' : i < ts.length), es[i].op = ts[i].op ∧ (es[i].num = ts[i].num ∧ es[i].nn ≤ es[i].cc) ∧ TR (okV lo X v) W ts[i] es[i].an es[i].nn
theorem OutT.nil (W : World) (base lo X : Nat) : OutT W base lo X (.slice none 0 0) [] [] := ⟨rfl, ⟨rfl, .inl ⟨rfl, rfl⟩⟩, fun i h => by simp at h⟩
theorem OutT.pure {W W' : World} {base lo X : Nat} {v : Value} {es : List Elem} {ts : List Tm} (h : OutT W base lo X v es ts) (hB : Below W.heap.size W W') : OutT W' base lo X v es ts :=
  ⟨h.len, own_pure h.row hB, fun i h1 h2 => ⟨(h.each i h1 h2).1, (h.each i h1 h2).2.1, (h.each i h1 h2).2.2.below hB⟩⟩
/-- The variable is written. -/
theorem OutT.var {W W' : World} {base lo X : Nat} {v : Value} {es : List Elem} {ts : List Tm} (h : OutT W base lo X v es ts) (hk : ∀ k, k ≠ X → k < W.heap.size → W'.heap[k]? = W.heap[k]?) (hX : v.ownBlock ≠ some X) : OutT W' base lo X v es ts :=
  ⟨h.len, own_keep h.row (fun g hg => hk g (fun e => hX (e ▸ hg)) (own_lt h.row hg).1), fun i h1 h2 => ⟨(h.each i h1 h2).1, (h.each i h1 h2).2.1, (h.each i h1 h2).2.2.keep fun b hb hl => ⟨hk b hb.2.1 hl, hb⟩⟩⟩
theorem inf28 : (Tryd.prog.info? 28).map (fun i => (i.zero, i.size, i.bytes)) = some (some (.agg #[.int .i64 0, .int .i64 0, .slice none 0 0]), 3, 40) := by kernel_rfl
theorem flatMap_len (es : List Elem) : (es.flatMap Elem.cells).length = es.length * 3 := by
  induction es with
  | nil => rfl
  | cons e es ih => simp only [List.flatMap_cons, List.length_append, ih, List.length_cons]; simp [Elem.cells]; omega
/-- One term more. -/
theorem OutT.push {W : World} {base lo X : Nat} {v : Value} {es : List Elem} {ts : List Tm} (h : OutT W base lo X v es ts) {a c : Nat} {e : Elem} {t : Tm} (ha : W.heap[a]? = some (.cells #[.int .i64 e.op, .int .i64 e.num, .slice e.an e.nn e.cc] 28 (0, 0))) (ho : e.op = t.op) (hn : e.num = t.num) (hcc : e.nn ≤ e.cc) (he : TR (okV lo X v) W t e.an e.nn) (hsz : ts.length ≤ 1000000) (hb : base ≤ W.heap.size) (hX : v.ownBlock ≠ some X) (hXl : X < W.heap.size) :
    ∃ v' W', (Builtin.append_ #[23, 23] 23 #[v, .slice (some ⟨a, 0, none⟩) 1 c]).run Tryd.prog W = .ok v' W' ∧ OutT W' base lo X v' (es ++ [e]) (ts ++ [t]) ∧ W.grownBy W' v.ownBlock ∧ (v'.ownBlock = v.ownBlock ∨ v'.ownBlock = some W.heap.size) ∧ v'.ownBlock ≠ some X := by
  obtain ⟨i0, hi, hz0, hz1, hz2⟩ := info_parts inf28
  have c0 := cell_of_arr ha 0
  have c1 := cell_of_arr ha 1
  have c2 := cell_of_arr ha 2
  simp at c0 c1 c2
  obtain ⟨v', W', h2, h3, h4, _, h5⟩ := run_append_own_at (P := Tryd.prog) W base 23 23 28 i0 _ 3 40 Tryd.underlying23 hi hz0 hz1 hz2 rfl (by omega) v ts.length _ h.row ⟨a, 0, none⟩ 1 c e.cells rfl (fun j u hu => by
    rcases (show j = 0 ∨ j = 1 ∨ j = 2 ∨ 3 ≤ j by omega) with rfl | rfl | rfl | hj
    · simp [Elem.cells] at hu; subst hu; exact c0
    · simp [Elem.cells] at hu; subst hu; exact c1
    · simp [Elem.cells] at hu; subst hu; exact c2
    · rw [List.getElem?_eq_none (by simpa [Elem.cells] using hj)] at hu; cases hu) (fun u hu => by simp [Elem.cells] at hu; rcases hu with rfl | rfl | rfl <;> rfl) (by unfold maxLen; omega) (by omega) hb
  have hk : ∀ b, okV lo X v b → b < W.heap.size → W'.heap[b]? = W.heap[b]? ∧ okV lo X v' b := fun b hb hl => ⟨h4.block b hl (fun e => hb.2.2 e.symm), hb.1, hb.2.1, fun e => by
    rcases h5 with h5 | h5
    · exact hb.2.2 (h5 ▸ e)
    · rw [h5] at e; cases e; omega⟩
  refine ⟨v', W', h2, ⟨by simp [h.len], ?_, fun i h1 h2 => ?_⟩, h4, h5, ?_⟩
  · rw [List.length_append, List.flatMap_append]
    simpa [Elem.cells] using h3
  · by_cases hi : i < es.length
    · simp only [List.getElem_append_left hi, List.getElem_append_left (show i < ts.length by rw [← h.len]; exact hi)]
      have := h.each i hi (by rw [← h.len]; exact hi)
      exact ⟨this.1, this.2.1, this.2.2.keep hk⟩
    · have e1 : i = es.length := by simp at h1; omega
      subst e1
      rw [List.getElem_append_right (by omega)]
      have e2 : (ts ++ [t])[es.length]'h2 = t := by
        rw [List.getElem_append_right (by rw [h.len]; omega)]
        simp
      simp only [Nat.sub_self, List.getElem_cons_zero]
      rw [e2]
      exact ⟨ho, ⟨hn, hcc⟩, he.keep hk⟩
  · rcases h5 with h5 | h5
    · rw [h5]; exact hX
    · rw [h5]; simp; omega
/-- The cells of a list of terms. -/
theorem OutT.get {W : World} {base lo X : Nat} {v : Value} {es : List Elem} {ts : List Tm} (h : OutT W base lo X v es ts) (hne : 0 < ts.length) : ∃ g cap, v = .slice (some ⟨g, 0, none⟩) ts.length cap ∧ (base ≤ g ∧ ts.length ≤ cap) ∧ (∃ cur, W.heap[g]? = some (.cells cur 28 (0, 0))) ∧ ∀ i (h0 : i < es.length) (h1 : i < ts.length), W.cell? ⟨g, i * 3, none⟩ = some (.int .i64 ts[i].op) ∧ W.cell? ⟨g, i * 3 + 1, none⟩ = some (.int .i64 ts[i].num) ∧ W.cell? ⟨g, i * 3 + 2, none⟩ = some (.slice es[i].an es[i].nn es[i].cc) ∧ TR (okV lo X v) W ts[i] es[i].an es[i].nn ∧ es[i].nn ≤ es[i].cc := by
  obtain ⟨g, cap, rfl, _, _⟩ := World.ownsRow.form h.row hne
  have hb := own_lt h.row (g := g) rfl
  have hcap : ts.length ≤ cap := by
    rcases h.row.2 with ⟨hv, _⟩ | ⟨g', cap', cur, hv, _, _, hc, _⟩
    · cases hv
    · simp only [Value.slice.injEq] at hv
      omega
  refine ⟨g, cap, rfl, ⟨hb.2.1, hcap⟩, hb.2.2, fun i h2 h1 => ?_⟩
  rcases h.row.2 with ⟨hv, _⟩ | ⟨g', cap', cur, hv, _, hg, _, _, _, ht⟩
  · cases hv
  · simp only [Value.slice.injEq, Option.some.injEq, Addr.mk.injEq, and_true, true_and] at hv
    obtain ⟨rfl, rfl⟩ := hv
    have hcell : ∀ (k : Nat) (u : Value), (es.flatMap Elem.cells)[k]? = some u → W.cell? ⟨g, k, none⟩ = some u := fun k u hk => by
      rw [cell_of_arr hg]
      rw [← ht, List.getElem?_take] at hk
      split at hk
      · simpa using hk
      · cases hk
    have hat : ∀ (es : List Elem) (i : Nat) (h : i < es.length) (j : Nat), j < 3 → (es.flatMap Elem.cells)[i * 3 + j]? = (es[i].cells)[j]? := by
      intro es
      induction es with
      | nil => intro i h; simp at h
      | cons e es ih =>
        intro i h j hj
        rw [List.flatMap_cons]
        cases i with
        | zero => rw [List.getElem?_append_left (by simp [Elem.cells]; omega)]; simp
        | succ i =>
          rw [List.getElem?_append_right (by simp [Elem.cells]; omega)]
          have : (i + 1) * 3 + j - e.cells.length = i * 3 + j := by simp [Elem.cells]; omega
          rw [this, ih i (by simpa using h) j hj]
          simp
    obtain ⟨e1, e2, e3⟩ := h.each i h2 h1
    refine ⟨hcell _ _ ?_, hcell _ _ ?_, hcell _ _ ?_, e3, e2.2⟩
    · have := hat es i h2 0 (by omega); rw [Nat.add_zero] at this; rw [this, ← e1]; rfl
    · rw [hat es i h2 1 (by omega), ← e2.1]; rfl
    · rw [hat es i h2 2 (by omega)]; rfl
/-- A row of one's own is a slice of terms. -/
theorem OutT.tl {W : World} {base lo X : Nat} {v : Value} {es : List Elem} {ts : List Tm} (h : OutT W base lo X v es ts) (hl : lo ≤ base) (hsz : ts.length ≤ 1000000) : ∃ a c, v = .slice a ts.length c ∧ TL (fun b => lo ≤ b) W ts a ts.length ∧ ts.length ≤ c := by
  by_cases hne : 0 < ts.length
  · obtain ⟨g, cap, rfl, hb, _, hc⟩ := h.get hne
    refine ⟨_, cap, rfl, ⟨rfl, by omega, fun j hj => ?_⟩, hb.2⟩
    obtain ⟨c0, c1, c2, ht⟩ := hc j (by rw [h.len]; exact hj) hj
    exact ⟨g, 0, _, _, _, rfl, ⟨Nat.le_trans hl hb.1, ht.2⟩, by simpa using c0, by simpa using c1, by simpa using c2, ht.1.imp fun b hb _ => hb.1⟩
  · have : ts = [] := List.length_eq_zero_iff.1 (by omega)
    subst this
    obtain ⟨a, c, rfl⟩ := own_form h.row
    exact ⟨a, c, rfl, TL.nil _ _ _, Nat.zero_le _⟩
theorem But.tr {ok ok' : Nat → Prop} {X : Nat} {w w' : World} (h : But X w w') {t : Tm} {a : Option Addr} {n : Nat} (hT : TR ok w t a n) (hk : ∀ b, ok b → b < w.heap.size → b ≠ X ∧ ok' b) : TR ok' w' t a n := hT.keep fun b hb hl => ⟨h.block b hl (hk b hb hl).1, (hk b hb hl).2⟩
theorem But.tl {ok ok' : Nat → Prop} {X : Nat} {w w' : World} (h : But X w w') {l : List Tm} {a : Option Addr} {n : Nat} (hT : TL ok w l a n) (hk : ∀ b, ok b → b < w.heap.size → b ≠ X ∧ ok' b) : TL ok' w' l a n := hT.keep fun b hb hl => ⟨h.block b hl (hk b hb hl).1, (hk b hb hl).2⟩
/-- What a function that makes a term leaves. -/
def NPost (r : Tm) (w : World) (e : Ending) (w' : World) : Prop := ∃ a n c, e = .returned (.agg #[.int .i64 r.op, .int .i64 r.num, .slice a n c]) ∧ (TR (fun b => w.heap.size ≤ b) w' r a n ∧ n ≤ c) ∧ Below w.heap.size w w'
end Go.Proofs.YtkgbjoepjcenlaaDoor
