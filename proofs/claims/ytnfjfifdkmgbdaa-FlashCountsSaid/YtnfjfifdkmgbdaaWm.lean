/- One page of a memory in rows of its own is changed. -/
import Derived.Test.YtnfjfifdkmgbdaaWl
namespace Go.Proofs.Ytnfjfifdkmgbdaa
open Go.RowKit

theorem getD_set {α : Type} (l : List α) (i j : Nat) (x d : α) (hi : i < l.length) : (l.set i x).getD j d = if j = i then x else l.getD j d := by
  by_cases h : j = i
  · subst h; simp [hi]
  · simp [h, List.getElem?_set_ne (Ne.symm h)]

/-- A store into a row of one's own. -/
theorem own_set {w : World} {base e g n cap : Nat} {xs : List Value} (h : w.ownsRow base e 1 (.slice (some ⟨g, 0, none⟩) n cap) n xs) (i : Nat) (hi : i < n) (x : Value) : (w.setCell ⟨g, i, none⟩ x).ownsRow base e 1 (.slice (some ⟨g, 0, none⟩) n cap) n (xs.set i x) := by
  obtain ⟨h1, h2⟩ := h
  rcases h2 with ⟨h2, _⟩ | ⟨g', cap', cur, h2, hb, hh, hn, hc, hs, ht⟩
  · cases h2
  · simp only [Value.slice.injEq, Option.some.injEq, Addr.mk.injEq, and_true, true_and] at h2
    obtain ⟨rfl, rfl⟩ := h2
    refine ⟨by simpa using h1, .inr ⟨g, cap, _, rfl, hb, set_arr hh i x, hn, hc, by simpa using hs, ?_⟩⟩
    rw [Array.toList_setIfInBounds, List.take_set, ht]

/-- Page i gets a new value: the row of the old one may have grown, or a new row was made. -/
theorem OwnP.upd {w w2 : World} {base g cap : Nat} {vs : List Value} {ps : List (List UInt8)} {i : Nat} {x : Value} {p : List UInt8} (h : OwnP w base (.slice (some ⟨g, 0, none⟩) vs.length cap) vs ps) (hi : i < vs.length)
    (hg : w.grownBy w2 (vs.getD i undef).ownBlock) (hx : OwnB w2 base x p) (hob : x.ownBlock = none ∨ x.ownBlock = (vs.getD i undef).ownBlock ∨ ∃ k, x.ownBlock = some k ∧ w.heap.size ≤ k) :
    OwnP (w2.setCell ⟨g, i, none⟩ x) base (.slice (some ⟨g, 0, none⟩) (vs.set i x).length cap) (vs.set i x) (ps.set i p) := by
  obtain ⟨gl, gb, gcur, gh⟩ := own_lt h.row (g := g) rfl
  have gne : ∀ j, j < vs.length → (vs.getD j undef).ownBlock ≠ some g := fun j hj e => by
    obtain ⟨_, _, cur, hc⟩ := own_lt (h.each j hj) e
    rw [gh] at hc; cases hc
  have g2 : w2.heap[g]? = w.heap[g]? := hg.block g gl (fun e => gne i hi e.symm)
  have row2 : w2.ownsRow base 22 1 (.slice (some ⟨g, 0, none⟩) vs.length cap) vs.length vs := own_keep h.row (fun k hk => by cases hk; exact g2)
  have xg : x.ownBlock ≠ some g := fun e => by
    obtain ⟨_, _, cur, hc⟩ := own_lt hx e
    rw [g2, gh] at hc; cases hc
  refine ⟨by rw [List.length_set]; exact own_set row2 i hi x, by simpa using h.len, fun j hj => ?_, fun j k b hjk hk hb => ?_⟩
  · rw [List.length_set] at hj
    rw [getD_set _ _ _ _ _ hi, getD_set _ _ _ _ _ (by have := h.len; omega)]
    by_cases e : j = i
    · rw [if_pos e, if_pos e]
      exact own_keep hx fun b hb => Below.heap_setCell _ _ _ _ (fun e => xg (by rw [hb]; exact congrArg some e))
    · rw [if_neg e, if_neg e]
      refine own_keep (h.each j hj) fun b hb => ?_
      rw [Below.heap_setCell _ _ _ _ (fun e => gne j hj (by rw [hb]; exact congrArg some e))]
      refine hg.block b (own_lt (h.each j hj) hb).1 fun e2 => ?_
      rcases Nat.lt_or_gt_of_ne e with l | l
      · exact h.apart j i b l hi hb e2.symm
      · exact h.apart i j b l hj e2.symm hb
  · rw [List.length_set] at hk
    rw [getD_set _ _ _ _ _ hi] at hb ⊢
    by_cases e1 : j = i
    · rw [if_pos e1] at hb
      rw [if_neg (by omega)]
      intro hb2
      rcases hob with h0 | h0 | ⟨q, h0, h1⟩
      · rw [h0] at hb; cases hb
      · rw [h0] at hb; exact h.apart i k b (by omega) hk hb hb2
      · rw [h0] at hb; cases hb
        have := (own_lt (h.each k hk) hb2).1
        omega
    · rw [if_neg e1] at hb
      by_cases e2 : k = i
      · rw [if_pos e2]
        intro hb2
        rcases hob with h0 | h0 | ⟨q, h0, h1⟩
        · rw [h0] at hb2; cases hb2
        · rw [h0] at hb2; exact h.apart j i b (by omega) hi hb hb2
        · rw [h0] at hb2; cases hb2
          have := (own_lt (h.each j (by omega)) hb).1
          omega
      · rw [if_neg e2]
        exact h.apart j k b hjk hk hb

/-- The memory m lies in the variable X, in rows of its own. -/
structure OwnF (w : World) (base X : Nat) (m : Fl.Mem) (pa : Option Addr) (pc : Nat) (ea : Option Addr) (ec : Nat) (vs : List Value) : Prop where
  box : w.heap[X]? = some (.cells #[.int .i64 m.size, .slice pa m.pages.length pc, .slice ea m.erased.length ec] 32 (0, 0))
  pages : OwnP w base (.slice pa m.pages.length pc) vs m.pages
  erased : w.ownsRow base 3 1 (.slice ea m.erased.length ec) m.erased.length (m.erased.map (Value.int .i64))
/-- The blocks of such a memory. -/
def FBlk (pa : Option Addr) (ea : Option Addr) (vs : List Value) (k : Nat) : Prop := (∃ a, pa = some a ∧ a.block = k) ∨ (∃ a, ea = some a ∧ a.block = k) ∨ ∃ i, i < vs.length ∧ (vs.getD i undef).ownBlock = some k
theorem OwnF.pure {w w' : World} {base X : Nat} {m : Fl.Mem} {pa : Option Addr} {pc : Nat} {ea : Option Addr} {ec : Nat} {vs : List Value} (h : OwnF w base X m pa pc ea ec vs) (k : Below w.heap.size w w') : OwnF w' base X m pa pc ea ec vs :=
  ⟨Below.keep k h.box (lt_of_block h.box), h.pages.pure k, own_pure h.erased k⟩
theorem OwnF.blk {w : World} {base X : Nat} {m : Fl.Mem} {pa : Option Addr} {pc : Nat} {ea : Option Addr} {ec : Nat} {vs : List Value} (h : OwnF w base X m pa pc ea ec vs) {k : Nat} (hk : FBlk pa ea vs k) : base ≤ k ∧ k < w.heap.size ∧ k ≠ X := by
  rcases hk with ⟨a, rfl, rfl⟩ | ⟨a, rfl, rfl⟩ | ⟨i, hi, hb⟩
  · obtain ⟨h1, h2, c, h3⟩ := own_lt h.pages.row (g := a.block) rfl
    exact ⟨h2, h1, kind_ne h3 h.box (by decide)⟩
  · obtain ⟨h1, h2, c, h3⟩ := own_lt h.erased (g := a.block) rfl
    exact ⟨h2, h1, kind_ne h3 h.box (by decide)⟩
  · obtain ⟨h1, h2, c, h3⟩ := own_lt (h.pages.each i hi) hb
    exact ⟨h2, h1, kind_ne h3 h.box (by decide)⟩
end Go.Proofs.Ytnfjfifdkmgbdaa
