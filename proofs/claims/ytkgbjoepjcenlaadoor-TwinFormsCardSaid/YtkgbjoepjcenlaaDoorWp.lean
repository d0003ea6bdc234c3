/- A set of terms in memory that grows. -/
import Derived.Test.YtkgbjoepjcenlaaDoorWo
namespace Go.Proofs.YtkgbjoepjcenlaaDoor
open Go.RowKit Go.Maps
/-- The last three cells of a row of one's own are written. -/
theorem own_last3 {w : World} {base e g k cap : Nat} {ys : List Value} {a0 b0 c0 : Value} (h : w.ownsRow base e 3 (.slice (some ⟨g, 0, none⟩) (k + 1) cap) (k + 1) (ys ++ [a0, b0, c0])) (hy : ys.length = k * 3) (a b c : Value) (W : World)
    (hW : W = ((w.setCell ⟨g, k * 3, none⟩ a).setCell ⟨g, k * 3 + 1, none⟩ b).setCell ⟨g, k * 3 + 2, none⟩ c) :
    W.ownsRow base e 3 (.slice (some ⟨g, 0, none⟩) (k + 1) cap) (k + 1) (ys ++ [a, b, c]) := by
  obtain ⟨h1, h2⟩ := h
  refine ⟨by simp at h1 ⊢; omega, ?_⟩
  rcases h2 with ⟨hv, _⟩ | ⟨g', cap', cur, hv, hb, hg, hn, hm, hs, ht⟩
  · cases hv
  · simp only [Value.slice.injEq, Option.some.injEq, Addr.mk.injEq, and_true, true_and] at hv
    obtain ⟨rfl, rfl⟩ := hv
    have hg' := set_arr (set_arr (set_arr hg (k * 3) a) (k * 3 + 1) b) (k * 3 + 2) c
    rw [← hW] at hg'
    refine .inr ⟨g, cap, _, rfl, hb, hg', hn, hm, by simpa using hs, ?_⟩
    have hcs : (k + 1) * 3 ≤ cur.size := by rw [hs]; exact Nat.mul_le_mul_right 3 hn
    apply List.ext_getElem?
    intro i
    have hti := congrArg (fun l : List Value => l[i]?) ht
    simp only [List.getElem?_take] at hti ⊢
    by_cases hi : i < (k + 1) * 3
    · rw [if_pos hi] at hti ⊢
      simp only [Array.getElem?_toList, Array.getElem?_setIfInBounds] at hti ⊢
      have hsz : k * 3 < cur.size ∧ k * 3 + 1 < cur.size ∧ k * 3 + 2 < cur.size := by omega
      by_cases e2 : k * 3 + 2 = i
      · subst e2
        rw [List.getElem?_append_right (by omega), hy]
        simp [hsz.2.2, show k * 3 + 2 - k * 3 = 2 by omega]
      · by_cases e1 : k * 3 + 1 = i
        · subst e1
          rw [List.getElem?_append_right (by omega), hy]
          simp [hsz.2.1, show k * 3 + 1 - k * 3 = 1 by omega]
        · by_cases e0 : k * 3 = i
          · subst e0
            rw [List.getElem?_append_right (by omega), hy]
            simp [hsz.1]
          · have hlt : i < k * 3 := by omega
            rw [List.getElem?_append_left (by omega)] at hti ⊢
            simp [e2, e1, e0, hti]
    · rw [if_neg hi, List.getElem?_eq_none (by simp; omega)]
/-- The place behind a list is filled. -/
theorem OutT.fill {W : World} {base lo X : Nat} {g cap : Nat} {es : List Elem} {ts : List Tm} {z : Elem} {tz : Tm} (h : OutT W base lo X (.slice (some ⟨g, 0, none⟩) (ts.length + 1) cap) (es ++ [z]) (ts ++ [tz])) {e : Elem} {t : Tm} (ho : e.op = t.op) (hn : e.num = t.num) (hcc : e.nn ≤ e.cc) (he : TR (okV lo X (.slice (some ⟨g, 0, none⟩) (ts.length + 1) cap)) W t e.an e.nn) (W' : World)
    (hW : W' = ((W.setCell ⟨g, ts.length * 3, none⟩ (.int .i64 e.op)).setCell ⟨g, ts.length * 3 + 1, none⟩ (.int .i64 e.num)).setCell ⟨g, ts.length * 3 + 2, none⟩ (.slice e.an e.nn e.cc)) :
    OutT W' base lo X (.slice (some ⟨g, 0, none⟩) (ts.length + 1) cap) (es ++ [e]) (ts ++ [t]) := by
  have hle : es.length = ts.length := by have := h.len; simpa using this
  have hk : ∀ b, okV lo X (.slice (some ⟨g, 0, none⟩) (ts.length + 1) cap) b → b < W.heap.size → W'.heap[b]? = W.heap[b]? ∧ okV lo X (.slice (some ⟨g, 0, none⟩) (ts.length + 1) cap) b := fun b hb _ => by
    refine ⟨?_, hb⟩
    have hne : b ≠ g := fun e => hb.2.2 (by rw [e]; rfl)
    rw [hW, Below.heap_setCell _ _ _ _ hne, Below.heap_setCell _ _ _ _ hne, Below.heap_setCell _ _ _ _ hne]
  refine ⟨by simp [hle], ?_, fun i h1 h2 => ?_⟩
  · have hr := h.row
    rw [List.flatMap_append] at hr ⊢
    simp only [List.length_append, List.length_cons, List.length_nil, Nat.zero_add, List.flatMap_cons, List.flatMap_nil, List.append_nil, Elem.cells] at hr ⊢
    exact own_last3 hr (by rw [flatMap_len, hle]) _ _ _ W' hW
  · by_cases hi : i < es.length
    · have h3 := h.each i (by simp; omega) (by simp; omega)
      simp only [List.getElem_append_left hi, List.getElem_append_left (show i < ts.length by omega)] at h3 ⊢
      exact ⟨h3.1, h3.2.1, h3.2.2.keep hk⟩
    · have e1 : i = es.length := by simp at h1; omega
      subst e1
      rw [List.getElem_append_right (by omega)]
      have e2 : (ts ++ [t])[es.length]'h2 = t := by
        rw [List.getElem_append_right (by omega)]
        simp [hle]
      simp only [Nat.sub_self, List.getElem_cons_zero]
      rw [e2]
      exact ⟨ho, ⟨hn, hcc⟩, he.keep hk⟩
/-- Block K is a set of the terms C, block M its map; both lie below B. -/
structure KN (W : World) (B K M : Nat) (v : Value) (es : List Elem) (C : List Tm) : Prop where
  blk : W.heap[K]? = some (.cells #[v, .map (some M)] 75 (0, 0))
  out : OutT W B B K v es C
  map : ∃ n D, W.ownsMap Tryd.prog 9 (plainElem Tryd.prog 4) M n D ∧ n ≤ C.length ∧ MapOf D C
  lt : K < B ∧ M < B ∧ K ≠ M ∧ B ≤ W.heap.size
theorem KN.kb {W : World} {B K M : Nat} {v : Value} {es : List Elem} {C : List Tm} (h : KN W B K M v es C) (hC : C.length ≤ 100000) : KB W K M C := by
  obtain ⟨n, D, h1, h2, h3⟩ := h.map
  exact ⟨⟨v, h.blk⟩, n, D, h1, by omega, h3⟩
theorem KN.pure {W W' : World} {B K M : Nat} {v : Value} {es : List Elem} {C : List Tm} (h : KN W B K M v es C) (k : Below W.heap.size W W') : KN W' B K M v es C := by
  obtain ⟨n, D, h1, h2, h3⟩ := h.map
  exact ⟨Below.keep k h.blk (lt_of_block h.blk), h.out.pure k, ⟨n, D, own_map_keep h1 (k.block M (own_map_lt h1)), h2, h3⟩, h.lt.1, h.lt.2.1, h.lt.2.2.1, Nat.le_trans h.lt.2.2.2 k.size⟩
theorem KN.ownX {W : World} {B K M : Nat} {v : Value} {es : List Elem} {C : List Tm} (h : KN W B K M v es C) : v.ownBlock ≠ some K ∧ v.ownBlock ≠ some M := by
  have := h.lt
  exact ⟨fun e => by have := (own_lt h.out.row e).2.1; omega, fun e => by have := (own_lt h.out.row e).2.1; omega⟩
/-- What adding a term leaves. -/
def AddPost (B K M : Nat) (v : Value) (C : List Tm) (t : Tm) (w : World) (e : Ending) (w' : World) : Prop := ∃ v' es', e = .returned (.bool (decide (t ∉ C))) ∧ KN w' B K M v' es' (if t ∈ C then C else C ++ [t]) ∧
  (∀ b, okV B K v b → b < w.heap.size → w'.heap[b]? = w.heap[b]? ∧ okV B K v' b) ∧ ∀ n, n ≤ K → n ≤ M → Below n w w'
end Go.Proofs.YtkgbjoepjcenlaaDoor
