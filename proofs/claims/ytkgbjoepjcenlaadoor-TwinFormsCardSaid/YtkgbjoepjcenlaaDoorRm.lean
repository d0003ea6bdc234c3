/- A row of one's own and a list of terms behind it; names in an int slice. -/
import Derived.Test.YtkgbjoepjcenlaaDoorRl
namespace Go.Proofs.YtkgbjoepjcenlaaDoor
open Go.RowKit
theorem TL.elems {ok : Nat → Prop} {w : World} {l : List Tm} {b o n : Nat} (h : TL ok w l (some ⟨b, o, none⟩) n) : ∀ k, k ≤ l.length → ∃ es : List Elem, es.length = k ∧ ∀ i (h1 : i < es.length) (h2 : i < l.length), es[i].op = l[i].op ∧ (es[i].num = l[i].num ∧ es[i].nn ≤ es[i].cc) ∧ (∀ r u, (Elem.cells es[i])[r]? = some u → w.cell? ⟨b, o + i * 3 + r, none⟩ = some u) ∧ TR ok w l[i] es[i].an es[i].nn := by
  intro k
  induction k with
  | zero => intro _; exact ⟨[], rfl, fun i h1 => by simp at h1⟩
  | succ k ih =>
    intro hk
    obtain ⟨es, hlen, hes⟩ := ih (by omega)
    obtain ⟨b', o', an, nn, cc, e, hb, c0, c1, c2, ht⟩ := h.2.2 k (by omega)
    cases e
    refine ⟨es ++ [⟨l[k].op, l[k].num, an, nn, cc⟩], by simp [hlen], fun i h1 h2 => ?_⟩
    by_cases hi : i < es.length
    · rw [List.getElem_append_left hi]
      exact hes i hi h2
    · have e1 : i = es.length := by simp at h1; omega
      subst e1
      rw [List.getElem_append_right (by omega)]
      simp only [Nat.sub_self, List.getElem_cons_zero]
      have e2 : es.length = k := hlen
      subst e2
      refine ⟨rfl, ⟨rfl, hb.2⟩, fun r u hu => ?_, ht⟩
      rcases (show r = 0 ∨ r = 1 ∨ r = 2 ∨ 3 ≤ r by omega) with rfl | rfl | rfl | hr
      · simp [Elem.cells] at hu; subst hu; exact c0
      · simp [Elem.cells] at hu; subst hu; exact c1
      · simp [Elem.cells] at hu; subst hu; exact c2
      · rw [List.getElem?_eq_none (by simpa [Elem.cells] using hr)] at hu; cases hu
theorem flat_get : ∀ (es : List Elem) (j : Nat) (u : Value), (es.flatMap Elem.cells)[j]? = some u → ∃ i r, ∃ h : i < es.length, j = i * 3 + r ∧ (Elem.cells es[i])[r]? = some u
  | [], j, u, h => by simp at h
  | e :: es, j, u, h => by
    rw [List.flatMap_cons] at h
    by_cases hj : j < 3
    · rw [List.getElem?_append_left (by simpa [Elem.cells] using hj)] at h
      exact ⟨0, j, by simp, by omega, h⟩
    · rw [List.getElem?_append_right (by simp [Elem.cells]; omega)] at h
      obtain ⟨i, r, hi, e1, e2⟩ := flat_get es _ u h
      refine ⟨i + 1, r, by simpa using hi, ?_, e2⟩
      simp [Elem.cells] at e1
      omega
theorem one_cell : ∀ (es : List Elem) (u : Value), u ∈ es.flatMap Elem.cells → u.oneCell' = true := fun es u hu => by
  obtain ⟨e, _, he⟩ := List.mem_flatMap.1 hu
  simp [Elem.cells] at he
  rcases he with rfl | rfl | rfl <;> rfl
/-- A list of terms behind the row. -/
theorem OutT.app {W : World} {base lo X : Nat} {v : Value} {es : List Elem} {ts : List Tm} (h : OutT W base lo X v es ts) {b o n c : Nat} {l : List Tm} (hT : TL (okV lo X v) W l (some ⟨b, o, none⟩) n) (hsz : ts.length + l.length ≤ 1000000000000) (hb : base ≤ W.heap.size) (hX : v.ownBlock ≠ some X) (hXl : X < W.heap.size) :
    ∃ v' W' es', (Builtin.append_ #[23, 23] 23 #[v, .slice (some ⟨b, o, none⟩) n c]).run Tryd.prog W = .ok v' W' ∧ OutT W' base lo X v' es' (ts ++ l) ∧ W.grownBy W' v.ownBlock ∧ (v'.ownBlock = v.ownBlock ∨ v'.ownBlock = some W.heap.size) ∧ v'.ownBlock ≠ some X := by
  obtain ⟨i0, hi, hz0, hz1, hz2⟩ := info_parts inf28
  obtain ⟨es2, hlen, hes⟩ := hT.elems l.length (Nat.le_refl _)
  have hn := hT.1
  obtain ⟨v', W', h2, h3, h4, _, h5⟩ := run_append_own_at (P := Tryd.prog) W base 23 23 28 i0 _ 3 40 Tryd.underlying23 hi hz0 hz1 hz2 rfl (by omega) v ts.length _ h.row ⟨b, o, none⟩ n c (es2.flatMap Elem.cells) (by rw [flatMap_len, hlen, hn]) (fun j u hu => by
    obtain ⟨i, r, hi, rfl, hr⟩ := flat_get _ _ _ hu
    have := (hes i hi (by omega)).2.2.1 r u hr
    have e : (⟨b, o, none⟩ : Addr).add (i * 3 + r) = ⟨b, o + (i * 3 + r), none⟩ := by unfold Addr.add; split <;> simp_all
    rw [e, ← Nat.add_assoc]; exact this) (one_cell es2) (by unfold maxLen; omega) (by omega) hb
  have hk : ∀ b, okV lo X v b → b < W.heap.size → W'.heap[b]? = W.heap[b]? ∧ okV lo X v' b := fun b hb hl => ⟨h4.block b hl (fun e => hb.2.2 e.symm), hb.1, hb.2.1, fun e => by
    rcases h5 with h5 | h5
    · exact hb.2.2 (h5 ▸ e)
    · rw [h5] at e; cases e; omega⟩
  refine ⟨v', W', es ++ es2, h2, ⟨by simp [h.len, hlen], ?_, fun i h1 h2 => ?_⟩, h4, h5, ?_⟩
  · rw [List.length_append, List.flatMap_append, ← hn]
    exact h3
  · by_cases hi : i < es.length
    · simp only [List.getElem_append_left hi, List.getElem_append_left (show i < ts.length by rw [← h.len]; exact hi)]
      have := h.each i hi (by rw [← h.len]; exact hi)
      exact ⟨this.1, this.2.1, this.2.2.keep hk⟩
    · have hle : ts.length = es.length := h.len.symm
      rw [List.getElem_append_right (by omega)]
      have e2 : (ts ++ l)[i]'h2 = l[i - es.length]'(by simp at h2; omega) := by
        rw [List.getElem_append_right (by omega)]
        simp only [hle]
      rw [e2]
      have := hes (i - es.length) (by simp at h1; omega) (by simp at h2; omega)
      exact ⟨this.1, this.2.1, this.2.2.2.keep hk⟩
  · rcases h5 with h5 | h5
    · rw [h5]; exact hX
    · rw [h5]; simp; omega
end Go.Proofs.YtkgbjoepjcenlaaDoor
