/- Plain: shallow terms are valid; what more knowledge derives. Rows of ints and of terms behind each other. -/
import Derived.Test.YtkgbjoepjcenlaaDoorRo
import Derived.Test.YtkgbjoepjcenlaaDoorWv
import Derived.Test.YtkgbjoepjcenlaaDoorWt
namespace Go.Proofs.YtkgbjoepjcenlaaDoor
open Go.RowKit
namespace Tm
theorem okN_le {o n : Int} {l : Nat} (h : okN o n l = true) : l ≤ 4 := by
  have h1 := okN_len h
  rcases okN_op h with rfl | rfl | rfl | rfl | rfl | rfl | rfl | rfl <;> simp [arity] at h1 <;> omega
mutual
theorem size_len : ∀ (t : Tm) (d : Nat), shaped t d = true → 3 * t.size + 1 ≤ 4 ^ d
  | mk o n ks, 0, h => by simp [shaped] at h
  | mk o n ks, d + 1, h => by
    simp only [shaped, Bool.and_eq_true] at h
    have hl := okN_le h.1
    have h0 := sizes_len ks d h.2
    have hp : 1 ≤ 4 ^ d := Nat.one_le_pow _ _ (by omega)
    have e : 4 ^ (d + 1) = 4 * 4 ^ d := by rw [Nat.pow_succ]; omega
    simp only [size]
    rw [e]
    generalize 4 ^ d = X at *
    rcases (show ks.length = 0 ∨ ks.length = 1 ∨ ks.length = 2 ∨ ks.length = 3 ∨ ks.length = 4 by omega) with h | h | h | h | h <;> rw [h] at h0 <;> omega
theorem sizes_len : ∀ (ks : List Tm) (d : Nat), shapedL ks d = true → 3 * sizes ks + ks.length ≤ ks.length * 4 ^ d
  | [], d, h => by simp [sizes]
  | k :: ks, d, h => by
    simp only [shapedL, Bool.and_eq_true] at h
    have h1 := size_len k d h.1
    have h2 := sizes_len ks d h.2
    simp only [sizes, List.length_cons, Nat.add_mul, Nat.one_mul]
    omega
end
mutual
theorem shaped_more : ∀ (t : Tm) (d : Nat), shaped t d = true → shaped t (d + 1) = true
  | mk o n ks, 0, h => by simp [shaped] at h
  | mk o n ks, d + 1, h => by
    simp only [shaped, Bool.and_eq_true] at h ⊢
    exact ⟨h.1, shapedL_more ks d h.2⟩
theorem shapedL_more : ∀ (ks : List Tm) (d : Nat), shapedL ks d = true → shapedL ks (d + 1) = true
  | [], d, h => by simp [shapedL]
  | k :: ks, d, h => by
    simp only [shapedL, Bool.and_eq_true] at h ⊢
    exact ⟨shaped_more k d h.1, shapedL_more ks d h.2⟩
end
theorem shaped_mono {t : Tm} {d : Nat} (h : shaped t d = true) : ∀ k, shaped t (d + k) = true
  | 0 => h
  | k + 1 => shaped_more t (d + k) (shaped_mono h k)
theorem valid_of4 {t : Tm} (h : shaped t 4 = true) : valid t = true := by
  have h1 := size_len t 4 h
  have h2 := shaped_mono h 36
  simp only [valid, Bool.and_eq_true, decide_eq_true_eq]
  exact ⟨by omega, h2⟩
theorem acc_of4 {l : List Tm} (h : shapedL l 4 = true) (hl : l.length ≤ 5) : (accN l).length ≤ 80 := by
  have h1 : shapedL (normals l) 4 = true := shapedL_normals l 4 h
  have h2 := accF_len (normals l) 4 0 h1
  rw [normals_map] at h2
  unfold accN
  simp at h2
  omega
/-- More knowledge derives no less; and no more, if what is more can be derived. -/
theorem grows {a b C D : List Tm} (hC : IsCl a C) (hD : IsCl (a ++ b) D) (g : Tm) : (builds C g = true → builds D g = true) ∧ ((∀ t ∈ b, builds C (normal t) = true) → builds D g = builds C g) := by
  have h1 : builds C g = true → builds D g = true := IsCl.cut hD hC fun t ht => hD.known (by simp [ht])
  refine ⟨h1, fun h => ?_⟩
  have h2 : builds D g = true → builds C g = true := IsCl.cut hC hD fun t ht => by
    rcases List.mem_append.1 ht with ht | ht
    · exact hC.known ht
    · exact h t ht
  cases e1 : builds C g <;> cases e2 : builds D g <;> simp_all
end Tm
theorem run_append_nothing {w : World} (base : Nat) (t ty e : TypeId) (i : TypeInfo) (size : Nat) (ht : Tryd.prog.underlying t = some (.slice e)) (hi : Tryd.prog.info? e = some i)
    (v : Value) (n : Nat) (xs : List Value) (hown : w.ownsRow base e size v n xs) (c : Nat) :
    (Builtin.append_ #[t, t] ty #[v, .slice none 0 c]).run Tryd.prog w = .ok v w := by
  rcases hown.2 with ⟨rfl, rfl⟩ | ⟨g, cap, cur, rfl, _, _, hnc, _⟩
  · simp [Builtin.append_, run_underlying ht, sizeOf, typeInfo, hi, Builtin.lenOf, Builtin.firstCells]
  · simp [Builtin.append_, run_underlying ht, sizeOf, typeInfo, hi, Builtin.lenOf, Builtin.firstCells, hnc, storeCells]
theorem grown_refl (w : World) (r : Option Nat) : w.grownBy w r := ⟨rfl, rfl, rfl, Nat.le_refl _, fun _ _ _ => rfl⟩
/-- A list of terms, which may be nil, behind the row. -/
theorem OutT.all {W : World} {base lo X : Nat} {v : Value} {es : List Elem} {ts : List Tm} (h : OutT W base lo X v es ts) {a : Option Addr} {n c : Nat} {l : List Tm} (hT : TL (okV lo X v) W l a n) (hsz : ts.length + l.length ≤ 1000000000000) (hb : base ≤ W.heap.size) (hX : v.ownBlock ≠ some X) (hXl : X < W.heap.size) :
    ∃ v' W' es', (Builtin.append_ #[23, 23] 23 #[v, .slice a n c]).run Tryd.prog W = .ok v' W' ∧ OutT W' base lo X v' es' (ts ++ l) ∧ W.grownBy W' v.ownBlock ∧ v'.ownBlock ≠ some X := by
  cases a with
  | none =>
    have hl : l = [] := by
      cases l with
      | nil => rfl
      | cons k l =>
        obtain ⟨b, o, _, _, _, e, _⟩ := hT.2.2 0 (by simp)
        cases e
    subst hl
    have hn : n = 0 := hT.1
    subst hn
    obtain ⟨i0, hi, _, _, _⟩ := info_parts inf28
    exact ⟨v, W, es, run_append_nothing base 23 23 28 i0 3 Tryd.underlying23 hi v ts.length _ h.row c, by simpa using h, grown_refl _ _, hX⟩
  | some a =>
    obtain ⟨b, o, spot⟩ := a
    cases l with
    | nil =>
      have hn : n = 0 := hT.1
      subst hn
      obtain ⟨i0, hi, hz0, hz1, hz2⟩ := info_parts inf28
      obtain ⟨v', W', h2, h3, h4, _, h5⟩ := run_append_own_at (P := Tryd.prog) W base 23 23 28 i0 _ 3 40 Tryd.underlying23 hi hz0 hz1 hz2 rfl (by omega) v ts.length _ h.row ⟨b, o, spot⟩ 0 c [] rfl (fun j u hu => by simp at hu) (fun u hu => by simp at hu) (by unfold maxLen; omega) (by omega) hb
      have hk : ∀ b, okV lo X v b → b < W.heap.size → W'.heap[b]? = W.heap[b]? ∧ okV lo X v' b := fun b hb hl => ⟨h4.block b hl (fun e => hb.2.2 e.symm), hb.1, hb.2.1, fun e => by
        rcases h5 with h5 | h5
        · exact hb.2.2 (h5 ▸ e)
        · rw [h5] at e; cases e; omega⟩
      refine ⟨v', W', es, h2, ?_, h4, ?_⟩
      · rw [List.append_nil]
        exact ⟨h.len, by simpa using h3, fun i h1 h2 => by
          have := h.each i h1 h2
          exact ⟨this.1, this.2.1, this.2.2.keep hk⟩⟩
      · rcases h5 with h5 | h5
        · rw [h5]; exact hX
        · rw [h5]; simp; omega
    | cons k l =>
      obtain ⟨b', o', _, _, _, e, _⟩ := hT.2.2 0 (by simp)
      cases e
      obtain ⟨v', W', es', h1, h2, h3, _, h4⟩ := h.app (c := c) hT hsz hb hX hXl
      exact ⟨v', W', es', h1, h2, h3, h4⟩
/-- Ints behind a row of ints. -/
theorem appI {W : World} {base : Nat} {v : Value} {ls : List Int} (h : W.ownsRow base 3 1 v ls.length (ls.map (Value.int .i64))) {a : Option Addr} {n c : Nat} {xs : List Int} (hI : Is W a n xs) (hac : a = none → c = c) (hl : ls.length + n ≤ 1000000000000) (hb : base ≤ W.heap.size) :
    ∃ v' W', (Builtin.append_ #[22, 22] 22 #[v, .slice a n c]).run Tryd.prog W = .ok v' W' ∧ W'.ownsRow base 3 1 v' (ls ++ xs).length ((ls ++ xs).map (Value.int .i64)) ∧ W.grownBy W' v.ownBlock := by
  obtain ⟨i0, hi, hz0, hz1, hz2⟩ := info_parts inf3i
  have hn := hI.1
  cases a with
  | none =>
    have h0 : n = 0 := by
      rcases Nat.eq_zero_or_pos n with h | h
      · exact h
      · obtain ⟨b, o, e, _⟩ := hI.2.2 0 h
        cases e
    subst h0
    have hx : xs = [] := List.length_eq_zero_iff.1 hn
    subst hx
    exact ⟨v, W, run_append_nothing base 22 22 3 i0 1 Tryd.underlying22 hi v ls.length _ h c, by simpa using h, grown_refl _ _⟩
  | some a =>
    obtain ⟨v', W', h2, h3, h4, _, _⟩ := run_append_own_at (P := Tryd.prog) W base 22 22 3 i0 _ 1 8 Tryd.underlying22 hi hz0 hz1 hz2 rfl (by omega) v ls.length _ h a n c (xs.map (Value.int .i64)) (by simp [hn]) (fun j u hu => by
      have hj : j < n := by
        rcases Nat.lt_or_ge j n with h | h
        · exact h
        · rw [List.getElem?_eq_none (by simpa [hn] using h)] at hu; cases hu
      obtain ⟨b, o, e, hc, _⟩ := hI.2.2 j hj
      cases e
      have e : (⟨b, o, none⟩ : Addr).add j = ⟨b, o + j, none⟩ := by unfold Addr.add; split <;> simp_all
      rw [e, hc]
      have hjx : j < xs.length := by omega
      simp [hjx] at hu ⊢
      exact hu) (fun u hu => by simp at hu; obtain ⟨x, _, rfl⟩ := hu; rfl) (by unfold maxLen; omega) (by omega) hb
    refine ⟨v', W', h2, ?_, h4⟩
    rw [List.length_append, hn, List.map_append]
    exact h3
theorem own_is' {W : World} {base : Nat} {v : Value} {ls : List Int} (h : W.ownsRow base 3 1 v ls.length (ls.map (Value.int .i64))) (hl : ls.length ≤ 1000000000000) (hb : ∀ i, i < ls.length → -9223372036854775808 ≤ ls.getD i 0 ∧ ls.getD i 0 ≤ 9223372036854775807) : ∃ a c, v = .slice a ls.length c ∧ Is W a ls.length ls := by
  obtain ⟨a, c, rfl⟩ := own_form h
  refine ⟨a, c, rfl, rfl, by omega, fun i hi => ?_⟩
  obtain ⟨g, cap, e, _, hlt⟩ := World.ownsRow.form h (by omega)
  cases e
  have hc := World.ownsRow.cellAt h (j := i) (by omega)
  refine ⟨g, 0, rfl, ?_, (hb i hi).1, (hb i hi).2⟩
  simpa [List.getElem?_eq_getElem hi] using hc
end Go.Proofs.YtkgbjoepjcenlaaDoor
