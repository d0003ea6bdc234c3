/- What holds of a growing set of terms. No program. -/
import Derived.Test.YtkgbjoepjcenlaaDoorPc
namespace Go.Proofs.YtkgbjoepjcenlaaDoor
namespace Tm
def put (C : List Tm) (t : Tm) : List Tm := if t ∈ C then C else C ++ [t]
theorem put_mem {C : List Tm} {t x : Tm} : x ∈ put C t ↔ x ∈ C ∨ x = t := by
  unfold put; split
  · rename_i h; constructor
    · exact .inl
    · rintro (h1 | rfl)
      · exact h1
      · exact h
  · simp
structure Inv (l C : List Tm) : Prop where
  nodup : C.Nodup
  least : ∀ Q : Tm → Prop, (∀ t ∈ l, Q (normal t)) → (∀ D : List Tm, (∀ x ∈ D, Q x) → ∀ t ∈ D, ∀ p ∈ parts D t, Q p) → ∀ x ∈ C, Q x
theorem put_nodup {C : List Tm} {t : Tm} (h : C.Nodup) : (put C t).Nodup := by
  unfold put; split
  · exact h
  · rename_i hn
    rw [List.nodup_append]
    refine ⟨h, by simp, fun a ha b hb => ?_⟩
    simp at hb
    rintro rfl
    exact hn (hb ▸ ha)
theorem Inv.nil (l : List Tm) : Inv l [] := ⟨by simp, fun Q _ _ x hx => by simp at hx⟩
theorem Inv.addN {l C : List Tm} (h : Inv l C) {t : Tm} (ht : t ∈ l) : Inv l (put C (normal t)) :=
  ⟨put_nodup h.nodup, fun Q h1 h2 x hx => by
    rcases put_mem.1 hx with hx | rfl
    · exact h.least Q h1 h2 x hx
    · exact h1 t ht⟩
theorem Inv.addP {l C D : List Tm} (h : Inv l C) (hD : ∀ x ∈ D, x ∈ C) {t p : Tm} (ht : t ∈ D) (hp : p ∈ parts D t) : Inv l (put C p) :=
  ⟨put_nodup h.nodup, fun Q h1 h2 x hx => by
    rcases put_mem.1 hx with hx | rfl
    · exact h.least Q h1 h2 x hx
    · exact h2 D (fun y hy => h.least Q h1 h2 y (hD y hy)) t ht x hp⟩
theorem Inv.acc {l C : List Tm} (h : Inv l C) : ∀ x ∈ C, x ∈ accN l := h.least (fun x => x ∈ accN l) (fun t ht => accN_self ht) fun D hD t ht p hp => accN_parts hD ht hp
theorem Inv.len {l C : List Tm} (h : Inv l C) : C.length ≤ (accN l).length := nodup_le h.nodup h.acc
theorem kid_size {t p : Tm} (h : p ∈ t.kids) : p.size ≤ t.size := by
  obtain ⟨o, n, ks⟩ := t
  have : ∀ l : List Tm, p ∈ l → p.size ≤ sizes l := by
    intro l
    induction l with
    | nil => intro h; simp at h
    | cons k l ih =>
      intro h
      rcases List.mem_cons.1 h with rfl | h
      · simp [sizes]
      · have := ih h; simp [sizes]; omega
  have h1 := this ks h
  simp [size]; omega
theorem Inv.ok {l C : List Tm} (h : Inv l C) (hl : ∀ t ∈ l, valid t = true) : ∀ x ∈ C, wf x = true ∧ x.size ≤ 2000 :=
  h.least (fun x => wf x = true ∧ x.size ≤ 2000) (fun t ht => by
    have hv := valid_normal (hl t ht)
    exact ⟨valid_wf hv, by simp [valid] at hv; exact hv.1⟩) fun D hD t ht p hp => by
    have h1 := hD t ht
    have hk := parts_kids hp
    have hw : wf p = true := by
      obtain ⟨o, n, ks⟩ := t
      have := h1.1
      simp only [wf, Bool.and_eq_true] at this
      exact (wfs_iff ks).1 this.2 p hk
    exact ⟨hw, by have := kid_size hk; omega⟩
def rem (A C : List Tm) : Nat := (A.filter (fun x => decide (x ∉ C))).length
theorem rem_le (A C : List Tm) : rem A C ≤ A.length := List.length_filter_le _ _
theorem rem_mono (A : List Tm) {C D : List Tm} (h : ∀ x ∈ C, x ∈ D) : rem A D ≤ rem A C := by
  unfold rem
  induction A with
  | nil => simp
  | cons a A ih =>
    simp only [List.filter_cons]
    by_cases h1 : a ∈ D
    · by_cases h2 : a ∈ C
      · simpa [h1, h2] using ih
      · simp [h1, h2] at ih ⊢; omega
    · have h2 : a ∉ C := fun h2 => h1 (h a h2)
      simpa [h1, h2] using ih
theorem rem_lt {A C D : List Tm} (h : ∀ x ∈ C, x ∈ D) {y : Tm} (hy : y ∈ A) (h1 : y ∉ C) (h2 : y ∈ D) : rem A D < rem A C := by
  induction A with
  | nil => simp at hy
  | cons a A ih =>
    have hm := rem_mono A h
    by_cases e : y = a
    · subst e
      unfold rem at hm ⊢
      simp only [List.filter_cons]
      simp [h1, h2] at hm ⊢; omega
    · have hy' : y ∈ A := by
        rcases List.mem_cons.1 hy with rfl | hy
        · exact absurd rfl e
        · exact hy
      have := ih hy'
      unfold rem at this ⊢
      simp only [List.filter_cons]
      by_cases g1 : a ∈ D
      · by_cases g2 : a ∈ C
        · simpa [g1, g2] using this
        · simp [g1, g2] at this ⊢; omega
      · have g2 : a ∉ C := fun g2 => g1 (h a g2)
        simpa [g1, g2] using this
theorem put_take {C : List Tm} {t : Tm} {i : Nat} (h : i < C.length) : ∃ h' : i < (put C t).length, (put C t)[i] = C[i] := by
  unfold put
  split
  · exact ⟨h, rfl⟩
  · exact ⟨by simp; omega, List.getElem_append_left h⟩
theorem put_len {C : List Tm} {t : Tm} : C.length ≤ (put C t).length := by
  unfold put; split <;> simp
end Tm
end Go.Proofs.YtkgbjoepjcenlaaDoor
