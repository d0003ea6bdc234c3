/- What can be built from a set of terms, what can be taken apart, and least sets. No program. -/
import Derived.Test.YtkgbjoepjcenlaaDoorPb
namespace Go.Proofs.YtkgbjoepjcenlaaDoor
namespace Tm
def pub (t : Tm) : Tm := mk 6 0 [t]
/-- An agreement of two keys: both, or one and the other's public part. -/
def shareB (C : List Tm) (bs : List Bool) (ks : List Tm) : Bool := match bs, ks with
  | [a, b], [x, y] => (a && (b || decide (pub y ∈ C))) || (b && decide (pub x ∈ C))
  | _, _ => false
mutual
def builds (C : List Tm) : Tm → Bool
  | mk o n ks => decide (mk o n ks ∈ C) || (if o = 1 then decide (n < 100) else if o = 7 then shareB C (buildsL C ks) ks else (buildsL C ks).all id)
def buildsL (C : List Tm) : List Tm → List Bool
  | [] => []
  | k :: ks => builds C k :: buildsL C ks
end
theorem buildsL_map (C : List Tm) : ∀ l : List Tm, buildsL C l = l.map (builds C)
  | [] => by simp [buildsL]
  | k :: ks => by simp [buildsL, buildsL_map C ks]
def parts (C : List Tm) : Tm → List Tm
  | mk o _ ks => if o = 2 then ks else if o = 5 then ks.drop 1 else if o = 4 then (if ((ks.head?).map (builds C)).getD false then ks.drop 3 else []) else []
theorem builds_mem {C : List Tm} {t : Tm} (h : t ∈ C) : builds C t = true := by
  cases t; simp [builds, h]
theorem builds_cut {C D : List Tm} (h : ∀ x ∈ D, builds C x = true) : ∀ t : Tm, builds D t = true → builds C t = true := by
  have pubs : ∀ y : Tm, pub y ∈ D → builds C y = true ∨ pub y ∈ C := fun y hy => by
    have := h _ hy
    simp only [pub, builds, Bool.or_eq_true, decide_eq_true_eq] at this
    rcases this with h1 | h1
    · exact .inr h1
    · left
      simp [buildsL] at h1; exact h1
  intro t
  refine Tm.rec (motive_1 := fun t => builds D t = true → builds C t = true) (motive_2 := fun l => ∀ t ∈ l, builds D t = true → builds C t = true) ?_ ?_ ?_ t
  · intro o n ks ih hb
    by_cases hm : mk o n ks ∈ D
    · exact h _ hm
    · simp only [builds, hm, decide_false, Bool.false_or] at hb
      simp only [builds, Bool.or_eq_true]
      right
      by_cases h1 : o = 1
      · rw [if_pos h1] at hb ⊢; exact hb
      · rw [if_neg h1] at hb ⊢
        by_cases h7 : o = 7
        · rw [if_pos h7] at hb ⊢
          rw [buildsL_map] at hb ⊢
          match ks, ih, hb with
          | [x, y], ih, hb =>
            have ix := ih x (by simp)
            have iy := ih y (by simp)
            simp only [List.map_cons, List.map_nil, shareB, Bool.or_eq_true, Bool.and_eq_true, decide_eq_true_eq] at hb ⊢
            rcases hb with ⟨ha, hb | hb⟩ | ⟨hb, ha⟩
            · exact .inl ⟨ix ha, .inl (iy hb)⟩
            · rcases pubs y hb with h2 | h2
              · exact .inl ⟨ix ha, .inl h2⟩
              · exact .inl ⟨ix ha, .inr h2⟩
            · rcases pubs x ha with h2 | h2
              · exact .inl ⟨h2, .inl (iy hb)⟩
              · exact .inr ⟨iy hb, h2⟩
          | [], _, hb => simp [shareB] at hb
          | [_], _, hb => simp [shareB] at hb
          | _ :: _ :: _ :: _, _, hb => simp [shareB] at hb
        · rw [if_neg h7] at hb ⊢
          rw [buildsL_map] at hb ⊢
          simp only [List.all_eq_true, List.mem_map, forall_exists_index, and_imp, forall_apply_eq_imp_iff₂, id] at hb ⊢
          exact fun k hk => ih k hk (hb k hk)
  · intro t ht; simp at ht
  · intro k ks h1 h2 t ht
    rcases List.mem_cons.1 ht with rfl | ht
    · exact h1
    · exact h2 t ht
theorem builds_mono {C D : List Tm} (h : ∀ x ∈ D, x ∈ C) {t : Tm} : builds D t = true → builds C t = true := builds_cut (fun x hx => builds_mem (h x hx)) t
theorem parts_cut {C D : List Tm} (h : ∀ x ∈ D, builds C x = true) {t p : Tm} (hp : p ∈ parts D t) : p ∈ parts C t := by
  obtain ⟨o, n, ks⟩ := t
  simp only [parts] at hp ⊢
  by_cases h2 : o = 2
  · rw [if_pos h2] at hp ⊢; exact hp
  · rw [if_neg h2] at hp ⊢
    by_cases h5 : o = 5
    · rw [if_pos h5] at hp ⊢; exact hp
    · rw [if_neg h5] at hp ⊢
      by_cases h4 : o = 4
      · rw [if_pos h4] at hp ⊢
        cases ks with
        | nil => simp at hp
        | cons k ks =>
          have hD : ((List.head? (k :: ks)).map (builds D)).getD false = builds D k := rfl
          have hC : ((List.head? (k :: ks)).map (builds C)).getD false = builds C k := rfl
          by_cases hb : builds D k = true
          · rw [if_pos (hD.trans hb)] at hp
            rw [if_pos (hC.trans (builds_cut h k hb))]
            exact hp
          · rw [if_neg (by rw [hD]; exact hb)] at hp; simp at hp
      · rw [if_neg h4] at hp; simp at hp
theorem parts_mono {C D : List Tm} (h : ∀ x ∈ D, x ∈ C) {t p : Tm} (hp : p ∈ parts D t) : p ∈ parts C t := parts_cut (fun x hx => builds_mem (h x hx)) hp
theorem parts_kids {C : List Tm} {t p : Tm} (hp : p ∈ parts C t) : p ∈ t.kids := by
  obtain ⟨o, n, ks⟩ := t
  simp only [parts] at hp
  show p ∈ ks
  split at hp
  · exact hp
  · split at hp
    · exact List.mem_of_mem_drop hp
    · split at hp
      · split at hp
        · exact List.mem_of_mem_drop hp
        · simp at hp
      · simp at hp
def Closed (C : List Tm) : Prop := ∀ t ∈ C, ∀ p ∈ parts C t, p ∈ C
/-- A part of what can be built can be built. -/
theorem builds_parts {C : List Tm} (hC : Closed C) {t p : Tm} (ht : builds C t = true) (hp : p ∈ parts C t) : builds C p = true := by
  by_cases hm : t ∈ C
  · exact builds_mem (hC t hm p hp)
  · have hk := parts_kids hp
    obtain ⟨o, n, ks⟩ := t
    simp only [builds, hm, decide_false, Bool.false_or] at ht
    have h1 : o ≠ 1 ∧ o ≠ 7 := by
      constructor <;> (rintro rfl; simp [parts] at hp)
    rw [if_neg h1.1, if_neg h1.2, buildsL_map] at ht
    simp only [List.all_eq_true, List.mem_map, forall_exists_index, and_imp, forall_apply_eq_imp_iff₂, id] at ht
    exact ht p hk
/-- C is the least set of the terms l. -/
structure IsCl (l C : List Tm) : Prop where
  has : ∀ t ∈ l, normal t ∈ C
  closed : Closed C
  least : ∀ Q : Tm → Prop, (∀ t ∈ l, Q (normal t)) → (∀ D : List Tm, (∀ x ∈ D, Q x) → ∀ t ∈ D, ∀ p ∈ parts D t, Q p) → ∀ x ∈ C, Q x
/-- What can be derived from derivable terms can be derived. -/
theorem IsCl.cut {a l C D : List Tm} (hC : IsCl a C) (hD : IsCl l D) (h : ∀ t ∈ l, builds C (normal t) = true) {g : Tm} (hg : builds D g = true) : builds C g = true :=
  builds_cut (hD.least (fun x => builds C x = true) h fun E hE t ht p hp => builds_parts hC.closed (hE t ht) (parts_cut hE hp)) g hg
theorem IsCl.known {a C : List Tm} (hC : IsCl a C) {t : Tm} (h : t ∈ a) : builds C (normal t) = true := builds_mem (hC.has t h)
theorem IsCl.sub {l C D : List Tm} (hC : IsCl l C) (hD : IsCl l D) : ∀ x ∈ C, x ∈ D :=
  hC.least (fun x => x ∈ D) hD.has fun E hE t ht p hp => hD.closed t (hE t ht) p (parts_mono hE hp)
theorem IsCl.builds_eq {l C D : List Tm} (hC : IsCl l C) (hD : IsCl l D) (g : Tm) : builds C g = builds D g := by
  rw [Bool.eq_iff_iff]
  exact ⟨builds_mono (hC.sub hD), builds_mono (hD.sub hC)⟩
/-- Lists with the same terms have the same least sets. -/
theorem IsCl.of_mem {l m C : List Tm} (h : IsCl l C) (e : ∀ t, t ∈ l ↔ t ∈ m) : IsCl m C :=
  ⟨fun t ht => h.has t ((e t).2 ht), h.closed, fun Q h1 h2 => h.least Q (fun t ht => h1 t ((e t).1 ht)) h2⟩
/-! ### What can be met at all -/
mutual
def acc : Tm → List Tm | mk o n ks => mk o n ks :: (if o = 2 then accF 0 ks else if o = 5 then accF 1 ks else if o = 4 then accF 3 ks else [])
def accF : Nat → List Tm → List Tm
  | _, [] => []
  | 0, k :: ks => acc k ++ accF 0 ks
  | n + 1, _ :: ks => accF n ks
end
theorem acc_self (t : Tm) : t ∈ acc t := by cases t; simp [acc]
theorem accF_mem : ∀ (n : Nat) (l : List Tm) (x : Tm), x ∈ accF n l ↔ ∃ k ∈ l.drop n, x ∈ acc k
  | n, [], x => by cases n <;> simp [accF]
  | 0, k :: ks, x => by
    have ih := accF_mem 0 ks x
    simp only [List.drop_zero] at ih
    simp [accF, ih]
  | n + 1, k :: ks, x => by
    have ih := accF_mem n ks x
    simp [accF, ih]
theorem acc_parts (C : List Tm) {t p : Tm} (hp : p ∈ parts C t) : ∀ x ∈ acc p, x ∈ acc t := by
  obtain ⟨o, n, ks⟩ := t
  intro x hx
  simp only [parts] at hp
  unfold acc
  refine List.mem_cons_of_mem _ ?_
  by_cases h2 : o = 2
  · rw [if_pos h2] at hp ⊢; exact (accF_mem 0 ks x).2 ⟨p, by simpa using hp, hx⟩
  · rw [if_neg h2] at hp ⊢
    by_cases h5 : o = 5
    · rw [if_pos h5] at hp ⊢; exact (accF_mem 1 ks x).2 ⟨p, hp, hx⟩
    · rw [if_neg h5] at hp ⊢
      by_cases h4 : o = 4
      · rw [if_pos h4] at hp ⊢
        split at hp
        · exact (accF_mem 3 ks x).2 ⟨p, hp, hx⟩
        · simp at hp
      · rw [if_neg h4] at hp; simp at hp
theorem acc_trans : ∀ t : Tm, ∀ x ∈ acc t, ∀ y ∈ acc x, y ∈ acc t := by
  intro t
  refine Tm.rec (motive_1 := fun t => ∀ x ∈ acc t, ∀ y ∈ acc x, y ∈ acc t) (motive_2 := fun l => ∀ t ∈ l, ∀ x ∈ acc t, ∀ y ∈ acc x, y ∈ acc t) ?_ ?_ ?_ t
  · intro o n ks ih x hx y hy
    unfold acc at hx
    rcases List.mem_cons.1 hx with rfl | hx
    · exact hy
    · unfold acc
      refine List.mem_cons_of_mem _ ?_
      have go : ∀ m, x ∈ accF m ks → y ∈ accF m ks := fun m h => by
        obtain ⟨k, hk, hxk⟩ := (accF_mem m ks x).1 h
        exact (accF_mem m ks y).2 ⟨k, hk, ih k (List.mem_of_mem_drop hk) x hxk y hy⟩
      split at hx
      · rename_i h; rw [if_pos h]; exact go _ hx
      · rename_i h; rw [if_neg h]
        split at hx
        · rename_i h; rw [if_pos h]; exact go _ hx
        · rename_i h; rw [if_neg h]
          split at hx
          · rename_i h; rw [if_pos h]; exact go _ hx
          · simp at hx
  · intro t ht; simp at ht
  · intro k ks h1 h2 t ht
    rcases List.mem_cons.1 ht with rfl | ht
    · exact h1
    · exact h2 t ht
/-- All that a list of terms may come to. -/
def accN (l : List Tm) : List Tm := accF 0 (l.map normal)
theorem accN_self {l : List Tm} {t : Tm} (h : t ∈ l) : normal t ∈ accN l := (accF_mem 0 _ _).2 ⟨normal t, by simpa using ⟨t, h, rfl⟩, acc_self _⟩
theorem accN_parts {l D : List Tm} (hD : ∀ x ∈ D, x ∈ accN l) {t : Tm} (ht : t ∈ D) {C : List Tm} {p : Tm} (hp : p ∈ parts C t) : p ∈ accN l := by
  obtain ⟨k, hk, hx⟩ := (accF_mem 0 _ _).1 (hD t ht)
  exact (accF_mem 0 _ _).2 ⟨k, hk, acc_trans k t hx p (acc_parts C hp p (acc_self p))⟩
/-- A list without repetitions of terms that may be met is no longer than what may be met. -/
theorem nodup_le {l D : List Tm} (hn : D.Nodup) (h : ∀ x ∈ D, x ∈ l) : D.length ≤ l.length := by
  induction D generalizing l with
  | nil => simp
  | cons x D ih =>
    have hx := h x (by simp)
    simp only [List.nodup_cons] at hn
    have := ih (l := l.erase x) hn.2 fun y hy => (List.mem_erase_of_ne (fun (e : y = x) => hn.1 (e ▸ hy))).2 (h y (by simp [hy]))
    rw [List.length_erase_of_mem hx] at this
    have := List.length_pos_of_mem hx
    simp; omega
theorem accF_append (l m : List Tm) : accF 0 (l ++ m) = accF 0 l ++ accF 0 m := by
  induction l with
  | nil => simp [accF]
  | cons k l ih => simp [accF, ih]
mutual
theorem acc_len : ∀ (t : Tm) (d : Nat), shaped t d = true → (acc t).length + 1 ≤ 2 ^ d
  | mk o n ks, 0, h => by simp [shaped] at h
  | mk o n ks, d + 1, h => by
    simp only [shaped, Bool.and_eq_true] at h
    have hl := okN_len h.1
    have h0 := accF_len ks d 0 h.2
    have h1 := accF_len ks d 1 h.2
    have h3 := accF_len ks d 3 h.2
    have e : 2 ^ (d + 1) = 2 * 2 ^ d := by rw [Nat.pow_succ]; omega
    have hp : 1 ≤ 2 ^ d := Nat.one_le_two_pow
    simp only [acc]
    by_cases a2 : o = 2
    · subst a2
      have hl2 : ks.length = 2 := by simp [arity] at hl; omega
      rw [hl2] at h0
      simp; omega
    · rw [if_neg a2]
      by_cases a5 : o = 5
      · subst a5
        have hl2 : ks.length = 2 := by simp [arity] at hl; omega
        rw [hl2] at h1
        simp; omega
      · rw [if_neg a5]
        by_cases a4 : o = 4
        · subst a4
          have hl2 : ks.length = 4 := by simp [arity] at hl; omega
          rw [hl2] at h3
          simp; omega
        · rw [if_neg a4]; simp; omega
theorem accF_len : ∀ (ks : List Tm) (d n : Nat), shapedL ks d = true → (accF n ks).length + (ks.length - n) ≤ (ks.length - n) * 2 ^ d
  | [], d, n, _ => by cases n <;> simp [accF]
  | k :: ks, d, 0, h => by
    simp only [shapedL, Bool.and_eq_true] at h
    have h1 := acc_len k d h.1
    have h2 := accF_len ks d 0 h.2
    simp only [accF, List.length_append, List.length_cons, Nat.sub_zero] at h2 ⊢
    rw [Nat.add_mul]; omega
  | k :: ks, d, n + 1, h => by
    simp only [shapedL, Bool.and_eq_true] at h
    have h2 := accF_len ks d n h.2
    simp only [accF, List.length_cons]
    have : ks.length + 1 - (n + 1) = ks.length - n := by omega
    rw [this]; exact h2
end
end Tm
end Go.Proofs.YtkgbjoepjcenlaaDoor
