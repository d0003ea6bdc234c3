/- Terms as trees: sizes, shapes, order, normal forms, texts. No program. -/
import Derived.Lib.Hide
namespace Go.Proofs.YtkgbjoepjcenlaaDoor
inductive Tm where
  | mk (op num : Int) (kids : List Tm)
namespace Tm
def op : Tm → Int | mk o _ _ => o
def num : Tm → Int | mk _ n _ => n
def kids : Tm → List Tm | mk _ _ ks => ks
mutual
def size : Tm → Nat | mk _ _ ks => 1 + sizes ks
def sizes : List Tm → Nat | [] => 0 | k :: ks => size k + sizes ks
end
mutual
def beq : Tm → Tm → Bool | mk o n ks, mk o' n' ks' => o == o' && n == n' && beqs ks ks'
def beqs : List Tm → List Tm → Bool | [], [] => true | k :: ks, k' :: ks' => beq k k' && beqs ks ks' | [], _ :: _ => false | _ :: _, [] => false
end
mutual
theorem beq_iff : ∀ t u : Tm, beq t u = true ↔ t = u
  | mk o n ks, mk o' n' ks' => by simp [beq, beqs_iff ks ks', and_assoc]
theorem beqs_iff : ∀ l m : List Tm, beqs l m = true ↔ l = m
  | [], [] => by simp [beqs]
  | [], _ :: _ => by simp [beqs]
  | _ :: _, [] => by simp [beqs]
  | k :: ks, k' :: ks' => by simp [beqs, beq_iff k k', beqs_iff ks ks']
end
instance : DecidableEq Tm := fun t u => decidable_of_iff _ (beq_iff t u)
/-- The number of kids of an operator. -/
def arity (o : Int) : Int := if o = 1 then 0 else if o = 3 then 1 else if o = 6 then 1 else if o = 2 then 2 else if o = 5 then 2 else if o = 7 then 2 else if o = 8 then 2 else if o = 4 then 4 else -1
/-- A node's own form. -/
def okN (o n : Int) (l : Nat) : Bool := (l : Int) == arity o && if o == 1 then decide (0 ≤ n) && decide (n ≤ 1000) else n == 0
mutual
def shaped : Tm → Nat → Bool
  | mk _ _ _, 0 => false
  | mk o n ks, l + 1 => okN o n ks.length && shapedL ks l
def shapedL : List Tm → Nat → Bool
  | [], _ => true
  | k :: ks, l => shaped k l && shapedL ks l
end
def valid (t : Tm) : Bool := decide (t.size ≤ 2000) && shaped t 40
mutual
def formed : Tm → Int → Int → Bool × Int
  | mk o n ks, left, level => if left - 1 < 0 then (false, left - 1) else if 40 < level then (false, left - 1) else if (ks.length : Int) ≠ arity o then (false, left - 1) else
    if o = 1 then (decide (0 ≤ n) && decide (n ≤ 1000), left - 1) else if n ≠ 0 then (false, left - 1) else formedL ks (left - 1) (level + 1)
def formedL : List Tm → Int → Int → Bool × Int
  | [], left, _ => (true, left)
  | k :: ks, left, level => if (formed k left level).1 then formedL ks (formed k left level).2 level else (false, (formed k left level).2)
end
theorem size_pos (t : Tm) : 1 ≤ t.size := by cases t; simp [size]
mutual
theorem formed_iff : ∀ (t : Tm) (left : Int) (lv : Nat), 0 ≤ left → lv ≤ 40 →
    ((formed t left (41 - lv)).1 = true ↔ (t.size : Int) ≤ left ∧ shaped t lv = true) ∧ ((formed t left (41 - lv)).1 = true → (formed t left (41 - lv)).2 = left - t.size)
  | mk o n ks, left, lv, h0, hl => by
    cases lv with
    | zero =>
      simp only [formed, shaped, size]
      by_cases h1 : left - 1 < 0
      · simp [h1]
      · simp [h1]
    | succ l =>
      have hlv : ¬ (40 : Int) < 41 - ((l + 1 : Nat) : Int) := by omega
      have e1 : (41 - ((l + 1 : Nat) : Int)) + 1 = 41 - (l : Int) := by omega
      simp only [formed, shaped, size, okN]
      by_cases h1 : left - 1 < 0
      · simp only [h1, if_true]
        simp
        intro h; omega
      · simp only [h1, if_false, hlv, e1]
        by_cases h2 : (ks.length : Int) = arity o
        · by_cases h3 : o = 1
          · subst h3
            have hk : ks = [] := by
              have : arity 1 = 0 := rfl
              rw [this] at h2
              exact List.length_eq_zero_iff.1 (by omega)
            subst hk
            simp [arity, sizes, shapedL]
            omega
          · by_cases h4 : n = 0
            · subst h4
              have ih := formedL_iff ks (left - 1) l (by omega) (by omega)
              simp [h2, h3]
              constructor
              · rw [ih.1]; constructor
                · rintro ⟨a, b⟩; exact ⟨by omega, b⟩
                · rintro ⟨a, b⟩; exact ⟨by omega, b⟩
              · intro h; rw [ih.2 h]; omega
            · simp [h2, h3, h4]
        · simp [h2]
theorem formedL_iff : ∀ (ks : List Tm) (left : Int) (lv : Nat), 0 ≤ left → lv ≤ 40 →
    ((formedL ks left (41 - lv)).1 = true ↔ (sizes ks : Int) ≤ left ∧ shapedL ks lv = true) ∧ ((formedL ks left (41 - lv)).1 = true → (formedL ks left (41 - lv)).2 = left - sizes ks)
  | [], left, lv, h0, hl => by simp [formedL, sizes, shapedL]; omega
  | k :: ks, left, lv, h0, hl => by
    have ih := formed_iff k left lv h0 hl
    simp only [formedL, sizes, shapedL]
    cases hf : (formed k left (41 - lv)).1
    · simp [hf] at ih ⊢
      intro h1 h2
      have := ih (by omega)
      simp [this] at h2
    · have h2 := ih.1.1 hf
      have h3 := ih.2 hf
      have ih2 := formedL_iff ks (formed k left (41 - lv)).2 lv (by omega) hl
      rw [h3] at ih2 ⊢
      simp [h2.2]
      constructor
      · rw [ih2.1]; constructor
        · rintro ⟨a, b⟩; exact ⟨by omega, b⟩
        · rintro ⟨a, b⟩; exact ⟨by omega, b⟩
      · intro h; rw [ih2.2 h]; omega
end
theorem formed_valid (t : Tm) : (formed t 2000 1).1 = valid t := by
  have h := (formed_iff t 2000 40 (by omega) (by omega)).1
  have e : (41 - ((40 : Nat) : Int)) = 1 := by omega
  rw [e] at h
  unfold valid
  rw [Bool.eq_iff_iff, h]
  simp
  omega
/-! ### Order -/
def cmpI (a b : Int) : Int := if a < b then -1 else if b < a then 1 else 0
theorem cmpI_zero {a b : Int} : cmpI a b = 0 ↔ a = b := by
  unfold cmpI
  by_cases h1 : a < b
  · rw [if_pos h1]; omega
  · rw [if_neg h1]
    by_cases h2 : b < a
    · rw [if_pos h2]; omega
    · rw [if_neg h2]; omega
theorem cmpI_bd (a b : Int) : -1 ≤ cmpI a b ∧ cmpI a b ≤ 1 := by
  unfold cmpI
  by_cases h1 : a < b
  · rw [if_pos h1]; omega
  · rw [if_neg h1]
    by_cases h2 : b < a
    · rw [if_pos h2]; omega
    · rw [if_neg h2]; omega
theorem cmpI_self (a : Int) : cmpI a a = 0 := by simp [cmpI]
mutual
def compare : Tm → Tm → Int
  | mk o n ks, mk o' n' ks' => if cmpI o o' ≠ 0 then cmpI o o' else if cmpI n n' ≠ 0 then cmpI n n' else if cmpI ks.length ks'.length ≠ 0 then cmpI ks.length ks'.length else compares ks ks'
def compares : List Tm → List Tm → Int
  | k :: ks, k' :: ks' => if compare k k' ≠ 0 then compare k k' else compares ks ks'
  | [], _ => 0
  | _ :: _, [] => 0
end
mutual
theorem compare_self : ∀ t : Tm, compare t t = 0
  | mk o n ks => by simp [compare, cmpI_self, compares_self ks]
theorem compares_self : ∀ l : List Tm, compares l l = 0
  | [] => by simp [compares]
  | k :: ks => by simp [compares, compare_self k, compares_self ks]
end
mutual
theorem compare_eq : ∀ t u : Tm, compare t u = 0 → t = u
  | mk o n ks, mk o' n' ks' => by
    intro h
    simp only [compare] at h
    by_cases h1 : cmpI o o' = 0
    · by_cases h2 : cmpI n n' = 0
      · by_cases h3 : cmpI (ks.length : Int) (ks'.length : Int) = 0
        · simp [h1, h2, h3] at h
          have hl := cmpI_zero.1 h3
          rw [cmpI_zero.1 h1, cmpI_zero.1 h2, compares_eq ks ks' (by omega) h]
        · simp [h1, h2, h3] at h
      · simp [h1, h2] at h
    · simp [h1] at h
theorem compares_eq : ∀ l m : List Tm, l.length = m.length → compares l m = 0 → l = m
  | [], [], _, _ => rfl
  | [], _ :: _, h, _ => by simp at h
  | _ :: _, [], h, _ => by simp at h
  | k :: ks, k' :: ks', h, hc => by
    simp only [compares] at hc
    by_cases h1 : compare k k' = 0
    · simp [h1] at hc
      rw [compare_eq k k' h1, compares_eq ks ks' (by simpa using h) hc]
    · simp [h1] at hc
end
theorem compare_iff {t u : Tm} : compare t u = 0 ↔ t = u := ⟨compare_eq t u, fun h => h ▸ compare_self t⟩
mutual
theorem compare_bd : ∀ t u : Tm, -1 ≤ compare t u ∧ compare t u ≤ 1
  | mk o n ks, mk o' n' ks' => by
    have := compares_bd ks ks'
    have c := cmpI_bd
    simp only [compare]
    split
    · exact c _ _
    · split
      · exact c _ _
      · split
        · exact c _ _
        · exact this
theorem compares_bd : ∀ l m : List Tm, -1 ≤ compares l m ∧ compares l m ≤ 1
  | [], _ => by simp [compares]
  | _ :: _, [] => by simp [compares]
  | k :: ks, k' :: ks' => by
    have h1 := compare_bd k k'
    have h2 := compares_bd ks ks'
    simp only [compares]
    split <;> assumption
end
/-! ### Normal forms -/
/-- A share's kids in order. -/
def swap (o : Int) (l : List Tm) : List Tm := if o = 7 then (match l with | [a, b] => if 0 < compare a b then [b, a] else [a, b] | _ => l) else l
theorem swap_length (o : Int) (l : List Tm) : (swap o l).length = l.length := by
  unfold swap; split
  · split
    · split <;> rfl
    · rfl
  · rfl
mutual
def normal : Tm → Tm | mk o n ks => mk o n (swap o (normals ks))
def normals : List Tm → List Tm | [] => [] | k :: ks => normal k :: normals ks
end
theorem normals_map : ∀ l : List Tm, normals l = l.map normal
  | [] => by simp [normals]
  | k :: ks => by simp [normals, normals_map ks]
mutual
def contains : Tm → Tm → Bool
  | mk o n ks, p => compare (mk o n ks) p == 0 || containsL ks p
def containsL : List Tm → Tm → Bool
  | [], _ => false
  | k :: ks, p => contains k p || containsL ks p
end
end Tm
end Go.Proofs.YtkgbjoepjcenlaaDoor
