/- Plain laws of pages: what is closed, which values a page holds, which page is the newest. No program in sight. -/
import Derived.Test.YtnfjfifdkmgbdaaPe
namespace Go.Proofs.Ytnfjfifdkmgbdaa
namespace Fl

theorem closedFrom_congr {p q : List UInt8} {g : Nat} : ∀ (f j : Nat), (∀ s, j ≤ s → s < j + f → slotB p s = slotB q s) → closedFrom p g f j = closedFrom q g f j
  | 0, _, _ => rfl
  | f + 1, j, h => by
    have h0 := h j (by omega) (by omega)
    have ih := closedFrom_congr (p := p) (q := q) (g := g) f (j + 1) (fun s h1 h2 => h s (by omega) (by omega))
    unfold closedFrom
    rw [goodAt_slot, goodAt_slot, keyAt_slot, keyAt_slot, valAt_slot, valAt_slot, h0, ih]
theorem closedP_congr {p q : List UInt8} {N : Nat} (h : ∀ s, s = 0 ∨ s < N → slotB p s = slotB q s) : closedP p N = closedP q N := by
  unfold closedP
  rw [goodAt_slot, goodAt_slot, keyAt_slot, keyAt_slot, valAt_slot, valAt_slot, h 0 (by omega), closedFrom_congr (N - 1) 1 (fun s h1 h2 => h s (by omega))]

/-- The closing slot of a closed page. -/
theorem closedFrom_at {p : List UInt8} {g : Nat} : ∀ (f j : Nat), (closedFrom p g f j).2 = true → ∃ c, j ≤ c ∧ c < j + f ∧ goodAt p c = true ∧ keyAt p c = 241 ∧ (∀ s, j ≤ s → s < c → goodAt p s = true) ∧ ∀ q : List UInt8, (∀ s, j ≤ s → s ≤ c → slotB q s = slotB p s) → closedFrom q g f j = ((g : Int), true)
  | 0, _, h => by simp [closedFrom] at h
  | f + 1, j, h => by
    unfold closedFrom at h
    split at h
    · simp at h
    · rename_i h1
      simp at h1
      split at h
      · rename_i h2
        simp at h h2
        refine ⟨j, by omega, by omega, h1.1, h2, fun s h3 h4 => by omega, fun q hq => ?_⟩
        have := hq j (by omega) (by omega)
        unfold closedFrom
        rw [goodAt_slot, keyAt_slot, valAt_slot, this, ← goodAt_slot, ← keyAt_slot, ← valAt_slot, h1.1, h2, h]
        simp
      · rename_i h2
        obtain ⟨c, c1, c2, c3, c4, c5, c6⟩ := closedFrom_at f (j + 1) h
        refine ⟨c, by omega, by omega, c3, c4, fun s h3 h4 => ?_, fun q hq => ?_⟩
        · by_cases e : s = j
          · subst e; exact h1.1
          · exact c5 s (by omega) h4
        · have := hq j (by omega) (by omega)
          unfold closedFrom
          rw [goodAt_slot, keyAt_slot, valAt_slot, this, ← goodAt_slot, ← keyAt_slot, ← valAt_slot, if_neg (by simpa using h1), if_neg h2]
          exact c6 q (fun s h3 h4 => hq s (by omega) h4)
theorem closedP_at {p : List UInt8} {N : Nat} (h : (closedP p N).2 = true) : ∃ c, 1 ≤ c ∧ c < N ∧ goodAt p c = true ∧ keyAt p c = 241 ∧ (∀ s, s < c → goodAt p s = true) ∧ ∀ q : List UInt8, (∀ s, s ≤ c → slotB q s = slotB p s) → closedP q N = closedP p N := by
  unfold closedP at h
  split at h
  · simp at h
  · rename_i h1
    have h1' := h1
    simp at h1
    obtain ⟨c, c1, c2, c3, c4, c5, c6⟩ := closedFrom_at _ _ h
    refine ⟨c, by omega, by omega, c3, c4, fun s hs => ?_, fun q hq => ?_⟩
    · by_cases e : s = 0
      · subst e; exact h1.1
      · exact c5 s (by omega) hs
    · have h0 := hq 0 (by omega)
      unfold closedP
      rw [goodAt_slot, keyAt_slot, valAt_slot, h0, ← goodAt_slot, ← keyAt_slot, ← valAt_slot, if_neg h1', if_neg h1', c6 q (fun s h3 h4 => hq s h4), c6 p (fun s h3 h4 => rfl)]
theorem closed_length {p : List UInt8} {c : Nat} (hg : goodAt p c = true) : c < slotOf p := by
  have := good_six hg; unfold slotOf; omega

theorem valueBelow_congr {p q : List UInt8} {key : Int} : ∀ n, (∀ s, s < n → slotB p s = slotB q s) → valueBelow p key n = valueBelow q key n
  | 0, _ => rfl
  | n + 1, h => by
    have h0 := h n (by omega)
    unfold valueBelow
    rw [goodAt_slot, goodAt_slot, keyAt_slot, keyAt_slot, valAt_slot, valAt_slot, h0, valueBelow_congr n (fun s hs => h s (by omega))]
/-- Slots that are not good, or of another key, say nothing. -/
theorem valueBelow_skip {p : List UInt8} {key : Int} (a : Nat) : ∀ f, (∀ s, a ≤ s → s < a + f → goodAt p s = false ∨ ((keyAt p s : Nat) : Int) ≠ key) → valueBelow p key (a + f) = valueBelow p key a
  | 0, _ => rfl
  | f + 1, h => by
    have h0 := h (a + f) (by omega) (by omega)
    have ih := valueBelow_skip (p := p) (key := key) a f (fun s h1 h2 => h s h1 (by omega))
    have hn : ¬ (goodAt p (a + f) && ((keyAt p (a + f) : Nat) : Int) == key) = true := by
      rcases h0 with h0 | h0
      · simp [h0]
      · simp [h0]
    rw [← Nat.add_assoc, valueBelow, if_neg hn, ih]
theorem valueBelow_skipTo {p : List UInt8} {key : Int} {a n : Nat} (han : a ≤ n) (h : ∀ s, a ≤ s → s < n → goodAt p s = false ∨ ((keyAt p s : Nat) : Int) ≠ key) : valueBelow p key n = valueBelow p key a := by
  obtain ⟨f, rfl⟩ := Nat.exists_eq_add_of_le han
  exact valueBelow_skip a f h
theorem valueBelow_hit {p : List UInt8} {key : Int} {n : Nat} (hg : goodAt p n = true) (hk : ((keyAt p n : Nat) : Int) = key) : valueBelow p key (n + 1) = (((valAt p n : Nat) : Int), true) := by
  rw [valueBelow, if_pos (by simp [hg, hk])]
theorem valueBelow_bd (p : List UInt8) (key : Int) : ∀ n, 0 ≤ (valueBelow p key n).1 ∧ (valueBelow p key n).1 ≤ 1099511627775
  | 0 => by simp [valueBelow]
  | n + 1 => by
    have := valAt_lt p n
    unfold valueBelow
    split
    · simp; omega
    · exact valueBelow_bd p key n
theorem valueBelow_no (p : List UInt8) (key : Int) : ∀ n, (valueBelow p key n).2 = false → valueBelow p key n = (0, false)
  | 0, _ => rfl
  | n + 1, h => by
    unfold valueBelow at h ⊢
    split
    · rename_i h1; rw [if_pos h1] at h; cases h
    · rename_i h1; rw [if_neg h1] at h; exact valueBelow_no p key n h

/-- The generation of a closed page, -1 of another. -/
def genP (p : List UInt8) (N : Nat) : Int := if (closedP p N).2 then (closedP p N).1 else -1
theorem genP_bd (p : List UInt8) (N : Nat) : -1 ≤ genP p N := by
  have := closedP_bd p N; unfold genP; split <;> omega
theorem newestStep_gen (p : List UInt8) (N i : Nat) (s : Int × Int) (hs : -1 ≤ s.2) : newestStep p N i s = if s.2 < genP p N then ((i : Int), genP p N) else s := by
  have := closedP_bd p N
  unfold newestStep genP
  cases h : (closedP p N).2
  · simp; omega
  · simp
/-- What the newest page is: the first of those with the greatest generation. -/
structure IsNew (ps : List (List UInt8)) (N : Nat) (a g : Int) : Prop where
  most : ∀ i, i < ps.length → genP (ps.getD i []) N ≤ g
  cas : (a = -1 ∧ g = -1) ∨ (0 ≤ a ∧ a < ps.length ∧ 0 ≤ g ∧ genP (ps.getD a.toNat []) N = g ∧ ∀ i : Nat, (i : Int) < a → genP (ps.getD i []) N < g)
theorem IsNew.unique {ps : List (List UInt8)} {N : Nat} {a g b h : Int} (x : IsNew ps N a g) (y : IsNew ps N b h) : a = b ∧ g = h := by
  rcases x.cas with ⟨rfl, rfl⟩ | ⟨x1, x2, x3, x4, x5⟩ <;> rcases y.cas with ⟨rfl, rfl⟩ | ⟨y1, y2, y3, y4, y5⟩
  · exact ⟨rfl, rfl⟩
  · have := x.most b.toNat (by omega); omega
  · have := y.most a.toNat (by omega); omega
  · have h1 := x.most b.toNat (by omega)
    have h2 := y.most a.toNat (by omega)
    have hgh : g = h := by omega
    subst hgh
    rcases Int.lt_trichotomy a b with hab | hab | hab
    · have := y5 a.toNat (by omega); omega
    · exact ⟨hab, rfl⟩
    · have := x5 b.toNat (by omega); omega
theorem newestL_new (N : Nat) (all : List (List UInt8)) : ∀ (ps pre : List (List UInt8)) (s : Int × Int), all = pre ++ ps → IsNew pre N s.1 s.2 → IsNew all N (newestL N ps pre.length s).1 (newestL N ps pre.length s).2
  | [], pre, s, h, hs => by simpa [newestL, h] using hs
  | p :: ps, pre, s, h, hs => by
    have hlo : -1 ≤ s.2 := by rcases hs.cas with h | h <;> omega
    have := newestL_new N all ps (pre ++ [p]) (newestStep p N pre.length s) (by simp [h]) ?_
    · simpa [newestL] using this
    · rw [newestStep_gen p N _ s hlo]
      have gl : ∀ i, i < pre.length → (pre ++ [p]).getD i [] = pre.getD i [] := fun i hi => by simp [List.getElem?_append_left hi]
      have gp : (pre ++ [p]).getD pre.length [] = p := by simp
      have hgp := genP_bd p N
      split
      · rename_i hlt
        refine ⟨fun i hi => ?_, Or.inr ⟨by simp, by simp; omega, by dsimp only; omega, by simp, fun i hi => ?_⟩⟩
        · simp only [List.length_append, List.length_cons, List.length_nil] at hi
          by_cases e : i = pre.length
          · subst e; rw [gp]; exact Int.le_refl _
          · rw [gl i (by omega)]; have := hs.most i (by omega); dsimp only; omega
        · dsimp only at hi ⊢
          rw [gl i (by omega)]; have := hs.most i (by omega); omega
      · rename_i hge
        refine ⟨fun i hi => ?_, ?_⟩
        · simp only [List.length_append, List.length_cons, List.length_nil] at hi
          by_cases e : i = pre.length
          · subst e; rw [gp]; omega
          · rw [gl i (by omega)]; exact hs.most i (by omega)
        · rcases hs.cas with h | ⟨x1, x2, x3, x4, x5⟩
          · exact Or.inl h
          · refine Or.inr ⟨x1, by simp; omega, x3, ?_, fun i hi => ?_⟩
            · rw [gl _ (by omega)]; exact x4
            · rw [gl _ (by omega)]; exact x5 i hi
theorem newestP_new (ps : List (List UInt8)) (N : Nat) : IsNew ps N (newestP ps N).1 (newestP ps N).2 :=
  newestL_new N ps ps [] (-1, -1) rfl ⟨fun i hi => by simp at hi, Or.inl ⟨rfl, rfl⟩⟩
theorem newestP_of {ps : List (List UInt8)} {N : Nat} {a g : Int} (h : IsNew ps N a g) : newestP ps N = (a, g) := by
  have := (newestP_new ps N).unique h
  exact Prod.ext this.1 this.2

/-- A valid memory, in parts. -/
structure Val (m : Mem) : Prop where
  sized : sizedP m.size m.pages.length = true
  lens : m.erased.length = m.pages.length
  rows : ∀ i, i < m.pages.length → ((m.pages.getD i []).length : Int) ≤ m.size ∧ 0 ≤ m.erased.getD i 0 ∧ m.erased.getD i 0 ≤ 1000
  at_ : 0 ≤ (newest m).1
  gen : (newest m).2 < 549755813888
theorem rowsOk_iff (size : Int) : ∀ (ps : List (List UInt8)) (es : List Int), rowsOk size ps es = true ↔ ∀ i, i < ps.length → ((ps.getD i []).length : Int) ≤ size ∧ 0 ≤ es.getD i 0 ∧ es.getD i 0 ≤ 1000
  | [], es => by simp [rowsOk]
  | p :: ps, es => by
    have ih := rowsOk_iff size ps (es.drop 1)
    rw [rowsOk, Bool.and_eq_true, ih]
    constructor
    · rintro ⟨h1, h2⟩ i hi
      cases i with
      | zero => simp [rowOk] at h1; simpa using ⟨h1.1.1, h1.1.2, h1.2⟩
      | succ i => have := h2 i (by simpa using hi); simpa [Nat.add_comm 1 i] using this
    · intro h
      refine ⟨?_, fun i hi => ?_⟩
      · have := h 0 (by simp); simp [rowOk]; simpa [and_assoc] using this
      · have := h (i + 1) (by simpa using hi); simpa [Nat.add_comm 1 i] using this
theorem val_iff (m : Mem) : validP m = true ↔ Val m := by
  constructor
  · intro h
    simp only [validP, Bool.and_eq_true, beq_iff_eq, decide_eq_true_eq] at h
    exact ⟨h.1.1.1.1, h.1.1.1.2, (rowsOk_iff _ _ _).1 h.1.1.2, h.1.2, h.2⟩
  · rintro ⟨h1, h2, h3, h4, h5⟩
    simp only [validP, Bool.and_eq_true, beq_iff_eq, decide_eq_true_eq]
    exact ⟨⟨⟨⟨h1, h2⟩, (rowsOk_iff _ _ _).2 h3⟩, h4⟩, h5⟩
theorem getP_val {m : Mem} (h : validP m = true) {key : Int} (h0 : 0 ≤ key) (h1 : key ≤ 15) : getP m key = valueBelow (cur m) key (N m) := by
  unfold getP cur; rw [if_pos (by simp [h, h0, h1])]
end Fl
end Go.Proofs.Ytnfjfifdkmgbdaa
