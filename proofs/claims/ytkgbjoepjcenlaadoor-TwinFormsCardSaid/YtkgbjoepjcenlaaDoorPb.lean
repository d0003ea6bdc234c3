/- Terms: well-formed ones, their texts, and that texts tell them apart. No program. -/
import Derived.Test.YtkgbjoepjcenlaaDoorPa
namespace Go.Proofs.YtkgbjoepjcenlaaDoor
namespace Tm
mutual
def wf : Tm → Bool | mk o n ks => okN o n ks.length && wfs ks
def wfs : List Tm → Bool | [] => true | k :: ks => wf k && wfs ks
end
mutual
theorem shaped_wf : ∀ (t : Tm) (l : Nat), shaped t l = true → wf t = true
  | mk o n ks, 0, h => by simp [shaped] at h
  | mk o n ks, l + 1, h => by
    simp [shaped] at h
    simp [wf, h.1, shapedL_wf ks l h.2]
theorem shapedL_wf : ∀ (ks : List Tm) (l : Nat), shapedL ks l = true → wfs ks = true
  | [], _, _ => by simp [wfs]
  | k :: ks, l, h => by
    simp [shapedL] at h
    simp [wfs, shaped_wf k l h.1, shapedL_wf ks l h.2]
end
theorem valid_wf {t : Tm} (h : valid t = true) : wf t = true := by
  simp [valid] at h; exact shaped_wf t 40 h.2
theorem wfs_iff : ∀ l : List Tm, wfs l = true ↔ ∀ t ∈ l, wf t = true
  | [] => by simp [wfs]
  | k :: ks => by simp [wfs, wfs_iff ks]
theorem shapedL_iff (n : Nat) : ∀ l : List Tm, shapedL l n = true ↔ ∀ t ∈ l, shaped t n = true
  | [] => by simp [shapedL]
  | k :: ks => by simp [shapedL, shapedL_iff n ks]
theorem okN_len {o n : Int} {l : Nat} (h : okN o n l = true) : (l : Int) = arity o := by simp [okN] at h; exact h.1
theorem okN_op {o n : Int} {l : Nat} (h : okN o n l = true) : o = 1 ∨ o = 2 ∨ o = 3 ∨ o = 4 ∨ o = 5 ∨ o = 6 ∨ o = 7 ∨ o = 8 := by
  have h1 := okN_len h
  unfold arity at h1
  by_cases a1 : o = 1; · omega
  by_cases a2 : o = 2; · omega
  by_cases a3 : o = 3; · omega
  by_cases a4 : o = 4; · omega
  by_cases a5 : o = 5; · omega
  by_cases a6 : o = 6; · omega
  by_cases a7 : o = 7; · omega
  by_cases a8 : o = 8; · omega
  simp [a1, a2, a3, a4, a5, a6, a7, a8] at h1
theorem okN_name {n : Int} {l : Nat} (h : okN 1 n l = true) : l = 0 ∧ 0 ≤ n ∧ n ≤ 1000 := by
  simp [okN, arity] at h; exact ⟨h.1, h.2.1, h.2.2⟩
theorem okN_num {o n : Int} {l : Nat} (h : okN o n l = true) (ho : o ≠ 1) : n = 0 := by
  simp [okN, ho] at h; exact h.2
/-! ### What normal keeps -/
theorem swap_mem {o : Int} {l : List Tm} {t : Tm} : t ∈ swap o l ↔ t ∈ l := by
  unfold swap
  split
  · split
    · split
      · simp; constructor <;> (intro h; rcases h with h | h <;> simp [h])
      · rfl
    · rfl
  · rfl
theorem sizes_swap (o : Int) (l : List Tm) : sizes (swap o l) = sizes l := by
  unfold swap
  split
  · split
    · split
      · simp [sizes]; omega
      · rfl
    · rfl
  · rfl
theorem normals_length : ∀ l : List Tm, (normals l).length = l.length := fun l => by rw [normals_map]; simp
mutual
theorem size_normal : ∀ t : Tm, (normal t).size = t.size
  | mk o n ks => by simp [normal, size, sizes_swap, sizes_normals ks]
theorem sizes_normals : ∀ l : List Tm, sizes (normals l) = sizes l
  | [] => by simp [normals]
  | k :: ks => by simp [normals, sizes, size_normal k, sizes_normals ks]
end
mutual
theorem shaped_normal : ∀ (t : Tm) (l : Nat), shaped t l = true → shaped (normal t) l = true
  | mk o n ks, 0, h => by simp [shaped] at h
  | mk o n ks, l + 1, h => by
    simp only [shaped, Bool.and_eq_true] at h
    simp only [normal, shaped, Bool.and_eq_true, swap_length, normals_length]
    refine ⟨h.1, ?_⟩
    have ih := shapedL_normals ks l h.2
    rw [shapedL_iff] at ih ⊢
    intro t ht
    exact ih t (swap_mem.1 ht)
theorem shapedL_normals : ∀ (ks : List Tm) (l : Nat), shapedL ks l = true → shapedL (normals ks) l = true
  | [], _, _ => by simp [normals, shapedL]
  | k :: ks, l, h => by
    simp [shapedL] at h
    simp [normals, shapedL, shaped_normal k l h.1, shapedL_normals ks l h.2]
end
theorem valid_normal {t : Tm} (h : valid t = true) : valid (normal t) = true := by
  simp [valid] at h ⊢
  exact ⟨by rw [size_normal]; exact h.1, shaped_normal t 40 h.2⟩
/-! ### Numbers in decimal -/
def decF : Nat → Nat → List UInt8
  | 0, n => [UInt8.ofNat (48 + n)]
  | f + 1, n => if n < 10 then [UInt8.ofNat (48 + n)] else decF f (n / 10) ++ [UInt8.ofNat (48 + n % 10)]
def dec (n : Nat) : List UInt8 := decF 4 n
def isD (c : UInt8) : Bool := decide (48 ≤ c.toNat) && decide (c.toNat ≤ 57)
def val (l : List UInt8) : Nat := l.foldl (fun a c => 10 * a + (c.toNat - 48)) 0
theorem dec_facts : ∀ n, n < 1001 → (dec n).all isD = true ∧ val (dec n) = n ∧ (dec n).length ≤ 4 := by decide +kernel
/-- No digit comes first. -/
def nd (l : List UInt8) : Prop := ∀ c r, l = c :: r → isD c = false
theorem nd_nil : nd [] := fun c r h => by cases h
theorem nd_cons {c : UInt8} (h : isD c = false) (r : List UInt8) : nd (c :: r) := fun c' r' e => by cases e; exact h
theorem take_digits (d r : List UInt8) (hd : d.all isD = true) (hr : nd r) : (d ++ r).takeWhile isD = d := by
  induction d with
  | nil =>
    cases r with
    | nil => rfl
    | cons c r => simp [hr c r rfl]
  | cons x d ih =>
    simp only [List.all_cons, Bool.and_eq_true] at hd
    simp [hd.1, ih hd.2]
theorem dec_inj {n m : Nat} (hn : n < 1001) (hm : m < 1001) {r s : List UInt8} (hr : nd r) (hs : nd s) (h : dec n ++ r = dec m ++ s) : n = m ∧ r = s := by
  have a := dec_facts n hn
  have b := dec_facts m hm
  have e : dec n = dec m := by rw [← take_digits (dec n) r a.1 hr, h, take_digits (dec m) s b.1 hs]
  refine ⟨by rw [← a.2.1, e, b.2.1], ?_⟩
  rw [e] at h
  exact List.append_cancel_left h
/-! ### Texts -/
def opName (o : Int) : List UInt8 := if o = 2 then [112, 97, 105, 114] else if o = 3 then [104, 97, 115, 104] else if o = 4 then [115, 101, 97, 108] else if o = 5 then [115, 105, 103, 110] else if o = 6 then [112, 117, 98] else if o = 7 then [115, 104, 97, 114, 101] else if o = 8 then [107, 100, 102] else []
mutual
def text : Tm → List UInt8 | mk o n ks => if o = 1 then 110 :: dec n.toNat else opName o ++ 40 :: (joined ks ++ [41])
def joined : List Tm → List UInt8 | [] => [] | k :: ks => text k ++ trail ks
def trail : List Tm → List UInt8 | [] => [] | k :: ks => 44 :: 32 :: (text k ++ trail ks)
end
theorem op_inj {o o' : Int} (h : o = 2 ∨ o = 3 ∨ o = 4 ∨ o = 5 ∨ o = 6 ∨ o = 7 ∨ o = 8) (h' : o' = 2 ∨ o' = 3 ∨ o' = 4 ∨ o' = 5 ∨ o' = 6 ∨ o' = 7 ∨ o' = 8) {r s : List UInt8} (e : opName o ++ 40 :: r = opName o' ++ 40 :: s) : o = o' ∧ r = s := by
  rcases h with rfl | rfl | rfl | rfl | rfl | rfl | rfl <;> rcases h' with rfl | rfl | rfl | rfl | rfl | rfl | rfl <;> simp [opName] at e <;> simp [e]
theorem op_not_name {o : Int} (h : o = 2 ∨ o = 3 ∨ o = 4 ∨ o = 5 ∨ o = 6 ∨ o = 7 ∨ o = 8) {r s : List UInt8} : opName o ++ 40 :: r ≠ 110 :: s := by
  rcases h with rfl | rfl | rfl | rfl | rfl | rfl | rfl <;> simp [opName]
theorem nd_trail (ks : List Tm) (r : List UInt8) : nd (trail ks ++ 41 :: r) := by
  cases ks with
  | nil => simp only [trail, List.nil_append]; exact nd_cons rfl _
  | cons k ks => simp only [trail, List.cons_append]; exact nd_cons rfl _
mutual
theorem text_inj : ∀ (t u : Tm) (r s : List UInt8), wf t = true → wf u = true → nd r → nd s → text t ++ r = text u ++ s → t = u ∧ r = s
  | mk o n ks, mk o' n' ks', r, s, ht, hu, hr, hs, h => by
    simp only [wf, Bool.and_eq_true] at ht hu
    have ho := okN_op ht.1
    have ho' := okN_op hu.1
    simp only [text] at h
    by_cases h1 : o = 1
    · subst h1
      obtain ⟨a1, a2, a3⟩ := okN_name ht.1
      by_cases h2 : o' = 1
      · subst h2
        obtain ⟨b1, b2, b3⟩ := okN_name hu.1
        simp only [if_true, List.cons_append, List.cons.injEq, true_and] at h
        obtain ⟨e1, e2⟩ := dec_inj (by omega) (by omega) hr hs h
        have e3 : n = n' := by omega
        rw [List.length_eq_zero_iff.1 a1, List.length_eq_zero_iff.1 b1, e3]
        exact ⟨rfl, e2⟩
      · rw [if_pos rfl, if_neg h2] at h
        simp only [List.append_assoc, List.cons_append] at h
        exact absurd h.symm (op_not_name (by omega))
    · by_cases h2 : o' = 1
      · subst h2
        rw [if_neg h1, if_pos rfl] at h
        simp only [List.append_assoc, List.cons_append] at h
        exact absurd h (op_not_name (by omega))
      · rw [if_neg h1, if_neg h2] at h
        simp only [List.append_assoc, List.cons_append] at h
        obtain ⟨rfl, h⟩ := op_inj (by omega) (by omega) h
        have hl : ks.length = ks'.length := by have := okN_len ht.1; have := okN_len hu.1; omega
        have hn : n = n' := (okN_num ht.1 h1).trans (okN_num hu.1 h1).symm
        have := joined_inj ks ks' r s hl ht.2 hu.2 (by simpa using h)
        rw [hn, this.1]
        exact ⟨rfl, this.2⟩
theorem joined_inj : ∀ (l m : List Tm) (r s : List UInt8), l.length = m.length → wfs l = true → wfs m = true → joined l ++ 41 :: r = joined m ++ 41 :: s → l = m ∧ r = s
  | [], [], r, s, _, _, _, h => by simp [joined] at h; exact ⟨rfl, h⟩
  | [], _ :: _, _, _, hl, _, _, _ => by simp at hl
  | _ :: _, [], _, _, hl, _, _, _ => by simp at hl
  | k :: ks, k' :: ks', r, s, hl, h1, h2, h => by
    simp only [wfs, Bool.and_eq_true] at h1 h2
    simp only [joined, List.append_assoc] at h
    obtain ⟨e1, e2⟩ := text_inj k k' _ _ h1.1 h2.1 (nd_trail _ _) (nd_trail _ _) h
    obtain ⟨e3, e4⟩ := trail_inj ks ks' r s (by simpa using hl) h1.2 h2.2 e2
    exact ⟨by rw [e1, e3], e4⟩
theorem trail_inj : ∀ (l m : List Tm) (r s : List UInt8), l.length = m.length → wfs l = true → wfs m = true → trail l ++ 41 :: r = trail m ++ 41 :: s → l = m ∧ r = s
  | [], [], r, s, _, _, _, h => by simp [trail] at h; exact ⟨rfl, h⟩
  | [], _ :: _, _, _, hl, _, _, _ => by simp at hl
  | _ :: _, [], _, _, hl, _, _, _ => by simp at hl
  | k :: ks, k' :: ks', r, s, hl, h1, h2, h => by
    simp only [wfs, Bool.and_eq_true] at h1 h2
    simp only [trail, List.append_assoc, List.cons_append, List.cons.injEq, true_and] at h
    obtain ⟨e1, e2⟩ := text_inj k k' _ _ h1.1 h2.1 (nd_trail _ _) (nd_trail _ _) h
    obtain ⟨e3, e4⟩ := trail_inj ks ks' r s (by simpa using hl) h1.2 h2.2 e2
    exact ⟨by rw [e1, e3], e4⟩
end
theorem text_eq {t u : Tm} (ht : wf t = true) (hu : wf u = true) (h : text t = text u) : t = u :=
  (text_inj t u [] [] ht hu nd_nil nd_nil (by rw [h])).1
theorem joined_snoc (l : List Tm) (k : Tm) : joined (l ++ [k]) = joined l ++ ((if l = [] then [] else [44, 32]) ++ text k) := by
  cases l with
  | nil => simp [joined, trail]
  | cons a l =>
    have : ∀ m : List Tm, trail (m ++ [k]) = trail m ++ (44 :: 32 :: text k) := fun m => by
      induction m with
      | nil => simp [trail]
      | cons b m ih => simp [trail, ih]
    simp [joined, this]
/-! The lengths of texts. -/
mutual
theorem text_len : ∀ t : Tm, wf t = true → (text t).length + 2 ≤ 12 * t.size
  | mk o n ks, h => by
    simp only [wf, Bool.and_eq_true] at h
    simp only [text, size]
    by_cases h1 : o = 1
    · subst h1
      obtain ⟨a1, a2, a3⟩ := okN_name h.1
      have := (dec_facts n.toNat (by omega)).2.2
      simp; omega
    · rw [if_neg h1]
      have hj := joined_len ks h.2
      have ho : (opName o).length ≤ 5 := by
        rcases okN_op h.1 with rfl | rfl | rfl | rfl | rfl | rfl | rfl | rfl <;> simp [opName]
      simp; omega
theorem joined_len : ∀ l : List Tm, wfs l = true → (joined l).length ≤ 12 * sizes l
  | [], _ => by simp [joined, sizes]
  | k :: ks, h => by
    simp only [wfs, Bool.and_eq_true] at h
    have h1 := text_len k h.1
    have h2 := trail_len ks h.2
    simp [joined, sizes]; omega
theorem trail_len : ∀ l : List Tm, wfs l = true → (trail l).length ≤ 12 * sizes l
  | [], _ => by simp [trail, sizes]
  | k :: ks, h => by
    simp only [wfs, Bool.and_eq_true] at h
    have h1 := text_len k h.1
    have h2 := trail_len ks h.2
    have h3 := size_pos k
    simp [trail, sizes]; omega
end
end Tm
end Go.Proofs.YtkgbjoepjcenlaaDoor
