/- Plain laws of steps: what is left when the power fails behind any of them. -/
import Derived.Test.YtnfjfifdkmgbdaaPf
import Derived.Test.YtnfjfifdkmgbdaaWs
namespace Go.Proofs.Ytnfjfifdkmgbdaa
namespace Fl

theorem writesFrom_take (pg base : Int) : ∀ (l : List UInt8) (i k : Nat), (writesFrom pg base l i).take k = writesFrom pg base (l.take k) i
  | [], i, k => by simp [writesFrom]
  | x :: l, i, 0 => by simp [writesFrom]
  | x :: l, i, k + 1 => by simp [writesFrom, writesFrom_take pg base l (i + 1) k]
theorem writesFrom_length (pg base : Int) : ∀ (l : List UInt8) (i : Nat), (writesFrom pg base l i).length = l.length
  | [], i => rfl
  | x :: l, i => by simp [writesFrom, writesFrom_length pg base l (i + 1)]
theorem writes_length (pg : Int) (n : Nat) (l : List UInt8) : (writes pg n l).length = l.length := writesFrom_length _ _ _ _
theorem page_set (m : Mem) (i : Nat) (p : List UInt8) (h : i < m.pages.length) : page (setPage m i p) i = p := by
  unfold page setPage; simp [h]
theorem page_set_ne (m : Mem) (i j : Nat) (p : List UInt8) (h : i ≠ j) : page (setPage m i p) j = page m j := by
  unfold page setPage; simp [List.getElem?_set_ne h]
theorem setPage_set (m : Mem) (i : Nat) (p q : List UInt8) : setPage (setPage m i p) i q = setPage m i q := by
  unfold setPage; simp
theorem setPage_self (m : Mem) (i : Nat) (h : i < m.pages.length) : setPage m i (page m i) = m := by
  unfold setPage page
  cases m with
  | mk s p e =>
    congr 1
    apply List.ext_getElem
    · simp
    · intro j h1 h2
      by_cases e : i = j
      · subst e; simp [h2]
      · simp [List.getElem_set_ne e]
theorem padTo_self (p : List UInt8) (n : Nat) (h : n ≤ p.length) : padTo p n = p := by unfold padTo; simp [Nat.sub_eq_zero_of_le h]
theorem padTo_length (p : List UInt8) (n : Nat) (h : p.length ≤ n) : (padTo p n).length = n := by unfold padTo; simp; omega
theorem at255_padTo (p : List UInt8) (n i : Nat) : at255 (padTo p n) i = at255 p i := by
  unfold padTo
  rcases Nat.lt_or_ge i p.length with h | h
  · exact at255_append_left _ _ _ h
  · rw [at255_append_right _ _ _ h, at255_past p i h]
    unfold at255
    rw [List.getD_eq_getElem?_getD, List.getElem?_replicate]
    split <;> rfl
/-- Writes behind the end of a page. -/
theorem runs_writesFrom (pg : Nat) (base : Nat) : ∀ (l : List UInt8) (i : Nat) (m : Mem), pg < m.pages.length → (page m pg).length = base + i → runs m (writesFrom pg base l i) = setPage m pg (page m pg ++ l)
  | [], i, m, hp, _ => by simp [writesFrom, runs, setPage_self m pg hp]
  | x :: l, i, m, hp, hl => by
    have e1 : doP m ⟨pg, base + i, false, x⟩ = setPage m pg (page m pg ++ [x]) := by
      unfold doP
      simp only [Bool.false_eq_true, if_false, Int.toNat_natCast]
      rw [padTo_self _ _ (by omega)]
    have hp' : pg < (setPage m pg (page m pg ++ [x])).pages.length := by simp [setPage, hp]
    have := runs_writesFrom pg base l (i + 1) (setPage m pg (page m pg ++ [x])) hp' (by rw [page_set _ _ _ hp]; simp; omega)
    show runs (doP m ⟨pg, base + i, false, x⟩) (writesFrom pg base l (i + 1)) = _
    rw [e1, this, page_set _ _ _ hp, setPage_set]
    simp
theorem runs_writes (pg n : Nat) (l : List UInt8) (hne : l ≠ []) (m : Mem) (hp : pg < m.pages.length) (hl : (page m pg).length ≤ n * 8) : runs m (writes pg n l) = setPage m pg (padTo (page m pg) (n * 8) ++ l) := by
  cases l with
  | nil => exact absurd rfl hne
  | cons x l =>
    have e1 : doP m ⟨pg, (n * 8 : Nat) + (0 : Nat), false, x⟩ = setPage m pg (padTo (page m pg) (n * 8) ++ [x]) := by
      unfold doP
      simp only [Bool.false_eq_true, if_false, Int.toNat_natCast]
      rw [show (((n * 8 : Nat) : Int) + (0 : Nat)).toNat = n * 8 by omega]
    have hp' : pg < (setPage m pg (padTo (page m pg) (n * 8) ++ [x])).pages.length := by simp [setPage, hp]
    have := runs_writesFrom pg (n * 8) l 1 (setPage m pg (padTo (page m pg) (n * 8) ++ [x])) hp' (by rw [page_set _ _ _ hp]; simp [padTo_length _ _ hl])
    show runs (doP m ⟨pg, (n * 8 : Nat) + (0 : Nat), false, x⟩) (writesFrom pg (n * 8 : Nat) l 1) = _
    rw [e1, this, page_set _ _ _ hp, setPage_set]
    simp

/-- The records of a move: the keys from k on, with their values. -/
def ents (p : List UInt8) (N : Nat) (key v : Int) : Nat → Nat → List (Int × Int)
  | 0, _ => []
  | f + 1, k => if (copyAt p N key v k).2 then ((k : Int), (copyAt p N key v k).1) :: ents p N key v f (k + 1) else ents p N key v f (k + 1)
theorem copyAt_bd (p : List UInt8) (N : Nat) (key v : Int) (hv : 0 ≤ v ∧ v ≤ 1099511627775) (k : Nat) : 0 ≤ (copyAt p N key v k).1 ∧ (copyAt p N key v k).1 ≤ 1099511627775 := by
  unfold copyAt; split
  · exact hv
  · exact valueBelow_bd p k N
theorem recOk_key {k : Nat} (hk : k ≤ 15) {v : Int} (hv : 0 ≤ v ∧ v ≤ 1099511627775) : recOk k v = true := by simp [recOk, keyOk]; omega
theorem copies_ents (p : List UInt8) (N : Nat) (key v next : Int) (hv : 0 ≤ v ∧ v ≤ 1099511627775) : ∀ (f k n : Nat), k + f ≤ 16 → copies p N key v next f k n = (writes next n (recsB (ents p N key v f k)), n + (ents p N key v f k).length)
  | 0, k, n, _ => by simp [copies, ents, recsB, writes, writesFrom]
  | f + 1, k, n, h => by
    unfold copies ents
    split
    · have ih := copies_ents p N key v next hv f (k + 1) (n + 1) (by omega)
      rw [ih, record_ok (recOk_key (by omega) (copyAt_bd p N key v hv k))]
      simp only [recsB, List.length_cons, writes]
      rw [writesFrom_append, full_length]
      refine Prod.ext ?_ (by simp; omega)
      simp only
      congr 1
      clear ih
      generalize recsB (ents p N key v f (k + 1)) = l
      have : ∀ (l : List UInt8) (i : Nat), writesFrom next (((n + 1) * 8 : Nat) : Int) l i = writesFrom next ((n * 8 : Nat) : Int) l (i + 8) := by
        intro l
        induction l with
        | nil => intro i; rfl
        | cons x l ih => intro i; simp only [writesFrom]; rw [ih]; congr 2 <;> omega
      exact this l 0
    · exact copies_ents p N key v next hv f (k + 1) n (by omega)
theorem ents_length (p : List UInt8) (N : Nat) (key v : Int) : ∀ f k, (ents p N key v f k).length ≤ f
  | 0, k => by simp [ents]
  | f + 1, k => by
    have := ents_length p N key v f (k + 1)
    unfold ents; split
    · simp; omega
    · omega
theorem ents_mem (p : List UInt8) (N : Nat) (key v : Int) : ∀ f k x, x ∈ ents p N key v f k → ∃ j : Nat, k ≤ j ∧ j < k + f ∧ x = ((j : Int), (copyAt p N key v j).1) ∧ (copyAt p N key v j).2 = true
  | 0, k, x, h => by simp [ents] at h
  | f + 1, k, x, h => by
    unfold ents at h
    split at h
    · rename_i h1
      rcases List.mem_cons.1 h with h | h
      · exact ⟨k, by omega, by omega, h, h1⟩
      · obtain ⟨j, a, b, c, d⟩ := ents_mem p N key v f (k + 1) x h
        exact ⟨j, by omega, by omega, c, d⟩
    · obtain ⟨j, a, b, c, d⟩ := ents_mem p N key v f (k + 1) x h
      exact ⟨j, by omega, by omega, c, d⟩
theorem ents_has (p : List UInt8) (N : Nat) (key v : Int) : ∀ f k (j : Nat), k ≤ j → j < k + f → (copyAt p N key v j).2 = true → ((j : Int), (copyAt p N key v j).1) ∈ ents p N key v f k
  | 0, k, j, h1, h2, _ => by omega
  | f + 1, k, j, h1, h2, h3 => by
    unfold ents
    by_cases e : k = j
    · subst e; rw [if_pos h3]; exact List.mem_cons_self
    · have := ents_has p N key v f (k + 1) j (by omega) (by omega) h3
      split
      · exact List.mem_cons_of_mem _ this
      · exact this
/-- All records of the page that is moved to. -/
def moveL (m : Mem) (key v : Int) : List (Int × Int) := (240, (newest m).2 + 1) :: (ents (cur m) (N m) key v 16 0 ++ [(241, (newest m).2 + 1)])
theorem moveL_length (m : Mem) (key v : Int) : 2 ≤ (moveL m key v).length ∧ (moveL m key v).length ≤ 18 := by
  have := ents_length (cur m) (N m) key v 16 0
  simp [moveL]; omega
theorem stepsMove_eq (m : Mem) (key v : Int) (hv : 0 ≤ v ∧ v ≤ 1099511627775) (hg : 0 ≤ (newest m).2 + 1 ∧ (newest m).2 + 1 ≤ 1099511627775) : stepsMove m key v = eraseSteps m ++ writes (nextOf m) 0 (recsB (moveL m key v)) := by
  unfold stepsMove moved
  rw [copies_ents (cur m) (N m) key v (nextOf m) hv 16 0 1 (by omega)]
  have r0 : recOk 240 ((newest m).2 + 1) = true := by simp [recOk, keyOk]; omega
  have r1 : recOk 241 ((newest m).2 + 1) = true := by simp [recOk, keyOk]; omega
  rw [record_ok r0, record_ok r1]
  simp only [List.append_assoc]
  congr 1
  unfold moveL writes
  simp only [recsB, recsB_append, List.append_nil]
  rw [writesFrom_append, writesFrom_append, recsB_length, full_length]
  have sh : ∀ (l : List UInt8) (a b i : Nat), writesFrom (nextOf m) ((a * 8 : Nat) : Int) l (i + b * 8) = writesFrom (nextOf m) (((a + b) * 8 : Nat) : Int) l i := by
    intro l
    induction l with
    | nil => intros; rfl
    | cons x l ih =>
      intro a b i
      simp only [writesFrom]
      rw [show i + b * 8 + 1 = (i + 1) + b * 8 by omega, ih]
      congr 2; omega
  congr 1
  have e1 := sh (recsB (ents (cur m) (N m) key v 16 0)) 0 1 0
  have e2 := sh (full 241 ((newest m).2 + 1)) 0 (1 + (ents (cur m) (N m) key v 16 0).length) 0
  simp only [Nat.zero_add, Nat.one_mul] at e1 e2
  rw [← e1, ← e2]
  simp only [Nat.zero_add]
  congr 2
  omega
end Fl
end Go.Proofs.Ytnfjfifdkmgbdaa
namespace Go.Proofs.Ytnfjfifdkmgbdaa
namespace Fl

theorem closedFrom_run {p : List UInt8} {g c : Nat} (hc : goodAt p c = true) (hk : keyAt p c = 241) (hv : valAt p c = g) : ∀ f j, j ≤ c → c < j + f → (∀ s, j ≤ s → s < c → goodAt p s = true ∧ keyAt p s < 240) → closedFrom p g f j = ((g : Int), true)
  | 0, j, h1, h2, _ => by omega
  | f + 1, j, h1, h2, h3 => by
    unfold closedFrom
    by_cases e : j = c
    · subst e
      rw [if_neg (by simp [hc, hk]), if_pos (by simp [hk]), hv]; simp
    · obtain ⟨a, b⟩ := h3 j (by omega) (by omega)
      rw [if_neg (by simp [a]; omega), if_neg (by simp; omega)]
      exact closedFrom_run hc hk hv f (j + 1) (by omega) (by omega) (fun s x y => h3 s (by omega) y)
theorem closedP_run {p : List UInt8} {g c N : Nat} (h0 : goodAt p 0 = true) (hk0 : keyAt p 0 = 240) (hv0 : valAt p 0 = g) (hc : goodAt p c = true) (hk : keyAt p c = 241) (hv : valAt p c = g) (h1 : 1 ≤ c) (h2 : c < N) (h3 : ∀ s, 1 ≤ s → s < c → goodAt p s = true ∧ keyAt p s < 240) : closedP p N = ((g : Int), true) := by
  unfold closedP
  rw [if_neg (by simp [h0, hk0]), hv0]
  exact closedFrom_run hc hk hv _ _ h1 (by omega) h3
theorem valueBelow_const {p : List UInt8} {key w : Int} : ∀ n, (∀ s, s < n → goodAt p s = true → ((keyAt p s : Nat) : Int) = key → ((valAt p s : Nat) : Int) = w) → (∃ s, s < n ∧ goodAt p s = true ∧ ((keyAt p s : Nat) : Int) = key) → valueBelow p key n = (w, true)
  | 0, _, ⟨s, h, _⟩ => by omega
  | n + 1, h1, ⟨s, h2, h3, h4⟩ => by
    unfold valueBelow
    by_cases e : (goodAt p n && ((keyAt p n : Nat) : Int) == key) = true
    · rw [if_pos e]
      simp at e
      rw [h1 n (by omega) e.1 e.2]
    · rw [if_neg e]
      simp at e
      have : s ≠ n := by rintro rfl; exact e h3 h4
      exact valueBelow_const n (fun s hs => h1 s (by omega)) ⟨s, by omega, h3, h4⟩
theorem valueBelow_none {p : List UInt8} {key : Int} (n : Nat) (h : ∀ s, s < n → goodAt p s = true → ((keyAt p s : Nat) : Int) ≠ key) : valueBelow p key n = (0, false) := by
  rw [valueBelow_skipTo (Nat.zero_le n) (fun s _ hs => by
    cases hg : goodAt p s
    · exact Or.inl rfl
    · exact Or.inr (h s hs hg))]
  rfl

/-- The records of a move are records. -/
theorem moveL_ok {m : Mem} {key v : Int} (hv : 0 ≤ v ∧ v ≤ 1099511627775) (hg : 0 ≤ (newest m).2 + 1 ∧ (newest m).2 + 1 ≤ 1099511627775) : ∀ x ∈ moveL m key v, recOk x.1 x.2 = true := by
  intro x hx
  unfold moveL at hx
  rcases List.mem_cons.1 hx with rfl | hx
  · simp [recOk, keyOk]; omega
  · rcases List.mem_append.1 hx with hx | hx
    · obtain ⟨j, h1, h2, rfl, _⟩ := ents_mem _ _ _ _ _ _ _ hx
      exact recOk_key (by omega) (copyAt_bd _ _ _ _ hv j)
    · simp at hx; subst hx; simp [recOk, keyOk]; omega
theorem moveL_zero (m : Mem) (key v : Int) : (moveL m key v)[0]'(by have := moveL_length m key v; omega) = (240, (newest m).2 + 1) := rfl
theorem moveL_last (m : Mem) (key v : Int) : (moveL m key v)[(moveL m key v).length - 1]'(by have := moveL_length m key v; omega) = (241, (newest m).2 + 1) := by
  simp [moveL]
theorem moveL_mid (m : Mem) (key v : Int) (s : Nat) (h1 : 1 ≤ s) (h2 : s < (moveL m key v).length - 1) : ∃ j : Nat, j < 16 ∧ (moveL m key v)[s]'(by omega) = ((j : Int), (copyAt (cur m) (N m) key v j).1) ∧ (copyAt (cur m) (N m) key v j).2 = true := by
  obtain ⟨s, rfl⟩ : ∃ t, s = t + 1 := ⟨s - 1, by omega⟩
  have hs : s < (ents (cur m) (N m) key v 16 0).length := by simp [moveL] at h2; omega
  have e : (moveL m key v)[s + 1]'(by omega) = (ents (cur m) (N m) key v 16 0)[s] := by
    simp [moveL, List.getElem_append_left hs]
  obtain ⟨j, a, b, c, d⟩ := ents_mem _ _ _ _ _ _ _ (List.getElem_mem hs)
  exact ⟨j, by omega, by rw [e]; exact c, d⟩
theorem moveL_has (m : Mem) (key v : Int) (j : Nat) (hj : j < 16) (h : (copyAt (cur m) (N m) key v j).2 = true) : ∃ s, ∃ hs : s < (moveL m key v).length, (moveL m key v)[s] = ((j : Int), (copyAt (cur m) (N m) key v j).1) := by
  have := ents_has (cur m) (N m) key v 16 0 j (by omega) (by omega) h
  have hm : ((j : Int), (copyAt (cur m) (N m) key v j).1) ∈ moveL m key v := by unfold moveL; simp [this]
  obtain ⟨s, hs, e⟩ := List.getElem_of_mem hm
  exact ⟨s, hs, e⟩

section
variable {m : Mem} {key v : Int} (hv : 0 ≤ v ∧ v ≤ 1099511627775) (hg : 0 ≤ (newest m).2 + 1 ∧ (newest m).2 + 1 ≤ 1099511627775)
include hv hg
/-- A slot that is good is what was to be written there. -/
theorem move_good (j s : Nat) (h : goodAt ((recsB (moveL m key v)).take j) s = true) : ∃ hs : s < (moveL m key v).length, s * 8 + 6 < j ∧ slotB ((recsB (moveL m key v)).take j) s = full (moveL m key v)[s].1 (moveL m key v)[s].2 ∧ ((keyAt ((recsB (moveL m key v)).take j) s : Nat) : Int) = (moveL m key v)[s].1 ∧ ((valAt ((recsB (moveL m key v)).take j) s : Nat) : Int) = (moveL m key v)[s].2 := by
  have hs : s < (moveL m key v).length := by
    rcases Nat.lt_or_ge s (moveL m key v).length with hs | hs
    · exact hs
    · rw [past_slot _ _ _ hs] at h; cases h
  have e := part_slot _ (moveL_ok hv hg) j s hs h
  have ok := moveL_ok (key := key) hv hg _ (List.getElem_mem hs)
  refine ⟨hs, ?_, e, ?_, ?_⟩
  · have := good_six h; rw [List.length_take] at this; omega
  · rw [keyAt_slot, e]; exact keyOf_full ok
  · rw [valAt_slot, e]; exact valOf_full ok
theorem move_done (s : Nat) (hs : s < (moveL m key v).length) : goodAt (recsB (moveL m key v)) s = true := by
  have e := done_slot (moveL m key v) (recsB (moveL m key v)).length s hs (by rw [recsB_length]; omega)
  rw [List.take_length] at e
  rw [goodAt_slot, e]
  exact good_full (moveL_ok hv hg _ (List.getElem_mem hs))
theorem move_facts (s : Nat) (hs : s < (moveL m key v).length) : ((keyAt (recsB (moveL m key v)) s : Nat) : Int) = (moveL m key v)[s].1 ∧ ((valAt (recsB (moveL m key v)) s : Nat) : Int) = (moveL m key v)[s].2 := by
  have h := move_good hv hg (recsB (moveL m key v)).length s (by rw [List.take_length]; exact move_done hv hg s hs)
  rw [List.take_length] at h
  obtain ⟨_, _, _, h1, h2⟩ := h
  exact ⟨h1, h2⟩
/-- The page is closed when all is written. -/
theorem move_closed (N' : Nat) (hN : 18 ≤ N') : closedP (recsB (moveL m key v)) N' = ((newest m).2 + 1, true) := by
  have hl := moveL_length m key v
  obtain ⟨a1, a2⟩ := move_facts (key := key) hv hg 0 (by omega)
  obtain ⟨b1, b2⟩ := move_facts (key := key) hv hg ((moveL m key v).length - 1) (by omega)
  rw [moveL_zero] at a1 a2
  rw [moveL_last] at b1 b2
  have hgn : (((newest m).2 + 1).toNat : Int) = (newest m).2 + 1 := by omega
  have := closedP_run (p := recsB (moveL m key v)) (g := ((newest m).2 + 1).toNat) (c := (moveL m key v).length - 1) (N := N') (move_done hv hg 0 (by omega)) (by dsimp only at a1; omega) (by dsimp only at a2; omega) (move_done hv hg _ (by omega)) (by dsimp only at b1; omega) (by dsimp only at b2; omega) (by omega) (by omega) (fun s h1 h2 => by
    refine ⟨move_done hv hg s (by omega), ?_⟩
    obtain ⟨j, j1, j2, _⟩ := moveL_mid m key v s h1 h2
    have := (move_facts (key := key) hv hg s (by omega)).1
    rw [j2] at this
    dsimp only at this
    omega)
  rw [this, hgn]
theorem move_part (j N' : Nat) : (closedP ((recsB (moveL m key v)).take j) N').2 = false ∨ ∀ s, slotB ((recsB (moveL m key v)).take j) s = slotB (recsB (moveL m key v)) s := by
  cases hc : (closedP ((recsB (moveL m key v)).take j) N').2
  · exact Or.inl rfl
  right
  have hl := moveL_length m key v
  obtain ⟨c, c1, c2, c3, c4, c5, _⟩ := closedP_at hc
  obtain ⟨hs, d1, d2, d3, d4⟩ := move_good hv hg j c c3
  have hc' : c = (moveL m key v).length - 1 := by
    rcases Nat.lt_or_ge c ((moveL m key v).length - 1) with h | h
    · obtain ⟨i, i1, i2, _⟩ := moveL_mid m key v c c1 h
      rw [i2] at d3; dsimp only at d3; omega
    · omega
  intro s
  rcases Nat.lt_trichotomy s c with h | h | h
  · rw [done_slot _ j s (by omega) (by omega)]
    have := done_slot (moveL m key v) (recsB (moveL m key v)).length s (by omega) (by rw [recsB_length]; omega)
    rw [List.take_length] at this
    exact this.symm
  · subst h
    rw [d2]
    have := done_slot (moveL m key v) (recsB (moveL m key v)).length s (by omega) (by rw [recsB_length]; omega)
    rw [List.take_length] at this
    exact this.symm
  · refine slot_ext (fun i hi => ?_)
    rw [at255_past _ _ (by rw [List.length_take, recsB_length]; omega), at255_past _ _ (by rw [recsB_length]; omega)]
/-- What the page holds when all is written. -/
theorem move_value (N' : Nat) (hN : 18 ≤ N') (i : Nat) (hi : i < 16) : valueBelow (recsB (moveL m key v)) i N' = if (copyAt (cur m) (N m) key v i).2 then ((copyAt (cur m) (N m) key v i).1, true) else (0, false) := by
  have hl := moveL_length m key v
  have key_of : ∀ s, goodAt (recsB (moveL m key v)) s = true → ((keyAt (recsB (moveL m key v)) s : Nat) : Int) = i → ∃ hs : s < (moveL m key v).length, (moveL m key v)[s] = ((i : Int), (copyAt (cur m) (N m) key v i).1) ∧ (copyAt (cur m) (N m) key v i).2 = true := by
    intro s hgd hk
    have h := move_good hv hg (recsB (moveL m key v)).length s (by rw [List.take_length]; exact hgd)
    rw [List.take_length] at h
    obtain ⟨hs, _, _, h1, h2⟩ := h
    refine ⟨hs, ?_⟩
    rw [hk] at h1
    by_cases e0 : s = 0
    · subst e0; rw [moveL_zero] at h1; dsimp only at h1; omega
    by_cases e1 : s = (moveL m key v).length - 1
    · subst e1; rw [moveL_last] at h1; dsimp only at h1; omega
    obtain ⟨j, j1, j2, j3⟩ := moveL_mid m key v s (by omega) (by omega)
    rw [j2] at h1
    dsimp only at h1
    obtain rfl : i = j := by omega
    exact ⟨j2, j3⟩
  split
  · rename_i hc
    refine valueBelow_const N' (fun s _ h1 h2 => ?_) ?_
    · obtain ⟨hs, e, _⟩ := key_of s h1 h2
      have := (move_facts hv hg s hs).2
      rw [e] at this
      exact this
    · obtain ⟨s, hs, e⟩ := moveL_has m key v i hi hc
      have := (move_facts hv hg s hs).1
      rw [e] at this
      exact ⟨s, by omega, move_done hv hg s hs, this⟩
  · rename_i hc
    refine valueBelow_none N' (fun s _ h1 h2 => ?_)
    obtain ⟨_, _, e⟩ := key_of s h1 h2
    exact hc e
end
end Fl
end Go.Proofs.Ytnfjfifdkmgbdaa
namespace Go.Proofs.Ytnfjfifdkmgbdaa
namespace Fl

/-- What is left of a memory. -/
structure Left (m m' : Mem) (key v : Int) : Prop where
  valid : validP m' = true
  rest : ∀ i, i ≠ key → getP m' i = getP m i
  own : getP m' key = getP m key ∨ getP m' key = (v, true)
theorem Left.refl {m : Mem} (h : validP m = true) (key v : Int) : Left m m key v := ⟨h, fun _ _ => rfl, Or.inl rfl⟩
theorem getP_out {m m' : Mem} (i : Int) (h : ¬ (0 ≤ i ∧ i ≤ 15)) : getP m' i = getP m i := by
  have : ∀ m : Mem, getP m i = (0, false) := fun m => by
    unfold getP
    rw [if_neg (by simp; omega)]
  rw [this, this]
theorem val_bounds {m : Mem} (h : validP m = true) : 160 ≤ m.size ∧ m.size ≤ 256 ∧ m.size % 8 = 0 ∧ 2 ≤ m.pages.length ∧ m.pages.length ≤ 8 ∧ 20 ≤ N m ∧ (newest m).1 < m.pages.length ∧ 0 ≤ (newest m).1 ∧ 0 ≤ (newest m).2 ∧ (newest m).2 < 549755813888 := by
  have V := (val_iff m).1 h
  have s := sized_bd V.sized
  have b := newestP_bd m.pages (N m)
  have n := (newestP_new m.pages (N m)).cas
  have hat := V.at_
  have hg := V.gen
  have e1 : newest m = newestP m.pages (N m) := rfl
  rw [e1] at hat hg ⊢
  unfold N at *
  omega
theorem cur_get {m : Mem} : cur m = m.pages.getD (newest m).1.toNat [] := rfl
theorem cur_gen {m : Mem} (h : validP m = true) : genP (cur m) (N m) = (newest m).2 ∧ (closedP (cur m) (N m)).2 = true := by
  have hb := val_bounds h
  have e1 : newest m = newestP m.pages (N m) := rfl
  have hn := newestP_new m.pages (N m)
  rw [← e1] at hn
  rcases hn.cas with h1 | ⟨_, _, _, h4, _⟩
  · omega
  · refine ⟨h4, ?_⟩
    have h5 : genP (cur m) (N m) = (newest m).2 := h4
    unfold genP at h5
    cases hc : (closedP (cur m) (N m)).2
    · rw [hc] at h5; simp at h5; omega
    · rfl

/-! The record is appended to the current page. -/
section
variable {m : Mem} {key v : Int} (hm : validP m = true) (hk : 0 ≤ key ∧ key ≤ 15) (hv : 0 ≤ v ∧ v ≤ 1099511627775)
def stayPage (m : Mem) (key v : Int) (k : Nat) : List UInt8 := padTo (cur m) (slotOf (cur m) * 8) ++ (full key v).take k
theorem stay_low (m : Mem) (key v : Int) (k s : Nat) (h : s < slotOf (cur m)) : slotB (stayPage m key v k) s = slotB (cur m) s := by
  refine slot_ext (fun i hi => ?_)
  unfold stayPage
  have hl : (padTo (cur m) (slotOf (cur m) * 8)).length = slotOf (cur m) * 8 := padTo_length _ _ (by unfold slotOf; omega)
  rw [at255_append_left _ _ _ (by rw [hl]; omega), at255_padTo]
theorem stay_at (m : Mem) (key v : Int) (k i : Nat) : at255 (stayPage m key v k) (slotOf (cur m) * 8 + i) = at255 ((full key v).take k) i := by
  unfold stayPage
  have hl : (padTo (cur m) (slotOf (cur m) * 8)).length = slotOf (cur m) * 8 := padTo_length _ _ (by unfold slotOf; omega)
  rw [at255_append_right _ _ _ (by rw [hl]; omega), hl, Nat.add_sub_cancel_left]
theorem stay_length (m : Mem) (key v : Int) (k : Nat) : (stayPage m key v k).length = slotOf (cur m) * 8 + min k 8 := by
  unfold stayPage
  rw [List.length_append, padTo_length _ _ (by unfold slotOf; omega), List.length_take, full_length]
theorem stay_high (m : Mem) (key v : Int) (k s : Nat) (h : slotOf (cur m) < s) : goodAt (stayPage m key v k) s = false :=
  not_good_past (by rw [stay_length]; omega)
theorem cur_high (m : Mem) (s : Nat) (h : slotOf (cur m) ≤ s) : goodAt (cur m) s = false :=
  not_good_past (by unfold slotOf at h; omega)
include hm
theorem stay_closed (k : Nat) : closedP (stayPage m key v k) (N m) = closedP (cur m) (N m) := by
  obtain ⟨c, _, _, h3, _, _, h6⟩ := closedP_at (cur_gen hm).2
  exact h6 _ (fun s hs => stay_low m key v k s (by have := closed_length h3; omega))
theorem stay_newest (k : Nat) : newest (setPage m (newest m).1.toNat (stayPage m key v k)) = newest m := by
  have hb := val_bounds hm
  have e1 : newest m = newestP m.pages (N m) := rfl
  have hn := newestP_new m.pages (N m)
  rw [← e1] at hn
  have hgen : ∀ i, genP ((m.pages.set (newest m).1.toNat (stayPage m key v k)).getD i []) (N m) = genP (m.pages.getD i []) (N m) := by
    intro i
    by_cases e : (newest m).1.toNat = i
    · have h1 : (m.pages.set (newest m).1.toNat (stayPage m key v k)).getD i [] = stayPage m key v k := by
        rw [e]; simp [show i < m.pages.length by omega]
      have h2 : m.pages.getD i [] = cur m := by rw [← e]; rfl
      rw [h1, h2]
      unfold genP
      rw [stay_closed hm]
    · simp [List.getElem?_set_ne e]
  show newestP (m.pages.set (newest m).1.toNat (stayPage m key v k)) (N m) = newest m
  refine (newestP_of (a := (newest m).1) (g := (newest m).2) ⟨fun i hi => ?_, ?_⟩)
  · rw [hgen]; exact hn.most i (by simpa using hi)
  · rcases hn.cas with h | ⟨h1, h2, h3, h4, h5⟩
    · exact Or.inl h
    · refine Or.inr ⟨h1, by simpa using h2, h3, by rw [hgen]; exact h4, fun i hi => by rw [hgen]; exact h5 i hi⟩
include hk hv
theorem stay_left (hst : stays m = true) (k : Nat) : Left m (setPage m (newest m).1.toNat (stayPage m key v k)) key v ∧ (8 ≤ k → getP (setPage m (newest m).1.toNat (stayPage m key v k)) key = (v, true)) := by
  have hb := val_bounds hm
  have V := (val_iff m).1 hm
  have hsm : slotOf (cur m) < N m := by unfold stays N at *; simp at hst; omega
  have hslot : slotOf (cur m) * 8 + 8 ≤ m.size := by unfold stays at hst; simp at hst; omega
  have hnew := stay_newest (key := key) (v := v) hm k
  have hval : validP (setPage m (newest m).1.toNat (stayPage m key v k)) = true := by
    rw [val_iff]
    refine ⟨by simpa [setPage] using V.sized, by simpa [setPage] using V.lens, fun i hi => ?_, by rw [hnew]; exact V.at_, by rw [hnew]; exact V.gen⟩
    have hi' : i < m.pages.length := by simpa [setPage] using hi
    have hr := V.rows i hi'
    refine ⟨?_, hr.2⟩
    by_cases e : (newest m).1.toNat = i
    · have : (setPage m (newest m).1.toNat (stayPage m key v k)).pages.getD i [] = stayPage m key v k := by
        rw [e]; simp [setPage, hi']
      rw [this, stay_length]
      simp only [setPage]
      omega
    · simp only [setPage, List.getD_eq_getElem?_getD, List.getElem?_set_ne e] at hr ⊢
      exact hr.1
  have hcur : cur (setPage m (newest m).1.toNat (stayPage m key v k)) = stayPage m key v k := by
    unfold cur; rw [hnew]; exact page_set _ _ _ (by omega)
  have hget : ∀ i, 0 ≤ i → i ≤ 15 → getP (setPage m (newest m).1.toNat (stayPage m key v k)) i = valueBelow (stayPage m key v k) i (slotOf (cur m) + 1) := by
    intro i h0 h1
    rw [getP_val hval h0 h1, hcur]
    exact valueBelow_skipTo (by show _ ≤ N m; omega) (fun s hs _ => Or.inl (stay_high m key v k s (by omega)))
  have hgetm : ∀ i, 0 ≤ i → i ≤ 15 → getP m i = valueBelow (stayPage m key v k) i (slotOf (cur m)) := by
    intro i h0 h1
    rw [getP_val hm h0 h1, valueBelow_skipTo (a := slotOf (cur m)) (by omega) (fun s hs _ => Or.inl (cur_high m s hs))]
    exact valueBelow_congr _ (fun s hs => (stay_low m key v k s hs).symm)
  have hr : recOk key v = true := by simp [recOk, keyOk]; omega
  have hsl : goodAt (stayPage m key v k) (slotOf (cur m)) = true → slotB (stayPage m key v k) (slotOf (cur m)) = full key v := fun h =>
    part_good hr (fun i _ => stay_at m key v k i) h
  have hkey : goodAt (stayPage m key v k) (slotOf (cur m)) = true → ((keyAt (stayPage m key v k) (slotOf (cur m)) : Nat) : Int) = key ∧ ((valAt (stayPage m key v k) (slotOf (cur m)) : Nat) : Int) = v := fun h => by
    rw [keyAt_slot, valAt_slot, hsl h]; exact ⟨keyOf_full hr, valOf_full hr⟩
  have hown : goodAt (stayPage m key v k) (slotOf (cur m)) = true → getP (setPage m (newest m).1.toNat (stayPage m key v k)) key = (v, true) := fun h => by
    obtain ⟨a, b⟩ := hkey h
    rw [hget key hk.1 hk.2, valueBelow_hit h a, b]
  refine ⟨⟨hval, fun i hi => ?_, ?_⟩, fun h8 => ?_⟩
  · by_cases hin : 0 ≤ i ∧ i ≤ 15
    · rw [hget i hin.1 hin.2, hgetm i hin.1 hin.2]
      refine valueBelow_skipTo (by omega) (fun s h1 h2 => ?_)
      obtain rfl : s = slotOf (cur m) := by omega
      cases hgd : goodAt (stayPage m key v k) (slotOf (cur m))
      · exact Or.inl rfl
      · right; rw [(hkey hgd).1]; exact Ne.symm hi
    · exact getP_out i hin
  · cases hgd : goodAt (stayPage m key v k) (slotOf (cur m))
    · left
      rw [hget key hk.1 hk.2, hgetm key hk.1 hk.2]
      refine valueBelow_skipTo (by omega) (fun s h1 h2 => ?_)
      obtain rfl : s = slotOf (cur m) := by omega
      exact Or.inl hgd
    · exact Or.inr (hown hgd)
  · refine hown ?_
    have := slot_whole (q := stayPage m key v k) (n := slotOf (cur m)) (full_length key v) (fun i hi => by rw [stay_at, List.take_of_length_le (by rw [full_length]; omega)])
    rw [goodAt_slot, this]
    exact good_full hr
end

/-! All is moved to the next page. -/
section
variable {m : Mem} {key v : Int} (hm : validP m = true) (hk : 0 ≤ key ∧ key ≤ 15) (hv : 0 ≤ v ∧ v ≤ 1099511627775)
/-- The memory with other bytes in the next page, and other counts. -/
def movePage (m : Mem) (q : List UInt8) (er : List Int) : Mem := ⟨m.size, m.pages.set (nextOf m).toNat q, er⟩
theorem next_bd (hm : validP m = true) : 0 ≤ nextOf m ∧ (nextOf m).toNat < m.pages.length ∧ nextOf m ≠ (newest m).1 := by
  have hb := val_bounds hm
  unfold nextOf
  have h1 := Int.emod_nonneg ((newest m).1 + 1) (show (m.pages.length : Int) ≠ 0 by omega)
  have h2 := Int.emod_lt_of_pos ((newest m).1 + 1) (show (0 : Int) < m.pages.length by omega)
  refine ⟨h1, by omega, ?_⟩
  by_cases e : (newest m).1 + 1 < m.pages.length
  · rw [Int.emod_eq_of_lt (by omega) e]; omega
  · rw [show (newest m).1 + 1 = m.pages.length by omega, Int.emod_self]; omega
theorem set_gen (ps : List (List UInt8)) (n i : Nat) (q : List UInt8) (N : Nat) (h : n < ps.length) : genP ((ps.set n q).getD i []) N = if n = i then genP q N else genP (ps.getD i []) N := by
  split
  · rename_i e; subst e; simp [h]
  · rename_i e; simp [List.getElem?_set_ne e]
include hm hk hv
theorem move_left (hgen : (newest m).2 + 1 < 549755813888) (er : List Int) (hel : er.length = m.erased.length) (hre : ∀ i, i < m.pages.length → 0 ≤ er.getD i 0 ∧ er.getD i 0 ≤ 1000) (j : Nat) :
    Left m (movePage m ((recsB (moveL m key v)).take j) er) key v ∧
    ((recsB (moveL m key v)).length ≤ j → getP (movePage m ((recsB (moveL m key v)).take j) er) key = (v, true) ∧ newest (movePage m ((recsB (moveL m key v)).take j) er) = (nextOf m, (newest m).2 + 1)) := by
  have hb := val_bounds hm
  have V := (val_iff m).1 hm
  have hnx := next_bd hm
  have hg : 0 ≤ (newest m).2 + 1 ∧ (newest m).2 + 1 ≤ 1099511627775 := by omega
  have hN : 18 ≤ N m := by omega
  have hlen : ((recsB (moveL m key v)).take j).length ≤ 144 := by
    have := moveL_length m key v
    rw [List.length_take, recsB_length]; omega
  have e1 : newest m = newestP m.pages (N m) := rfl
  have hn := newestP_new m.pages (N m)
  rw [← e1] at hn
  obtain ⟨h1, h2, h3, h4, h5⟩ : 0 ≤ (newest m).1 ∧ (newest m).1 < m.pages.length ∧ 0 ≤ (newest m).2 ∧ genP (m.pages.getD (newest m).1.toNat []) (N m) = (newest m).2 ∧ ∀ i : Nat, (i : Int) < (newest m).1 → genP (m.pages.getD i []) (N m) < (newest m).2 := by
    rcases hn.cas with h | h
    · omega
    · exact h
  have hrows : ∀ i, i < (movePage m ((recsB (moveL m key v)).take j) er).pages.length → (((movePage m ((recsB (moveL m key v)).take j) er).pages.getD i []).length : Int) ≤ m.size ∧ 0 ≤ er.getD i 0 ∧ er.getD i 0 ≤ 1000 := by
    intro i hi
    have hi' : i < m.pages.length := by simpa [movePage] using hi
    refine ⟨?_, hre i hi'⟩
    by_cases e : (nextOf m).toNat = i
    · have : (movePage m ((recsB (moveL m key v)).take j) er).pages.getD i [] = (recsB (moveL m key v)).take j := by
        rw [movePage, e]; simp [hi']
      rw [this]; omega
    · have hr := (V.rows i hi').1
      simp only [movePage, List.getD_eq_getElem?_getD, List.getElem?_set_ne e] at hr ⊢
      exact hr
  have hgq : ∀ i, genP ((m.pages.set (nextOf m).toNat ((recsB (moveL m key v)).take j)).getD i []) (N m) = if (nextOf m).toNat = i then genP ((recsB (moveL m key v)).take j) (N m) else genP (m.pages.getD i []) (N m) := fun i => set_gen _ _ _ _ _ hnx.2.1
  have hne : (nextOf m).toNat ≠ (newest m).1.toNat := by omega
  have hpl : (movePage m ((recsB (moveL m key v)).take j) er).pages.length = m.pages.length := by simp [movePage]
  have hside : (∀ s, slotB ((recsB (moveL m key v)).take j) s = slotB (recsB (moveL m key v)) s) → Left m (movePage m ((recsB (moveL m key v)).take j) er) key v ∧ getP (movePage m ((recsB (moveL m key v)).take j) er) key = (v, true) ∧ newest (movePage m ((recsB (moveL m key v)).take j) er) = (nextOf m, (newest m).2 + 1) := by
    intro hs
    have hcl : genP ((recsB (moveL m key v)).take j) (N m) = (newest m).2 + 1 := by
      unfold genP
      rw [closedP_congr (q := recsB (moveL m key v)) (fun s _ => hs s), move_closed hv hg _ hN]
      simp
    have hnew : newest (movePage m ((recsB (moveL m key v)).take j) er) = (nextOf m, (newest m).2 + 1) := by
      show newestP (m.pages.set (nextOf m).toNat ((recsB (moveL m key v)).take j)) (N m) = _
      refine newestP_of ⟨fun i hi => ?_, Or.inr ⟨by omega, by simp; omega, by omega, ?_, fun i hi => ?_⟩⟩
      · rw [hgq]
        split
        · omega
        · have := hn.most i (by simpa using hi); omega
      · rw [hgq, if_pos rfl]; exact hcl
      · rw [hgq, if_neg (by omega)]
        have := hn.most i (by omega); omega
    have hval : validP (movePage m ((recsB (moveL m key v)).take j) er) = true := by
      rw [val_iff]
      refine ⟨by rw [hpl]; exact V.sized, by rw [hpl]; show er.length = _; rw [hel]; exact V.lens, hrows, by rw [hnew]; exact hnx.1, by rw [hnew]; exact hgen⟩
    have hcur : cur (movePage m ((recsB (moveL m key v)).take j) er) = (recsB (moveL m key v)).take j := by
      unfold cur
      rw [hnew]
      simp [page, movePage, hnx.2.1]
    have hget : ∀ i : Nat, i < 16 → getP (movePage m ((recsB (moveL m key v)).take j) er) i = if (copyAt (cur m) (N m) key v i).2 then ((copyAt (cur m) (N m) key v i).1, true) else (0, false) := by
      intro i hi
      rw [getP_val hval (by omega) (by omega), hcur, ← move_value hv hg (N m) hN i hi]
      exact valueBelow_congr _ (fun s _ => hs s)
    have hkey : getP (movePage m ((recsB (moveL m key v)).take j) er) key = (v, true) := by
      have := hget key.toNat (by omega)
      rw [show ((key.toNat : Nat) : Int) = key by omega] at this
      rw [this]
      unfold copyAt
      rw [show ((key.toNat : Nat) : Int) = key by omega]
      simp
    refine ⟨⟨hval, fun i hi => ?_, Or.inr hkey⟩, hkey, hnew⟩
    by_cases hin : 0 ≤ i ∧ i ≤ 15
    · have := hget i.toNat (by omega)
      rw [show ((i.toNat : Nat) : Int) = i by omega] at this
      have hcp : copyAt (cur m) (N m) key v i.toNat = valueBelow (cur m) i (N m) := by
        unfold copyAt
        rw [show ((i.toNat : Nat) : Int) = i by omega, if_neg (by simpa using hi)]
      rw [this, getP_val hm hin.1 hin.2, hcp]
      cases h : (valueBelow (cur m) i (N m)).2
      · rw [valueBelow_no _ _ _ h]; rfl
      · rw [if_pos rfl]; exact Prod.ext rfl h.symm
    · exact getP_out i hin
  refine ⟨?_, fun h => (hside (fun s => by rw [List.take_of_length_le h])).2⟩
  rcases move_part (m := m) (key := key) hv hg j (N m) with hc | hs
  · have hcl : genP ((recsB (moveL m key v)).take j) (N m) = -1 := by unfold genP; rw [hc]; simp
    have hnew : newest (movePage m ((recsB (moveL m key v)).take j) er) = newest m := by
      show newestP (m.pages.set (nextOf m).toNat ((recsB (moveL m key v)).take j)) (N m) = ((newest m).1, (newest m).2)
      refine newestP_of ⟨fun i hi => ?_, Or.inr ⟨h1, by simpa using h2, h3, ?_, fun i hi => ?_⟩⟩
      · rw [hgq]
        split
        · omega
        · exact hn.most i (by simpa using hi)
      · rw [hgq, if_neg hne]; exact h4
      · rw [hgq]
        split
        · omega
        · exact h5 i hi
    have hval : validP (movePage m ((recsB (moveL m key v)).take j) er) = true := by
      rw [val_iff]
      refine ⟨by rw [hpl]; exact V.sized, by rw [hpl]; show er.length = _; rw [hel]; exact V.lens, hrows, by rw [hnew]; exact V.at_, by rw [hnew]; exact V.gen⟩
    have hcur : cur (movePage m ((recsB (moveL m key v)).take j) er) = cur m := by
      unfold cur
      rw [hnew]
      simp [page, movePage, List.getElem?_set_ne hne]
    have hget : ∀ i, getP (movePage m ((recsB (moveL m key v)).take j) er) i = getP m i := by
      intro i
      by_cases hin : 0 ≤ i ∧ i ≤ 15
      · rw [getP_val hval hin.1 hin.2, getP_val hm hin.1 hin.2, hcur]; rfl
      · exact getP_out i hin
    exact ⟨hval, fun i _ => hget i, Or.inl (hget key)⟩
  · exact (hside hs).1
end
end Fl
end Go.Proofs.Ytnfjfifdkmgbdaa
namespace Go.Proofs.Ytnfjfifdkmgbdaa
namespace Fl

theorem worn_not {m : Mem} {l : List Step} (h : wornP m l = false) {s : Step} (hs : s ∈ l) : wornBy m s = false := by
  unfold wornP at h
  rw [List.any_eq_false] at h
  simpa using h s hs
theorem record_key {key v : Int} (hk : 0 ≤ key ∧ key ≤ 15) (hv : 0 ≤ v ∧ v ≤ 1099511627775) : record key v = full key v := record_ok (by simp [recOk, keyOk]; omega)
theorem stepsP_stay {m : Mem} {key v : Int} (hk : 0 ≤ key ∧ key ≤ 15) (hv : 0 ≤ v ∧ v ≤ 1099511627775) (hst : stays m = true) : stepsP m key v = writes (newest m).1 (slotOf (cur m)) (full key v) := by
  unfold stepsP; rw [if_pos hst, record_key hk hv]
theorem stay_runs {m : Mem} {key v : Int} (hm : validP m = true) (hk : 0 ≤ key ∧ key ≤ 15) (hv : 0 ≤ v ∧ v ≤ 1099511627775) (hst : stays m = true) (k : Nat) : runs m ((stepsP m key v).take (k + 1)) = setPage m (newest m).1.toNat (stayPage m key v (k + 1)) := by
  have hb := val_bounds hm
  rw [stepsP_stay hk hv hst]
  unfold writes
  rw [writesFrom_take]
  have := runs_writes (newest m).1.toNat (slotOf (cur m)) ((full key v).take (k + 1)) (by simp [full, body]) m (by omega) (by show (cur m).length ≤ _; unfold slotOf; omega)
  unfold writes at this
  rw [show (((newest m).1.toNat : Nat) : Int) = (newest m).1 by omega] at this
  exact this
theorem stepsP_move {m : Mem} {key v : Int} (hm : validP m = true) (hv : 0 ≤ v ∧ v ≤ 1099511627775) (hst : stays m = false) : stepsP m key v = eraseSteps m ++ writes (nextOf m) 0 (recsB (moveL m key v)) := by
  have hb := val_bounds hm
  unfold stepsP
  rw [if_neg (by simp [hst]), stepsMove_eq m key v hv (by omega)]
def moveEr (m : Mem) : List Int := if (page m (nextOf m).toNat).length = 0 then m.erased else m.erased.set (nextOf m).toNat (m.erased.getD (nextOf m).toNat 0 + 1)
theorem set_nil {m : Mem} (hm : validP m = true) (h : (page m (nextOf m).toNat).length = 0) (q : List UInt8) : runs m (writes (nextOf m) 0 q) = movePage m q m.erased := by
  have hb := next_bd hm
  have h0 : page m (nextOf m).toNat = [] := List.eq_nil_of_length_eq_zero h
  have := runs_writesFrom (nextOf m).toNat 0 q 0 m hb.2.1 (by rw [h])
  rw [show (((nextOf m).toNat : Nat) : Int) = nextOf m by omega] at this
  unfold writes
  rw [Nat.zero_mul, this, h0]
  rfl
theorem move_runs_nil {m : Mem} {key v : Int} (hm : validP m = true) (hv : 0 ≤ v ∧ v ≤ 1099511627775) (hst : stays m = false) (h : (page m (nextOf m).toNat).length = 0) (k : Nat) : runs m ((stepsP m key v).take k) = movePage m ((recsB (moveL m key v)).take k) (moveEr m) := by
  rw [stepsP_move hm hv hst, eraseSteps, if_pos h, List.nil_append, moveEr, if_pos h, ← set_nil hm h]
  unfold writes
  rw [writesFrom_take]
theorem move_runs_old {m : Mem} {key v : Int} (hm : validP m = true) (hv : 0 ≤ v ∧ v ≤ 1099511627775) (hst : stays m = false) (h : ¬ (page m (nextOf m).toNat).length = 0) (k : Nat) : runs m ((stepsP m key v).take (k + 1)) = movePage m ((recsB (moveL m key v)).take k) (moveEr m) := by
  have hb := next_bd hm
  rw [stepsP_move hm hv hst, eraseSteps, if_neg h, moveEr, if_neg h]
  simp only [List.cons_append, List.nil_append, List.take_succ_cons]
  have e1 : doP m ⟨nextOf m, 0, true, 0⟩ = movePage m [] (m.erased.set (nextOf m).toNat (m.erased.getD (nextOf m).toNat 0 + 1)) := by
    unfold doP; rw [if_pos rfl]; rfl
  show runs (doP m ⟨nextOf m, 0, true, 0⟩) _ = _
  rw [e1]
  have hp : page (movePage m [] (m.erased.set (nextOf m).toNat (m.erased.getD (nextOf m).toNat 0 + 1))) (nextOf m).toNat = [] := by simp [page, movePage, hb.2.1]
  have := runs_writesFrom (nextOf m).toNat 0 ((recsB (moveL m key v)).take k) 0 (movePage m [] (m.erased.set (nextOf m).toNat (m.erased.getD (nextOf m).toNat 0 + 1))) (by simpa [movePage] using hb.2.1) (by rw [hp]; rfl)
  rw [show (((nextOf m).toNat : Nat) : Int) = nextOf m by omega] at this
  unfold writes
  rw [writesFrom_take, Nat.zero_mul, this, hp]
  simp [movePage, setPage]
theorem moveEr_ok {m : Mem} {key v : Int} (hm : validP m = true) (hv : 0 ≤ v ∧ v ≤ 1099511627775) (hst : stays m = false) (hw : wornP m (stepsP m key v) = false) : (newest m).2 + 1 < 549755813888 ∧ (moveEr m).length = m.erased.length ∧ ∀ i, i < m.pages.length → 0 ≤ (moveEr m).getD i 0 ∧ (moveEr m).getD i 0 ≤ 1000 := by
  have hb := next_bd hm
  have V := (val_iff m).1 hm
  rw [stepsP_move hm hv hst] at hw
  have hl := moveL_length m key v
  refine ⟨?_, ?_, fun i hi => ?_⟩
  · have hlen : 0 < (writes (nextOf m) 0 (recsB (moveL m key v))).length := by rw [writes_length, recsB_length]; omega
    obtain ⟨x, l, e⟩ : ∃ x l, recsB (moveL m key v) = x :: l := by
      cases h : recsB (moveL m key v) with
      | nil => rw [writes_length, h] at hlen; simp at hlen
      | cons x l => exact ⟨x, l, rfl⟩
    have hmem : (⟨nextOf m, (0 * 8 : Nat) + (0 : Nat), false, x⟩ : Step) ∈ eraseSteps m ++ writes (nextOf m) 0 (recsB (moveL m key v)) := by
      rw [e]; unfold writes; simp [writesFrom]
    have := worn_not hw hmem
    unfold wornBy at this
    simp at this
    have h2 := this hb.2.2
    omega
  · unfold moveEr; split <;> simp
  · have hr := (V.rows i hi).2
    unfold moveEr
    split
    · exact hr
    · rename_i h
      have hmem : (⟨nextOf m, 0, true, 0⟩ : Step) ∈ eraseSteps m ++ writes (nextOf m) 0 (recsB (moveL m key v)) := by
        unfold eraseSteps; rw [if_neg h]; simp
      have := worn_not hw hmem
      unfold wornBy at this
      simp only [Bool.true_and, Bool.or_eq_false_iff, decide_eq_false_iff_not] at this
      have h1 := this.1
      have h3 := (V.rows (nextOf m).toNat hb.2.1).2
      have hlen := V.lens
      by_cases e : (nextOf m).toNat = i
      · have : (m.erased.set (nextOf m).toNat (m.erased.getD (nextOf m).toNat 0 + 1)).getD i 0 = m.erased.getD (nextOf m).toNat 0 + 1 := by
          rw [e]; simp [show i < m.erased.length by omega]
        rw [this]; omega
      · have : (m.erased.set (nextOf m).toNat (m.erased.getD (nextOf m).toNat 0 + 1)).getD i 0 = m.erased.getD i 0 := by
          simp [List.getElem?_set_ne e]
        rw [this]; exact hr

/-- What is left when the power fails behind k steps. -/
theorem torn_law {m : Mem} {key v : Int} (hm : validP m = true) (hk : 0 ≤ key ∧ key ≤ 15) (hv : 0 ≤ v ∧ v ≤ 1099511627775) (hw : wornP m (stepsP m key v) = false) (k : Nat) :
    Left m (runs m ((stepsP m key v).take k)) key v ∧ ((stepsP m key v).length ≤ k → getP (runs m ((stepsP m key v).take k)) key = (v, true)) := by
  cases hst : stays m
  · obtain ⟨h1, h2, h3⟩ := moveEr_ok hm hv hst hw
    have hlen : (stepsP m key v).length = (eraseSteps m).length + (recsB (moveL m key v)).length := by rw [stepsP_move hm hv hst, List.length_append, writes_length]
    have hml := moveL_length m key v
    have hrl := recsB_length (moveL m key v)
    by_cases h : (page m (nextOf m).toNat).length = 0
    · rw [move_runs_nil hm hv hst h]
      have := move_left hm hk hv h1 (moveEr m) h2 h3 k
      exact ⟨this.1, fun hh => (this.2 (by omega)).1⟩
    · cases k with
      | zero => exact ⟨Left.refl hm _ _, fun hh => by omega⟩
      | succ k =>
        have he : (eraseSteps m).length = 1 := by unfold eraseSteps; rw [if_neg h]; rfl
        rw [move_runs_old hm hv hst h]
        have := move_left hm hk hv h1 (moveEr m) h2 h3 k
        exact ⟨this.1, fun hh => (this.2 (by omega)).1⟩
  · have hlen : (stepsP m key v).length = 8 := by rw [stepsP_stay hk hv hst, writes_length, full_length]
    cases k with
    | zero => exact ⟨Left.refl hm _ _, fun hh => by omega⟩
    | succ k =>
      rw [stay_runs hm hk hv hst]
      have := stay_left hm hk hv hst (k + 1)
      exact ⟨this.1, fun hh => this.2 (by omega)⟩

/-- What all steps leave: the current page grows, or the next page is written. -/
theorem put_shape {m : Mem} {key v : Int} (hm : validP m = true) (hk : 0 ≤ key ∧ key ≤ 15) (hv : 0 ≤ v ∧ v ≤ 1099511627775) (hw : wornP m (stepsP m key v) = false) :
    let m' := runs m (stepsP m key v)
    m'.size = m.size ∧ ((stays m = true ∧ newest m' = newest m ∧ m'.erased = m.erased ∧ ∃ q, q ≠ [] ∧ m'.pages = m.pages.set (newest m).1.toNat q) ∨
      (newest m' = (nextOf m, (newest m).2 + 1) ∧ m'.erased = moveEr m ∧ ∃ q, q ≠ [] ∧ m'.pages = m.pages.set (nextOf m).toNat q)) := by
  intro m'
  have hall : m' = runs m ((stepsP m key v).take (stepsP m key v).length) := by rw [List.take_length]
  rw [hall]
  cases hst : stays m
  · obtain ⟨h1, h2, h3⟩ := moveEr_ok hm hv hst hw
    have hlen : (stepsP m key v).length = (eraseSteps m).length + (recsB (moveL m key v)).length := by rw [stepsP_move hm hv hst, List.length_append, writes_length]
    have hml := moveL_length m key v
    have hrl := recsB_length (moveL m key v)
    have hne : recsB (moveL m key v) ≠ [] := by intro h; rw [h] at hrl; simp at hrl; omega
    have hB : runs m ((stepsP m key v).take (stepsP m key v).length) = movePage m ((recsB (moveL m key v)).take (recsB (moveL m key v)).length) (moveEr m) := by
      by_cases h : (page m (nextOf m).toNat).length = 0
      · have he : (eraseSteps m).length = 0 := by unfold eraseSteps; rw [if_pos h]; rfl
        rw [hlen, he, Nat.zero_add, move_runs_nil hm hv hst h]
      · have he : (eraseSteps m).length = 1 := by unfold eraseSteps; rw [if_neg h]; rfl
        rw [hlen, he, Nat.add_comm, move_runs_old hm hv hst h]
    rw [hB]
    have := move_left hm hk hv h1 (moveEr m) h2 h3 (recsB (moveL m key v)).length
    refine ⟨rfl, Or.inr ⟨(this.2 (Nat.le_refl _)).2, rfl, _, ?_, rfl⟩⟩
    rw [List.take_length]; exact hne
  · have hlen : (stepsP m key v).length = 8 := by rw [stepsP_stay hk hv hst, writes_length, full_length]
    rw [hlen, stay_runs hm hk hv hst]
    refine ⟨rfl, Or.inl ⟨rfl, stay_newest hm _, rfl, _, ?_, rfl⟩⟩
    intro h
    have := stay_length m key v 8
    rw [h] at this
    simp at this
end Fl
end Go.Proofs.Ytnfjfifdkmgbdaa
