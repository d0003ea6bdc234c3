/- Plain facts on steps carried out. -/
import Derived.Test.YtnfjfifdkmgbdaaWr
namespace Go.Proofs.Ytnfjfifdkmgbdaa
open Go.RowKit Go.Shelf
attribute [local go_sem] Oper.semAt_some

namespace Fl
def none_ : Mem := ⟨0, [], []⟩
def runs (m : Mem) (l : List Step) : Mem := l.foldl doP m
/-- What Torn answers. -/
def tornP (m : Mem) (key v k : Int) : Mem × Int :=
  if (stepsRes m key v).2 ≠ 0 then (none_, (stepsRes m key v).2) else if k < 0 ∨ (stepsRes m key v).1 < k then (none_, 1) else (runs m ((stepsP m key v).take k.toNat), 0)
theorem doP_pages (m : Mem) (s : Step) : (doP m s).pages.length = m.pages.length := by unfold doP; split <;> simp [setPage]
theorem doP_erased (m : Mem) (s : Step) : (doP m s).erased.length = m.erased.length := by unfold doP; split <;> simp [setPage]
theorem doP_size (m : Mem) (s : Step) : (doP m s).size = m.size := by unfold doP; split <;> simp [setPage]
theorem runs_snoc (m : Mem) (l : List Step) (s : Step) : runs m (l ++ [s]) = doP (runs m l) s := by simp [runs]
theorem runs_pages (m : Mem) (l : List Step) : (runs m l).pages.length = m.pages.length := by
  induction l generalizing m with
  | nil => rfl
  | cons s l ih => show (runs (doP m s) l).pages.length = _; rw [ih, doP_pages]
theorem runs_erased (m : Mem) (l : List Step) : (runs m l).erased.length = m.erased.length := by
  induction l generalizing m with
  | nil => rfl
  | cons s l ih => show (runs (doP m s) l).erased.length = _; rw [ih, doP_erased]
theorem runs_size (m : Mem) (l : List Step) : (runs m l).size = m.size := by
  induction l generalizing m with
  | nil => rfl
  | cons s l ih => show (runs (doP m s) l).size = _; rw [ih, doP_size]
/-- Bounds that j steps keep. -/
structure TB (m : Mem) (j : Nat) : Prop where
  len : ∀ i, (m.pages.getD i []).length ≤ 100000 + j
  lo : ∀ i, 0 ≤ m.erased.getD i 0
  hi : ∀ i, m.erased.getD i 0 ≤ 1000 + (j : Int)
theorem getD_set_le {α : Type} (l : List α) (i j : Nat) (x d : α) : (l.set i x).getD j d = x ∨ (l.set i x).getD j d = l.getD j d := by
  by_cases h : j = i
  · subst h
    by_cases hj : j < l.length
    · left; simp [hj]
    · right; rw [List.set_eq_of_length_le (by omega)]
  · right; simp [List.getElem?_set_ne (Ne.symm h)]
theorem TB.step {m : Mem} {j : Nat} (h : TB m j) (s : Step) (hs0 : 0 ≤ s.at_) (hs : s.at_ ≤ 100000) : TB (doP m s) (j + 1) := by
  unfold doP
  split
  · refine ⟨fun i => ?_, fun i => ?_, fun i => ?_⟩
    · dsimp only
      rcases getD_set_le m.pages s.page.toNat i [] [] with e | e
      · rw [e]; simp
      · rw [e]; have := h.len i; omega
    · dsimp only
      rcases getD_set_le m.erased s.page.toNat i (m.erased.getD s.page.toNat 0 + 1) 0 with e | e
      · rw [e]; have := h.lo s.page.toNat; omega
      · rw [e]; exact h.lo i
    · dsimp only
      rcases getD_set_le m.erased s.page.toNat i (m.erased.getD s.page.toNat 0 + 1) 0 with e | e
      · rw [e]; have := h.hi s.page.toNat; omega
      · rw [e]; have := h.hi i; omega
  · refine ⟨fun i => ?_, h.lo, fun i => by have := h.hi i; simp only [setPage]; omega⟩
    simp only [setPage]
    rcases getD_set_le m.pages s.page.toNat i (padTo (page m s.page.toNat) s.at_.toNat ++ [s.b]) [] with e | e
    · rw [e]
      have := h.len s.page.toNat
      have hp : (page m s.page.toNat).length ≤ 100000 + j := this
      simp only [padTo, List.length_append, List.length_replicate, List.length_cons, List.length_nil]
      omega
    · rw [e]; have := h.len i; omega
end Fl
theorem rows_er {size : Int} : ∀ (ps : List (List UInt8)) (es : List Int) (i : Nat), Fl.rowsOk size ps es = true → i < ps.length → 0 ≤ es.getD i 0 ∧ es.getD i 0 ≤ 1000
  | p :: ps, es, 0, h, _ => by simp [Fl.rowsOk, Fl.rowOk] at h; simpa using ⟨h.1.1.2, h.1.2⟩
  | p :: ps, es, i + 1, h, hi => by
    simp [Fl.rowsOk] at h
    have := rows_er ps es.tail i h.2 (by simpa using hi)
    simpa using this
theorem VFacts.tb {m : Fl.Mem} (V : VFacts m) : Fl.TB m 0 := by
  have hs := V.size
  have hl := V.lens
  refine ⟨fun i => ?_, fun i => ?_, fun i => ?_⟩
  · by_cases h : i < m.pages.length
    · have := rows_len _ _ i V.rows h; omega
    · simp [List.getElem?_eq_none (show m.pages.length ≤ i by omega)]
  · by_cases h : i < m.pages.length
    · exact (rows_er _ _ i V.rows h).1
    · simp [List.getElem?_eq_none (show m.erased.length ≤ i by omega)]
  · by_cases h : i < m.pages.length
    · have := (rows_er _ _ i V.rows h).2; omega
    · simp [List.getElem?_eq_none (show m.erased.length ≤ i by omega)]
theorem runs_tb {m : Fl.Mem} {pn : Nat} (V : VFacts m) (l : List (OkStep pn)) : Fl.TB (Fl.runs m (stepsOf l)) l.length := by
  suffices ∀ j (m : Fl.Mem), Fl.TB m j → Fl.TB (Fl.runs m (stepsOf l)) (j + l.length) by
    have := this 0 m V.tb; simpa using this
  induction l with
  | nil => intro j m h; exact h
  | cons s l ih =>
    intro j m h
    have := ih (j + 1) _ (h.step s.1 s.2.2.2.1 s.2.2.2.2)
    rw [List.length_cons, show j + (l.length + 1) = j + 1 + l.length by omega]
    exact this

/-- A memory in rows of its own is a memory. -/
theorem OwnF.frep {W : World} {base X : Nat} {m : Fl.Mem} {pa : Option Addr} {pc : Nat} {ea : Option Addr} {ec : Nat} {vs : List Value} (h : OwnF W base X m pa pc ea ec vs) (hp : m.pages.length ≤ 1000) (he : m.erased.length ≤ 1000) (hsz : 0 ≤ m.size ∧ m.size ≤ 1000) (hl : ∀ i, (m.pages.getD i []).length ≤ 1000000) (hel : ∀ i, 0 ≤ m.erased.getD i 0 ∧ m.erased.getD i 0 ≤ 1000000) : FRep W m.size pa m.pages.length ea m.erased.length m := by
  refine ⟨rfl, ⟨rfl, by omega, fun i hi => ?_⟩, ⟨rfl, by omega, fun i hi => ?_⟩, by omega⟩
  · obtain ⟨g, a, c, rfl, hv, _, _, hc, _⟩ := h.reads hi
    have hb := h.pages.each i (by have := h.pages.len; omega)
    obtain ⟨a', cap', e, hbs⟩ := hb.bs
    rw [hv] at e
    cases e
    exact ⟨g, 0, _, _, _, rfl, by rw [Nat.zero_add]; exact hc, hbs⟩
  · obtain ⟨g, cap, hg, _, _⟩ := World.ownsRow.form h.erased (by omega)
    simp only [Value.slice.injEq] at hg
    obtain ⟨rfl, _, rfl⟩ := hg
    have hc := World.ownsRow.cellAt h.erased i (by omega)
    have := hel i
    refine ⟨g, 0, rfl, ?_, by omega, by omega⟩
    rw [Nat.zero_add, hc]
    simp [List.getElem?_eq_getElem hi]
theorem frep_none (w : World) : FRep w 0 none 0 none 0 Fl.none_ :=
  ⟨rfl, ⟨rfl, by omega, fun i hi => by omega⟩, ⟨rfl, by omega, fun i hi => by omega⟩, by omega⟩
/-- What a function leaves that answers a memory and an error: the memory lies in blocks that it has made. -/
def FPost (r : Fl.Mem × Int) (w : World) (e : Ending) (w' : World) : Prop := ∃ (sz' : Int) (pa' : Option Addr) (pn' pc' : Nat) (ea' : Option Addr) (en' ec' : Nat),
  e = .returned (.tuple #[.agg #[.int .i64 sz', .slice pa' pn' pc', .slice ea' en' ec'], .int .i64 r.2]) ∧ (∀ W : World, (∀ k, w.heap.size ≤ k → W.heap[k]? = w'.heap[k]?) → FRep W sz' pa' pn' ea' en' r.1) ∧ Below w.heap.size w w'
theorem FPost.mk {m : Fl.Mem} {er : Int} {w w' : World} {e : Ending} {sz' : Int} {pa' : Option Addr} {pn' pc' : Nat} {ea' : Option Addr} {en' ec' : Nat} (h1 : e = .returned (.tuple #[.agg #[.int .i64 sz', .slice pa' pn' pc', .slice ea' en' ec'], .int .i64 er])) (h2 : ∀ W : World, (∀ k, w.heap.size ≤ k → W.heap[k]? = w'.heap[k]?) → FRep W sz' pa' pn' ea' en' m) (h3 : Below w.heap.size w w') : FPost (m, er) w e w' := ⟨_, _, _, _, _, _, _, h1, h2, h3⟩
theorem OwnF.keepFrom {W W' : World} {base X n : Nat} {m : Fl.Mem} {pa : Option Addr} {pc : Nat} {ea : Option Addr} {ec : Nat} {vs : List Value} (h : OwnF W base X m pa pc ea ec vs) (k : ∀ k, n ≤ k → W'.heap[k]? = W.heap[k]?) (hb : n ≤ base) (hX : n ≤ X) : OwnF W' base X m pa pc ea ec vs :=
  ⟨(k X hX).trans h.box,
   h.pages.keep (fun g hg => k g (by have := (own_lt h.pages.row hg).2.1; omega)) (fun i g hi hg => k g (by have := (own_lt (h.pages.each i hi) hg).2.1; omega)),
   own_keep h.erased (fun g hg => k g (by have := (own_lt h.erased hg).2.1; omega))⟩
end Go.Proofs.Ytnfjfifdkmgbdaa
