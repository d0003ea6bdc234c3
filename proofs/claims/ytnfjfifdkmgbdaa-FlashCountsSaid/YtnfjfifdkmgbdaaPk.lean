/- Plain laws of counters: numbers ascend across crashes; pages wear equally. -/
import Derived.Test.YtnfjfifdkmgbdaaPg
import Derived.Test.YtnfjfifdkmgbdaaXc
namespace Go.Proofs.Ytnfjfifdkmgbdaa
namespace Fl

theorem argsOk_iff {key v : Int} : argsOk key v = true ↔ (0 ≤ key ∧ key ≤ 15) ∧ (0 ≤ v ∧ v ≤ 1099511627775) := by
  unfold argsOk; simp [and_assoc]
theorem stepsRes_ok {m : Mem} {key v : Int} (hm : validP m = true) (hk : 0 ≤ key ∧ key ≤ 15) (hv : 0 ≤ v ∧ v ≤ 1099511627775) : stepsRes m key v = if wornP m (stepsP m key v) then (0, 35) else (((stepsP m key v).length : Int), 0) := by
  unfold stepsRes
  rw [if_pos]
  simp [hm, argsOk_iff.2 ⟨hk, hv⟩]
/-- What Steps says if it says no error. -/
theorem stepsRes_zero {m : Mem} {key v : Int} (h : (stepsRes m key v).2 = 0) : validP m = true ∧ (0 ≤ key ∧ key ≤ 15) ∧ (0 ≤ v ∧ v ≤ 1099511627775) ∧ wornP m (stepsP m key v) = false ∧ (stepsRes m key v).1 = ((stepsP m key v).length : Int) := by
  unfold stepsRes at h ⊢
  cases h1 : validP m <;> cases h2 : argsOk key v <;> simp [h1, h2] at h ⊢
  have := argsOk_iff.1 h2
  cases h3 : wornP m (stepsP m key v) <;> simp [h3] at h ⊢
  exact ⟨this.1, this.2⟩
theorem putP_ok {m : Mem} {key v : Int} (h : (stepsRes m key v).2 = 0) : putP m key v = (runs m (stepsP m key v), 0) := by
  unfold putP; rw [if_neg (by simpa using h)]
theorem put_law {m : Mem} {key v : Int} (h : (stepsRes m key v).2 = 0) : Left m (putP m key v).1 key v ∧ getP (putP m key v).1 key = (v, true) := by
  obtain ⟨h1, h2, h3, h4, h5⟩ := stepsRes_zero h
  have := torn_law h1 h2 h3 h4 (stepsP m key v).length
  rw [List.take_length] at this
  rw [putP_ok h]
  exact ⟨this.1, this.2 (Nat.le_refl _)⟩

/-! Numbers are never given away twice. -/
structure NInv (s : Int) (i : Nat) (last : Int) (m : Mem) (c : Ctr) : Prop where
  valid : validP m = true
  key : c.key = 0
  step : c.step = s
  lo : 0 ≤ c.next
  le : c.next ≤ c.limit
  stored : c.limit = (getP m 0).1
  last : last < c.next
  bd : c.limit ≤ 5 * i
theorem NInv.ctrOk {s last : Int} {i : Nat} {m : Mem} {c : Ctr} (h : NInv s i last m c) (hs : 1 ≤ s ∧ s ≤ 5) : ctrOk c = true := by
  obtain ⟨h1, h2, h3, h4, h5, h6, h7, h8⟩ := h
  simp [Fl.ctrOk]; omega
theorem NInv.start (s : Int) : NInv s 0 (-1) (formatP 160 2).1 ⟨0, s, 0, 0⟩ :=
  ⟨by decide +kernel, rfl, rfl, by simp, by simp, by show (0 : Int) = _; decide +kernel, by simp, by simp⟩
theorem NInv.open {s : Int} (hs : 1 ≤ s ∧ s ≤ 5) : openP (formatP 160 2).1 0 s = (⟨0, s, 0, 0⟩, 0) := by
  have hv : validP (formatP 160 2).1 = true := by decide +kernel
  have hg : getP (formatP 160 2).1 0 = (0, false) := by decide +kernel
  unfold openP openOk
  rw [if_pos (by rw [hv]; simp; omega), hg]
/-- A number is taken. -/
theorem NInv.take {s last : Int} {i : Nat} {m : Mem} {c : Ctr} (h : NInv s i last m c) (hs : 1 ≤ s ∧ s ≤ 5) (hi : i ≤ 300) :
    (takeP m c).2.2.2 = 35 ∨ ((takeP m c).2.2.2 = 0 ∧ last < (takeP m c).2.2.1 ∧ NInv s (i + 1) (takeP m c).2.2.1 (takeP m c).1 (takeP m c).2.1) := by
  have hc := h.ctrOk hs
  obtain ⟨h1, h2, h3, h4, h5, h6, h7, h8⟩ := h
  have hr : reserveP m c = if c.next < c.limit then (c.next, c.limit, 0) else if 1099511627775 < c.limit + c.step then (0, 0, 43) else if (stepsRes m c.key (c.limit + c.step)).2 ≠ 0 then (0, 0, (stepsRes m c.key (c.limit + c.step)).2) else (c.next, c.limit + c.step, 0) := by
    unfold reserveP; rw [h1, hc]; simp
  by_cases hlt : c.next < c.limit
  · rw [if_pos hlt] at hr
    right
    unfold takeP
    rw [hr]
    simp only [ne_eq, not_true, if_false]
    exact ⟨trivial, h7, h1, h2, h3, by simp only; omega, by simp only; omega, h6, by simp only; omega, by simp only; omega⟩
  · rw [if_neg hlt, if_neg (by omega)] at hr
    by_cases he : (stepsRes m c.key (c.limit + c.step)).2 = 0
    · rw [if_neg (by simpa using he)] at hr
      have hl := put_law he
      right
      unfold takeP
      rw [hr]
      have hne : ¬ (c.limit + c.step = c.limit) := by omega
      simp only [ne_eq, not_true, if_false, hne, not_false_iff, if_true]
      refine ⟨trivial, h7, hl.1.valid, h2, h3, by simp only; omega, by simp only; omega, ?_, by simp only; omega, by simp only; omega⟩
      rw [← h2, hl.2]
    · left
      rw [if_pos he] at hr
      unfold takeP
      rw [hr]
      simp only [ne_eq, he, not_false_iff, if_true]
      rw [stepsRes_ok h1 (by omega) (by omega)] at he ⊢
      cases hw : wornP m (stepsP m c.key (c.limit + c.step))
      · rw [hw] at he; simp at he
      · rfl
/-- The counter is opened anew, on whatever memory is left. -/
theorem NInv.reopen {s last : Int} {i : Nat} {m m' : Mem} {c : Ctr} (h : NInv s i last m c) (hs : 1 ≤ s ∧ s ≤ 5) (hv : validP m' = true) (hg : (getP m' 0).1 = c.limit ∨ (getP m' 0).1 = c.limit + s) :
    (openP m' 0 c.step).2 = 0 ∧ NInv s (i + 1) last m' (openP m' 0 c.step).1 := by
  obtain ⟨h1, h2, h3, h4, h5, h6, h7, h8⟩ := h
  have ho : openP m' 0 c.step = (⟨0, c.step, (getP m' 0).1, (getP m' 0).1⟩, 0) := by
    unfold openP openOk; rw [if_pos (by rw [hv]; simp; omega)]
  rw [ho]
  exact ⟨rfl, hv, rfl, h3, by simp only; omega, by simp only; omega, rfl, by simp only; omega, by simp only; omega⟩
theorem NInv.stay {s last : Int} {i : Nat} {m : Mem} {c : Ctr} (h : NInv s i last m c) (hs : 1 ≤ s ∧ s ≤ 5) : (openP m 0 c.step).2 = 0 ∧ NInv s (i + 1) last m (openP m 0 c.step).1 :=
  h.reopen hs h.valid (Or.inl h.stored.symm)
/-- The power fails in the middle of a write. -/
theorem NInv.torn {s last : Int} {i : Nat} {m : Mem} {c : Ctr} (h : NInv s i last m c) (hs : 1 ≤ s ∧ s ≤ 5) (he : (reserveP m c).2.2 = 0) (hl : (reserveP m c).2.1 ≠ c.limit) :
    (stepsRes m c.key (reserveP m c).2.1).2 = 0 ∧ ∀ k : Int, 0 ≤ k → k ≤ (stepsRes m c.key (reserveP m c).2.1).1 → (tornP m c.key (reserveP m c).2.1 k).2 = 0 ∧ (openP (tornP m c.key (reserveP m c).2.1 k).1 0 c.step).2 = 0 ∧ NInv s (i + 1) last (tornP m c.key (reserveP m c).2.1 k).1 (openP (tornP m c.key (reserveP m c).2.1 k).1 0 c.step).1 := by
  have hc := h.ctrOk hs
  have H := h
  obtain ⟨h1, h2, h3, h4, h5, h6, h7, h8⟩ := h
  have hr : reserveP m c = if c.next < c.limit then (c.next, c.limit, 0) else if 1099511627775 < c.limit + c.step then (0, 0, 43) else if (stepsRes m c.key (c.limit + c.step)).2 ≠ 0 then (0, 0, (stepsRes m c.key (c.limit + c.step)).2) else (c.next, c.limit + c.step, 0) := by
    unfold reserveP; rw [h1, hc]; simp
  by_cases hlt : c.next < c.limit
  · rw [if_pos hlt] at hr; rw [hr] at hl; simp at hl
  rw [if_neg hlt] at hr
  by_cases hb : 1099511627775 < c.limit + c.step
  · rw [if_pos hb] at hr; rw [hr] at he; simp at he
  rw [if_neg hb] at hr
  by_cases hst : (stepsRes m c.key (c.limit + c.step)).2 = 0
  · rw [if_neg (by simpa using hst)] at hr
    rw [hr]
    refine ⟨hst, fun k k0 k1 => ?_⟩
    obtain ⟨q1, q2, q3, q4, q5⟩ := stepsRes_zero hst
    have ht : tornP m c.key (c.limit + c.step) k = (runs m ((stepsP m c.key (c.limit + c.step)).take k.toNat), 0) := by
      unfold tornP
      rw [if_neg (by simpa using hst), if_neg (by simp only at k1; omega)]
    simp only [ht]
    have law := torn_law q1 q2 q3 q4 k.toNat
    have := H.reopen hs law.1.valid (by
      rcases law.1.own with e | e
      · left; rw [h2] at e; rw [h2, e]; exact h6.symm
      · right; rw [h2] at e; rw [h2, e]; simp only; omega)
    exact ⟨trivial, this⟩
  · rw [if_pos hst] at hr; rw [hr] at he; exact absurd he hst

/-! Pages wear equally. -/
structure Ring (P g : Nat) (m : Mem) : Prop where
  valid : validP m = true
  len : m.pages.length = P
  newest : newest m = (((g % P : Nat) : Int), (g : Int))
  er : ∀ j, j < P → m.erased.getD j 0 = if j ≤ g % P then ((g / P : Nat) : Int) else ((g / P - 1 : Nat) : Int)
  full : ∀ j, j < P → (m.pages.getD j [] = [] ↔ (g / P = 0 ∧ g % P < j))
theorem Ring.start (P : Nat) (h : P = 2 ∨ P = 3 ∨ P = 4) : Ring P 0 (formatP 160 P).1 := by
  rcases h with rfl | rfl | rfl
  · exact ⟨by decide +kernel, by decide +kernel, by decide +kernel, by decide +kernel, by decide +kernel⟩
  · exact ⟨by decide +kernel, by decide +kernel, by decide +kernel, by decide +kernel, by decide +kernel⟩
  · exact ⟨by decide +kernel, by decide +kernel, by decide +kernel, by decide +kernel, by decide +kernel⟩
theorem Ring.er_bd {P g : Nat} {m : Mem} (h : Ring P g m) (j : Nat) : m.erased.getD j 0 ≤ g := by
  have V := (val_iff m).1 h.valid
  have hd : g / P ≤ g := Nat.div_le_self g P
  by_cases hj : j < P
  · rw [h.er j hj]; split <;> omega
  · have := V.lens
    have := h.len
    rw [List.getD_eq_getElem?_getD, List.getElem?_eq_none (by omega)]
    simp
theorem Ring.unworn {P g : Nat} {m : Mem} (h : Ring P g m) (hg : g ≤ 900) (l : List Step) : wornP m l = false := by
  unfold wornP
  rw [List.any_eq_false]
  intro s _
  unfold wornBy
  have := h.er_bd s.page.toNat
  rw [h.newest]
  simp only [Bool.or_eq_true, Bool.and_eq_true, decide_eq_true_eq]
  omega
theorem getD_set_if {α : Type} (l : List α) (i j : Nat) (x d : α) (hi : i < l.length) : (l.set i x).getD j d = if j = i then x else l.getD j d := by
  by_cases h : j = i
  · subst h; simp [hi]
  · simp [h, List.getElem?_set_ne (Ne.symm h)]
theorem Ring.put {P g : Nat} (hP : P = 2 ∨ P = 3 ∨ P = 4) {m : Mem} {key v : Int} (h : Ring P g m) (hg : g ≤ 900) (hk : 0 ≤ key ∧ key ≤ 15) (hv : 0 ≤ v ∧ v ≤ 1099511627775) : ∃ g', g' ≤ g + 1 ∧ Ring P g' (runs m (stepsP m key v)) := by
  have hw := h.unworn hg (stepsP m key v)
  obtain ⟨hsz, hsh⟩ := put_shape h.valid hk hv hw
  have law := torn_law h.valid hk hv hw (stepsP m key v).length
  rw [List.take_length] at law
  have hlen := h.len
  have V := (val_iff m).1 h.valid
  have hel := V.lens
  have hP0 : 0 < P := by omega
  have hml : g % P < P := Nat.mod_lt _ hP0
  rcases hsh with ⟨_, h1, h2, q, hq, h3⟩ | ⟨h1, h2, q, hq, h3⟩
  · have hn1 : (Fl.newest m).1.toNat = g % P := by rw [h.newest]; exact Int.toNat_natCast _
    rw [hn1] at h3
    refine ⟨g, by omega, law.1.valid, by rw [h3]; simpa using hlen, by rw [h1]; exact h.newest, fun j hj => by rw [h2]; exact h.er j hj, fun j hj => ?_⟩
    rw [h3, getD_set_if _ _ _ _ _ (by omega)]
    split
    · rename_i e
      constructor
      · intro e2; exact absurd e2 hq
      · rintro ⟨_, e2⟩; omega
    · exact h.full j hj
  · have hnx : nextOf m = (((g + 1) % P : Nat) : Int) := by
      unfold nextOf
      rw [h.newest, hlen]
      rcases hP with rfl | rfl | rfl <;> simp only <;> omega
    have hnt : (nextOf m).toNat = (g + 1) % P := by rw [hnx]; exact Int.toNat_natCast _
    have hml' : (g + 1) % P < P := Nat.mod_lt _ hP0
    rw [hnt] at h3
    refine ⟨g + 1, by omega, law.1.valid, by rw [h3]; simpa using hlen, ?_, fun j hj => ?_, fun j hj => ?_⟩
    · rw [h1, hnx, h.newest]; simp
    · have hf := h.full ((g + 1) % P) hml'
      have he := h.er j hj
      have he' := h.er ((g + 1) % P) hml'
      rw [h2]
      unfold moveEr
      rw [hnt]
      by_cases hempty : m.pages.getD ((g + 1) % P) [] = []
      · rw [if_pos (by show (m.pages.getD ((g + 1) % P) []).length = 0; rw [hempty]; rfl), he]
        have := hf.1 hempty
        rcases hP with rfl | rfl | rfl <;> (split <;> split <;> omega)
      · rw [if_neg (by show ¬ (m.pages.getD ((g + 1) % P) []).length = 0; intro e; exact hempty (List.eq_nil_of_length_eq_zero e)), getD_set_if _ _ _ _ _ (by omega)]
        have hne : ¬ (g / P = 0 ∧ g % P < (g + 1) % P) := fun e => hempty (hf.2 e)
        rw [he, he']
        rcases hP with rfl | rfl | rfl <;> (repeat' split) <;> omega
    · rw [h3, getD_set_if _ _ _ _ _ (by omega)]
      have hf := h.full j hj
      split
      · rename_i e
        constructor
        · intro e2; exact absurd e2 hq
        · rintro ⟨_, e2⟩; omega
      · rename_i e
        have hnf := h.full ((g + 1) % P) hml'
        rw [hf]
        rcases hP with rfl | rfl | rfl <;> omega

structure WInv (P : Nat) (s i : Int) (m : Mem) (c : Ctr) : Prop where
  ring : ∃ g : Nat, (g : Int) ≤ i ∧ Ring P g m
  ctr : c = ⟨2, s, i, (i + s - 1) / s * s⟩
  stored : (getP m 2).1 = (i + s - 1) / s * s
theorem WInv.start (P : Nat) (h : P = 2 ∨ P = 3 ∨ P = 4) (s : Int) (hs : 1 ≤ s ∧ s ≤ 6) : WInv P s 0 (formatP 160 P).1 ⟨2, s, 0, 0⟩ := by
  have e0 : (0 + s - 1) / s * s = 0 := by rw [Int.ediv_eq_zero_of_lt (by omega) (by omega)]; simp
  refine ⟨⟨0, by simp, Ring.start P h⟩, by rw [e0], ?_⟩
  rw [e0]
  rcases h with rfl | rfl | rfl <;> decide +kernel
theorem WInv.open (P : Nat) (h : P = 2 ∨ P = 3 ∨ P = 4) (s : Int) (hs : 1 ≤ s ∧ s ≤ 6) : openP (formatP 160 P).1 2 s = (⟨2, s, 0, 0⟩, 0) := by
  have hv : validP (formatP 160 P).1 = true := (Ring.start P h).valid
  have hg : getP (formatP 160 P).1 2 = (0, false) := by rcases h with rfl | rfl | rfl <;> decide +kernel
  unfold openP openOk
  rw [if_pos (by rw [hv]; simp; omega), hg]
theorem WInv.format (P : Nat) (h : P = 2 ∨ P = 3 ∨ P = 4) : (formatP 160 P).2 = 0 := by rcases h with rfl | rfl | rfl <;> decide +kernel
theorem WInv.take {P : Nat} (hP : P = 2 ∨ P = 3 ∨ P = 4) {s i : Int} {m : Mem} {c : Ctr} (h : WInv P s i m c) (hs : 1 ≤ s ∧ s ≤ 6) (hi0 : 0 ≤ i) (hi : i ≤ 200) :
    (takeP m c).2.2.2 = 0 ∧ (takeP m c).2.2.1 = i ∧ WInv P s (i + 1) (takeP m c).1 (takeP m c).2.1 := by
  obtain ⟨⟨g, hg, hr⟩, rfl, hst⟩ := h
  generalize hL : (i + s - 1) / s * s = L at *
  have hLi : i ≤ L ∧ L < i + s := by
    rcases (show s = 1 ∨ s = 2 ∨ s = 3 ∨ s = 4 ∨ s = 5 ∨ s = 6 by omega) with rfl | rfl | rfl | rfl | rfl | rfl <;> omega
  have hN1 : i < L → (i + 1 + s - 1) / s * s = L := by
    intro hh
    rcases (show s = 1 ∨ s = 2 ∨ s = 3 ∨ s = 4 ∨ s = 5 ∨ s = 6 by omega) with rfl | rfl | rfl | rfl | rfl | rfl <;> omega
  have hN2 : i = L → (i + 1 + s - 1) / s * s = L + s := by
    intro hh
    rcases (show s = 1 ∨ s = 2 ∨ s = 3 ∨ s = 4 ∨ s = 5 ∨ s = 6 by omega) with rfl | rfl | rfl | rfl | rfl | rfl <;> omega
  have hco : ctrOk ⟨2, s, i, L⟩ = true := by simp [ctrOk]; omega
  have hre : reserveP m ⟨2, s, i, L⟩ = if i < L then (i, L, 0) else if 1099511627775 < L + s then (0, 0, 43) else if (stepsRes m 2 (L + s)).2 ≠ 0 then (0, 0, (stepsRes m 2 (L + s)).2) else (i, L + s, 0) := by
    unfold reserveP; rw [hr.valid, hco]; simp
  by_cases hlt : i < L
  · rw [if_pos hlt] at hre
    unfold takeP
    rw [hre]
    simp only [ne_eq, not_true, if_false]
    exact ⟨trivial, trivial, ⟨g, by omega, hr⟩, by rw [hN1 hlt], by rw [hN1 hlt]; exact hst⟩
  · have hw := hr.unworn (by omega) (stepsP m 2 (L + s))
    have hs0 : (stepsRes m 2 (L + s)).2 = 0 := by rw [stepsRes_ok hr.valid (by omega) (by omega), hw]; rfl
    rw [if_neg hlt, if_neg (by omega), if_neg (by simpa using hs0)] at hre
    have hl := put_law hs0
    obtain ⟨g', hg', hr'⟩ := hr.put hP (key := 2) (v := L + s) (by omega) (by omega) (by omega)
    unfold takeP
    rw [hre]
    have hne : ¬ (L + s = L) := by omega
    simp only [ne_eq, not_true, if_false, hne, not_false_iff, if_true]
    have hiL : i = L := by omega
    refine ⟨trivial, trivial, ⟨g', by omega, ?_⟩, by rw [hN2 hiL], ?_⟩
    · rw [putP_ok hs0]; exact hr'
    · rw [hl.2, hN2 hiL]
/-- Counts differ by at most one. -/
theorem Ring.even {P g : Nat} {m : Mem} (h : Ring P g m) (hg : g ≤ 300) : ∃ a : Int, 0 ≤ a ∧ a ≤ 300 ∧ m.erased.length = P ∧ ∀ j, j < P → a ≤ m.erased.getD j 0 ∧ m.erased.getD j 0 ≤ a + 1 := by
  have V := (val_iff m).1 h.valid
  have hd : g / P ≤ g := Nat.div_le_self g P
  refine ⟨((g / P - 1 : Nat) : Int), by omega, by omega, by rw [V.lens, h.len], fun j hj => ?_⟩
  rw [h.er j hj]
  generalize g / P = x at *
  split <;> omega
end Fl
end Go.Proofs.Ytnfjfifdkmgbdaa
