/- Maps that are built of pairs in any order, plainly. -/
import Derived.Test.YtelefkkkccilaaaGreatDoorLA
import Derived.Test.YtelefkkkccilaaaGreatDoorPi
set_option linter.unusedVariables false
set_option linter.unusedSimpArgs false
namespace Go.Proofs.YtelefkkkccilaaaGreatDoor
namespace It
theorem flatK_mem : ∀ {l : List KV} {y : It}, y ∈ flatK l ↔ ∃ p ∈ l, y = p.1 ∨ y = p.2
  | [], y => by simp [flatK]
  | p :: l, y => by
    simp only [flatK, List.mem_cons, flatK_mem (l := l)]
    constructor
    · rintro (h | h | ⟨q, hq, h⟩)
      · exact ⟨p, .inl rfl, .inl h⟩
      · exact ⟨p, .inl rfl, .inr h⟩
      · exact ⟨q, .inr hq, h⟩
    · rintro ⟨q, rfl | hq, h⟩
      · rcases h with h | h
        · exact .inl h
        · exact .inr (.inl h)
      · exact .inr (.inr ⟨q, hq, h⟩)
theorem flatK_perm {l m : List KV} (h : l.Perm m) : (flatK l).Perm (flatK m) := by
  induction h with
  | nil => exact List.Perm.refl _
  | cons p _ ih => exact (ih.cons _).cons _
  | swap p q l =>
    simp only [flatK]
    have h1 : (q.1 :: q.2 :: p.1 :: p.2 :: flatK l).Perm ([q.1, q.2] ++ ([p.1, p.2] ++ flatK l)) := List.Perm.refl _
    have h2 : ([q.1, q.2] ++ ([p.1, p.2] ++ flatK l)).Perm ([p.1, p.2] ++ ([q.1, q.2] ++ flatK l)) := by
      rw [← List.append_assoc, ← List.append_assoc]
      exact List.perm_append_comm.append_right _
    exact h1.trans h2
  | trans _ _ ih1 ih2 => exact ih1.trans ih2
theorem nodesL_perm {l m : List It} (h : l.Perm m) : nodesL l = nodesL m := by
  induction h with
  | nil => rfl
  | cons p _ ih => simp only [nodesL, ih]
  | swap p q l => simp only [nodesL]; omega
  | trans _ _ ih1 ih2 => exact ih1.trans ih2
theorem encs_perm {l m : List It} (h : l.Perm m) : (encs l).length = (encs m).length := by
  induction h with
  | nil => rfl
  | cons p _ ih => simp only [encs, List.length_append, ih]
  | swap p q l => simp only [encs, List.length_append]; omega
  | trans _ _ ih1 ih2 => exact ih1.trans ih2
theorem wfs_iff {d : Nat} : ∀ {l : List It}, wfs d l = true ↔ ∀ y ∈ l, wf d y = true
  | [] => by simp [wfs]
  | k :: ks => by simp [wfs, wfs_iff (l := ks)]
theorem buildP_perm {ps qs : List It} (hl : ps.length % 2 = 0) (hm : qs.length % 2 = 0) (hp : (pairsK qs).Perm (pairsK ps)) : buildP qs = buildP ps := by
  have hf : qs.Perm ps := by
    have := flatK_perm hp
    rwa [flat_pairs _ hm, flat_pairs _ hl] at this
  have ha : qs.all valid = ps.all valid := by
    rw [Bool.eq_iff_iff, List.all_eq_true, List.all_eq_true]
    exact ⟨fun h y hy => h y (hf.mem_iff.2 hy), fun h y hy => h y (hf.mem_iff.1 hy)⟩
  unfold buildP
  rw [if_neg (show ¬ qs.length % 2 = 1 by omega), if_neg (show ¬ ps.length % 2 = 1 by omega), ha]
  by_cases hv : ps.all valid = false
  · rw [if_pos hv, if_pos hv]
  rw [if_neg hv, if_neg hv]
  have hn : ((pairsK qs).map key).Nodup ↔ ((pairsK ps).map key).Nodup := (hp.map key).nodup_iff
  by_cases hd : ((pairsK ps).map key).Nodup
  · have h1 := (asc_sort _).2 hd
    have h2 := (asc_sort _).2 (hn.2 hd)
    have hs : sortK (pairsK qs) = sortK (pairsK ps) := sort_uniq ((sortK_perm _).trans hp) ((asc_none _).1 h2)
    rw [hs]
  · have h1 : asc .none (flatK (sortK (pairsK ps))) = false := by
      cases h : asc .none (flatK (sortK (pairsK ps))) with
      | false => rfl
      | true => exact absurd ((asc_sort _).1 h) hd
    have h2 : asc .none (flatK (sortK (pairsK qs))) = false := by
      cases h : asc .none (flatK (sortK (pairsK qs))) with
      | false => rfl
      | true => exact absurd (hn.1 ((asc_sort _).1 h)) hd
    rw [if_pos h1, if_pos h2]
def mN : Nat → Nat
  | 0 => 1
  | d + 1 => 1 + 6 * mN d
def mS : Nat → Nat
  | 0 => 39
  | d + 1 => 9 + 6 * mS d
def Sm (d : Nat) (x : It) : Prop := wf d x = true ∧ nodes x ≤ mN d ∧ (enc x).length ≤ mS d
theorem mN_up : ∀ d, 1 ≤ mN d
  | 0 => Nat.le_refl _
  | d + 1 => by unfold mN; omega
theorem mS_up : ∀ d, 39 ≤ mS d
  | 0 => Nat.le_refl _
  | d + 1 => by have := mS_up d; unfold mS; omega
theorem Sm.flat {d : Nat} {k : Int} {n : Nat} {b : List UInt8} (h : wf d (mk k n b []) = true) (hb : b.length ≤ 30) : Sm d (mk k n b []) := by
  have h1 := enc_le k n b []
  have h2 := mS_up d
  have h3 := mN_up d
  have h4 : (encs ([] : List It)).length = 0 := rfl
  exact ⟨h, by show 1 + 0 ≤ _; omega, by omega⟩
theorem sm_sums {d : Nat} : ∀ {l : List It}, (∀ y ∈ l, Sm d y) → nodesL l ≤ l.length * mN d ∧ (encs l).length ≤ l.length * mS d ∧ wfs d l = true
  | [], _ => by simp [nodesL, encs, wfs]
  | k :: ks, h => by
    have h1 := h k List.mem_cons_self
    have h2 := sm_sums (l := ks) fun y hy => h y (List.mem_cons_of_mem _ hy)
    have h3 : nodesL (k :: ks) = nodes k + nodesL ks := rfl
    have h4 : (encs (k :: ks)).length = (enc k).length + (encs ks).length := by simp [encs]
    have h5 : wfs d (k :: ks) = (wf d k && wfs d ks) := rfl
    have h6 : (ks.length + 1) * mN d = ks.length * mN d + mN d := Nat.succ_mul _ _
    have h7 : (ks.length + 1) * mS d = ks.length * mS d + mS d := Nat.succ_mul _ _
    rw [h3, h4, h5, h1.1, h2.2.2, List.length_cons, h6, h7]
    exact ⟨by have := h1.2.1; have := h2.1; omega, by have := h1.2.2; have := h2.2.1; omega, rfl⟩
theorem Sm.of {d : Nat} {k : Int} {n : Nat} {ks : List It} (hw : wfs d ks = true → wf (d + 1) (mk k n [] ks) = true) (h : ∀ y ∈ ks, Sm d y) (hl : ks.length ≤ 6) : Sm (d + 1) (mk k n [] ks) := by
  obtain ⟨h1, h2, h3⟩ := sm_sums h
  have h4 := enc_le k n [] ks
  have h5 : ks.length * mN d ≤ 6 * mN d := Nat.mul_le_mul_right _ hl
  have h6 : ks.length * mS d ≤ 6 * mS d := Nat.mul_le_mul_right _ hl
  refine ⟨hw h3, ?_, ?_⟩
  · show 1 + nodesL ks ≤ 1 + 6 * mN d; omega
  · show _ ≤ 9 + 6 * mS d
    simp only [List.length_nil] at h4
    omega
theorem Sm.zero (d : Nat) : Sm d (mk 0 0 [] []) := Sm.flat (by simp [wf]) (by simp)
theorem Sm.tag {d m : Nat} {y : It} (hm : m < 18446744073709551616) (h : Sm d y) : Sm (d + 1) (mk 6 m [] [y]) := by
  refine Sm.of (fun hw => ?_) (fun z hz => by simp only [List.mem_singleton] at hz; subst hz; exact h) (by simp)
  unfold wf
  rw [if_neg (by decide), if_neg (by decide), if_neg (by decide), if_neg (by decide), if_neg (by decide), if_pos (by decide), if_pos rfl, if_neg (by decide)]
  simp only [Bool.and_eq_true, decide_eq_true_eq, Nat.add_sub_cancel]
  exact ⟨hm, ⟨⟨⟨rfl, by omega⟩, rfl⟩, trivial⟩, hw⟩
theorem Sm.list {d : Nat} {l : List It} (h : ∀ y ∈ l, Sm d y) (hl : l.length ≤ 6) : Sm (d + 1) (mk 4 0 [] l) := by
  refine Sm.of (fun hw => ?_) h hl
  unfold wf
  rw [if_neg (by decide), if_neg (by decide), if_neg (by decide), if_neg (by decide), if_neg (by decide), if_pos (by decide), if_neg (by decide), if_neg (by decide)]
  simp only [Bool.and_eq_true, decide_eq_true_eq, Nat.add_sub_cancel]
  exact ⟨by omega, ⟨⟨⟨rfl, by omega⟩, trivial⟩, trivial⟩, hw⟩
theorem Sm.map0 (d : Nat) : Sm (d + 1) (mk 5 0 [] []) := by
  refine Sm.of (fun hw => ?_) (fun y hy => by simp at hy) (by simp)
  unfold wf
  rw [if_neg (by decide), if_neg (by decide), if_neg (by decide), if_neg (by decide), if_neg (by decide), if_pos (by decide), if_neg (by decide), if_pos rfl]
  simp only [Bool.and_eq_true, decide_eq_true_eq, Nat.add_sub_cancel]
  exact ⟨by omega, ⟨⟨⟨rfl, by omega⟩, trivial⟩, rfl, rfl⟩, hw⟩
theorem Sm.build {d : Nat} {ps : List It} {x : It} (hb : buildP ps = .ok x) (h : ∀ y ∈ ps, Sm d y) (hl : ps.length ≤ 6) : Sm (d + 1) x := by
  unfold buildP at hb
  split at hb
  · cases hb
  rename_i h0
  split at hb
  · cases hb
  split at hb
  · cases hb
  rename_i h1
  split at hb
  · cases hb
  cases hb
  have hp := flatK_perm (sortK_perm (pairsK ps))
  rw [flat_pairs ps (by omega)] at hp
  refine Sm.of (fun hw => ?_) (fun y hy => h y (hp.mem_iff.1 hy)) (by rw [hp.length_eq]; exact hl)
  unfold wf
  rw [if_neg (by decide), if_neg (by decide), if_neg (by decide), if_neg (by decide), if_neg (by decide), if_pos (by decide), if_neg (by decide), if_pos rfl]
  simp only [Bool.and_eq_true, decide_eq_true_eq, Nat.add_sub_cancel]
  refine ⟨by omega, ⟨⟨⟨rfl, by omega⟩, trivial⟩, ?_, by simpa using h1⟩, hw⟩
  rw [hp.length_eq]; omega
theorem build_small {ps : List It} (he : ps.length % 2 = 0) (h : ∀ y ∈ ps, Sm 1 y) (hv : ∀ y ∈ ps, valid y = true) (hl : ps.length ≤ 10) : buildP ps = .err 7 ∨ (((pairsK ps).map key).Nodup ∧ buildP ps = .ok (mk 5 0 [] (flatK (sortK (pairsK ps))))) := by
  unfold buildP
  rw [if_neg (by omega), if_neg (by rw [Bool.not_eq_false, List.all_eq_true]; exact hv)]
  by_cases h1 : asc .none (flatK (sortK (pairsK ps))) = false
  · left; rw [if_pos h1]
  rw [if_neg h1]
  right
  have h1 : asc .none (flatK (sortK (pairsK ps))) = true := by simpa using h1
  refine ⟨(asc_sort _).1 h1, ?_⟩
  rw [if_neg]
  rw [Bool.not_eq_false]
  have hp := flatK_perm (sortK_perm (pairsK ps))
  rw [flat_pairs ps he] at hp
  obtain ⟨s1, s2, s3⟩ := sm_sums h
  have e1 := nodesL_perm hp
  have e2 := encs_perm hp
  have h4 := enc_le 5 0 [] (flatK (sortK (pairsK ps)))
  have h5 : ps.length * mN 1 ≤ 10 * mN 1 := Nat.mul_le_mul_right _ hl
  have h6 : ps.length * mS 1 ≤ 10 * mS 1 := Nat.mul_le_mul_right _ hl
  have h7 : mN 1 = 7 := rfl
  have h8 : mS 1 = 243 := rfl
  unfold valid
  simp only [Bool.and_eq_true, decide_eq_true_eq]
  simp only [List.length_nil] at h4
  refine ⟨⟨?_, ?_⟩, by omega⟩
  · unfold wf
    rw [if_neg (by decide), if_neg (by decide), if_neg (by decide), if_neg (by decide), if_neg (by decide), if_pos (by decide), if_neg (by decide), if_pos rfl]
    simp only [Bool.and_eq_true, decide_eq_true_eq]
    refine ⟨by omega, ⟨⟨⟨rfl, by omega⟩, trivial⟩, ?_, h1⟩, wfs_up (by omega) (wfs_iff.2 fun y hy => wfs_iff.1 s3 y (hp.mem_iff.1 hy))⟩
    rw [hp.length_eq]; exact he
  · show 1 + nodesL _ ≤ 256; omega
theorem look_flat : ∀ {M : List KV} {p : KV}, (M.map key).Nodup → p ∈ M → look (flatK M) p.1 = some p.2
  | q :: M, p, hn, hp => by
    simp only [List.map_cons, List.nodup_cons] at hn
    unfold flatK look
    by_cases e : same q.1 p.1 = true
    · rw [if_pos e]
      rw [same_iff] at e
      rcases List.mem_cons.1 hp with rfl | hp
      · rfl
      · exact absurd (List.mem_map.2 ⟨p, hp, by unfold key; rw [e]⟩) hn.1
    · rw [if_neg e]
      rcases List.mem_cons.1 hp with rfl | hp
      · exact absurd (same_self _) e
      · exact look_flat hn.2 hp
theorem find_sorted {ps : List It} (hn : ((pairsK ps).map key).Nodup) {p : KV} (hp : p ∈ pairsK ps) : look (flatK (sortK (pairsK ps))) p.1 = some p.2 :=
  look_flat (((sortK_perm _).map key).nodup_iff.2 hn) ((sortK_perm _).mem_iff.2 hp)
theorem sorted_lt {ps : List It} (hn : ((pairsK ps).map key).Nodup) {j : Nat} (hj : j + 1 < (sortK (pairsK ps)).length) : cmpB (enc (sortK (pairsK ps))[j].1) (enc (sortK (pairsK ps))[j + 1].1) < 0 :=
  (List.pairwise_iff_getElem.1 ((asc_none _).1 ((asc_sort _).2 hn))) j (j + 1) (by omega) hj (by omega)
theorem flatK_at (l : List KV) (j : Nat) (h : 2 * j < (flatK l).length) : ∃ hj : j < l.length, (flatK l)[2 * j] = l[j].1 ∧ ∃ h' : 2 * j + 1 < (flatK l).length, (flatK l)[2 * j + 1] = l[j].2 := by
  have hl := flatK_length l
  have hj : j < l.length := by omega
  obtain ⟨h1, h2⟩ := flatK_get l j hj
  have h' : 2 * j + 1 < (flatK l).length := by omega
  rw [List.getElem?_eq_getElem h] at h1
  rw [List.getElem?_eq_getElem h'] at h2
  exact ⟨hj, Option.some.inj h1, h', Option.some.inj h2⟩
theorem rot_at (L : List KV) (t j : Nat) (hj : j < L.length) (ht : t < L.length) : ∃ h : j < (L.drop t ++ L.take t).length, (L.drop t ++ L.take t)[j] = L[(j + t) % L.length]'(Nat.mod_lt _ (by omega)) := by
  have hl : (L.drop t ++ L.take t).length = L.length := by simp; omega
  refine ⟨by omega, ?_⟩
  by_cases h : j < L.length - t
  · rw [List.getElem_append_left (by simpa using h), List.getElem_drop]
    congr 1
    rw [Nat.mod_eq_of_lt (by omega)]; omega
  · rw [List.getElem_append_right (by simp; omega), List.getElem_take]
    congr 1
    rw [List.length_drop]
    have : (j + t) % L.length = j + t - L.length := by
      rw [Nat.mod_eq_sub_mod (by omega), Nat.mod_eq_of_lt (by omega)]
    rw [this]; omega
theorem rot_perm (L : List KV) (t : Nat) : (L.drop t ++ L.take t).reverse.Perm L := by
  refine (List.reverse_perm _).trans (List.perm_append_comm.trans ?_)
  rw [List.take_append_drop]
theorem rev_take {L : List KV} {j : Nat} (h : j < L.length) : (L.take (j + 1)).reverse = L[j] :: (L.take j).reverse := by
  rw [List.take_succ_eq_append_getElem h, List.reverse_append]; rfl
theorem pairsK_flat : ∀ l : List KV, pairsK (flatK l) = l
  | [] => rfl
  | p :: l => by unfold flatK pairsK; rw [pairsK_flat l]
theorem prsN_far {it : Nat → List UInt8 → PR It} (hi : ∀ f s y f1 s1, it f s = .ok y f1 s1 → f1 + 1 ≤ f) : ∀ (f n m : Nat) (last : Option (List UInt8)) (s : List UInt8), f < 2 * n → f < 2 * m → prsN it last n f s = prsN it last m f s := by
  intro f
  induction f using Nat.strongRecOn with
  | _ f ih =>
    intro n m last s hn hm
    obtain ⟨n, rfl⟩ : ∃ k, n = k + 1 := ⟨n - 1, by omega⟩
    obtain ⟨m, rfl⟩ : ∃ k, m = k + 1 := ⟨m - 1, by omega⟩
    unfold prsN
    cases h1 : it f s with
    | err e => rfl
    | ok k f1 s1 =>
      simp only
      split
      · rfl
      split
      · rfl
      have h2 := hi _ _ _ _ _ h1
      cases h3 : it f1 s1 with
      | err e => rfl
      | ok v f2 s2 =>
        simp only
        have h4 := hi _ _ _ _ _ h3
        rw [ih f2 (by omega) n m _ _ (by omega) (by omega)]
end It
end Go.Proofs.YtelefkkkccilaaaGreatDoor
