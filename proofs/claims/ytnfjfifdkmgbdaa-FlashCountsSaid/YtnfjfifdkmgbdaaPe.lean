/- Plain laws of slots and pages: a record written byte by byte. No program in sight. -/
import Derived.Test.YtnfjfifdkmgbdaaPd
namespace Go.Proofs.Ytnfjfifdkmgbdaa
namespace Fl

/-! Slots decide. -/
def keyOf (s : List UInt8) : Nat := (s.getD 0 0).toNat
def valOf (s : List UInt8) : Nat := (((((s.getD 1 0).toNat * 256 + (s.getD 2 0).toNat) * 256 + (s.getD 3 0).toNat) * 256 + (s.getD 4 0).toNat) * 256) + (s.getD 5 0).toNat
theorem keyAt_slot (p : List UInt8) (n : Nat) : keyAt p n = keyOf (slotB p n) := rfl
theorem valAt_slot (p : List UInt8) (n : Nat) : valAt p n = valOf (slotB p n) := rfl
def goodOf (s : List UInt8) : Bool := record (keyOf s) (valOf s) == s
theorem goodAt_slot (p : List UInt8) (n : Nat) : goodAt p n = goodOf (slotB p n) := rfl
theorem slot_ext {p q : List UInt8} {n m : Nat} (h : ∀ i, i < 8 → at255 p (n * 8 + i) = at255 q (m * 8 + i)) : slotB p n = slotB q m := by
  have h0 := h 0 (by omega); have h1 := h 1 (by omega); have h2 := h 2 (by omega); have h3 := h 3 (by omega)
  have h4 := h 4 (by omega); have h5 := h 5 (by omega); have h6 := h 6 (by omega); have h7 := h 7 (by omega)
  simp only [Nat.add_zero] at h0
  unfold slotB
  rw [h0, h1, h2, h3, h4, h5, h6, h7]
theorem full_length (key v : Int) : (full key v).length = 8 := rfl
theorem u8_toNat (n : Int) : ((u8 n).toNat : Int) = n % 256 := by
  unfold u8
  have h1 := Int.emod_nonneg n (show (256 : Int) ≠ 0 by omega)
  have h2 := Int.emod_lt_of_pos n (show (0 : Int) < 256 by omega)
  have : (UInt8.ofNat (n % 256).toNat).toNat = (n % 256).toNat := by simp; omega
  rw [this]; omega
theorem keyOk_bd {key : Int} (h : keyOk key = true) : 0 ≤ key ∧ key < 256 := by simp [keyOk] at h; omega
theorem keyOf_full {key v : Int} (h : recOk key v = true) : ((keyOf (full key v) : Nat) : Int) = key := by
  have : keyOf (full key v) = (u8 key).toNat := rfl
  rw [this, u8_toNat]
  simp [recOk] at h
  have := keyOk_bd h.1.1
  omega
theorem valOf_full {key v : Int} (h : recOk key v = true) : ((valOf (full key v) : Nat) : Int) = v := by
  have e : valOf (full key v) = (((((u8 (v / 4294967296)).toNat * 256 + (u8 (v / 16777216)).toNat) * 256 + (u8 (v / 65536)).toNat) * 256 + (u8 (v / 256)).toNat) * 256) + (u8 v).toNat := rfl
  have a1 := u8_toNat (v / 4294967296)
  have a2 := u8_toNat (v / 16777216)
  have a3 := u8_toNat (v / 65536)
  have a4 := u8_toNat (v / 256)
  have a5 := u8_toNat v
  simp [recOk] at h
  rw [e]
  omega
theorem good_full {key v : Int} (h : recOk key v = true) : goodOf (full key v) = true := by
  unfold goodOf
  rw [keyOf_full h, valOf_full h, record, if_pos h]
  simp
theorem record_ok {key v : Int} (h : recOk key v = true) : record key v = full key v := by rw [record, if_pos h]
/-- What a good slot holds. -/
theorem good_is {s : List UInt8} (h : goodOf s = true) : recOk (keyOf s) (valOf s) = true ∧ s = full (keyOf s) (valOf s) ∨ s = [] := by
  unfold goodOf record at h
  split at h
  · rename_i hr; left; exact ⟨hr, by simpa using (beq_iff_eq.mp h).symm⟩
  · right; exact (beq_iff_eq.mp h).symm
theorem good_slot {p : List UInt8} {n : Nat} (h : goodAt p n = true) : recOk (keyAt p n) (valAt p n) = true ∧ slotB p n = full (keyAt p n) (valAt p n) := by
  rcases good_is (s := slotB p n) h with h | h
  · exact h
  · simp [slotB] at h
theorem full_six (key v : Int) : ((full key v).getD 6 0).toNat < 128 := by
  have e : (full key v).getD 6 0 = u8 (check (body key v) / 256 : Nat) := rfl
  have h := check_lt (body key v)
  have := u8_toNat ((check (body key v) / 256 : Nat) : Int)
  rw [e]; omega
theorem good_six {p : List UInt8} {n : Nat} (h : goodAt p n = true) : n * 8 + 6 < p.length := by
  have h1 := (good_slot h).2
  have h2 := full_six (keyAt p n) (valAt p n)
  rw [← h1, slotB_get _ _ _ (by omega)] at h2
  rcases Nat.lt_or_ge (n * 8 + 6) p.length with h3 | h3
  · exact h3
  · unfold at255 at h2
    rw [List.getD_eq_getElem?_getD, List.getElem?_eq_none h3] at h2
    simp at h2
theorem not_good_past {p : List UInt8} {n : Nat} (h : p.length ≤ n * 8 + 6) : goodAt p n = false := by
  cases hg : goodAt p n
  · rfl
  · have := good_six hg; omega

theorem at255_append_left (p q : List UInt8) (i : Nat) (h : i < p.length) : at255 (p ++ q) i = at255 p i := by
  unfold at255; simp [List.getElem?_append_left h]
theorem at255_append_right (p q : List UInt8) (i : Nat) (h : p.length ≤ i) : at255 (p ++ q) i = at255 q (i - p.length) := by
  unfold at255; simp [List.getElem?_append_right h]
theorem at255_take_lt (p : List UInt8) (k i : Nat) (h : i < k) : at255 (p.take k) i = at255 p i := by
  unfold at255; simp [h]
theorem at255_past (p : List UInt8) (i : Nat) (h : p.length ≤ i) : at255 p i = 255 := by
  unfold at255; simp [List.getElem?_eq_none h]

/-- A part of a record is no record, unless it is as good as the whole. -/
theorem part_good {q : List UInt8} {n k : Nat} {key v : Int} (hr : recOk key v = true) (hq : ∀ i, i < 8 → at255 q (n * 8 + i) = at255 ((full key v).take k) i) (hg : goodAt q n = true) : slotB q n = full key v := by
  have h1 := (good_slot hg).2
  have hfl : (full key v).length = 8 := rfl
  have hk : 7 ≤ k := by
    rcases Nat.lt_or_ge k 7 with hk | hk
    · exfalso
      have h2 := full_six (keyAt q n) (valAt q n)
      rw [← h1, slotB_get _ _ _ (by omega), hq 6 (by omega), at255_past _ _ (by rw [List.length_take]; omega)] at h2
      simp at h2
    · exact hk
  have hlow : ∀ i, i < 7 → at255 q (n * 8 + i) = (full key v).getD i 0 := by
    intro i hi
    rw [hq i (by omega), at255_take_lt _ _ _ (by omega)]
    unfold at255
    rw [List.getD_eq_getElem?_getD, List.getD_eq_getElem?_getD, List.getElem?_eq_getElem (by omega : i < (full key v).length)]
    rfl
  have hs0 := hlow 0 (by omega)
  have hs1 := hlow 1 (by omega)
  have hs2 := hlow 2 (by omega)
  have hs3 := hlow 3 (by omega)
  have hs4 := hlow 4 (by omega)
  have hs5 := hlow 5 (by omega)
  simp only [Nat.add_zero] at hs0
  have hk0 : keyAt q n = keyOf (full key v) := by unfold keyAt keyOf; rw [hs0]
  have hv0 : valAt q n = valOf (full key v) := by unfold valAt valOf; rw [hs1, hs2, hs3, hs4, hs5]
  rw [h1, hk0, hv0, keyOf_full hr, valOf_full hr]

theorem slot_whole {q : List UInt8} {n : Nat} {r : List UInt8} (hr : r.length = 8) (hq : ∀ i, i < 8 → at255 q (n * 8 + i) = at255 r i) : slotB q n = r := by
  have e : slotB q n = slotB r 0 := slot_ext (fun i hi => by rw [hq i hi]; simp)
  rw [e]
  match r, hr with
  | [a, b, c, d, e, f, g, h], _ => rfl

/-- Records one behind the other. -/
def recsB : List (Int × Int) → List UInt8
  | [] => []
  | x :: l => full x.1 x.2 ++ recsB l
theorem recsB_length (l : List (Int × Int)) : (recsB l).length = l.length * 8 := by
  induction l with
  | nil => rfl
  | cons x l ih => simp only [recsB, List.length_append, full_length, ih, List.length_cons]; omega
theorem recsB_append (l r : List (Int × Int)) : recsB (l ++ r) = recsB l ++ recsB r := by
  induction l with
  | nil => rfl
  | cons x l ih => simp [recsB, ih]
theorem recsB_at (l : List (Int × Int)) : ∀ (n i : Nat) (h : n < l.length), i < 8 → at255 (recsB l) (n * 8 + i) = at255 (full l[n].1 l[n].2) i := by
  induction l with
  | nil => intro n i h; simp at h
  | cons x l ih =>
    intro n i h hi
    cases n with
    | zero =>
      rw [recsB, at255_append_left _ _ _ (by rw [full_length]; omega)]
      simp
    | succ n =>
      rw [recsB, at255_append_right _ _ _ (by rw [full_length]; omega), full_length, show (n + 1) * 8 + i - 8 = n * 8 + i by omega]
      exact ih n i (by simpa using h) hi
theorem take_at (q : List UInt8) (k n i : Nat) : at255 (q.take k) (n * 8 + i) = if n * 8 + i < k then at255 q (n * 8 + i) else 255 := by
  split
  · rename_i h; exact at255_take_lt _ _ _ h
  · rename_i h; exact at255_past _ _ (by rw [List.length_take]; omega)
theorem part_at (l : List (Int × Int)) (k n : Nat) (h : n < l.length) (i : Nat) (hi : i < 8) : at255 ((recsB l).take k) (n * 8 + i) = at255 ((full l[n].1 l[n].2).take (k - n * 8)) i := by
  rw [take_at, recsB_at l n i h hi]
  have := take_at (full l[n].1 l[n].2) (k - n * 8) 0 i
  simp only [Nat.zero_mul, Nat.zero_add] at this
  rw [this]
  by_cases hk : n * 8 + i < k
  · rw [if_pos hk, if_pos (by omega)]
  · rw [if_neg hk, if_neg (by omega)]
theorem part_slot (l : List (Int × Int)) (hl : ∀ x ∈ l, recOk x.1 x.2 = true) (k n : Nat) (h : n < l.length) (hg : goodAt ((recsB l).take k) n = true) : slotB ((recsB l).take k) n = full l[n].1 l[n].2 :=
  part_good (hl _ (List.getElem_mem h)) (fun i hi => part_at l k n h i hi) hg
theorem done_slot (l : List (Int × Int)) (k n : Nat) (h : n < l.length) (hk : (n + 1) * 8 ≤ k) : slotB ((recsB l).take k) n = full l[n].1 l[n].2 := by
  refine slot_whole (full_length _ _) (fun i hi => ?_)
  rw [part_at l k n h i hi, List.take_of_length_le (by rw [full_length]; omega)]
theorem past_slot (l : List (Int × Int)) (k n : Nat) (h : l.length ≤ n) : goodAt ((recsB l).take k) n = false :=
  not_good_past (by rw [List.length_take, recsB_length]; omega)
theorem undone_slot (l : List (Int × Int)) (k n : Nat) (h : k ≤ n * 8 + 6) : goodAt ((recsB l).take k) n = false :=
  not_good_past (by rw [List.length_take]; omega)
end Fl
end Go.Proofs.Ytnfjfifdkmgbdaa
