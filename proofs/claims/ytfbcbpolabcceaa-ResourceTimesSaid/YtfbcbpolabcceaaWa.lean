/- Walks of resource.Elapsed and its reference: what they return. -/
import Derived.Test.YtfbcbpolabcceaaRows
import Derived.WalkKit
import Derived.WalkSpells
import Derived.WalkLawsBesides
import Derived.Deep.QuietTactic
import Derived.BigQuiet
import Derived.Lib.Hide
namespace Go.Proofs.Ytfbcbpolabcceaa
open Go.RowKit

theorem ret_int {k : IntKind} {a b : Int} (h : a = b) : Ending.returned (.int k a) = .returned (.int k b) := by rw [h]
theorem ret_int2 {k j : IntKind} {a b c d : Int} (h : a = b) (h2 : c = d) : Ending.returned (.tuple #[.int k a, .int j c]) = .returned (.tuple #[.int k b, .int j d]) := by rw [h, h2]

def upF (a b : Int) : Int := if a % b = 0 then a / b else a / b + 1
theorem up_lemma1 (a b : Int) (h : (a % b == 0) = true) : a / b = upF a b := by
  have h' : a % b = 0 := by simpa using h
  unfold upF; rw [if_pos h']
theorem up_lemma2 (a b : Int) (h : ¬ a % b = 0) : a / b + 1 = upF a b := by
  unfold upF; rw [if_neg h]
theorem up_bd (a b : Int) (ha : 0 ≤ a) (hb : 1 ≤ b) : 0 ≤ upF a b ∧ upF a b ≤ a := by
  have h1 := Int.ediv_nonneg ha (show 0 ≤ b by omega)
  have h2 := Int.ediv_le_self b ha
  unfold upF
  split
  · omega
  · rename_i h
    have e := Int.mul_ediv_add_emod a b
    have h4 := Int.emod_nonneg a (show b ≠ 0 by omega)
    have h5 : 1 * (a / b) ≤ b * (a / b) := Int.mul_le_mul_of_nonneg_right hb h1
    omega
set_option maxHeartbeats 400000 in
theorem up_any (a b : Int) (w : World) (ha : 0 ≤ a) (ha' : a ≤ 9223372036854775806) (hb : 1 ≤ b) (hb' : b ≤ 9223372036854775807) :
    Calls Try.prog 12 #[.int .i64 a, .int .i64 b] w fun e w' => e = .returned (.int .i64 (upF a b)) ∧ w = w' := by
  have h1 := Int.ediv_nonneg ha (show 0 ≤ b by omega)
  have h2 := Int.ediv_le_self b ha
  by_cases h : a % b = 0
  · have h' : (a % b == 0) = true := by simpa using h
    clear h
    go_enter Try.func12, Try.ntmps12
    go_wp2
    go_ret
    exact ⟨ret_int (up_lemma1 a b h'), rfl⟩
  · have h' : (a % b == 0) = false := by simpa using h
    go_enter Try.func12, Try.ntmps12
    go_wp2
    go_ret
    exact ⟨ret_int (up_lemma2 a b h), rfl⟩

def dF (f t : Int) : Int := if f < t then t - f else 0
def fF (k d : Int) : Int := if 2 ≤ k then upF (d + 1) (k - 1) else 0
def lowF (k d : Int) : Int := if fF k d < d then d - fF k d else 0

theorem max0 (x : Int) : max 0 x = if x < 0 then 0 else x := by
  by_cases h : x < 0 <;> simp [h] <;> omega

theorem d_bd (f t : Int) (hf : 0 ≤ f) (hf' : f ≤ 1073741824) (ht : -1 ≤ t) (ht' : t ≤ 1073741824) : 0 ≤ dF f t ∧ dF f t ≤ 1073741824 := by unfold dF; split <;> omega
theorem f_bd (k d : Int) (hd : 0 ≤ d) : 0 ≤ fF k d ∧ fF k d ≤ d + 1 := by
  unfold fF; split
  · have := up_bd (d+1) (k-1) (by omega) (by omega); omega
  · omega
set_option maxHeartbeats 400000 in
theorem elapsed_any (kn : Bool) (at_ loc k f t : Int) (w : World) (hk : 0 ≤ k) (hk' : k ≤ 1073741824) (hf : 0 ≤ f) (hf' : f ≤ 1073741824) (ht : -1 ≤ t) (ht' : t ≤ 1073741824) :
    Calls Try.prog 6 #[.agg #[.bool kn, .int .i64 at_, .int .i64 loc, .int .i64 k], .int .i64 f, .int .i64 t] w fun e w' => e = .returned (.tuple #[.int .i64 (lowF k (dF f t)), .int .i64 (dF f t + fF k (dF f t))]) ∧ Below w.heap.size w w' := by
  have hu1 := up_bd 1 (k - 1) (by omega)
  have hu2 := up_bd (t - f + 1) (k - 1)
  by_cases h1 : f < t <;> by_cases h2 : 2 ≤ k
  · have hd : dF f t = t - f := if_pos h1
    have hu2 := hu2 (by omega) (by omega)
    rw [hd]; clear hd hu1
    have hF : fF k (t - f) = upF (t - f + 1) (k - 1) := if_pos h2
    unfold lowF; rw [hF]; clear hF
    go_enter Try.func6, Try.ntmps6
    go_wp2_with (go_at_call 12; refine (up_any _ _ _ (by omega) (by omega) (by omega) (by omega)).mono ?_; rintro e w' ⟨rfl, rfl⟩)
    all_goals (go_ret2; exact ⟨rfl, (Below.refl _ _).alloc (Nat.le_refl _) _⟩)
  · have hd : dF f t = t - f := if_pos h1
    rw [hd]; clear hd hu1 hu2
    have hF : fF k (t - f) = 0 := if_neg h2
    unfold lowF; rw [hF, if_pos (by omega), Int.sub_zero, Int.add_zero]; clear hF
    go_enter Try.func6, Try.ntmps6
    go_wp2_with fail
    all_goals (go_ret2; exact ⟨rfl, (Below.refl _ _).alloc (Nat.le_refl _) _⟩)
  · have hd : dF f t = 0 := if_neg h1
    have hu1 := hu1 (by omega)
    rw [hd]; clear hd hu2
    have hF : fF k 0 = upF 1 (k - 1) := if_pos h2
    unfold lowF; rw [hF, Int.zero_add, Int.zero_sub, if_neg (by omega)]; clear hF
    go_enter Try.func6, Try.ntmps6
    go_wp2_with (go_at_call 12; refine (up_any _ _ _ (by omega) (by omega) (by omega) (by omega)).mono ?_; rintro e w' ⟨rfl, rfl⟩)
    all_goals (go_ret2; exact ⟨rfl, (Below.refl _ _).alloc (Nat.le_refl _) _⟩)
  · have hd : dF f t = 0 := if_neg h1
    rw [hd]; clear hd hu1 hu2
    have hF : fF k 0 = 0 := if_neg h2
    unfold lowF; rw [hF, if_neg (by omega), Int.add_zero]; clear hF
    go_enter Try.func6, Try.ntmps6
    go_wp2_with fail
    all_goals (go_ret2; exact ⟨rfl, (Below.refl _ _).alloc (Nat.le_refl _) _⟩)

theorem quo_mul (a b : Int) (hb : 1 ≤ b) : (a / b * b < a ↔ ¬ a % b = 0) := by
  have e := Int.mul_ediv_add_emod a b
  have h2 := Int.emod_nonneg a (show b ≠ 0 by omega)
  rw [Int.mul_comm]
  omega
theorem quo_bd (a b : Int) (ha : 0 ≤ a) (hb : 1 ≤ b) : 0 ≤ a / b ∧ a / b ≤ a ∧ 0 ≤ a / b * b ∧ a / b * b ≤ a := by
  have h1 := Int.ediv_nonneg ha (show 0 ≤ b by omega)
  have h2 := Int.ediv_le_self b ha
  have e := Int.mul_ediv_add_emod a b
  have h3 := Int.emod_nonneg a (show b ≠ 0 by omega)
  have h4 := Int.mul_nonneg h1 (show 0 ≤ b by omega)
  rw [Int.mul_comm] at e
  omega
set_option maxHeartbeats 400000 in
theorem elapsedR_any (kn : Bool) (at_ loc k f t : Int) (w : World) (hk : 0 ≤ k) (hk' : k ≤ 1073741824) (hf : 0 ≤ f) (hf' : f ≤ 1073741824) (ht : -1 ≤ t) (ht' : t ≤ 1073741824) :
    Calls Try.prog 7 #[.agg #[.bool kn, .int .i64 at_, .int .i64 loc, .int .i64 k], .int .i64 f, .int .i64 t] w fun e w' => e = .returned (.tuple #[.int .i64 (lowF k (dF f t)), .int .i64 (dF f t + fF k (dF f t))]) ∧ Below w.heap.size w w' := by
  have hu1 := quo_bd 1 (k - 1) (by omega)
  have hu2 := quo_bd (t - f + 1) (k - 1)
  by_cases h1 : f ≤ t <;> by_cases h2 : 2 ≤ k
  · have hd : dF f t = t - f := by unfold dF; split <;> omega
    have hu2 := hu2 (by omega) (by omega)
    rw [hd]; clear hd hu1
    have hF : fF k (t - f) = upF (t - f + 1) (k - 1) := if_pos h2
    unfold lowF; rw [hF]; clear hF
    have hq := quo_mul (t - f + 1) (k - 1) (by omega)
    unfold upF
    by_cases h3 : (t - f + 1) % (k - 1) = 0
    · rw [if_pos h3]
      have h4 : ¬ ((t - f + 1) / (k - 1) * (k - 1) < t - f + 1) := by rw [hq]; simp [h3]
      have h4 : t - f + 1 ≤ (t - f + 1) / (k - 1) * (k - 1) := by omega
      clear hq h3
      go_enter Try.func7, Try.ntmps7
      go_wp2_with fail
      all_goals (go_ret2; first | exact ⟨rfl, (Below.refl _ _).alloc (Nat.le_refl _) _⟩ | exact ⟨ret_int2 (by omega) (by omega), (Below.refl _ _).alloc (Nat.le_refl _) _⟩)
    · rw [if_neg h3]
      have h4 : ((t - f + 1) / (k - 1) * (k - 1) < t - f + 1) := by rw [hq]; exact h3
      clear hq h3
      go_enter Try.func7, Try.ntmps7
      go_wp2_with fail
      all_goals (go_ret2; first | exact ⟨rfl, (Below.refl _ _).alloc (Nat.le_refl _) _⟩ | exact ⟨ret_int2 (by omega) (by omega), (Below.refl _ _).alloc (Nat.le_refl _) _⟩)
  · have hd : dF f t = t - f := by unfold dF; split <;> omega
    rw [hd]; clear hd hu1 hu2
    have hF : fF k (t - f) = 0 := if_neg h2
    unfold lowF; rw [hF]; clear hF
    go_enter Try.func7, Try.ntmps7
    go_wp2_with fail
    all_goals (go_ret2; first | exact ⟨rfl, (Below.refl _ _).alloc (Nat.le_refl _) _⟩ | exact ⟨ret_int2 (by omega) (by omega), (Below.refl _ _).alloc (Nat.le_refl _) _⟩)
  · have hd : dF f t = 0 := by unfold dF; split <;> omega
    have hu1 := hu1 (by omega)
    rw [hd]; clear hd hu2
    have hF : fF k 0 = upF 1 (k - 1) := if_pos h2
    unfold lowF; rw [hF]; clear hF
    have hq := quo_mul 1 (k - 1) (by omega)
    unfold upF
    by_cases h3 : 1 % (k - 1) = 0
    · rw [if_pos h3]
      have h4 : ¬ (1 / (k - 1) * (k - 1) < 1) := by rw [hq]; simp [h3]
      have h4 : 1 ≤ 1 / (k - 1) * (k - 1) := by omega
      have h5 : 1 / (k - 1) ≠ 0 := by intro h; rw [h] at h4; omega
      have h5 : 1 / (k - 1) = 1 := by omega
      rw [h5]
      clear hq h3
      have h6 : t - f < 0 := by omega
      · go_enter Try.func7, Try.ntmps7
        go_wp2_with fail
        all_goals (go_ret2; first | exact ⟨rfl, (Below.refl _ _).alloc (Nat.le_refl _) _⟩ | exact ⟨ret_int2 (by omega) (by omega), (Below.refl _ _).alloc (Nat.le_refl _) _⟩)
    · rw [if_neg h3]
      have h4 : (1 / (k - 1) * (k - 1) < 1) := by rw [hq]; exact h3
      clear hq h3
      have h6 : t - f < 0 := by omega
      · go_enter Try.func7, Try.ntmps7
        go_wp2_with fail
        all_goals (go_ret2; first | exact ⟨rfl, (Below.refl _ _).alloc (Nat.le_refl _) _⟩ | exact ⟨ret_int2 (by omega) (by omega), (Below.refl _ _).alloc (Nat.le_refl _) _⟩)
  · have hd : dF f t = 0 := by unfold dF; split <;> omega
    rw [hd]; clear hd hu1 hu2
    have hF : fF k 0 = 0 := if_neg h2
    unfold lowF; rw [hF, if_neg (by omega), Int.add_zero]; clear hF
    have h6 : t - f < 0 := by omega
    · go_enter Try.func7, Try.ntmps7
      go_wp2_with fail
      all_goals (go_ret2; first | exact ⟨rfl, (Below.refl _ _).alloc (Nat.le_refl _) _⟩ | exact ⟨ret_int2 (by omega) (by omega), (Below.refl _ _).alloc (Nat.le_refl _) _⟩)
end Go.Proofs.Ytfbcbpolabcceaa
