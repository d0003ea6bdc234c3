/- Walks of resource.Time, its reference, and of the sanity check. -/
import Derived.Test.YtfbcbpolabcceaaWa
import Derived.Deep.RegionHeld3
namespace Go.Proofs.Ytfbcbpolabcceaa
open Go.RowKit

theorem bcell {W w1 : World} (hb : Below W.heap.size W w1) : (∀ b o, b < W.heap.size → w1.cell? ⟨b, o, none⟩ = W.cell? ⟨b, o, none⟩) ∧ (∀ b o, b < W.heap.size → w1.frozen? ⟨b, o, none⟩ = W.frozen? ⟨b, o, none⟩) :=
  ⟨fun b o h => hb.cell (p := ⟨b, o, none⟩) h, fun b o h => hb.frozen (p := ⟨b, o, none⟩) h⟩
theorem below_drewN {B : Nat} {a w : World} (h : Below B a w) (n : Nat) : Below B a (w.drewN n) := ⟨h.os, h.tape, h.output, h.size, h.block⟩

theorem lo_bd (k d : Int) (hd : 0 ≤ d) : 0 ≤ lowF k d ∧ lowF k d ≤ d := by
  have := f_bd k d hd
  unfold lowF; split <;> omega

theorem time_no (kn : Bool) (at_ loc k t : Int) (w : World) (h : kn = false ∨ t < loc) :
    Calls Try.prog 8 #[.agg #[.bool kn, .int .i64 at_, .int .i64 loc, .int .i64 k], .int .i64 t] w fun e w' => e = .returned (.tuple #[.int .i64 0, .int .i64 0, .bool false]) ∧ Below w.heap.size w w' := by
  cases kn
  · go_enter Try.func8, Try.ntmps8
    go_wp2
    go_ret3
    exact ⟨rfl, (Below.refl _ _).alloc (Nat.le_refl _) _⟩
  · have h : t < loc := by simpa using h
    go_enter Try.func8, Try.ntmps8
    go_wp2
    go_ret3
    exact ⟨rfl, (Below.refl _ _).alloc (Nat.le_refl _) _⟩
theorem timeR_no (kn : Bool) (at_ loc k t : Int) (w : World) (h : kn = false ∨ t < loc) :
    Calls Try.prog 9 #[.agg #[.bool kn, .int .i64 at_, .int .i64 loc, .int .i64 k], .int .i64 t] w fun e w' => e = .returned (.tuple #[.int .i64 0, .int .i64 0, .bool false]) ∧ Below w.heap.size w w' := by
  cases kn
  · go_enter Try.func9, Try.ntmps9
    go_wp2
    go_ret3
    exact ⟨rfl, (Below.refl _ _).alloc (Nat.le_refl _) _⟩
  · have h : t < loc := by simpa using h
    go_enter Try.func9, Try.ntmps9
    go_wp2
    go_ret3
    exact ⟨rfl, (Below.refl _ _).alloc (Nat.le_refl _) _⟩
set_option maxHeartbeats 400000 in
theorem time_yes (at_ loc k t : Int) (w : World) (h : loc ≤ t) (hk : 0 ≤ k) (hk' : k ≤ 1073741824) (hf : 0 ≤ loc) (hf' : loc ≤ 1073741824) (ht : -1 ≤ t) (ht' : t ≤ 1073741824) (ha : 0 ≤ at_) (ha' : at_ ≤ 1073741824) :
    Calls Try.prog 8 #[.agg #[.bool true, .int .i64 at_, .int .i64 loc, .int .i64 k], .int .i64 t] w fun e w' => e = .returned (.tuple #[.int .i64 (at_ + lowF k (dF loc t)), .int .i64 (at_ + (dF loc t + fF k (dF loc t))), .bool true]) ∧ Below w.heap.size w w' := by
  have hd := d_bd loc t hf hf' ht ht'
  have h1 := f_bd k _ hd.1
  have h2 := lo_bd k _ hd.1
  go_enter Try.func8, Try.ntmps8
  go_wp2_with fail
  refine (elapsed_any _ _ _ _ _ _ _ (by omega) (by omega) (by omega) (by omega) (by omega) (by omega)).mono ?_
  rintro e w' ⟨rfl, hb⟩
  obtain ⟨hc, hfz⟩ := bcell hb
  go_wp2_with fail
  go_quiet (fail)
  go_wp2
  go_ret3
  exact ⟨rfl, below_drewN ((((Below.refl _ _).alloc (Nat.le_refl _) _).trans (hb.mono (by simp)))) _⟩
set_option maxHeartbeats 400000 in
theorem timeR_yes (at_ loc k t : Int) (w : World) (h : loc ≤ t) (hk : 0 ≤ k) (hk' : k ≤ 1073741824) (hf : 0 ≤ loc) (hf' : loc ≤ 1073741824) (ht : -1 ≤ t) (ht' : t ≤ 1073741824) (ha : 0 ≤ at_) (ha' : at_ ≤ 1073741824) :
    Calls Try.prog 9 #[.agg #[.bool true, .int .i64 at_, .int .i64 loc, .int .i64 k], .int .i64 t] w fun e w' => e = .returned (.tuple #[.int .i64 (at_ + lowF k (dF loc t)), .int .i64 (at_ + (dF loc t + fF k (dF loc t))), .bool true]) ∧ Below w.heap.size w w' := by
  have hd := d_bd loc t hf hf' ht ht'
  have h1 := f_bd k _ hd.1
  have h2 := lo_bd k _ hd.1
  go_enter Try.func9, Try.ntmps9
  go_wp2_with fail
  refine (elapsedR_any _ _ _ _ _ _ _ (by omega) (by omega) (by omega) (by omega) (by omega) (by omega)).mono ?_
  rintro e w' ⟨rfl, hb⟩
  obtain ⟨hc, hfz⟩ := bcell hb
  go_wp2_with fail
  go_quiet (fail)
  go_wp2
  go_ret3
  exact ⟨rfl, below_drewN ((((Below.refl _ _).alloc (Nat.le_refl _) _).trans (hb.mono (by simp)))) _⟩

theorem el1 : lowF 100 (dF 0 990) = 979 := by decide +kernel
theorem el2 : dF 0 990 + fF 100 (dF 0 990) = 1001 := by decide +kernel
theorem awake_any (w : World) :
    Calls Try.prog 10 #[] w fun e w' => e = .returned (.bool true) ∧ Below w.heap.size w w' := by
  go_enter Try.func10, Try.ntmps10
  go_wp2_with fail
  refine (elapsed_any _ _ _ _ _ _ _ (by omega) (by omega) (by omega) (by omega) (by omega) (by omega)).mono ?_
  rintro e w' ⟨rfl, hb⟩
  rw [el1, el2]
  go_wp2
  go_ret
  exact ⟨rfl, hb⟩
end Go.Proofs.Ytfbcbpolabcceaa
