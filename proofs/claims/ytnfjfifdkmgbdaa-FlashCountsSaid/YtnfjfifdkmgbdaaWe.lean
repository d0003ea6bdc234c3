/- Walks of closed, value and newest. -/
import Derived.Test.YtnfjfifdkmgbdaaWd
import Derived.Test.YtnfjfifdkmgbdaaPc
namespace Go.Proofs.Ytnfjfifdkmgbdaa
open Go.RowKit

theorem beq_cast (a b : Nat) : (((a : Int) == (b : Int)) : Bool) = (a == b) := by
  rw [Bool.eq_iff_iff]; simp; omega
set_option maxHeartbeats 800000 in
theorem closed_any (a : Option Addr) (len cap : Nat) (p : List UInt8) (sz : Int) (w : World) (h : Bs w a len p) (hs : 0 ≤ sz) (hs2 : sz ≤ 8000) :
    Calls Try.prog 53 #[.slice a len cap, .int .i64 sz] w fun e w' => e = .returned (.tuple #[.int .i64 (Fl.closedP p (sz / 8).toNat).1, .bool (Fl.closedP p (sz / 8).toNat).2]) ∧ Below w.heap.size w w' := by
  obtain ⟨N, hN⟩ : ∃ N : Nat, (N : Int) = sz / 8 := ⟨(sz / 8).toNat, by omega⟩
  rw [show (sz / 8).toNat = N by omega]
  have HN := Lib.hid hN
  clear hN
  have H := Lib.hid h
  clear h
  have C0 : Hid (Fl.closedP p N = if !Fl.goodAt p 0 || Fl.keyAt p 0 != 240 then (0, false) else Fl.closedFrom p (Fl.valAt p 0) (N - 1) 1) := rfl
  go_enter Try.func53, Try.ntmps53
  go_wp2_with fail
  refine (read_any _ _ _ _ 0 _ H.out (by omega)).mono ?_
  rintro e w1 ⟨rfl, hw1⟩
  have HW1 := Lib.hid hw1
  clear hw1
  cases hg : Fl.goodAt p 0
  · go_wp2_with fail
    go_ret2
    exact ⟨by rw [C0.out, hg]; rfl, HW1.out⟩
  cases hk : ((Fl.keyAt p 0 : Nat) : Int) != 240
  rotate_left
  · go_wp2_with fail
    go_ret2
    have hk' : (Fl.keyAt p 0 != 240) = true := by simp at hk ⊢; omega
    exact ⟨by rw [C0.out, hk']; simp, HW1.out⟩
  have hk' : (Fl.keyAt p 0 != 240) = false := by simp at hk ⊢; omega
  have C1 : Hid (Fl.closedP p N = Fl.closedFrom p (Fl.valAt p 0) (N - 1) 1) := by show _ = _; rw [C0.out, hg, hk']; rfl
  clear hk' C0
  generalize Fl.valAt p 0 = gen at *
  go_wp2_with fail
  clear hk hg
  go_loopw [9] (fun i wr => ∃ j : Nat, i = .int .i64 j ∧ 1 ≤ j ∧ (j ≤ N ∨ j = 1) ∧ Hid (Fl.closedP p N = Fl.closedFrom p gen (N - j) j) ∧ Below w.heap.size w wr) (fun i _ => N - (intOf i).toNat)
  case atStart => exact ⟨1, rfl, by omega, by omega, C1.out, HW1.out⟩
  case round =>
    obtain ⟨j, rfl, hj1, hj2, hj3, hb⟩ := hrel
    have HB := Lib.hid hb
    have hN := HN.out
    by_cases hlt : j < N
    · have hlt2 : (j : Int) < sz / 8 := by omega
      have HJ : Hid (Fl.closedP p N = if !Fl.goodAt p j || Fl.keyAt p j == 240 then (0, false) else if Fl.keyAt p j == 241 then ((gen : Int), Fl.valAt p j == gen) else Fl.closedFrom p gen (N - (j + 1)) (j + 1)) := by
        show _ = _
        rw [hj3.out, show N - j = (N - (j + 1)) + 1 by omega]; rfl
      clear hb hN hj3
      go_wp2_with fail
      refine (read_any _ _ _ _ j _ (H.out.below HB.out) (by omega)).mono ?_
      rintro e w2 ⟨rfl, hw2⟩
      have HW2 := Lib.hid (pure_trans HB.out hw2)
      clear hw2
      cases hg : Fl.goodAt p j
      · go_wp2_with fail
        go_ret2
        exact ⟨by rw [HJ.out, hg]; rfl, HW2.out⟩
      cases hk : ((Fl.keyAt p j : Nat) : Int) == 240
      rotate_left
      · go_wp2_with fail
        go_ret2
        have hk' : (Fl.keyAt p j == 240) = true := by simp at hk ⊢; omega
        exact ⟨by rw [HJ.out, hk']; simp, HW2.out⟩
      have hk' : (Fl.keyAt p j == 240) = false := by simp at hk ⊢; omega
      cases hc : ((Fl.keyAt p j : Nat) : Int) == 241
      · have hc' : (Fl.keyAt p j == 241) = false := by simp at hc ⊢; omega
        have HJ2 : Hid (Fl.closedP p N = Fl.closedFrom p gen (N - (j + 1)) (j + 1)) := by show _ = _; rw [HJ.out, hg, hk', hc']; rfl
        clear hk' hc'
        go_wp2_with fail
        go_roundw
        case rel => exact ⟨j + 1, by go_num, by omega, by omega, HJ2, HW2.out⟩
        case measure => simp [intOf]; omega
      · have hc' : (Fl.keyAt p j == 241) = true := by simp at hc ⊢; omega
        have HJ2 : Hid (Fl.closedP p N = ((gen : Int), Fl.valAt p j == gen)) := by show _ = _; rw [HJ.out, hg, hk', hc']; rfl
        clear hk' hc'
        go_wp2_with fail
        go_ret2
        exact ⟨by rw [HJ2.out]; simp [beq_cast], HW2.out⟩
    · have hlt2 : ¬ (j : Int) < sz / 8 := by omega
      clear hb hN
      go_wp2_with fail
      go_ret2
      exact ⟨by rw [hj3.out, show N - j = 0 by omega]; rfl, HB.out⟩

set_option maxHeartbeats 800000 in
theorem value_any (a : Option Addr) (len cap : Nat) (p : List UInt8) (sz key : Int) (w : World) (h : Bs w a len p) (hs : 0 ≤ sz) (hs2 : sz ≤ 8000) :
    Calls Try.prog 46 #[.slice a len cap, .int .i64 sz, .int .i64 key] w fun e w' => e = .returned (.tuple #[.int .i64 (Fl.valueBelow p key (sz / 8).toNat).1, .bool (Fl.valueBelow p key (sz / 8).toNat).2]) ∧ Below w.heap.size w w' := by
  obtain ⟨N, hN⟩ : ∃ N : Nat, (N : Int) = sz / 8 := ⟨(sz / 8).toNat, by omega⟩
  rw [show (sz / 8).toNat = N by omega]
  have HN := Lib.hid hN
  clear hN
  have H := Lib.hid h
  clear h
  go_enter Try.func46, Try.ntmps46
  go_wp2_with fail
  go_loopw [8] (fun i wr => ∃ j : Nat, i = .int .i64 ((j : Int) - 1) ∧ j ≤ N ∧ Hid (Fl.valueBelow p key N = Fl.valueBelow p key j) ∧ Below w.heap.size w wr) (fun i _ => (intOf i + 1).toNat)
  case atStart => exact ⟨N, by rw [HN.out], by omega, rfl, Below.refl _ _⟩
  case round =>
    obtain ⟨j, rfl, hj1, hj3, hb⟩ := hrel
    have HB := Lib.hid hb
    have hN := HN.out
    by_cases hlt : 1 ≤ j
    · obtain ⟨i, rfl⟩ : ∃ i, j = i + 1 := ⟨j - 1, by omega⟩
      have ei : ((i + 1 : Nat) : Int) - 1 = (i : Int) := by omega
      rw [ei]
      clear hb hN
      have HJ : Hid (Fl.valueBelow p key N = if Fl.goodAt p i && ((Fl.keyAt p i : Nat) : Int) == key then (((Fl.valAt p i : Nat) : Int), true) else Fl.valueBelow p key i) := hj3
      have hi : i ≤ 1000 := by have := HN.out; omega
      clear ei hj3
      go_wp2_with fail
      refine (read_any _ _ _ _ i _ (H.out.below HB.out) (by omega)).mono ?_
      rintro e w2 ⟨rfl, hw2⟩
      have HW2 := Lib.hid (pure_trans HB.out hw2)
      clear hw2
      cases hg : Fl.goodAt p i
      · have HJ2 : Hid (Fl.valueBelow p key N = Fl.valueBelow p key i) := by show _ = _; rw [HJ.out, hg]; rfl
        go_wp2_with fail
        go_roundw
        case rel => exact ⟨i, rfl, by omega, HJ2, HW2.out⟩
        case measure => simp [intOf]
      cases hk : ((Fl.keyAt p i : Nat) : Int) == key
      · have HJ2 : Hid (Fl.valueBelow p key N = Fl.valueBelow p key i) := by show _ = _; rw [HJ.out, hg, hk]; rfl
        go_wp2_with fail
        go_roundw
        case rel => exact ⟨i, rfl, by omega, HJ2, HW2.out⟩
        case measure => simp [intOf]
      · have HJ2 : Hid (Fl.valueBelow p key N = (((Fl.valAt p i : Nat) : Int), true)) := by show _ = _; rw [HJ.out, hg, hk]; rfl
        go_wp2_with fail
        go_ret2
        exact ⟨by rw [HJ2.out]; rfl, HW2.out⟩
    · obtain rfl : j = 0 := by omega
      clear hb hN
      go_wp2_with fail
      go_ret2
      exact ⟨by rw [hj3.out]; rfl, HB.out⟩
end Go.Proofs.Ytnfjfifdkmgbdaa
