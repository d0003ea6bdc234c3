/- The walks of Mod, Small, Compare and Equal (of two equal rows), and Same (of two equal memories). -/
import Derived.Test.YtnfjfifdkmgbdaaWx
import Derived.Deep.RegionHeld3
import Derived.Deep.DeepMust
import Derived.BigQuiet
namespace Go.Proofs.Ytnfjfifdkmgbdaa
open Go.RowKit Go.Shelf

theorem tmod_lt (a n : Int) (hn : 1 ≤ n) (h : a.tmod n < 0) : a.tmod n + n = a % n := by
  have h0 : a < 0 := by
    rcases Int.lt_or_le a 0 with h' | h'
    · exact h'
    · have := Int.tmod_nonneg n h'; omega
  have := Int.tmod_eq_emod (a := a) (b := n)
  split at this <;> omega
theorem tmod_ge (a n : Int) (hn : 1 ≤ n) (h : 0 ≤ a.tmod n) : a.tmod n = a % n := by
  have := Int.tmod_eq_emod (a := a) (b := n)
  have h3 := Int.emod_lt_of_pos a (show 0 < n by omega)
  split at this <;> omega
set_option maxHeartbeats 400000 in
theorem mod_any (a n : Int) (w : World) (hn : 1 ≤ n) (hn' : n ≤ 9223372036854775807) :
    Calls Try.prog 12 #[.int .i64 a, .int .i64 n] w fun e w' => e = .returned (.int .i64 (a % n)) ∧ w = w' := by
  have h3 := Int.emod_lt_of_pos a (show 0 < n by omega)
  have h4 := Int.emod_nonneg a (show n ≠ 0 by omega)
  have h5 := Int.tmod_lt_of_pos a (show 0 < n by omega)
  have h6 := Int.lt_tmod_of_pos a (show 0 < n by omega)
  go_enter Try.func12, Try.ntmps12
  go_wp2
  · have h : a.tmod n < 0 := by assumption
    go_ret
    exact ⟨ret_int (tmod_lt a n hn h), rfl⟩
  · have h : 0 ≤ a.tmod n := by assumption
    go_ret
    exact ⟨ret_int (tmod_ge a n hn h), rfl⟩
theorem small_any (a : Option Addr) (len cap : Nat) (w : World) (hl : len ≤ 9223372036854775807) : Calls Try.prog 8 #[.slice a len cap] w fun e w' => e = .returned (.bool (decide ((len : Int) ≤ 900))) ∧ w = w' := by
  go_enter Try.func8, Try.ntmps8
  go_wp2
  go_ret
  exact ⟨rfl, rfl⟩
set_option maxHeartbeats 800000 in
theorem compare_eq (a : Option Addr) (n ca : Nat) (b : Option Addr) (cb : Nat) (l : List UInt8) (w : World) (ha : Bs w a n l) (hb : Bs w b n l) :
    Calls Try.prog 33 #[.slice a n ca, .slice b n cb] w fun e w' => e = .returned (.int .i64 0) ∧ Below w.heap.size w w' := by
  have hn := ha.2.1
  have HA := Lib.hid ha
  have HB := Lib.hid hb
  clear ha hb
  go_enter Try.func33, Try.ntmps33
  go_wp2_with fail
  go_loopw [5] (fun i wr => ∃ k : Nat, i = .int .i64 k ∧ k ≤ n ∧ Below w.heap.size w wr) (fun i _ => n - (intOf i).toNat)
  case atStart => exact ⟨0, rfl, by omega, Below.refl _ _⟩
  case round =>
    obtain ⟨k, rfl, hk, hw⟩ := hrel
    by_cases hlt : k < n
    · obtain ⟨b1, o1, rfl, e1⟩ := (HA.out.below hw).2.2 k hlt
      obtain ⟨b2, o2, rfl, e2⟩ := (HB.out.below hw).2.2 k hlt
      generalize l.getD k 0 = x at *
      have HW := Lib.hid hw
      clear hw
      go_upto_region 4 with fail
      go_quiet (fail)
      go_wp2_with fail
      go_roundw
      case rel => exact ⟨k + 1, by go_num, by omega, below_drewN HW.out _⟩
      case measure => simp [intOf]; omega
    · obtain rfl : k = n := by omega
      have HW := Lib.hid hw
      clear hw
      go_wp2_with fail
      go_ret
      exact ⟨rfl, HW.out⟩
set_option maxHeartbeats 800000 in
theorem equal_eq (a : Option Addr) (n ca : Nat) (b : Option Addr) (cb : Nat) (l : List UInt8) (w : World) (ha : Bs w a n l) (hb : Bs w b n l) :
    Calls Try.prog 13 #[.slice a n ca, .slice b n cb] w fun e w' => e = .returned (.bool true) ∧ Below w.heap.size w w' := by
  have hn := ha.2.1
  go_enter Try.func13, Try.ntmps13
  go_wp2_with fail
  refine (compare_eq a n ca b cb l w ha hb).mono ?_
  rintro e w2 ⟨rfl, hw2⟩
  have HW := Lib.hid hw2
  clear ha hb hw2
  go_wp2_with fail
  go_ret
  exact ⟨rfl, HW.out⟩
set_option maxHeartbeats 1600000 in
theorem same_eq (sz : Int) (pa : Option Addr) (pn pc : Nat) (ea : Option Addr) (en ec : Nat) (sz' : Int) (pa' : Option Addr) (pn' pc' : Nat) (ea' : Option Addr) (en' ec' : Nat) (m : Fl.Mem) (w : World) (h : FRep w sz pa pn ea en m) (h' : FRep w sz' pa' pn' ea' en' m) :
    Calls Try.prog 18 #[.agg #[.int .i64 sz, .slice pa pn pc, .slice ea en ec], .agg #[.int .i64 sz', .slice pa' pn' pc', .slice ea' en' ec']] w fun e w' => e = .returned (.bool true) ∧ Below w.heap.size w w' := by
  obtain rfl : sz = sz' := h.size.trans h'.size.symm
  obtain rfl : pn = pn' := h.pages.1.symm.trans h'.pages.1
  obtain rfl : en = en' := h.erased.1.symm.trans h'.erased.1
  have hpn := h.pages.2.1
  have hen := h.erased.2.1
  go_enter Try.func18, Try.ntmps18
  go_upto_region 1 with fail
  have P1 : Below w.heap.size w ((w.alloc (.cells #[.int .i64 sz, .slice pa pn pc, .slice ea en ec] 32)).alloc (.cells #[.int .i64 sz, .slice pa' pn pc', .slice ea' en ec'] 32)) := (pure_alloc _ _).alloc (by simp) _
  have B0 : ((w.alloc (.cells #[.int .i64 sz, .slice pa pn pc, .slice ea en ec] 32)).alloc (.cells #[.int .i64 sz, .slice pa' pn pc', .slice ea' en ec'] 32)).heap[w.heap.size]? = some (.cells #[.int .i64 sz, .slice pa pn pc, .slice ea en ec] 32 (0, 0)) := alloc_keep (alloc_new _ _)
  have B1 : ((w.alloc (.cells #[.int .i64 sz, .slice pa pn pc, .slice ea en ec] 32)).alloc (.cells #[.int .i64 sz, .slice pa' pn pc', .slice ea' en ec'] 32)).heap[w.heap.size + 1]? = some (.cells #[.int .i64 sz, .slice pa' pn pc', .slice ea' en ec'] 32 (0, 0)) := alloc_new' _ _ _ (by simp)
  have HF := Lib.hid (h.below P1)
  have HF' := Lib.hid (h'.below P1)
  generalize (w.alloc (.cells #[.int .i64 sz, .slice pa pn pc, .slice ea en ec] 32)).alloc (.cells #[.int .i64 sz, .slice pa' pn pc', .slice ea' en ec'] 32) = w1 at *
  have x0 := cell_of_arr B0 0
  have x1 := cell_of_arr B0 1
  have x2 := cell_of_arr B0 2
  have y0 := cell_of_arr B1 0
  have y1 := cell_of_arr B1 1
  have y2 := cell_of_arr B1 2
  simp at x0 x1 x2 y0 y1 y2
  have HP1 := Lib.hid P1
  have HB0 := Lib.hid B0
  have HB1 := Lib.hid B1
  clear h h' P1 B0 B1
  go_wp2_with fail
  go_loopw [33] (fun i wr => ∃ k : Nat, i = .int .i64 k ∧ k ≤ pn ∧ Below w1.heap.size w1 wr) (fun i _ => pn - (intOf i).toNat)
  case atStart => exact ⟨0, rfl, by omega, Below.refl _ _⟩
  case round =>
    obtain ⟨k, rfl, hk, hw⟩ := hrel
    have B0 := Below.keep hw HB0.out (lt_of_block HB0.out)
    have B1 := Below.keep hw HB1.out (lt_of_block HB1.out)
    clear x0 x1 x2 y0 y1 y2
    have x1 := cell_of_arr B0 1
    have x2 := cell_of_arr B0 2
    have y1 := cell_of_arr B1 1
    have y2 := cell_of_arr B1 2
    simp at x1 x2 y1 y2
    have HW := Lib.hid hw
    by_cases hlt : k < pn
    · obtain ⟨b1, o1, c1, l1, k1, rfl, e1, s1⟩ := (HF.out.below hw).pages.2.2 k hlt
      obtain ⟨b2, o2, c2, l2, k2, rfl, e2, s2⟩ := (HF'.out.below hw).pages.2.2 k hlt
      have q1 : ∀ nq, (convert 22 9 (.slice c1 l1 k1)).run Try.prog (wr.drewN nq) = .ok (.string ⟨(m.pages.getD k []).toArray⟩) (wr.drewN nq) := fun nq => str_of_bs (s1.below (below_drewN (Below.refl _ _) nq)) _
      have q2 : ∀ nq, (convert 22 9 (.slice c2 l2 k2)).run Try.prog (wr.drewN nq) = .ok (.string ⟨(m.pages.getD k []).toArray⟩) (wr.drewN nq) := fun nq => str_of_bs (s2.below (below_drewN (Below.refl _ _) nq)) _
      generalize m.pages.getD k [] = pg at *
      clear hw B0 B1 s1 s2
      go_upto_region 6 with fail
      go_quiet (fail)
      go_wp2_with fail
      go_roundw
      case rel => exact ⟨k + 1, by go_num, by omega, below_drewN HW.out _⟩
      case measure => simp [intOf]; omega
    · obtain rfl : k = pn := by omega
      clear hw B0 B1
      go_wp2_with fail
      go_loopw [53] (fun i wr => ∃ k : Nat, i = .int .i64 k ∧ k ≤ en ∧ Below w1.heap.size w1 wr) (fun i _ => en - (intOf i).toNat)
      case atStart => exact ⟨0, rfl, by omega, HW.out⟩
      case round =>
        obtain ⟨j, rfl, hj, hw⟩ := hrel
        have B0 := Below.keep hw HB0.out (lt_of_block HB0.out)
        have B1 := Below.keep hw HB1.out (lt_of_block HB1.out)
        clear x1 x2 y1 y2 HW
        have x2 := cell_of_arr B0 2
        have y2 := cell_of_arr B1 2
        simp at x2 y2
        have HW := Lib.hid hw
        by_cases hlt : j < en
        · obtain ⟨b1, o1, rfl, e1, s1⟩ := (HF.out.below hw).erased.2.2 j hlt
          obtain ⟨b2, o2, rfl, e2, s2⟩ := (HF'.out.below hw).erased.2.2 j hlt
          generalize m.erased.getD j 0 = pg at *
          clear hw B0 B1
          go_upto_region 12 with fail
          go_quiet (fail)
          go_wp2_with fail
          go_roundw
          case rel => exact ⟨j + 1, by go_num, by omega, below_drewN HW.out _⟩
          case measure => simp [intOf]; omega
        · obtain rfl : j = en := by omega
          clear hw B0 B1
          go_wp2_with fail
          go_ret
          exact ⟨rfl, pure_trans HP1.out HW.out⟩
end Go.Proofs.Ytnfjfifdkmgbdaa
