/- The walk of Reserve. -/
import Derived.Test.YtnfjfifdkmgbdaaXa
namespace Go.Proofs.Ytnfjfifdkmgbdaa
open Go.RowKit Go.Shelf
set_option maxHeartbeats 3200000 in
theorem reserve_any (sz : Int) (pa : Option Addr) (pn pc : Nat) (ea : Option Addr) (en ec : Nat) (ck cs cn cl : Int) (m : Fl.Mem) (w : World) (h : FRep w sz pa pn ea en m)
    (cl2 : cl ≤ 9223372036854775807) :
    Calls Try.prog 31 #[.agg #[.int .i64 sz, .slice pa pn pc, .slice ea en ec], .agg #[.int .i64 ck, .int .i64 cs, .int .i64 cn, .int .i64 cl]] w fun e w' => e = .returned (.tuple #[.int .i64 (Fl.reserveP m ⟨ck, cs, cn, cl⟩).1, .int .i64 (Fl.reserveP m ⟨ck, cs, cn, cl⟩).2.1, .int .i64 (Fl.reserveP m ⟨ck, cs, cn, cl⟩).2.2]) ∧ Below w.heap.size w w' := by
  have P1 : Below w.heap.size w ((w.alloc (.cells #[.int .i64 sz, .slice pa pn pc, .slice ea en ec] 32)).alloc (.cells #[.int .i64 ck, .int .i64 cs, .int .i64 cn, .int .i64 cl] 49)) := (pure_alloc _ _).alloc (by simp) _
  have B0 : ((w.alloc (.cells #[.int .i64 sz, .slice pa pn pc, .slice ea en ec] 32)).alloc (.cells #[.int .i64 ck, .int .i64 cs, .int .i64 cn, .int .i64 cl] 49)).heap[w.heap.size]? = some (.cells #[.int .i64 sz, .slice pa pn pc, .slice ea en ec] 32 (0, 0)) := alloc_keep (alloc_new _ _)
  have B1 : ((w.alloc (.cells #[.int .i64 sz, .slice pa pn pc, .slice ea en ec] 32)).alloc (.cells #[.int .i64 ck, .int .i64 cs, .int .i64 cn, .int .i64 cl] 49)).heap[w.heap.size + 1]? = some (.cells #[.int .i64 ck, .int .i64 cs, .int .i64 cn, .int .i64 cl] 49 (0, 0)) := alloc_new' _ _ _ (by simp)
  have R0 : Hid (Fl.reserveP m ⟨ck, cs, cn, cl⟩ = if Fl.validP m && Fl.ctrOk ⟨ck, cs, cn, cl⟩ then (if cn < cl then (cn, cl, 0) else if 1099511627775 < cl + cs then (0, 0, 43) else if (stepsRes m ck (cl + cs)).2 ≠ 0 then (0, 0, (stepsRes m ck (cl + cs)).2) else (cn, cl + cs, 0)) else (0, 0, 1)) := rfl
  go_enter Try.func31, Try.ntmps31
  go_upto_region 1 with fail
  generalize (w.alloc (.cells #[.int .i64 sz, .slice pa pn pc, .slice ea en ec] 32)).alloc (.cells #[.int .i64 ck, .int .i64 cs, .int .i64 cn, .int .i64 cl] 49) = w1 at *
  have HF := Lib.hid (h.below P1)
  have c1 := cell_of_arr B0 0
  have c2 := cell_of_arr B0 1
  have c3 := cell_of_arr B0 2
  simp at c1 c2 c3
  have HP1 := Lib.hid P1
  have HB0 := Lib.hid B0
  have HB1 := Lib.hid B1
  clear P1 B0 B1 h
  go_wp2_with fail
  refine (valid_any sz pa pn pc ea en ec m w1 HF.out).mono ?_
  rintro e w2 ⟨rfl, hw2⟩
  have HP2 := Lib.hid (pure_trans HP1.out hw2)
  have HF2 := Lib.hid (HF.out.below hw2)
  have B0 := Below.keep hw2 HB0.out (lt_of_block HB0.out)
  have B1 := Below.keep hw2 HB1.out (lt_of_block HB1.out)
  clear hw2 HB0 HB1 HP1 HF c1 c2 c3
  have c1 := cell_of_arr B0 0
  have c2 := cell_of_arr B0 1
  have c3 := cell_of_arr B0 2
  have d1 := cell_of_arr B1 0
  have d2 := cell_of_arr B1 1
  have d3 := cell_of_arr B1 2
  have d4 := cell_of_arr B1 3
  simp at c1 c2 c3 d1 d2 d3 d4
  have HB1 := Lib.hid B1
  have HB0 := Lib.hid B0
  clear B0 B1
  by_cases hok : 0 ≤ ck ∧ ck ≤ 15 ∧ 1 ≤ cs ∧ cs ≤ 65536 ∧ 0 ≤ cn ∧ cn ≤ cl
  · have hco : Fl.ctrOk ⟨ck, cs, cn, cl⟩ = true := by simp [Fl.ctrOk]; exact hok
    obtain ⟨o1, o2, o3, o4, o5, o6⟩ := hok
    cases hv : Fl.validP m
    · have R1 : Hid (Fl.reserveP m ⟨ck, cs, cn, cl⟩ = (0, 0, 1)) := by show _ = _; rw [R0.out, hv]; rfl
      go_wp2_with fail
      go_ret3
      rw [R1.out]
      exact ⟨rfl, HP2.out⟩
    · have R1 : Hid (Fl.reserveP m ⟨ck, cs, cn, cl⟩ = if cn < cl then (cn, cl, 0) else if 1099511627775 < cl + cs then (0, 0, 43) else if (stepsRes m ck (cl + cs)).2 ≠ 0 then (0, 0, (stepsRes m ck (cl + cs)).2) else (cn, cl + cs, 0)) := by
        show _ = _; rw [R0.out, hv, hco]; rfl
      clear R0 hco
      by_cases hlt : cn < cl
      · have R2 : Hid (Fl.reserveP m ⟨ck, cs, cn, cl⟩ = (cn, cl, 0)) := by show _ = _; rw [R1.out, if_pos hlt]
        go_wp2_with fail
        go_quiet (fail)
        go_wp2_with fail
        go_ret3
        rw [R2.out]
        exact ⟨rfl, below_drewN HP2.out _⟩
      · have R2 : Hid (Fl.reserveP m ⟨ck, cs, cn, cl⟩ = if 1099511627775 < cl + cs then (0, 0, 43) else if (stepsRes m ck (cl + cs)).2 ≠ 0 then (0, 0, (stepsRes m ck (cl + cs)).2) else (cn, cl + cs, 0)) := by show _ = _; rw [R1.out, if_neg hlt]
        clear R1
        by_cases hb1 : 1099511627775 < cl
        · have R3 : Hid (Fl.reserveP m ⟨ck, cs, cn, cl⟩ = (0, 0, 43)) := by show _ = _; rw [R2.out, if_pos (by omega)]
          go_wp2_with fail
          go_ret3
          rw [R3.out]
          exact ⟨rfl, HP2.out⟩
        by_cases hb2 : 1099511627775 < cl + cs
        · have R3 : Hid (Fl.reserveP m ⟨ck, cs, cn, cl⟩ = (0, 0, 43)) := by show _ = _; rw [R2.out, if_pos (by omega)]
          go_wp2_with fail
          go_ret3
          rw [R3.out]
          exact ⟨rfl, HP2.out⟩
        have R3 : Hid (Fl.reserveP m ⟨ck, cs, cn, cl⟩ = if (stepsRes m ck (cl + cs)).2 ≠ 0 then (0, 0, (stepsRes m ck (cl + cs)).2) else (cn, cl + cs, 0)) := by show _ = _; rw [R2.out, if_neg hb2]
        clear R2
        go_wp2_with fail
        refine (steps_any sz pa pn pc ea en ec ck (cl + cs) m w2 HF2.out).mono ?_
        rintro e w3 ⟨rfl, hw3⟩
        have HP3 := Lib.hid (pure_trans HP2.out hw3)
        have B1 := Below.keep hw3 HB1.out (lt_of_block HB1.out)
        clear hw3 HB1 HB0 c1 c2 c3 d1 d2 d3 d4
        have d3 := cell_of_arr B1 2
        simp at d3
        clear B1
        by_cases he : (stepsRes m ck (cl + cs)).2 = 0
        · have R4 : Hid (Fl.reserveP m ⟨ck, cs, cn, cl⟩ = (cn, cl + cs, 0)) := by show _ = _; rw [R3.out, if_neg (by simpa using he)]
          rw [he]
          clear R3 he
          generalize (stepsRes m ck (cl + cs)).1 = ln at *
          go_wp2_with fail
          go_ret3
          rw [R4.out]
          exact ⟨rfl, HP3.out⟩
        · have R4 : Hid (Fl.reserveP m ⟨ck, cs, cn, cl⟩ = (0, 0, (stepsRes m ck (cl + cs)).2)) := by show _ = _; rw [R3.out, if_pos he]
          clear R3
          generalize (stepsRes m ck (cl + cs)).1 = ln at *
          generalize (stepsRes m ck (cl + cs)).2 = er at *
          go_wp2_with fail
          go_ret3
          rw [R4.out]
          exact ⟨rfl, HP3.out⟩
  · have R1 : Hid (Fl.reserveP m ⟨ck, cs, cn, cl⟩ = (0, 0, 1)) := by
      show _ = _
      have hco : Fl.ctrOk ⟨ck, cs, cn, cl⟩ = false := by simp only [Fl.ctrOk, decide_eq_false_iff_not]; exact hok
      rw [R0.out, hco]; simp
    have HOK := Lib.hid hok
    clear hok R0
    cases hv : Fl.validP m
    all_goals
      go_wp2_with fail
      all_goals first
        | (exfalso; have := HOK.out; omega)
        | (go_ret3
           rw [R1.out]
           exact ⟨rfl, HP2.out⟩)
end Go.Proofs.Ytnfjfifdkmgbdaa
