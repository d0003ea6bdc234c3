/- The walks of the reference's Open, Fine, Reserve. The walk of the reference's Take. The walk of counts. One byte of a memory in rows of its own is changed. -/
import Derived.Test.YtnfjfifdkmgbdaaXq
import Derived.BigRegion
import Derived.Test.YtnfjfifdkmgbdaaWy
namespace Go.Proofs.Ytnfjfifdkmgbdaa
open Go.RowKit Go.Shelf
set_option maxHeartbeats 1600000 in
theorem openR_any (sz : Int) (pa : Option Addr) (pn pc : Nat) (ea : Option Addr) (en ec : Nat) (key step : Int) (m : Fl.Mem) (w : World) (h : FRep w sz pa pn ea en m) :
    Calls Try.prog 27 #[.agg #[.int .i64 sz, .slice pa pn pc, .slice ea en ec], .int .i64 key, .int .i64 step] w fun e w' => e = .returned (.tuple #[ctrV (Fl.openP m key step).1, .int .i64 (Fl.openP m key step).2]) ∧ Below w.heap.size w w' := by
  have P1 : Below w.heap.size w ((w.alloc (.cells #[.int .i64 sz, .slice pa pn pc, .slice ea en ec] 32)).alloc (.cells #[.int .i64 0, .int .i64 0, .int .i64 0, .int .i64 0] 49)) := (pure_alloc _ _).alloc (by simp) _
  have B0 : ((w.alloc (.cells #[.int .i64 sz, .slice pa pn pc, .slice ea en ec] 32)).alloc (.cells #[.int .i64 0, .int .i64 0, .int .i64 0, .int .i64 0] 49)).heap[w.heap.size]? = some (.cells #[.int .i64 sz, .slice pa pn pc, .slice ea en ec] 32 (0, 0)) := alloc_keep (alloc_new _ _)
  have B1 : ((w.alloc (.cells #[.int .i64 sz, .slice pa pn pc, .slice ea en ec] 32)).alloc (.cells #[.int .i64 0, .int .i64 0, .int .i64 0, .int .i64 0] 49)).heap[w.heap.size + 1]? = some (.cells #[.int .i64 0, .int .i64 0, .int .i64 0, .int .i64 0] 49 (0, 0)) := alloc_new' _ _ _ (by simp)
  go_enter Try.func27, Try.ntmps27
  go_upto_region 1 with fail
  generalize (w.alloc (.cells #[.int .i64 sz, .slice pa pn pc, .slice ea en ec] 32)).alloc (.cells #[.int .i64 0, .int .i64 0, .int .i64 0, .int .i64 0] 49) = w1 at *
  have HF := Lib.hid (h.below P1)
  have c1 := cell_of_arr B0 0
  have c2 := cell_of_arr B0 1
  have c3 := cell_of_arr B0 2
  simp at c1 c2 c3
  have HP1 := Lib.hid P1
  have HB0 := Lib.hid B0
  have HB1 := Lib.hid B1
  clear P1 B0 B1 h
  go_wp2_with fail
  refine (validR_any sz pa pn pc ea en ec m w1 HF.out).mono ?_
  rintro e w2 ⟨rfl, hw2⟩
  have HP2 := Lib.hid (pure_trans HP1.out hw2)
  have HF2 := Lib.hid (HF.out.below hw2)
  have B0 := Below.keep hw2 HB0.out (lt_of_block HB0.out)
  have B1 := Below.keep hw2 HB1.out (lt_of_block HB1.out)
  clear hw2 HB0 HB1 HP1 HF c1 c2 c3
  have c1 := cell_of_arr B0 0
  have c2 := cell_of_arr B0 1
  have c3 := cell_of_arr B0 2
  have d1 := cell_of_arr B1 0
  have d2 := cell_of_arr B1 1
  have d3 := cell_of_arr B1 2
  have d4 := cell_of_arr B1 3
  have f1 := frozen_of_arr B1 0
  have f2 := frozen_of_arr B1 1
  have f3 := frozen_of_arr B1 2
  have f4 := frozen_of_arr B1 3
  simp at c1 c2 c3 d1 d2 d3 d4
  have HB1 := Lib.hid B1
  have HB0 := Lib.hid B0
  clear B0 B1
  by_cases hok : 0 ≤ key ∧ key ≤ 15 ∧ 1 ≤ step ∧ step ≤ 65536
  · cases hv : Fl.validP m
    · have R1 : Hid (Fl.openP m key step = (Fl.noCtr, 1)) := by show _ = _; unfold Fl.openP Fl.openOk; rw [hv]; rfl
      go_wp2_with fail
      have S3 := four_cells HB1.out (.int .i64 0) (.int .i64 0) (.int .i64 0) (.int .i64 0) _ rfl
      have g1 := cell_of_arr S3 0
      have g2 := cell_of_arr S3 1
      have g3 := cell_of_arr S3 2
      have g4 := cell_of_arr S3 3
      simp at g1 g2 g3 g4
      refine bodyPost_ret (v := .tuple #[ctrV Fl.noCtr, .int .i64 1]) (by simp [results, Try.results27, go_sem, g1, g2, g3, g4, ctrV, Fl.noCtr]) rfl ?_
      rw [R1.out]
      exact ⟨rfl, ((((HP2.out.setCell (by simp) _).setCell (by simp) _).setCell (by simp) _).setCell (by simp) _)⟩
    · have R1 : Hid (Fl.openP m key step = (⟨key, step, (Fl.getP m key).1, (Fl.getP m key).1⟩, 0)) := by
        show _ = _; unfold Fl.openP Fl.openOk; rw [hv]; simp [hok]
      obtain ⟨o1, o2, o3, o4⟩ := hok
      go_wp2_with fail
      refine (getR_any sz pa pn pc ea en ec key m w2 HF2.out).mono ?_
      rintro e w3 ⟨rfl, hw3⟩
      have HP3 := Lib.hid (pure_trans HP2.out hw3)
      have B1 := Below.keep hw3 HB1.out (lt_of_block HB1.out)
      clear hw3 HB1 HB0 c1 c2 c3 d1 d2 d3 d4 f1 f2 f3 f4
      have d1 := cell_of_arr B1 0
      have d2 := cell_of_arr B1 1
      have d3 := cell_of_arr B1 2
      have d4 := cell_of_arr B1 3
      have f1 := frozen_of_arr B1 0
      have f2 := frozen_of_arr B1 1
      have f3 := frozen_of_arr B1 2
      have f4 := frozen_of_arr B1 3
      simp at d1 d2 d3 d4
      have HB1 := Lib.hid B1
      clear B1
      go_wp2_with fail
      have S3 := four_cells HB1.out (.int .i64 key) (.int .i64 step) (.int .i64 (Fl.getP m key).1) (.int .i64 (Fl.getP m key).1) _ rfl
      have g1 := cell_of_arr S3 0
      have g2 := cell_of_arr S3 1
      have g3 := cell_of_arr S3 2
      have g4 := cell_of_arr S3 3
      simp at g1 g2 g3 g4
      refine bodyPost_ret (v := .tuple #[.agg #[.int .i64 key, .int .i64 step, .int .i64 (Fl.getP m key).1, .int .i64 (Fl.getP m key).1], .int .i64 0]) (by simp [results, Try.results27, go_sem, g1, g2, g3, g4]) rfl ?_
      rw [R1.out]
      exact ⟨rfl, ((((HP3.out.setCell (by simp) _).setCell (by simp) _).setCell (by simp) _).setCell (by simp) _)⟩
  · have R1 : Hid (Fl.openP m key step = (Fl.noCtr, 1)) := by show _ = _; unfold Fl.openP Fl.openOk; rw [if_neg (by simp; intro _; omega)]
    have HOK := Lib.hid hok
    clear hok
    cases hv : Fl.validP m
    all_goals
      go_wp2_with fail
      all_goals first
        | (exfalso; have := HOK.out; omega)
        | (have S3 := four_cells HB1.out (.int .i64 0) (.int .i64 0) (.int .i64 0) (.int .i64 0) _ rfl
           have g1 := cell_of_arr S3 0
           have g2 := cell_of_arr S3 1
           have g3 := cell_of_arr S3 2
           have g4 := cell_of_arr S3 3
           simp at g1 g2 g3 g4
           refine bodyPost_ret (v := .tuple #[ctrV Fl.noCtr, .int .i64 1]) (by simp [results, Try.results27, go_sem, g1, g2, g3, g4, ctrV, Fl.noCtr]) rfl ?_
           rw [R1.out]
           exact ⟨rfl, ((((HP2.out.setCell (by simp) _).setCell (by simp) _).setCell (by simp) _).setCell (by simp) _)⟩)
set_option maxHeartbeats 1600000 in
theorem fine_any (ck cs cn cl : Int) (w : World) : Calls Try.prog 58 #[.agg #[.int .i64 ck, .int .i64 cs, .int .i64 cn, .int .i64 cl]] w fun e w' => e = .returned (.bool (Fl.ctrOk ⟨ck, cs, cn, cl⟩)) ∧ Below w.heap.size w w' := by
  have P1 := Lib.hid (pure_alloc w (.cells #[.int .i64 ck, .int .i64 cs, .int .i64 cn, .int .i64 cl] 49))
  by_cases hok : 0 ≤ ck ∧ ck ≤ 15 ∧ 1 ≤ cs ∧ cs ≤ 65536 ∧ 0 ≤ cn ∧ cn ≤ cl
  · have R : Hid (Fl.ctrOk ⟨ck, cs, cn, cl⟩ = true) := by show _ = _; simp [Fl.ctrOk]; exact hok
    obtain ⟨o1, o2, o3, o4, o5, o6⟩ := hok
    go_enter Try.func58, Try.ntmps58
    go_wp2_with fail
    go_ret
    exact ⟨by rw [R.out]; first | rfl | (simp; done) | (simp; omega), P1.out⟩
  · have R : Hid (Fl.ctrOk ⟨ck, cs, cn, cl⟩ = false) := by show _ = _; simp only [Fl.ctrOk, decide_eq_false_iff_not]; exact hok
    have HOK := Lib.hid hok
    clear hok
    go_enter Try.func58, Try.ntmps58
    go_wp2_with fail
    all_goals
      go_ret
      refine ⟨congrArg (fun b => Ending.returned (Value.bool b)) ?_, P1.out⟩
      rw [R.out]
      try (first
        | rfl
        | (have := HOK.out
           simp only [decide_eq_false_iff_not]
           omega))
set_option maxHeartbeats 3200000 in
theorem reserveR_any (sz : Int) (pa : Option Addr) (pn pc : Nat) (ea : Option Addr) (en ec : Nat) (ck cs cn cl : Int) (m : Fl.Mem) (w : World) (h : FRep w sz pa pn ea en m)
    (cl2 : cl ≤ 9223372036854775807) :
    Calls Try.prog 50 #[.agg #[.int .i64 sz, .slice pa pn pc, .slice ea en ec], .agg #[.int .i64 ck, .int .i64 cs, .int .i64 cn, .int .i64 cl]] w fun e w' => e = .returned (.tuple #[.int .i64 (Fl.reserveP m ⟨ck, cs, cn, cl⟩).1, .int .i64 (Fl.reserveP m ⟨ck, cs, cn, cl⟩).2.1, .int .i64 (Fl.reserveP m ⟨ck, cs, cn, cl⟩).2.2]) ∧ Below w.heap.size w w' := by
  have P1 : Below w.heap.size w ((w.alloc (.cells #[.int .i64 sz, .slice pa pn pc, .slice ea en ec] 32)).alloc (.cells #[.int .i64 ck, .int .i64 cs, .int .i64 cn, .int .i64 cl] 49)) := (pure_alloc _ _).alloc (by simp) _
  have B0 : ((w.alloc (.cells #[.int .i64 sz, .slice pa pn pc, .slice ea en ec] 32)).alloc (.cells #[.int .i64 ck, .int .i64 cs, .int .i64 cn, .int .i64 cl] 49)).heap[w.heap.size]? = some (.cells #[.int .i64 sz, .slice pa pn pc, .slice ea en ec] 32 (0, 0)) := alloc_keep (alloc_new _ _)
  have B1 : ((w.alloc (.cells #[.int .i64 sz, .slice pa pn pc, .slice ea en ec] 32)).alloc (.cells #[.int .i64 ck, .int .i64 cs, .int .i64 cn, .int .i64 cl] 49)).heap[w.heap.size + 1]? = some (.cells #[.int .i64 ck, .int .i64 cs, .int .i64 cn, .int .i64 cl] 49 (0, 0)) := alloc_new' _ _ _ (by simp)
  have R0 : Hid (Fl.reserveP m ⟨ck, cs, cn, cl⟩ = if Fl.validP m && Fl.ctrOk ⟨ck, cs, cn, cl⟩ then (if cn < cl then (cn, cl, 0) else if 1099511627775 < cl + cs then (0, 0, 43) else if (stepsRes m ck (cl + cs)).2 ≠ 0 then (0, 0, (stepsRes m ck (cl + cs)).2) else (cn, cl + cs, 0)) else (0, 0, 1)) := rfl
  go_enter Try.func50, Try.ntmps50
  go_upto_region 1 with fail
  generalize (w.alloc (.cells #[.int .i64 sz, .slice pa pn pc, .slice ea en ec] 32)).alloc (.cells #[.int .i64 ck, .int .i64 cs, .int .i64 cn, .int .i64 cl] 49) = w1 at *
  have HF := Lib.hid (h.below P1)
  have c1 := cell_of_arr B0 0
  have c2 := cell_of_arr B0 1
  have c3 := cell_of_arr B0 2
  simp at c1 c2 c3
  have HP1 := Lib.hid P1
  have HB0 := Lib.hid B0
  have HB1 := Lib.hid B1
  clear P1 B0 B1 h
  go_wp2_with fail
  refine (validR_any sz pa pn pc ea en ec m w1 HF.out).mono ?_
  rintro e w2 ⟨rfl, hw2⟩
  have HP2 := Lib.hid (pure_trans HP1.out hw2)
  have HF2 := Lib.hid (HF.out.below hw2)
  have B0 := Below.keep hw2 HB0.out (lt_of_block HB0.out)
  have B1 := Below.keep hw2 HB1.out (lt_of_block HB1.out)
  clear hw2 HB0 HB1 HP1 HF c1 c2 c3
  have c1 := cell_of_arr B0 0
  have c2 := cell_of_arr B0 1
  have c3 := cell_of_arr B0 2
  have d1 := cell_of_arr B1 0
  have d2 := cell_of_arr B1 1
  have d3 := cell_of_arr B1 2
  have d4 := cell_of_arr B1 3
  simp at c1 c2 c3 d1 d2 d3 d4
  have HB1 := Lib.hid B1
  have HB0 := Lib.hid B0
  clear B0 B1
  cases hv : Fl.validP m
  · have R1 : Hid (Fl.reserveP m ⟨ck, cs, cn, cl⟩ = (0, 0, 1)) := by show _ = _; rw [R0.out, hv]; rfl
    go_wp2_with fail
    go_ret3
    rw [R1.out]
    exact ⟨rfl, HP2.out⟩
  have HFI := Lib.hid (fine_any ck cs cn cl w2)
  go_wp2_with fail
  refine HFI.out.mono ?_
  rintro e w5 ⟨rfl, hw5⟩
  have HP5 := Lib.hid (pure_trans HP2.out hw5)
  have HF5 := Lib.hid (HF2.out.below hw5)
  have B0 := Below.keep hw5 HB0.out (lt_of_block HB0.out)
  have B1 := Below.keep hw5 HB1.out (lt_of_block HB1.out)
  clear hw5 HFI HB0 HB1 HP2 HF2 c1 c2 c3 d1 d2 d3 d4
  have c1 := cell_of_arr B0 0
  have c2 := cell_of_arr B0 1
  have c3 := cell_of_arr B0 2
  have d1 := cell_of_arr B1 0
  have d2 := cell_of_arr B1 1
  have d3 := cell_of_arr B1 2
  have d4 := cell_of_arr B1 3
  simp at c1 c2 c3 d1 d2 d3 d4
  have HB1 := Lib.hid B1
  clear B0 B1
  cases hco : Fl.ctrOk ⟨ck, cs, cn, cl⟩
  · have R1 : Hid (Fl.reserveP m ⟨ck, cs, cn, cl⟩ = (0, 0, 1)) := by show _ = _; rw [R0.out, hv, hco]; rfl
    go_wp2_with fail
    go_ret3
    rw [R1.out]
    exact ⟨rfl, HP5.out⟩
  have hok : 0 ≤ ck ∧ ck ≤ 15 ∧ 1 ≤ cs ∧ cs ≤ 65536 ∧ 0 ≤ cn ∧ cn ≤ cl := by simpa [Fl.ctrOk] using hco
  obtain ⟨o1, o2, o3, o4, o5, o6⟩ := hok
  have R1 : Hid (Fl.reserveP m ⟨ck, cs, cn, cl⟩ = if cn < cl then (cn, cl, 0) else if 1099511627775 < cl + cs then (0, 0, 43) else if (stepsRes m ck (cl + cs)).2 ≠ 0 then (0, 0, (stepsRes m ck (cl + cs)).2) else (cn, cl + cs, 0)) := by
    show _ = _; rw [R0.out, hv, hco]; rfl
  clear R0 hco
  by_cases hlt : cn < cl
  · have R2 : Hid (Fl.reserveP m ⟨ck, cs, cn, cl⟩ = (cn, cl, 0)) := by show _ = _; rw [R1.out, if_pos hlt]
    go_wp2_with fail
    go_quiet (fail)
    go_wp2_with fail
    go_ret3
    rw [R2.out]
    exact ⟨rfl, below_drewN HP5.out _⟩
  have R2 : Hid (Fl.reserveP m ⟨ck, cs, cn, cl⟩ = if 1099511627775 < cl + cs then (0, 0, 43) else if (stepsRes m ck (cl + cs)).2 ≠ 0 then (0, 0, (stepsRes m ck (cl + cs)).2) else (cn, cl + cs, 0)) := by show _ = _; rw [R1.out, if_neg hlt]
  clear R1
  by_cases hb1 : 1099511627775 < cl
  · have R3 : Hid (Fl.reserveP m ⟨ck, cs, cn, cl⟩ = (0, 0, 43)) := by show _ = _; rw [R2.out, if_pos (by omega)]
    go_wp2_with fail
    go_ret3
    rw [R3.out]
    exact ⟨rfl, HP5.out⟩
  by_cases hb2 : 1099511627775 < cl + cs
  · have R3 : Hid (Fl.reserveP m ⟨ck, cs, cn, cl⟩ = (0, 0, 43)) := by show _ = _; rw [R2.out, if_pos (by omega)]
    go_wp2_with fail
    go_ret3
    rw [R3.out]
    exact ⟨rfl, HP5.out⟩
  have R3 : Hid (Fl.reserveP m ⟨ck, cs, cn, cl⟩ = if (stepsRes m ck (cl + cs)).2 ≠ 0 then (0, 0, (stepsRes m ck (cl + cs)).2) else (cn, cl + cs, 0)) := by show _ = _; rw [R2.out, if_neg hb2]
  clear R2
  go_wp2_with fail
  refine (stepsR_any sz pa pn pc ea en ec ck (cl + cs) m w5 HF5.out).mono ?_
  rintro e w3 ⟨rfl, hw3⟩
  have HP3 := Lib.hid (pure_trans HP5.out hw3)
  have B1 := Below.keep hw3 HB1.out (lt_of_block HB1.out)
  clear hw3 HB1 c1 c2 c3 d1 d2 d3 d4
  have d2 := cell_of_arr B1 1
  have d3 := cell_of_arr B1 2
  have d4 := cell_of_arr B1 3
  simp at d2 d3 d4
  clear B1
  by_cases he : (stepsRes m ck (cl + cs)).2 = 0
  · have R4 : Hid (Fl.reserveP m ⟨ck, cs, cn, cl⟩ = (cn, cl + cs, 0)) := by show _ = _; rw [R3.out, if_neg (by simpa using he)]
    rw [he]
    clear R3 he
    generalize (stepsRes m ck (cl + cs)).1 = ln at *
    have hsum : IntKind.i64.wrap (cl + cs) = cl + cs := wrap_i64 _ (by omega) (by omega)
    go_wp2_with fail
    go_quiet (fail)
    clear hsum
    go_wp2_with fail
    go_ret3
    rw [R4.out]
    exact ⟨rfl, below_drewN HP3.out _⟩
  · have R4 : Hid (Fl.reserveP m ⟨ck, cs, cn, cl⟩ = (0, 0, (stepsRes m ck (cl + cs)).2)) := by show _ = _; rw [R3.out, if_pos he]
    clear R3
    generalize (stepsRes m ck (cl + cs)).1 = ln at *
    generalize (stepsRes m ck (cl + cs)).2 = er at *
    go_wp2_with fail
    go_ret3
    rw [R4.out]
    exact ⟨rfl, HP3.out⟩
end Go.Proofs.Ytnfjfifdkmgbdaa
namespace Go.Proofs.Ytnfjfifdkmgbdaa
open Go.RowKit Go.Shelf
set_option maxHeartbeats 3200000 in
theorem takeR_any (sz : Int) (pa : Option Addr) (pn pc : Nat) (ea : Option Addr) (en ec : Nat) (ck cs cn cl : Int) (m : Fl.Mem) (w : World) (h : FRep w sz pa pn ea en m)
    (cl2 : cl ≤ 9223372036854775807) :
    Calls Try.prog 51 #[.agg #[.int .i64 sz, .slice pa pn pc, .slice ea en ec], .agg #[.int .i64 ck, .int .i64 cs, .int .i64 cn, .int .i64 cl]] w (TPost (Fl.takeP m ⟨ck, cs, cn, cl⟩) w) := by
  have P1 : Below w.heap.size w ((((w.alloc (.cells #[.int .i64 sz, .slice pa pn pc, .slice ea en ec] 32)).alloc (.cells #[.int .i64 ck, .int .i64 cs, .int .i64 cn, .int .i64 cl] 49)).alloc (.cells #[.int .i64 0, .slice none 0 0, .slice none 0 0] 32)).alloc (.cells #[.int .i64 0, .int .i64 0, .int .i64 0, .int .i64 0] 49)) := (((pure_alloc _ _).alloc (by simp) _).alloc (by simp; omega) _).alloc (by simp; omega) _
  have B0 : ((((w.alloc (.cells #[.int .i64 sz, .slice pa pn pc, .slice ea en ec] 32)).alloc (.cells #[.int .i64 ck, .int .i64 cs, .int .i64 cn, .int .i64 cl] 49)).alloc (.cells #[.int .i64 0, .slice none 0 0, .slice none 0 0] 32)).alloc (.cells #[.int .i64 0, .int .i64 0, .int .i64 0, .int .i64 0] 49)).heap[w.heap.size]? = some (.cells #[.int .i64 sz, .slice pa pn pc, .slice ea en ec] 32 (0, 0)) := alloc_keep (alloc_keep (alloc_keep (alloc_new _ _)))
  have B1 : ((((w.alloc (.cells #[.int .i64 sz, .slice pa pn pc, .slice ea en ec] 32)).alloc (.cells #[.int .i64 ck, .int .i64 cs, .int .i64 cn, .int .i64 cl] 49)).alloc (.cells #[.int .i64 0, .slice none 0 0, .slice none 0 0] 32)).alloc (.cells #[.int .i64 0, .int .i64 0, .int .i64 0, .int .i64 0] 49)).heap[w.heap.size + 1]? = some (.cells #[.int .i64 ck, .int .i64 cs, .int .i64 cn, .int .i64 cl] 49 (0, 0)) := alloc_keep (alloc_keep (alloc_new' _ _ _ (by simp)))
  have B2 : ((((w.alloc (.cells #[.int .i64 sz, .slice pa pn pc, .slice ea en ec] 32)).alloc (.cells #[.int .i64 ck, .int .i64 cs, .int .i64 cn, .int .i64 cl] 49)).alloc (.cells #[.int .i64 0, .slice none 0 0, .slice none 0 0] 32)).alloc (.cells #[.int .i64 0, .int .i64 0, .int .i64 0, .int .i64 0] 49)).heap[w.heap.size + 1 + 1]? = some (.cells #[.int .i64 0, .slice none 0 0, .slice none 0 0] 32 (0, 0)) := alloc_keep (alloc_new' _ _ _ (by simp))
  have B3 : ((((w.alloc (.cells #[.int .i64 sz, .slice pa pn pc, .slice ea en ec] 32)).alloc (.cells #[.int .i64 ck, .int .i64 cs, .int .i64 cn, .int .i64 cl] 49)).alloc (.cells #[.int .i64 0, .slice none 0 0, .slice none 0 0] 32)).alloc (.cells #[.int .i64 0, .int .i64 0, .int .i64 0, .int .i64 0] 49)).heap[w.heap.size + 1 + 1 + 1]? = some (.cells #[.int .i64 0, .int .i64 0, .int .i64 0, .int .i64 0] 49 (0, 0)) := alloc_new' _ _ _ (by simp)
  have T0 : Hid ((Fl.takeP m ⟨ck, cs, cn, cl⟩) = if (Fl.reserveP m ⟨ck, cs, cn, cl⟩).2.2 ≠ 0 then (Fl.none_, Fl.noCtr, 0, (Fl.reserveP m ⟨ck, cs, cn, cl⟩).2.2) else ((if (Fl.reserveP m ⟨ck, cs, cn, cl⟩).2.1 ≠ cl then (Fl.putP m ck (Fl.reserveP m ⟨ck, cs, cn, cl⟩).2.1).1 else m), ⟨ck, cs, (Fl.reserveP m ⟨ck, cs, cn, cl⟩).1 + 1, (Fl.reserveP m ⟨ck, cs, cn, cl⟩).2.1⟩, (Fl.reserveP m ⟨ck, cs, cn, cl⟩).1, 0)) := rfl
  have RO := Lib.hid (@Fl.reserveP_ok m ⟨ck, cs, cn, cl⟩)
  go_enter Try.func51, Try.ntmps51
  go_upto_region 1 with fail
  generalize ((((w.alloc (.cells #[.int .i64 sz, .slice pa pn pc, .slice ea en ec] 32)).alloc (.cells #[.int .i64 ck, .int .i64 cs, .int .i64 cn, .int .i64 cl] 49)).alloc (.cells #[.int .i64 0, .slice none 0 0, .slice none 0 0] 32)).alloc (.cells #[.int .i64 0, .int .i64 0, .int .i64 0, .int .i64 0] 49)) = w1 at *
  have HF := Lib.hid (h.below P1)
  have c1 := cell_of_arr B0 0
  have c2 := cell_of_arr B0 1
  have c3 := cell_of_arr B0 2
  simp at c1 c2 c3
  have k1 := cell_of_arr B1 0
  have k2 := cell_of_arr B1 1
  have k3 := cell_of_arr B1 2
  have k4 := cell_of_arr B1 3
  simp at k1 k2 k3 k4
  have HP1 := Lib.hid P1
  have HB0 := Lib.hid B0
  have HB1 := Lib.hid B1
  have HB2 := Lib.hid B2
  have HB3 := Lib.hid B3
  clear P1 B0 B1 B2 B3 h
  go_wp2_with fail
  refine (reserveR_any sz pa pn pc ea en ec ck cs cn cl m w1 HF.out cl2).mono ?_
  rintro e w2 ⟨rfl, hw2⟩
  have HP2 := Lib.hid (pure_trans HP1.out hw2)
  have HF2 := Lib.hid (HF.out.below hw2)
  have B0 := Below.keep hw2 HB0.out (lt_of_block HB0.out)
  have B1 := Below.keep hw2 HB1.out (lt_of_block HB1.out)
  have B2 := Below.keep hw2 HB2.out (lt_of_block HB2.out)
  have B3 := Below.keep hw2 HB3.out (lt_of_block HB3.out)
  clear hw2 HB0 HB1 HB2 HB3 HP1 HF c1 c2 c3 k1 k2 k3 k4
  by_cases he : (Fl.reserveP m ⟨ck, cs, cn, cl⟩).2.2 = 0
  rotate_left
  · have R1 : Hid ((Fl.takeP m ⟨ck, cs, cn, cl⟩) = (Fl.none_, Fl.noCtr, 0, (Fl.reserveP m ⟨ck, cs, cn, cl⟩).2.2)) := by show _ = _; rw [T0.out, if_pos he]
    clear T0 RO
    generalize (Fl.reserveP m ⟨ck, cs, cn, cl⟩).2.2 = er at *
    generalize (Fl.reserveP m ⟨ck, cs, cn, cl⟩).2.1 = lm at *
    generalize (Fl.reserveP m ⟨ck, cs, cn, cl⟩).1 = nx at *
    have d1 := cell_of_arr B2 0
    have d2 := cell_of_arr B2 1
    have d3 := cell_of_arr B2 2
    simp at d1 d2 d3
    have f1 := frozen_of_arr B2 0
    have f2 := frozen_of_arr B2 1
    have f3 := frozen_of_arr B2 2
    have e1 := cell_of_arr B3 0
    have e2 := cell_of_arr B3 1
    have e3 := cell_of_arr B3 2
    have e4 := cell_of_arr B3 3
    simp at e1 e2 e3 e4
    have i1 := frozen_of_arr B3 0
    have i2 := frozen_of_arr B3 1
    have i3 := frozen_of_arr B3 2
    have i4 := frozen_of_arr B3 3
    have HB2 := Lib.hid B2
    have HB3 := Lib.hid B3
    clear B0 B1 B2 B3
    go_wp2_with fail
    obtain ⟨S2, S3, S4, S5⟩ := put34 HB2.out HB3.out (by omega) (.int .i64 0) (.slice none 0 0) (.slice none 0 0) (.int .i64 0) (.int .i64 0) (.int .i64 0) (.int .i64 0) _ rfl
    have p1 := cell_of_arr S2 0
    have p2 := cell_of_arr S2 1
    have p3 := cell_of_arr S2 2
    simp at p1 p2 p3
    have q1 := cell_of_arr S3 0
    have q2 := cell_of_arr S3 1
    have q3 := cell_of_arr S3 2
    have q4 := cell_of_arr S3 3
    simp at q1 q2 q3 q4
    refine bodyPost_ret (v := .tuple #[.agg #[.int .i64 0, .slice none 0 0, .slice none 0 0], ctrV Fl.noCtr, .int .i64 0, .int .i64 er]) (by simp [results, Try.results51, go_sem, p1, p2, p3, q1, q2, q3, q4, ctrV, Fl.noCtr]) rfl ?_
    rw [R1.out]
    exact TPost.mk rfl (fun W _ => frep_none W) (S5 _ _ (by omega) (by omega) HP2.out)
  obtain ⟨hv, hco, hnx, hbn⟩ := RO.out he
  have T1 : Hid ((Fl.takeP m ⟨ck, cs, cn, cl⟩) = ((if (Fl.reserveP m ⟨ck, cs, cn, cl⟩).2.1 ≠ cl then (Fl.putP m ck (Fl.reserveP m ⟨ck, cs, cn, cl⟩).2.1).1 else m), ⟨ck, cs, cn + 1, (Fl.reserveP m ⟨ck, cs, cn, cl⟩).2.1⟩, cn, 0)) := by
    show _ = _; rw [T0.out, if_neg (by simpa using he), hnx]
  have hcn : 0 ≤ cn ∧ cn ≤ 9223372036854775806 := by simp [Fl.ctrOk] at hco; omega
  clear T0 RO hco hbn
  obtain ⟨hcn1, hcn2⟩ := hcn
  rw [he, hnx]
  clear he hnx
  generalize (Fl.reserveP m ⟨ck, cs, cn, cl⟩).2.1 = lm at *
  have V := vfacts hv
  have hlen : ∀ i, i < pn → (m.pages.getD i []).length ≤ 1000 := fun i hi => by
    have h1 := HF2.out.pages.1
    have h2 := rows_len _ _ i V.rows (by omega)
    have h3 := V.size
    omega
  have hpn : pn ≤ 1000 := by have h1 := HF2.out.pages.1; have h2 := V.pages; omega
  have hen : en ≤ 1000 := by have h1 := HF2.out.erased.1; have h2 := V.pages; have h3 := V.lens; omega
  have HCP := Lib.hid (copyR_any sz pa pn pc ea en ec m w2 HF2.out hpn hen hlen)
  clear hlen hpn hen V
  have c1 := cell_of_arr B0 0
  have c2 := cell_of_arr B0 1
  have c3 := cell_of_arr B0 2
  simp at c1 c2 c3
  have k1 := cell_of_arr B1 0
  have k2 := cell_of_arr B1 1
  have k3 := cell_of_arr B1 2
  have k4 := cell_of_arr B1 3
  simp at k1 k2 k3 k4
  have HB0 := Lib.hid B0
  have HB1 := Lib.hid B1
  have HB2 := Lib.hid B2
  have HB3 := Lib.hid B3
  clear B0 B1 B2 B3
  go_wp2_with fail
  refine HCP.out.mono ?_
  rintro e w3 ⟨pv, ev, vs, rfl, hpv, hev, hw3⟩
  have V := vfacts hv
  have hrow := hpv.row
  rw [hpv.len] at hrow
  obtain ⟨pg, pc3, rfl, _, _⟩ := World.ownsRow.form hrow (by have := V.pages; omega)
  obtain ⟨eg, ec3, rfl, _, _⟩ := World.ownsRow.form hev (by have := V.pages; have := V.lens; omega)
  have HREP := Lib.hid (copied_rep hpv hev hv)
  have hsz2 := HF2.out.size
  have HP3 := Lib.hid (pure_trans HP2.out hw3)
  have HF3 := Lib.hid (HF2.out.below hw3)
  have C0 := Below.keep hw3 HB0.out (lt_of_block HB0.out)
  have C1 := Below.keep hw3 HB1.out (lt_of_block HB1.out)
  have C2 := Below.keep hw3 HB2.out (lt_of_block HB2.out)
  have C3 := Below.keep hw3 HB3.out (lt_of_block HB3.out)
  have hl3 := lt_of_block C3
  have hl2 := lt_of_block HB3.out
  have hs23 := hw3.size
  clear hrow hpv hev V hw3 HCP c1 c2 c3 k1 k2 k3 k4 HB0 HB1 HB2 HB3
  have HSZ := Lib.hid hsz2
  clear hsz2
  have PA := pure_alloc w3 (.cells #[.int .i64 sz, .slice (some ⟨pg, 0, none⟩) m.pages.length pc3, .slice (some ⟨eg, 0, none⟩) m.erased.length ec3] 32)
  have N4 := alloc_new w3 (.cells #[.int .i64 sz, .slice (some ⟨pg, 0, none⟩) m.pages.length pc3, .slice (some ⟨eg, 0, none⟩) m.erased.length ec3] 32)
  have E0 := Below.keep PA C0 (lt_of_block C0)
  have D1 := Below.keep PA C1 (lt_of_block C1)
  have D2 := Below.keep PA C2 (lt_of_block C2)
  have D3 := Below.keep PA C3 (lt_of_block C3)
  have HP4 := Lib.hid (pure_trans HP3.out PA)
  have HF4 := Lib.hid (HF3.out.below PA)
  have hs34 := lt_of_block N4
  have REP4 : Hid (∀ W : World, (∀ k, w2.heap.size ≤ k → k < w3.heap.size → W.heap[k]? = (w3.alloc (.cells #[.int .i64 sz, .slice (some ⟨pg, 0, none⟩) m.pages.length pc3, .slice (some ⟨eg, 0, none⟩) m.erased.length ec3] 32)).heap[k]?) → FRep W m.size (some ⟨pg, 0, none⟩) m.pages.length (some ⟨eg, 0, none⟩) m.erased.length m) := by
    show ∀ W : World, _ → _
    exact fun W hW => HREP.out W (fun k h1 h2 => (hW k h1 h2).trans (PA.block k h2))
  go_upto_region 5 with fail
  generalize w3.alloc (.cells #[.int .i64 sz, .slice (some ⟨pg, 0, none⟩) m.pages.length pc3, .slice (some ⟨eg, 0, none⟩) m.erased.length ec3] 32) = w4 at *
  clear PA C0 C1 C2 C3 HREP HP3 HF3 HF2
  by_cases hlm : lm = cl
  · have T2 : Hid ((Fl.takeP m ⟨ck, cs, cn, cl⟩) = (m, ⟨ck, cs, cn + 1, lm⟩, cn, 0)) := by show _ = _; rw [T1.out, if_neg (by simpa using hlm)]
    have hlm' : (lm != cl) = false := by simpa using hlm
    clear T1 hlm E0
    have N5 := N4
    clear N4
    have x1 := cell_of_arr N5 0
    have x2 := cell_of_arr N5 1
    have x3 := cell_of_arr N5 2
    simp at x1 x2 x3
    have k1 := cell_of_arr D1 0
    have k2 := cell_of_arr D1 1
    have k3 := cell_of_arr D1 2
    have k4 := cell_of_arr D1 3
    simp at k1 k2 k3 k4
    have u1 := frozen_of_arr D1 0
    have u2 := frozen_of_arr D1 1
    have u3 := frozen_of_arr D1 2
    have u4 := frozen_of_arr D1 3
    have d1 := cell_of_arr D2 0
    have d2 := cell_of_arr D2 1
    have d3 := cell_of_arr D2 2
    simp at d1 d2 d3
    have f1 := frozen_of_arr D2 0
    have f2 := frozen_of_arr D2 1
    have f3 := frozen_of_arr D2 2
    have e1 := cell_of_arr D3 0
    have e2 := cell_of_arr D3 1
    have e3 := cell_of_arr D3 2
    have e4 := cell_of_arr D3 3
    simp at e1 e2 e3 e4
    have i1 := frozen_of_arr D3 0
    have i2 := frozen_of_arr D3 1
    have i3 := frozen_of_arr D3 2
    have i4 := frozen_of_arr D3 3
    have HN5 := Lib.hid N5
    have HD1 := Lib.hid D1
    have HD2 := Lib.hid D2
    have HD3 := Lib.hid D3
    clear N5 D1 D2 D3
    go_upto_region 7 with fail
    have hsum : IntKind.i64.wrap (cn + 1) = cn + 1 := wrap_i64 _ (by omega) (by omega)
    go_region
    clear hsum
    go_wp2_with fail
    have Q := put34 HD2.out HD3.out (by omega) (.int .i64 sz) (.slice (some ⟨pg, 0, none⟩) m.pages.length pc3) (.slice (some ⟨eg, 0, none⟩) m.erased.length ec3) (.int .i64 ck) (.int .i64 cs) (.int .i64 (cn + 1)) (.int .i64 lm) _ rfl
    generalize (((((((w4.setCell ⟨w.heap.size + 1 + 1, 0, none⟩ (.int .i64 sz)).setCell ⟨w.heap.size + 1 + 1, 1, none⟩ (.slice (some ⟨pg, 0, none⟩) m.pages.length pc3)).setCell ⟨w.heap.size + 1 + 1, 2, none⟩ (.slice (some ⟨eg, 0, none⟩) m.erased.length ec3)).setCell ⟨w.heap.size + 1 + 1 + 1, 0, none⟩ (.int .i64 ck)).setCell ⟨w.heap.size + 1 + 1 + 1, 1, none⟩ (.int .i64 cs)).setCell ⟨w.heap.size + 1 + 1 + 1, 2, none⟩ (.int .i64 (cn + 1))).setCell ⟨w.heap.size + 1 + 1 + 1, 3, none⟩ (.int .i64 lm)) = w7 at Q ⊢
    obtain ⟨S2, S3, S4, S5⟩ := Q
    have p1 := cell_of_arr S2 0
    have p2 := cell_of_arr S2 1
    have p3 := cell_of_arr S2 2
    simp at p1 p2 p3
    have q1 := cell_of_arr S3 0
    have q2 := cell_of_arr S3 1
    have q3 := cell_of_arr S3 2
    have q4 := cell_of_arr S3 3
    simp at q1 q2 q3 q4
    refine bodyPost_ret (v := .tuple #[.agg #[.int .i64 sz, .slice (some ⟨pg, 0, none⟩) m.pages.length pc3, .slice (some ⟨eg, 0, none⟩) m.erased.length ec3], .agg #[.int .i64 ck, .int .i64 cs, .int .i64 (cn + 1), .int .i64 lm], .int .i64 cn, .int .i64 0]) (by simp [results, Try.results51, go_sem, p1, p2, p3, q1, q2, q3, q4]) rfl ?_
    rw [T2.out]
    refine TPost.mk rfl (fun W hW => ?_) (below_drew (S5 _ _ (by omega) (by omega) HP4.out))
    rw [HSZ.out]
    refine REP4.out W (fun k h1 h2 => ?_)
    refine (hW k (by omega)).trans ?_
    exact S4 k (by omega) (by omega)
  · have T2 : Hid ((Fl.takeP m ⟨ck, cs, cn, cl⟩) = ((Fl.putP m ck lm).1, ⟨ck, cs, cn + 1, lm⟩, cn, 0)) := by show _ = _; rw [T1.out, if_pos hlm]
    have hlm' : (lm != cl) = true := by simpa using hlm
    clear T1 hlm
    have c1 := cell_of_arr E0 0
    have c2 := cell_of_arr E0 1
    have c3 := cell_of_arr E0 2
    simp at c1 c2 c3
    have k1 := cell_of_arr D1 0
    have k2 := cell_of_arr D1 1
    have k3 := cell_of_arr D1 2
    have k4 := cell_of_arr D1 3
    simp at k1 k2 k3 k4
    have HPUT := Lib.hid (putR_any sz pa pn pc ea en ec ck lm m w4 HF4.out)
    have HN4 := Lib.hid N4
    have HD1 := Lib.hid D1
    have HD2 := Lib.hid D2
    have HD3 := Lib.hid D3
    clear E0 N4 D1 D2 D3
    generalize Fl.putP m ck lm = pv at *
    obtain ⟨mm, er6⟩ := pv
    dsimp only at T2
    go_wp2_with fail
    refine HPUT.out.mono ?_
    rintro e w5 ⟨sz6, pa6, pn6, pc6, ea6, en6, ec6, rfl, hF5, hw5⟩
    dsimp only at hF5 ⊢
    have HF5 := Lib.hid hF5
    have HP5 := Lib.hid (pure_trans HP4.out hw5)
    have N5 := Below.keep hw5 HN4.out (lt_of_block HN4.out)
    have D1 := Below.keep hw5 HD1.out (lt_of_block HD1.out)
    have D2 := Below.keep hw5 HD2.out (lt_of_block HD2.out)
    have D3 := Below.keep hw5 HD3.out (lt_of_block HD3.out)
    clear hF5 hw5 HPUT HN4 HD1 HD2 HD3 c1 c2 c3 k1 k2 k3 k4 HP4 HF4 REP4
    have x1 := cell_of_arr N5 0
    have x2 := cell_of_arr N5 1
    have x3 := cell_of_arr N5 2
    simp at x1 x2 x3
    have y1 := frozen_of_arr N5 0
    have y2 := frozen_of_arr N5 1
    have y3 := frozen_of_arr N5 2
    go_upto_region 7 with fail
    have N6 := three_cells' N5 (.int .i64 sz6) (.slice pa6 pn6 pc6) (.slice ea6 en6 ec6) _ rfl
    have E1 : (((w5.setCell ⟨w3.heap.size, 0, none⟩ (.int .i64 sz6)).setCell ⟨w3.heap.size, 1, none⟩ (.slice pa6 pn6 pc6)).setCell ⟨w3.heap.size, 2, none⟩ (.slice ea6 en6 ec6)).heap[w.heap.size + 1]? = some (.cells #[.int .i64 ck, .int .i64 cs, .int .i64 cn, .int .i64 cl] 49 (0, 0)) := set_other (set_other (set_other D1 (by dsimp only; omega)) (by dsimp only; omega)) (by dsimp only; omega)
    have E2 : (((w5.setCell ⟨w3.heap.size, 0, none⟩ (.int .i64 sz6)).setCell ⟨w3.heap.size, 1, none⟩ (.slice pa6 pn6 pc6)).setCell ⟨w3.heap.size, 2, none⟩ (.slice ea6 en6 ec6)).heap[w.heap.size + 1 + 1]? = some (.cells #[.int .i64 0, .slice none 0 0, .slice none 0 0] 32 (0, 0)) := set_other (set_other (set_other D2 (by dsimp only; omega)) (by dsimp only; omega)) (by dsimp only; omega)
    have E3 : (((w5.setCell ⟨w3.heap.size, 0, none⟩ (.int .i64 sz6)).setCell ⟨w3.heap.size, 1, none⟩ (.slice pa6 pn6 pc6)).setCell ⟨w3.heap.size, 2, none⟩ (.slice ea6 en6 ec6)).heap[w.heap.size + 1 + 1 + 1]? = some (.cells #[.int .i64 0, .int .i64 0, .int .i64 0, .int .i64 0] 49 (0, 0)) := set_other (set_other (set_other D3 (by dsimp only; omega)) (by dsimp only; omega)) (by dsimp only; omega)
    have P6 : Below w.heap.size w (((w5.setCell ⟨w3.heap.size, 0, none⟩ (.int .i64 sz6)).setCell ⟨w3.heap.size, 1, none⟩ (.slice pa6 pn6 pc6)).setCell ⟨w3.heap.size, 2, none⟩ (.slice ea6 en6 ec6)) := ((HP5.out.setCell (by dsimp only; omega) _).setCell (by dsimp only; omega) _).setCell (by dsimp only; omega) _
    have K6 : ∀ k, w4.heap.size ≤ k → (((w5.setCell ⟨w3.heap.size, 0, none⟩ (.int .i64 sz6)).setCell ⟨w3.heap.size, 1, none⟩ (.slice pa6 pn6 pc6)).setCell ⟨w3.heap.size, 2, none⟩ (.slice ea6 en6 ec6)).heap[k]? = w5.heap[k]? := fun k hk => by rw [Below.heap_setCell _ _ _ _ (by dsimp only; omega), Below.heap_setCell _ _ _ _ (by dsimp only; omega), Below.heap_setCell _ _ _ _ (by dsimp only; omega)]
    generalize (((w5.setCell ⟨w3.heap.size, 0, none⟩ (.int .i64 sz6)).setCell ⟨w3.heap.size, 1, none⟩ (.slice pa6 pn6 pc6)).setCell ⟨w3.heap.size, 2, none⟩ (.slice ea6 en6 ec6)) = w6 at *
    clear N5 D1 D2 D3 x1 x2 x3 y1 y2 y3
    have HK6 := Lib.hid K6
    have HP6 := Lib.hid P6
    have N5 := N6
    have D1 := E1
    have D2 := E2
    have D3 := E3
    clear N6 E1 E2 E3 P6 K6
    have x1 := cell_of_arr N5 0
    have x2 := cell_of_arr N5 1
    have x3 := cell_of_arr N5 2
    simp at x1 x2 x3
    have k1 := cell_of_arr D1 0
    have k2 := cell_of_arr D1 1
    have k3 := cell_of_arr D1 2
    have k4 := cell_of_arr D1 3
    simp at k1 k2 k3 k4
    have u1 := frozen_of_arr D1 0
    have u2 := frozen_of_arr D1 1
    have u3 := frozen_of_arr D1 2
    have u4 := frozen_of_arr D1 3
    have d1 := cell_of_arr D2 0
    have d2 := cell_of_arr D2 1
    have d3 := cell_of_arr D2 2
    simp at d1 d2 d3
    have f1 := frozen_of_arr D2 0
    have f2 := frozen_of_arr D2 1
    have f3 := frozen_of_arr D2 2
    have e1 := cell_of_arr D3 0
    have e2 := cell_of_arr D3 1
    have e3 := cell_of_arr D3 2
    have e4 := cell_of_arr D3 3
    simp at e1 e2 e3 e4
    have i1 := frozen_of_arr D3 0
    have i2 := frozen_of_arr D3 1
    have i3 := frozen_of_arr D3 2
    have i4 := frozen_of_arr D3 3
    have HN5 := Lib.hid N5
    have HD1 := Lib.hid D1
    have HD2 := Lib.hid D2
    have HD3 := Lib.hid D3
    clear N5 D1 D2 D3
    go_upto_region 7 with fail
    have hsum : IntKind.i64.wrap (cn + 1) = cn + 1 := wrap_i64 _ (by omega) (by omega)
    go_region
    clear hsum
    go_wp2_with fail
    have Q := put34 HD2.out HD3.out (by omega) (.int .i64 sz6) (.slice pa6 pn6 pc6) (.slice ea6 en6 ec6) (.int .i64 ck) (.int .i64 cs) (.int .i64 (cn + 1)) (.int .i64 lm) _ rfl
    generalize (((((((w6.setCell ⟨w.heap.size + 1 + 1, 0, none⟩ (.int .i64 sz6)).setCell ⟨w.heap.size + 1 + 1, 1, none⟩ (.slice pa6 pn6 pc6)).setCell ⟨w.heap.size + 1 + 1, 2, none⟩ (.slice ea6 en6 ec6)).setCell ⟨w.heap.size + 1 + 1 + 1, 0, none⟩ (.int .i64 ck)).setCell ⟨w.heap.size + 1 + 1 + 1, 1, none⟩ (.int .i64 cs)).setCell ⟨w.heap.size + 1 + 1 + 1, 2, none⟩ (.int .i64 (cn + 1))).setCell ⟨w.heap.size + 1 + 1 + 1, 3, none⟩ (.int .i64 lm)) = w7 at Q ⊢
    obtain ⟨S2, S3, S4, S5⟩ := Q
    have p1 := cell_of_arr S2 0
    have p2 := cell_of_arr S2 1
    have p3 := cell_of_arr S2 2
    simp at p1 p2 p3
    have q1 := cell_of_arr S3 0
    have q2 := cell_of_arr S3 1
    have q3 := cell_of_arr S3 2
    have q4 := cell_of_arr S3 3
    simp at q1 q2 q3 q4
    refine bodyPost_ret (v := .tuple #[.agg #[.int .i64 sz6, .slice pa6 pn6 pc6, .slice ea6 en6 ec6], .agg #[.int .i64 ck, .int .i64 cs, .int .i64 (cn + 1), .int .i64 lm], .int .i64 cn, .int .i64 0]) (by simp [results, Try.results51, go_sem, p1, p2, p3, q1, q2, q3, q4]) rfl ?_
    rw [T2.out]
    refine TPost.mk rfl (fun W hW => ?_) (below_drew (S5 _ _ (by omega) (by omega) HP6.out))
    refine HF5.out W (fun k hk => ?_)
    refine (hW k (by have := HP5.out.size; omega)).trans ?_
    exact (S4 k (by omega) (by omega)).trans (HK6.out k hk)
end Go.Proofs.Ytnfjfifdkmgbdaa
namespace Go.Proofs.Ytnfjfifdkmgbdaa
open Go.RowKit Go.Shelf
/-- Two blocks as they were. -/
def Two (W : World) (b c : Nat) (sz : Int) (pa : Option Addr) (pn pc : Nat) (ea : Option Addr) (en ec : Nat) (ck cs cn cl : Int) : Prop :=
  W.heap[b]? = some (.cells #[.int .i64 sz, .slice pa pn pc, .slice ea en ec] 32 (0, 0)) ∧ W.heap[c]? = some (.cells #[.int .i64 ck, .int .i64 cs, .int .i64 cn, .int .i64 cl] 49 (0, 0))
theorem Two.pure {W W' : World} {b c : Nat} {sz : Int} {pa : Option Addr} {pn pc : Nat} {ea : Option Addr} {en ec : Nat} {ck cs cn cl : Int} (h : Two W b c sz pa pn pc ea en ec ck cs cn cl) (k : Below W.heap.size W W') : Two W' b c sz pa pn pc ea en ec ck cs cn cl := ⟨Below.keep k h.1 (lt_of_block h.1), Below.keep k h.2 (lt_of_block h.2)⟩
theorem Two.cells {W : World} {b c : Nat} {sz : Int} {pa : Option Addr} {pn pc : Nat} {ea : Option Addr} {en ec : Nat} {ck cs cn cl : Int} (h : Two W b c sz pa pn pc ea en ec ck cs cn cl) : W.cell? ⟨b, 0, none⟩ = some (.int .i64 sz) ∧ W.cell? ⟨b, 1, none⟩ = some (.slice pa pn pc) ∧ W.cell? ⟨b, 2, none⟩ = some (.slice ea en ec) ∧ W.cell? ⟨c, 0, none⟩ = some (.int .i64 ck) ∧ W.cell? ⟨c, 1, none⟩ = some (.int .i64 cs) ∧ W.cell? ⟨c, 2, none⟩ = some (.int .i64 cn) ∧ W.cell? ⟨c, 3, none⟩ = some (.int .i64 cl) := by
  have a0 := cell_of_arr h.1 0
  have a1 := cell_of_arr h.1 1
  have a2 := cell_of_arr h.1 2
  have b0 := cell_of_arr h.2 0
  have b1 := cell_of_arr h.2 1
  have b2 := cell_of_arr h.2 2
  have b3 := cell_of_arr h.2 3
  simp at a0 a1 a2 b0 b1 b2 b3
  exact ⟨a0, a1, a2, b0, b1, b2, b3⟩
set_option maxHeartbeats 1600000 in
theorem counts_any (sz : Int) (pa : Option Addr) (pn pc : Nat) (ea : Option Addr) (en ec : Nat) (ck cs cn cl : Int) (m : Fl.Mem) (w : World) (h : FRep w sz pa pn ea en m) (cl2 : cl ≤ 9223372036854775807) :
    Calls Try.prog 28 #[.agg #[.int .i64 sz, .slice pa pn pc, .slice ea en ec], .agg #[.int .i64 ck, .int .i64 cs, .int .i64 cn, .int .i64 cl]] w fun e w' => e = .returned (.bool true) ∧ Below w.heap.size w w' := by
  have P1 : Below w.heap.size w ((w.alloc (.cells #[.int .i64 sz, .slice pa pn pc, .slice ea en ec] 32)).alloc (.cells #[.int .i64 ck, .int .i64 cs, .int .i64 cn, .int .i64 cl] 49)) := (pure_alloc _ _).alloc (by simp) _
  have T1 : Two ((w.alloc (.cells #[.int .i64 sz, .slice pa pn pc, .slice ea en ec] 32)).alloc (.cells #[.int .i64 ck, .int .i64 cs, .int .i64 cn, .int .i64 cl] 49)) w.heap.size (w.heap.size + 1) sz pa pn pc ea en ec ck cs cn cl := ⟨alloc_keep (alloc_new _ _), alloc_new' _ _ _ (by simp)⟩
  go_enter Try.func28, Try.ntmps28
  go_upto_region 1 with fail
  generalize (w.alloc (.cells #[.int .i64 sz, .slice pa pn pc, .slice ea en ec] 32)).alloc (.cells #[.int .i64 ck, .int .i64 cs, .int .i64 cn, .int .i64 cl] 49) = w1 at *
  have HF1 := Lib.hid (h.below P1)
  have HT1 := Lib.hid T1
  have HP1 := Lib.hid P1
  obtain ⟨a0, a1, a2, b0, b1, b2, b3⟩ := T1.cells
  clear h P1 T1
  go_wp2_with fail
  refine (reserve_any sz pa pn pc ea en ec ck cs cn cl m w1 HF1.out cl2).mono ?_
  rintro e w2 ⟨rfl, hw2⟩
  have HF2 := Lib.hid (HF1.out.below hw2)
  have HT2 := Lib.hid (HT1.out.pure hw2)
  have HP2 := Lib.hid (pure_trans HP1.out hw2)
  clear hw2 HF1 HT1 HP1 a0 a1 a2 b0 b1 b2 b3
  obtain ⟨a0, a1, a2, b0, b1, b2, b3⟩ := HT2.out.cells
  have HRR := Lib.hid (reserveR_any sz pa pn pc ea en ec ck cs cn cl m w2 HF2.out cl2)
  generalize (Fl.reserveP m ⟨ck, cs, cn, cl⟩) = rp at HRR ⊢
  obtain ⟨r1, r2, r3⟩ := rp
  dsimp only at HRR ⊢
  go_wp2_with fail
  refine HRR.out.mono ?_
  rintro e w3 ⟨rfl, hw3⟩
  have HF3 := Lib.hid (HF2.out.below hw3)
  have HT3 := Lib.hid (HT2.out.pure hw3)
  have HP3 := Lib.hid (pure_trans HP2.out hw3)
  clear hw3 HF2 HT2 HP2 HRR a0 a1 a2 b0 b1 b2 b3
  obtain ⟨a0, a1, a2, b0, b1, b2, b3⟩ := HT3.out.cells
  have HTT : Hid (∀ W : World, FRep W sz pa pn ea en m → Calls Try.prog 51 #[.agg #[.int .i64 sz, .slice pa pn pc, .slice ea en ec], .agg #[.int .i64 ck, .int .i64 cs, .int .i64 cn, .int .i64 cl]] W (TPost (Fl.takeP m ⟨ck, cs, cn, cl⟩) W)) := by
    show ∀ W : World, _ → _
    exact fun W hW => takeR_any sz pa pn pc ea en ec ck cs cn cl m W hW cl2
  go_wp2_with fail
  refine (take_any sz pa pn pc ea en ec ck cs cn cl m w3 HF3.out cl2).mono ?_
  rintro e w4 ⟨sz4, pa4, pn4, pc4, ea4, en4, ec4, rfl, hF4, hw4⟩
  generalize (Fl.takeP m ⟨ck, cs, cn, cl⟩) = tk at *
  obtain ⟨mm, ⟨tk1, tk2, tk3, tk4⟩, tn, te⟩ := tk
  dsimp only at hF4 ⊢
  simp only [ctrV]
  have PX := (pure_alloc w4 (.cells #[.int .i64 sz4, .slice pa4 pn4 pc4, .slice ea4 en4 ec4] 32)).alloc (by simp) (.cells #[.int .i64 tk1, .int .i64 tk2, .int .i64 tk3, .int .i64 tk4] 49)
  have TX : Two ((w4.alloc (.cells #[.int .i64 sz4, .slice pa4 pn4 pc4, .slice ea4 en4 ec4] 32)).alloc (.cells #[.int .i64 tk1, .int .i64 tk2, .int .i64 tk3, .int .i64 tk4] 49)) w4.heap.size (w4.heap.size + 1) sz4 pa4 pn4 pc4 ea4 en4 ec4 tk1 tk2 tk3 tk4 := ⟨alloc_keep (alloc_new _ _), alloc_new' _ _ _ (by simp)⟩
  have HG5 := Lib.hid ((hF4 w4 (fun _ _ => rfl)).below PX)
  have HF5 := Lib.hid ((HF3.out.below hw4).below PX)
  have HT5 := Lib.hid ((HT3.out.pure hw4).pure PX)
  have HP5 := Lib.hid (pure_trans (pure_trans HP3.out hw4) PX)
  have HX5 := Lib.hid TX
  clear hF4 hw4 PX TX HF3 HT3 HP3 a0 a1 a2 b0 b1 b2 b3
  go_upto_region 4 with fail
  generalize (w4.alloc (.cells #[.int .i64 sz4, .slice pa4 pn4 pc4, .slice ea4 en4 ec4] 32)).alloc (.cells #[.int .i64 tk1, .int .i64 tk2, .int .i64 tk3, .int .i64 tk4] 49) = w5 at *
  generalize w4.heap.size = X at *
  obtain ⟨a0, a1, a2, b0, b1, b2, b3⟩ := HT5.out.cells
  go_wp2_with fail
  refine (HTT.out w5 HF5.out).mono ?_
  rintro e w6 ⟨sz6, pa6, pn6, pc6, ea6, en6, ec6, rfl, hF6, hw6⟩
  dsimp only at hF6 ⊢
  simp only [ctrV]
  have PX := (pure_alloc w6 (.cells #[.int .i64 sz6, .slice pa6 pn6 pc6, .slice ea6 en6 ec6] 32)).alloc (by simp) (.cells #[.int .i64 tk1, .int .i64 tk2, .int .i64 tk3, .int .i64 tk4] 49)
  have TX : Two ((w6.alloc (.cells #[.int .i64 sz6, .slice pa6 pn6 pc6, .slice ea6 en6 ec6] 32)).alloc (.cells #[.int .i64 tk1, .int .i64 tk2, .int .i64 tk3, .int .i64 tk4] 49)) w6.heap.size (w6.heap.size + 1) sz6 pa6 pn6 pc6 ea6 en6 ec6 tk1 tk2 tk3 tk4 := ⟨alloc_keep (alloc_new _ _), alloc_new' _ _ _ (by simp)⟩
  have HH7 := Lib.hid ((hF6 w6 (fun _ _ => rfl)).below PX)
  have HG7 := Lib.hid ((HG5.out.below hw6).below PX)
  have HX7 := Lib.hid ((HX5.out.pure hw6).pure PX)
  have HP7 := Lib.hid (pure_trans (pure_trans HP5.out hw6) PX)
  have HY7 := Lib.hid TX
  clear hF6 hw6 PX TX HG5 HX5 HF5 HT5 HP5 HTT a0 a1 a2 b0 b1 b2 b3
  go_upto_region 5 with fail
  generalize (w6.alloc (.cells #[.int .i64 sz6, .slice pa6 pn6 pc6, .slice ea6 en6 ec6] 32)).alloc (.cells #[.int .i64 tk1, .int .i64 tk2, .int .i64 tk3, .int .i64 tk4] 49) = w7 at *
  generalize w6.heap.size = Y at *
  obtain ⟨a0, a1, a2, b0, b1, b2, b3⟩ := HX7.out.cells
  obtain ⟨c0, c1, c2, d0, d1, d2, d3⟩ := HY7.out.cells
  have HSM := Lib.hid (same_eq sz4 pa4 pn4 pc4 ea4 en4 ec4 sz6 pa6 pn6 pc6 ea6 en6 ec6 mm w7 HG7.out HH7.out)
  go_wp2_with fail
  refine HSM.out.mono ?_
  rintro e w8 ⟨rfl, hw8⟩
  have HP8 := Lib.hid (pure_trans HP7.out hw8)
  have HX8 := Lib.hid (HX7.out.pure hw8)
  have HY8 := Lib.hid (HY7.out.pure hw8)
  clear hw8 HSM a0 a1 a2 b0 b1 b2 b3 c0 c1 c2 d0 d1 d2 d3 HX7 HY7 HP7 HG7 HH7
  obtain ⟨a0, a1, a2, b0, b1, b2, b3⟩ := HX8.out.cells
  obtain ⟨c0, c1, c2, d0, d1, d2, d3⟩ := HY8.out.cells
  go_wp2_with fail
  go_ret
  exact ⟨rfl, HP8.out⟩
end Go.Proofs.Ytnfjfifdkmgbdaa
namespace Go.Proofs.Ytnfjfifdkmgbdaa
open Go.RowKit Go.Shelf
theorem OwnF.byte {w : World} {base X g pc : Nat} {m : Fl.Mem} {ea : Option Addr} {ec : Nat} {vs : List Value} (h : OwnF w base X m (some ⟨g, 0, none⟩) pc ea ec vs) {i : Nat} (hi : i < m.pages.length) {gb L c : Nat} (hv : vs.getD i undef = .slice (some ⟨gb, 0, none⟩) L c) {k : Nat} (hk : k < L) (y : UInt8) :
    OwnF (w.setCell ⟨gb, k, none⟩ (bv y)) base X (Fl.setPage m i ((m.pages.getD i []).set k y)) (some ⟨g, 0, none⟩) pc ea ec vs := by
  have hl := h.pages.len
  have hiv : i < vs.length := by omega
  have he := h.pages.each i hiv
  have ho : (vs.getD i undef).ownBlock = some gb := by rw [hv]; rfl
  have hbX : gb ≠ X := (h.blk (.inr (.inr ⟨i, hiv, ho⟩))).2.2
  obtain ⟨_, _, cur, hgc⟩ := own_lt he ho
  have hgg : g ≠ gb := fun e => by
    obtain ⟨_, _, cur', hc'⟩ := own_lt h.pages.row (g := g) rfl
    exact kind_ne hgc hc' (by decide) e.symm
  have heL : (m.pages.getD i []).length = L := by
    have := he
    rw [hv] at this
    exact (OwnB.bs' this).1
  refine ⟨?_, ⟨?_, ?_, fun j hj => ?_, h.pages.apart⟩, ?_⟩
  · have := set_other (a := ⟨gb, k, none⟩) (v := bv y) h.box (Ne.symm hbX)
    rw [this]; simp [Fl.setPage]
  · have := own_keep (w' := w.setCell ⟨gb, k, none⟩ (bv y)) h.pages.row (fun q hq => Below.heap_setCell _ _ _ _ (by cases hq; exact hgg))
    simpa [Fl.setPage] using this
  · simpa [Fl.setPage] using hl
  · by_cases e : j = i
    · subst e
      have h1 : (Fl.setPage m j ((m.pages.getD j []).set k y)).pages.getD j [] = (m.pages.getD j []).set k y := setPage_get m j _ hi
      rw [h1, hv]
      rw [hv] at he
      unfold OwnB at he ⊢
      rw [heL] at he
      have := own_set he k hk (bv y)
      rw [List.length_set, heL, List.map_set]
      exact this
    · have h1 : (Fl.setPage m i ((m.pages.getD i []).set k y)).pages.getD j [] = m.pages.getD j [] := by simp [Fl.setPage, List.getElem?_set_ne (Ne.symm e)]
      rw [h1]
      refine own_keep (h.pages.each j hj) (fun q hq => Below.heap_setCell _ _ _ _ (fun e2 => ?_))
      have e2' : q = gb := e2
      subst e2'
      rcases Nat.lt_or_gt_of_ne e with hlt | hlt
      · exact h.pages.apart j i q hlt hiv hq ho
      · exact h.pages.apart i j q hlt hj ho hq
  · refine own_keep h.erased (fun q hq => Below.heap_setCell _ _ _ _ (fun e2 => ?_))
    obtain ⟨_, _, cur', hc'⟩ := own_lt h.erased hq
    have e2' : q = gb := e2
    subst e2'
    exact kind_ne hgc hc' (by decide) rfl
end Go.Proofs.Ytnfjfifdkmgbdaa
