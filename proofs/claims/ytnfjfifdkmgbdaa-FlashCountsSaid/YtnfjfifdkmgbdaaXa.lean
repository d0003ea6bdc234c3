/- Walks of Open and Reserve. -/
import Derived.Test.YtnfjfifdkmgbdaaWx
namespace Go.Proofs.Ytnfjfifdkmgbdaa
open Go.RowKit Go.Shelf
namespace Fl
structure Ctr where
  key : Int
  step : Int
  next : Int
  limit : Int
def noCtr : Ctr := ⟨0, 0, 0, 0⟩
def openOk (m : Mem) (key step : Int) : Bool := validP m && decide (0 ≤ key ∧ key ≤ 15 ∧ 1 ≤ step ∧ step ≤ 65536)
/-- What Open answers. -/
def openP (m : Mem) (key step : Int) : Ctr × Int := if openOk m key step then (⟨key, step, (getP m key).1, (getP m key).1⟩, 0) else (noCtr, 1)
def ctrOk (c : Ctr) : Bool := decide (0 ≤ c.key ∧ c.key ≤ 15 ∧ 1 ≤ c.step ∧ c.step ≤ 65536 ∧ 0 ≤ c.next ∧ c.next ≤ c.limit)
/-- What Reserve answers: the number, the limit, the error. -/
def reserveP (m : Mem) (c : Ctr) : Int × Int × Int :=
  if validP m && ctrOk c then
    if c.next < c.limit then (c.next, c.limit, 0)
    else if 1099511627775 < c.limit + c.step then (0, 0, 43)
    else if (stepsRes m c.key (c.limit + c.step)).2 ≠ 0 then (0, 0, (stepsRes m c.key (c.limit + c.step)).2)
    else (c.next, c.limit + c.step, 0)
  else (0, 0, 1)
end Fl
def ctrV (c : Fl.Ctr) : Value := .agg #[.int .i64 c.key, .int .i64 c.step, .int .i64 c.next, .int .i64 c.limit]
theorem four_cells {w : World} {b : Nat} (h : w.heap[b]? = some (.cells #[.int .i64 0, .int .i64 0, .int .i64 0, .int .i64 0] 49 (0, 0))) (x y z u : Value) (w' : World) (hw : w' = (((w.setCell ⟨b, 0, none⟩ x).setCell ⟨b, 1, none⟩ y).setCell ⟨b, 2, none⟩ z).setCell ⟨b, 3, none⟩ u) :
    w'.heap[b]? = some (.cells #[x, y, z, u] 49 (0, 0)) := by
  rw [hw, set_arr (set_arr (set_arr (set_arr h 0 x) 1 y) 2 z) 3 u]; simp
set_option maxHeartbeats 1600000 in
theorem open_any (sz : Int) (pa : Option Addr) (pn pc : Nat) (ea : Option Addr) (en ec : Nat) (key step : Int) (m : Fl.Mem) (w : World) (h : FRep w sz pa pn ea en m) :
    Calls Try.prog 26 #[.agg #[.int .i64 sz, .slice pa pn pc, .slice ea en ec], .int .i64 key, .int .i64 step] w fun e w' => e = .returned (.tuple #[ctrV (Fl.openP m key step).1, .int .i64 (Fl.openP m key step).2]) ∧ Below w.heap.size w w' := by
  have P1 : Below w.heap.size w ((w.alloc (.cells #[.int .i64 sz, .slice pa pn pc, .slice ea en ec] 32)).alloc (.cells #[.int .i64 0, .int .i64 0, .int .i64 0, .int .i64 0] 49)) := (pure_alloc _ _).alloc (by simp) _
  have B0 : ((w.alloc (.cells #[.int .i64 sz, .slice pa pn pc, .slice ea en ec] 32)).alloc (.cells #[.int .i64 0, .int .i64 0, .int .i64 0, .int .i64 0] 49)).heap[w.heap.size]? = some (.cells #[.int .i64 sz, .slice pa pn pc, .slice ea en ec] 32 (0, 0)) := alloc_keep (alloc_new _ _)
  have B1 : ((w.alloc (.cells #[.int .i64 sz, .slice pa pn pc, .slice ea en ec] 32)).alloc (.cells #[.int .i64 0, .int .i64 0, .int .i64 0, .int .i64 0] 49)).heap[w.heap.size + 1]? = some (.cells #[.int .i64 0, .int .i64 0, .int .i64 0, .int .i64 0] 49 (0, 0)) := alloc_new' _ _ _ (by simp)
  go_enter Try.func26, Try.ntmps26
  go_upto_region 1 with fail
  generalize (w.alloc (.cells #[.int .i64 sz, .slice pa pn pc, .slice ea en ec] 32)).alloc (.cells #[.int .i64 0, .int .i64 0, .int .i64 0, .int .i64 0] 49) = w1 at *
  have HF := Lib.hid (h.below P1)
  have c1 := cell_of_arr B0 0
  have c2 := cell_of_arr B0 1
  have c3 := cell_of_arr B0 2
  simp at c1 c2 c3
  have HP1 := Lib.hid P1
  have HB0 := Lib.hid B0
  have HB1 := Lib.hid B1
  clear P1 B0 B1 h
  go_wp2_with fail
  refine (valid_any sz pa pn pc ea en ec m w1 HF.out).mono ?_
  rintro e w2 ⟨rfl, hw2⟩
  have HP2 := Lib.hid (pure_trans HP1.out hw2)
  have HF2 := Lib.hid (HF.out.below hw2)
  have B0 := Below.keep hw2 HB0.out (lt_of_block HB0.out)
  have B1 := Below.keep hw2 HB1.out (lt_of_block HB1.out)
  clear hw2 HB0 HB1 HP1 HF c1 c2 c3
  have c1 := cell_of_arr B0 0
  have c2 := cell_of_arr B0 1
  have c3 := cell_of_arr B0 2
  have d1 := cell_of_arr B1 0
  have d2 := cell_of_arr B1 1
  have d3 := cell_of_arr B1 2
  have d4 := cell_of_arr B1 3
  have f1 := frozen_of_arr B1 0
  have f2 := frozen_of_arr B1 1
  have f3 := frozen_of_arr B1 2
  have f4 := frozen_of_arr B1 3
  simp at c1 c2 c3 d1 d2 d3 d4
  have HB1 := Lib.hid B1
  have HB0 := Lib.hid B0
  clear B0 B1
  by_cases hok : 0 ≤ key ∧ key ≤ 15 ∧ 1 ≤ step ∧ step ≤ 65536
  · cases hv : Fl.validP m
    · have R1 : Hid (Fl.openP m key step = (Fl.noCtr, 1)) := by show _ = _; unfold Fl.openP Fl.openOk; rw [hv]; rfl
      go_wp2_with fail
      have S3 := four_cells HB1.out (.int .i64 0) (.int .i64 0) (.int .i64 0) (.int .i64 0) _ rfl
      have g1 := cell_of_arr S3 0
      have g2 := cell_of_arr S3 1
      have g3 := cell_of_arr S3 2
      have g4 := cell_of_arr S3 3
      simp at g1 g2 g3 g4
      refine bodyPost_ret (v := .tuple #[ctrV Fl.noCtr, .int .i64 1]) (by simp [results, Try.results26, go_sem, g1, g2, g3, g4, ctrV, Fl.noCtr]) rfl ?_
      rw [R1.out]
      exact ⟨rfl, ((((HP2.out.setCell (by simp) _).setCell (by simp) _).setCell (by simp) _).setCell (by simp) _)⟩
    · have R1 : Hid (Fl.openP m key step = (⟨key, step, (Fl.getP m key).1, (Fl.getP m key).1⟩, 0)) := by
        show _ = _; unfold Fl.openP Fl.openOk; rw [hv]; simp [hok]
      obtain ⟨o1, o2, o3, o4⟩ := hok
      go_wp2_with fail
      refine (get_any sz pa pn pc ea en ec key m w2 HF2.out).mono ?_
      rintro e w3 ⟨rfl, hw3⟩
      have HP3 := Lib.hid (pure_trans HP2.out hw3)
      have B1 := Below.keep hw3 HB1.out (lt_of_block HB1.out)
      clear hw3 HB1 HB0 c1 c2 c3 d1 d2 d3 d4 f1 f2 f3 f4
      have d1 := cell_of_arr B1 0
      have d2 := cell_of_arr B1 1
      have d3 := cell_of_arr B1 2
      have d4 := cell_of_arr B1 3
      have f1 := frozen_of_arr B1 0
      have f2 := frozen_of_arr B1 1
      have f3 := frozen_of_arr B1 2
      have f4 := frozen_of_arr B1 3
      simp at d1 d2 d3 d4
      have HB1 := Lib.hid B1
      clear B1
      go_wp2_with fail
      have S3 := four_cells HB1.out (.int .i64 key) (.int .i64 step) (.int .i64 (Fl.getP m key).1) (.int .i64 (Fl.getP m key).1) _ rfl
      have g1 := cell_of_arr S3 0
      have g2 := cell_of_arr S3 1
      have g3 := cell_of_arr S3 2
      have g4 := cell_of_arr S3 3
      simp at g1 g2 g3 g4
      refine bodyPost_ret (v := .tuple #[.agg #[.int .i64 key, .int .i64 step, .int .i64 (Fl.getP m key).1, .int .i64 (Fl.getP m key).1], .int .i64 0]) (by simp [results, Try.results26, go_sem, g1, g2, g3, g4]) rfl ?_
      rw [R1.out]
      exact ⟨rfl, ((((HP3.out.setCell (by simp) _).setCell (by simp) _).setCell (by simp) _).setCell (by simp) _)⟩
  · have R1 : Hid (Fl.openP m key step = (Fl.noCtr, 1)) := by show _ = _; unfold Fl.openP Fl.openOk; rw [if_neg (by simp; intro _; omega)]
    have HOK := Lib.hid hok
    clear hok
    cases hv : Fl.validP m
    all_goals
      go_wp2_with fail
      all_goals first
        | (exfalso; have := HOK.out; omega)
        | (have S3 := four_cells HB1.out (.int .i64 0) (.int .i64 0) (.int .i64 0) (.int .i64 0) _ rfl
           have g1 := cell_of_arr S3 0
           have g2 := cell_of_arr S3 1
           have g3 := cell_of_arr S3 2
           have g4 := cell_of_arr S3 3
           simp at g1 g2 g3 g4
           refine bodyPost_ret (v := .tuple #[ctrV Fl.noCtr, .int .i64 1]) (by simp [results, Try.results26, go_sem, g1, g2, g3, g4, ctrV, Fl.noCtr]) rfl ?_
           rw [R1.out]
           exact ⟨rfl, ((((HP2.out.setCell (by simp) _).setCell (by simp) _).setCell (by simp) _).setCell (by simp) _)⟩)
end Go.Proofs.Ytnfjfifdkmgbdaa
