/- The walk of Put. -/
import Derived.Test.YtnfjfifdkmgbdaaWv
namespace Go.Proofs.Ytnfjfifdkmgbdaa
open Go.RowKit Go.Shelf
namespace Fl
/-- What Put answers. -/
def putP (m : Mem) (key v : Int) : Mem × Int := if (stepsRes m key v).2 ≠ 0 then (none_, (stepsRes m key v).2) else (runs m (stepsP m key v), 0)
theorem putP_torn (m : Mem) (key v : Int) (h : (stepsRes m key v).2 = 0) : tornP m key v (stepsRes m key v).1 = putP m key v := by
  have hn : (stepsRes m key v).1 = ((stepsP m key v).length : Int) := by
    unfold stepsRes at h ⊢
    cases h1 : validP m <;> cases h2 : argsOk key v <;> simp [h1, h2] at h ⊢
    cases h3 : wornP m (stepsP m key v) <;> simp [h3] at h ⊢
  unfold tornP putP
  rw [if_neg (by simp [h]), if_neg (by omega), if_neg (by simp [h]), hn, Int.toNat_natCast, List.take_length]
end Fl
theorem three_cells {w : World} {b : Nat} (h : w.heap[b]? = some (.cells #[.int .i64 0, .slice none 0 0, .slice none 0 0] 32 (0, 0))) (x y z : Value) (w' : World) (hw : w' = ((w.setCell ⟨b, 0, none⟩ x).setCell ⟨b, 1, none⟩ y).setCell ⟨b, 2, none⟩ z) :
    w'.heap[b]? = some (.cells #[x, y, z] 32 (0, 0)) := by
  rw [hw, set_arr (set_arr (set_arr h 0 x) 1 y) 2 z]; simp
set_option maxHeartbeats 1600000 in
theorem put_any (sz : Int) (pa : Option Addr) (pn pc : Nat) (ea : Option Addr) (en ec : Nat) (key v : Int) (m : Fl.Mem) (w : World) (h : FRep w sz pa pn ea en m) :
    Calls Try.prog 32 #[.agg #[.int .i64 sz, .slice pa pn pc, .slice ea en ec], .int .i64 key, .int .i64 v] w (FPost (Fl.putP m key v) w) := by
  have P1 : Below w.heap.size w ((w.alloc (.cells #[.int .i64 sz, .slice pa pn pc, .slice ea en ec] 32)).alloc (.cells #[.int .i64 0, .slice none 0 0, .slice none 0 0] 32)) := (pure_alloc _ _).alloc (by simp) _
  have B0 : ((w.alloc (.cells #[.int .i64 sz, .slice pa pn pc, .slice ea en ec] 32)).alloc (.cells #[.int .i64 0, .slice none 0 0, .slice none 0 0] 32)).heap[w.heap.size]? = some (.cells #[.int .i64 sz, .slice pa pn pc, .slice ea en ec] 32 (0, 0)) := alloc_keep (alloc_new _ _)
  have B1 : ((w.alloc (.cells #[.int .i64 sz, .slice pa pn pc, .slice ea en ec] 32)).alloc (.cells #[.int .i64 0, .slice none 0 0, .slice none 0 0] 32)).heap[w.heap.size + 1]? = some (.cells #[.int .i64 0, .slice none 0 0, .slice none 0 0] 32 (0, 0)) := alloc_new' _ _ _ (by simp)
  go_enter Try.func32, Try.ntmps32
  go_upto_region 1 with fail
  generalize (w.alloc (.cells #[.int .i64 sz, .slice pa pn pc, .slice ea en ec] 32)).alloc (.cells #[.int .i64 0, .slice none 0 0, .slice none 0 0] 32) = w1 at *
  have HF := Lib.hid (h.below P1)
  have c1 := cell_of_arr B0 0
  have c2 := cell_of_arr B0 1
  have c3 := cell_of_arr B0 2
  simp at c1 c2 c3
  have HP1 := Lib.hid P1
  have HB0 := Lib.hid B0
  have HB1 := Lib.hid B1
  clear P1 B0 B1 h
  go_wp2_with fail
  refine (steps_any sz pa pn pc ea en ec key v m w1 HF.out).mono ?_
  rintro e w2 ⟨rfl, hw2⟩
  have HP2 := Lib.hid (pure_trans HP1.out hw2)
  have HF2 := Lib.hid (HF.out.below hw2)
  have B0 := Below.keep hw2 HB0.out (lt_of_block HB0.out)
  have B1 := Below.keep hw2 HB1.out (lt_of_block HB1.out)
  clear hw2 HB0 HB1 HP1 HF c1 c2 c3
  have c1 := cell_of_arr B0 0
  have c2 := cell_of_arr B0 1
  have c3 := cell_of_arr B0 2
  have d1 := cell_of_arr B1 0
  have d2 := cell_of_arr B1 1
  have d3 := cell_of_arr B1 2
  have f1 := frozen_of_arr B1 0
  have f2 := frozen_of_arr B1 1
  have f3 := frozen_of_arr B1 2
  simp at c1 c2 c3 d1 d2 d3
  have HB1 := Lib.hid B1
  clear B0 B1
  by_cases he : (stepsRes m key v).2 = 0
  · have R1 := Lib.hid (Fl.putP_torn m key v he)
    have HT := Lib.hid (torn_any sz pa pn pc ea en ec key v (stepsRes m key v).1 m w2 HF2.out)
    rw [he]
    generalize (stepsRes m key v).1 = ln at *
    clear he
    go_wp2_with fail
    refine HT.out.mono ?_
    rintro e w3 ⟨sz', pa', pn', pc', ea', en', ec', rfl, hF3, hw3⟩
    have HF3 := Lib.hid hF3
    have hl2 := lt_of_block HB1.out
    have HP3 := Lib.hid (pure_trans HP2.out hw3)
    have B1 := Below.keep hw3 HB1.out (lt_of_block HB1.out)
    have HW3 := Lib.hid hw3
    clear hw3 hF3 HT c1 c2 c3 d1 d2 d3 f1 f2 f3
    have d1 := cell_of_arr B1 0
    have d2 := cell_of_arr B1 1
    have d3 := cell_of_arr B1 2
    have f1 := frozen_of_arr B1 0
    have f2 := frozen_of_arr B1 1
    have f3 := frozen_of_arr B1 2
    simp at d1 d2 d3
    rw [R1.out] at HF3 ⊢
    generalize Fl.putP m key v = pv at *
    obtain ⟨mm, er⟩ := pv
    dsimp only at HF3 ⊢
    go_wp2_with fail
    have S3 := three_cells B1 (.int .i64 sz') (.slice pa' pn' pc') (.slice ea' en' ec') _ rfl
    have g1 := cell_of_arr S3 0
    have g2 := cell_of_arr S3 1
    have g3 := cell_of_arr S3 2
    simp at g1 g2 g3
    refine bodyPost_ret (v := .tuple #[.agg #[.int .i64 sz', .slice pa' pn' pc', .slice ea' en' ec'], .int .i64 er]) (by simp [results, Try.results32, go_sem, g1, g2, g3]) rfl ?_
    refine FPost.mk rfl ?_ (((HP3.out.setCell (by simp) _).setCell (by simp) _).setCell (by simp) _)
    exact fun W hW => HF3.out W fun k hk => (hW k (by have := HP2.out.size; omega)).trans (by rw [Below.heap_setCell _ _ _ _ (by simp; omega), Below.heap_setCell _ _ _ _ (by simp; omega), Below.heap_setCell _ _ _ _ (by simp; omega)])
  · have R1 : Hid (Fl.putP m key v = (Fl.none_, (stepsRes m key v).2)) := by show _ = _; unfold Fl.putP; rw [if_pos he]
    generalize (stepsRes m key v).2 = er at *
    generalize (stepsRes m key v).1 = ln at *
    go_wp2_with fail
    have S3 := three_cells HB1.out (.int .i64 0) (.slice none 0 0) (.slice none 0 0) _ rfl
    have g1 := cell_of_arr S3 0
    have g2 := cell_of_arr S3 1
    have g3 := cell_of_arr S3 2
    simp at g1 g2 g3
    refine bodyPost_ret (v := .tuple #[.agg #[.int .i64 0, .slice none 0 0, .slice none 0 0], .int .i64 er]) (by simp [results, Try.results32, go_sem, g1, g2, g3]) rfl ?_
    rw [R1.out]
    exact FPost.mk rfl (fun W _ => frep_none W) (((HP2.out.setCell (by simp) _).setCell (by simp) _).setCell (by simp) _)
end Go.Proofs.Ytnfjfifdkmgbdaa
