/- The walk of awake, and small functions. -/
import Derived.Test.YtnfjfifdkmgbdaaWw
namespace Go.Proofs.Ytnfjfifdkmgbdaa
open Go.RowKit Go.Shelf
theorem awake_fact : (Fl.formatP 160 2).2 = 0 ∧ (Fl.putP (Fl.formatP 160 2).1 3 258).2 = 0 ∧ Fl.getP (Fl.putP (Fl.formatP 160 2).1 3 258).1 3 = (258, true) ∧ (Fl.record 3 258).length = 8 := by
  refine ⟨?_, ?_, ?_, ?_⟩ <;> decide +kernel
set_option maxHeartbeats 800000 in
theorem awake_any (w : World) : Calls Try.prog 9 #[] w fun e w' => e = .returned (.bool true) ∧ Below w.heap.size w w' := by
  obtain ⟨A1, A2, A3, A4⟩ := awake_fact
  go_enter Try.func9, Try.ntmps9
  go_wp2_with fail
  refine (format_any 160 2 w (by omega) (by omega) (by omega) (by omega)).mono ?_
  rintro e w2 ⟨sz, pa, pn, pc, ea, en, ec, rfl, hF, hw2⟩
  rw [A1]
  have HF := Lib.hid (hF w2 (fun _ _ => rfl))
  have HW2 := Lib.hid hw2
  clear hF hw2 A1
  go_upto_region 2 with fail
  have P3 := HW2.out.alloc HW2.out.size (.cells #[.int .i64 sz, .slice pa pn pc, .slice ea en ec] 32)
  have HF3 := HF.out.below (pure_alloc w2 (.cells #[.int .i64 sz, .slice pa pn pc, .slice ea en ec] 32))
  have B := alloc_new w2 (.cells #[.int .i64 sz, .slice pa pn pc, .slice ea en ec] 32)
  generalize w2.alloc (.cells #[.int .i64 sz, .slice pa pn pc, .slice ea en ec] 32) = w3 at *
  have c1 := cell_of_arr B 0
  have c2 := cell_of_arr B 1
  have c3 := cell_of_arr B 2
  simp at c1 c2 c3
  have HP := Lib.hid (put_any sz pa pn pc ea en ec 3 258 _ w3 HF3)
  have HP3 := Lib.hid P3
  clear P3 HF3 B
  go_wp2_with fail
  refine HP.out.mono ?_
  rintro e w4 ⟨sz4, pa4, pn4, pc4, ea4, en4, ec4, rfl, hF4, hw4⟩
  rw [A2]
  have HF4 := Lib.hid (hF4 w4 (fun _ _ => rfl))
  have HP4 := Lib.hid (pure_trans HP3.out hw4)
  clear hF4 hw4 A2 HP c1 c2 c3
  go_upto_region 3 with fail
  have P5 := HP4.out.alloc HP4.out.size (.cells #[.int .i64 sz4, .slice pa4 pn4 pc4, .slice ea4 en4 ec4] 32)
  have HF5 := HF4.out.below (pure_alloc w4 (.cells #[.int .i64 sz4, .slice pa4 pn4 pc4, .slice ea4 en4 ec4] 32))
  have B := alloc_new w4 (.cells #[.int .i64 sz4, .slice pa4 pn4 pc4, .slice ea4 en4 ec4] 32)
  generalize w4.alloc (.cells #[.int .i64 sz4, .slice pa4 pn4 pc4, .slice ea4 en4 ec4] 32) = w5 at *
  have c1 := cell_of_arr B 0
  have c2 := cell_of_arr B 1
  have c3 := cell_of_arr B 2
  simp at c1 c2 c3
  have HG := Lib.hid (get_any sz4 pa4 pn4 pc4 ea4 en4 ec4 3 _ w5 HF5)
  have HP5 := Lib.hid P5
  clear P5 HF5 B
  go_wp2_with fail
  refine HG.out.mono ?_
  rintro e w6 ⟨rfl, hw6⟩
  rw [A3]
  have HP6 := Lib.hid (pure_trans HP5.out hw6)
  clear hw6 HG A3 c1 c2 c3
  go_wp2_with fail
  refine (record_any 3 258 w6 (by omega) (by omega) (by omega) (by omega)).mono ?_
  rintro e w7 ⟨v, rfl, hr, hw7⟩
  obtain ⟨a, c, rfl, hb⟩ := hr.bs
  rw [A4]
  have HP7 := Lib.hid (pure_trans HP6.out hw7)
  clear hw7 hr hb A4
  go_wp2_with fail
  go_ret
  exact ⟨rfl, HP7.out⟩
end Go.Proofs.Ytnfjfifdkmgbdaa
