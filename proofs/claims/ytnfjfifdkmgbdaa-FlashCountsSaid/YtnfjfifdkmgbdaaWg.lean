/- The walk of Get. -/
import Derived.Test.YtnfjfifdkmgbdaaWf
namespace Go.Proofs.Ytnfjfifdkmgbdaa
open Go.RowKit

theorem currentP_bd (m : Fl.Mem) : -1 ≤ Fl.currentP m ∧ Fl.currentP m < (m.pages.length : Int) := by
  have := Fl.newestP_bd m.pages (Fl.N m)
  unfold Fl.currentP Fl.newest
  split <;> omega

set_option maxHeartbeats 800000 in
theorem get_any (sz : Int) (pa : Option Addr) (pn pc : Nat) (ea : Option Addr) (en ec : Nat) (key : Int) (m : Fl.Mem) (w : World) (h : FRep w sz pa pn ea en m) :
    Calls Try.prog 24 #[.agg #[.int .i64 sz, .slice pa pn pc, .slice ea en ec], .int .i64 key] w fun e w' => e = .returned (.tuple #[.int .i64 (Fl.getP m key).1, .bool (Fl.getP m key).2]) ∧ Below w.heap.size w w' := by
  have H1 := Lib.hid (h.below (pure_alloc w (.cells #[.int .i64 sz, .slice pa pn pc, .slice ea en ec] 32)))
  have hsz := h.size
  have HSZ := Lib.hid hsz
  have G0 : Hid (Fl.getP m key = if Fl.validP m && decide (0 ≤ key) && decide (key ≤ 15) then Fl.valueBelow (Fl.page m (Fl.newest m).1.toNat) key (Fl.N m) else (0, false)) := rfl
  have C0 : Hid (Fl.currentP m = if Fl.validP m then (Fl.newest m).1 else -1) := rfl
  have hcb := currentP_bd m
  rw [h.pages.1] at hcb
  clear h hsz
  go_enter Try.func24, Try.ntmps24
  go_wp2_with fail
  refine (current_any _ _ _ _ _ _ _ _ _ H1.out).mono ?_
  rintro e w2 ⟨rfl, hw2⟩
  have HW2 := Lib.hid (pure_trans (pure_alloc w _) hw2)
  have H2 := Lib.hid (H1.out.below hw2)
  have hr := Below.keep hw2 (alloc_new w (.cells #[.int .i64 sz, .slice pa pn pc, .slice ea en ec] 32)) (by simp)
  have c0 := cell_of_arr hr 0
  have c1 := cell_of_arr hr 1
  have hxl := lt_of_block hr
  simp at c0 c1
  clear hw2 hr
  by_cases g : 0 ≤ Fl.currentP m ∧ 0 ≤ key ∧ key ≤ 15
  rotate_left
  · have HG : Hid (Fl.getP m key = (0, false)) := by
      show _ = _
      rw [G0.out, if_neg]
      intro hh
      simp at hh
      have := C0.out
      rw [if_pos hh.1.1] at this
      have h3 := Fl.validP
      have hv := hh.1.1
      simp [Fl.validP] at hv
      omega
    by_cases g1 : 0 ≤ Fl.currentP m
    · by_cases g2 : 0 ≤ key
      · have g3 : ¬ key ≤ 15 := by omega
        clear g
        go_wp2_with fail
        go_ret2
        exact ⟨by rw [HG.out]; rfl, HW2.out⟩
      · clear g
        go_wp2_with fail
        go_ret2
        exact ⟨by rw [HG.out]; rfl, HW2.out⟩
    · clear g
      go_wp2_with fail
      go_ret2
      exact ⟨by rw [HG.out]; rfl, HW2.out⟩
  obtain ⟨g1, g2, g3⟩ := g
  have hv : Fl.validP m = true := by
    cases hv : Fl.validP m
    · have := C0.out; rw [hv] at this; simp at this; omega
    · rfl
  have hcur : Fl.currentP m = (Fl.newest m).1 := by rw [C0.out, if_pos hv]
  have hbd := Fl.sized_bd (Fl.validP_sized hv)
  rw [← HSZ.out] at hbd
  obtain ⟨q, hq⟩ : ∃ q : Nat, (q : Int) = Fl.currentP m := ⟨(Fl.currentP m).toNat, by omega⟩
  have HG : Hid (Fl.getP m key = Fl.valueBelow (m.pages.getD q []) key (sz / 8).toNat) := by
    show _ = _
    rw [G0.out, if_pos (by simp [hv, g2, g3]), ← hcur, ← hq]
    unfold Fl.N Fl.page
    rw [← HSZ.out]; rfl
  have hqn : q < pn := by omega
  obtain ⟨b, o, c, len, cap, rfl, e2, e3⟩ := H2.out.pages.2.2 q hqn
  rw [← hq] at g1 ⊢
  have HE3 := Lib.hid e3
  have q1 : (q : Int) < (pn : Int) := by omega
  have q2 : (0 : Int) ≤ (q : Int) := by omega
  clear hcur hq hcb e3 hv
  go_upto_region 4 with fail
  go_region_held3 (fun w' => w'.cell? ⟨w.heap.size, 0, none⟩ = some (.int .i64 sz) ∧ w'.cell? ⟨w.heap.size, 1, none⟩ = some (.slice (some ⟨b, o, none⟩) pn pc) ∧ w'.cell? ⟨b, o + q, none⟩ = some (.slice c len cap)) (first | exact ⟨c0, c1, e2⟩ | exact ⟨d0, d1, d2⟩) (first | (go_at_call 46; refine (value_any _ _ _ _ _ _ _ (HE3.out.below (below_drewN (Below.refl _ _) 1)) (by omega) (by omega)).mono ?_; rintro e w3 ⟨rfl, hw3⟩; have d0 := (hw3.cell (p := ⟨w.heap.size, 0, none⟩) hxl).trans c0; have d1 := (hw3.cell (p := ⟨w.heap.size, 1, none⟩) hxl).trans c1; have d2 := (hw3.cell (p := ⟨b, o + q, none⟩) (lt_of_cell e2)).trans e2))
  go_wp2_with fail
  go_ret2
  exact ⟨by rw [HG.out]; rfl, (below_drewN HW2.out 1).trans (hw3.mono HW2.out.size)⟩
end Go.Proofs.Ytnfjfifdkmgbdaa
