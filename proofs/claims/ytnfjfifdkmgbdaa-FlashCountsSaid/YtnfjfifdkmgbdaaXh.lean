/- The walks of the reference's Valid and Get. -/
import Derived.Test.YtnfjfifdkmgbdaaXg
namespace Go.Proofs.Ytnfjfifdkmgbdaa
open Go.RowKit Go.Shelf
theorem validP_eq (m : Fl.Mem) : Fl.validP m = (Fl.sizedP m.size m.pages.length && (m.erased.length == m.pages.length) && Fl.rowsOk m.size m.pages m.erased && decide (0 ≤ (Fl.newest m).2) && decide ((Fl.newest m).2 < 549755813888)) := by
  have h : decide (0 ≤ (Fl.newest m).1) = decide (0 ≤ (Fl.newest m).2) := by
    have := (Fl.newestP_new m.pages (Fl.N m)).cas
    have e : Fl.newest m = Fl.newestP m.pages (Fl.N m) := rfl
    rw [← e] at this
    rw [Bool.eq_iff_iff]; simp only [decide_eq_true_eq]; omega
  unfold Fl.validP; rw [h]
set_option maxHeartbeats 1600000 in
theorem validR_any (sz : Int) (pa : Option Addr) (pn pc : Nat) (ea : Option Addr) (en ec : Nat) (m : Fl.Mem) (w : World) (h : FRep w sz pa pn ea en m) :
    Calls Try.prog 48 #[.agg #[.int .i64 sz, .slice pa pn pc, .slice ea en ec]] w fun e w' => e = .returned (.bool (Fl.validP m)) ∧ Below w.heap.size w w' := by
  have H := Lib.hid h
  obtain ⟨hl, hm, hp⟩ := h.pages
  obtain ⟨hl2, hm2, hp2⟩ := h.erased
  have hsz := h.size
  have V0 : Hid (Fl.validP m = (Fl.sizedP sz pn && (en == pn) && Fl.rowsOk sz m.pages m.erased && decide (0 ≤ (Fl.newest m).2) && decide ((Fl.newest m).2 < 549755813888))) := by
    show _ = _; rw [validP_eq, hsz, hl, hl2]
  have HL := Lib.hid hl
  clear h hl hp hsz hp2 hl2
  have hr := alloc_new w (.cells #[.int .i64 sz, .slice pa pn pc, .slice ea en ec] 32)
  have hpure := pure_alloc w (.cells #[.int .i64 sz, .slice pa pn pc, .slice ea en ec] 32)
  go_enter Try.func48, Try.ntmps48
  go_upto_region 1 with fail
  generalize w.alloc (.cells #[.int .i64 sz, .slice pa pn pc, .slice ea en ec] 32) = w1 at *
  have HW := Lib.hid hpure
  have HR := Lib.hid hr
  have c0 := cell_of_arr hr 0
  have c1 := cell_of_arr hr 1
  have c2 := cell_of_arr hr 2
  simp at c0 c1 c2
  have H1 := Lib.hid (H.out.below hpure)
  have hxl := lt_of_block hr
  clear hpure hr
  have t8 := tmod8 sz
  cases hsd : Fl.sizedP sz pn
  · have R : Hid (Fl.validP m = false) := by show _ = _; rw [V0.out, hsd]; rfl
    have HSD := Lib.hid hsd
    clear hsd V0
    go_wp2_with fail
    all_goals first
      | (exfalso; have h1 := HSD.out; simp [Fl.sizedP] at h1; omega)
      | (go_ret; exact ⟨by rw [R.out]; rfl, HW.out⟩)
  have hbd := Fl.sized_bd hsd
  obtain ⟨b1, b2, b3, b4, b5⟩ := hbd
  have b3' : (sz % 8 == 0) = true := by simpa using b3
  have b6 : (sz.tmod 8 != 0) = false := by rw [bne, t8, b3']; rfl
  clear t8 b3'
  cases hne : ((en : Int) != (pn : Int))
  rotate_left
  · have R : Hid (Fl.validP m = false) := by
      show _ = _
      have : (en == pn) = false := by simp at hne ⊢; omega
      rw [V0.out, this]; simp
    clear V0
    go_wp2_with fail
    go_ret
    exact ⟨by rw [R.out]; rfl, HW.out⟩
  obtain rfl : en = pn := by simp at hne; omega
  have V1 : Hid (Fl.validP m = (Fl.rowsOk sz m.pages m.erased && decide (0 ≤ (Fl.newest m).2) && decide ((Fl.newest m).2 < 549755813888))) := by show _ = _; rw [V0.out, hsd]; simp
  clear V0 hsd
  go_wp2_with fail
  clear b6 hne b3
  go_loopw [44] (fun i wr => ∃ k : Nat, i = .int .i64 k ∧ k ≤ en ∧ Hid (Fl.rowsOk sz m.pages m.erased = Fl.rowsOk sz (m.pages.drop k) (m.erased.drop k)) ∧ Below w1.heap.size w1 wr) (fun i _ => en - (intOf i).toNat)
  case atStart => exact ⟨0, rfl, by omega, rfl, Below.refl _ _⟩
  case round =>
    obtain ⟨k, rfl, hk, hro, hB⟩ := hrel
    have HB := Lib.hid hB
    have d0 := (hB.cell (p := ⟨w.heap.size, 0, none⟩) hxl).trans c0
    have d1 := (hB.cell (p := ⟨w.heap.size, 1, none⟩) hxl).trans c1
    have d2 := (hB.cell (p := ⟨w.heap.size, 2, none⟩) hxl).trans c2
    by_cases hlt : k < en
    · obtain ⟨b, o, c, len, cap, rfl, e2, e3⟩ := H1.out.pages.2.2 k hlt
      obtain ⟨b2, o2, rfl, f2, f3, f4⟩ := H1.out.erased.2.2 k hlt
      have g2 := (hB.cell (p := ⟨b, o + k, none⟩) (lt_of_cell e2)).trans e2
      have g3 := (hB.cell (p := ⟨b2, o2 + k, none⟩) (lt_of_cell f2)).trans f2
      have hro2 : Fl.rowsOk sz m.pages m.erased = (Fl.rowOk sz (m.pages.getD k []) (m.erased.getD k 0) && Fl.rowsOk sz (m.pages.drop (k + 1)) (m.erased.drop (k + 1))) := by rw [hro.out, rowsOk_cons _ _ _ _ (by have := HL.out; omega)]
      have hro3 : Fl.rowOk sz (m.pages.getD k []) (m.erased.getD k 0) = (decide ((len : Int) ≤ sz) && decide (0 ≤ m.erased.getD k 0) && decide (m.erased.getD k 0 ≤ 1000)) := by unfold Fl.rowOk; rw [e3.1]
      have HRO2 := Lib.hid hro2
      have HRO3 := Lib.hid hro3
      clear hro2 hro3 e3 e2 f2 hro hB c0 c1 c2
      generalize m.erased.getD k 0 = er at *
      by_cases g1 : (len : Int) ≤ sz
      · have q1 : decide (sz < (len : Int)) = false := by simpa using g1
        by_cases g2 : 0 ≤ er
        · have q2 : decide (er < 0) = false := by simpa using g2
          by_cases g3 : er ≤ 1000
          · have q3 : decide (1000 < er) = false := by simpa using g3
            have HN : Hid (Fl.rowsOk sz m.pages m.erased = Fl.rowsOk sz (m.pages.drop (k + 1)) (m.erased.drop (k + 1))) := by show _ = _; rw [HRO2.out, HRO3.out]; simp [g1, g2, g3]
            go_wp2_with fail
            go_quiet (fail)
            go_wp2_with fail
            go_roundw
            case rel => exact ⟨k + 1, by go_num, by omega, HN, below_drewN HB.out _⟩
            case measure => simp [intOf]; omega
          · have q3 : decide (1000 < er) = true := by simpa using g3
            have HV : Hid (Fl.validP m = false) := by show _ = _; rw [V1.out, HRO2.out, HRO3.out]; simp [g3]
            go_wp2_with fail
            go_quiet (fail)
            go_wp2_with fail
            go_ret
            exact ⟨by rw [HV.out]; rfl, below_drewN (pure_trans HW.out HB.out) _⟩
        · have q2 : decide (er < 0) = true := by simpa using g2
          have HV : Hid (Fl.validP m = false) := by show _ = _; rw [V1.out, HRO2.out, HRO3.out]; simp [g2]
          go_wp2_with fail
          go_quiet (fail)
          go_wp2_with fail
          go_ret
          exact ⟨by rw [HV.out]; rfl, below_drewN (pure_trans HW.out HB.out) _⟩
      · have q1 : decide (sz < (len : Int)) = true := by simpa using g1
        have HV : Hid (Fl.validP m = false) := by show _ = _; rw [V1.out, HRO2.out, HRO3.out]; simp [g1]
        go_wp2_with fail
        go_quiet (fail)
        go_wp2_with fail
        go_ret
        exact ⟨by rw [HV.out]; rfl, below_drewN (pure_trans HW.out HB.out) _⟩
    · obtain rfl : k = en := by omega
      have V2 : Hid (Fl.validP m = (decide (0 ≤ (Fl.newest m).2) && decide ((Fl.newest m).2 < 549755813888))) := by
        show _ = _; rw [V1.out, hro.out, List.drop_of_length_le (by have := HL.out; omega)]; simp [Fl.rowsOk]
      have HNW := Lib.hid (newestR_any sz pa k pc ea k ec m wr (H1.out.below hB) (by omega) (by omega))
      clear hB c0 c1 c2 hro
      go_wp2_with fail
      refine HNW.out.mono ?_
      rintro e w2 ⟨rfl, hw2⟩
      have HW2 := Lib.hid (pure_trans (pure_trans HW.out HB.out) hw2)
      clear hw2 HNW
      generalize (Fl.newest m).2 = gg at *
      generalize (Fl.newest m).1 = at_ at *
      by_cases g1 : 0 ≤ gg
      · have V3 : Hid (Fl.validP m = decide (gg < 549755813888)) := by show _ = _; rw [V2.out]; simp [g1]
        go_wp2_with fail
        go_ret
        exact ⟨by rw [V3.out]; rfl, HW2.out⟩
      · have V3 : Hid (Fl.validP m = false) := by show _ = _; rw [V2.out]; simp [g1]
        have q1 : decide (0 ≤ gg) = false := by simpa using g1
        go_wp2_with fail
        go_ret
        exact ⟨by rw [V3.out]; rfl, HW2.out⟩
end Go.Proofs.Ytnfjfifdkmgbdaa
