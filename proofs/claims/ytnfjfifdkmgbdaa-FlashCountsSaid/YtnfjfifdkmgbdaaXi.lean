/- The walk of the reference's Get. -/
import Derived.Test.YtnfjfifdkmgbdaaXh
namespace Go.Proofs.Ytnfjfifdkmgbdaa
open Go.RowKit Go.Shelf
def vbel (p : List UInt8) (key : Int) (k : Nat) : Int × Bool := if decide (0 ≤ key) && decide (key ≤ 15) then Fl.valueBelow p key k else (0, false)
theorem vbel_succ (p : List UInt8) (key : Int) (k : Nat) : vbel p key (k + 1) = if (Fl.goodAt p k && ((Fl.keyAt p k : Nat) : Int) == key && decide (0 ≤ key) && decide (key ≤ 15)) = true then (((Fl.valAt p k : Nat) : Int), true) else vbel p key k := by
  unfold vbel
  cases h1 : decide (0 ≤ key) <;> cases h2 : decide (key ≤ 15) <;> simp [Fl.valueBelow]
set_option maxHeartbeats 1600000 in
theorem getR_any (sz : Int) (pa : Option Addr) (pn pc : Nat) (ea : Option Addr) (en ec : Nat) (key : Int) (m : Fl.Mem) (w : World) (h : FRep w sz pa pn ea en m) :
    Calls Try.prog 49 #[.agg #[.int .i64 sz, .slice pa pn pc, .slice ea en ec], .int .i64 key] w fun e w' => e = .returned (.tuple #[.int .i64 (Fl.getP m key).1, .bool (Fl.getP m key).2]) ∧ Below w.heap.size w w' := by
  have H1 := Lib.hid (h.below (pure_alloc w (.cells #[.int .i64 sz, .slice pa pn pc, .slice ea en ec] 32)))
  have HSZ := Lib.hid h.size
  have HL := Lib.hid h.pages.1
  have hr := alloc_new w (.cells #[.int .i64 sz, .slice pa pn pc, .slice ea en ec] 32)
  have hpure := pure_alloc w (.cells #[.int .i64 sz, .slice pa pn pc, .slice ea en ec] 32)
  clear h
  go_enter Try.func49, Try.ntmps49
  go_upto_region 1 with fail
  generalize w.alloc (.cells #[.int .i64 sz, .slice pa pn pc, .slice ea en ec] 32) = w1 at *
  have HW := Lib.hid hpure
  have HR := Lib.hid hr
  have c0 := cell_of_arr hr 0
  have c1 := cell_of_arr hr 1
  have c2 := cell_of_arr hr 2
  simp at c0 c1 c2
  have hxl := lt_of_block hr
  clear hpure hr
  go_wp2_with fail
  refine (validR_any _ _ _ _ _ _ _ _ _ H1.out).mono ?_
  rintro e w2 ⟨rfl, hw2⟩
  have HW2 := Lib.hid (pure_trans HW.out hw2)
  have H2 := Lib.hid (H1.out.below hw2)
  have R2 := Below.keep hw2 HR.out hxl
  have hxl2 := lt_of_block R2
  clear hw2 c0 c1 c2 HW H1
  have c0 := cell_of_arr R2 0
  have c1 := cell_of_arr R2 1
  have c2 := cell_of_arr R2 2
  simp at c0 c1 c2
  have HR2 := Lib.hid R2
  clear R2 HR
  cases hv : Fl.validP m
  · have R : Hid (Fl.getP m key = (0, false)) := by show _ = _; unfold Fl.getP; rw [hv]; rfl
    go_wp2_with fail
    go_ret2
    exact ⟨by rw [R.out]; rfl, HW2.out⟩
  have hb := Fl.val_bounds hv
  have R0 : Hid (Fl.getP m key = vbel (m.pages.getD (Fl.newest m).1.toNat []) key (sz / 8).toNat) := by
    show _ = _
    unfold Fl.getP vbel Fl.N Fl.page
    rw [hv, HSZ.out]; simp
  have hsz1 : 0 ≤ sz ∧ sz ≤ 8000 := by have := HSZ.out; omega
  obtain ⟨hs1, hs2⟩ := hsz1
  obtain ⟨q, hq⟩ : ∃ q : Nat, (Fl.newest m).1 = q := ⟨(Fl.newest m).1.toNat, by omega⟩
  have hqn : q < pn := by have := HL.out; omega
  rw [hq, Int.toNat_natCast] at R0
  have HNW := Lib.hid (newestR_any sz pa pn pc ea en ec m w2 H2.out hs1 hs2)
  rw [hq] at HNW
  clear hb hq
  go_wp2_with fail
  refine HNW.out.mono ?_
  rintro e w3 ⟨rfl, hw3⟩
  have HW3 := Lib.hid (pure_trans HW2.out hw3)
  have HSL := Lib.hid (slots_any sz pa pn pc ea en ec q m w3 (H2.out.below hw3) hs1 hs2 hqn)
  have R3 := Below.keep hw3 HR2.out hxl2
  clear hw3 HNW c0 c1 c2 HW2 H2
  have c0 := cell_of_arr R3 0
  have c1 := cell_of_arr R3 1
  have c2 := cell_of_arr R3 2
  simp at c0 c1 c2
  clear R3 HR2
  go_wp2_with fail
  refine HSL.out.mono ?_
  rintro e w4 ⟨sv, rfl, hsv, hw4⟩
  obtain ⟨a, cap, rfl, hsl⟩ := Sl.of_own hsv (by omega)
  have HW4 := Lib.hid (pure_trans HW3.out hw4)
  have HS := Lib.hid hsl
  clear hw4 HSL hsv hsl c0 c1 c2 HW3
  generalize m.pages.getD q [] = p at *
  have hnb := HS.out.1
  go_wp2_with fail
  go_loopw [8, 9, 24] (fun x y i wr => ∃ (k : Nat) (s : Int × Bool), i = .int .i64 k ∧ k ≤ (sz / 8).toNat ∧ x = .int .i64 s.1 ∧ y = .bool s.2 ∧ Hid (vbel p key k = s) ∧ Below w4.heap.size w4 wr) (fun _ _ i _ => (sz / 8).toNat - (intOf i).toNat)
  case atStart => exact ⟨0, (0, false), rfl, by omega, rfl, rfl, (by show _ = _; unfold vbel; split <;> rfl), Below.refl _ _⟩
  case round =>
    obtain ⟨k, s, rfl, hk, rfl, rfl, hs, hB⟩ := hrel
    have HB := Lib.hid hB
    by_cases hlt : k < (sz / 8).toNat
    · obtain ⟨b, o, rfl, l0, l1, l2⟩ := HS.out.2 k hlt
      have m0 := (hB.cell (p := ⟨b, o + k * 3, none⟩) (lt_of_cell l0)).trans l0
      have m1 := (hB.cell (p := ⟨b, o + k * 3 + 1, none⟩) (lt_of_cell l1)).trans l1
      have m2 := (hB.cell (p := ⟨b, o + k * 3 + 2, none⟩) (lt_of_cell l2)).trans l2
      have HV := Lib.hid (vbel_succ p key k)
      have HB2 : Hid (∀ x y z : Value, Below w4.heap.size w4 (wr.alloc (.cells #[x, y, z] 91))) := by
        show ∀ x y z : Value, _
        exact fun x y z => hB.alloc hB.size _
      clear l0 l1 l2 hB
      generalize ((Fl.keyAt p k : Nat) : Int) = ky at *
      generalize ((Fl.valAt p k : Nat) : Int) = vl at *
      generalize Fl.goodAt p k = gd at *
      cases gd
      · have R : Hid (vbel p key (k + 1) = s) := by show _ = _; rw [HV.out]; simpa using hs.out
        go_wp2_with fail
        go_roundw
        case rel => exact ⟨k + 1, s, by go_num, by omega, rfl, rfl, R, HB2.out _ _ _⟩
        case measure => simp [intOf]; omega
      by_cases h1 : ky = key
      · have q1 : (ky == key) = true := by simpa using h1
        by_cases h2 : 0 ≤ key
        · by_cases h3 : key ≤ 15
          · have R : Hid (vbel p key (k + 1) = (vl, true)) := by show _ = _; rw [HV.out]; simp [h1, h2, h3]
            clear h1
            go_wp2_with fail
            go_roundw
            case rel => exact ⟨k + 1, (vl, true), by go_num, by omega, rfl, rfl, R, HB2.out _ _ _⟩
            case measure => simp [intOf]; omega
          · have R : Hid (vbel p key (k + 1) = s) := by show _ = _; rw [HV.out]; simpa [h3] using hs.out
            clear h1
            go_wp2_with fail
            go_roundw
            case rel => exact ⟨k + 1, s, by go_num, by omega, rfl, rfl, R, HB2.out _ _ _⟩
            case measure => simp [intOf]; omega
        · have R : Hid (vbel p key (k + 1) = s) := by show _ = _; rw [HV.out]; simpa [h2] using hs.out
          have q2 : decide (0 ≤ key) = false := by simpa using h2
          clear h1
          go_wp2_with fail
          go_roundw
          case rel => exact ⟨k + 1, s, by go_num, by omega, rfl, rfl, R, HB2.out _ _ _⟩
          case measure => simp [intOf]; omega
      · have R : Hid (vbel p key (k + 1) = s) := by show _ = _; rw [HV.out]; simpa [h1] using hs.out
        have q1 : (ky == key) = false := by simpa using h1
        clear h1
        go_wp2_with fail
        go_roundw
        case rel => exact ⟨k + 1, s, by go_num, by omega, rfl, rfl, R, HB2.out _ _ _⟩
        case measure => simp [intOf]; omega
    · obtain rfl : k = (sz / 8).toNat := by omega
      clear hB
      go_wp2_with fail
      go_ret2
      have e : Fl.getP m key = s := R0.out.trans hs.out
      exact ⟨by rw [e]; rfl, pure_trans HW4.out HB.out⟩
end Go.Proofs.Ytnfjfifdkmgbdaa
