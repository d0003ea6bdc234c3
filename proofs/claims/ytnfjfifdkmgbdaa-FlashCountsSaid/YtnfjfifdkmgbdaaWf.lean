/- Walks of newest, sized, Valid, Current and Get. -/
import Derived.Test.YtnfjfifdkmgbdaaWe
namespace Go.Proofs.Ytnfjfifdkmgbdaa
open Go.RowKit

/-- The slice holds slices that hold the pages ps. -/
def Pgs (w : World) (a : Option Addr) (n : Nat) (ps : List (List UInt8)) : Prop :=
  ps.length = n ∧ n ≤ 9223372036854775807 ∧ ∀ i, i < n → ∃ b o c len cap, a = some ⟨b, o, none⟩ ∧ w.cell? ⟨b, o + i, none⟩ = some (.slice c len cap) ∧ Bs w c len (ps.getD i [])
/-- The slice holds the integers es. -/
def Is (w : World) (a : Option Addr) (n : Nat) (es : List Int) : Prop :=
  es.length = n ∧ n ≤ 9223372036854775807 ∧ ∀ i, i < n → ∃ b o, a = some ⟨b, o, none⟩ ∧ w.cell? ⟨b, o + i, none⟩ = some (.int .i64 (es.getD i 0)) ∧ -9223372036854775808 ≤ es.getD i 0 ∧ es.getD i 0 ≤ 9223372036854775807
theorem Pgs.below {w w' : World} {a : Option Addr} {n : Nat} {ps : List (List UInt8)} (h : Pgs w a n ps) (k : Below w.heap.size w w') : Pgs w' a n ps := by
  obtain ⟨h1, h2, h3⟩ := h
  refine ⟨h1, h2, fun i hi => ?_⟩
  obtain ⟨b, o, c, len, cap, e1, e2, e3⟩ := h3 i hi
  exact ⟨b, o, c, len, cap, e1, (k.cell (p := ⟨b, o + i, none⟩) (lt_of_cell e2)).trans e2, e3.below k⟩
theorem Is.below {w w' : World} {a : Option Addr} {n : Nat} {es : List Int} (h : Is w a n es) (k : Below w.heap.size w w') : Is w' a n es := by
  obtain ⟨h1, h2, h3⟩ := h
  refine ⟨h1, h2, fun i hi => ?_⟩
  obtain ⟨b, o, e1, e2, e3⟩ := h3 i hi
  exact ⟨b, o, e1, (k.cell (p := ⟨b, o + i, none⟩) (lt_of_cell e2)).trans e2, e3⟩
/-- The three parts of a memory in memory. -/
structure FRep (w : World) (sz : Int) (pa : Option Addr) (pn : Nat) (ea : Option Addr) (en : Nat) (m : Fl.Mem) : Prop where
  size : sz = m.size
  pages : Pgs w pa pn m.pages
  erased : Is w ea en m.erased
  bd : -9223372036854775808 ≤ sz ∧ sz ≤ 9223372036854775807
theorem FRep.below {w w' : World} {sz : Int} {pa ea : Option Addr} {pn en : Nat} {m : Fl.Mem} (h : FRep w sz pa pn ea en m) (k : Below w.heap.size w w') : FRep w' sz pa pn ea en m :=
  ⟨h.size, h.pages.below k, h.erased.below k, h.bd⟩

theorem drop_cons (ps : List (List UInt8)) (k : Nat) (h : k < ps.length) : ps.drop k = ps.getD k [] :: ps.drop (k + 1) := by
  rw [List.drop_eq_getElem_cons h]; simp [List.getElem?_eq_getElem h]

set_option maxHeartbeats 800000 in
theorem newest_any (sz : Int) (pa : Option Addr) (pn pc : Nat) (ea : Option Addr) (en ec : Nat) (m : Fl.Mem) (w : World) (h : FRep w sz pa pn ea en m) (hs : 0 ≤ sz) (hs2 : sz ≤ 8000) :
    Calls Try.prog 39 #[.agg #[.int .i64 sz, .slice pa pn pc, .slice ea en ec]] w fun e w' => e = .returned (.tuple #[.int .i64 (Fl.newest m).1, .int .i64 (Fl.newest m).2]) ∧ Below w.heap.size w w' := by
  have H := Lib.hid h
  obtain ⟨hl, hm, hp⟩ := h.pages
  have hsz := h.size
  have HL := Lib.hid hl
  have HP := Lib.hid hp
  have E0 : Hid (Fl.newest m = Fl.newestL (sz / 8).toNat m.pages 0 (-1, -1)) := by show _ = _; unfold Fl.newest Fl.newestP Fl.N; rw [hsz]
  clear h hl hp hsz
  go_enter Try.func39, Try.ntmps39
  go_wp2_with fail
  go_loopw [4, 5, 13] (fun x y i wr => ∃ (k : Nat) (s : Int × Int), i = .int .i64 k ∧ k ≤ pn ∧ x = .int .i64 s.1 ∧ y = .int .i64 s.2 ∧ Hid (Fl.newest m = Fl.newestL (sz / 8).toNat (m.pages.drop k) k s) ∧ Below w.heap.size w wr ∧ wr.heap[w.heap.size]? = some (.cells #[.int .i64 sz, .slice pa pn pc, .slice ea en ec] 32 (0, 0))) (fun _ _ i _ => pn - (intOf i).toNat)
  case atStart => exact ⟨0, (-1, -1), rfl, by omega, rfl, rfl, E0.out, pure_alloc _ _, alloc_new _ _⟩
  case round =>
    obtain ⟨k, s, rfl, hk, rfl, rfl, hs3, hb, hx⟩ := hrel
    have HB := Lib.hid hb
    have HX := Lib.hid hx
    have c0 := cell_of_arr hx 0
    simp at c0
    have hxl := lt_of_block hx
    by_cases hlt : k < pn
    · obtain ⟨b, o, c, len, cap, rfl, e2, e3⟩ := HP.out k hlt
      have e4 := (hb.cell (p := ⟨b, o + k, none⟩) (lt_of_cell e2)).trans e2
      have e5 := e3.below hb
      have HE5 := Lib.hid e5
      have HS : Hid (Fl.newest m = Fl.newestL (sz / 8).toNat (m.pages.drop (k + 1)) (k + 1) (Fl.newestStep (m.pages.getD k []) (sz / 8).toNat k s)) := by
        show _ = _
        rw [hs3.out, drop_cons _ _ (by have := HL.out; omega)]; rfl
      clear hb hx e2 e3 e5
      go_wp2_with fail
      refine (closed_any _ _ _ _ _ _ HE5.out hs hs2).mono ?_
      rintro e w2 ⟨rfl, hw2⟩
      have HW2 := Lib.hid (pure_trans HB.out hw2)
      have HX2 := Lib.hid (Below.keep hw2 HX.out hxl)
      clear hw2
      have hst : Fl.newestStep (m.pages.getD k []) (sz / 8).toNat k s = if (Fl.closedP (m.pages.getD k []) (sz / 8).toNat).2 && decide (s.2 < (Fl.closedP (m.pages.getD k []) (sz / 8).toNat).1) then ((k : Int), (Fl.closedP (m.pages.getD k []) (sz / 8).toNat).1) else s := rfl
      have HST := Lib.hid hst
      clear hst
      generalize Fl.closedP (m.pages.getD k []) (sz / 8).toNat = cl at *
      obtain ⟨c1, c2⟩ := cl
      dsimp only at *
      cases c2
      · go_wp2_with fail
        go_roundw
        case rel => exact ⟨k + 1, s, by go_num, by omega, rfl, rfl, by rw [HS.out, HST.out]; rfl, HW2.out, HX2.out⟩
        case measure => simp [intOf]; omega
      by_cases hgt : s.2 < c1
      · have hgt' : decide (s.2 < c1) = true := by simpa using hgt
        clear hgt
        go_wp2_with fail
        go_roundw
        case rel => exact ⟨k + 1, ((k : Int), c1), by go_num, by omega, rfl, rfl, by rw [HS.out, HST.out, hgt']; rfl, HW2.out, HX2.out⟩
        case measure => simp [intOf]; omega
      · have hgt' : decide (s.2 < c1) = false := by simpa using hgt
        clear hgt
        go_wp2_with fail
        go_roundw
        case rel => exact ⟨k + 1, s, by go_num, by omega, rfl, rfl, by rw [HS.out, HST.out, hgt']; rfl, HW2.out, HX2.out⟩
        case measure => simp [intOf]; omega
    · obtain rfl : k = pn := by omega
      clear hb hx
      go_wp2_with fail
      go_ret2
      have e : Fl.newest m = s := by rw [hs3.out, List.drop_of_length_le (by have := HL.out; omega)]; rfl
      exact ⟨by rw [e]; rfl, HB.out⟩

set_option maxHeartbeats 800000 in
theorem sized_any (s p : Int) (w : World) : Calls Try.prog 34 #[.int .i64 s, .int .i64 p] w fun e w' => e = .returned (.bool (Fl.sizedP s p)) ∧ w = w' := by
  have tm : (s.tmod 8 == 0) = (s % 8 == 0) := by rw [Bool.eq_iff_iff]; simp [← Int.dvd_iff_tmod_eq_zero, ← Int.dvd_iff_emod_eq_zero]
  cases h8 : (s % 8 == 0)
  · go_enter Try.func34, Try.ntmps34
    go_wp2
    go_ret
    exact ⟨by unfold Fl.sizedP; rw [h8]; rfl, rfl⟩
  go_enter Try.func34, Try.ntmps34
  go_wp2
  all_goals
    go_ret
    refine ⟨congrArg (fun b => Ending.returned (Value.bool b)) ?_, rfl⟩
    rw [Bool.eq_iff_iff]
    have h8' : s % 8 = 0 := by simpa using h8
    simp [Fl.sizedP, h8']
    omega

theorem rowsOk_cons (size : Int) (ps : List (List UInt8)) (es : List Int) (k : Nat) (h : k < ps.length) : Fl.rowsOk size (ps.drop k) (es.drop k) = (Fl.rowOk size (ps.getD k []) (es.getD k 0) && Fl.rowsOk size (ps.drop (k + 1)) (es.drop (k + 1))) := by
  rw [drop_cons ps k h, Fl.rowsOk, List.drop_drop]
  congr 2
  simp

set_option maxHeartbeats 800000 in
theorem valid_any (sz : Int) (pa : Option Addr) (pn pc : Nat) (ea : Option Addr) (en ec : Nat) (m : Fl.Mem) (w : World) (h : FRep w sz pa pn ea en m) :
    Calls Try.prog 23 #[.agg #[.int .i64 sz, .slice pa pn pc, .slice ea en ec]] w fun e w' => e = .returned (.bool (Fl.validP m)) ∧ Below w.heap.size w w' := by
  have H := Lib.hid h
  obtain ⟨hl, hm, hp⟩ := h.pages
  obtain ⟨hl2, hm2, hp2⟩ := h.erased
  have hsz := h.size
  have V0 : Hid (Fl.validP m = (Fl.sizedP sz pn && (en == pn) && Fl.rowsOk sz m.pages m.erased && decide (0 ≤ (Fl.newest m).1) && decide ((Fl.newest m).2 < 549755813888))) := by
    show _ = _; unfold Fl.validP; rw [hsz, hl, hl2]
  have HL := Lib.hid hl
  have HP := Lib.hid hp
  have HP2 := Lib.hid hp2
  clear h hl hp hsz hp2 hl2
  go_enter Try.func23, Try.ntmps23
  go_wp2_with fail
  refine (sized_any _ _ _).mono ?_
  rintro e w' ⟨rfl, rfl⟩
  cases hsd : Fl.sizedP sz pn
  · go_wp2_with fail
    go_ret
    exact ⟨by rw [V0.out, hsd]; rfl, pure_alloc _ _⟩
  have hbd := Fl.sized_bd hsd
  cases hne : ((en : Int) != (pn : Int))
  rotate_left
  · go_wp2_with fail
    go_ret
    have : (en == pn) = false := by simp at hne ⊢; omega
    exact ⟨by rw [V0.out, this]; simp, pure_alloc _ _⟩
  obtain rfl : en = pn := by simp at hne; omega
  have V1 : Hid (Fl.validP m = (Fl.rowsOk sz m.pages m.erased && decide (0 ≤ (Fl.newest m).1) && decide ((Fl.newest m).2 < 549755813888))) := by show _ = _; rw [V0.out, hsd]; simp
  clear V0 hsd hne
  go_wp2_with fail
  have hr := alloc_new w (.cells #[.int .i64 sz, .slice pa en pc, .slice ea en ec] 32)
  have hpure := pure_alloc w (.cells #[.int .i64 sz, .slice pa en pc, .slice ea en ec] 32)
  generalize w.alloc (.cells #[.int .i64 sz, .slice pa en pc, .slice ea en ec] 32) = w1 at *
  have HW := Lib.hid hpure
  have HR := Lib.hid hr
  have c0 := cell_of_arr hr 0
  have c1 := cell_of_arr hr 1
  have c2 := cell_of_arr hr 2
  simp at c0 c1 c2
  have H1 := Lib.hid (H.out.below hpure)
  have hxl := lt_of_block hr
  clear hpure hr
  go_loop [26] (fun i => ∃ k : Nat, i = .int .i64 k ∧ k ≤ en ∧ Hid (Fl.rowsOk sz m.pages m.erased = Fl.rowsOk sz (m.pages.drop k) (m.erased.drop k))) (fun i => en - (intOf i).toNat)
  case atStart => exact ⟨0, rfl, by omega, rfl⟩
  case round =>
    obtain ⟨k, rfl, hk, hro⟩ := hrel
    by_cases hlt : k < en
    · obtain ⟨b, o, c, len, cap, rfl, e2, e3⟩ := H1.out.pages.2.2 k hlt
      obtain ⟨b2, o2, rfl, f2, f3, f4⟩ := H1.out.erased.2.2 k hlt
      have hro2 : Fl.rowsOk sz m.pages m.erased = (Fl.rowOk sz (m.pages.getD k []) (m.erased.getD k 0) && Fl.rowsOk sz (m.pages.drop (k + 1)) (m.erased.drop (k + 1))) := by rw [hro.out, rowsOk_cons _ _ _ _ (by have := HL.out; omega)]
      have hro3 : Fl.rowOk sz (m.pages.getD k []) (m.erased.getD k 0) = (decide ((len : Int) ≤ sz) && decide (0 ≤ m.erased.getD k 0) && decide (m.erased.getD k 0 ≤ 1000)) := by unfold Fl.rowOk; rw [e3.1]
      have HRO2 := Lib.hid hro2
      have HRO3 := Lib.hid hro3
      clear hro2 hro3 e3 hro HP2 HP
      generalize m.erased.getD k 0 = er at *
      by_cases g1 : (len : Int) ≤ sz
      · by_cases g2 : 0 ≤ er
        · by_cases g3 : er ≤ 1000
          · have HN : Hid (Fl.rowsOk sz m.pages m.erased = Fl.rowsOk sz (m.pages.drop (k + 1)) (m.erased.drop (k + 1))) := by show _ = _; rw [HRO2.out, HRO3.out]; simp [g1, g2, g3]
            go_wp2_with fail
            go_round
            case rel => exact ⟨k + 1, by go_num, by omega, HN⟩
            case measure => simp [intOf]; omega
          · have HV : Hid (Fl.validP m = false) := by show _ = _; rw [V1.out, HRO2.out, HRO3.out]; simp [g3]
            go_wp2_with fail
            go_ret
            exact ⟨by rw [HV.out]; rfl, HW.out⟩
        · have HV : Hid (Fl.validP m = false) := by show _ = _; rw [V1.out, HRO2.out, HRO3.out]; simp [g2]
          go_wp2_with fail
          go_ret
          exact ⟨by rw [HV.out]; rfl, HW.out⟩
      · have HV : Hid (Fl.validP m = false) := by show _ = _; rw [V1.out, HRO2.out, HRO3.out]; simp [g1]
        go_wp2_with fail
        go_ret
        exact ⟨by rw [HV.out]; rfl, HW.out⟩
    · obtain rfl : k = en := by omega
      have V2 : Hid (Fl.validP m = (decide (0 ≤ (Fl.newest m).1) && decide ((Fl.newest m).2 < 549755813888))) := by
        show _ = _; rw [V1.out, hro.out, List.drop_of_length_le (by have := HL.out; omega)]; simp [Fl.rowsOk]
      go_wp2_with fail
      refine (newest_any _ _ _ _ _ _ _ _ _ H1.out (by omega) (by omega)).mono ?_
      rintro e w2 ⟨rfl, hw2⟩
      have HW2 := Lib.hid (pure_trans HW.out hw2)
      clear hw2
      by_cases g1 : 0 ≤ (Fl.newest m).1
      · have V3 : Hid (Fl.validP m = decide ((Fl.newest m).2 < 549755813888)) := by show _ = _; rw [V2.out]; simp [g1]
        go_wp2_with fail
        go_ret
        exact ⟨by rw [V3.out]; rfl, HW2.out⟩
      · have V3 : Hid (Fl.validP m = false) := by show _ = _; rw [V2.out]; simp [g1]
        go_wp2_with fail
        go_ret
        exact ⟨by rw [V3.out]; rfl, HW2.out⟩

set_option maxHeartbeats 800000 in
theorem current_any (sz : Int) (pa : Option Addr) (pn pc : Nat) (ea : Option Addr) (en ec : Nat) (m : Fl.Mem) (w : World) (h : FRep w sz pa pn ea en m) :
    Calls Try.prog 45 #[.agg #[.int .i64 sz, .slice pa pn pc, .slice ea en ec]] w fun e w' => e = .returned (.int .i64 (Fl.currentP m)) ∧ Below w.heap.size w w' := by
  have H1 := Lib.hid (h.below (pure_alloc w (.cells #[.int .i64 sz, .slice pa pn pc, .slice ea en ec] 32)))
  have hsz := h.size
  have C0 : Hid (Fl.currentP m = if Fl.validP m then (Fl.newest m).1 else -1) := rfl
  clear h
  have HSZ := Lib.hid hsz
  clear hsz
  go_enter Try.func45, Try.ntmps45
  go_wp2_with fail
  refine (valid_any _ _ _ _ _ _ _ _ _ H1.out).mono ?_
  rintro e w2 ⟨rfl, hw2⟩
  have HW2 := Lib.hid (pure_trans (pure_alloc w _) hw2)
  have H2 := Lib.hid (H1.out.below hw2)
  obtain ⟨hc, hf⟩ := bcell hw2
  clear hw2
  cases hv : Fl.validP m
  · go_wp2_with fail
    go_ret
    exact ⟨by rw [C0.out, hv]; rfl, HW2.out⟩
  have hbd := Fl.sized_bd (Fl.validP_sized hv)
  rw [← HSZ.out] at hbd
  go_wp2_with fail
  refine (newest_any _ _ _ _ _ _ _ _ _ H2.out (by omega) (by omega)).mono ?_
  rintro e w3 ⟨rfl, hw3⟩
  have HW3 := Lib.hid (pure_trans HW2.out hw3)
  clear hw3
  go_wp2_with fail
  go_ret
  exact ⟨by rw [C0.out, hv]; rfl, HW3.out⟩
end Go.Proofs.Ytnfjfifdkmgbdaa
