/- The walks of the reference's generation and newest. -/
import Derived.Test.YtnfjfifdkmgbdaaXf
namespace Go.Proofs.Ytnfjfifdkmgbdaa
open Go.RowKit Go.Shelf
/-- The slice holds the first n slots of p. -/
def Sl (w : World) (a : Option Addr) (n : Nat) (p : List UInt8) : Prop := n ≤ 100000 ∧ ∀ i, i < n → ∃ b o, a = some ⟨b, o, none⟩ ∧ w.cell? ⟨b, o + i * 3, none⟩ = some (.int .i64 (Fl.keyAt p i : Nat)) ∧ w.cell? ⟨b, o + i * 3 + 1, none⟩ = some (.int .i64 (Fl.valAt p i : Nat)) ∧ w.cell? ⟨b, o + i * 3 + 2, none⟩ = some (.bool (Fl.goodAt p i))
theorem slotCells_get (p : List UInt8) : ∀ (n i : Nat), i < n → (Fl.slotCells p n)[i * 3]? = some (.int .i64 (Fl.keyAt p i : Nat)) ∧ (Fl.slotCells p n)[i * 3 + 1]? = some (.int .i64 (Fl.valAt p i : Nat)) ∧ (Fl.slotCells p n)[i * 3 + 2]? = some (.bool (Fl.goodAt p i))
  | 0, i, h => by omega
  | n + 1, i, h => by
    have hl := Fl.slotCells_length p n
    rw [Fl.slotCells]
    by_cases e : i = n
    · subst e
      refine ⟨?_, ?_, ?_⟩
      · rw [List.getElem?_append_right (by omega), hl]; simp
      · rw [List.getElem?_append_right (by omega), hl, show i * 3 + 1 - i * 3 = 1 by omega]; rfl
      · rw [List.getElem?_append_right (by omega), hl, show i * 3 + 2 - i * 3 = 2 by omega]; rfl
    · have ih := slotCells_get p n i (by omega)
      rw [List.getElem?_append_left (by omega), List.getElem?_append_left (by omega), List.getElem?_append_left (by omega)]
      exact ih
theorem Sl.of_own {w : World} {base n : Nat} {v : Value} {p : List UInt8} (h : w.ownsRow base 91 3 v n (Fl.slotCells p n)) (hn : n ≤ 100000) : ∃ a cap, v = .slice a n cap ∧ Sl w a n p := by
  rcases h.2 with ⟨rfl, hx⟩ | ⟨g, cap, cur, rfl, _, hg, hnc, _, _, ht⟩
  · have hl := Fl.slotCells_length p n
    rw [hx] at hl
    simp at hl
    have : n = 0 := by omega
    subst this
    exact ⟨none, 0, rfl, by omega, fun i hi => by omega⟩
  · refine ⟨some ⟨g, 0, none⟩, cap, rfl, hn, fun i hi => ⟨g, 0, rfl, ?_⟩⟩
    obtain ⟨e1, e2, e3⟩ := slotCells_get p n i hi
    have hcell : ∀ (k : Nat) (u : Value), (Fl.slotCells p n)[k]? = some u → w.cell? ⟨g, k, none⟩ = some u := fun k u hk => by
      rw [cell_of_arr hg]
      rw [← ht, List.getElem?_take] at hk
      split at hk
      · simpa using hk
      · cases hk
    exact ⟨by rw [Nat.zero_add]; exact hcell _ _ e1, by rw [Nat.zero_add]; exact hcell _ _ e2, by rw [Nat.zero_add]; exact hcell _ _ e3⟩
theorem Sl.below {w w' : World} {a : Option Addr} {n : Nat} {p : List UInt8} (h : Sl w a n p) (k : Below w.heap.size w w') : Sl w' a n p := by
  refine ⟨h.1, fun i hi => ?_⟩
  obtain ⟨b, o, e, e1, e2, e3⟩ := h.2 i hi
  exact ⟨b, o, e, (k.cell (p := ⟨b, _, none⟩) (lt_of_cell e1)).trans e1, (k.cell (p := ⟨b, _, none⟩) (lt_of_cell e2)).trans e2, (k.cell (p := ⟨b, _, none⟩) (lt_of_cell e3)).trans e3⟩
/-- What is left to be looked at. -/
def genFrom (p : List UInt8) (n j : Nat) : Int := if (Fl.closedFrom p (Fl.valAt p 0) (n - j) j).2 then (Fl.closedFrom p (Fl.valAt p 0) (n - j) j).1 else -1
theorem genFrom_end (p : List UInt8) (n : Nat) : genFrom p n n = -1 := by simp [genFrom, Fl.closedFrom]
theorem genFrom_step (p : List UInt8) (n j : Nat) (h : j < n) : genFrom p n j = if !Fl.goodAt p j || Fl.keyAt p j == 240 then -1 else if Fl.keyAt p j == 241 then (if Fl.valAt p j == Fl.valAt p 0 then ((Fl.valAt p 0 : Nat) : Int) else -1) else genFrom p n (j + 1) := by
  unfold genFrom
  rw [show n - j = (n - (j + 1)) + 1 by omega, Fl.closedFrom]
  split
  · rfl
  · split
    · cases h : (Fl.valAt p j == Fl.valAt p 0) <;> simp
    · rfl
theorem genP_eq (p : List UInt8) (n : Nat) : Fl.genP p n = if !Fl.goodAt p 0 || Fl.keyAt p 0 != 240 then -1 else genFrom p n 1 := by
  unfold Fl.genP Fl.closedP genFrom
  split <;> simp_all
theorem good_key {p : List UInt8} {j : Nat} (h : Fl.goodAt p j = true) : Fl.keyAt p j ≤ 15 ∨ Fl.keyAt p j = 240 ∨ Fl.keyAt p j = 241 := by
  have := (Fl.good_slot h).1
  simp [Fl.recOk, Fl.keyOk] at this
  omega
set_option maxHeartbeats 1600000 in
theorem generation_any (a : Option Addr) (n cap : Nat) (p : List UInt8) (w : World) (h : Sl w a n p) :
    Calls Try.prog 61 #[.slice a n cap] w fun e w' => e = .returned (.int .i64 (Fl.genP p n)) ∧ Below w.heap.size w w' := by
  have H := Lib.hid h.2
  have hn := h.1
  have G0 := Lib.hid (genP_eq p n)
  clear h
  by_cases h0 : n = 0
  · subst h0
    have R : Hid (Fl.genP p 0 = -1) := by
      show _ = _
      rw [G0.out]; split
      · rfl
      · simp [genFrom, Fl.closedFrom]
    go_enter Try.func61, Try.ntmps61
    go_wp2_with fail
    go_ret
    exact ⟨by rw [R.out]; rfl, Below.refl _ _⟩
  obtain ⟨b, o, rfl, k0, k1, k2⟩ := H.out 0 (by omega)
  simp only [Nat.zero_mul, Nat.add_zero] at k0 k1 k2
  have kb := Fl.keyAt_lt p 0
  cases hg0 : Fl.goodAt p 0
  · have R : Hid (Fl.genP p n = -1) := by show _ = _; rw [G0.out, hg0]; rfl
    rw [hg0] at k2
    have hn0 : ((n : Int) == 0) = false := by simp; omega
    go_enter Try.func61, Try.ntmps61
    go_wp2_with fail
    go_ret
    exact ⟨by rw [R.out]; rfl, Below.refl _ _⟩
  rw [hg0] at k2
  have hn0 : ((n : Int) == 0) = false := by simp; omega
  by_cases hk0 : Fl.keyAt p 0 = 240
  rotate_left
  · have R : Hid (Fl.genP p n = -1) := by show _ = _; rw [G0.out, hg0, if_pos (by simpa using hk0)]
    have hk0' : (((Fl.keyAt p 0 : Nat) : Int) != 240) = true := by simp; omega
    generalize ((Fl.keyAt p 0 : Nat) : Int) = kk at *
    go_enter Try.func61, Try.ntmps61
    go_wp2_with fail
    go_ret
    exact ⟨by rw [R.out]; rfl, Below.refl _ _⟩
  have R0 : Hid (Fl.genP p n = genFrom p n 1) := by show _ = _; rw [G0.out, hg0, if_neg (by simp [hk0])]
  rw [hk0] at k0
  have vb := Fl.valAt_lt p 0
  obtain ⟨v0, hv0⟩ : ∃ v0 : Int, ((Fl.valAt p 0 : Nat) : Int) = v0 := ⟨_, rfl⟩
  rw [hv0] at k1
  have HV0 := Lib.hid hv0
  clear hk0 hv0 G0 hg0 kb vb
  go_enter Try.func61, Try.ntmps61
  go_wp2_with fail
  go_loopw [3] (fun i wr => ∃ j : Nat, i = .int .i64 j ∧ 1 ≤ j ∧ j ≤ n ∧ Hid (Fl.genP p n = genFrom p n j) ∧ Below w.heap.size w wr) (fun i _ => n - (intOf i).toNat)
  case atStart => exact ⟨1, rfl, by omega, by omega, R0.out, Below.refl _ _⟩
  case round =>
    obtain ⟨j, rfl, hj1, hj, hG, hB⟩ := hrel
    have HB := Lib.hid hB
    by_cases hlt : j < n
    · obtain ⟨b', o', hbo, l0, l1, l2⟩ := H.out j hlt
      cases hbo
      have kb := Fl.keyAt_lt p j
      have vb := Fl.valAt_lt p j
      have hk := @good_key p j
      have hs := genFrom_step p n j hlt
      have HS : Hid (Fl.genP p n = if !Fl.goodAt p j || Fl.keyAt p j == 240 then -1 else if Fl.keyAt p j == 241 then (if Fl.valAt p j == Fl.valAt p 0 then ((Fl.valAt p 0 : Nat) : Int) else -1) else genFrom p n (j + 1)) := by show _ = _; rw [hG.out, hs]
      have m0 := (hB.cell (p := ⟨b, o + j * 3, none⟩) (lt_of_cell l0)).trans l0
      have m1 := (hB.cell (p := ⟨b, o + j * 3 + 1, none⟩) (lt_of_cell l1)).trans l1
      have m2 := (hB.cell (p := ⟨b, o + j * 3 + 2, none⟩) (lt_of_cell l2)).trans l2
      have n0 := (hB.cell (p := ⟨b, o, none⟩) (lt_of_cell k0)).trans k0
      have n1 := (hB.cell (p := ⟨b, o + 1, none⟩) (lt_of_cell k1)).trans k1
      obtain ⟨kj, hkj⟩ : ∃ kj : Nat, Fl.keyAt p j = kj := ⟨_, rfl⟩
      obtain ⟨vj, hvj⟩ : ∃ vj : Int, ((Fl.valAt p j : Nat) : Int) = vj := ⟨_, rfl⟩
      rw [hkj] at m0 kb hk
      rw [hvj] at m1
      have HKJ := Lib.hid hkj
      have HVJ := Lib.hid hvj
      clear l0 l1 l2 hB hs hG vb hkj hvj
      cases hg : Fl.goodAt p j
      · have R : Hid (Fl.genP p n = -1) := by show _ = _; rw [HS.out, hg]; rfl
        rw [hg] at m2
        clear hk
        go_wp2_with fail
        go_ret
        exact ⟨by rw [R.out]; rfl, HB.out⟩
      · rw [hg] at m2
        have hk' := hk hg
        clear hk
        rcases hk' with h15 | h240 | h241
        · have R : Hid (Fl.genP p n = genFrom p n (j + 1)) := by
            show _ = _
            rw [HS.out, hg, HKJ.out, if_neg (by simp; omega), if_neg (by simp; omega)]
          have q1 : ((kj : Int) == 241) = false := by simp; omega
          go_wp2_with fail
          go_quiet (fail)
          go_wp2_with fail
          go_roundw
          case rel => exact ⟨j + 1, by go_num, by omega, by omega, R.out, below_drewN HB.out _⟩
          case measure => simp [intOf]; omega
        · have R : Hid (Fl.genP p n = -1) := by show _ = _; rw [HS.out, hg, HKJ.out, h240]; rfl
          have q1 : ((kj : Int) == 241) = false := by simp; omega
          go_wp2_with fail
          go_quiet (fail)
          go_wp2_with fail
          go_ret
          exact ⟨by rw [R.out]; rfl, below_drewN HB.out _⟩
        · have q1 : ((kj : Int) == 241) = true := by simp; omega
          by_cases hvv : vj = v0
          · have R : Hid (Fl.genP p n = v0) := by
              show _ = _
              have e : Fl.valAt p j = Fl.valAt p 0 := by have := HVJ.out; have := HV0.out; omega
              rw [HS.out, hg, HKJ.out, h241, e, ← HV0.out]; simp
            have q2 : (vj == v0) = true := by simpa using hvv
            clear hvv
            go_wp2_with fail
            go_quiet (fail)
            go_wp2_with fail
            go_ret
            exact ⟨by rw [R.out]; rfl, below_drewN HB.out _⟩
          · have R : Hid (Fl.genP p n = -1) := by
              show _ = _
              have e : ¬ Fl.valAt p j = Fl.valAt p 0 := by have := HVJ.out; have := HV0.out; omega
              rw [HS.out, hg, HKJ.out, h241]; simp [e]
            have q2 : (vj == v0) = false := by simpa using hvv
            clear hvv
            go_wp2_with fail
            go_quiet (fail)
            go_wp2_with fail
            go_ret
            exact ⟨by rw [R.out]; rfl, below_drewN HB.out _⟩
    · obtain rfl : j = n := by omega
      have R : Hid (Fl.genP p j = -1) := by show _ = _; rw [hG.out, genFrom_end]
      clear hB
      go_wp2_with fail
      go_ret
      exact ⟨by rw [R.out]; rfl, HB.out⟩
set_option maxHeartbeats 1600000 in
theorem newestR_any (sz : Int) (pa : Option Addr) (pn pc : Nat) (ea : Option Addr) (en ec : Nat) (m : Fl.Mem) (w : World) (h : FRep w sz pa pn ea en m) (hs : 0 ≤ sz) (hs2 : sz ≤ 8000) :
    Calls Try.prog 56 #[.agg #[.int .i64 sz, .slice pa pn pc, .slice ea en ec]] w fun e w' => e = .returned (.tuple #[.int .i64 (Fl.newest m).1, .int .i64 (Fl.newest m).2]) ∧ Below w.heap.size w w' := by
  have H := Lib.hid h
  obtain ⟨hl, hm, hp⟩ := h.pages
  have hsz := h.size
  have HL := Lib.hid hl
  have E0 : Hid (Fl.newest m = Fl.newestL (sz / 8).toNat m.pages 0 (-1, -1)) := by show _ = _; unfold Fl.newest Fl.newestP Fl.N; rw [hsz]
  clear h hl hp hsz
  go_enter Try.func56, Try.ntmps56
  go_wp2_with fail
  go_loopw [4, 5, 11] (fun x y i wr => ∃ (k : Nat) (s : Int × Int), i = .int .i64 k ∧ k ≤ pn ∧ x = .int .i64 s.1 ∧ y = .int .i64 s.2 ∧ Hid (-1 ≤ s.2) ∧ Hid (Fl.newest m = Fl.newestL (sz / 8).toNat (m.pages.drop k) k s) ∧ Below w.heap.size w wr ∧ wr.heap[w.heap.size]? = some (.cells #[.int .i64 sz, .slice pa pn pc, .slice ea en ec] 32 (0, 0))) (fun _ _ i _ => pn - (intOf i).toNat)
  case atStart => exact ⟨0, (-1, -1), rfl, by omega, rfl, rfl, (by show (-1 : Int) ≤ -1; omega), E0.out, pure_alloc _ _, alloc_new _ _⟩
  case round =>
    obtain ⟨k, s, rfl, hk, rfl, rfl, hlo, hs3, hb, hx⟩ := hrel
    have HB := Lib.hid hb
    have HX := Lib.hid hx
    have c0 := cell_of_arr hx 0
    have c1 := cell_of_arr hx 1
    have c2 := cell_of_arr hx 2
    simp at c0 c1 c2
    have hxl := lt_of_block hx
    by_cases hlt : k < pn
    · have HS : Hid (Fl.newest m = Fl.newestL (sz / 8).toNat (m.pages.drop (k + 1)) (k + 1) (if s.2 < Fl.genP (m.pages.getD k []) (sz / 8).toNat then ((k : Int), Fl.genP (m.pages.getD k []) (sz / 8).toNat) else s)) := by
        show _ = _
        rw [hs3.out, drop_cons _ _ (by have := HL.out; omega), ← Fl.newestStep_gen _ _ _ _ hlo.out]; rfl
      have HSL := Lib.hid (slots_any sz pa pn pc ea en ec k m wr (H.out.below hb) hs hs2 hlt)
      clear hb hx
      go_wp2_with fail
      refine HSL.out.mono ?_
      rintro e w2 ⟨v, rfl, hv, hw2⟩
      obtain ⟨a, cap, rfl, hsl⟩ := Sl.of_own hv (by omega)
      have HGN := Lib.hid (generation_any a (sz / 8).toNat cap _ w2 hsl)
      have HW2 := Lib.hid (pure_trans HB.out hw2)
      have HX2 := Lib.hid (Below.keep hw2 HX.out hxl)
      have hxl2 := Nat.lt_of_lt_of_le hxl hw2.size
      clear hw2 hv hsl HSL c0 c1 c2
      go_wp2_with fail
      refine HGN.out.mono ?_
      rintro e w3 ⟨rfl, hw3⟩
      have HW3 := Lib.hid (pure_trans HW2.out hw3)
      have HX3 := Lib.hid (Below.keep hw3 HX2.out hxl2)
      clear hw3 HGN
      have hgb := Fl.genP_bd (m.pages.getD k []) (sz / 8).toNat
      generalize Fl.genP (m.pages.getD k []) (sz / 8).toNat = gg at *
      by_cases hgt : s.2 < gg
      · have hgt' : decide (s.2 < gg) = true := by simpa using hgt
        have HS2 : Hid (Fl.newest m = Fl.newestL (sz / 8).toNat (m.pages.drop (k + 1)) (k + 1) ((k : Int), gg)) := by show _ = _; rw [HS.out, if_pos hgt]
        go_wp2_with fail
        go_roundw
        case rel => exact ⟨k + 1, ((k : Int), gg), by go_num, by omega, rfl, rfl, hgb, HS2, HW3.out, HX3.out⟩
        case measure => simp [intOf]; omega
      · have hgt' : decide (s.2 < gg) = false := by simpa using hgt
        have HS2 : Hid (Fl.newest m = Fl.newestL (sz / 8).toNat (m.pages.drop (k + 1)) (k + 1) s) := by show _ = _; rw [HS.out, if_neg hgt]
        go_wp2_with fail
        go_roundw
        case rel => exact ⟨k + 1, s, by go_num, by omega, rfl, rfl, hlo.out, HS2, HW3.out, HX3.out⟩
        case measure => simp [intOf]; omega
    · obtain rfl : k = pn := by omega
      clear hb hx
      go_wp2_with fail
      go_ret2
      have e : Fl.newest m = s := by rw [hs3.out, List.drop_of_length_le (by have := HL.out; omega)]; rfl
      exact ⟨by rw [e]; rfl, HB.out⟩
end Go.Proofs.Ytnfjfifdkmgbdaa
