/- The walk of FlashRecords. -/
import Derived.Test.YtnfjfifdkmgbdaaWy
namespace Go.Proofs.Ytnfjfifdkmgbdaa
open Go.RowKit Go.Shelf

set_option maxHeartbeats 3200000 in
theorem records_any (a : Option Addr) (len cap : Nat) (l : List UInt8) (key v size pages : Int) (w : World) (h : Bs w a len l)
    (k1 : -9223372036854775808 ≤ key) (k2 : key ≤ 9223372036854775807) (v1 : -9223372036854775808 ≤ v) (v2 : v ≤ 9223372036854775807) (s1 : -9223372036854775808 ≤ size) (s2 : size ≤ 9223372036854775807) (p1 : -9223372036854775808 ≤ pages) (p2 : pages ≤ 9223372036854775807) :
    Calls Try.prog 3 #[.slice a len cap, .int .i64 key, .int .i64 v, .int .i64 size, .int .i64 pages] w fun e w' => e = .returned (.bool true) ∧ Below w.heap.size w w' := by
  have hl := h.2.1
  have HB := Lib.hid h
  clear h
  go_enter Try.func3, Try.ntmps3
  cases hs : decide ((len : Int) ≤ 900)
  · go_wp2_with (go_at_call 8; refine (small_any a len cap w hl).mono ?_; rintro e w2 ⟨rfl, rfl⟩; rw [hs])
    refine (awake_any _).mono ?_
    rintro e w2 ⟨rfl, hw2⟩
    have HW2 := Lib.hid hw2
    clear hw2
    go_wp2_with fail
    go_ret
    exact ⟨rfl, HW2.out⟩
  have b16 := Int.emod_lt_of_pos key (show (0 : Int) < 16 by omega)
  have b16' := Int.emod_nonneg key (show (16 : Int) ≠ 0 by omega)
  go_upto_region 6 with (first | (go_at_call 8; refine (small_any a len cap w hl).mono ?_; rintro e w2 ⟨rfl, rfl⟩; rw [hs]) | (go_at_call 10; refine (check_any a len cap l w HB.out).mono ?_; rintro e w2 ⟨rfl, rfl⟩) | (go_at_call 11; refine (checkR_any a len cap l w HB.out).mono ?_; rintro e w2 ⟨rfl, rfl⟩) | (go_at_call 12; refine (mod_any _ _ _ (by omega) (by omega)).mono ?_; rintro e w2 ⟨rfl, rfl⟩))
  have P1 := pure_alloc w (.cells #[.int .i64 key, .int .i64 (key % 16), .int .i64 240, .int .i64 241] 3)
  have N1 := alloc_new w (.cells #[.int .i64 key, .int .i64 (key % 16), .int .i64 240, .int .i64 241] 3)
  generalize w.alloc (.cells #[.int .i64 key, .int .i64 (key % 16), .int .i64 240, .int .i64 241] 3) = w1 at *
  have HP1 := Lib.hid P1
  have CE : Hid (∀ k, k < 4 → ∀ W : World, Below w1.heap.size w1 W → ∃ x : Int, W.cell? ⟨w.heap.size, k, none⟩ = some (.int .i64 x) ∧ -9223372036854775808 ≤ x ∧ x ≤ 9223372036854775807)  := by
    show ∀ k, k < 4 → ∀ W : World, _ → _
    intro k hk W hW
    have hc := fun i => cell_of_arr (Below.keep hW N1 (lt_of_block N1)) i
    rcases (show k = 0 ∨ k = 1 ∨ k = 2 ∨ k = 3 by omega) with rfl | rfl | rfl | rfl
    · exact ⟨key, by rw [hc]; rfl, by omega, by omega⟩
    · exact ⟨key % 16, by rw [hc]; rfl, by omega, by omega⟩
    · exact ⟨240, by rw [hc]; rfl, by omega, by omega⟩
    · exact ⟨241, by rw [hc]; rfl, by omega, by omega⟩
  have vm := Int.emod_lt_of_pos v (show (0 : Int) < 1099511627776 by omega)
  have vm' := Int.emod_nonneg v (show (1099511627776 : Int) ≠ 0 by omega)
  generalize hvq : v % 1099511627776 = vq at *
  have HVQ := Lib.hid hvq
  clear P1 N1 hvq
  go_loopw [35] (fun i wr => ∃ k : Nat, i = .int .i64 k ∧ k ≤ 4 ∧ Below w1.heap.size w1 wr) (fun i _ => 4 - (intOf i).toNat)
  case atStart => exact ⟨0, rfl, by omega, Below.refl _ _⟩
  case round =>
    obtain ⟨k, rfl, hk, hw⟩ := hrel
    by_cases hlt : k < 4
    · obtain ⟨x, cx, x1, x2⟩ := CE.out k hlt wr hw
      have HW := Lib.hid hw
      clear hw
      have hlt' : (k : Int) < 4 := by omega
      go_wp2_with fail
      refine (record_any x v wr x1 x2 v1 v2).mono ?_
      rintro e w2 ⟨r1, rfl, hr1, hw2⟩
      obtain ⟨a1, c1, rfl, hb1⟩ := hr1.bs
      have HB1 := Lib.hid hb1
      have HW2 := Lib.hid (pure_trans HW.out hw2)
      clear hw2 hr1 hb1 cx
      go_wp2_with fail
      refine (recordR_any x v w2 x1 x2 v1 v2).mono ?_
      rintro e w3 ⟨r2, rfl, hr2, hw3⟩
      obtain ⟨a2, c2, rfl, hb2⟩ := hr2.bs
      have HB2 := Lib.hid hb2
      have HB1' := Lib.hid (HB1.out.below hw3)
      have HW3 := Lib.hid (pure_trans HW2.out hw3)
      clear hw3 hr2 hb2 HB1
      go_wp2_with fail
      refine (equal_eq a1 _ c1 a2 c2 _ w3 HB1'.out HB2.out).mono ?_
      rintro e w4 ⟨rfl, hw4⟩
      have HW4 := Lib.hid (pure_trans HW3.out hw4)
      clear hw4 HB1' HB2
      go_wp2_with (go_at_call 12; refine (mod_any _ _ _ (by omega) (by omega)).mono ?_; rintro e w2 ⟨rfl, rfl⟩; rw [HVQ.out])
      refine (record_any x vq w4 x1 x2 (by omega) (by omega)).mono ?_
      rintro e w5 ⟨r1, rfl, hr1, hw5⟩
      obtain ⟨a3, c3, rfl, hb1⟩ := hr1.bs
      have HB1 := Lib.hid hb1
      have HW5 := Lib.hid (pure_trans HW4.out hw5)
      clear hw5 hr1 hb1
      go_wp2_with (go_at_call 12; refine (mod_any _ _ _ (by omega) (by omega)).mono ?_; rintro e w2 ⟨rfl, rfl⟩; rw [HVQ.out])
      refine (recordR_any x vq w5 x1 x2 (by omega) (by omega)).mono ?_
      rintro e w6 ⟨r2, rfl, hr2, hw6⟩
      obtain ⟨a4, c4, rfl, hb2⟩ := hr2.bs
      have HB2 := Lib.hid hb2
      have HB1' := Lib.hid (HB1.out.below hw6)
      have HW6 := Lib.hid (pure_trans HW5.out hw6)
      clear hw6 hr2 hb2 HB1
      go_wp2_with fail
      refine (equal_eq a3 _ c3 a4 c4 _ w6 HB1'.out HB2.out).mono ?_
      rintro e w7 ⟨rfl, hw7⟩
      have HW7 := Lib.hid (pure_trans HW6.out hw7)
      clear hw7 HB1' HB2
      go_wp2_with fail
      go_roundw
      case rel => exact ⟨k + 1, by go_num, by omega, HW7.out⟩
      case measure => simp [intOf]; omega
    · obtain rfl : k = 4 := by omega
      have HW := Lib.hid (pure_trans HP1.out hw)
      clear hw HP1 CE
      have z16 := Int.emod_lt_of_pos size (show (0 : Int) < 16 by omega)
      have z16' := Int.emod_nonneg size (show (16 : Int) ≠ 0 by omega)
      have z100 := Int.emod_lt_of_pos size (show (0 : Int) < 100 by omega)
      have z100' := Int.emod_nonneg size (show (100 : Int) ≠ 0 by omega)
      have z11 := Int.emod_lt_of_pos pages (show (0 : Int) < 11 by omega)
      have z11' := Int.emod_nonneg pages (show (11 : Int) ≠ 0 by omega)
      go_upto_region 12 with (go_at_call 12; refine (mod_any _ _ _ (by omega) (by omega)).mono ?_; rintro e w2 ⟨rfl, rfl⟩)
      obtain ⟨za, hza⟩ : ∃ za : Int, 152 + 8 * (size % 16) = za := ⟨_, rfl⟩
      obtain ⟨zb, hzb⟩ : ∃ zb : Int, 160 + size % 100 = zb := ⟨_, rfl⟩
      rw [hza, hzb]
      have P1 := pure_alloc wr (.cells #[.int .i64 size, .int .i64 za, .int .i64 zb] 3)
      have N1 := alloc_new wr (.cells #[.int .i64 size, .int .i64 za, .int .i64 zb] 3)
      generalize hwq : wr.alloc (.cells #[.int .i64 size, .int .i64 za, .int .i64 zb] 3) = wq at *
      clear hwq
      have HPQ := Lib.hid (pure_trans HW.out P1)
      have CE : Hid (∀ k, k < 3 → ∀ W : World, Below wq.heap.size wq W → ∃ x : Int, W.cell? ⟨wr.heap.size, k, none⟩ = some (.int .i64 x) ∧ -9223372036854775808 ≤ x ∧ x ≤ 9223372036854775807) := by
        show ∀ k, k < 3 → ∀ W : World, _ → _
        intro k hk W hW
        have hc := fun i => cell_of_arr (Below.keep hW N1 (lt_of_block N1)) i
        rcases (show k = 0 ∨ k = 1 ∨ k = 2 by omega) with rfl | rfl | rfl
        · exact ⟨size, by rw [hc]; rfl, by omega, by omega⟩
        · exact ⟨za, by rw [hc]; rfl, by omega, by omega⟩
        · exact ⟨zb, by rw [hc]; rfl, by omega, by omega⟩
      clear P1 N1 HW
      generalize wr.heap.size = gb at *
      go_loopw [70] (fun i wr => ∃ k : Nat, i = .int .i64 k ∧ k ≤ 3 ∧ Below wq.heap.size wq wr) (fun i _ => 3 - (intOf i).toNat)
      case atStart => exact ⟨0, rfl, by omega, Below.refl _ _⟩
      case round =>
        obtain ⟨k, rfl, hk3, hw⟩ := hrel
        by_cases hlt : k < 3
        · obtain ⟨x, cx, x1, x2⟩ := CE.out k hlt wr hw
          have HW := Lib.hid hw
          clear hw
          have hlt' : (k : Int) < 3 := by omega
          go_upto_region 15 with (go_at_call 12; refine (mod_any _ _ _ (by omega) (by omega)).mono ?_; rintro e w2 ⟨rfl, rfl⟩)
          obtain ⟨pb, hpb⟩ : ∃ pb : Int, pages % 11 = pb := ⟨_, rfl⟩
          rw [hpb] at z11 z11' ⊢
          clear hpb
          have P2 := pure_alloc wr (.cells #[.int .i64 pages, .int .i64 pb] 3)
          have N2 := alloc_new wr (.cells #[.int .i64 pages, .int .i64 pb] 3)
          generalize hwq2 : wr.alloc (.cells #[.int .i64 pages, .int .i64 pb] 3) = wq2 at *
          clear hwq2
          have HPQ2 := Lib.hid (pure_trans HW.out P2)
          have CE2 : Hid (∀ k, k < 2 → ∀ W : World, Below wq2.heap.size wq2 W → ∃ x : Int, W.cell? ⟨wr.heap.size, k, none⟩ = some (.int .i64 x) ∧ -9223372036854775808 ≤ x ∧ x ≤ 9223372036854775807) := by
            show ∀ k, k < 2 → ∀ W : World, _ → _
            intro k hk W hW
            have hc := fun i => cell_of_arr (Below.keep hW N2 (lt_of_block N2)) i
            rcases (show k = 0 ∨ k = 1 by omega) with rfl | rfl
            · exact ⟨pages, by rw [hc]; rfl, by omega, by omega⟩
            · exact ⟨pb, by rw [hc]; rfl, by omega, by omega⟩
          clear P2 N2 HW cx
          generalize wr.heap.size = gb2 at *
          go_loopw [79] (fun i wr => ∃ k : Nat, i = .int .i64 k ∧ k ≤ 2 ∧ Below wq2.heap.size wq2 wr) (fun i _ => 2 - (intOf i).toNat)
          case atStart => exact ⟨0, rfl, by omega, Below.refl _ _⟩
          case round =>
            obtain ⟨j, rfl, hj2, hw⟩ := hrel
            by_cases hlt2 : j < 2
            · obtain ⟨y, cy, y1, y2⟩ := CE2.out j hlt2 wr hw
              have HW := Lib.hid hw
              clear hw
              have hlt2' : (j : Int) < 2 := by omega
              go_wp2_with fail
              refine (format_any x y wr x1 x2 y1 y2).mono ?_
              rintro e w2 ⟨sz, pa, pn, pc, ea, en, ec, rfl, hF, hw2⟩
              have HF := Lib.hid (hF w2 (fun _ _ => rfl))
              have HW2 := Lib.hid (pure_trans HW.out hw2)
              clear hF hw2 cy
              generalize hfm : Fl.formatP x y = fm at *
              obtain ⟨m, er⟩ := fm
              dsimp only at HF ⊢
              go_upto_region 18 with fail
              have HF3 := Lib.hid (HF.out.below (pure_alloc w2 (.cells #[.int .i64 sz, .slice pa pn pc, .slice ea en ec] 32)))
              have HW3 := Lib.hid (pure_trans HW2.out (pure_alloc w2 (.cells #[.int .i64 sz, .slice pa pn pc, .slice ea en ec] 32)))
              have N3 := alloc_new w2 (.cells #[.int .i64 sz, .slice pa pn pc, .slice ea en ec] 32)
              generalize w2.alloc (.cells #[.int .i64 sz, .slice pa pn pc, .slice ea en ec] 32) = w3 at *
              have HN3 := Lib.hid N3
              have HFR := Lib.hid (formatR_any x y w3 x1 x2 y1 y2)
              rw [hfm] at HFR
              clear N3 HF HW2 hfm
              generalize w2.heap.size = g3 at *
              go_wp2_with fail
              refine HFR.out.mono ?_
              rintro e w4 ⟨sz', pa', pn', pc', ea', en', ec', rfl, hF, hw4⟩
              dsimp only at hF ⊢
              have HG4 := Lib.hid (hF w4 (fun _ _ => rfl))
              have HF4 := Lib.hid (HF3.out.below hw4)
              have N4 := Below.keep hw4 HN3.out (lt_of_block HN3.out)
              have HW4 := Lib.hid (pure_trans HW3.out hw4)
              clear hF hw4 HF3 HN3 HW3 HFR
              go_upto_region 19 with fail
              have PA := pure_alloc w4 (.cells #[.int .i64 sz', .slice pa' pn' pc', .slice ea' en' ec'] 32)
              have N5 := alloc_new w4 (.cells #[.int .i64 sz', .slice pa' pn' pc', .slice ea' en' ec'] 32)
              have HG5 := Lib.hid (HG4.out.below PA)
              have HF5 := Lib.hid (HF4.out.below PA)
              have HW5 := Lib.hid (pure_trans HW4.out PA)
              have M5 := Below.keep PA N4 (lt_of_block N4)
              generalize w4.alloc (.cells #[.int .i64 sz', .slice pa' pn' pc', .slice ea' en' ec'] 32) = w5 at *
              clear PA N4 HG4 HF4 HW4
              have i0 := cell_of_arr M5 0
              have i1 := cell_of_arr M5 1
              have i2 := cell_of_arr M5 2
              have j0 := cell_of_arr N5 0
              have j1 := cell_of_arr N5 1
              have j2 := cell_of_arr N5 2
              simp at i0 i1 i2 j0 j1 j2
              have HS := Lib.hid (same_eq sz pa pn pc ea en ec sz' pa' pn' pc' ea' en' ec' m w5 HF5.out HG5.out)
              clear M5 N5 HG5 HF5
              generalize w4.heap.size = g4 at *
              go_wp2_with fail
              refine HS.out.mono ?_
              rintro e w6 ⟨rfl, hw6⟩
              have HW6 := Lib.hid (pure_trans HW5.out hw6)
              clear hw6 HS HW5 i0 i1 i2 j0 j1 j2
              go_wp2_with fail
              go_roundw
              case rel => exact ⟨j + 1, by go_num, by omega, HW6.out⟩
              case measure => simp [intOf]; omega
            · obtain rfl : j = 2 := by omega
              have HW := Lib.hid (pure_trans HPQ2.out hw)
              clear hw
              go_wp2_with fail
              go_roundw
              case rel => exact ⟨k + 1, by go_num, by omega, HW.out⟩
              case measure => simp [intOf]; omega
        · obtain rfl : k = 3 := by omega
          have HW := Lib.hid (pure_trans HPQ.out hw)
          clear hw
          go_wp2_with fail
          refine (awake_any _).mono ?_
          rintro e w2 ⟨rfl, hw2⟩
          have HW2 := Lib.hid (pure_trans HW.out hw2)
          clear hw2
          go_wp2_with fail
          go_ret
          exact ⟨rfl, HW2.out⟩
end Go.Proofs.Ytnfjfifdkmgbdaa
