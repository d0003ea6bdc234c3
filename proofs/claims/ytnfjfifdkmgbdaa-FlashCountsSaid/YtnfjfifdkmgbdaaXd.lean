/- The walk of FlashWears. -/
import Derived.Test.YtnfjfifdkmgbdaaPk
import Derived.Test.YtnfjfifdkmgbdaaWy
namespace Go.Proofs.Ytnfjfifdkmgbdaa
open Go.RowKit Go.Shelf
/-- The variables of the loop: the memory and the counter. -/
def WSt (w : World) (bf bc P : Nat) (s i : Int) (W : World) : Prop := ∃ (sz : Int) (pa : Option Addr) (pn pc : Nat) (ea : Option Addr) (en ec : Nat) (m : Fl.Mem) (L : Int),
  W.heap[bf]? = some (.cells #[.int .i64 sz, .slice pa pn pc, .slice ea en ec] 32 (0, 0)) ∧ W.heap[bc]? = some (.cells #[.int .i64 2, .int .i64 s, .int .i64 i, .int .i64 L] 49 (0, 0)) ∧ FRep W sz pa pn ea en m ∧ Fl.WInv P s i m ⟨2, s, i, L⟩ ∧ Below w.heap.size w W
set_option maxHeartbeats 3200000 in
theorem wears_any (n step pages : Int) (w : World) :
    Calls Try.prog 7 #[.int .i64 n, .int .i64 step, .int .i64 pages] w fun e w' => e = .returned (.bool true) ∧ Below w.heap.size w w' := by
  obtain ⟨P, hP, hPc⟩ : ∃ P : Nat, (P = 2 ∨ P = 3 ∨ P = 4) ∧ 2 + pages % 3 = (P : Int) := ⟨(2 + pages % 3).toNat, by omega, by omega⟩
  obtain ⟨s, hs, hsc⟩ : ∃ s : Int, (1 ≤ s ∧ s ≤ 6) ∧ 1 + step % 6 = s := ⟨_, by omega, rfl⟩
  obtain ⟨k, hk, hkc⟩ : ∃ k : Nat, k < 200 ∧ n % 200 = (k : Int) := ⟨(n % 200).toNat, by omega, by omega⟩
  have q3 := Int.emod_lt_of_pos pages (show (0 : Int) < 3 by omega)
  have q3' := Int.emod_nonneg pages (show (3 : Int) ≠ 0 by omega)
  have q6 := Int.emod_lt_of_pos step (show (0 : Int) < 6 by omega)
  have q6' := Int.emod_nonneg step (show (6 : Int) ≠ 0 by omega)
  have HPC := Lib.hid hPc
  have HSC := Lib.hid hsc
  have HKC := Lib.hid hkc
  have HPP := Lib.hid hP
  have hP2 : 2 ≤ P ∧ P ≤ 4 := by omega
  obtain ⟨hP3, hP4⟩ := hP2
  obtain ⟨hs3, hs4⟩ := hs
  clear hPc hsc hkc hP
  go_enter Try.func7, Try.ntmps7
  go_wp2_with (go_at_call 12; refine (mod_any _ _ _ (by omega) (by omega)).mono ?_; rintro e w2 ⟨rfl, rfl⟩)
  rw [HPC.out]
  refine (format_any 160 P w (by omega) (by omega) (by omega) (by omega)).mono ?_
  rintro e w1 ⟨sz, pa, pn, pc, ea, en, ec, rfl, hF, hw1⟩
  rw [Fl.WInv.format P HPP.out]
  have HF := Lib.hid (hF w1 (fun _ _ => rfl))
  have HW1 := Lib.hid hw1
  clear hF hw1
  go_upto_region 3 with (go_at_call 12; refine (mod_any _ _ _ (by omega) (by omega)).mono ?_; rintro e w2 ⟨rfl, rfl⟩)
  rw [HSC.out]
  have P2 := pure_alloc w1 (.cells #[.int .i64 sz, .slice pa pn pc, .slice ea en ec] 32)
  have N2 := alloc_new w1 (.cells #[.int .i64 sz, .slice pa pn pc, .slice ea en ec] 32)
  have HF2 := Lib.hid (HF.out.below P2)
  have HW2 := Lib.hid (pure_trans HW1.out P2)
  generalize w1.alloc (.cells #[.int .i64 sz, .slice pa pn pc, .slice ea en ec] 32) = w2 at *
  have c1 := cell_of_arr N2 0
  have c2 := cell_of_arr N2 1
  have c3 := cell_of_arr N2 2
  simp at c1 c2 c3
  have HN2 := Lib.hid N2
  have hb := lt_of_block N2
  have HLO := Lib.hid HW1.out.size
  clear P2 N2 HF HW1
  have HO := Lib.hid (open_any sz pa pn pc ea en ec 2 s _ w2 HF2.out)
  rw [Fl.WInv.open P HPP.out s ⟨hs3, hs4⟩] at HO
  simp only [ctrV] at HO
  have hlo := HLO.out
  clear HLO
  generalize w1.heap.size = bf at *
  go_wp2_with fail
  refine HO.out.mono ?_
  rintro e w3 ⟨rfl, hw3⟩
  have HW3 := Lib.hid (pure_trans HW2.out hw3)
  have HF3 := Lib.hid (HF2.out.below hw3)
  have N3 := Below.keep hw3 HN2.out (lt_of_block HN2.out)
  clear hw3 HO HN2 HF2 HW2 c1 c2 c3
  go_upto_region 7 with (go_at_call 12; refine (mod_any _ _ _ (by omega) (by omega)).mono ?_; rintro e w2 ⟨rfl, rfl⟩)
  rw [HKC.out]
  have P4 := pure_alloc w3 (.cells #[.int .i64 2, .int .i64 s, .int .i64 0, .int .i64 0] 49)
  have N4 := alloc_new w3 (.cells #[.int .i64 2, .int .i64 s, .int .i64 0, .int .i64 0] 49)
  have M4 := Below.keep P4 N3 (lt_of_block N3)
  have HF4 := HF3.out.below P4
  have HW4 := pure_trans HW3.out P4
  have hne : bf ≠ w3.heap.size := by have := lt_of_block N3; omega
  generalize w3.alloc (.cells #[.int .i64 2, .int .i64 s, .int .i64 0, .int .i64 0] 49) = w4 at *
  have hlo2 : w.heap.size ≤ w3.heap.size := HW3.out.size
  generalize w3.heap.size = bc at *
  have ST : WSt w bf bc P s 0 w4 := ⟨sz, pa, pn, pc, ea, en, ec, _, 0, M4, N4, HF4, Fl.WInv.start P HPP.out s ⟨hs3, hs4⟩, HW4⟩
  have HST := Lib.hid ST
  clear ST M4 N4 HF4 HW4 N3 HF3 HW3 P4 HPC HSC HKC
  go_wp2_with fail
  go_loopw [8, 13] (fun e i wr => ∃ j : Nat, e = .int .i64 0 ∧ i = .int .i64 j ∧ j ≤ k ∧ WSt w bf bc P s j wr) (fun _ i _ => k - (intOf i).toNat)
  case atStart => exact ⟨0, rfl, rfl, by omega, HST.out⟩
  case round =>
    obtain ⟨j, rfl, rfl, hj, hst⟩ := hrel
    obtain ⟨sz, pa, pn, pc, ea, en, ec, m, L, hM, hC, hF, hI, hB⟩ := hst
    by_cases hlt : j < k
    · have HM := Lib.hid hM
      have HC := Lib.hid hC
      have HF := Lib.hid hF
      have HI := Lib.hid hI
      have HB := Lib.hid hB
      have hL : L ≤ 9223372036854775807 := by
        have e := hI.ctr
        have e2 : L = ((j : Int) + s - 1) / s * s := by injection e
        have e3 : ((j : Int) + s - 1) / s * s ≤ (j : Int) + s - 1 := Int.ediv_mul_le _ (by omega)
        omega
      have c1 := cell_of_arr hM 0
      have c2 := cell_of_arr hM 1
      have c3 := cell_of_arr hM 2
      have k1 := cell_of_arr hC 0
      have k2 := cell_of_arr hC 1
      have k3 := cell_of_arr hC 2
      have k4 := cell_of_arr hC 3
      simp at c1 c2 c3 k1 k2 k3 k4
      clear hM hC hF hI hB
      go_wp2_with fail
      refine (take_any sz pa pn pc ea en ec 2 s j L m wr HF.out hL).mono ?_
      rintro e w5 ⟨sz', pa', pn', pc', ea', en', ec', rfl, hF5, hw5⟩
      have hT := Fl.WInv.take HPP.out HI.out ⟨hs3, hs4⟩ (by omega) (by omega)
      generalize Fl.takeP m ⟨2, s, j, L⟩ = tk at *
      obtain ⟨m', c', n', er'⟩ := tk
      obtain ⟨t1, t2, t3⟩ := hT
      dsimp only at t1 t2 t3 hF5 ⊢
      obtain rfl := t1
      obtain rfl := t2
      obtain ⟨t4, t5, t6⟩ := t3
      have T := Lib.hid (Fl.WInv.mk t4 t5 t6)
      clear t4 t6
      rw [t5] at T ⊢
      clear t5
      generalize ((j : Int) + 1 + s - 1) / s * s = L' at *
      simp only [ctrV]
      have HF5 := Lib.hid hF5
      have HB5 := Lib.hid (pure_trans HB.out hw5)
      have M5 := Below.keep hw5 HM.out (lt_of_block HM.out)
      have C5 := Below.keep hw5 HC.out (lt_of_block HC.out)
      have hbf := lt_of_block HM.out
      have hbc := lt_of_block HC.out
      clear hF5 hw5 c1 c2 c3 k1 k2 k3 k4 HM HC HF HI HB
      have c1 := cell_of_arr M5 0
      have c2 := cell_of_arr M5 1
      have c3 := cell_of_arr M5 2
      have k1 := cell_of_arr C5 0
      have k2 := cell_of_arr C5 1
      have k3 := cell_of_arr C5 2
      have k4 := cell_of_arr C5 3
      have f1 := frozen_of_arr M5 0
      have f2 := frozen_of_arr M5 1
      have f3 := frozen_of_arr M5 2
      have g1 := frozen_of_arr C5 0
      have g2 := frozen_of_arr C5 1
      have g3 := frozen_of_arr C5 2
      have g4 := frozen_of_arr C5 3
      simp at c1 c2 c3 k1 k2 k3 k4
      have HQ := Lib.hid (put34 M5 C5 hne (.int .i64 sz') (.slice pa' pn' pc') (.slice ea' en' ec') (.int .i64 2) (.int .i64 s) (.int .i64 ((j : Int) + 1)) (.int .i64 L') _ rfl)
      clear M5 C5
      go_wp2_with fail
      go_roundw
      case rel =>
        obtain ⟨S2, S3, S4, S5⟩ := HQ.out
        refine ⟨j + 1, rfl, by go_num, by omega, sz', pa', pn', pc', ea', en', ec', m', L', S2, ?_, ?_, ?_, S5 _ _ hlo hlo2 HB5.out⟩
        · rw [S3]; simp
        · exact HF5.out _ (fun k hk => S4 k (by omega) (by omega))
        · have := T.out; simpa using this
      case measure => simp [intOf]; omega
    · obtain rfl : j = k := by omega
      have HF := Lib.hid hF
      have HI := Lib.hid hI
      have HB := Lib.hid hB
      have HM := Lib.hid hM
      have c3 := cell_of_arr hM 2
      simp at c3
      clear hM hC hF hI hB
      obtain ⟨g, hg, hring⟩ := HI.out.ring
      obtain ⟨a, ha0, ha1, hla, hev⟩ := hring.even (by omega)
      have hen : en = P := by have := HF.out.erased.1; omega
      have hen4 : en ≤ 4 := by omega
      have HEN := Lib.hid hen
      have HEV := Lib.hid hev
      clear hen hev hla hring hg g
      go_wp2_with fail
      go_loop [15, 16, 68] (fun lo hi i => ∃ (q : Nat) (x y : Int), i = .int .i64 q ∧ q ≤ en ∧ lo = .int .i64 x ∧ hi = .int .i64 y ∧ a ≤ x ∧ x ≤ 1000 ∧ 0 ≤ y ∧ y ≤ a + 1) (fun _ _ i => en - (intOf i).toNat)
      case atStart => exact ⟨0, 1000, 0, rfl, by omega, rfl, rfl, by omega, by omega, by omega, by omega⟩
      case round =>
        obtain ⟨q, x, y, rfl, hq, rfl, rfl, hx1, hx2, hy1, hy2⟩ := hrel
        by_cases hq2 : q < en
        · obtain ⟨b2, o2, rfl, f2, f3, f4⟩ := HF.out.erased.2.2 q hq2
          have hz := HEV.out q (by have := HEN.out; omega)
          generalize m.erased.getD q 0 = z at *
          obtain ⟨hz1, hz2⟩ := hz
          go_wp2_with fail
          go_round
          case rel => exact ⟨q + 1, _, _, by go_num, by omega, rfl, rfl, by split <;> omega, by split <;> omega, by split <;> omega, by split <;> omega⟩
          case measure => simp [intOf]; omega
        · have M := HM.out
          have c1 := cell_of_arr M 0
          have c2 := cell_of_arr M 1
          simp at c1 c2
          clear M
          have hd : decide (y - x ≤ 1) = true := by simp; omega
          have HST := Lib.hid HI.out.stored
          go_wp2_with fail
          refine (get_any sz pa pn pc ea en ec 2 m wr HF.out).mono ?_
          rintro e w6 ⟨rfl, hw6⟩
          rw [HST.out]
          generalize (Fl.getP m 2).2 = ok at *
          have HB6 := Lib.hid (pure_trans HB.out hw6)
          clear hw6 c1 c2 c3 HST
          have hm1 : 0 ≤ ((j : Int) + s - 1) / s := Int.ediv_nonneg (by omega) (by omega)
          have hm3 : ((j : Int) + s - 1) / s ≤ 300 := Int.le_trans (Int.ediv_le_self _ (by omega)) (by omega)
          have hm2 : ((j : Int) + s - 1) / s * s ≤ 300 := Int.le_trans (Int.ediv_mul_le _ (by omega)) (by omega)
          have hm4 : 0 ≤ ((j : Int) + s - 1) / s * s := Int.mul_nonneg hm1 (by omega)
          go_wp2_with fail
          refine (awake_any _).mono ?_
          rintro e w7 ⟨rfl, hw7⟩
          have HB7 := Lib.hid (pure_trans HB6.out hw7)
          clear hw7
          go_wp2_with fail
          go_ret
          exact ⟨rfl, HB7.out⟩
end Go.Proofs.Ytnfjfifdkmgbdaa
