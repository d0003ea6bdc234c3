/- The walk of FlashCounts. -/
import Derived.Test.YtnfjfifdkmgbdaaXw
namespace Go.Proofs.Ytnfjfifdkmgbdaa
open Go.RowKit Go.Shelf
/-- A memory, as it lies in three cells of a block. -/
def Lies3 (W : World) (b o : Nat) : Prop := ∃ (sz : Int) (pa : Option Addr) (pn pc : Nat) (ea : Option Addr) (en ec : Nat) (m : Fl.Mem), W.cell? ⟨b, o, none⟩ = some (.int .i64 sz) ∧ W.cell? ⟨b, o + 1, none⟩ = some (.slice pa pn pc) ∧ W.cell? ⟨b, o + 2, none⟩ = some (.slice ea en ec) ∧ FRep W sz pa pn ea en m
theorem Lies3.below {W W' : World} {b o : Nat} (h : Lies3 W b o) (k : Below W.heap.size W W') : Lies3 W' b o := by
  obtain ⟨sz, pa, pn, pc, ea, en, ec, m, h0, h1, h2, h3⟩ := h
  exact ⟨sz, pa, pn, pc, ea, en, ec, m, (k.cell (p := ⟨b, o, none⟩) (lt_of_cell h0)).trans h0, (k.cell (p := ⟨b, o + 1, none⟩) (lt_of_cell h1)).trans h1, (k.cell (p := ⟨b, o + 2, none⟩) (lt_of_cell h2)).trans h2, h3.below k⟩
theorem openP_limit (m : Fl.Mem) (key step : Int) : (Fl.openP m key step).1.limit ≤ 9223372036854775807 := by
  unfold Fl.openP
  split
  · show (Fl.getP m key).1 ≤ _
    unfold Fl.getP
    split
    · have := (Fl.valueBelow_bd (Fl.page m (Fl.newest m).1.toNat) key (Fl.N m)).2
      omega
    · show (0 : Int) ≤ _; omega
  · show (0 : Int) ≤ _; omega
theorem put4 {w2 : World} {c : Nat} {p0 q0 r0 s0 : Value} (hC : w2.heap[c]? = some (.cells #[p0, q0, r0, s0] 49 (0, 0))) (p q r s : Value) (W : World)
    (hW : W = (((w2.setCell ⟨c, 0, none⟩ p).setCell ⟨c, 1, none⟩ q).setCell ⟨c, 2, none⟩ r).setCell ⟨c, 3, none⟩ s) :
    W.heap[c]? = some (.cells #[p, q, r, s] 49 (0, 0)) ∧ (∀ k, k ≠ c → W.heap[k]? = w2.heap[k]?) ∧ (∀ (n : Nat) (w : World), n ≤ c → Below n w w2 → Below n w W) := by
  refine ⟨?_, fun k h2 => ?_, fun n w h2 h => ?_⟩
  · rw [hW, set_arr (set_arr (set_arr (set_arr hC 0 p) 1 q) 2 r) 3 s]; simp
  · rw [hW, Below.heap_setCell _ _ _ _ h2, Below.heap_setCell _ _ _ _ h2, Below.heap_setCell _ _ _ _ h2, Below.heap_setCell _ _ _ _ h2]
  · rw [hW]; exact (((h.setCell h2 _).setCell h2 _).setCell h2 _).setCell h2 _
set_option maxRecDepth 100000 in
set_option maxHeartbeats 3200000 in
theorem counts_law_any (rk rs rn rl : Int) (a : Option Addr) (len cap : Nat) (l : List Int) (at_ by_ key step : Int) (w : World) (h : Is w a len l) (hrl : rl ≤ 9223372036854775807) (ha1 : -9223372036854775808 ≤ at_) (ha2 : at_ ≤ 9223372036854775807) :
    Calls Try.prog 5 #[.agg #[.int .i64 rk, .int .i64 rs, .int .i64 rn, .int .i64 rl], .slice a len cap, .int .i64 at_, .int .i64 by_, .int .i64 key, .int .i64 step] w fun e w' => e = .returned (.bool true) ∧ Below w.heap.size w w' := by
  have P0 := pure_alloc w (.cells #[.int .i64 rk, .int .i64 rs, .int .i64 rn, .int .i64 rl] 49)
  have N0 := alloc_new w (.cells #[.int .i64 rk, .int .i64 rs, .int .i64 rn, .int .i64 rl] 49)
  have hI := h.below P0
  go_enter Try.func5, Try.ntmps5
  go_upto_region 1 with fail
  generalize w.alloc (.cells #[.int .i64 rk, .int .i64 rs, .int .i64 rn, .int .i64 rl] 49) = w0 at *
  have HP0 := Lib.hid P0
  have HN0 := Lib.hid N0
  have HD := Lib.hid (Deck.made (cap := cap) hI)
  have P1 := Lib.hid (pure_alloc w0 (.cells #[.slice a len cap, .int .i64 0] 69))
  have hR := lt_of_block N0

  clear h hI P0 N0
  go_wp2_with fail
  refine (new_any a len cap w0).mono ?_
  rintro e w1 ⟨rfl, rfl⟩
  have hs1 : (w0.alloc (.cells #[.slice a len cap, .int .i64 0] 69)).heap.size = w0.heap.size + 1 := by simp
  generalize w0.alloc (.cells #[.slice a len cap, .int .i64 0] 69) = w1 at *
  have HS1 := Lib.hid hs1
  clear hs1
  go_wp2_with fail
  refine (mkflash_any w0.heap.size w1 HD.out).mono ?_
  rintro e w2 ⟨sz, pa, pn, pc, ea, en, ec, m, rfl, hF, hval, hbut⟩
  have hb2 : Below w0.heap.size w0 w2 := P1.out.trans (hbut.below (B := w0.heap.size) (Nat.le_refl _) (by have := HS1.out; omega))
  have HP2 := Lib.hid hb2
  have PX := pure_alloc w2 (.cells #[.int .i64 sz, .slice pa pn pc, .slice ea en ec] 32)
  have NX := alloc_new w2 (.cells #[.int .i64 sz, .slice pa pn pc, .slice ea en ec] 32)
  have HF3 := Lib.hid (hF.below PX)
  have HP3 := Lib.hid (pure_trans HP2.out PX)
  have HVAL := Lib.hid hval
  clear hF hval hbut HD P1 HS1 hb2 HP2
  go_upto_region 2 with fail
  generalize w2.alloc (.cells #[.int .i64 sz, .slice pa pn pc, .slice ea en ec] 32) = w3 at *
  have hX := lt_of_block NX
  have x0 := cell_of_arr NX 0
  have x1 := cell_of_arr NX 1
  have x2 := cell_of_arr NX 2
  simp at x0 x1 x2
  clear PX NX
  generalize w2.heap.size = X at *
  refine wp_region_held_drew (S := (fun W => W.cell? ⟨X, 0, none⟩ = some (.int .i64 sz) ∧ W.cell? ⟨X, 1, none⟩ = some (.slice pa pn pc) ∧ W.cell? ⟨X, 2, none⟩ = some (.slice ea en ec))) (by kernel_rfl) ⟨x0, x1, x2⟩ (fun hHeld => ?_)
  refine wpAnyH_take (i := 0) (v := ?_) rfl (by kernel_rfl) (by kernel_rfl) (by kernel_rfl) (fun _ _ _ h => h) (Or.inl ⟨by rfl, ?_⟩) hHeld ?_
  rotate_left
  · (intro W hSw; (try dsimp only at hSw); go_simp; try with_reducible rfl)
  try simp only [Act.put, List.setIfInBounds_toArray, List.set_cons_zero, List.set_cons_succ, List.getElem_toArray, List.getElem_cons_succ, List.getElem_cons_zero]
  refine wpAnyH_take (i := 1) (v := ?_) rfl (by kernel_rfl) (by kernel_rfl) (by kernel_rfl) (fun _ _ _ h => h) (Or.inl ⟨by rfl, ?_⟩) hHeld ?_
  rotate_left
  · (intro W hSw; (try dsimp only at hSw); go_simp; try with_reducible rfl)
  try simp only [Act.put, List.setIfInBounds_toArray, List.set_cons_zero, List.set_cons_succ, List.getElem_toArray, List.getElem_cons_succ, List.getElem_cons_zero]
  refine wpAnyH_take (i := 2) (v := ?_) rfl (by kernel_rfl) (by kernel_rfl) (by kernel_rfl) (fun _ _ _ h => h) (Or.inl ⟨by rfl, ?_⟩) hHeld ?_
  rotate_left
  · (intro W hSw; (try dsimp only at hSw); go_simp; try with_reducible rfl)
  try simp only [Act.put, List.setIfInBounds_toArray, List.set_cons_zero, List.set_cons_succ, List.getElem_toArray, List.getElem_cons_succ, List.getElem_cons_zero]
  refine wpAnyH_take (i := 3) (v := ?_) rfl (by kernel_rfl) (by kernel_rfl) (by kernel_rfl) (fun _ _ _ h => h) (Or.inl ⟨by rfl, ?_⟩) hHeld ?_
  rotate_left
  · (intro W hSw; (try dsimp only at hSw); go_simp; try with_reducible rfl)
  try simp only [Act.put, List.setIfInBounds_toArray, List.set_cons_zero, List.set_cons_succ, List.getElem_toArray, List.getElem_cons_succ, List.getElem_cons_zero]
  refine wpAnyH_take (i := 7) (v := ?_) rfl (by kernel_rfl) (by kernel_rfl) (by kernel_rfl) (fun _ _ _ h => h) (Or.inl ⟨by rfl, ?_⟩) hHeld ?_
  rotate_left
  · (intro W hSw; (try dsimp only at hSw); go_simp; try with_reducible rfl)
  try simp only [Act.put, List.setIfInBounds_toArray, List.set_cons_zero, List.set_cons_succ, List.getElem_toArray, List.getElem_cons_succ, List.getElem_cons_zero]
  refine wpAnyH_ready (rs := [4]) (by kernel_rfl) (by simp) ?_
  refine AllReadyH.cons rfl (fun K1 hK1 => ?_) AllReadyH.nil
  go_simp
  refine (damaged_any sz pa pn pc ea en ec at_ by_ m w3.drew (HF3.out.below (below_drewN (Below.refl _ _) 1)) HVAL.out ha1 ha2).mono ?_
  rintro e w4 ⟨md, sz', pa', pn', pc', ea', en', ec', rfl, hF4, hw4⟩
  refine hK1.out _ _ ⟨(hw4.cell (p := ⟨X, 0, none⟩) hX).trans x0, (hw4.cell (p := ⟨X, 1, none⟩) hX).trans x1, (hw4.cell (p := ⟨X, 2, none⟩) hX).trans x2⟩ (fun hHeld => ?_)
  clear hK1
  try simp only [Act.put, List.setIfInBounds_toArray, List.set_cons_zero, List.set_cons_succ, List.getElem_toArray, List.getElem_cons_succ, List.getElem_cons_zero]
  refine wpAnyH_ready (rs := [5]) (by kernel_rfl) (by simp) ?_
  refine AllReadyH.cons rfl (fun K1 hK1 => ?_) AllReadyH.nil
  go_simp
  have PA := pure_alloc w4 (.cells #[.int .i64 sz, .slice pa pn pc, .slice ea en ec, .int .i64 sz', .slice pa' pn' pc', .slice ea' en' ec'] 32)
  have NA := alloc_new w4 (.cells #[.int .i64 sz, .slice pa pn pc, .slice ea en ec, .int .i64 sz', .slice pa' pn' pc', .slice ea' en' ec'] 32)
  have hw4' : Below w3.heap.size w3 w4 := (below_drewN (Below.refl _ _) 1 : Below w3.heap.size w3 w3.drew).trans hw4
  have HP5 := Lib.hid (pure_trans (pure_trans HP3.out hw4') PA)
  have L0 : Lies3 (w4.alloc (.cells #[.int .i64 sz, .slice pa pn pc, .slice ea en ec, .int .i64 sz', .slice pa' pn' pc', .slice ea' en' ec'] 32)) w4.heap.size (0 * 3) := by
    have g0 := cell_of_arr NA 0
    have g1 := cell_of_arr NA 1
    have g2 := cell_of_arr NA 2
    exact ⟨sz, pa, pn, pc, ea, en, ec, m, by rw [Nat.zero_mul, g0]; rfl, by rw [Nat.zero_mul, g1]; rfl, by rw [Nat.zero_mul, g2]; rfl, (HF3.out.below hw4').below PA⟩
  have L1 : Lies3 (w4.alloc (.cells #[.int .i64 sz, .slice pa pn pc, .slice ea en ec, .int .i64 sz', .slice pa' pn' pc', .slice ea' en' ec'] 32)) w4.heap.size (1 * 3) := by
    have g0 := cell_of_arr NA 3
    have g1 := cell_of_arr NA 4
    have g2 := cell_of_arr NA 5
    exact ⟨sz', pa', pn', pc', ea', en', ec', md, by rw [Nat.one_mul, g0]; rfl, by rw [Nat.one_mul, g1]; rfl, by rw [Nat.one_mul, g2]; rfl, (hF4 w4 (fun _ _ => rfl)).below PA⟩
  refine hK1.out _ _ ?_ (fun hHeld => ?_)
  · exact ⟨(PA.cell (p := ⟨X, 0, none⟩) (Nat.lt_of_lt_of_le hX hw4.size)).trans ((hw4.cell (p := ⟨X, 0, none⟩) hX).trans x0), (PA.cell (p := ⟨X, 1, none⟩) (Nat.lt_of_lt_of_le hX hw4.size)).trans ((hw4.cell (p := ⟨X, 1, none⟩) hX).trans x1), (PA.cell (p := ⟨X, 2, none⟩) (Nat.lt_of_lt_of_le hX hw4.size)).trans ((hw4.cell (p := ⟨X, 2, none⟩) hX).trans x2)⟩
  clear hK1
  try simp only [Act.put, List.setIfInBounds_toArray, List.set_cons_zero, List.set_cons_succ, List.getElem_toArray, List.getElem_cons_succ, List.getElem_cons_zero]
  generalize w4.alloc (.cells #[.int .i64 sz, .slice pa pn pc, .slice ea en ec, .int .i64 sz', .slice pa' pn' pc', .slice ea' en' ec'] 32) = w5 at *
  clear PA NA hw4 hw4' hF4 x0 x1 x2 HF3 HP3
  generalize w4.heap.size = bl at *
  refine wpAnyH_take (i := 6) (v := ?_) rfl (by kernel_rfl) (by kernel_rfl) (by kernel_rfl) (fun _ _ _ h => h) (Or.inl ⟨by rfl, ?_⟩) hHeld ?_
  rotate_left
  · (intro W hSw; (try dsimp only at hSw); go_simp; try with_reducible rfl)
  try simp only [Act.put, List.setIfInBounds_toArray, List.set_cons_zero, List.set_cons_succ, List.getElem_toArray, List.getElem_cons_succ, List.getElem_cons_zero]
  refine wpAnyH_done (by kernel_rfl) ?_ _
  try simp only [Act.put, List.setIfInBounds_toArray, List.set_cons_zero, List.set_cons_succ, List.getElem_toArray, List.getElem_cons_succ, List.getElem_cons_zero]
  clear hHeld hX
  have HCE : Hid (∀ j, j < 2 → Lies3 w5 bl (j * 3)) := by
    show ∀ j, j < 2 → Lies3 w5 bl (j * 3)
    intro j hj
    rcases (show j = 0 ∨ j = 1 by omega) with rfl | rfl
    · exact L0
    · exact L1
  clear L0 L1
  have HR5 := Lib.hid (Below.keep HP5.out HN0.out hR)
  have hR5 := lt_of_block HR5.out
  have HPW := Lib.hid (HP0.out.trans (HP5.out.mono HP0.out.size))
  clear HN0 HP5 hR HP0
  go_wp2_with fail
  go_loopw [32] (fun i W => ∃ j : Nat, i = .int .i64 j ∧ j ≤ 2 ∧ Below w5.heap.size w5 W) (fun i _ => 2 - (intOf i).toNat)
  case atStart => exact ⟨0, rfl, by omega, Below.refl _ _⟩
  case round =>
    obtain ⟨j, rfl, hj, hB⟩ := hrel
    by_cases hj2 : j < 2
    rotate_left
    · have HB := Lib.hid (HPW.out.trans (hB.mono HPW.out.size))
      have hj' : ¬ ((j : Int) < 2) := by omega
      clear hB
      go_wp2_with fail
      refine (awake_any _).mono ?_
      rintro e w6 ⟨rfl, hw6⟩
      have HP6 := Lib.hid (HB.out.trans (hw6.mono HB.out.size))
      clear hw6
      go_wp2_with fail
      go_ret
      exact ⟨rfl, HP6.out⟩
    obtain ⟨sz, pa, pn, pc, ea, en, ec, m, c0, c1, c2, hF⟩ := (HCE.out j hj2).below hB
    have HRr := Lib.hid (Below.keep hB HR5.out hR5)
    have HB := Lib.hid hB
    have HF := Lib.hid hF
    have hj' : (j : Int) < 2 := by omega
    clear hB hF
    go_upto_region 5 with fail
    have PX := pure_alloc wr (.cells #[.int .i64 sz, .slice pa pn pc, .slice ea en ec] 32)
    have NX := alloc_new wr (.cells #[.int .i64 sz, .slice pa pn pc, .slice ea en ec] 32)
    have HF6 := Lib.hid (HF.out.below PX)
    have HB6 := Lib.hid (HB.out.trans (PX.mono HB.out.size))
    have HR6 := Lib.hid (Below.keep PX HRr.out (lt_of_block HRr.out))
    generalize wr.alloc (.cells #[.int .i64 sz, .slice pa pn pc, .slice ea en ec] 32) = w6 at *
    have HX6 := Lib.hid NX
    clear PX NX HF HB HRr c0 c1 c2
    generalize wr.heap.size = X1 at *
    have s0 := Int.emod_nonneg step (show (9 : Int) ≠ 0 by omega)
    have s1 := Int.emod_lt_of_pos step (show (0 : Int) < 9 by omega)
    go_wp2_with (go_at_call 12; refine (mod_any _ _ _ (by omega) (by omega)).mono ?_; rintro e w2 ⟨rfl, rfl⟩)
    have PA := pure_alloc w6 (.cells #[.int .i64 step, .int .i64 (1 + step % 9)] 3)
    have NA := alloc_new w6 (.cells #[.int .i64 step, .int .i64 (1 + step % 9)] 3)
    have HF7 := Lib.hid (HF6.out.below PA)
    have HB7 := Lib.hid (HB6.out.trans (PA.mono HB6.out.size))
    have HR7 := Lib.hid (Below.keep PA HR6.out (lt_of_block HR6.out))
    have HX7 := Lib.hid (Below.keep PA HX6.out (lt_of_block HX6.out))
    have CE2 : Hid (∀ k, k < 2 → ∃ s : Int, (w6.alloc (.cells #[.int .i64 step, .int .i64 (1 + step % 9)] 3)).cell? ⟨w6.heap.size, k, none⟩ = some (.int .i64 s)) := by
      show ∀ k, k < 2 → _
      intro k hk
      rcases (show k = 0 ∨ k = 1 by omega) with rfl | rfl
      · exact ⟨_, cell_of_arr NA 0⟩
      · exact ⟨_, cell_of_arr NA 1⟩
    generalize w6.alloc (.cells #[.int .i64 step, .int .i64 (1 + step % 9)] 3) = w7 at *
    clear PA NA HF6 HB6 HR6 HX6
    generalize w6.heap.size = b2 at *
    go_loopw [42] (fun i W => ∃ k : Nat, i = .int .i64 k ∧ k ≤ 2 ∧ Below w7.heap.size w7 W) (fun i _ => 2 - (intOf i).toNat)
    case atStart => exact ⟨0, rfl, by omega, Below.refl _ _⟩
    case round =>
      obtain ⟨k, rfl, hk, hB⟩ := hrel
      by_cases hk2 : k < 2
      · obtain ⟨s, cs⟩ := CE2.out k hk2
        have cs := (hB.cell (p := ⟨b2, k, none⟩) (lt_of_cell cs)).trans cs
        have hk' : (k : Int) < 2 := by omega
        have HXr := Lib.hid (Below.keep hB HX7.out (lt_of_block HX7.out))
        have HFr := Lib.hid (HF7.out.below hB)
        have HBr := Lib.hid hB
        have HOP : Hid (∀ (key : Int) (W : World), Below wr.heap.size wr W → Calls Try.prog 26 #[.agg #[.int .i64 sz, .slice pa pn pc, .slice ea en ec], .int .i64 key, .int .i64 s] W fun e w' => e = .returned (.tuple #[ctrV (Fl.openP m key s).1, .int .i64 (Fl.openP m key s).2]) ∧ Below W.heap.size W w') := by
          show ∀ (key : Int) (W : World), _ → _
          exact fun key W hW => open_any sz pa pn pc ea en ec key s m W (HFr.out.below hW)
        have HOR : Hid (∀ (key : Int) (W : World), Below wr.heap.size wr W → Calls Try.prog 27 #[.agg #[.int .i64 sz, .slice pa pn pc, .slice ea en ec], .int .i64 key, .int .i64 s] W fun e w' => e = .returned (.tuple #[ctrV (Fl.openP m key s).1, .int .i64 (Fl.openP m key s).2]) ∧ Below W.heap.size W w') := by
          show ∀ (key : Int) (W : World), _ → _
          exact fun key W hW => openR_any sz pa pn pc ea en ec key s m W (HFr.out.below hW)
        have HLIM : Hid (∀ key : Int, (Fl.openP m key s).1.limit ≤ 9223372036854775807) := by
          show ∀ key : Int, _
          exact fun key => openP_limit m key s
        clear hB
        have x0 := cell_of_arr HXr.out 0
        have x1 := cell_of_arr HXr.out 1
        have x2 := cell_of_arr HXr.out 2
        simp at x0 x1 x2
        go_wp2_with fail
        refine (HOP.out key wr (Below.refl _ _)).mono ?_
        rintro e w8 ⟨rfl, hw8⟩
        have HO1 := Lib.hid (HOR.out key)
        generalize Fl.openP m key s = op at *
        obtain ⟨⟨q1, q2, q3, q4⟩, qe⟩ := op
        dsimp only at HO1 ⊢
        simp only [ctrV] at HO1 ⊢
        have PY := pure_alloc w8 (.cells #[.int .i64 q1, .int .i64 q2, .int .i64 q3, .int .i64 q4] 49)
        have HY1 := Lib.hid (alloc_new w8 (.cells #[.int .i64 q1, .int .i64 q2, .int .i64 q3, .int .i64 q4] 49))
        have HW9 := Lib.hid (pure_trans hw8 PY)
        have hge1 := hw8.size
        go_upto_region 9 with fail
        generalize w8.alloc (.cells #[.int .i64 q1, .int .i64 q2, .int .i64 q3, .int .i64 q4] 49) = w9 at *
        clear PY hw8 cs x0 x1 x2
        generalize w8.heap.size = Y1 at *
        have X9 := Below.keep HW9.out HXr.out (lt_of_block HXr.out)
        have x0 := cell_of_arr X9 0
        have x1 := cell_of_arr X9 1
        have x2 := cell_of_arr X9 2
        simp at x0 x1 x2
        clear X9
        go_wp2_with fail
        refine (HO1.out w9 HW9.out).mono ?_
        rintro e w10 ⟨rfl, hw10⟩
        have PY := pure_alloc w10 (.cells #[.int .i64 q1, .int .i64 q2, .int .i64 q3, .int .i64 q4] 49)
        have HY2 := Lib.hid (alloc_new w10 (.cells #[.int .i64 q1, .int .i64 q2, .int .i64 q3, .int .i64 q4] 49))
        have HW11 := Lib.hid (pure_trans (pure_trans HW9.out hw10) PY)
        have HY1' := Lib.hid (Below.keep (pure_trans hw10 PY) HY1.out (lt_of_block HY1.out))
        have hge2 := Nat.le_trans HW9.out.size hw10.size
        have hne : Y1 < w10.heap.size := Nat.lt_of_lt_of_le (lt_of_block HY1.out) hw10.size
        go_upto_region 10 with fail
        generalize w10.alloc (.cells #[.int .i64 q1, .int .i64 q2, .int .i64 q3, .int .i64 q4] 49) = w11 at *
        clear PY hw10 x0 x1 x2 HY1 HW9 HO1
        generalize w10.heap.size = Y2 at *
        have X11 := Below.keep HW11.out HXr.out (lt_of_block HXr.out)
        have x0 := cell_of_arr X11 0
        have x1 := cell_of_arr X11 1
        have x2 := cell_of_arr X11 2
        simp at x0 x1 x2
        have y0 := cell_of_arr HY1'.out 0
        have y1 := cell_of_arr HY1'.out 1
        have y2 := cell_of_arr HY1'.out 2
        have y3 := cell_of_arr HY1'.out 3
        simp at y0 y1 y2 y3
        have z0 := cell_of_arr HY2.out 0
        have z1 := cell_of_arr HY2.out 1
        have z2 := cell_of_arr HY2.out 2
        have z3 := cell_of_arr HY2.out 3
        simp at z0 z1 z2 z3
        have hX1 : X1 < wr.heap.size := lt_of_block HXr.out
        go_upto_region 12 with fail
        clear X11 y0 y1 y2 y3 z0 z1 z2 z3
        refine wp_region_held_drew (S := (fun W => W.cell? ⟨X1, 0, none⟩ = some (.int .i64 sz) ∧ W.cell? ⟨X1, 1, none⟩ = some (.slice pa pn pc) ∧ W.cell? ⟨X1, 2, none⟩ = some (.slice ea en ec))) (by kernel_rfl) ⟨x0, x1, x2⟩ (fun hHeld => ?_)
        refine wpAnyH_take (i := 0) (v := ?_) rfl (by kernel_rfl) (by kernel_rfl) (by kernel_rfl) (fun _ _ _ h => h) (Or.inl ⟨by rfl, ?_⟩) hHeld ?_
        rotate_left
        · (intro W hSw; (try dsimp only at hSw); go_simp; try with_reducible rfl)
        try simp only [Act.put, List.setIfInBounds_toArray, List.set_cons_zero, List.set_cons_succ, List.getElem_toArray, List.getElem_cons_succ, List.getElem_cons_zero]
        refine wpAnyH_take (i := 1) (v := ?_) rfl (by kernel_rfl) (by kernel_rfl) (by kernel_rfl) (fun _ _ _ h => h) (Or.inl ⟨by rfl, ?_⟩) hHeld ?_
        rotate_left
        · (intro W hSw; (try dsimp only at hSw); go_simp; try with_reducible rfl)
        try simp only [Act.put, List.setIfInBounds_toArray, List.set_cons_zero, List.set_cons_succ, List.getElem_toArray, List.getElem_cons_succ, List.getElem_cons_zero]
        refine wpAnyH_take (i := 3) (v := ?_) rfl (by kernel_rfl) (by kernel_rfl) (by kernel_rfl) (fun _ _ _ h => h) (Or.inl ⟨by rfl, ?_⟩) hHeld ?_
        rotate_left
        · (intro W hSw; (try dsimp only at hSw); go_simp; try with_reducible rfl)
        try simp only [Act.put, List.setIfInBounds_toArray, List.set_cons_zero, List.set_cons_succ, List.getElem_toArray, List.getElem_cons_succ, List.getElem_cons_zero]
        refine wpAnyH_ready (rs := [2]) (by kernel_rfl) (by simp) ?_
        refine AllReadyH.cons rfl (fun K1 hK1 => ?_) AllReadyH.nil
        go_simp
        refine (mod_any _ _ _ (by omega) (by omega)).mono ?_
        rintro e u ⟨rfl, rfl⟩
        refine hK1.out _ _ hHeld (fun hHeld => ?_)
        clear hK1
        try simp only [Act.put, List.setIfInBounds_toArray, List.set_cons_zero, List.set_cons_succ, List.getElem_toArray, List.getElem_cons_succ, List.getElem_cons_zero]
        refine wpAnyH_ready (rs := [4]) (by kernel_rfl) (by simp) ?_
        refine AllReadyH.cons rfl (fun K1 hK1 => ?_) AllReadyH.nil
        go_simp
        refine (HOP.out (key % 5) w11.drew (below_drewN HW11.out 1)).mono ?_
        rintro e w12 ⟨rfl, hw12⟩
        have HO2 := Lib.hid (HOR.out (key % 5))
        have HL2 := HLIM.out (key % 5)
        generalize Fl.openP m (key % 5) s = op at *
        obtain ⟨⟨p1, p2, p3, p4⟩, pe⟩ := op
        dsimp only at HO2 HL2 ⊢
        simp only [ctrV] at HO2 ⊢
        have hw12' : Below w11.heap.size w11 w12 := (below_drewN (Below.refl _ _) 1 : Below w11.heap.size w11 w11.drew).trans hw12
        have HW12 := Lib.hid (pure_trans HW11.out hw12')
        have Y1b := Below.keep hw12' HY1'.out (lt_of_block HY1'.out)
        have Y2b := Below.keep hw12' HY2.out (lt_of_block HY2.out)
        have Xb := Below.keep HW12.out HXr.out (lt_of_block HXr.out)
        have x0 := cell_of_arr Xb 0
        have x1 := cell_of_arr Xb 1
        have x2 := cell_of_arr Xb 2
        simp at x0 x1 x2
        have y0 := cell_of_arr Y1b 0
        have y1 := cell_of_arr Y1b 1
        have y2 := cell_of_arr Y1b 2
        have y3 := cell_of_arr Y1b 3
        simp at y0 y1 y2 y3
        have f0 := frozen_of_arr Y1b 0
        have f1 := frozen_of_arr Y1b 1
        have f2 := frozen_of_arr Y1b 2
        have f3 := frozen_of_arr Y1b 3
        have hXY : Y1 ≠ X1 := by omega
        have HY1b := Lib.hid Y1b
        have HY2b := Lib.hid Y2b
        clear hw12 hw12' Y1b Y2b Xb HW11 HY1' HY2
        refine hK1.out _ _ ⟨x0, x1, x2⟩ (fun hHeld => ?_)
        clear hK1
        try simp only [Act.put, List.setIfInBounds_toArray, List.set_cons_zero, List.set_cons_succ, List.getElem_toArray, List.getElem_cons_succ, List.getElem_cons_zero]
        refine wpAnyH_take (i := 5) (v := ?_) rfl (by kernel_rfl) (by kernel_rfl) (by kernel_rfl) (fun _ _ _ h => h) (Or.inl ⟨by rfl, ?_⟩) hHeld ?_
        rotate_left
        · (intro W hSw; (try dsimp only at hSw); go_simp; try with_reducible rfl)
        try simp only [Act.put, List.setIfInBounds_toArray, List.set_cons_zero, List.set_cons_succ, List.getElem_toArray, List.getElem_cons_succ, List.getElem_cons_zero]
        refine wpAnyH_take (i := 6) (v := ?_) rfl (by kernel_rfl) (by kernel_rfl) (by kernel_rfl) (fun _ _ _ h => h) (Or.inl ⟨by rfl, ?_⟩) hHeld ?_
        rotate_left
        · (intro W hSw; (try dsimp only at hSw); go_simp; try with_reducible rfl)
        try simp only [Act.put, List.setIfInBounds_toArray, List.set_cons_zero, List.set_cons_succ, List.getElem_toArray, List.getElem_cons_succ, List.getElem_cons_zero]
        refine wpAnyH_take (i := 7) (v := ?_) rfl (by kernel_rfl) (by kernel_rfl) (by kernel_rfl) (fun _ _ _ h => h) (Or.inl ⟨by rfl, ?_⟩) hHeld ?_
        rotate_left
        · (intro W hSw; (try dsimp only at hSw); go_simp; try with_reducible rfl)
        try simp only [Act.put, List.setIfInBounds_toArray, List.set_cons_zero, List.set_cons_succ, List.getElem_toArray, List.getElem_cons_succ, List.getElem_cons_zero]
        refine wpAnyH_ready (rs := [8]) (by kernel_rfl) (by simp) ?_
        refine AllReadyH.cons rfl (fun K1 hK1 => ?_) AllReadyH.nil
        go_simp
        refine hK1.out _ _ ⟨by simpa [World.cell?_setCell_far, hXY] using x0, by simpa [World.cell?_setCell_far, hXY] using x1, by simpa [World.cell?_setCell_far, hXY] using x2⟩ (fun hHeld => ?_)
        clear hK1
        try simp only [Act.put, List.setIfInBounds_toArray, List.set_cons_zero, List.set_cons_succ, List.getElem_toArray, List.getElem_cons_succ, List.getElem_cons_zero]
        refine wpAnyH_take (i := 9) (v := ?_) rfl (by kernel_rfl) (by kernel_rfl) (by kernel_rfl) (fun _ _ _ h => h) (Or.inl ⟨by rfl, ?_⟩) hHeld ?_
        rotate_left
        · (intro W hSw; (try dsimp only at hSw); go_simp; try with_reducible rfl)
        try simp only [Act.put, List.setIfInBounds_toArray, List.set_cons_zero, List.set_cons_succ, List.getElem_toArray, List.getElem_cons_succ, List.getElem_cons_zero]
        refine wpAnyH_done (by kernel_rfl) ?_ _
        try simp only [Act.put, List.setIfInBounds_toArray, List.set_cons_zero, List.set_cons_succ, List.getElem_toArray, List.getElem_cons_succ, List.getElem_cons_zero]
        obtain ⟨S1, S2, S3⟩ := put4 HY1b.out (.int .i64 p1) (.int .i64 p2) (.int .i64 p3) (.int .i64 p4) _ rfl
        generalize (((w12.setCell ⟨Y1, 0, none⟩ (.int .i64 p1)).setCell ⟨Y1, 1, none⟩ (.int .i64 p2)).setCell ⟨Y1, 2, none⟩ (.int .i64 p3)).setCell ⟨Y1, 3, none⟩ (.int .i64 p4) = w13 at *
        have HW13 := Lib.hid (S3 _ _ hge1 HW12.out)
        have HY1c := Lib.hid S1
        have HY2c := Lib.hid ((S2 Y2 (by omega)).trans HY2b.out)
        clear S1 S2 S3 hHeld x0 x1 x2 y0 y1 y2 y3 f0 f1 f2 f3 HW12 HY1b HY2b
        have Xb := Below.keep HW13.out HXr.out (lt_of_block HXr.out)
        have x0 := cell_of_arr Xb 0
        have x1 := cell_of_arr Xb 1
        have x2 := cell_of_arr Xb 2
        simp at x0 x1 x2
        clear Xb
        go_upto_region 13 with fail
        refine wp_region_held_drew (S := (fun W => W.cell? ⟨X1, 0, none⟩ = some (.int .i64 sz) ∧ W.cell? ⟨X1, 1, none⟩ = some (.slice pa pn pc) ∧ W.cell? ⟨X1, 2, none⟩ = some (.slice ea en ec))) (by kernel_rfl) ⟨x0, x1, x2⟩ (fun hHeld => ?_)
        refine wpAnyH_take (i := 0) (v := ?_) rfl (by kernel_rfl) (by kernel_rfl) (by kernel_rfl) (fun _ _ _ h => h) (Or.inl ⟨by rfl, ?_⟩) hHeld ?_
        rotate_left
        · (intro W hSw; (try dsimp only at hSw); go_simp; try with_reducible rfl)
        try simp only [Act.put, List.setIfInBounds_toArray, List.set_cons_zero, List.set_cons_succ, List.getElem_toArray, List.getElem_cons_succ, List.getElem_cons_zero]
        refine wpAnyH_take (i := 1) (v := ?_) rfl (by kernel_rfl) (by kernel_rfl) (by kernel_rfl) (fun _ _ _ h => h) (Or.inl ⟨by rfl, ?_⟩) hHeld ?_
        rotate_left
        · (intro W hSw; (try dsimp only at hSw); go_simp; try with_reducible rfl)
        try simp only [Act.put, List.setIfInBounds_toArray, List.set_cons_zero, List.set_cons_succ, List.getElem_toArray, List.getElem_cons_succ, List.getElem_cons_zero]
        refine wpAnyH_take (i := 3) (v := ?_) rfl (by kernel_rfl) (by kernel_rfl) (by kernel_rfl) (fun _ _ _ h => h) (Or.inl ⟨by rfl, ?_⟩) hHeld ?_
        rotate_left
        · (intro W hSw; (try dsimp only at hSw); go_simp; try with_reducible rfl)
        try simp only [Act.put, List.setIfInBounds_toArray, List.set_cons_zero, List.set_cons_succ, List.getElem_toArray, List.getElem_cons_succ, List.getElem_cons_zero]
        refine wpAnyH_ready (rs := [2]) (by kernel_rfl) (by simp) ?_
        refine AllReadyH.cons rfl (fun K1 hK1 => ?_) AllReadyH.nil
        go_simp
        refine (mod_any _ _ _ (by omega) (by omega)).mono ?_
        rintro e u ⟨rfl, rfl⟩
        refine hK1.out _ _ hHeld (fun hHeld => ?_)
        clear hK1
        try simp only [Act.put, List.setIfInBounds_toArray, List.set_cons_zero, List.set_cons_succ, List.getElem_toArray, List.getElem_cons_succ, List.getElem_cons_zero]
        refine wpAnyH_ready (rs := [4]) (by kernel_rfl) (by simp) ?_
        refine AllReadyH.cons rfl (fun K1 hK1 => ?_) AllReadyH.nil
        go_simp
        refine (HO2.out w13.drew (below_drewN HW13.out 1)).mono ?_
        rintro e w14 ⟨rfl, hw14⟩
        have hw14' : Below w13.heap.size w13 w14 := (below_drewN (Below.refl _ _) 1 : Below w13.heap.size w13 w13.drew).trans hw14
        have HW14 := Lib.hid (pure_trans HW13.out hw14')
        have Y1b := Below.keep hw14' HY1c.out (lt_of_block HY1c.out)
        have Y2b := Below.keep hw14' HY2c.out (lt_of_block HY2c.out)
        have Xb := Below.keep HW14.out HXr.out (lt_of_block HXr.out)
        have x0 := cell_of_arr Xb 0
        have x1 := cell_of_arr Xb 1
        have x2 := cell_of_arr Xb 2
        simp at x0 x1 x2
        have y0 := cell_of_arr Y2b 0
        have y1 := cell_of_arr Y2b 1
        have y2 := cell_of_arr Y2b 2
        have y3 := cell_of_arr Y2b 3
        simp at y0 y1 y2 y3
        have f0 := frozen_of_arr Y2b 0
        have f1 := frozen_of_arr Y2b 1
        have f2 := frozen_of_arr Y2b 2
        have f3 := frozen_of_arr Y2b 3
        have hXY2 : Y2 ≠ X1 := by omega
        have HY1d := Lib.hid Y1b
        have HY2d := Lib.hid Y2b
        clear hw14 hw14' Y1b Y2b Xb HW13 HY1c HY2c HO2
        refine hK1.out _ _ ⟨x0, x1, x2⟩ (fun hHeld => ?_)
        clear hK1
        try simp only [Act.put, List.setIfInBounds_toArray, List.set_cons_zero, List.set_cons_succ, List.getElem_toArray, List.getElem_cons_succ, List.getElem_cons_zero]
        refine wpAnyH_take (i := 5) (v := ?_) rfl (by kernel_rfl) (by kernel_rfl) (by kernel_rfl) (fun _ _ _ h => h) (Or.inl ⟨by rfl, ?_⟩) hHeld ?_
        rotate_left
        · (intro W hSw; (try dsimp only at hSw); go_simp; try with_reducible rfl)
        try simp only [Act.put, List.setIfInBounds_toArray, List.set_cons_zero, List.set_cons_succ, List.getElem_toArray, List.getElem_cons_succ, List.getElem_cons_zero]
        refine wpAnyH_take (i := 6) (v := ?_) rfl (by kernel_rfl) (by kernel_rfl) (by kernel_rfl) (fun _ _ _ h => h) (Or.inl ⟨by rfl, ?_⟩) hHeld ?_
        rotate_left
        · (intro W hSw; (try dsimp only at hSw); go_simp; try with_reducible rfl)
        try simp only [Act.put, List.setIfInBounds_toArray, List.set_cons_zero, List.set_cons_succ, List.getElem_toArray, List.getElem_cons_succ, List.getElem_cons_zero]
        refine wpAnyH_take (i := 7) (v := ?_) rfl (by kernel_rfl) (by kernel_rfl) (by kernel_rfl) (fun _ _ _ h => h) (Or.inl ⟨by rfl, ?_⟩) hHeld ?_
        rotate_left
        · (intro W hSw; (try dsimp only at hSw); go_simp; try with_reducible rfl)
        try simp only [Act.put, List.setIfInBounds_toArray, List.set_cons_zero, List.set_cons_succ, List.getElem_toArray, List.getElem_cons_succ, List.getElem_cons_zero]
        refine wpAnyH_ready (rs := [8]) (by kernel_rfl) (by simp) ?_
        refine AllReadyH.cons rfl (fun K1 hK1 => ?_) AllReadyH.nil
        go_simp
        refine hK1.out _ _ ⟨by simpa [World.cell?_setCell_far, hXY2] using x0, by simpa [World.cell?_setCell_far, hXY2] using x1, by simpa [World.cell?_setCell_far, hXY2] using x2⟩ (fun hHeld => ?_)
        clear hK1
        try simp only [Act.put, List.setIfInBounds_toArray, List.set_cons_zero, List.set_cons_succ, List.getElem_toArray, List.getElem_cons_succ, List.getElem_cons_zero]
        refine wpAnyH_take (i := 9) (v := ?_) rfl (by kernel_rfl) (by kernel_rfl) (by kernel_rfl) (fun _ _ _ h => h) (Or.inl ⟨by rfl, ?_⟩) hHeld ?_
        rotate_left
        · (intro W hSw; (try dsimp only at hSw); go_simp; try with_reducible rfl)
        try simp only [Act.put, List.setIfInBounds_toArray, List.set_cons_zero, List.set_cons_succ, List.getElem_toArray, List.getElem_cons_succ, List.getElem_cons_zero]
        refine wpAnyH_done (by kernel_rfl) ?_ _
        try simp only [Act.put, List.setIfInBounds_toArray, List.set_cons_zero, List.set_cons_succ, List.getElem_toArray, List.getElem_cons_succ, List.getElem_cons_zero]
        obtain ⟨S1, S2, S3⟩ := put4 HY2d.out (.int .i64 p1) (.int .i64 p2) (.int .i64 p3) (.int .i64 p4) _ rfl
        generalize (((w14.setCell ⟨Y2, 0, none⟩ (.int .i64 p1)).setCell ⟨Y2, 1, none⟩ (.int .i64 p2)).setCell ⟨Y2, 2, none⟩ (.int .i64 p3)).setCell ⟨Y2, 3, none⟩ (.int .i64 p4) = w15 at *
        have HW15 := Lib.hid (S3 _ _ hge2 HW14.out)
        have HY2e := S1
        have HY1e := (S2 Y1 (by omega)).trans HY1d.out
        clear S1 S2 S3 hHeld x0 x1 x2 y0 y1 y2 y3 f0 f1 f2 f3 HW14 HY1d HY2d HOP HOR HLIM
        have Xb := Below.keep HW15.out HXr.out (lt_of_block HXr.out)
        have x0 := cell_of_arr Xb 0
        have x1 := cell_of_arr Xb 1
        have x2 := cell_of_arr Xb 2
        simp at x0 x1 x2
        have y0 := cell_of_arr HY1e 0
        have y1 := cell_of_arr HY1e 1
        have y2 := cell_of_arr HY1e 2
        have y3 := cell_of_arr HY1e 3
        simp at y0 y1 y2 y3
        have z0 := cell_of_arr HY2e 0
        have z1 := cell_of_arr HY2e 1
        have z2 := cell_of_arr HY2e 2
        have z3 := cell_of_arr HY2e 3
        simp at z0 z1 z2 z3
        clear Xb HY1e HY2e
        go_wp2_with fail
        refine (counts_any sz pa pn pc ea en ec p1 p2 p3 p4 m w15 (HFr.out.below HW15.out) HL2).mono ?_
        rintro e w16 ⟨rfl, hw16⟩
        have HB16 := Lib.hid (HBr.out.trans ((pure_trans HW15.out hw16).mono HBr.out.size))
        clear hw16 x0 x1 x2 y0 y1 y2 y3 z0 z1 z2 z3 HW15
        go_wp2_with fail
        go_roundw
        case rel => exact ⟨k + 1, by go_num, by omega, HB16.out⟩
        case measure => simp [intOf]; omega
      · have hk' : ¬ ((k : Int) < 2) := by omega
        have HXr := Lib.hid (Below.keep hB HX7.out (lt_of_block HX7.out))
        have HRr := Lib.hid (Below.keep hB HR7.out (lt_of_block HR7.out))
        have HFr := Lib.hid (HF7.out.below hB)
        have HBr := Lib.hid (HB7.out.trans (hB.mono HB7.out.size))
        have HCN : Hid (∀ (a b c d : Int) (W : World), Below wr.heap.size wr W → d ≤ 9223372036854775807 → Calls Try.prog 28 #[.agg #[.int .i64 sz, .slice pa pn pc, .slice ea en ec], .agg #[.int .i64 a, .int .i64 b, .int .i64 c, .int .i64 d]] W fun e w' => e = .returned (.bool true) ∧ Below W.heap.size W w') := by
          show ∀ (a b c d : Int) (W : World), _ → _ → _
          exact fun a b c d W hW hd => counts_any sz pa pn pc ea en ec a b c d m W (HFr.out.below hW) hd
        clear hB
        have x0 := cell_of_arr HXr.out 0
        have x1 := cell_of_arr HXr.out 1
        have x2 := cell_of_arr HXr.out 2
        simp at x0 x1 x2
        have t0 := cell_of_arr HRr.out 0
        have t1 := cell_of_arr HRr.out 1
        have t2 := cell_of_arr HRr.out 2
        have t3 := cell_of_arr HRr.out 3
        simp at t0 t1 t2 t3
        go_upto_region 19 with fail
        have u0 := Int.emod_nonneg rs (show (70000 : Int) ≠ 0 by omega)
        have u1 := Int.emod_lt_of_pos rs (show (0 : Int) < 70000 by omega)
        have v0 := Int.emod_nonneg by_ (show (9 : Int) ≠ 0 by omega)
        have v1 := Int.emod_lt_of_pos by_ (show (0 : Int) < 9 by omega)
        have e1 : IntKind.i64.wrap (1 + rs % 70000) = 1 + rs % 70000 := wrap_i64 _ (by omega) (by omega)
        have e2 : IntKind.i64.wrap (1099511627775 - step % 9) = 1099511627775 - step % 9 := wrap_i64 _ (by omega) (by omega)
        have e3 : IntKind.i64.wrap (1099511627775 - by_ % 9) = 1099511627775 - by_ % 9 := wrap_i64 _ (by omega) (by omega)
        refine wp_region_held_drew (S := (fun W => (W.cell? ⟨X1, 0, none⟩ = some (.int .i64 sz) ∧ W.cell? ⟨X1, 1, none⟩ = some (.slice pa pn pc) ∧ W.cell? ⟨X1, 2, none⟩ = some (.slice ea en ec)) ∧ W.cell? ⟨w.heap.size, 0, none⟩ = some (.int .i64 rk) ∧ W.cell? ⟨w.heap.size, 1, none⟩ = some (.int .i64 rs) ∧ W.cell? ⟨w.heap.size, 2, none⟩ = some (.int .i64 rn) ∧ W.cell? ⟨w.heap.size, 3, none⟩ = some (.int .i64 rl))) (by kernel_rfl) ⟨⟨x0, x1, x2⟩, t0, t1, t2, t3⟩ (fun hHeld => ?_)
        refine wpAnyH_take (i := 0) (v := ?_) rfl (by kernel_rfl) (by kernel_rfl) (by kernel_rfl) (fun _ _ _ h => h) (Or.inl ⟨by rfl, ?_⟩) hHeld ?_
        rotate_left
        · (intro W hSw; (try dsimp only at hSw); go_simp; try with_reducible rfl)
        try simp only [Act.put, List.setIfInBounds_toArray, List.set_cons_zero, List.set_cons_succ, List.getElem_toArray, List.getElem_cons_succ, List.getElem_cons_zero]
        refine wpAnyH_take (i := 1) (v := ?_) rfl (by kernel_rfl) (by kernel_rfl) (by kernel_rfl) (fun _ _ _ h => h) (Or.inl ⟨by rfl, ?_⟩) hHeld ?_
        rotate_left
        · (intro W hSw; (try dsimp only at hSw); go_simp; try with_reducible rfl)
        try simp only [Act.put, List.setIfInBounds_toArray, List.set_cons_zero, List.set_cons_succ, List.getElem_toArray, List.getElem_cons_succ, List.getElem_cons_zero]
        refine wpAnyH_ready (rs := [2]) (by kernel_rfl) (by simp) ?_
        refine AllReadyH.cons rfl (fun K1 hK1 => ?_) AllReadyH.nil
        go_simp
        refine (HCN.out (rk) (rs) (rn) (rl) wr.drew (below_drewN (Below.refl _ _) 1) hrl).mono ?_
        rintro e w20 ⟨rfl, hw20⟩
        have Hw20 := Lib.hid (((below_drewN (Below.refl _ _) 1) : Below wr.heap.size wr wr.drew).trans (hw20.mono ((below_drewN (Below.refl _ _) 1) : Below wr.heap.size wr wr.drew).size))
        clear hw20 hHeld x0 x1 x2 t0 t1 t2 t3
        have Xb := Below.keep Hw20.out HXr.out (lt_of_block HXr.out)
        have Rb := Below.keep Hw20.out HRr.out (lt_of_block HRr.out)
        have x0 := cell_of_arr Xb 0
        have x1 := cell_of_arr Xb 1
        have x2 := cell_of_arr Xb 2
        simp at x0 x1 x2
        have t0 := cell_of_arr Rb 0
        have t1 := cell_of_arr Rb 1
        have t2 := cell_of_arr Rb 2
        have t3 := cell_of_arr Rb 3
        simp at t0 t1 t2 t3
        clear Xb Rb
        refine hK1.out _ _ ⟨⟨x0, x1, x2⟩, t0, t1, t2, t3⟩ (fun hHeld => ?_)
        clear hK1
        try simp only [Act.put, List.setIfInBounds_toArray, List.set_cons_zero, List.set_cons_succ, List.getElem_toArray, List.getElem_cons_succ, List.getElem_cons_zero]
        refine wpAnyH_take (i := 3) (v := ?_) rfl (by kernel_rfl) (by kernel_rfl) (by kernel_rfl) (fun _ _ _ h => h) (Or.inl ⟨by rfl, ?_⟩) hHeld ?_
        rotate_left
        · (intro W hSw; (try dsimp only at hSw); go_simp; try with_reducible rfl)
        try simp only [Act.put, List.setIfInBounds_toArray, List.set_cons_zero, List.set_cons_succ, List.getElem_toArray, List.getElem_cons_succ, List.getElem_cons_zero]
        refine wpAnyH_take (i := 4) (v := ?_) rfl (by kernel_rfl) (by kernel_rfl) (by kernel_rfl) (fun _ _ _ h => h) (Or.inl ⟨by rfl, ?_⟩) hHeld ?_
        rotate_left
        · (intro W hSw; (try dsimp only at hSw); go_simp; try with_reducible rfl)
        try simp only [Act.put, List.setIfInBounds_toArray, List.set_cons_zero, List.set_cons_succ, List.getElem_toArray, List.getElem_cons_succ, List.getElem_cons_zero]
        refine wpAnyH_take (i := 5) (v := ?_) rfl (by kernel_rfl) (by kernel_rfl) (by kernel_rfl) (fun _ _ _ h => h) (Or.inl ⟨by rfl, ?_⟩) hHeld ?_
        rotate_left
        · (intro W hSw; (try dsimp only at hSw); go_simp; try with_reducible rfl)
        try simp only [Act.put, List.setIfInBounds_toArray, List.set_cons_zero, List.set_cons_succ, List.getElem_toArray, List.getElem_cons_succ, List.getElem_cons_zero]
        refine wpAnyH_take (i := 6) (v := ?_) rfl (by kernel_rfl) (by kernel_rfl) (by kernel_rfl) (fun _ _ _ h => h) (Or.inl ⟨by rfl, ?_⟩) hHeld ?_
        rotate_left
        · (intro W hSw; (try dsimp only at hSw); go_simp; try with_reducible rfl)
        try simp only [Act.put, List.setIfInBounds_toArray, List.set_cons_zero, List.set_cons_succ, List.getElem_toArray, List.getElem_cons_succ, List.getElem_cons_zero]
        refine wpAnyH_take (i := 7) (v := ?_) rfl (by kernel_rfl) (by kernel_rfl) (by kernel_rfl) (fun _ _ _ h => h) (Or.inl ⟨by rfl, ?_⟩) hHeld ?_
        rotate_left
        · (intro W hSw; (try dsimp only at hSw); go_simp; try with_reducible rfl)
        try simp only [Act.put, List.setIfInBounds_toArray, List.set_cons_zero, List.set_cons_succ, List.getElem_toArray, List.getElem_cons_succ, List.getElem_cons_zero]
        refine wpAnyH_take (i := 9) (v := ?_) rfl (by kernel_rfl) (by kernel_rfl) (by kernel_rfl) (fun _ _ _ h => h) (Or.inl ⟨by rfl, ?_⟩) hHeld ?_
        rotate_left
        · (intro W hSw; (try dsimp only at hSw); go_simp; try with_reducible rfl)
        try simp only [Act.put, List.setIfInBounds_toArray, List.set_cons_zero, List.set_cons_succ, List.getElem_toArray, List.getElem_cons_succ, List.getElem_cons_zero]
        refine wpAnyH_take (i := 10) (v := ?_) rfl (by kernel_rfl) (by kernel_rfl) (by kernel_rfl) (fun _ _ _ h => h) (Or.inl ⟨by rfl, ?_⟩) hHeld ?_
        rotate_left
        · (intro W hSw; (try dsimp only at hSw); go_simp; try with_reducible rfl)
        try simp only [Act.put, List.setIfInBounds_toArray, List.set_cons_zero, List.set_cons_succ, List.getElem_toArray, List.getElem_cons_succ, List.getElem_cons_zero]
        refine wpAnyH_take (i := 13) (v := ?_) rfl (by kernel_rfl) (by kernel_rfl) (by kernel_rfl) (fun _ _ _ h => h) (Or.inl ⟨by rfl, ?_⟩) hHeld ?_
        rotate_left
        · (intro W hSw; (try dsimp only at hSw); go_simp; try with_reducible rfl)
        try simp only [Act.put, List.setIfInBounds_toArray, List.set_cons_zero, List.set_cons_succ, List.getElem_toArray, List.getElem_cons_succ, List.getElem_cons_zero]
        refine wpAnyH_take (i := 14) (v := ?_) rfl (by kernel_rfl) (by kernel_rfl) (by kernel_rfl) (fun _ _ _ h => h) (Or.inl ⟨by rfl, ?_⟩) hHeld ?_
        rotate_left
        · (intro W hSw; (try dsimp only at hSw); go_simp; try with_reducible rfl)
        try simp only [Act.put, List.setIfInBounds_toArray, List.set_cons_zero, List.set_cons_succ, List.getElem_toArray, List.getElem_cons_succ, List.getElem_cons_zero]
        refine wpAnyH_take (i := 15) (v := ?_) rfl (by kernel_rfl) (by kernel_rfl) (by kernel_rfl) (fun _ _ _ h => h) (Or.inl ⟨by rfl, ?_⟩) hHeld ?_
        rotate_left
        · (intro W hSw; (try dsimp only at hSw); go_simp; try with_reducible rfl)
        try simp only [Act.put, List.setIfInBounds_toArray, List.set_cons_zero, List.set_cons_succ, List.getElem_toArray, List.getElem_cons_succ, List.getElem_cons_zero]
        refine wpAnyH_take (i := 16) (v := ?_) rfl (by kernel_rfl) (by kernel_rfl) (by kernel_rfl) (fun _ _ _ h => h) (Or.inl ⟨by rfl, ?_⟩) hHeld ?_
        rotate_left
        · (intro W hSw; (try dsimp only at hSw); go_simp; try with_reducible rfl)
        try simp only [Act.put, List.setIfInBounds_toArray, List.set_cons_zero, List.set_cons_succ, List.getElem_toArray, List.getElem_cons_succ, List.getElem_cons_zero]
        refine wpAnyH_ready (rs := [8]) (by kernel_rfl) (by simp) ?_
        refine AllReadyH.cons rfl (fun K1 hK1 => ?_) AllReadyH.nil
        go_simp
        refine (mod_any _ _ _ (by omega) (by omega)).mono ?_
        rintro e u ⟨rfl, rfl⟩
        refine hK1.out _ _ hHeld (fun hHeld => ?_)
        clear hK1
        try simp only [Act.put, List.setIfInBounds_toArray, List.set_cons_zero, List.set_cons_succ, List.getElem_toArray, List.getElem_cons_succ, List.getElem_cons_zero]
        refine wpAnyH_ready (rs := [11]) (by kernel_rfl) (by simp) ?_
        refine AllReadyH.cons rfl (fun K1 hK1 => ?_) AllReadyH.nil
        go_simp
        refine (mod_any _ _ _ (by omega) (by omega)).mono ?_
        rintro e u ⟨rfl, rfl⟩
        refine hK1.out _ _ hHeld (fun hHeld => ?_)
        clear hK1
        try simp only [Act.put, List.setIfInBounds_toArray, List.set_cons_zero, List.set_cons_succ, List.getElem_toArray, List.getElem_cons_succ, List.getElem_cons_zero]
        refine wpAnyH_take (i := 12) (v := ?_) rfl (by kernel_rfl) (by kernel_rfl) (by kernel_rfl) (fun _ _ _ h => h) (Or.inl ⟨by rfl, ?_⟩) hHeld ?_
        rotate_left
        · (intro W hSw; (try dsimp only at hSw); go_simp; try with_reducible rfl)
        try simp only [Act.put, List.setIfInBounds_toArray, List.set_cons_zero, List.set_cons_succ, List.getElem_toArray, List.getElem_cons_succ, List.getElem_cons_zero]
        refine wpAnyH_take (i := 17) (v := ?_) rfl (by kernel_rfl) (by kernel_rfl) (by kernel_rfl) (fun _ _ _ h => h) (Or.inl ⟨by rfl, ?_⟩) hHeld ?_
        rotate_left
        · (intro W hSw; (try dsimp only at hSw); go_simp; try with_reducible rfl)
        try simp only [Act.put, List.setIfInBounds_toArray, List.set_cons_zero, List.set_cons_succ, List.getElem_toArray, List.getElem_cons_succ, List.getElem_cons_zero]
        refine wpAnyH_ready (rs := [18]) (by kernel_rfl) (by simp) ?_
        refine AllReadyH.cons rfl (fun K1 hK1 => ?_) AllReadyH.nil
        go_simp
        refine (HCN.out (rk % 17) (1 + rs % 70000) (rn) (rl) w20 Hw20.out hrl).mono ?_
        rintro e w21 ⟨rfl, hw21⟩
        have Hw21 := Lib.hid ((Hw20.out : Below wr.heap.size wr w20).trans (hw21.mono (Hw20.out : Below wr.heap.size wr w20).size))
        clear hw21 hHeld x0 x1 x2 t0 t1 t2 t3
        have Xb := Below.keep Hw21.out HXr.out (lt_of_block HXr.out)
        have Rb := Below.keep Hw21.out HRr.out (lt_of_block HRr.out)
        have x0 := cell_of_arr Xb 0
        have x1 := cell_of_arr Xb 1
        have x2 := cell_of_arr Xb 2
        simp at x0 x1 x2
        have t0 := cell_of_arr Rb 0
        have t1 := cell_of_arr Rb 1
        have t2 := cell_of_arr Rb 2
        have t3 := cell_of_arr Rb 3
        simp at t0 t1 t2 t3
        clear Xb Rb
        refine hK1.out _ _ ⟨⟨x0, x1, x2⟩, t0, t1, t2, t3⟩ (fun hHeld => ?_)
        clear hK1
        try simp only [Act.put, List.setIfInBounds_toArray, List.set_cons_zero, List.set_cons_succ, List.getElem_toArray, List.getElem_cons_succ, List.getElem_cons_zero]
        refine wpAnyH_take (i := 19) (v := ?_) rfl (by kernel_rfl) (by kernel_rfl) (by kernel_rfl) (fun _ _ _ h => h) (Or.inl ⟨by rfl, ?_⟩) hHeld ?_
        rotate_left
        · (intro W hSw; (try dsimp only at hSw); go_simp; try with_reducible rfl)
        try simp only [Act.put, List.setIfInBounds_toArray, List.set_cons_zero, List.set_cons_succ, List.getElem_toArray, List.getElem_cons_succ, List.getElem_cons_zero]
        refine wpAnyH_take (i := 20) (v := ?_) rfl (by kernel_rfl) (by kernel_rfl) (by kernel_rfl) (fun _ _ _ h => h) (Or.inl ⟨by rfl, ?_⟩) hHeld ?_
        rotate_left
        · (intro W hSw; (try dsimp only at hSw); go_simp; try with_reducible rfl)
        try simp only [Act.put, List.setIfInBounds_toArray, List.set_cons_zero, List.set_cons_succ, List.getElem_toArray, List.getElem_cons_succ, List.getElem_cons_zero]
        refine wpAnyH_take (i := 21) (v := ?_) rfl (by kernel_rfl) (by kernel_rfl) (by kernel_rfl) (fun _ _ _ h => h) (Or.inl ⟨by rfl, ?_⟩) hHeld ?_
        rotate_left
        · (intro W hSw; (try dsimp only at hSw); go_simp; try with_reducible rfl)
        try simp only [Act.put, List.setIfInBounds_toArray, List.set_cons_zero, List.set_cons_succ, List.getElem_toArray, List.getElem_cons_succ, List.getElem_cons_zero]
        refine wpAnyH_take (i := 22) (v := ?_) rfl (by kernel_rfl) (by kernel_rfl) (by kernel_rfl) (fun _ _ _ h => h) (Or.inl ⟨by rfl, ?_⟩) hHeld ?_
        rotate_left
        · (intro W hSw; (try dsimp only at hSw); go_simp; try with_reducible rfl)
        try simp only [Act.put, List.setIfInBounds_toArray, List.set_cons_zero, List.set_cons_succ, List.getElem_toArray, List.getElem_cons_succ, List.getElem_cons_zero]
        refine wpAnyH_take (i := 23) (v := ?_) rfl (by kernel_rfl) (by kernel_rfl) (by kernel_rfl) (fun _ _ _ h => h) (Or.inl ⟨by rfl, ?_⟩) hHeld ?_
        rotate_left
        · (intro W hSw; (try dsimp only at hSw); go_simp; try with_reducible rfl)
        try simp only [Act.put, List.setIfInBounds_toArray, List.set_cons_zero, List.set_cons_succ, List.getElem_toArray, List.getElem_cons_succ, List.getElem_cons_zero]
        refine wpAnyH_take (i := 26) (v := ?_) rfl (by kernel_rfl) (by kernel_rfl) (by kernel_rfl) (fun _ _ _ h => h) (Or.inl ⟨by rfl, ?_⟩) hHeld ?_
        rotate_left
        · (intro W hSw; (try dsimp only at hSw); go_simp; try with_reducible rfl)
        try simp only [Act.put, List.setIfInBounds_toArray, List.set_cons_zero, List.set_cons_succ, List.getElem_toArray, List.getElem_cons_succ, List.getElem_cons_zero]
        refine wpAnyH_ready (rs := [24]) (by kernel_rfl) (by simp) ?_
        refine AllReadyH.cons rfl (fun K1 hK1 => ?_) AllReadyH.nil
        go_simp
        refine (mod_any _ _ _ (by omega) (by omega)).mono ?_
        rintro e u ⟨rfl, rfl⟩
        refine hK1.out _ _ hHeld (fun hHeld => ?_)
        clear hK1
        try simp only [Act.put, List.setIfInBounds_toArray, List.set_cons_zero, List.set_cons_succ, List.getElem_toArray, List.getElem_cons_succ, List.getElem_cons_zero]
        refine wpAnyH_take (i := 25) (v := ?_) rfl (by kernel_rfl) (by kernel_rfl) (by kernel_rfl) (fun _ _ _ h => h) (Or.inl ⟨by rfl, ?_⟩) hHeld ?_
        rotate_left
        · (intro W hSw; (try dsimp only at hSw); go_simp; try with_reducible rfl)
        try simp only [Act.put, List.setIfInBounds_toArray, List.set_cons_zero, List.set_cons_succ, List.getElem_toArray, List.getElem_cons_succ, List.getElem_cons_zero]
        refine wpAnyH_ready (rs := [27]) (by kernel_rfl) (by simp) ?_
        refine AllReadyH.cons rfl (fun K1 hK1 => ?_) AllReadyH.nil
        go_simp
        refine (mod_any _ _ _ (by omega) (by omega)).mono ?_
        rintro e u ⟨rfl, rfl⟩
        refine hK1.out _ _ hHeld (fun hHeld => ?_)
        clear hK1
        try simp only [Act.put, List.setIfInBounds_toArray, List.set_cons_zero, List.set_cons_succ, List.getElem_toArray, List.getElem_cons_succ, List.getElem_cons_zero]
        refine wpAnyH_take (i := 28) (v := ?_) rfl (by kernel_rfl) (by kernel_rfl) (by kernel_rfl) (fun _ _ _ h => h) (Or.inl ⟨by rfl, ?_⟩) hHeld ?_
        rotate_left
        · (intro W hSw; (try dsimp only at hSw); go_simp; try with_reducible rfl)
        try simp only [Act.put, List.setIfInBounds_toArray, List.set_cons_zero, List.set_cons_succ, List.getElem_toArray, List.getElem_cons_succ, List.getElem_cons_zero]
        refine wpAnyH_take (i := 29) (v := ?_) rfl (by kernel_rfl) (by kernel_rfl) (by kernel_rfl) (fun _ _ _ h => h) (Or.inl ⟨by rfl, ?_⟩) hHeld ?_
        rotate_left
        · (intro W hSw; (try dsimp only at hSw); go_simp; try with_reducible rfl)
        try simp only [Act.put, List.setIfInBounds_toArray, List.set_cons_zero, List.set_cons_succ, List.getElem_toArray, List.getElem_cons_succ, List.getElem_cons_zero]
        refine wpAnyH_ready (rs := [30]) (by kernel_rfl) (by simp) ?_
        refine AllReadyH.cons rfl (fun K1 hK1 => ?_) AllReadyH.nil
        go_simp
        refine (HCN.out (1) (5) (1099511627775 - step % 9) (1099511627775 - by_ % 9) w21 Hw21.out (by omega)).mono ?_
        rintro e w22 ⟨rfl, hw22⟩
        have Hw22 := Lib.hid ((Hw21.out : Below wr.heap.size wr w21).trans (hw22.mono (Hw21.out : Below wr.heap.size wr w21).size))
        clear hw22 hHeld x0 x1 x2 t0 t1 t2 t3
        have Xb := Below.keep Hw22.out HXr.out (lt_of_block HXr.out)
        have Rb := Below.keep Hw22.out HRr.out (lt_of_block HRr.out)
        have x0 := cell_of_arr Xb 0
        have x1 := cell_of_arr Xb 1
        have x2 := cell_of_arr Xb 2
        simp at x0 x1 x2
        have t0 := cell_of_arr Rb 0
        have t1 := cell_of_arr Rb 1
        have t2 := cell_of_arr Rb 2
        have t3 := cell_of_arr Rb 3
        simp at t0 t1 t2 t3
        clear Xb Rb
        refine hK1.out _ _ ⟨⟨x0, x1, x2⟩, t0, t1, t2, t3⟩ (fun hHeld => ?_)
        clear hK1
        try simp only [Act.put, List.setIfInBounds_toArray, List.set_cons_zero, List.set_cons_succ, List.getElem_toArray, List.getElem_cons_succ, List.getElem_cons_zero]
        refine wpAnyH_take (i := 31) (v := ?_) rfl (by kernel_rfl) (by kernel_rfl) (by kernel_rfl) (fun _ _ _ h => h) (Or.inl ⟨by rfl, ?_⟩) hHeld ?_
        rotate_left
        · (intro W hSw; (try dsimp only at hSw); go_simp; try with_reducible rfl)
        try simp only [Act.put, List.setIfInBounds_toArray, List.set_cons_zero, List.set_cons_succ, List.getElem_toArray, List.getElem_cons_succ, List.getElem_cons_zero]
        refine wpAnyH_take (i := 32) (v := ?_) rfl (by kernel_rfl) (by kernel_rfl) (by kernel_rfl) (fun _ _ _ h => h) (Or.inl ⟨by rfl, ?_⟩) hHeld ?_
        rotate_left
        · (intro W hSw; (try dsimp only at hSw); go_simp; try with_reducible rfl)
        try simp only [Act.put, List.setIfInBounds_toArray, List.set_cons_zero, List.set_cons_succ, List.getElem_toArray, List.getElem_cons_succ, List.getElem_cons_zero]
        refine wpAnyH_done (by kernel_rfl) ?_ _
        try simp only [Act.put, List.setIfInBounds_toArray, List.set_cons_zero, List.set_cons_succ, List.getElem_toArray, List.getElem_cons_succ, List.getElem_cons_zero]
        have HB22 := Lib.hid (HBr.out.trans (Hw22.out.mono HBr.out.size))
        clear hHeld e1 e2 e3
        go_wp2_with fail
        go_roundw
        case rel => exact ⟨j + 1, by go_num, by omega, HB22.out⟩
        case measure => simp [intOf]; omega
end Go.Proofs.Ytnfjfifdkmgbdaa
