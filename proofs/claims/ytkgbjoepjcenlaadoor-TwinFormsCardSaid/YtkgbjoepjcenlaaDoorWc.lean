/- The walks of Compare and Contains, of the program and of the reference. -/
import Derived.Test.YtkgbjoepjcenlaaDoorWb
namespace Go.Proofs.YtkgbjoepjcenlaaDoor
open Go.RowKit
namespace Tm
def cs (t u : Tm) (k : Nat) : Int := if k = 0 then cmpI t.op u.op else if k = 1 then cmpI t.num u.num else cmpI t.kids.length u.kids.length
theorem compare_cs (t u : Tm) : compare t u = if cs t u 0 ≠ 0 then cs t u 0 else if cs t u 1 ≠ 0 then cs t u 1 else if cs t u 2 ≠ 0 then cs t u 2 else compares t.kids u.kids := by
  cases t; cases u; simp [compare, cs, op, num, kids]
theorem compare_at {t u : Tm} {k : Nat} (hk : k < 3) (h0 : ∀ j, j < k → cs t u j = 0) (h : cs t u k ≠ 0) : compare t u = cs t u k := by
  rw [compare_cs]
  rcases (show k = 0 ∨ k = 1 ∨ k = 2 by omega) with rfl | rfl | rfl
  · rw [if_pos h]
  · rw [if_neg (by simp [h0 0 (by omega)]), if_pos h]
  · rw [if_neg (by simp [h0 0 (by omega)]), if_neg (by simp [h0 1 (by omega)]), if_pos h]
theorem compare_rest {t u : Tm} (h0 : ∀ j, j < 3 → cs t u j = 0) : compare t u = compares t.kids u.kids := by
  rw [compare_cs, if_neg (by simp [h0 0 (by omega)]), if_neg (by simp [h0 1 (by omega)]), if_neg (by simp [h0 2 (by omega)])]
theorem compares_step {l m : List Tm} {j : Nat} (h1 : j < l.length) (h2 : j < m.length) : compares (l.drop j) (m.drop j) = if compare l[j] m[j] ≠ 0 then compare l[j] m[j] else compares (l.drop (j + 1)) (m.drop (j + 1)) := by
  rw [List.drop_eq_getElem_cons h1, List.drop_eq_getElem_cons h2]; simp [compares]
theorem compares_end {l m : List Tm} {j : Nat} (h1 : l.length ≤ j) : compares (l.drop j) (m.drop j) = 0 := by
  rw [List.drop_eq_nil_of_le h1]; simp [compares]
theorem containsL_step {l : List Tm} {j : Nat} (h1 : j < l.length) (p : Tm) : containsL (l.drop j) p = (contains l[j] p || containsL (l.drop (j + 1)) p) := by
  rw [List.drop_eq_getElem_cons h1]; simp [containsL]
theorem containsL_end {l : List Tm} {j : Nat} (h1 : l.length ≤ j) (p : Tm) : containsL (l.drop j) p = false := by
  rw [List.drop_eq_nil_of_le h1]; simp [containsL]
theorem contains_eq (t p : Tm) : contains t p = (compare t p == 0 || containsL t.kids p) := by cases t; simp [contains, kids]
end Tm
set_option maxHeartbeats 1600000 in
theorem compare_any (m : Nat) : ∀ (t u : Tm) (a : Option Addr) (n c : Nat) (a' : Option Addr) (n' c' : Nat) (w : World) (ok ok' : Nat → Prop), t.size ≤ m → TR ok w t a n → TR ok' w u a' n' →
    Calls Tryd.prog 25 #[.agg #[.int .i64 t.op, .int .i64 t.num, .slice a n c], .agg #[.int .i64 u.op, .int .i64 u.num, .slice a' n' c']] w fun e w' => e = .returned (.int .i64 (Tm.compare t u)) ∧ Below w.heap.size w w' := by
  induction m with
  | zero => intro t u a n c a' n' c' w ok ok' h; have := t.size_pos; omega
  | succ m ih =>
    intro t u a n c a' n' c' w ok ok' hm hT hU
    rw [TR_iff] at hT hU
    have hsz := t.size_kids
    have P1 : Below w.heap.size w ((w.alloc (.cells #[.int .i64 t.op, .int .i64 t.num, .slice a n c] 28)).alloc (.cells #[.int .i64 u.op, .int .i64 u.num, .slice a' n' c'] 28)) := (pure_alloc _ _).alloc (by simp) _
    have N1 : ((w.alloc (.cells #[.int .i64 t.op, .int .i64 t.num, .slice a n c] 28)).alloc (.cells #[.int .i64 u.op, .int .i64 u.num, .slice a' n' c'] 28)).heap[w.heap.size]? = some (.cells #[.int .i64 t.op, .int .i64 t.num, .slice a n c] 28 (0, 0)) := alloc_keep (alloc_new _ _)
    have N2 : ((w.alloc (.cells #[.int .i64 t.op, .int .i64 t.num, .slice a n c] 28)).alloc (.cells #[.int .i64 u.op, .int .i64 u.num, .slice a' n' c'] 28)).heap[w.heap.size + 1]? = some (.cells #[.int .i64 u.op, .int .i64 u.num, .slice a' n' c'] 28 (0, 0)) := alloc_new' _ _ _ (by simp)
    have HT := Lib.hid (hT.below P1)
    have HU := Lib.hid (hU.below P1)
    have hn := hT.2.1
    have hn' := hU.2.1
    have HLN := Lib.hid hT.1
    have HLU := Lib.hid hU.1
    have HIH := Lib.hid ih
    have HSZ : Hid (Tm.sizes t.kids ≤ m) := by show _ ≤ _; omega
    clear hT hU hsz ih hm
    go_enter Tryd.func25, Tryd.ntmps25
    go_upto_region 1 with fail
    generalize ((w.alloc (.cells #[.int .i64 t.op, .int .i64 t.num, .slice a n c] 28)).alloc (.cells #[.int .i64 u.op, .int .i64 u.num, .slice a' n' c'] 28)) = w1 at *
    have HP1 := Lib.hid P1
    have HN1 := Lib.hid N1
    have HN2 := Lib.hid N2
    have hX := lt_of_block N1
    have hY := lt_of_block N2
    have x0 := cell_of_arr N1 0
    have x1 := cell_of_arr N1 1
    have x2 := cell_of_arr N1 2
    simp at x0 x1 x2
    have y0 := cell_of_arr N2 0
    have y1 := cell_of_arr N2 1
    have y2 := cell_of_arr N2 2
    simp at y0 y1 y2
    clear P1 N1 N2
    refine wp_region_held_drew (S := (fun W => ((W.cell? ⟨w.heap.size, 0, none⟩ = some (.int .i64 t.op) ∧ W.cell? ⟨w.heap.size, 1, none⟩ = some (.int .i64 t.num) ∧ W.cell? ⟨w.heap.size, 2, none⟩ = some (.slice a n c)) ∧ W.cell? ⟨w.heap.size + 1, 0, none⟩ = some (.int .i64 u.op) ∧ W.cell? ⟨w.heap.size + 1, 1, none⟩ = some (.int .i64 u.num) ∧ W.cell? ⟨w.heap.size + 1, 2, none⟩ = some (.slice a' n' c')))) (by kernel_rfl) ⟨⟨x0, x1, x2⟩, y0, y1, y2⟩ (fun hHeld => ?_)
    refine wpAnyH_take (i := 0) (v := ?_) rfl (by kernel_rfl) (by kernel_rfl) (by kernel_rfl) (fun _ _ _ h => h) (Or.inl ⟨by rfl, ?_⟩) hHeld ?_
    rotate_left
    · (intro W hSw; (try dsimp only at hSw); go_simp; try with_reducible rfl)
    try simp only [Act.put, List.setIfInBounds_toArray, List.set_cons_zero, List.set_cons_succ, List.getElem_toArray, List.getElem_cons_succ, List.getElem_cons_zero]
    refine wpAnyH_take (i := 1) (v := ?_) rfl (by kernel_rfl) (by kernel_rfl) (by kernel_rfl) (fun _ _ _ h => h) (Or.inl ⟨by rfl, ?_⟩) hHeld ?_
    rotate_left
    · (intro W hSw; (try dsimp only at hSw); go_simp; try with_reducible rfl)
    try simp only [Act.put, List.setIfInBounds_toArray, List.set_cons_zero, List.set_cons_succ, List.getElem_toArray, List.getElem_cons_succ, List.getElem_cons_zero]
    refine wpAnyH_take (i := 2) (v := ?_) rfl (by kernel_rfl) (by kernel_rfl) (by kernel_rfl) (fun _ _ _ h => h) (Or.inl ⟨by rfl, ?_⟩) hHeld ?_
    rotate_left
    · (intro W hSw; (try dsimp only at hSw); go_simp; try with_reducible rfl)
    try simp only [Act.put, List.setIfInBounds_toArray, List.set_cons_zero, List.set_cons_succ, List.getElem_toArray, List.getElem_cons_succ, List.getElem_cons_zero]
    refine wpAnyH_take (i := 3) (v := ?_) rfl (by kernel_rfl) (by kernel_rfl) (by kernel_rfl) (fun _ _ _ h => h) (Or.inl ⟨by rfl, ?_⟩) hHeld ?_
    rotate_left
    · (intro W hSw; (try dsimp only at hSw); go_simp; try with_reducible rfl)
    try simp only [Act.put, List.setIfInBounds_toArray, List.set_cons_zero, List.set_cons_succ, List.getElem_toArray, List.getElem_cons_succ, List.getElem_cons_zero]
    refine wpAnyH_take (i := 5) (v := ?_) rfl (by kernel_rfl) (by kernel_rfl) (by kernel_rfl) (fun _ _ _ h => h) (Or.inl ⟨by rfl, ?_⟩) hHeld ?_
    rotate_left
    · (intro W hSw; (try dsimp only at hSw); go_simp; try with_reducible rfl)
    try simp only [Act.put, List.setIfInBounds_toArray, List.set_cons_zero, List.set_cons_succ, List.getElem_toArray, List.getElem_cons_succ, List.getElem_cons_zero]
    refine wpAnyH_take (i := 6) (v := ?_) rfl (by kernel_rfl) (by kernel_rfl) (by kernel_rfl) (fun _ _ _ h => h) (Or.inl ⟨by rfl, ?_⟩) hHeld ?_
    rotate_left
    · (intro W hSw; (try dsimp only at hSw); go_simp; try with_reducible rfl)
    try simp only [Act.put, List.setIfInBounds_toArray, List.set_cons_zero, List.set_cons_succ, List.getElem_toArray, List.getElem_cons_succ, List.getElem_cons_zero]
    refine wpAnyH_take (i := 7) (v := ?_) rfl (by kernel_rfl) (by kernel_rfl) (by kernel_rfl) (fun _ _ _ h => h) (Or.inl ⟨by rfl, ?_⟩) hHeld ?_
    rotate_left
    · (intro W hSw; (try dsimp only at hSw); go_simp; try with_reducible rfl)
    try simp only [Act.put, List.setIfInBounds_toArray, List.set_cons_zero, List.set_cons_succ, List.getElem_toArray, List.getElem_cons_succ, List.getElem_cons_zero]
    refine wpAnyH_take (i := 8) (v := ?_) rfl (by kernel_rfl) (by kernel_rfl) (by kernel_rfl) (fun _ _ _ h => h) (Or.inl ⟨by rfl, ?_⟩) hHeld ?_
    rotate_left
    · (intro W hSw; (try dsimp only at hSw); go_simp; try with_reducible rfl)
    try simp only [Act.put, List.setIfInBounds_toArray, List.set_cons_zero, List.set_cons_succ, List.getElem_toArray, List.getElem_cons_succ, List.getElem_cons_zero]
    refine wpAnyH_take (i := 10) (v := ?_) rfl (by kernel_rfl) (by kernel_rfl) (by kernel_rfl) (fun _ _ _ h => h) (Or.inl ⟨by rfl, ?_⟩) hHeld ?_
    rotate_left
    · (intro W hSw; (try dsimp only at hSw); go_simp; try with_reducible rfl)
    try simp only [Act.put, List.setIfInBounds_toArray, List.set_cons_zero, List.set_cons_succ, List.getElem_toArray, List.getElem_cons_succ, List.getElem_cons_zero]
    refine wpAnyH_take (i := 11) (v := ?_) rfl (by kernel_rfl) (by kernel_rfl) (by kernel_rfl) (fun _ _ _ h => h) (Or.inl ⟨by rfl, ?_⟩) hHeld ?_
    rotate_left
    · (intro W hSw; (try dsimp only at hSw); go_simp; try with_reducible rfl)
    try simp only [Act.put, List.setIfInBounds_toArray, List.set_cons_zero, List.set_cons_succ, List.getElem_toArray, List.getElem_cons_succ, List.getElem_cons_zero]
    refine wpAnyH_take (i := 12) (v := ?_) rfl (by kernel_rfl) (by kernel_rfl) (by kernel_rfl) (fun _ _ _ h => h) (Or.inl ⟨by rfl, ?_⟩) hHeld ?_
    rotate_left
    · (intro W hSw; (try dsimp only at hSw); go_simp; try with_reducible rfl)
    try simp only [Act.put, List.setIfInBounds_toArray, List.set_cons_zero, List.set_cons_succ, List.getElem_toArray, List.getElem_cons_succ, List.getElem_cons_zero]
    refine wpAnyH_take (i := 13) (v := ?_) rfl (by kernel_rfl) (by kernel_rfl) (by kernel_rfl) (fun _ _ _ h => h) (Or.inl ⟨by rfl, ?_⟩) hHeld ?_
    rotate_left
    · (intro W hSw; (try dsimp only at hSw); go_simp; try with_reducible rfl)
    try simp only [Act.put, List.setIfInBounds_toArray, List.set_cons_zero, List.set_cons_succ, List.getElem_toArray, List.getElem_cons_succ, List.getElem_cons_zero]
    refine wpAnyH_take (i := 14) (v := ?_) rfl (by kernel_rfl) (by kernel_rfl) (by kernel_rfl) (fun _ _ _ h => h) (Or.inl ⟨by rfl, ?_⟩) hHeld ?_
    rotate_left
    · (intro W hSw; (try dsimp only at hSw); go_simp; try with_reducible rfl)
    try simp only [Act.put, List.setIfInBounds_toArray, List.set_cons_zero, List.set_cons_succ, List.getElem_toArray, List.getElem_cons_succ, List.getElem_cons_zero]
    refine wpAnyH_take (i := 15) (v := ?_) rfl (by kernel_rfl) (by kernel_rfl) (by kernel_rfl) (fun _ _ _ h => h) (Or.inl ⟨by rfl, ?_⟩) hHeld ?_
    rotate_left
    · (intro W hSw; (try dsimp only at hSw); go_simp; try with_reducible rfl)
    try simp only [Act.put, List.setIfInBounds_toArray, List.set_cons_zero, List.set_cons_succ, List.getElem_toArray, List.getElem_cons_succ, List.getElem_cons_zero]
    refine wpAnyH_take (i := 19) (v := ?_) rfl (by kernel_rfl) (by kernel_rfl) (by kernel_rfl) (fun _ _ _ h => h) (Or.inl ⟨by rfl, ?_⟩) hHeld ?_
    rotate_left
    · (intro W hSw; (try dsimp only at hSw); go_simp; try with_reducible rfl)
    try simp only [Act.put, List.setIfInBounds_toArray, List.set_cons_zero, List.set_cons_succ, List.getElem_toArray, List.getElem_cons_succ, List.getElem_cons_zero]
    refine wpAnyH_ready (rs := [4]) (by kernel_rfl) (by simp) ?_
    refine AllReadyH.cons rfl (fun K1 hK1 => ?_) AllReadyH.nil
    go_simp
    refine (order_any _ _ _).mono ?_
    rintro e u ⟨rfl, rfl⟩
    refine hK1.out _ _ hHeld (fun hHeld => ?_)
    clear hK1
    try simp only [Act.put, List.setIfInBounds_toArray, List.set_cons_zero, List.set_cons_succ, List.getElem_toArray, List.getElem_cons_succ, List.getElem_cons_zero]
    refine wpAnyH_ready (rs := [9]) (by kernel_rfl) (by simp) ?_
    refine AllReadyH.cons rfl (fun K1 hK1 => ?_) AllReadyH.nil
    go_simp
    refine (order_any _ _ _).mono ?_
    rintro e u ⟨rfl, rfl⟩
    refine hK1.out _ _ hHeld (fun hHeld => ?_)
    clear hK1
    try simp only [Act.put, List.setIfInBounds_toArray, List.set_cons_zero, List.set_cons_succ, List.getElem_toArray, List.getElem_cons_succ, List.getElem_cons_zero]
    refine wpAnyH_ready (rs := [16]) (by kernel_rfl) (by simp) ?_
    refine AllReadyH.cons rfl (fun K1 hK1 => ?_) AllReadyH.nil
    go_simp
    refine (order_any _ _ _).mono ?_
    rintro e u ⟨rfl, rfl⟩
    refine hK1.out _ _ hHeld (fun hHeld => ?_)
    clear hK1
    try simp only [Act.put, List.setIfInBounds_toArray, List.set_cons_zero, List.set_cons_succ, List.getElem_toArray, List.getElem_cons_succ, List.getElem_cons_zero]
    refine wpAnyH_ready (rs := [17]) (by kernel_rfl) (by simp) ?_
    refine AllReadyH.cons rfl (fun K1 hK1 => ?_) AllReadyH.nil
    go_simp
    have NA : (w1.alloc (.cells #[.int .i64 (Tm.cmpI t.op u.op), .int .i64 (Tm.cmpI t.num u.num), .int .i64 (Tm.cmpI n n')] 3)).drew.heap[w1.heap.size]? = some _ := alloc_new w1 (.cells #[.int .i64 (Tm.cmpI t.op u.op), .int .i64 (Tm.cmpI t.num u.num), .int .i64 (Tm.cmpI n n')] 3)
    have PA' : Below w1.heap.size w1 (w1.alloc (.cells #[.int .i64 (Tm.cmpI t.op u.op), .int .i64 (Tm.cmpI t.num u.num), .int .i64 (Tm.cmpI n n')] 3)).drew := below_drewN (pure_alloc _ _) 1
    refine hK1.out _ _ ⟨⟨(PA'.cell (p := ⟨w.heap.size, 0, none⟩) hX).trans x0, (PA'.cell (p := ⟨w.heap.size, 1, none⟩) hX).trans x1, (PA'.cell (p := ⟨w.heap.size, 2, none⟩) hX).trans x2⟩, (PA'.cell (p := ⟨w.heap.size + 1, 0, none⟩) hY).trans y0, (PA'.cell (p := ⟨w.heap.size + 1, 1, none⟩) hY).trans y1, (PA'.cell (p := ⟨w.heap.size + 1, 2, none⟩) hY).trans y2⟩ (fun hHeld => ?_)
    clear hK1
    try simp only [Act.put, List.setIfInBounds_toArray, List.set_cons_zero, List.set_cons_succ, List.getElem_toArray, List.getElem_cons_succ, List.getElem_cons_zero]
    refine wpAnyH_take (i := 18) (v := ?_) rfl (by kernel_rfl) (by kernel_rfl) (by kernel_rfl) (fun _ _ _ h => h) (Or.inl ⟨by rfl, ?_⟩) hHeld ?_
    rotate_left
    · (intro W hSw; (try dsimp only at hSw); go_simp; try with_reducible rfl)
    try simp only [Act.put, List.setIfInBounds_toArray, List.set_cons_zero, List.set_cons_succ, List.getElem_toArray, List.getElem_cons_succ, List.getElem_cons_zero]
    refine wpAnyH_done (by kernel_rfl) ?_ _
    try simp only [Act.put, List.setIfInBounds_toArray, List.set_cons_zero, List.set_cons_succ, List.getElem_toArray, List.getElem_cons_succ, List.getElem_cons_zero]
    have CE : Hid (∀ k, k < 3 → (w1.alloc (.cells #[.int .i64 (Tm.cmpI t.op u.op), .int .i64 (Tm.cmpI t.num u.num), .int .i64 (Tm.cmpI n n')] 3)).drew.cell? ⟨w1.heap.size, k, none⟩ = some (.int .i64 (Tm.cs t u k))) := by
      show ∀ k, k < 3 → _
      intro k hk
      have e1 := HLN.out
      have e2 := HLU.out
      rcases (show k = 0 ∨ k = 1 ∨ k = 2 by omega) with rfl | rfl | rfl
      · exact (cell_of_arr NA 0)
      · exact (cell_of_arr NA 1)
      · refine (cell_of_arr NA 2).trans ?_
        rw [e1, e2]; rfl
    clear hHeld x0 x1 x2 y0 y1 y2 NA
    generalize (w1.alloc (.cells #[.int .i64 (Tm.cmpI t.op u.op), .int .i64 (Tm.cmpI t.num u.num), .int .i64 (Tm.cmpI n n')] 3)).drew = w2 at *
    have HP2 := Lib.hid PA'
    clear PA'
    go_wp2_with fail
    go_loopw [28] (fun i W => ∃ k : Nat, i = .int .i64 k ∧ k ≤ 3 ∧ (∀ j, j < k → Tm.cs t u j = 0) ∧ Below w2.heap.size w2 W) (fun i _ => 3 - (intOf i).toNat)
    case atStart => exact ⟨0, rfl, by omega, fun j h => by omega, Below.refl _ _⟩
    case round =>
      obtain ⟨k, rfl, hk, hcz, hB⟩ := hrel
      by_cases hk3 : k < 3
      · have ck := (hB.cell (p := ⟨w1.heap.size, k, none⟩) (lt_of_cell (CE.out k hk3))).trans (CE.out k hk3)
        have hk3' : (k : Int) < 3 := by omega
        have HB := Lib.hid (pure_trans HP2.out hB)
        have HBr := Lib.hid hB
        by_cases hz : Tm.cs t u k = 0
        · have HCZ : Hid (∀ j, j < k + 1 → Tm.cs t u j = 0) := by
            show ∀ j, j < k + 1 → _
            intro j hj
            by_cases e : j = k
            · rw [e]; exact hz
            · exact hcz j (by omega)
          have hzb : (Tm.cs t u k != 0) = false := by simpa using hz
          clear hcz hz hB
          generalize Tm.cs t u k = cv at *
          go_wp2_with fail
          go_roundw
          case rel => exact ⟨k + 1, by go_num, by omega, HCZ.out, HBr.out⟩
          case measure => simp [intOf]; omega
        · have HEQ := Lib.hid (Tm.compare_at hk3 hcz hz)
          have hzb : (Tm.cs t u k != 0) = true := by simpa using hz
          clear hcz hz hB
          generalize Tm.cs t u k = cv at *
          go_wp2_with fail
          go_ret
          exact ⟨ret_int HEQ.out.symm, pure_trans HP1.out HB.out⟩
      · have hk3' : ¬ ((k : Int) < 3) := by omega
        have HRE : Hid (∀ j, j < 3 → Tm.cs t u j = 0) := by
          show ∀ j, j < 3 → _
          exact fun j hj => hcz j (by omega)
        have HP3 := Lib.hid (pure_trans HP2.out hB)
        clear hcz hB
        have HNN : Hid (n = n') := by
          show n = n'
          have h := Tm.cmpI_zero.1 (HRE.out 2 (by omega))
          have e1 := HLN.out
          have e2 := HLU.out
          omega
        have HEQ0 := Lib.hid (Tm.compare_rest HRE.out)
        have HTW := Lib.hid (HT.out.below HP3.out)
        have HUW := Lib.hid (HU.out.below HP3.out)
        have HN1W := Lib.hid (Below.keep HP3.out HN1.out hX)
        have HN2W := Lib.hid (Below.keep HP3.out HN2.out hY)
        have HP5 := Lib.hid (pure_trans HP1.out HP3.out)
        have N1 := HN1W.out
        have N2 := HN2W.out
        have x0 := cell_of_arr N1 0
        have x1 := cell_of_arr N1 1
        have x2 := cell_of_arr N1 2
        simp at x0 x1 x2
        have y0 := cell_of_arr N2 0
        have y1 := cell_of_arr N2 1
        have y2 := cell_of_arr N2 2
        simp at y0 y1 y2
        clear N1 N2 HRE
        go_wp2_with fail
        clear x0 x1 x2 y0 y1 y2
        obtain ⟨w4, rfl⟩ : ∃ w4 : World, w4 = wr := ⟨_, rfl⟩
        go_loopw [39] (fun i W => ∃ j : Nat, i = .int .i64 j ∧ j ≤ n ∧ Tm.compares t.kids u.kids = Tm.compares (t.kids.drop j) (u.kids.drop j) ∧ Below w4.heap.size w4 W) (fun i _ => n - (intOf i).toNat)
        case atStart => exact ⟨0, rfl, by omega, rfl, Below.refl _ _⟩
        case round =>
          obtain ⟨j, rfl, hj, hcj, hB⟩ := hrel
          by_cases hjn : j < n
          · have hjl : j < t.kids.length := by have := HLN.out; omega
            have hju : j < u.kids.length := by have := HLU.out; have := HNN.out; omega
            obtain ⟨b, o, an, nn, cc, hea, hb, c0, c1, c2, ht⟩ := (HTW.out.below hB).2.2 j hjl
            obtain ⟨b', o', an', nn', cc', hea', hb', d0, d1, d2, hu⟩ := (HUW.out.below hB).2.2 j hju
            have hst := Tm.compares_step hjl hju
            have HEQ := Lib.hid (hcj.trans hst)
            have hk1 : t.kids[j].size ≤ m := Nat.le_trans (Tm.size_get hjl) HSZ.out
            have HCL := Lib.hid (fun W (hW : Below wr.heap.size wr W) => HIH.out t.kids[j] u.kids[j] an nn cc an' nn' cc' W ok ok' hk1 (ht.below hW) (hu.below hW))
            have N1 := Below.keep hB HN1W.out (lt_of_block HN1W.out)
            have N2 := Below.keep hB HN2W.out (lt_of_block HN2W.out)
            have HB := Lib.hid hB
            clear hcj hst hB ht hu hk1
            generalize t.kids[j] = k at *
            generalize u.kids[j] = k' at *
            subst hea hea'
            have x0 := cell_of_arr N1 0
            have x1 := cell_of_arr N1 1
            have x2 := cell_of_arr N1 2
            simp at x0 x1 x2
            have y0 := cell_of_arr N2 0
            have y1 := cell_of_arr N2 1
            have y2 := cell_of_arr N2 2
            simp at y0 y1 y2
            clear N1 N2
            have hlt : (j : Int) < n := by omega
            have hlt' : (j : Int) < n' := by have := HNN.out; omega
            have hlt2 : (0 : Int) ≤ j := by omega
            go_upto_region 10 with fail
            refine wp_region_held_drew (S := (fun W => ((W.cell? ⟨w.heap.size, 0, none⟩ = some (.int .i64 t.op) ∧ W.cell? ⟨w.heap.size, 1, none⟩ = some (.int .i64 t.num) ∧ W.cell? ⟨w.heap.size, 2, none⟩ = some (.slice (some ⟨b, o, none⟩) n c)) ∧ W.cell? ⟨w.heap.size + 1, 0, none⟩ = some (.int .i64 u.op) ∧ W.cell? ⟨w.heap.size + 1, 1, none⟩ = some (.int .i64 u.num) ∧ W.cell? ⟨w.heap.size + 1, 2, none⟩ = some (.slice (some ⟨b', o', none⟩) n' c')) ∧ (W.cell? ⟨b, o + j * 3, none⟩ = some (.int .i64 k.op) ∧ W.cell? ⟨b, o + j * 3 + 1, none⟩ = some (.int .i64 k.num) ∧ W.cell? ⟨b, o + j * 3 + 2, none⟩ = some (.slice an nn cc)) ∧ W.cell? ⟨b', o' + j * 3, none⟩ = some (.int .i64 k'.op) ∧ W.cell? ⟨b', o' + j * 3 + 1, none⟩ = some (.int .i64 k'.num) ∧ W.cell? ⟨b', o' + j * 3 + 2, none⟩ = some (.slice an' nn' cc'))) (by kernel_rfl) ⟨⟨⟨x0, x1, x2⟩, y0, y1, y2⟩, ⟨c0, c1, c2⟩, d0, d1, d2⟩ (fun hHeld => ?_)
            refine wpAnyH_take (i := 0) (v := ?_) rfl (by kernel_rfl) (by kernel_rfl) (by kernel_rfl) (fun _ _ _ h => h) (Or.inl ⟨by rfl, ?_⟩) hHeld ?_
            rotate_left
            · (intro W hSw; (try dsimp only at hSw); go_simp; try with_reducible rfl)
            try simp only [Act.put, List.setIfInBounds_toArray, List.set_cons_zero, List.set_cons_succ, List.getElem_toArray, List.getElem_cons_succ, List.getElem_cons_zero]
            refine wpAnyH_take (i := 1) (v := ?_) rfl (by kernel_rfl) (by kernel_rfl) (by kernel_rfl) (fun _ _ _ h => h) (Or.inl ⟨by rfl, ?_⟩) hHeld ?_
            rotate_left
            · (intro W hSw; (try dsimp only at hSw); go_simp; try with_reducible rfl)
            try simp only [Act.put, List.setIfInBounds_toArray, List.set_cons_zero, List.set_cons_succ, List.getElem_toArray, List.getElem_cons_succ, List.getElem_cons_zero]
            refine wpAnyH_take (i := 2) (v := ?_) rfl (by kernel_rfl) (by kernel_rfl) (by kernel_rfl) (fun _ _ _ h => h) (Or.inl ⟨by rfl, ?_⟩) hHeld ?_
            rotate_left
            · (intro W hSw; (try dsimp only at hSw); go_simp; try with_reducible rfl)
            try simp only [Act.put, List.setIfInBounds_toArray, List.set_cons_zero, List.set_cons_succ, List.getElem_toArray, List.getElem_cons_succ, List.getElem_cons_zero]
            refine wpAnyH_take (i := 3) (v := ?_) rfl (by kernel_rfl) (by kernel_rfl) (by kernel_rfl) (fun _ _ _ h => h) (Or.inl ⟨by rfl, ?_⟩) hHeld ?_
            rotate_left
            · (intro W hSw; (try dsimp only at hSw); go_simp; try with_reducible rfl)
            try simp only [Act.put, List.setIfInBounds_toArray, List.set_cons_zero, List.set_cons_succ, List.getElem_toArray, List.getElem_cons_succ, List.getElem_cons_zero]
            refine wpAnyH_take (i := 4) (v := ?_) rfl (by kernel_rfl) (by kernel_rfl) (by kernel_rfl) (fun _ _ _ h => h) (Or.inl ⟨by rfl, ?_⟩) hHeld ?_
            rotate_left
            · (intro W hSw; (try dsimp only at hSw); go_simp; try with_reducible rfl)
            try simp only [Act.put, List.setIfInBounds_toArray, List.set_cons_zero, List.set_cons_succ, List.getElem_toArray, List.getElem_cons_succ, List.getElem_cons_zero]
            refine wpAnyH_take (i := 5) (v := ?_) rfl (by kernel_rfl) (by kernel_rfl) (by kernel_rfl) (fun _ _ _ h => h) (Or.inl ⟨by rfl, ?_⟩) hHeld ?_
            rotate_left
            · (intro W hSw; (try dsimp only at hSw); go_simp; try with_reducible rfl)
            try simp only [Act.put, List.setIfInBounds_toArray, List.set_cons_zero, List.set_cons_succ, List.getElem_toArray, List.getElem_cons_succ, List.getElem_cons_zero]
            refine wpAnyH_take (i := 6) (v := ?_) rfl (by kernel_rfl) (by kernel_rfl) (by kernel_rfl) (fun _ _ _ h => h) (Or.inl ⟨by rfl, ?_⟩) hHeld ?_
            rotate_left
            · (intro W hSw; (try dsimp only at hSw); go_simp; try with_reducible rfl)
            try simp only [Act.put, List.setIfInBounds_toArray, List.set_cons_zero, List.set_cons_succ, List.getElem_toArray, List.getElem_cons_succ, List.getElem_cons_zero]
            refine wpAnyH_take (i := 7) (v := ?_) rfl (by kernel_rfl) (by kernel_rfl) (by kernel_rfl) (fun _ _ _ h => h) (Or.inl ⟨by rfl, ?_⟩) hHeld ?_
            rotate_left
            · (intro W hSw; (try dsimp only at hSw); go_simp; try with_reducible rfl)
            try simp only [Act.put, List.setIfInBounds_toArray, List.set_cons_zero, List.set_cons_succ, List.getElem_toArray, List.getElem_cons_succ, List.getElem_cons_zero]
            refine wpAnyH_take (i := 8) (v := ?_) rfl (by kernel_rfl) (by kernel_rfl) (by kernel_rfl) (fun _ _ _ h => h) (Or.inl ⟨by rfl, ?_⟩) hHeld ?_
            rotate_left
            · (intro W hSw; (try dsimp only at hSw); go_simp; try with_reducible rfl)
            try simp only [Act.put, List.setIfInBounds_toArray, List.set_cons_zero, List.set_cons_succ, List.getElem_toArray, List.getElem_cons_succ, List.getElem_cons_zero]
            refine wpAnyH_take (i := 9) (v := ?_) rfl (by kernel_rfl) (by kernel_rfl) (by kernel_rfl) (fun _ _ _ h => h) (Or.inl ⟨by rfl, ?_⟩) hHeld ?_
            rotate_left
            · (intro W hSw; (try dsimp only at hSw); go_simp; try with_reducible rfl)
            try simp only [Act.put, List.setIfInBounds_toArray, List.set_cons_zero, List.set_cons_succ, List.getElem_toArray, List.getElem_cons_succ, List.getElem_cons_zero]
            refine wpAnyH_ready (rs := [10]) (by kernel_rfl) (by simp) ?_
            refine AllReadyH.cons rfl (fun K1 hK1 => ?_) AllReadyH.nil
            go_simp
            refine (HCL.out wr.drew (below_drewN (Below.refl _ _) 1)).mono ?_
            rintro e w5 ⟨rfl, hw5⟩
            have hw5' : Below wr.heap.size wr w5 := (below_drewN (Below.refl _ _) 1 : Below wr.heap.size wr wr.drew).trans hw5
            refine hK1.out _ _ ⟨⟨⟨(hw5'.cell (p := ⟨w.heap.size, 0, none⟩) (lt_of_cell x0)).trans x0, (hw5'.cell (p := ⟨w.heap.size, 1, none⟩) (lt_of_cell x1)).trans x1, (hw5'.cell (p := ⟨w.heap.size, 2, none⟩) (lt_of_cell x2)).trans x2⟩, (hw5'.cell (p := ⟨w.heap.size + 1, 0, none⟩) (lt_of_cell y0)).trans y0, (hw5'.cell (p := ⟨w.heap.size + 1, 1, none⟩) (lt_of_cell y1)).trans y1, (hw5'.cell (p := ⟨w.heap.size + 1, 2, none⟩) (lt_of_cell y2)).trans y2⟩, ⟨(hw5'.cell (p := ⟨b, o + j * 3, none⟩) (lt_of_cell c0)).trans c0, (hw5'.cell (p := ⟨b, o + j * 3 + 1, none⟩) (lt_of_cell c1)).trans c1, (hw5'.cell (p := ⟨b, o + j * 3 + 2, none⟩) (lt_of_cell c2)).trans c2⟩, (hw5'.cell (p := ⟨b', o' + j * 3, none⟩) (lt_of_cell d0)).trans d0, (hw5'.cell (p := ⟨b', o' + j * 3 + 1, none⟩) (lt_of_cell d1)).trans d1, (hw5'.cell (p := ⟨b', o' + j * 3 + 2, none⟩) (lt_of_cell d2)).trans d2⟩ (fun hHeld => ?_)
            clear hK1
            try simp only [Act.put, List.setIfInBounds_toArray, List.set_cons_zero, List.set_cons_succ, List.getElem_toArray, List.getElem_cons_succ, List.getElem_cons_zero]
            refine wpAnyH_take (i := 11) (v := ?_) rfl (by kernel_rfl) (by kernel_rfl) (by kernel_rfl) (fun _ _ _ h => h) (Or.inl ⟨by rfl, ?_⟩) hHeld ?_
            rotate_left
            · (intro W hSw; (try dsimp only at hSw); go_simp; try with_reducible rfl)
            try simp only [Act.put, List.setIfInBounds_toArray, List.set_cons_zero, List.set_cons_succ, List.getElem_toArray, List.getElem_cons_succ, List.getElem_cons_zero]
            refine wpAnyH_done (by kernel_rfl) ?_ _
            try simp only [Act.put, List.setIfInBounds_toArray, List.set_cons_zero, List.set_cons_succ, List.getElem_toArray, List.getElem_cons_succ, List.getElem_cons_zero]
            have HB5 := Lib.hid (HB.out.trans (hw5'.mono HB.out.size))
            clear hHeld hw5 hw5' x0 x1 x2 y0 y1 y2 c0 c1 c2 d0 d1 d2 HB HCL
            generalize hcv : Tm.compare k k' = cv at *
            have HCV := Lib.hid hcv
            clear hcv
            by_cases hz : cv = 0
            · have hzb : (cv != 0) = false := by simpa using hz
              have HEQ2 := Lib.hid (HEQ.out.trans (if_neg (by simpa using hz)))
              clear hz HEQ HCV
              go_wp2_with fail
              go_roundw
              case rel => exact ⟨j + 1, by go_num, by omega, HEQ2.out, HB5.out⟩
              case measure => simp [intOf]; omega
            · have hzb : (cv != 0) = true := by simpa using hz
              have HEQ2 := Lib.hid (HEQ.out.trans (if_pos (by simpa using hz)))
              clear hz HEQ HCV
              go_wp2_with fail
              go_ret
              exact ⟨ret_int (HEQ0.out.trans HEQ2.out).symm, pure_trans HP5.out HB5.out⟩
          · have hjn' : ¬ ((j : Int) < n) := by omega
            have HB := Lib.hid (pure_trans HP5.out hB)
            have HEQ := Lib.hid (hcj.trans (Tm.compares_end (by have := HLN.out; omega)))
            clear hB hcj
            go_wp2_with fail
            go_ret
            exact ⟨ret_int (HEQ0.out.trans HEQ.out).symm, HB.out⟩
end Go.Proofs.YtkgbjoepjcenlaaDoor
