/- The walks of the reference's Compare and of Contains. -/
import Derived.Test.YtkgbjoepjcenlaaDoorWc
namespace Go.Proofs.YtkgbjoepjcenlaaDoor
open Go.RowKit
set_option maxHeartbeats 1600000 in
theorem compareR_any (m : Nat) : ∀ (t u : Tm) (a : Option Addr) (n c : Nat) (a' : Option Addr) (n' c' : Nat) (w : World) (ok ok' : Nat → Prop), t.size ≤ m → TR ok w t a n → TR ok' w u a' n' →
    Calls Tryd.prog 22 #[.agg #[.int .i64 t.op, .int .i64 t.num, .slice a n c], .agg #[.int .i64 u.op, .int .i64 u.num, .slice a' n' c']] w fun e w' => e = .returned (.int .i64 (Tm.compare t u)) ∧ Below w.heap.size w w' := by
  induction m with
  | zero => intro t u a n c a' n' c' w ok ok' h; have := t.size_pos; omega
  | succ m ih =>
    intro t u a n c a' n' c' w ok ok' hm hT hU
    rw [TR_iff] at hT hU
    have hsz := t.size_kids
    have P1 : Below w.heap.size w ((w.alloc (.cells #[.int .i64 t.op, .int .i64 t.num, .slice a n c] 28)).alloc (.cells #[.int .i64 u.op, .int .i64 u.num, .slice a' n' c'] 28)) := (pure_alloc _ _).alloc (by simp) _
    have N1 : ((w.alloc (.cells #[.int .i64 t.op, .int .i64 t.num, .slice a n c] 28)).alloc (.cells #[.int .i64 u.op, .int .i64 u.num, .slice a' n' c'] 28)).heap[w.heap.size]? = some (.cells #[.int .i64 t.op, .int .i64 t.num, .slice a n c] 28 (0, 0)) := alloc_keep (alloc_new _ _)
    have N2 : ((w.alloc (.cells #[.int .i64 t.op, .int .i64 t.num, .slice a n c] 28)).alloc (.cells #[.int .i64 u.op, .int .i64 u.num, .slice a' n' c'] 28)).heap[w.heap.size + 1]? = some (.cells #[.int .i64 u.op, .int .i64 u.num, .slice a' n' c'] 28 (0, 0)) := alloc_new' _ _ _ (by simp)
    have HT := Lib.hid (hT.below P1)
    have HU := Lib.hid (hU.below P1)
    have hn := hT.2.1
    have hn' := hU.2.1
    have HLN := Lib.hid hT.1
    have HLU := Lib.hid hU.1
    have HIH := Lib.hid ih
    have HSZ : Hid (Tm.sizes t.kids ≤ m) := by show _ ≤ _; omega
    clear hT hU hsz ih hm
    go_enter Tryd.func22, Tryd.ntmps22
    go_upto_region 1 with fail
    generalize ((w.alloc (.cells #[.int .i64 t.op, .int .i64 t.num, .slice a n c] 28)).alloc (.cells #[.int .i64 u.op, .int .i64 u.num, .slice a' n' c'] 28)) = w1 at *
    have HP1 := Lib.hid P1
    have HN1 := Lib.hid N1
    have HN2 := Lib.hid N2
    have hX := lt_of_block N1
    have hY := lt_of_block N2
    have x0 := cell_of_arr N1 0
    have x1 := cell_of_arr N1 1
    have x2 := cell_of_arr N1 2
    simp at x0 x1 x2
    have y0 := cell_of_arr N2 0
    have y1 := cell_of_arr N2 1
    have y2 := cell_of_arr N2 2
    simp at y0 y1 y2
    clear P1 N1 N2
    have HC0 : Hid (Tm.cs t u 0 = Tm.cmpI t.op u.op) := rfl
    have HC1 : Hid (Tm.cs t u 1 = Tm.cmpI t.num u.num) := rfl
    have HC2 : Hid (Tm.cs t u 2 = Tm.cmpI n n') := by
      show _ = _
      rw [HLN.out, HLU.out]; rfl
    by_cases h0 : Tm.cmpI t.op u.op = 0
    rotate_left
    · have HEQ := Lib.hid (Tm.compare_at (t := t) (u := u) (k := 0) (by omega) (fun j h => by omega) (by rw [HC0.out]; exact h0))
      have hb : (Tm.cmpI t.op u.op != 0) = true := by simpa using h0
      clear h0
      go_wp2_with (go_at_call 41; refine (cmp_any _ _ _).mono ?_; rintro e w2 ⟨rfl, rfl⟩)
      go_ret
      exact ⟨ret_int (HEQ.out.trans HC0.out).symm, HP1.out⟩
    have HZ0 := Lib.hid (HC0.out.trans h0)
    have hb0 : (Tm.cmpI t.op u.op != 0) = false := by simpa using h0
    by_cases h1 : Tm.cmpI t.num u.num = 0
    rotate_left
    · have HEQ := Lib.hid (Tm.compare_at (t := t) (u := u) (k := 1) (by omega) (fun j h => (show j = 0 by omega) ▸ HZ0.out) (by rw [HC1.out]; exact h1))
      have hb : (Tm.cmpI t.num u.num != 0) = true := by simpa using h1
      clear h0 h1
      go_wp2_with (go_at_call 41; refine (cmp_any _ _ _).mono ?_; rintro e w2 ⟨rfl, rfl⟩)
      go_ret
      exact ⟨ret_int (HEQ.out.trans HC1.out).symm, HP1.out⟩
    have HZ1 := Lib.hid (HC1.out.trans h1)
    have hb1 : (Tm.cmpI t.num u.num != 0) = false := by simpa using h1
    by_cases h2 : Tm.cmpI n n' = 0
    rotate_left
    · have HEQ := Lib.hid (Tm.compare_at (t := t) (u := u) (k := 2) (by omega) (fun j h => by
        rcases (show j = 0 ∨ j = 1 by omega) with rfl | rfl
        · exact HZ0.out
        · exact HZ1.out) (by rw [HC2.out]; exact h2))
      have hb : (Tm.cmpI n n' != 0) = true := by simpa using h2
      clear h0 h1 h2
      go_wp2_with (go_at_call 41; refine (cmp_any _ _ _).mono ?_; rintro e w2 ⟨rfl, rfl⟩)
      go_ret
      exact ⟨ret_int (HEQ.out.trans HC2.out).symm, HP1.out⟩
    have HZ2 := Lib.hid (HC2.out.trans h2)
    have hb2 : (Tm.cmpI n n' != 0) = false := by simpa using h2
    have HNN : Hid (n = n') := by
      show n = n'
      have h := Tm.cmpI_zero.1 h2
      omega
    have HEQ0 := Lib.hid (Tm.compare_rest (t := t) (u := u) fun j hj => by
      rcases (show j = 0 ∨ j = 1 ∨ j = 2 by omega) with rfl | rfl | rfl
      · exact HZ0.out
      · exact HZ1.out
      · exact HZ2.out)
    clear h0 h1 h2
    have HTW := HT
    have HUW := HU
    have HN1W := HN1
    have HN2W := HN2
    have HP5 := HP1
    go_wp2_with (go_at_call 41; refine (cmp_any _ _ _).mono ?_; rintro e w2 ⟨rfl, rfl⟩)
    clear x0 x1 x2 y0 y1 y2 hb0 hb1 hb2
    go_loopw [39] (fun i W => ∃ j : Nat, i = .int .i64 j ∧ j ≤ n ∧ Tm.compares t.kids u.kids = Tm.compares (t.kids.drop j) (u.kids.drop j) ∧ Below w1.heap.size w1 W) (fun i _ => n - (intOf i).toNat)
    case atStart => exact ⟨0, rfl, by omega, rfl, Below.refl _ _⟩
    case round =>
      obtain ⟨j, rfl, hj, hcj, hB⟩ := hrel
      by_cases hjn : j < n
      · have hjl : j < t.kids.length := by have := HLN.out; omega
        have hju : j < u.kids.length := by have := HLU.out; have := HNN.out; omega
        obtain ⟨b, o, an, nn, cc, hea, hb, c0, c1, c2, ht⟩ := (HTW.out.below hB).2.2 j hjl
        obtain ⟨b', o', an', nn', cc', hea', hb', d0, d1, d2, hu⟩ := (HUW.out.below hB).2.2 j hju
        have hst := Tm.compares_step hjl hju
        have HEQ := Lib.hid (hcj.trans hst)
        have hk1 : t.kids[j].size ≤ m := Nat.le_trans (Tm.size_get hjl) HSZ.out
        have HCL := Lib.hid (fun W (hW : Below wr.heap.size wr W) => HIH.out t.kids[j] u.kids[j] an nn cc an' nn' cc' W ok ok' hk1 (ht.below hW) (hu.below hW))
        have N1 := Below.keep hB HN1W.out (lt_of_block HN1W.out)
        have N2 := Below.keep hB HN2W.out (lt_of_block HN2W.out)
        have HB := Lib.hid hB
        clear hcj hst hB ht hu hk1
        generalize t.kids[j] = k at *
        generalize u.kids[j] = k' at *
        subst hea hea'
        have x0 := cell_of_arr N1 0
        have x1 := cell_of_arr N1 1
        have x2 := cell_of_arr N1 2
        simp at x0 x1 x2
        have y0 := cell_of_arr N2 0
        have y1 := cell_of_arr N2 1
        have y2 := cell_of_arr N2 2
        simp at y0 y1 y2
        clear N1 N2
        have hlt : (j : Int) < n := by omega
        have hlt' : (j : Int) < n' := by have := HNN.out; omega
        have hlt2 : (0 : Int) ≤ j := by omega
        go_upto_region 13 with fail
        refine wp_region_held_drew (S := (fun W => ((W.cell? ⟨w.heap.size, 0, none⟩ = some (.int .i64 t.op) ∧ W.cell? ⟨w.heap.size, 1, none⟩ = some (.int .i64 t.num) ∧ W.cell? ⟨w.heap.size, 2, none⟩ = some (.slice (some ⟨b, o, none⟩) n c)) ∧ W.cell? ⟨w.heap.size + 1, 0, none⟩ = some (.int .i64 u.op) ∧ W.cell? ⟨w.heap.size + 1, 1, none⟩ = some (.int .i64 u.num) ∧ W.cell? ⟨w.heap.size + 1, 2, none⟩ = some (.slice (some ⟨b', o', none⟩) n' c')) ∧ (W.cell? ⟨b, o + j * 3, none⟩ = some (.int .i64 k.op) ∧ W.cell? ⟨b, o + j * 3 + 1, none⟩ = some (.int .i64 k.num) ∧ W.cell? ⟨b, o + j * 3 + 2, none⟩ = some (.slice an nn cc)) ∧ W.cell? ⟨b', o' + j * 3, none⟩ = some (.int .i64 k'.op) ∧ W.cell? ⟨b', o' + j * 3 + 1, none⟩ = some (.int .i64 k'.num) ∧ W.cell? ⟨b', o' + j * 3 + 2, none⟩ = some (.slice an' nn' cc'))) (by kernel_rfl) ⟨⟨⟨x0, x1, x2⟩, y0, y1, y2⟩, ⟨c0, c1, c2⟩, d0, d1, d2⟩ (fun hHeld => ?_)
        refine wpAnyH_take (i := 0) (v := ?_) rfl (by kernel_rfl) (by kernel_rfl) (by kernel_rfl) (fun _ _ _ h => h) (Or.inl ⟨by rfl, ?_⟩) hHeld ?_
        rotate_left
        · (intro W hSw; (try dsimp only at hSw); go_simp; try with_reducible rfl)
        try simp only [Act.put, List.setIfInBounds_toArray, List.set_cons_zero, List.set_cons_succ, List.getElem_toArray, List.getElem_cons_succ, List.getElem_cons_zero]
        refine wpAnyH_take (i := 1) (v := ?_) rfl (by kernel_rfl) (by kernel_rfl) (by kernel_rfl) (fun _ _ _ h => h) (Or.inl ⟨by rfl, ?_⟩) hHeld ?_
        rotate_left
        · (intro W hSw; (try dsimp only at hSw); go_simp; try with_reducible rfl)
        try simp only [Act.put, List.setIfInBounds_toArray, List.set_cons_zero, List.set_cons_succ, List.getElem_toArray, List.getElem_cons_succ, List.getElem_cons_zero]
        refine wpAnyH_take (i := 2) (v := ?_) rfl (by kernel_rfl) (by kernel_rfl) (by kernel_rfl) (fun _ _ _ h => h) (Or.inl ⟨by rfl, ?_⟩) hHeld ?_
        rotate_left
        · (intro W hSw; (try dsimp only at hSw); go_simp; try with_reducible rfl)
        try simp only [Act.put, List.setIfInBounds_toArray, List.set_cons_zero, List.set_cons_succ, List.getElem_toArray, List.getElem_cons_succ, List.getElem_cons_zero]
        refine wpAnyH_take (i := 3) (v := ?_) rfl (by kernel_rfl) (by kernel_rfl) (by kernel_rfl) (fun _ _ _ h => h) (Or.inl ⟨by rfl, ?_⟩) hHeld ?_
        rotate_left
        · (intro W hSw; (try dsimp only at hSw); go_simp; try with_reducible rfl)
        try simp only [Act.put, List.setIfInBounds_toArray, List.set_cons_zero, List.set_cons_succ, List.getElem_toArray, List.getElem_cons_succ, List.getElem_cons_zero]
        refine wpAnyH_take (i := 4) (v := ?_) rfl (by kernel_rfl) (by kernel_rfl) (by kernel_rfl) (fun _ _ _ h => h) (Or.inl ⟨by rfl, ?_⟩) hHeld ?_
        rotate_left
        · (intro W hSw; (try dsimp only at hSw); go_simp; try with_reducible rfl)
        try simp only [Act.put, List.setIfInBounds_toArray, List.set_cons_zero, List.set_cons_succ, List.getElem_toArray, List.getElem_cons_succ, List.getElem_cons_zero]
        refine wpAnyH_take (i := 5) (v := ?_) rfl (by kernel_rfl) (by kernel_rfl) (by kernel_rfl) (fun _ _ _ h => h) (Or.inl ⟨by rfl, ?_⟩) hHeld ?_
        rotate_left
        · (intro W hSw; (try dsimp only at hSw); go_simp; try with_reducible rfl)
        try simp only [Act.put, List.setIfInBounds_toArray, List.set_cons_zero, List.set_cons_succ, List.getElem_toArray, List.getElem_cons_succ, List.getElem_cons_zero]
        refine wpAnyH_take (i := 6) (v := ?_) rfl (by kernel_rfl) (by kernel_rfl) (by kernel_rfl) (fun _ _ _ h => h) (Or.inl ⟨by rfl, ?_⟩) hHeld ?_
        rotate_left
        · (intro W hSw; (try dsimp only at hSw); go_simp; try with_reducible rfl)
        try simp only [Act.put, List.setIfInBounds_toArray, List.set_cons_zero, List.set_cons_succ, List.getElem_toArray, List.getElem_cons_succ, List.getElem_cons_zero]
        refine wpAnyH_take (i := 7) (v := ?_) rfl (by kernel_rfl) (by kernel_rfl) (by kernel_rfl) (fun _ _ _ h => h) (Or.inl ⟨by rfl, ?_⟩) hHeld ?_
        rotate_left
        · (intro W hSw; (try dsimp only at hSw); go_simp; try with_reducible rfl)
        try simp only [Act.put, List.setIfInBounds_toArray, List.set_cons_zero, List.set_cons_succ, List.getElem_toArray, List.getElem_cons_succ, List.getElem_cons_zero]
        refine wpAnyH_take (i := 8) (v := ?_) rfl (by kernel_rfl) (by kernel_rfl) (by kernel_rfl) (fun _ _ _ h => h) (Or.inl ⟨by rfl, ?_⟩) hHeld ?_
        rotate_left
        · (intro W hSw; (try dsimp only at hSw); go_simp; try with_reducible rfl)
        try simp only [Act.put, List.setIfInBounds_toArray, List.set_cons_zero, List.set_cons_succ, List.getElem_toArray, List.getElem_cons_succ, List.getElem_cons_zero]
        refine wpAnyH_take (i := 9) (v := ?_) rfl (by kernel_rfl) (by kernel_rfl) (by kernel_rfl) (fun _ _ _ h => h) (Or.inl ⟨by rfl, ?_⟩) hHeld ?_
        rotate_left
        · (intro W hSw; (try dsimp only at hSw); go_simp; try with_reducible rfl)
        try simp only [Act.put, List.setIfInBounds_toArray, List.set_cons_zero, List.set_cons_succ, List.getElem_toArray, List.getElem_cons_succ, List.getElem_cons_zero]
        refine wpAnyH_ready (rs := [10]) (by kernel_rfl) (by simp) ?_
        refine AllReadyH.cons rfl (fun K1 hK1 => ?_) AllReadyH.nil
        go_simp
        refine (HCL.out wr.drew (below_drewN (Below.refl _ _) 1)).mono ?_
        rintro e w5 ⟨rfl, hw5⟩
        have hw5' : Below wr.heap.size wr w5 := (below_drewN (Below.refl _ _) 1 : Below wr.heap.size wr wr.drew).trans hw5
        refine hK1.out _ _ ⟨⟨⟨(hw5'.cell (p := ⟨w.heap.size, 0, none⟩) (lt_of_cell x0)).trans x0, (hw5'.cell (p := ⟨w.heap.size, 1, none⟩) (lt_of_cell x1)).trans x1, (hw5'.cell (p := ⟨w.heap.size, 2, none⟩) (lt_of_cell x2)).trans x2⟩, (hw5'.cell (p := ⟨w.heap.size + 1, 0, none⟩) (lt_of_cell y0)).trans y0, (hw5'.cell (p := ⟨w.heap.size + 1, 1, none⟩) (lt_of_cell y1)).trans y1, (hw5'.cell (p := ⟨w.heap.size + 1, 2, none⟩) (lt_of_cell y2)).trans y2⟩, ⟨(hw5'.cell (p := ⟨b, o + j * 3, none⟩) (lt_of_cell c0)).trans c0, (hw5'.cell (p := ⟨b, o + j * 3 + 1, none⟩) (lt_of_cell c1)).trans c1, (hw5'.cell (p := ⟨b, o + j * 3 + 2, none⟩) (lt_of_cell c2)).trans c2⟩, (hw5'.cell (p := ⟨b', o' + j * 3, none⟩) (lt_of_cell d0)).trans d0, (hw5'.cell (p := ⟨b', o' + j * 3 + 1, none⟩) (lt_of_cell d1)).trans d1, (hw5'.cell (p := ⟨b', o' + j * 3 + 2, none⟩) (lt_of_cell d2)).trans d2⟩ (fun hHeld => ?_)
        clear hK1
        try simp only [Act.put, List.setIfInBounds_toArray, List.set_cons_zero, List.set_cons_succ, List.getElem_toArray, List.getElem_cons_succ, List.getElem_cons_zero]
        refine wpAnyH_take (i := 11) (v := ?_) rfl (by kernel_rfl) (by kernel_rfl) (by kernel_rfl) (fun _ _ _ h => h) (Or.inl ⟨by rfl, ?_⟩) hHeld ?_
        rotate_left
        · (intro W hSw; (try dsimp only at hSw); go_simp; try with_reducible rfl)
        try simp only [Act.put, List.setIfInBounds_toArray, List.set_cons_zero, List.set_cons_succ, List.getElem_toArray, List.getElem_cons_succ, List.getElem_cons_zero]
        refine wpAnyH_done (by kernel_rfl) ?_ _
        try simp only [Act.put, List.setIfInBounds_toArray, List.set_cons_zero, List.set_cons_succ, List.getElem_toArray, List.getElem_cons_succ, List.getElem_cons_zero]
        have HB5 := Lib.hid (HB.out.trans (hw5'.mono HB.out.size))
        clear hHeld hw5 hw5' x0 x1 x2 y0 y1 y2 c0 c1 c2 d0 d1 d2 HB HCL
        generalize hcv : Tm.compare k k' = cv at *
        have HCV := Lib.hid hcv
        clear hcv
        by_cases hz : cv = 0
        · have hzb : (cv != 0) = false := by simpa using hz
          have HEQ2 := Lib.hid (HEQ.out.trans (if_neg (by simpa using hz)))
          clear hz HEQ HCV
          go_wp2_with fail
          go_roundw
          case rel => exact ⟨j + 1, by go_num, by omega, HEQ2.out, HB5.out⟩
          case measure => simp [intOf]; omega
        · have hzb : (cv != 0) = true := by simpa using hz
          have HEQ2 := Lib.hid (HEQ.out.trans (if_pos (by simpa using hz)))
          clear hz HEQ HCV
          go_wp2_with fail
          go_ret
          exact ⟨ret_int (HEQ0.out.trans HEQ2.out).symm, pure_trans HP5.out HB5.out⟩
      · have hjn' : ¬ ((j : Int) < n) := by omega
        have HB := Lib.hid (pure_trans HP5.out hB)
        have HEQ := Lib.hid (hcj.trans (Tm.compares_end (by have := HLN.out; omega)))
        clear hB hcj
        go_wp2_with fail
        go_ret
        exact ⟨ret_int (HEQ0.out.trans HEQ.out).symm, HB.out⟩
end Go.Proofs.YtkgbjoepjcenlaaDoor
