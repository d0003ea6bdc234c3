/- The walk of tuple. -/
import Derived.Test.YtkgbjoepjcenlaaDoorWx
import Derived.Test.YtkgbjoepjcenlaaDoorPd
namespace Go.Proofs.YtkgbjoepjcenlaaDoor
open Go.RowKit
namespace Tm
def tup : List Tm → Tm
  | [] => mk 2 0 []
  | [a] => a
  | a :: b :: l => pair a (tup (b :: l))
end Tm
/-- A term made of old ones: its kids lie in the old blocks or in new ones. -/
def UPost (ok : Nat → Prop) (t : Tm) (w : World) (e : Ending) (w' : World) : Prop := ∃ a n c, e = .returned (.agg #[.int .i64 t.op, .int .i64 t.num, .slice a n c]) ∧ (TR (fun k => ok k ∨ w.heap.size ≤ k) w' t a n ∧ n ≤ c) ∧ Below w.heap.size w w'
set_option maxHeartbeats 1600000 in
theorem tuple_any (l : List Tm) : ∀ (x : Tm) (a : Option Addr) (n c : Nat) (w : World) (ok : Nat → Prop), TL ok w (x :: l) a n → n ≤ c → Calls Tryd.prog 48 #[.slice a n c] w (UPost ok (Tm.tup (x :: l)) w) := by
  induction l with
  | nil =>
    intro x a n c w ok hTL hc
    have hn1 : n = 1 := hTL.1
    subst hn1
    obtain ⟨b, o, an, nn, cc, hea, hb, c0, c1, c2, ht⟩ := hTL.2.2 0 (by simp)
    subst hea
    simp at c0 c1 c2
    have hbl := lt_of_cell c0
    have P1 := pure_alloc w (.cells #[.int .i64 0, .int .i64 0, .slice none 0 0] 28)
    have HP1 := Lib.hid P1
    have HR := Lib.hid (alloc_new w (.cells #[.int .i64 0, .int .i64 0, .slice none 0 0] 28))
    have HT := Lib.hid (show TR ok w x an nn from ht)
    have d0 := (P1.cell (p := ⟨b, o, none⟩) hbl).trans c0
    have d1 := (P1.cell (p := ⟨b, o + 1, none⟩) hbl).trans c1
    have d2 := (P1.cell (p := ⟨b, o + 2, none⟩) hbl).trans c2
    clear hTL ht P1
    go_enter Tryd.func48, Tryd.ntmps48
    go_upto_region 1 with fail
    generalize w.alloc (.cells #[.int .i64 0, .int .i64 0, .slice none 0 0] 28) = w1 at *
    have R1 := HR.out
    have r0 := cell_of_arr R1 0
    have r1 := cell_of_arr R1 1
    have r2 := cell_of_arr R1 2
    simp at r0 r1 r2
    have f0 := frozen_of_arr R1 0
    have f1 := frozen_of_arr R1 1
    have f2 := frozen_of_arr R1 2
    clear R1 c0 c1 c2
    go_wp2_with fail
    obtain ⟨S1, S2, S3⟩ := put3 HR.out (.int .i64 x.op) (.int .i64 x.num) (.slice an nn cc) _ rfl
    have p0 := cell_of_arr S1 0
    have p1 := cell_of_arr S1 1
    have p2 := cell_of_arr S1 2
    simp at p0 p1 p2
    refine bodyPost_ret (v := .agg #[.int .i64 x.op, .int .i64 x.num, .slice an nn cc]) (by simp [results, Tryd.results48, go_sem, p0, p1, p2]) rfl ?_
    exact ⟨an, nn, cc, rfl, ⟨HT.out.keep fun k hk hl => ⟨(S2 k (by omega)).trans (HP1.out.block k hl), .inl hk⟩, hb.2⟩, S3 _ _ (Nat.le_refl _) HP1.out⟩
  | cons y l ih =>
    intro x a n c w ok hTL hc
    have hn2 : n = l.length + 2 := hTL.1
    obtain ⟨b, o, an, nn, cc, hea, hb, c0, c1, c2, ht⟩ := hTL.2.2 0 (by simp)
    subst hea
    simp at c0 c1 c2
    have hbl := lt_of_cell c0
    have hnn := hTL.2.1
    have P1 := pure_alloc w (.cells #[.int .i64 0, .int .i64 0, .slice none 0 0] 28)
    have HP1 := Lib.hid P1
    have HR := Lib.hid (alloc_new w (.cells #[.int .i64 0, .int .i64 0, .slice none 0 0] 28))
    have HT := Lib.hid (((show TR ok w x an nn from ht).imp (ok' := (fun k => ok k ∧ k < w.heap.size)) fun k hk hl => ⟨hk, hl⟩).below P1)
    have HTD := ((hTL.imp (ok' := (fun k => ok k ∧ k < w.heap.size)) fun k hk hl => ⟨hk, hl⟩).below P1).drop 1
    have HIH : Hid (∀ W : World, Below (w.alloc (.cells #[.int .i64 0, .int .i64 0, .slice none 0 0] 28)).heap.size (w.alloc (.cells #[.int .i64 0, .int .i64 0, .slice none 0 0] 28)) W → Calls Tryd.prog 48 #[.slice (some ⟨b, o + 3, none⟩) (n - 1) (c - 1)] W (UPost (fun k => ok k ∧ k < w.heap.size) (Tm.tup (y :: l)) W)) := by
      show ∀ W : World, _ → _
      intro W hW
      have := HTD.below hW
      exact ih y _ _ _ W (fun k => ok k ∧ k < w.heap.size) this (by omega)
    have d0 := (P1.cell (p := ⟨b, o, none⟩) hbl).trans c0
    have d1 := (P1.cell (p := ⟨b, o + 1, none⟩) hbl).trans c1
    have d2 := (P1.cell (p := ⟨b, o + 2, none⟩) hbl).trans c2
    have hne1 : ((n : Int) == 1) = false := by simp; omega
    have hc1 : ¬ c = 1 := by omega
    have hl0 : (0 : Int) < (n : Int) := by omega
    have hl1 : (1 : Int) ≤ (n : Int) := by omega
    have hl2 : 0 < n := by omega
    have hl3 : 1 ≤ n := by omega
    clear hTL ht P1 HTD ih c0 c1 c2
    have c0 := d0
    have c1 := d1
    have c2 := d2
    clear d0 d1 d2
    go_enter Tryd.func48, Tryd.ntmps48
    go_upto_region 1 with fail
    generalize w.alloc (.cells #[.int .i64 0, .int .i64 0, .slice none 0 0] 28) = w1 at *
    clear hn2
    go_upto_region 3 with fail
    refine wp_region_held_drew (S := (fun W => W.cell? ⟨b, o, none⟩ = some (.int .i64 x.op) ∧ W.cell? ⟨b, o + 1, none⟩ = some (.int .i64 x.num) ∧ W.cell? ⟨b, o + 2, none⟩ = some (.slice an nn cc))) (by kernel_rfl) ⟨c0, c1, c2⟩ (fun hHeld => ?_)
    refine wpAnyH_take (i := 0) (v := ?_) rfl (by kernel_rfl) (by kernel_rfl) (by kernel_rfl) (fun _ _ _ h => h) (Or.inl ⟨by rfl, ?_⟩) hHeld ?_
    rotate_left
    · (intro W hSw; (try dsimp only at hSw); go_simp; try with_reducible rfl)
    try simp only [Act.put, List.setIfInBounds_toArray, List.set_cons_zero, List.set_cons_succ, List.getElem_toArray, List.getElem_cons_succ, List.getElem_cons_zero]
    refine wpAnyH_take (i := 1) (v := ?_) rfl (by kernel_rfl) (by kernel_rfl) (by kernel_rfl) (fun _ _ _ h => h) (Or.inl ⟨by rfl, ?_⟩) hHeld ?_
    rotate_left
    · (intro W hSw; (try dsimp only at hSw); go_simp; try with_reducible rfl)
    try simp only [Act.put, List.setIfInBounds_toArray, List.set_cons_zero, List.set_cons_succ, List.getElem_toArray, List.getElem_cons_succ, List.getElem_cons_zero]
    refine wpAnyH_take (i := 2) (v := ?_) rfl (by kernel_rfl) (by kernel_rfl) (by kernel_rfl) (fun _ _ _ h => h) (Or.inl ⟨by rfl, ?_⟩) hHeld ?_
    rotate_left
    · (intro W hSw; (try dsimp only at hSw); go_simp; try with_reducible rfl)
    try simp only [Act.put, List.setIfInBounds_toArray, List.set_cons_zero, List.set_cons_succ, List.getElem_toArray, List.getElem_cons_succ, List.getElem_cons_zero]
    refine wpAnyH_take (i := 3) (v := ?_) rfl (by kernel_rfl) (by kernel_rfl) (by kernel_rfl) (fun _ _ _ h => h) (Or.inl ⟨by rfl, ?_⟩) hHeld ?_
    rotate_left
    · (intro W hSw; (try dsimp only at hSw); go_simp; try with_reducible rfl)
    try simp only [Act.put, List.setIfInBounds_toArray, List.set_cons_zero, List.set_cons_succ, List.getElem_toArray, List.getElem_cons_succ, List.getElem_cons_zero]
    refine wpAnyH_take (i := 4) (v := ?_) rfl (by kernel_rfl) (by kernel_rfl) (by kernel_rfl) (fun _ _ _ h => h) (Or.inl ⟨by rfl, ?_⟩) hHeld ?_
    rotate_left
    · (intro W hSw; (try dsimp only at hSw); go_simp; try with_reducible rfl)
    try simp only [Act.put, List.setIfInBounds_toArray, List.set_cons_zero, List.set_cons_succ, List.getElem_toArray, List.getElem_cons_succ, List.getElem_cons_zero]
    refine wpAnyH_ready (rs := [5]) (by kernel_rfl) (by simp) ?_
    refine AllReadyH.cons rfl (fun K1 hK1 => ?_) AllReadyH.nil
    go_simp
    refine (HIH.out w1.drew (below_drewN (Below.refl _ _) 1)).mono ?_
    rintro e w2 ⟨ra, rn, rc, rfl, ⟨hTR, hrc⟩, hw2⟩
    have hw2' : Below w1.heap.size w1 w2 := (below_drewN (Below.refl _ _) 1 : Below w1.heap.size w1 w1.drew).trans hw2
    have HT2 : Hid (TR (fun k => (ok k ∧ k < w.heap.size) ∨ w1.heap.size ≤ k) w2 (Tm.tup (y :: l)) ra rn) := hTR
    have HW2 := Lib.hid hw2'
    clear hTR hw2
    refine hK1.out _ _ ⟨(hw2'.cell (p := ⟨b, o, none⟩) (lt_of_cell c0)).trans c0, (hw2'.cell (p := ⟨b, o + 1, none⟩) (lt_of_cell c1)).trans c1, (hw2'.cell (p := ⟨b, o + 2, none⟩) (lt_of_cell c2)).trans c2⟩ (fun hHeld => ?_)
    clear hK1
    try simp only [Act.put, List.setIfInBounds_toArray, List.set_cons_zero, List.set_cons_succ, List.getElem_toArray, List.getElem_cons_succ, List.getElem_cons_zero]
    clear hw2'
    refine wpAnyH_ready (rs := [6]) (by kernel_rfl) (by simp) ?_
    refine AllReadyH.cons rfl (fun K1 hK1 => ?_) AllReadyH.nil
    go_simp
    have PB := pure_alloc w2 (.cells #[.int .i64 x.op, .int .i64 x.num, .slice an nn cc, .int .i64 (Tm.tup (y :: l)).op, .int .i64 (Tm.tup (y :: l)).num, .slice ra rn rc] 28)
    have HN3 := Lib.hid (alloc_new w2 (.cells #[.int .i64 x.op, .int .i64 x.num, .slice an nn cc, .int .i64 (Tm.tup (y :: l)).op, .int .i64 (Tm.tup (y :: l)).num, .slice ra rn rc] 28))
    have HW3 := Lib.hid (pure_trans HW2.out PB)
    have HT3 := Lib.hid (HT2.out.below PB)
    refine hK1.out _ _ ⟨(HW3.out.cell (p := ⟨b, o, none⟩) (lt_of_cell c0)).trans c0, (HW3.out.cell (p := ⟨b, o + 1, none⟩) (lt_of_cell c1)).trans c1, (HW3.out.cell (p := ⟨b, o + 2, none⟩) (lt_of_cell c2)).trans c2⟩ (fun hHeld => ?_)
    clear hK1
    try simp only [Act.put, List.setIfInBounds_toArray, List.set_cons_zero, List.set_cons_succ, List.getElem_toArray, List.getElem_cons_succ, List.getElem_cons_zero]
    clear PB
    generalize w2.alloc (.cells #[.int .i64 x.op, .int .i64 x.num, .slice an nn cc, .int .i64 (Tm.tup (y :: l)).op, .int .i64 (Tm.tup (y :: l)).num, .slice ra rn rc] 28) = w3 at *
    refine wpAnyH_ready (rs := [7]) (by kernel_rfl) (by simp) ?_
    refine AllReadyH.cons rfl (fun K1 hK1 => ?_) AllReadyH.nil
    go_simp
    refine (node_any 2 _ _ _ w3).mono ?_
    rintro e w4 ⟨rfl, hw4⟩
    have HW4 := Lib.hid (pure_trans HW3.out hw4)
    have HT4 := Lib.hid (HT3.out.below hw4)
    have HN4 := Lib.hid (Below.keep hw4 HN3.out (lt_of_block HN3.out))
    have R4 := Below.keep HW4.out HR.out (lt_of_block HR.out)
    have r0 := cell_of_arr R4 0
    have r1 := cell_of_arr R4 1
    have r2 := cell_of_arr R4 2
    simp at r0 r1 r2
    have f0 := frozen_of_arr R4 0
    have f1 := frozen_of_arr R4 1
    have f2 := frozen_of_arr R4 2
    have HR4 := Lib.hid R4
    clear hw4 R4
    refine hK1.out _ _ ⟨(HW4.out.cell (p := ⟨b, o, none⟩) (lt_of_cell c0)).trans c0, (HW4.out.cell (p := ⟨b, o + 1, none⟩) (lt_of_cell c1)).trans c1, (HW4.out.cell (p := ⟨b, o + 2, none⟩) (lt_of_cell c2)).trans c2⟩ (fun hHeld => ?_)
    clear hK1
    try simp only [Act.put, List.setIfInBounds_toArray, List.set_cons_zero, List.set_cons_succ, List.getElem_toArray, List.getElem_cons_succ, List.getElem_cons_zero]
    refine wpAnyH_ready (rs := [8]) (by kernel_rfl) (by simp) ?_
    refine AllReadyH.cons rfl (fun K1 hK1 => ?_) AllReadyH.nil
    have hbR : w.heap.size ≠ b := by have := hbl; omega
    go_simp
    refine hK1.out _ _ ⟨by simpa [World.cell?_setCell_far, hbR] using (HW4.out.cell (p := ⟨b, o, none⟩) (lt_of_cell c0)).trans c0, by simpa [World.cell?_setCell_far, hbR] using (HW4.out.cell (p := ⟨b, o + 1, none⟩) (lt_of_cell c1)).trans c1, by simpa [World.cell?_setCell_far, hbR] using (HW4.out.cell (p := ⟨b, o + 2, none⟩) (lt_of_cell c2)).trans c2⟩ (fun hHeld => ?_)
    clear hK1
    try simp only [Act.put, List.setIfInBounds_toArray, List.set_cons_zero, List.set_cons_succ, List.getElem_toArray, List.getElem_cons_succ, List.getElem_cons_zero]
    refine wpAnyH_done (by kernel_rfl) ?_ _
    try simp only [Act.put, List.setIfInBounds_toArray, List.set_cons_zero, List.set_cons_succ, List.getElem_toArray, List.getElem_cons_succ, List.getElem_cons_zero]
    have HW5 := Lib.hid (pure_trans HP1.out HW4.out)
    obtain ⟨S1, S2, S3⟩ := put3 HR4.out (.int .i64 2) (.int .i64 0) (.slice (some ⟨w2.heap.size, 0, none⟩) 2 2) _ rfl
    have hs12 := HW2.out.size
    have hs1 := lt_of_block HR.out
    have hN := HN4.out
    have HTT := HT4.out
    have HTX := HT.out.below HW4.out
    have HPS : Hid (UPost ok (Tm.tup (x :: y :: l)) w (.returned (.agg #[.int .i64 2, .int .i64 0, .slice (some ⟨w2.heap.size, 0, none⟩) 2 2])) (((w4.setCell ⟨w.heap.size, 0, none⟩ (.int .i64 2)).setCell ⟨w.heap.size, 1, none⟩ (.int .i64 0)).setCell ⟨w.heap.size, 2, none⟩ (.slice (some ⟨w2.heap.size, 0, none⟩) 2 2))) := by
      refine ⟨_, _, _, rfl, ⟨TR_iff.2 ⟨rfl, by omega, fun j hj => ?_⟩, Nat.le_refl _⟩, S3 _ _ (Nat.le_refl _) HW5.out⟩
      have hj2 : j < 2 := hj
      have hN' := (S2 w2.heap.size (by omega)).trans hN
      rcases (show j = 0 ∨ j = 1 by omega) with rfl | rfl
      · exact ⟨w2.heap.size, 0, an, nn, cc, rfl, ⟨.inr (by omega), hb.2⟩, cell_of_arr hN' 0, cell_of_arr hN' 1, cell_of_arr hN' 2, HTX.keep fun k hk hl => ⟨S2 k (by have h2 : ok k ∧ k < w.heap.size := hk; omega), .inl hk.1⟩⟩
      · exact ⟨w2.heap.size, 0, ra, rn, rc, rfl, ⟨.inr (by omega), hrc⟩, cell_of_arr hN' 3, cell_of_arr hN' 4, cell_of_arr hN' 5, HTT.keep fun k hk hl => ⟨S2 k (by have h2 : (ok k ∧ k < w.heap.size) ∨ w1.heap.size ≤ k := hk; rcases h2 with h2 | h2 <;> omega), by have h2 : (ok k ∧ k < w.heap.size) ∨ w1.heap.size ≤ k := hk; rcases h2 with h2 | h2; exact .inl h2.1; exact .inr (by omega)⟩⟩
    have p0 := cell_of_arr S1 0
    have p1 := cell_of_arr S1 1
    have p2 := cell_of_arr S1 2
    simp at p0 p1 p2
    clear hHeld
    go_wp2_with fail
    refine bodyPost_ret (v := .agg #[.int .i64 2, .int .i64 0, .slice (some ⟨w2.heap.size, 0, none⟩) 2 2]) (by simp [results, Tryd.results48, go_sem, p0, p1, p2]) rfl ?_
    exact HPS.out
end Go.Proofs.YtkgbjoepjcenlaaDoor
