/- Cmp, of the program and of the reference. -/
import Derived.Test.YtelefkkkccilaaaGreatDoorLJ
import Derived.Test.YtelefkkkccilaaaGreatDoorXn
set_option linter.unusedVariables false
set_option linter.unusedSimpArgs false
namespace Go.Proofs.YtelefkkkccilaaaGreatDoor
open Go.RowKit
set_option maxRecDepth 100000
/-- How items compare. -/
def It.cmpI (a b : It) : Int := if It.valid a = true ∧ It.valid b = true then It.cmpB (It.enc a) (It.enc b) else 0
theorem cmpI_self (a : It) : It.cmpI a a = 0 := by
  unfold It.cmpI
  split
  · exact It.cmpB_self _
  · rfl
set_option maxHeartbeats 8000000 in
theorem ccmp_any (m q : It) (A K : Ad) (w : World) (ok ok' : Nat → Prop) (hI : IR ok w m A) (hQ : IR ok' w q K) (hE : Env w) :
    Calls Tryz.prog 65 #[.agg #[.int .i64 m.kind, .int .u64 (m.num : Int), .slice A.ab A.nb A.cb, .slice A.ai A.ni A.ci], .agg #[.int .i64 q.kind, .int .u64 (q.num : Int), .slice K.ab K.nb K.cb, .slice K.ai K.ni K.ci]] w fun e w' => e = .returned (.int .i64 (It.cmpI m q)) ∧ Below w.heap.size w w' := by
  have P0 := pure_alloc w (.cells #[.int .i64 m.kind, .int .u64 (m.num : Int), .slice A.ab A.nb A.cb, .slice A.ai A.ni A.ci] 26)
  have N0 := alloc_new w (.cells #[.int .i64 m.kind, .int .u64 (m.num : Int), .slice A.ab A.nb A.cb, .slice A.ai A.ni A.ci] 26)
  have P1 := pure_alloc (w.alloc (.cells #[.int .i64 m.kind, .int .u64 (m.num : Int), .slice A.ab A.nb A.cb, .slice A.ai A.ni A.ci] 26)) (.cells #[.int .i64 q.kind, .int .u64 (q.num : Int), .slice K.ab K.nb K.cb, .slice K.ai K.ni K.ci] 26)
  have N1 := alloc_new (w.alloc (.cells #[.int .i64 m.kind, .int .u64 (m.num : Int), .slice A.ab A.nb A.cb, .slice A.ai A.ni A.ci] 26)) (.cells #[.int .i64 q.kind, .int .u64 (q.num : Int), .slice K.ab K.nb K.cb, .slice K.ai K.ni K.ci] 26)
  have hsz0 : (w.alloc (.cells #[.int .i64 m.kind, .int .u64 (m.num : Int), .slice A.ab A.nb A.cb, .slice A.ai A.ni A.ci] 26)).heap.size = w.heap.size + 1 := by simp
  rw [hsz0] at N1
  have HX1 := Lib.hid (Below.keep P1 N0 (lt_of_block N0))
  have HY1 := Lib.hid N1
  have HP1 := Lib.hid (pure_trans P0 P1)
  have HI1 := Lib.hid ((hI.below P0).below P1)
  have HQ1 := Lib.hid ((hQ.below P0).below P1)
  have HE1 := Lib.hid ((hE.below P0).below P1)
  obtain ⟨x0, x1, x2, x3⟩ := cell_of4 HX1.out
  obtain ⟨y0, y1, y2, y3⟩ := cell_of4 HY1.out
  obtain ⟨r, hr⟩ : ∃ r, It.cmpI m q = r := ⟨_, rfl⟩
  rw [hr]
  have HRR := Lib.hid hr
  clear hI hQ hE N0 N1 P0 P1 hsz0 hr
  go_enter Tryz.func65, Tryz.ntmps65
  go_upto_region 1 with fail
  generalize (w.alloc (.cells #[.int .i64 m.kind, .int .u64 (m.num : Int), .slice A.ab A.nb A.cb, .slice A.ai A.ni A.ci] 26)).alloc (.cells #[.int .i64 q.kind, .int .u64 (q.num : Int), .slice K.ab K.nb K.cb, .slice K.ai K.ni K.ci] 26) = w1 at *
  generalize hB : w.heap.size = B at *
  cases hv : It.valid m with
  | false =>
    have HN9 : Hid (r = 0) := Lib.hid (HRR.out.symm.trans (if_neg (fun h => by rw [hv] at h; cases h.1)))
    have HC := Lib.hid (cvalid_any m A w1 _ HI1.out HE1.out false hv)
    go_wp2_with fail
    refine HC.out.mono ?_
    rintro e w2 ⟨rfl, B2⟩
    have HX2 := Lib.hid (Below.keep B2 HX1.out (lt_of_block HX1.out))
    have HY2 := Lib.hid (Below.keep B2 HY1.out (lt_of_block HY1.out))
    have HI2 := Lib.hid (HI1.out.below B2)
    have HQ2 := Lib.hid (HQ1.out.below B2)
    have HE2 := Lib.hid (HE1.out.below B2)
    have HP2 := Lib.hid (HP1.out.trans (B2.mono (by have := HP1.out.size; omega)))
    clear B2 HX1 HY1 HI1 HQ1 HE1 HP1 x0 x1 x2 x3 y0 y1 y2 y3
    obtain ⟨x0, x1, x2, x3⟩ := cell_of4 HX2.out
    obtain ⟨y0, y1, y2, y3⟩ := cell_of4 HY2.out
    clear HC
    go_wp2_with fail
    go_ret
    exact ⟨by rw [HN9.out]; rfl, hB ▸ HP2.out⟩
  | true =>
    have HC := Lib.hid (cvalid_any m A w1 _ HI1.out HE1.out true hv)
    go_wp2_with fail
    refine HC.out.mono ?_
    rintro e w2 ⟨rfl, B2⟩
    have HX2 := Lib.hid (Below.keep B2 HX1.out (lt_of_block HX1.out))
    have HY2 := Lib.hid (Below.keep B2 HY1.out (lt_of_block HY1.out))
    have HI2 := Lib.hid (HI1.out.below B2)
    have HQ2 := Lib.hid (HQ1.out.below B2)
    have HE2 := Lib.hid (HE1.out.below B2)
    have HP2 := Lib.hid (HP1.out.trans (B2.mono (by have := HP1.out.size; omega)))
    clear B2 HX1 HY1 HI1 HQ1 HE1 HP1 x0 x1 x2 x3 y0 y1 y2 y3
    obtain ⟨x0, x1, x2, x3⟩ := cell_of4 HX2.out
    obtain ⟨y0, y1, y2, y3⟩ := cell_of4 HY2.out
    clear HC
    cases hvq : It.valid q with
    | false =>
      have HN9 : Hid (r = 0) := Lib.hid (HRR.out.symm.trans (if_neg (fun h => by rw [hvq] at h; cases h.2)))
      have HC := Lib.hid (cvalid_any q K w2 _ HQ2.out HE2.out false hvq)
      go_wp2_with fail
      refine HC.out.mono ?_
      rintro e w3 ⟨rfl, B3⟩
      have HX3 := Lib.hid (Below.keep B3 HX2.out (lt_of_block HX2.out))
      have HY3 := Lib.hid (Below.keep B3 HY2.out (lt_of_block HY2.out))
      have HI3 := Lib.hid (HI2.out.below B3)
      have HQ3 := Lib.hid (HQ2.out.below B3)
      have HE3 := Lib.hid (HE2.out.below B3)
      have HP3 := Lib.hid (HP2.out.trans (B3.mono (by have := HP2.out.size; omega)))
      clear B3 HX2 HY2 HI2 HQ2 HE2 HP2 x0 x1 x2 x3 y0 y1 y2 y3
      obtain ⟨x0, x1, x2, x3⟩ := cell_of4 HX3.out
      obtain ⟨y0, y1, y2, y3⟩ := cell_of4 HY3.out
      clear HC
      go_wp2_with fail
      go_ret
      exact ⟨by rw [HN9.out]; rfl, hB ▸ HP3.out⟩
    | true =>
      have HR : Hid (It.cmpB (It.enc m) (It.enc q) = r) := Lib.hid ((if_pos ⟨hv, hvq⟩).symm.trans HRR.out)
      have HV := Lib.hid (And.intro hv hvq)
      have HC := Lib.hid (cvalid_any q K w2 _ HQ2.out HE2.out true hvq)
      go_wp2_with fail
      refine HC.out.mono ?_
      rintro e w3 ⟨rfl, B3⟩
      have HX3 := Lib.hid (Below.keep B3 HX2.out (lt_of_block HX2.out))
      have HY3 := Lib.hid (Below.keep B3 HY2.out (lt_of_block HY2.out))
      have HI3 := Lib.hid (HI2.out.below B3)
      have HQ3 := Lib.hid (HQ2.out.below B3)
      have HE3 := Lib.hid (HE2.out.below B3)
      have HP3 := Lib.hid (HP2.out.trans (B3.mono (by have := HP2.out.size; omega)))
      clear B3 HX2 HY2 HI2 HQ2 HE2 HP2 x0 x1 x2 x3 y0 y1 y2 y3
      obtain ⟨x0, x1, x2, x3⟩ := cell_of4 HX3.out
      obtain ⟨y0, y1, y2, y3⟩ := cell_of4 HY3.out
      clear HC hv hvq HRR
      go_upto_region 3 with fail
      clear x0 x1 x2 x3 y0 y1 y2 y3
      refine wp_region_held_drew (S := (fun w' => (w'.cell? ⟨B, 0, none⟩ = some (.int .i64 m.kind) ∧ w'.cell? ⟨B, 1, none⟩ = some (.int .u64 (m.num : Int)) ∧ w'.cell? ⟨B, 2, none⟩ = some (.slice A.ab A.nb A.cb) ∧ w'.cell? ⟨B, 3, none⟩ = some (.slice A.ai A.ni A.ci)) ∧ (w'.cell? ⟨B + 1, 0, none⟩ = some (.int .i64 q.kind) ∧ w'.cell? ⟨B + 1, 1, none⟩ = some (.int .u64 (q.num : Int)) ∧ w'.cell? ⟨B + 1, 2, none⟩ = some (.slice K.ab K.nb K.cb) ∧ w'.cell? ⟨B + 1, 3, none⟩ = some (.slice K.ai K.ni K.ci)))) (by kernel_rfl) ⟨cell_of4 (Below.keep (Below.refl w3.heap.size w3).drew HX3.out (lt_of_block HX3.out)), cell_of4 (Below.keep (Below.refl w3.heap.size w3).drew HY3.out (lt_of_block HY3.out))⟩ (fun hHeld => ?_)
      refine wpAnyH_take (i := 0) (v := ?_) rfl (by kernel_rfl) (by kernel_rfl) (by kernel_rfl) (fun _ _ _ h => h) (Or.inl ⟨by rfl, ?_⟩) hHeld ?_
      rotate_left
      · (intro W hSw; (try dsimp only at hSw); go_simp; try with_reducible rfl)
      try simp only [Act.put, List.setIfInBounds_toArray, List.set_cons_zero, List.set_cons_succ, List.getElem_toArray, List.getElem_cons_succ, List.getElem_cons_zero]
      refine wpAnyH_take (i := 2) (v := ?_) rfl (by kernel_rfl) (by kernel_rfl) (by kernel_rfl) (fun _ _ _ h => h) (Or.inl ⟨by rfl, ?_⟩) hHeld ?_
      rotate_left
      · (intro W hSw; (try dsimp only at hSw); go_simp; try with_reducible rfl)
      try simp only [Act.put, List.setIfInBounds_toArray, List.set_cons_zero, List.set_cons_succ, List.getElem_toArray, List.getElem_cons_succ, List.getElem_cons_zero]
      refine wpAnyH_ready (rs := [1]) (by kernel_rfl) (by simp) ?_
      refine AllReadyH.cons rfl (fun K1 hK1 => ?_) AllReadyH.nil
      go_simp
      refine (add_new (valid_wf HV.out.1).1 (HI3.out.below (below_drewN (Below.refl _ _) 1)) (by have := (valid_wf HV.out.1).2.1; omega) _ (Below.refl _ _)).mono ?_
      rintro e v8 h8
      obtain ⟨a8, c8, rfl, _, R8, _, _, B8⟩ := h8.open
      have HB8 := Lib.hid (pure_trans (below_drewN (Below.refl w3.heap.size w3) 1) B8)
      have HR8 := Lib.hid (R8.imp (ok' := fun _ => True) fun _ _ _ => trivial)
      clear R8 B8 h8
      refine hK1.out _ _ ⟨cell_of4 (Below.keep HB8.out HX3.out (lt_of_block HX3.out)), cell_of4 (Below.keep HB8.out HY3.out (lt_of_block HY3.out))⟩ (fun hHeld => ?_)
      clear hK1
      try simp only [Act.put, List.setIfInBounds_toArray, List.set_cons_zero, List.set_cons_succ, List.getElem_toArray, List.getElem_cons_succ, List.getElem_cons_zero]
      refine wpAnyH_ready (rs := [3]) (by kernel_rfl) (by simp) ?_
      refine AllReadyH.cons rfl (fun K1 hK1 => ?_) AllReadyH.nil
      go_simp
      refine (add_new (valid_wf HV.out.2).1 (HQ3.out.below HB8.out) (by have := (valid_wf HV.out.2).2.1; omega) _ (Below.refl _ _)).mono ?_
      rintro e v9 h9
      obtain ⟨a9, c9, rfl, _, R9, _, _, B9⟩ := h9.open
      have HB9 := Lib.hid (pure_trans HB8.out B9)
      have HR9 := Lib.hid (R9.imp (ok' := fun _ => True) fun _ _ _ => trivial)
      have HR8' := Lib.hid (HR8.out.below B9)
      clear R9 B9 h9
      refine hK1.out _ _ ⟨cell_of4 (Below.keep HB9.out HX3.out (lt_of_block HX3.out)), cell_of4 (Below.keep HB9.out HY3.out (lt_of_block HY3.out))⟩ (fun hHeld => ?_)
      clear hK1
      try simp only [Act.put, List.setIfInBounds_toArray, List.set_cons_zero, List.set_cons_succ, List.getElem_toArray, List.getElem_cons_succ, List.getElem_cons_zero]
      refine wpAnyH_ready (rs := [4]) (by kernel_rfl) (by simp) ?_
      refine AllReadyH.cons rfl (fun K1 hK1 => ?_) AllReadyH.nil
      go_simp
      refine (compare_any HR8'.out HR9.out _ HR.out).mono ?_
      rintro e v10 ⟨rfl, rfl⟩
      have HB10 := Lib.hid HB9.out
      refine hK1.out _ _ ⟨cell_of4 (Below.keep HB10.out HX3.out (lt_of_block HX3.out)), cell_of4 (Below.keep HB10.out HY3.out (lt_of_block HY3.out))⟩ (fun hHeld => ?_)
      clear hK1
      try simp only [Act.put, List.setIfInBounds_toArray, List.set_cons_zero, List.set_cons_succ, List.getElem_toArray, List.getElem_cons_succ, List.getElem_cons_zero]
      refine wpAnyH_take (i := 5) (v := ?_) rfl (by kernel_rfl) (by kernel_rfl) (by kernel_rfl) (fun _ _ _ h => h) (Or.inl ⟨by rfl, ?_⟩) hHeld ?_
      rotate_left
      · (intro W hSw; (try dsimp only at hSw); go_simp; try with_reducible rfl)
      try simp only [Act.put, List.setIfInBounds_toArray, List.set_cons_zero, List.set_cons_succ, List.getElem_toArray, List.getElem_cons_succ, List.getElem_cons_zero]
      refine wpAnyH_done (by kernel_rfl) ?_ _
      try simp only [Act.put, List.setIfInBounds_toArray, List.set_cons_zero, List.set_cons_succ, List.getElem_toArray, List.getElem_cons_succ, List.getElem_cons_zero]
      have HPX := Lib.hid (HP3.out.trans (HB10.out.mono (by have := HP3.out.size; omega)))
      clear hHeld
      go_wp2_with fail
      go_ret
      exact ⟨rfl, hB ▸ HPX.out⟩
set_option maxHeartbeats 8000000 in
theorem rcmp_any (m q : It) (A K : Ad) (w : World) (ok ok' : Nat → Prop) (hI : IR ok w m A) (hQ : IR ok' w q K) (hE : Env w) :
    Calls Tryz.prog 66 #[.agg #[.int .i64 m.kind, .int .u64 (m.num : Int), .slice A.ab A.nb A.cb, .slice A.ai A.ni A.ci], .agg #[.int .i64 q.kind, .int .u64 (q.num : Int), .slice K.ab K.nb K.cb, .slice K.ai K.ni K.ci]] w fun e w' => e = .returned (.int .i64 (It.cmpI m q)) ∧ Below w.heap.size w w' := by
  have P0 := pure_alloc w (.cells #[.int .i64 m.kind, .int .u64 (m.num : Int), .slice A.ab A.nb A.cb, .slice A.ai A.ni A.ci] 26)
  have N0 := alloc_new w (.cells #[.int .i64 m.kind, .int .u64 (m.num : Int), .slice A.ab A.nb A.cb, .slice A.ai A.ni A.ci] 26)
  have P1 := pure_alloc (w.alloc (.cells #[.int .i64 m.kind, .int .u64 (m.num : Int), .slice A.ab A.nb A.cb, .slice A.ai A.ni A.ci] 26)) (.cells #[.int .i64 q.kind, .int .u64 (q.num : Int), .slice K.ab K.nb K.cb, .slice K.ai K.ni K.ci] 26)
  have N1 := alloc_new (w.alloc (.cells #[.int .i64 m.kind, .int .u64 (m.num : Int), .slice A.ab A.nb A.cb, .slice A.ai A.ni A.ci] 26)) (.cells #[.int .i64 q.kind, .int .u64 (q.num : Int), .slice K.ab K.nb K.cb, .slice K.ai K.ni K.ci] 26)
  have hsz0 : (w.alloc (.cells #[.int .i64 m.kind, .int .u64 (m.num : Int), .slice A.ab A.nb A.cb, .slice A.ai A.ni A.ci] 26)).heap.size = w.heap.size + 1 := by simp
  rw [hsz0] at N1
  have HX1 := Lib.hid (Below.keep P1 N0 (lt_of_block N0))
  have HY1 := Lib.hid N1
  have HP1 := Lib.hid (pure_trans P0 P1)
  have HI1 := Lib.hid ((hI.below P0).below P1)
  have HQ1 := Lib.hid ((hQ.below P0).below P1)
  have HE1 := Lib.hid ((hE.below P0).below P1)
  obtain ⟨x0, x1, x2, x3⟩ := cell_of4 HX1.out
  obtain ⟨y0, y1, y2, y3⟩ := cell_of4 HY1.out
  obtain ⟨r, hr⟩ : ∃ r, It.cmpI m q = r := ⟨_, rfl⟩
  rw [hr]
  have HRR := Lib.hid hr
  clear hI hQ hE N0 N1 P0 P1 hsz0 hr
  go_enter Tryz.func66, Tryz.ntmps66
  go_upto_region 1 with fail
  generalize (w.alloc (.cells #[.int .i64 m.kind, .int .u64 (m.num : Int), .slice A.ab A.nb A.cb, .slice A.ai A.ni A.ci] 26)).alloc (.cells #[.int .i64 q.kind, .int .u64 (q.num : Int), .slice K.ab K.nb K.cb, .slice K.ai K.ni K.ci] 26) = w1 at *
  generalize hB : w.heap.size = B at *
  cases hv : It.valid m with
  | false =>
    have HN9 : Hid (r = 0) := Lib.hid (HRR.out.symm.trans (if_neg (fun h => by rw [hv] at h; cases h.1)))
    have HC := Lib.hid (rvalid_any m A w1 _ HI1.out HE1.out false hv)
    go_wp2_with fail
    refine HC.out.mono ?_
    rintro e w2 ⟨rfl, B2⟩
    have HX2 := Lib.hid (Below.keep B2 HX1.out (lt_of_block HX1.out))
    have HY2 := Lib.hid (Below.keep B2 HY1.out (lt_of_block HY1.out))
    have HI2 := Lib.hid (HI1.out.below B2)
    have HQ2 := Lib.hid (HQ1.out.below B2)
    have HE2 := Lib.hid (HE1.out.below B2)
    have HP2 := Lib.hid (HP1.out.trans (B2.mono (by have := HP1.out.size; omega)))
    clear B2 HX1 HY1 HI1 HQ1 HE1 HP1 x0 x1 x2 x3 y0 y1 y2 y3
    obtain ⟨x0, x1, x2, x3⟩ := cell_of4 HX2.out
    obtain ⟨y0, y1, y2, y3⟩ := cell_of4 HY2.out
    clear HC
    go_wp2_with fail
    go_ret
    exact ⟨by rw [HN9.out]; rfl, hB ▸ HP2.out⟩
  | true =>
    have HC := Lib.hid (rvalid_any m A w1 _ HI1.out HE1.out true hv)
    go_wp2_with fail
    refine HC.out.mono ?_
    rintro e w2 ⟨rfl, B2⟩
    have HX2 := Lib.hid (Below.keep B2 HX1.out (lt_of_block HX1.out))
    have HY2 := Lib.hid (Below.keep B2 HY1.out (lt_of_block HY1.out))
    have HI2 := Lib.hid (HI1.out.below B2)
    have HQ2 := Lib.hid (HQ1.out.below B2)
    have HE2 := Lib.hid (HE1.out.below B2)
    have HP2 := Lib.hid (HP1.out.trans (B2.mono (by have := HP1.out.size; omega)))
    clear B2 HX1 HY1 HI1 HQ1 HE1 HP1 x0 x1 x2 x3 y0 y1 y2 y3
    obtain ⟨x0, x1, x2, x3⟩ := cell_of4 HX2.out
    obtain ⟨y0, y1, y2, y3⟩ := cell_of4 HY2.out
    clear HC
    cases hvq : It.valid q with
    | false =>
      have HN9 : Hid (r = 0) := Lib.hid (HRR.out.symm.trans (if_neg (fun h => by rw [hvq] at h; cases h.2)))
      have HC := Lib.hid (rvalid_any q K w2 _ HQ2.out HE2.out false hvq)
      go_wp2_with fail
      refine HC.out.mono ?_
      rintro e w3 ⟨rfl, B3⟩
      have HX3 := Lib.hid (Below.keep B3 HX2.out (lt_of_block HX2.out))
      have HY3 := Lib.hid (Below.keep B3 HY2.out (lt_of_block HY2.out))
      have HI3 := Lib.hid (HI2.out.below B3)
      have HQ3 := Lib.hid (HQ2.out.below B3)
      have HE3 := Lib.hid (HE2.out.below B3)
      have HP3 := Lib.hid (HP2.out.trans (B3.mono (by have := HP2.out.size; omega)))
      clear B3 HX2 HY2 HI2 HQ2 HE2 HP2 x0 x1 x2 x3 y0 y1 y2 y3
      obtain ⟨x0, x1, x2, x3⟩ := cell_of4 HX3.out
      obtain ⟨y0, y1, y2, y3⟩ := cell_of4 HY3.out
      clear HC
      go_wp2_with fail
      go_ret
      exact ⟨by rw [HN9.out]; rfl, hB ▸ HP3.out⟩
    | true =>
      have HR : Hid (It.cmpB (It.enc m) (It.enc q) = r) := Lib.hid ((if_pos ⟨hv, hvq⟩).symm.trans HRR.out)
      have HV := Lib.hid (And.intro hv hvq)
      have HC := Lib.hid (rvalid_any q K w2 _ HQ2.out HE2.out true hvq)
      go_wp2_with fail
      refine HC.out.mono ?_
      rintro e w3 ⟨rfl, B3⟩
      have HX3 := Lib.hid (Below.keep B3 HX2.out (lt_of_block HX2.out))
      have HY3 := Lib.hid (Below.keep B3 HY2.out (lt_of_block HY2.out))
      have HI3 := Lib.hid (HI2.out.below B3)
      have HQ3 := Lib.hid (HQ2.out.below B3)
      have HE3 := Lib.hid (HE2.out.below B3)
      have HP3 := Lib.hid (HP2.out.trans (B3.mono (by have := HP2.out.size; omega)))
      clear B3 HX2 HY2 HI2 HQ2 HE2 HP2 x0 x1 x2 x3 y0 y1 y2 y3
      obtain ⟨x0, x1, x2, x3⟩ := cell_of4 HX3.out
      obtain ⟨y0, y1, y2, y3⟩ := cell_of4 HY3.out
      clear HC hv hvq HRR
      go_upto_region 3 with fail
      clear x0 x1 x2 x3 y0 y1 y2 y3
      refine wp_region_held_drew (S := (fun w' => (w'.cell? ⟨B, 0, none⟩ = some (.int .i64 m.kind) ∧ w'.cell? ⟨B, 1, none⟩ = some (.int .u64 (m.num : Int)) ∧ w'.cell? ⟨B, 2, none⟩ = some (.slice A.ab A.nb A.cb) ∧ w'.cell? ⟨B, 3, none⟩ = some (.slice A.ai A.ni A.ci)) ∧ (w'.cell? ⟨B + 1, 0, none⟩ = some (.int .i64 q.kind) ∧ w'.cell? ⟨B + 1, 1, none⟩ = some (.int .u64 (q.num : Int)) ∧ w'.cell? ⟨B + 1, 2, none⟩ = some (.slice K.ab K.nb K.cb) ∧ w'.cell? ⟨B + 1, 3, none⟩ = some (.slice K.ai K.ni K.ci)))) (by kernel_rfl) ⟨cell_of4 (Below.keep (Below.refl w3.heap.size w3).drew HX3.out (lt_of_block HX3.out)), cell_of4 (Below.keep (Below.refl w3.heap.size w3).drew HY3.out (lt_of_block HY3.out))⟩ (fun hHeld => ?_)
      refine wpAnyH_take (i := 0) (v := ?_) rfl (by kernel_rfl) (by kernel_rfl) (by kernel_rfl) (fun _ _ _ h => h) (Or.inl ⟨by rfl, ?_⟩) hHeld ?_
      rotate_left
      · (intro W hSw; (try dsimp only at hSw); go_simp; try with_reducible rfl)
      try simp only [Act.put, List.setIfInBounds_toArray, List.set_cons_zero, List.set_cons_succ, List.getElem_toArray, List.getElem_cons_succ, List.getElem_cons_zero]
      refine wpAnyH_take (i := 2) (v := ?_) rfl (by kernel_rfl) (by kernel_rfl) (by kernel_rfl) (fun _ _ _ h => h) (Or.inl ⟨by rfl, ?_⟩) hHeld ?_
      rotate_left
      · (intro W hSw; (try dsimp only at hSw); go_simp; try with_reducible rfl)
      try simp only [Act.put, List.setIfInBounds_toArray, List.set_cons_zero, List.set_cons_succ, List.getElem_toArray, List.getElem_cons_succ, List.getElem_cons_zero]
      refine wpAnyH_ready (rs := [1]) (by kernel_rfl) (by simp) ?_
      refine AllReadyH.cons rfl (fun K1 hK1 => ?_) AllReadyH.nil
      go_simp
      refine (raw_any 8 m A _ _ (valid_wf HV.out.1).1 (HI3.out.below (below_drewN (Below.refl _ _) 1)) (by have := (valid_wf HV.out.1).2.1; omega)).mono ?_
      rintro e v8 h8
      obtain ⟨a8, c8, rfl, _, R8, _, _, B8⟩ := h8.open
      have HB8 := Lib.hid (pure_trans (below_drewN (Below.refl w3.heap.size w3) 1) B8)
      have HR8 := Lib.hid (R8.imp (ok' := fun _ => True) fun _ _ _ => trivial)
      clear R8 B8 h8
      refine hK1.out _ _ ⟨cell_of4 (Below.keep HB8.out HX3.out (lt_of_block HX3.out)), cell_of4 (Below.keep HB8.out HY3.out (lt_of_block HY3.out))⟩ (fun hHeld => ?_)
      clear hK1
      try simp only [Act.put, List.setIfInBounds_toArray, List.set_cons_zero, List.set_cons_succ, List.getElem_toArray, List.getElem_cons_succ, List.getElem_cons_zero]
      refine wpAnyH_ready (rs := [3]) (by kernel_rfl) (by simp) ?_
      refine AllReadyH.cons rfl (fun K1 hK1 => ?_) AllReadyH.nil
      go_simp
      refine (raw_any 8 q K _ _ (valid_wf HV.out.2).1 (HQ3.out.below HB8.out) (by have := (valid_wf HV.out.2).2.1; omega)).mono ?_
      rintro e v9 h9
      obtain ⟨a9, c9, rfl, _, R9, _, _, B9⟩ := h9.open
      have HB9 := Lib.hid (pure_trans HB8.out B9)
      have HR9 := Lib.hid (R9.imp (ok' := fun _ => True) fun _ _ _ => trivial)
      have HR8' := Lib.hid (HR8.out.below B9)
      clear R9 B9 h9
      refine hK1.out _ _ ⟨cell_of4 (Below.keep HB9.out HX3.out (lt_of_block HX3.out)), cell_of4 (Below.keep HB9.out HY3.out (lt_of_block HY3.out))⟩ (fun hHeld => ?_)
      clear hK1
      try simp only [Act.put, List.setIfInBounds_toArray, List.set_cons_zero, List.set_cons_succ, List.getElem_toArray, List.getElem_cons_succ, List.getElem_cons_zero]
      refine wpAnyH_ready (rs := [4]) (by kernel_rfl) (by simp) ?_
      refine AllReadyH.cons rfl (fun K1 hK1 => ?_) AllReadyH.nil
      go_simp
      refine (rcompare_any HR8'.out HR9.out _ HR.out).mono ?_
      rintro e v10 ⟨rfl, q10, rfl⟩
      have HB10 := Lib.hid (below_drewN HB9.out q10)
      refine hK1.out _ _ ⟨cell_of4 (Below.keep HB10.out HX3.out (lt_of_block HX3.out)), cell_of4 (Below.keep HB10.out HY3.out (lt_of_block HY3.out))⟩ (fun hHeld => ?_)
      clear hK1
      try simp only [Act.put, List.setIfInBounds_toArray, List.set_cons_zero, List.set_cons_succ, List.getElem_toArray, List.getElem_cons_succ, List.getElem_cons_zero]
      refine wpAnyH_take (i := 5) (v := ?_) rfl (by kernel_rfl) (by kernel_rfl) (by kernel_rfl) (fun _ _ _ h => h) (Or.inl ⟨by rfl, ?_⟩) hHeld ?_
      rotate_left
      · (intro W hSw; (try dsimp only at hSw); go_simp; try with_reducible rfl)
      try simp only [Act.put, List.setIfInBounds_toArray, List.set_cons_zero, List.set_cons_succ, List.getElem_toArray, List.getElem_cons_succ, List.getElem_cons_zero]
      refine wpAnyH_done (by kernel_rfl) ?_ _
      try simp only [Act.put, List.setIfInBounds_toArray, List.set_cons_zero, List.set_cons_succ, List.getElem_toArray, List.getElem_cons_succ, List.getElem_cons_zero]
      have HPX := Lib.hid (HP3.out.trans (HB10.out.mono (by have := HP3.out.size; omega)))
      clear hHeld
      go_wp2_with fail
      go_ret
      exact ⟨rfl, hB ▸ HPX.out⟩
end Go.Proofs.YtelefkkkccilaaaGreatDoor
