/- The program's Array. -/
import Derived.Test.YtelefkkkccilaaaGreatDoorZc
import Derived.Test.YtelefkkkccilaaaGreatDoorLA
set_option linter.unusedVariables false
set_option linter.unusedSimpArgs false
namespace Go.Proofs.YtelefkkkccilaaaGreatDoor
open Go.RowKit
set_option maxRecDepth 100000
def AL (B : Nat) (w : World) (l : List It) (i : Value) (W : World) : Prop := ∃ (j : Nat) (v : Value) (es : List (It × Ad)), i = .int .i64 (j : Int) ∧ j ≤ l.length ∧ es.map (·.1) = l.take j ∧ OutI W (B + 2) (fun b => B + 2 ≤ b) v es ∧ W.heap[B + 1]? = some (.cells #[.int .i64 4, .int .u64 0, .slice none 0 0, v] 26 (0, 0)) ∧ W.heap[B]? = some (.cells #[.int .i64 0, .int .u64 0, .slice none 0 0, .slice none 0 0] 26 (0, 0)) ∧ Below B w W
set_option maxHeartbeats 16000000 in
theorem carray_any (l : List It) (a : Option Addr) (n c : Nat) (w : World) (ok : Nat → Prop) (hT : TL ok w l a n) (hn : It.nodesL l ≤ 90000) (hs : It.sts l = true) :
    Calls Tryz.prog 73 #[.slice a n c] w (IP (.mk 4 0 [] l) w) := by
  have P0 := pure_alloc w (.cells #[.int .i64 0, .int .u64 0, .slice none 0 0, .slice none 0 0] 26)
  have N0 := alloc_new w (.cells #[.int .i64 0, .int .u64 0, .slice none 0 0, .slice none 0 0] 26)
  have P1 := pure_alloc (w.alloc (.cells #[.int .i64 0, .int .u64 0, .slice none 0 0, .slice none 0 0] 26)) (.cells #[.int .i64 4, .int .u64 0, .slice none 0 0, .slice none 0 0] 26)
  have N1 := alloc_new (w.alloc (.cells #[.int .i64 0, .int .u64 0, .slice none 0 0, .slice none 0 0] 26)) (.cells #[.int .i64 4, .int .u64 0, .slice none 0 0, .slice none 0 0] 26)
  have hsz0 : (w.alloc (.cells #[.int .i64 0, .int .u64 0, .slice none 0 0, .slice none 0 0] 26)).heap.size = w.heap.size + 1 := by simp
  rw [hsz0] at N1
  have HR1 := Lib.hid (Below.keep P1 N0 (lt_of_block N0))
  have HX1 := Lib.hid N1
  have HP1 := Lib.hid (pure_trans P0 P1)
  have HTL0 := Lib.hid hT
  have HNI : Hid (n = l.length) := Lib.hid hT.1
  have hll := It.length_le_nodesL l
  have hni : n ≤ 100000 := by have := hT.1; omega
  have HNL := Lib.hid (And.intro hn hs)
  have HS1 : Hid (((w.alloc (.cells #[.int .i64 0, .int .u64 0, .slice none 0 0, .slice none 0 0] 26)).alloc (.cells #[.int .i64 4, .int .u64 0, .slice none 0 0, .slice none 0 0] 26)).heap.size = w.heap.size + 2) := Lib.hid (by simp)
  clear P0 N0 P1 N1 hsz0 hT hn hs hll
  go_enter Tryz.func73, Tryz.ntmps73
  go_upto_region 2 with fail
  generalize (w.alloc (.cells #[.int .i64 0, .int .u64 0, .slice none 0 0, .slice none 0 0] 26)).alloc (.cells #[.int .i64 4, .int .u64 0, .slice none 0 0, .slice none 0 0] 26) = w1 at *
  generalize hB : w.heap.size = B at *
  go_wp2_with fail
  go_loopw [9] (fun i W => AL B w l i W) (fun i _ => n - (intOf i).toNat)
  case atStart => exact ⟨0, _, [], rfl, by omega, by simp, OutI.nil _ _ _, HX1.out, HR1.out, HP1.out⟩
  case round =>
    obtain ⟨u, hu⟩ : ∃ u, u = wr := ⟨_, rfl⟩
    subst hu
    obtain ⟨j, v, es, rfl, hj, hes, hO, hX, hR, hbl⟩ := hrel
    have hBl0 := hbl
    have hsu := lt_of_block hX
    have hTu : TL (fun _ => True) u l a n := HTL0.out.keep fun b _ hb => ⟨hbl.block b (by rw [← hB]; exact hb), trivial⟩
    by_cases hjn : j < n
    · have hjk : j < l.length := by have := HNI.out; omega
      obtain ⟨b', o', Y, ea, _, ⟨c0, c1, c2, c3⟩, hI'⟩ := hTu.2.2 j hjk
      subst ea
      have hyn := It.nodes_mem (List.getElem_mem hjk)
      have hys := sts_get HNL.out.2 hjk
      have HMAP : Hid (∀ A8 : Ad, (es ++ [(l[j], A8)]).map (·.1) = l.take (j + 1)) := Lib.hid fun A8 => by rw [List.map_append, hes, List.take_succ_eq_append_getElem hjk]; rfl
      have hnl := HNL.out.1
      have hjz : (j : Int) < (n : Int) := by omega
      have HES : Hid (es.length ≤ 100000) := Lib.hid (by have := congrArg List.length hes; simp at this; omega)
      generalize l[j] = y at *
      obtain ⟨va, vc, ev⟩ := own_form hO.row
      generalize hnv : es.length = nv at ev
      subst ev
      have PT := pure_alloc u (.cells #[.int .i64 y.kind, .int .u64 (y.num : Int), .slice Y.ab Y.nb Y.cb, .slice Y.ai Y.ni Y.ci] 26)
      have HT0 := Lib.hid (alloc_new u (.cells #[.int .i64 y.kind, .int .u64 (y.num : Int), .slice Y.ab Y.nb Y.cb, .slice Y.ai Y.ni Y.ci] 26))
      have HCC0 := Lib.hid (fun W (hW : Below (u.alloc (.cells #[.int .i64 y.kind, .int .u64 (y.num : Int), .slice Y.ab Y.nb Y.cb, .slice Y.ai Y.ni Y.ci] 26)).heap.size (u.alloc (.cells #[.int .i64 y.kind, .int .u64 (y.num : Int), .slice Y.ab Y.nb Y.cb, .slice Y.ai Y.ni Y.ci] 26)) W) => cpd_any 100000 y Y W _ (by omega) (by omega) hys ((hI'.below PT).below hW))
      have HO0 := Lib.hid (hO.pure PT)
      have HX0 := Lib.hid (Below.keep PT hX (lt_of_block hX))
      have HR0 := Lib.hid (Below.keep PT hR (lt_of_block hR))
      have HBl0 := Lib.hid (hbl.trans (PT.mono (by have := hbl.size; omega)))
      have hTo0 : (Value.slice va nv vc).ownBlock ≠ some u.heap.size := fun e => by have := (own_lt hO.row e).1; omega
      have hsT : (u.alloc (.cells #[.int .i64 y.kind, .int .u64 (y.num : Int), .slice Y.ab Y.nb Y.cb, .slice Y.ai Y.ni Y.ci] 26)).heap.size = u.heap.size + 1 := by simp
      clear hO hX hR hbl hBl0 hI' hTu PT hes hyn hys hnv
      go_upto_region 5 with fail
      clear c0 c1 c2 c3
      generalize hTT : u.heap.size = T at *
      generalize u.alloc (.cells #[.int .i64 y.kind, .int .u64 (y.num : Int), .slice Y.ab Y.nb Y.cb, .slice Y.ai Y.ni Y.ci] 26) = u at *
      have HO := HO0
      have HX := HX0
      have HR := HR0
      have hBl := HBl0
      have HT := HT0
      have HCC := HCC0
      have hTo := hTo0
      have hXl : B + 1 < u.heap.size := by omega
      have hTl : T < u.heap.size := by omega
      have HS : Hid (∀ W, Below u.heap.size u W → (W.cell? ⟨T, 0, none⟩ = some (.int .i64 y.kind) ∧ W.cell? ⟨T, 1, none⟩ = some (.int .u64 (y.num : Int)) ∧ W.cell? ⟨T, 2, none⟩ = some (.slice Y.ab Y.nb Y.cb) ∧ W.cell? ⟨T, 3, none⟩ = some (.slice Y.ai Y.ni Y.ci))) := Lib.hid fun W hW => cell_of4 (Below.keep hW HT.out (lt_of_block HT.out))
      obtain ⟨m0, m1, m2, m3⟩ := cell_of4 HX.out
      clear HO0 HX0 HR0 HBl0 HT0 HCC0 hTo0 m0 m1 m2 hTT
      refine wp_region_held_drew (S := (fun w' => (w'.cell? ⟨T, 0, none⟩ = some (.int .i64 y.kind) ∧ w'.cell? ⟨T, 1, none⟩ = some (.int .u64 (y.num : Int)) ∧ w'.cell? ⟨T, 2, none⟩ = some (.slice Y.ab Y.nb Y.cb) ∧ w'.cell? ⟨T, 3, none⟩ = some (.slice Y.ai Y.ni Y.ci)))) (by kernel_rfl) (HS.out _ (Below.refl _ _).drew) (fun hHeld => ?_)
      refine wpAnyH_take (i := 0) (v := ?_) rfl (by kernel_rfl) (by kernel_rfl) (by kernel_rfl) (fun _ _ _ h => h) (Or.inl ⟨by rfl, ?_⟩) hHeld ?_
      rotate_left
      · (intro W hSw; (try dsimp only at hSw); go_simp; try with_reducible rfl)
      try simp only [Act.put, List.setIfInBounds_toArray, List.set_cons_zero, List.set_cons_succ, List.getElem_toArray, List.getElem_cons_succ, List.getElem_cons_zero]
      refine wpAnyH_take (i := 2) (v := ?_) rfl (by kernel_rfl) (by kernel_rfl) (by kernel_rfl) (fun _ _ _ h => h) (Or.inl ⟨by rfl, ?_⟩) hHeld ?_
      rotate_left
      · (intro W hSw; (try dsimp only at hSw); go_simp; try with_reducible rfl)
      try simp only [Act.put, List.setIfInBounds_toArray, List.set_cons_zero, List.set_cons_succ, List.getElem_toArray, List.getElem_cons_succ, List.getElem_cons_zero]
      refine wpAnyH_ready (rs := [1, 3]) (by kernel_rfl) (by simp) ?_
      refine AllReadyH.cons rfl (fun K1 hK1 => ?_) (AllReadyH.cons rfl (fun K1 hK1 => ?_) AllReadyH.nil)
      · go_simp
        refine hK1.out _ _ hHeld (fun hHeld => ?_)
        clear hK1
        try simp only [Act.put, List.setIfInBounds_toArray, List.set_cons_zero, List.set_cons_succ, List.getElem_toArray, List.getElem_cons_succ, List.getElem_cons_zero]
        refine wpAnyH_ready (rs := [3]) (by kernel_rfl) (by simp) ?_
        refine AllReadyH.cons rfl (fun K1 hK1 => ?_) AllReadyH.nil
        go_simp
        refine (HCC.out _ (below_drewN (Below.refl _ _) 1)).mono ?_
        rintro e v8 ⟨A8, rfl, hI8, hB8⟩
        have HB8 := Lib.hid (pure_trans (below_drewN (Below.refl u.heap.size u) 1) hB8)
        have HI8 := Lib.hid (hI8.imp (ok' := fun b => u.heap.size ≤ b) fun b hb _ => hb)
        have m3' := (HB8.out.cell (p := ⟨B + 1, 3, none⟩) hXl).trans m3
        clear hI8 hB8
        refine hK1.out _ _ (HS.out _ HB8.out) (fun hHeld => ?_)
        clear hK1
        try simp only [Act.put, List.setIfInBounds_toArray, List.set_cons_zero, List.set_cons_succ, List.getElem_toArray, List.getElem_cons_succ, List.getElem_cons_zero]
        refine wpAnyH_ready (rs := [4]) (by kernel_rfl) (by simp) ?_
        refine AllReadyH.cons rfl (fun K1 hK1 => ?_) AllReadyH.nil
        go_simp
        have P9 := pure_alloc v8 (.cells #[.int .i64 y.kind, .int .u64 (y.num : Int), .slice A8.ab A8.nb A8.cb, .slice A8.ai A8.ni A8.ci] 26)
        have N9 := alloc_new v8 (.cells #[.int .i64 y.kind, .int .u64 (y.num : Int), .slice A8.ab A8.nb A8.cb, .slice A8.ai A8.ni A8.ci] 26)
        have HOP := Lib.hid (HO.out.pure (pure_trans HB8.out P9))
        have hXP := (P9.block (B + 1) (by have := HB8.out.size; omega)).trans ((HB8.out.block (B + 1) hXl).trans HX.out)
        have hRP := (P9.block B (by have := HB8.out.size; omega)).trans ((HB8.out.block B (by omega)).trans HR.out)
        have hTP := fun k (hk : k < u.heap.size) => (P9.block k (by have := HB8.out.size; omega)).trans (HB8.out.block k hk)
        obtain ⟨v9, W9, hrun, hO, hgr, hown⟩ := HOP.out.app (news := [(y, A8)]) (m := 1) (c := 1) (SrcI.one N9) (fun e he => by
          simp only [List.mem_singleton] at he
          subst he
          exact (HI8.out.below P9).imp fun b hb _ => ⟨by omega, fun e => by have := (own_lt HO.out.row e).1; omega⟩) (by have := HES.out; omega) (by have := HB8.out.size; have := P9.size; omega)
        obtain ⟨a9, c9, e9⟩ := own_form hO.row
        generalize (es ++ [(y, A8)]).length = n9 at e9
        subst e9
        have HO9 := Lib.hid hO
        have hvo : ∀ b, b < u.heap.size → b < B + 2 → (Value.slice va nv vc).ownBlock ≠ some b := fun b _ hb e => by have := (own_lt HO.out.row e).2.1; omega
        have hvn : ∀ b, b < u.heap.size → b < B + 2 → (Value.slice a9 n9 c9).ownBlock ≠ some b := fun b _ hb e => by have := (own_lt hO.row e).2.1; omega
        have hs8 : v8.heap.size < (v8.alloc (.cells #[.int .i64 y.kind, .int .u64 (y.num : Int), .slice A8.ab A8.nb A8.cb, .slice A8.ai A8.ni A8.ci] 26)).heap.size := by simp
        have hx9 : W9.heap[B + 1]? = some (.cells #[.int .i64 4, .int .u64 0, .slice none 0 0, .slice va nv vc] 26 (0, 0)) := (hgr.block _ (by have := HB8.out.size; omega) (fun e => hvo _ hXl (by omega) e.symm)).trans hXP
        have hr9 : W9.heap[B]? = some (.cells #[.int .i64 0, .int .u64 0, .slice none 0 0, .slice none 0 0] 26 (0, 0)) := (hgr.block _ (by have := HB8.out.size; omega) (fun e => hvo _ (by omega) (by omega) e.symm)).trans hRP
        have hb9 : Below B w W9 := below_grown (hBl.out.trans ((pure_trans HB8.out P9).mono (by have := hBl.out.size; omega))) (by have := P9.size; have := HB8.out.size; omega) (HOP.out.lower (show B ≤ B + 2 by omega)).row hgr
        have HX9 := Lib.hid (show (W9.setCell ⟨B + 1, 3, none⟩ (.slice a9 n9 c9)).heap[B + 1]? = some (.cells #[.int .i64 4, .int .u64 0, .slice none 0 0, .slice a9 n9 c9] 26 (0, 0)) by have := set_arr hx9 3 (.slice a9 n9 c9); simpa using this)
        have HR9 := Lib.hid ((Below.heap_setCell W9 ⟨B + 1, 3, none⟩ (.slice a9 n9 c9) B (by show B ≠ B + 1; omega)).trans hr9)
        have HOs := Lib.hid (show OutI (W9.setCell ⟨B + 1, 3, none⟩ (.slice a9 n9 c9)) (B + 2) (fun b => B + 2 ≤ b) (.slice a9 n9 c9) (es ++ [(y, A8)]) from hO.keep (fun g hg => Below.heap_setCell _ _ _ _ (by have := (own_lt hO.row hg).2.1; show g ≠ B + 1; omega)) fun b hb _ => Below.heap_setCell _ _ _ _ (by show b ≠ B + 1; omega))
        have HBs := Lib.hid (hb9.setCell (p := ⟨B + 1, 3, none⟩) (by show B ≤ B + 1; omega) (.slice a9 n9 c9))
        have hTW : ∀ W' : World, (∀ b, b < u.heap.size → b ≠ B + 1 → W'.heap[b]? = W9.heap[b]?) → (W'.cell? ⟨T, 0, none⟩ = some (.int .i64 y.kind) ∧ W'.cell? ⟨T, 1, none⟩ = some (.int .u64 (y.num : Int)) ∧ W'.cell? ⟨T, 2, none⟩ = some (.slice Y.ab Y.nb Y.cb) ∧ W'.cell? ⟨T, 3, none⟩ = some (.slice Y.ai Y.ni Y.ci)) := fun W' hW' => cell_of4 ((hW' T hTl (by omega)).trans ((hgr.block T (by have := HB8.out.size; omega) (fun e => hTo e.symm)).trans ((hTP T hTl).trans HT.out)))
        have HTW := Lib.hid hTW
        have HRUN := Lib.hid hrun
        obtain ⟨x0, x1, x2, x3⟩ := cell_of4 hx9
        obtain ⟨p0, p1, p2, p3⟩ := frozen_of4 hx9
        have m3P : (v8.alloc (.cells #[.int .i64 y.kind, .int .u64 (y.num : Int), .slice A8.ab A8.nb A8.cb, .slice A8.ai A8.ni A8.ci] 26)).cell? ⟨B + 1, 3, none⟩ = some (.slice va nv vc) := (cell_of4 hXP).2.2.2
        have hSP := HS.out _ (pure_trans HB8.out P9)
        clear hO hgr hown N9 P9 hrun hXP hRP hTP hvo hvn hs8 hx9 hr9 hb9 hTW x0 x1 x2 p0 p1 p2
        refine hK1.out _ _ hSP (fun hHeld => ?_)
        clear hK1 hSP
        try simp only [Act.put, List.setIfInBounds_toArray, List.set_cons_zero, List.set_cons_succ, List.getElem_toArray, List.getElem_cons_succ, List.getElem_cons_zero]
        refine wpAnyH_ready (rs := [5]) (by kernel_rfl) (by simp) ?_
        refine AllReadyH.cons rfl (fun K1 hK1 => ?_) AllReadyH.nil
        rw [if_pos (by rfl)]
        refine wp_app _ _ 24 rfl rfl rfl HRUN.out ?_
        refine hK1.out _ _ (HTW.out _ fun _ _ _ => rfl) (fun hHeld => ?_)
        clear hK1
        try simp only [Act.put, List.setIfInBounds_toArray, List.set_cons_zero, List.set_cons_succ, List.getElem_toArray, List.getElem_cons_succ, List.getElem_cons_zero]
        refine wpAnyH_take (i := 6) (v := ?_) rfl (by kernel_rfl) (by kernel_rfl) (by kernel_rfl) (fun _ _ _ h => h) (Or.inl ⟨by rfl, ?_⟩) hHeld ?_
        rotate_left
        · (intro W hSw; (try dsimp only at hSw); go_simp; try with_reducible rfl)
        try simp only [Act.put, List.setIfInBounds_toArray, List.set_cons_zero, List.set_cons_succ, List.getElem_toArray, List.getElem_cons_succ, List.getElem_cons_zero]
        refine wpAnyH_ready (rs := [7]) (by kernel_rfl) (by simp) ?_
        refine AllReadyH.cons rfl (fun K1 hK1 => ?_) AllReadyH.nil
        go_simp
        refine hK1.out _ _ (HTW.out _ fun b _ hb => Below.heap_setCell _ _ _ _ hb) (fun hHeld => ?_)
        clear hK1
        try simp only [Act.put, List.setIfInBounds_toArray, List.set_cons_zero, List.set_cons_succ, List.getElem_toArray, List.getElem_cons_succ, List.getElem_cons_zero]
        refine wpAnyH_done (by kernel_rfl) ?_ _
        try simp only [Act.put, List.setIfInBounds_toArray, List.set_cons_zero, List.set_cons_succ, List.getElem_toArray, List.getElem_cons_succ, List.getElem_cons_zero]
        clear hHeld m3 m3' m3P x3 p3 HTW HRUN
        generalize W9.setCell ⟨B + 1, 3, none⟩ (.slice a9 n9 c9) = u7 at *
        go_wp2_with fail
        go_roundw
        case rel => exact ⟨j + 1, _, es ++ [(y, A8)], by go_num, hjk, HMAP.out A8, HOs.out, HX9.out, HR9.out, HBs.out⟩
        case measure => simp [intOf]; omega
      · go_simp
        refine (HCC.out _ (below_drewN (Below.refl _ _) 1)).mono ?_
        rintro e v8 ⟨A8, rfl, hI8, hB8⟩
        have HB8 := Lib.hid (pure_trans (below_drewN (Below.refl u.heap.size u) 1) hB8)
        have HI8 := Lib.hid (hI8.imp (ok' := fun b => u.heap.size ≤ b) fun b hb _ => hb)
        have m3' := (HB8.out.cell (p := ⟨B + 1, 3, none⟩) hXl).trans m3
        clear hI8 hB8
        refine hK1.out _ _ (HS.out _ HB8.out) (fun hHeld => ?_)
        clear hK1
        try simp only [Act.put, List.setIfInBounds_toArray, List.set_cons_zero, List.set_cons_succ, List.getElem_toArray, List.getElem_cons_succ, List.getElem_cons_zero]
        refine wpAnyH_ready (rs := [1, 4]) (by kernel_rfl) (by simp) ?_
        refine AllReadyH.cons rfl (fun K1 hK1 => ?_) (AllReadyH.cons rfl (fun K1 hK1 => ?_) AllReadyH.nil)
        · go_simp
          refine hK1.out _ _ hHeld (fun hHeld => ?_)
          clear hK1
          try simp only [Act.put, List.setIfInBounds_toArray, List.set_cons_zero, List.set_cons_succ, List.getElem_toArray, List.getElem_cons_succ, List.getElem_cons_zero]
          refine wpAnyH_ready (rs := [4]) (by kernel_rfl) (by simp) ?_
          refine AllReadyH.cons rfl (fun K1 hK1 => ?_) AllReadyH.nil
          go_simp
          have P9 := pure_alloc v8 (.cells #[.int .i64 y.kind, .int .u64 (y.num : Int), .slice A8.ab A8.nb A8.cb, .slice A8.ai A8.ni A8.ci] 26)
          have N9 := alloc_new v8 (.cells #[.int .i64 y.kind, .int .u64 (y.num : Int), .slice A8.ab A8.nb A8.cb, .slice A8.ai A8.ni A8.ci] 26)
          have HOP := Lib.hid (HO.out.pure (pure_trans HB8.out P9))
          have hXP := (P9.block (B + 1) (by have := HB8.out.size; omega)).trans ((HB8.out.block (B + 1) hXl).trans HX.out)
          have hRP := (P9.block B (by have := HB8.out.size; omega)).trans ((HB8.out.block B (by omega)).trans HR.out)
          have hTP := fun k (hk : k < u.heap.size) => (P9.block k (by have := HB8.out.size; omega)).trans (HB8.out.block k hk)
          obtain ⟨v9, W9, hrun, hO, hgr, hown⟩ := HOP.out.app (news := [(y, A8)]) (m := 1) (c := 1) (SrcI.one N9) (fun e he => by
            simp only [List.mem_singleton] at he
            subst he
            exact (HI8.out.below P9).imp fun b hb _ => ⟨by omega, fun e => by have := (own_lt HO.out.row e).1; omega⟩) (by have := HES.out; omega) (by have := HB8.out.size; have := P9.size; omega)
          obtain ⟨a9, c9, e9⟩ := own_form hO.row
          generalize (es ++ [(y, A8)]).length = n9 at e9
          subst e9
          have HO9 := Lib.hid hO
          have hvo : ∀ b, b < u.heap.size → b < B + 2 → (Value.slice va nv vc).ownBlock ≠ some b := fun b _ hb e => by have := (own_lt HO.out.row e).2.1; omega
          have hvn : ∀ b, b < u.heap.size → b < B + 2 → (Value.slice a9 n9 c9).ownBlock ≠ some b := fun b _ hb e => by have := (own_lt hO.row e).2.1; omega
          have hs8 : v8.heap.size < (v8.alloc (.cells #[.int .i64 y.kind, .int .u64 (y.num : Int), .slice A8.ab A8.nb A8.cb, .slice A8.ai A8.ni A8.ci] 26)).heap.size := by simp
          have hx9 : W9.heap[B + 1]? = some (.cells #[.int .i64 4, .int .u64 0, .slice none 0 0, .slice va nv vc] 26 (0, 0)) := (hgr.block _ (by have := HB8.out.size; omega) (fun e => hvo _ hXl (by omega) e.symm)).trans hXP
          have hr9 : W9.heap[B]? = some (.cells #[.int .i64 0, .int .u64 0, .slice none 0 0, .slice none 0 0] 26 (0, 0)) := (hgr.block _ (by have := HB8.out.size; omega) (fun e => hvo _ (by omega) (by omega) e.symm)).trans hRP
          have hb9 : Below B w W9 := below_grown (hBl.out.trans ((pure_trans HB8.out P9).mono (by have := hBl.out.size; omega))) (by have := P9.size; have := HB8.out.size; omega) (HOP.out.lower (show B ≤ B + 2 by omega)).row hgr
          have HX9 := Lib.hid (show (W9.setCell ⟨B + 1, 3, none⟩ (.slice a9 n9 c9)).heap[B + 1]? = some (.cells #[.int .i64 4, .int .u64 0, .slice none 0 0, .slice a9 n9 c9] 26 (0, 0)) by have := set_arr hx9 3 (.slice a9 n9 c9); simpa using this)
          have HR9 := Lib.hid ((Below.heap_setCell W9 ⟨B + 1, 3, none⟩ (.slice a9 n9 c9) B (by show B ≠ B + 1; omega)).trans hr9)
          have HOs := Lib.hid (show OutI (W9.setCell ⟨B + 1, 3, none⟩ (.slice a9 n9 c9)) (B + 2) (fun b => B + 2 ≤ b) (.slice a9 n9 c9) (es ++ [(y, A8)]) from hO.keep (fun g hg => Below.heap_setCell _ _ _ _ (by have := (own_lt hO.row hg).2.1; show g ≠ B + 1; omega)) fun b hb _ => Below.heap_setCell _ _ _ _ (by show b ≠ B + 1; omega))
          have HBs := Lib.hid (hb9.setCell (p := ⟨B + 1, 3, none⟩) (by show B ≤ B + 1; omega) (.slice a9 n9 c9))
          have hTW : ∀ W' : World, (∀ b, b < u.heap.size → b ≠ B + 1 → W'.heap[b]? = W9.heap[b]?) → (W'.cell? ⟨T, 0, none⟩ = some (.int .i64 y.kind) ∧ W'.cell? ⟨T, 1, none⟩ = some (.int .u64 (y.num : Int)) ∧ W'.cell? ⟨T, 2, none⟩ = some (.slice Y.ab Y.nb Y.cb) ∧ W'.cell? ⟨T, 3, none⟩ = some (.slice Y.ai Y.ni Y.ci)) := fun W' hW' => cell_of4 ((hW' T hTl (by omega)).trans ((hgr.block T (by have := HB8.out.size; omega) (fun e => hTo e.symm)).trans ((hTP T hTl).trans HT.out)))
          have HTW := Lib.hid hTW
          have HRUN := Lib.hid hrun
          obtain ⟨x0, x1, x2, x3⟩ := cell_of4 hx9
          obtain ⟨p0, p1, p2, p3⟩ := frozen_of4 hx9
          have m3P : (v8.alloc (.cells #[.int .i64 y.kind, .int .u64 (y.num : Int), .slice A8.ab A8.nb A8.cb, .slice A8.ai A8.ni A8.ci] 26)).cell? ⟨B + 1, 3, none⟩ = some (.slice va nv vc) := (cell_of4 hXP).2.2.2
          have hSP := HS.out _ (pure_trans HB8.out P9)
          clear hO hgr hown N9 P9 hrun hXP hRP hTP hvo hvn hs8 hx9 hr9 hb9 hTW x0 x1 x2 p0 p1 p2
          refine hK1.out _ _ hSP (fun hHeld => ?_)
          clear hK1 hSP
          try simp only [Act.put, List.setIfInBounds_toArray, List.set_cons_zero, List.set_cons_succ, List.getElem_toArray, List.getElem_cons_succ, List.getElem_cons_zero]
          refine wpAnyH_ready (rs := [5]) (by kernel_rfl) (by simp) ?_
          refine AllReadyH.cons rfl (fun K1 hK1 => ?_) AllReadyH.nil
          rw [if_pos (by rfl)]
          refine wp_app _ _ 24 rfl rfl rfl HRUN.out ?_
          refine hK1.out _ _ (HTW.out _ fun _ _ _ => rfl) (fun hHeld => ?_)
          clear hK1
          try simp only [Act.put, List.setIfInBounds_toArray, List.set_cons_zero, List.set_cons_succ, List.getElem_toArray, List.getElem_cons_succ, List.getElem_cons_zero]
          refine wpAnyH_take (i := 6) (v := ?_) rfl (by kernel_rfl) (by kernel_rfl) (by kernel_rfl) (fun _ _ _ h => h) (Or.inl ⟨by rfl, ?_⟩) hHeld ?_
          rotate_left
          · (intro W hSw; (try dsimp only at hSw); go_simp; try with_reducible rfl)
          try simp only [Act.put, List.setIfInBounds_toArray, List.set_cons_zero, List.set_cons_succ, List.getElem_toArray, List.getElem_cons_succ, List.getElem_cons_zero]
          refine wpAnyH_ready (rs := [7]) (by kernel_rfl) (by simp) ?_
          refine AllReadyH.cons rfl (fun K1 hK1 => ?_) AllReadyH.nil
          go_simp
          refine hK1.out _ _ (HTW.out _ fun b _ hb => Below.heap_setCell _ _ _ _ hb) (fun hHeld => ?_)
          clear hK1
          try simp only [Act.put, List.setIfInBounds_toArray, List.set_cons_zero, List.set_cons_succ, List.getElem_toArray, List.getElem_cons_succ, List.getElem_cons_zero]
          refine wpAnyH_done (by kernel_rfl) ?_ _
          try simp only [Act.put, List.setIfInBounds_toArray, List.set_cons_zero, List.set_cons_succ, List.getElem_toArray, List.getElem_cons_succ, List.getElem_cons_zero]
          clear hHeld m3 m3' m3P x3 p3 HTW HRUN
          generalize W9.setCell ⟨B + 1, 3, none⟩ (.slice a9 n9 c9) = u7 at *
          go_wp2_with fail
          go_roundw
          case rel => exact ⟨j + 1, _, es ++ [(y, A8)], by go_num, hjk, HMAP.out A8, HOs.out, HX9.out, HR9.out, HBs.out⟩
          case measure => simp [intOf]; omega
        · go_simp
          have P9 := pure_alloc v8 (.cells #[.int .i64 y.kind, .int .u64 (y.num : Int), .slice A8.ab A8.nb A8.cb, .slice A8.ai A8.ni A8.ci] 26)
          have N9 := alloc_new v8 (.cells #[.int .i64 y.kind, .int .u64 (y.num : Int), .slice A8.ab A8.nb A8.cb, .slice A8.ai A8.ni A8.ci] 26)
          have HOP := Lib.hid (HO.out.pure (pure_trans HB8.out P9))
          have hXP := (P9.block (B + 1) (by have := HB8.out.size; omega)).trans ((HB8.out.block (B + 1) hXl).trans HX.out)
          have hRP := (P9.block B (by have := HB8.out.size; omega)).trans ((HB8.out.block B (by omega)).trans HR.out)
          have hTP := fun k (hk : k < u.heap.size) => (P9.block k (by have := HB8.out.size; omega)).trans (HB8.out.block k hk)
          obtain ⟨v9, W9, hrun, hO, hgr, hown⟩ := HOP.out.app (news := [(y, A8)]) (m := 1) (c := 1) (SrcI.one N9) (fun e he => by
            simp only [List.mem_singleton] at he
            subst he
            exact (HI8.out.below P9).imp fun b hb _ => ⟨by omega, fun e => by have := (own_lt HO.out.row e).1; omega⟩) (by have := HES.out; omega) (by have := HB8.out.size; have := P9.size; omega)
          obtain ⟨a9, c9, e9⟩ := own_form hO.row
          generalize (es ++ [(y, A8)]).length = n9 at e9
          subst e9
          have HO9 := Lib.hid hO
          have hvo : ∀ b, b < u.heap.size → b < B + 2 → (Value.slice va nv vc).ownBlock ≠ some b := fun b _ hb e => by have := (own_lt HO.out.row e).2.1; omega
          have hvn : ∀ b, b < u.heap.size → b < B + 2 → (Value.slice a9 n9 c9).ownBlock ≠ some b := fun b _ hb e => by have := (own_lt hO.row e).2.1; omega
          have hs8 : v8.heap.size < (v8.alloc (.cells #[.int .i64 y.kind, .int .u64 (y.num : Int), .slice A8.ab A8.nb A8.cb, .slice A8.ai A8.ni A8.ci] 26)).heap.size := by simp
          have hx9 : W9.heap[B + 1]? = some (.cells #[.int .i64 4, .int .u64 0, .slice none 0 0, .slice va nv vc] 26 (0, 0)) := (hgr.block _ (by have := HB8.out.size; omega) (fun e => hvo _ hXl (by omega) e.symm)).trans hXP
          have hr9 : W9.heap[B]? = some (.cells #[.int .i64 0, .int .u64 0, .slice none 0 0, .slice none 0 0] 26 (0, 0)) := (hgr.block _ (by have := HB8.out.size; omega) (fun e => hvo _ (by omega) (by omega) e.symm)).trans hRP
          have hb9 : Below B w W9 := below_grown (hBl.out.trans ((pure_trans HB8.out P9).mono (by have := hBl.out.size; omega))) (by have := P9.size; have := HB8.out.size; omega) (HOP.out.lower (show B ≤ B + 2 by omega)).row hgr
          have HX9 := Lib.hid (show (W9.setCell ⟨B + 1, 3, none⟩ (.slice a9 n9 c9)).heap[B + 1]? = some (.cells #[.int .i64 4, .int .u64 0, .slice none 0 0, .slice a9 n9 c9] 26 (0, 0)) by have := set_arr hx9 3 (.slice a9 n9 c9); simpa using this)
          have HR9 := Lib.hid ((Below.heap_setCell W9 ⟨B + 1, 3, none⟩ (.slice a9 n9 c9) B (by show B ≠ B + 1; omega)).trans hr9)
          have HOs := Lib.hid (show OutI (W9.setCell ⟨B + 1, 3, none⟩ (.slice a9 n9 c9)) (B + 2) (fun b => B + 2 ≤ b) (.slice a9 n9 c9) (es ++ [(y, A8)]) from hO.keep (fun g hg => Below.heap_setCell _ _ _ _ (by have := (own_lt hO.row hg).2.1; show g ≠ B + 1; omega)) fun b hb _ => Below.heap_setCell _ _ _ _ (by show b ≠ B + 1; omega))
          have HBs := Lib.hid (hb9.setCell (p := ⟨B + 1, 3, none⟩) (by show B ≤ B + 1; omega) (.slice a9 n9 c9))
          have hTW : ∀ W' : World, (∀ b, b < u.heap.size → b ≠ B + 1 → W'.heap[b]? = W9.heap[b]?) → (W'.cell? ⟨T, 0, none⟩ = some (.int .i64 y.kind) ∧ W'.cell? ⟨T, 1, none⟩ = some (.int .u64 (y.num : Int)) ∧ W'.cell? ⟨T, 2, none⟩ = some (.slice Y.ab Y.nb Y.cb) ∧ W'.cell? ⟨T, 3, none⟩ = some (.slice Y.ai Y.ni Y.ci)) := fun W' hW' => cell_of4 ((hW' T hTl (by omega)).trans ((hgr.block T (by have := HB8.out.size; omega) (fun e => hTo e.symm)).trans ((hTP T hTl).trans HT.out)))
          have HTW := Lib.hid hTW
          have HRUN := Lib.hid hrun
          obtain ⟨x0, x1, x2, x3⟩ := cell_of4 hx9
          obtain ⟨p0, p1, p2, p3⟩ := frozen_of4 hx9
          have m3P : (v8.alloc (.cells #[.int .i64 y.kind, .int .u64 (y.num : Int), .slice A8.ab A8.nb A8.cb, .slice A8.ai A8.ni A8.ci] 26)).cell? ⟨B + 1, 3, none⟩ = some (.slice va nv vc) := (cell_of4 hXP).2.2.2
          have hSP := HS.out _ (pure_trans HB8.out P9)
          clear hO hgr hown N9 P9 hrun hXP hRP hTP hvo hvn hs8 hx9 hr9 hb9 hTW x0 x1 x2 p0 p1 p2
          refine hK1.out _ _ hSP (fun hHeld => ?_)
          clear hK1 hSP
          try simp only [Act.put, List.setIfInBounds_toArray, List.set_cons_zero, List.set_cons_succ, List.getElem_toArray, List.getElem_cons_succ, List.getElem_cons_zero]
          refine wpAnyH_ready (rs := [1]) (by kernel_rfl) (by simp) ?_
          refine AllReadyH.cons rfl (fun K1 hK1 => ?_) AllReadyH.nil
          go_simp
          refine hK1.out _ _ hHeld (fun hHeld => ?_)
          clear hK1
          try simp only [Act.put, List.setIfInBounds_toArray, List.set_cons_zero, List.set_cons_succ, List.getElem_toArray, List.getElem_cons_succ, List.getElem_cons_zero]
          refine wpAnyH_ready (rs := [5]) (by kernel_rfl) (by simp) ?_
          refine AllReadyH.cons rfl (fun K1 hK1 => ?_) AllReadyH.nil
          rw [if_pos (by rfl)]
          refine wp_app _ _ 24 rfl rfl rfl HRUN.out ?_
          refine hK1.out _ _ (HTW.out _ fun _ _ _ => rfl) (fun hHeld => ?_)
          clear hK1
          try simp only [Act.put, List.setIfInBounds_toArray, List.set_cons_zero, List.set_cons_succ, List.getElem_toArray, List.getElem_cons_succ, List.getElem_cons_zero]
          refine wpAnyH_take (i := 6) (v := ?_) rfl (by kernel_rfl) (by kernel_rfl) (by kernel_rfl) (fun _ _ _ h => h) (Or.inl ⟨by rfl, ?_⟩) hHeld ?_
          rotate_left
          · (intro W hSw; (try dsimp only at hSw); go_simp; try with_reducible rfl)
          try simp only [Act.put, List.setIfInBounds_toArray, List.set_cons_zero, List.set_cons_succ, List.getElem_toArray, List.getElem_cons_succ, List.getElem_cons_zero]
          refine wpAnyH_ready (rs := [7]) (by kernel_rfl) (by simp) ?_
          refine AllReadyH.cons rfl (fun K1 hK1 => ?_) AllReadyH.nil
          go_simp
          refine hK1.out _ _ (HTW.out _ fun b _ hb => Below.heap_setCell _ _ _ _ hb) (fun hHeld => ?_)
          clear hK1
          try simp only [Act.put, List.setIfInBounds_toArray, List.set_cons_zero, List.set_cons_succ, List.getElem_toArray, List.getElem_cons_succ, List.getElem_cons_zero]
          refine wpAnyH_done (by kernel_rfl) ?_ _
          try simp only [Act.put, List.setIfInBounds_toArray, List.set_cons_zero, List.set_cons_succ, List.getElem_toArray, List.getElem_cons_succ, List.getElem_cons_zero]
          clear hHeld m3 m3' m3P x3 p3 HTW HRUN
          generalize W9.setCell ⟨B + 1, 3, none⟩ (.slice a9 n9 c9) = u7 at *
          go_wp2_with fail
          go_roundw
          case rel => exact ⟨j + 1, _, es ++ [(y, A8)], by go_num, hjk, HMAP.out A8, HOs.out, HX9.out, HR9.out, HBs.out⟩
          case measure => simp [intOf]; omega
    · have hjn' : j = n := by have := HNI.out; omega
      have hjz : ¬ (j : Int) < (n : Int) := by omega
      have hes' : es.map (·.1) = l := by rw [hes, List.take_of_length_le (by have := HNI.out; omega)]
      obtain ⟨va, vc, ev⟩ := own_form hO.row
      generalize hnv : es.length = nv at ev
      subst ev
      have HO := Lib.hid hO
      have HX := Lib.hid hX
      have HR := Lib.hid hR
      have HBl := Lib.hid hbl
      have HES := Lib.hid hes'
      clear hO hX hR hbl hBl0 hTu hes hes' hjn' hnv
      obtain ⟨m0, m1, m2, m3⟩ := cell_of4 HX.out
      obtain ⟨r0, r1, r2, r3⟩ := cell_of4 HR.out
      obtain ⟨q0, q1, q2, q3⟩ := frozen_of4 HR.out
      go_wp2_with fail
      clear m0 m1 m2 m3 r0 r1 r2 r3 q0 q1 q2 q3
      have hp4 := put4 (HR.out) (.int .i64 4) (.int .u64 0) (.slice none 0 0) (.slice va nv vc)
      have hs4 := put4_keep (W := u) (b := B) (.int .i64 4) (.int .u64 0) (.slice none 0 0) (.slice va nv vc)
      have hb4 := fun (n9 : Nat) (u9 : World) (h9 : Below n9 u9 (u)) (hb9 : n9 ≤ B) => put4_below h9 hb9 (.int .i64 4) (.int .u64 0) (.slice none 0 0) (.slice va nv vc)
      generalize ((((u).setCell ⟨B, 0, none⟩ (.int .i64 4)).setCell ⟨B, 1, none⟩ (.int .u64 0)).setCell ⟨B, 2, none⟩ (.slice none 0 0)).setCell ⟨B, 3, none⟩ (.slice va nv vc) = W' at *
      obtain ⟨g0, g1, g2, g3⟩ := cell_of4 hp4
      refine bodyPost_ret (v := .agg #[.int .i64 4, .int .u64 0, .slice none 0 0, .slice va nv vc]) (by simp [results, Tryz.results73, go_sem, g0, g1, g2, g3]) rfl ?_
      have O' : OutI W' (B + 1) (fun b => B + 1 ≤ b) (.slice va nv vc) es := ((HO.out.lower (by omega)).imp (fun b hb _ => (by omega : B + 1 ≤ b))).keep (fun g hg => hs4.2 g (by have := (own_lt HO.out.row hg).2.1; omega)) fun b hb _ => hs4.2 b (by omega)
      obtain ⟨A, e1, e2, hI⟩ := mk_ir (k := 4) (n := 0) (by omega) (OwnB.nil W' (B + 1)) O'
      rw [HES.out] at hI
      simp only [Value.slice.injEq] at e1 e2
      refine ⟨A, ?_, hI.imp (fun b hb _ => by rcases hb with hb | hb <;> omega), by rw [hB]; exact hb4 B w HBl.out (by omega)⟩
      simp only [It.kind, It.num]
      rw [← e1.1, ← e1.2.1, ← e1.2.2, ← e2.1, ← e2.2.1, ← e2.2.2]
      rfl
end Go.Proofs.YtelefkkkccilaaaGreatDoor
