/- The walk of FlashNever. -/
import Derived.Test.YtnfjfifdkmgbdaaXd
import Derived.Deep.RegionWith
namespace Go.Proofs.Ytnfjfifdkmgbdaa
open Go.RowKit Go.Shelf
theorem few_any (a : Option Addr) (len cap : Nat) (w : World) (hl : len ≤ 9223372036854775807) : Calls Try.prog 29 #[.slice a len cap] w fun e w' => e = .returned (.bool (decide ((len : Int) ≤ 300))) ∧ w = w' := by
  go_enter Try.func29, Try.ntmps29
  go_wp2
  go_ret
  exact ⟨rfl, rfl⟩
theorem FRep.keep {w w' : World} {sz : Int} {pa ea : Option Addr} {pn en : Nat} {m : Fl.Mem} (h : FRep w sz pa pn ea en m) (k : ∀ b o v, w.cell? ⟨b, o, none⟩ = some v → w'.cell? ⟨b, o, none⟩ = some v) : FRep w' sz pa pn ea en m := by
  obtain ⟨h1, ⟨p1, p2, p3⟩, ⟨e1, e2, e3⟩, h4⟩ := h
  refine ⟨h1, ⟨p1, p2, fun i hi => ?_⟩, ⟨e1, e2, fun i hi => ?_⟩, h4⟩
  · obtain ⟨b, o, c, len, cap, q1, q2, q3⟩ := p3 i hi
    exact ⟨b, o, c, len, cap, q1, k _ _ _ q2, q3.keep k⟩
  · obtain ⟨b, o, q1, q2, q3⟩ := e3 i hi
    exact ⟨b, o, q1, k _ _ _ q2, q3⟩
/-- A memory in new blocks: blocks that are made behind it do not matter. -/
theorem FRep.upto {n : Nat} {w5 W : World} {sz : Int} {pa ea : Option Addr} {pn en : Nat} {m : Fl.Mem} (hF : ∀ W : World, (∀ k, n ≤ k → W.heap[k]? = w5.heap[k]?) → FRep W sz pa pn ea en m) (h : ∀ k, n ≤ k → k < w5.heap.size → W.heap[k]? = w5.heap[k]?) : FRep W sz pa pn ea en m := by
  have h0 : ∀ k, k < w5.heap.size → (W.heap.extract 0 w5.heap.size)[k]? = W.heap[k]? := fun k hk => by
    rw [Array.getElem?_extract]; simp; omega
  have h1 : ∀ k, w5.heap.size ≤ k → (W.heap.extract 0 w5.heap.size)[k]? = none := fun k hk => by
    rw [Array.getElem?_eq_none]; simp; omega
  refine (hF { W with heap := W.heap.extract 0 w5.heap.size } (fun k hk => ?_)).keep (fun b o v hc => ?_)
  · rcases Nat.lt_or_ge k w5.heap.size with h2 | h2
    · exact (h0 k h2).trans (h k hk h2)
    · rw [show ({ W with heap := W.heap.extract 0 w5.heap.size } : World).heap[k]? = none from h1 k h2, Array.getElem?_eq_none h2]
  · have hb : b < w5.heap.size := by
      rcases Nat.lt_or_ge b w5.heap.size with h2 | h2
      · exact h2
      · have := lt_of_cell hc
        simp at this
        omega
    have e := h0 b hb
    rw [← hc]
    unfold World.cell?
    simp only [e]
/-- A memory that does not lie in the two variables. -/
def FOff (bf bc : Nat) (W : World) (sz : Int) (pa : Option Addr) (pn : Nat) (ea : Option Addr) (en : Nat) (m : Fl.Mem) : Prop :=
  ∀ W' : World, (∀ k, k ≠ bf → k ≠ bc → k < W.heap.size → W'.heap[k]? = W.heap[k]?) → FRep W' sz pa pn ea en m
theorem FOff.rep {bf bc : Nat} {W : World} {sz : Int} {pa ea : Option Addr} {pn en : Nat} {m : Fl.Mem} (h : FOff bf bc W sz pa pn ea en m) : FRep W sz pa pn ea en m := h W fun _ _ _ _ => rfl
theorem FOff.on {bf bc : Nat} {W W1 : World} {sz : Int} {pa ea : Option Addr} {pn en : Nat} {m : Fl.Mem} (h : FOff bf bc W sz pa pn ea en m) (hs : W.heap.size ≤ W1.heap.size) (k : ∀ k, k ≠ bf → k ≠ bc → k < W.heap.size → W1.heap[k]? = W.heap[k]?) : FOff bf bc W1 sz pa pn ea en m :=
  fun W' hW' => h W' fun i h1 h2 h3 => (hW' i h1 h2 (by omega)).trans (k i h1 h2 h3)
theorem FOff.of_new {bf bc n : Nat} {w5 W : World} {sz : Int} {pa ea : Option Addr} {pn en : Nat} {m : Fl.Mem} (hF : ∀ W : World, (∀ k, n ≤ k → W.heap[k]? = w5.heap[k]?) → FRep W sz pa pn ea en m) (hs : w5.heap.size ≤ W.heap.size) (h1 : bf < n ∨ w5.heap.size ≤ bf) (h2 : bc < n ∨ w5.heap.size ≤ bc) (h : ∀ k, n ≤ k → k < w5.heap.size → W.heap[k]? = w5.heap[k]?) : FOff bf bc W sz pa pn ea en m :=
  fun W' hW' => FRep.upto hF fun k k1 k2 => (hW' k (by omega) (by omega) (by omega)).trans (h k k1 k2)
/-- The variables of the loop: the memory and the counter. -/
def NSt (w : World) (bf bc : Nat) (s : Int) (i : Nat) (last : Int) (W : World) : Prop := ∃ (sz : Int) (pa : Option Addr) (pn pc : Nat) (ea : Option Addr) (en ec : Nat) (m : Fl.Mem) (nx L : Int),
  W.heap[bf]? = some (.cells #[.int .i64 sz, .slice pa pn pc, .slice ea en ec] 32 (0, 0)) ∧ W.heap[bc]? = some (.cells #[.int .i64 0, .int .i64 s, .int .i64 nx, .int .i64 L] 49 (0, 0)) ∧ FOff bf bc W sz pa pn ea en m ∧ Fl.NInv s i last m ⟨0, s, nx, L⟩ ∧ Below w.heap.size w W
theorem three_cells'' {w : World} {b : Nat} {x0 y0 z0 : Value} (h : w.heap[b]? = some (.cells #[x0, y0, z0] 32 (0, 0))) (x y z : Value) (w' : World) (hw : w' = ((w.setCell ⟨b, 0, none⟩ x).setCell ⟨b, 1, none⟩ y).setCell ⟨b, 2, none⟩ z) :
    w'.heap[b]? = some (.cells #[x, y, z] 32 (0, 0)) ∧ (∀ k, k ≠ b → w'.heap[k]? = w.heap[k]?) ∧ (∀ (n : Nat) (W : World), n ≤ b → Below n W w → Below n W w') := by
  refine ⟨by rw [hw, set_arr (set_arr (set_arr h 0 x) 1 y) 2 z]; simp, fun k hk => ?_, fun n W hn hB => ?_⟩
  · rw [hw, Below.heap_setCell _ _ _ _ hk, Below.heap_setCell _ _ _ _ hk, Below.heap_setCell _ _ _ _ hk]
  · rw [hw]; exact ((hB.setCell hn _).setCell hn _).setCell hn _
theorem four_cells' {w : World} {b : Nat} {x0 y0 z0 u0 : Value} (h : w.heap[b]? = some (.cells #[x0, y0, z0, u0] 49 (0, 0))) (x y z u : Value) (w' : World) (hw : w' = (((w.setCell ⟨b, 0, none⟩ x).setCell ⟨b, 1, none⟩ y).setCell ⟨b, 2, none⟩ z).setCell ⟨b, 3, none⟩ u) :
    w'.heap[b]? = some (.cells #[x, y, z, u] 49 (0, 0)) ∧ (∀ k, k ≠ b → w'.heap[k]? = w.heap[k]?) ∧ (∀ (n : Nat) (W : World), n ≤ b → Below n W w → Below n W w') := by
  refine ⟨by rw [hw, set_arr (set_arr (set_arr (set_arr h 0 x) 1 y) 2 z) 3 u]; simp, fun k hk => ?_, fun n W hn hB => ?_⟩
  · rw [hw, Below.heap_setCell _ _ _ _ hk, Below.heap_setCell _ _ _ _ hk, Below.heap_setCell _ _ _ _ hk, Below.heap_setCell _ _ _ _ hk]
  · rw [hw]; exact (((hB.setCell hn _).setCell hn _).setCell hn _).setCell hn _
set_option maxRecDepth 100000 in
set_option maxHeartbeats 1600000 in
theorem never_any (a : Option Addr) (len cap : Nat) (l : List Int) (step : Int) (w : World) (h : Is w a len l) :
    Calls Try.prog 6 #[.slice a len cap, .int .i64 step] w fun e w' => e = .returned (.bool true) ∧ Below w.heap.size w w' := by
  have hl := h.2.1
  have HI := Lib.hid h
  clear h
  obtain ⟨s, hs, hsc⟩ : ∃ s : Int, (1 ≤ s ∧ s ≤ 5) ∧ 1 + step % 5 = s := ⟨_, by omega, rfl⟩
  have q5 := Int.emod_lt_of_pos step (show (0 : Int) < 5 by omega)
  have q5' := Int.emod_nonneg step (show (5 : Int) ≠ 0 by omega)
  obtain ⟨hs3, hs4⟩ := hs
  have HSC := Lib.hid hsc
  clear hsc
  go_enter Try.func6, Try.ntmps6
  cases hfew : decide ((len : Int) ≤ 300)
  · go_wp2_with (go_at_call 29; refine (few_any a len cap w hl).mono ?_; rintro e w2 ⟨rfl, rfl⟩; rw [hfew])
    refine (awake_any _).mono ?_
    rintro e w2 ⟨rfl, hw2⟩
    have HW2 := Lib.hid hw2
    clear hw2
    go_wp2_with fail
    go_ret
    exact ⟨rfl, HW2.out⟩
  have hlen : len ≤ 300 := by simp at hfew; omega
  go_wp2_with (go_at_call 29; refine (few_any a len cap w hl).mono ?_; rintro e w2 ⟨rfl, rfl⟩; rw [hfew])
  clear hfew
  refine (format_any 160 2 w (by omega) (by omega) (by omega) (by omega)).mono ?_
  rintro e w1 ⟨sz, pa, pn, pc, ea, en, ec, rfl, hF, hw1⟩
  rw [awake_fact.1]
  have HF := Lib.hid (hF w1 (fun _ _ => rfl))
  have HFN := Lib.hid hF
  have HW1 := Lib.hid hw1
  clear hF hw1
  go_upto_region 4 with fail
  have P2 := pure_alloc w1 (.cells #[.int .i64 sz, .slice pa pn pc, .slice ea en ec] 32)
  have N2 := alloc_new w1 (.cells #[.int .i64 sz, .slice pa pn pc, .slice ea en ec] 32)
  have HF2 := Lib.hid (HF.out.below P2)
  have HW2 := Lib.hid (pure_trans HW1.out P2)
  have hlo := HW1.out.size
  have HK2 : Hid (w1.heap.size ≤ w1.heap.size ∧ w1.heap.size ≤ (w1.alloc (.cells #[.int .i64 sz, .slice pa pn pc, .slice ea en ec] 32)).heap.size ∧ ∀ k, k < w1.heap.size → (w1.alloc (.cells #[.int .i64 sz, .slice pa pn pc, .slice ea en ec] 32)).heap[k]? = w1.heap[k]?) := ⟨Nat.le_refl _, P2.size, fun k hk => P2.block k hk⟩
  generalize w1.alloc (.cells #[.int .i64 sz, .slice pa pn pc, .slice ea en ec] 32) = w2 at *
  have c1 := cell_of_arr N2 0
  have c2 := cell_of_arr N2 1
  have c3 := cell_of_arr N2 2
  simp at c1 c2 c3
  have HN2 := Lib.hid N2
  have hb := lt_of_block N2
  clear P2 N2 HF HW1
  generalize hbfe : w1.heap.size = bf at *
  have HBE := Lib.hid hbfe
  clear hbfe
  have HO : Hid (∀ W : World, Below w2.heap.size w2 W → Calls Try.prog 26 #[.agg #[.int .i64 sz, .slice pa pn pc, .slice ea en ec], .int .i64 0, .int .i64 s] W fun e w' => e = .returned (.tuple #[.agg #[.int .i64 0, .int .i64 s, .int .i64 0, .int .i64 0], .int .i64 0]) ∧ Below W.heap.size W w') := by
    show ∀ W : World, _ → _
    intro W hW
    have := open_any sz pa pn pc ea en ec 0 s _ W (HF2.out.below hW)
    rw [Fl.NInv.open ⟨hs3, hs4⟩] at this
    simp only [ctrV] at this
    exact this
  go_cut [7, 8] (fun x y W => ∃ X : Nat, x = .pointer (some ⟨X, 0, none⟩) ∧ y = .int .i64 0 ∧ w2.heap.size ≤ X ∧ Below w2.heap.size w2 W ∧ W.heap[X]? = some (.cells #[.int .i64 0, .int .i64 s, .int .i64 0, .int .i64 0] 49 (0, 0)))
  case first =>
    have hsum : IntKind.i64.wrap (1 + step % 5) = s := by rw [wrap_i64 _ (by omega) (by omega)]; exact HSC.out
    have KS : ∀ W : World, Below w2.heap.size w2 W → W.cell? ⟨bf, 0, none⟩ = some (.int .i64 sz) ∧ W.cell? ⟨bf, 1, none⟩ = some (.slice pa pn pc) ∧ W.cell? ⟨bf, 2, none⟩ = some (.slice ea en ec) := fun W hW => ⟨(hW.cell (p := ⟨bf, 0, none⟩) hb).trans c1, (hW.cell (p := ⟨bf, 1, none⟩) hb).trans c2, (hW.cell (p := ⟨bf, 2, none⟩) hb).trans c3⟩
    refine wp_region_held_drew (S := (fun W => W.cell? ⟨bf, 0, none⟩ = some (.int .i64 sz) ∧ W.cell? ⟨bf, 1, none⟩ = some (.slice pa pn pc) ∧ W.cell? ⟨bf, 2, none⟩ = some (.slice ea en ec))) (by kernel_rfl) ⟨c1, c2, c3⟩ (fun hHeld => ?_)
    refine wpAnyH_take (i := 0) (v := ?_) rfl (by kernel_rfl) (by kernel_rfl) (by kernel_rfl) (fun _ _ _ h => h) (Or.inl ⟨by rfl, ?_⟩) hHeld ?_
    rotate_left
    · (intro W hSw; (try dsimp only at hSw); go_simp; try with_reducible rfl)
    try simp only [Act.put, List.setIfInBounds_toArray, List.set_cons_zero, List.set_cons_succ, List.getElem_toArray, List.getElem_cons_succ, List.getElem_cons_zero]
    refine wpAnyH_take (i := 1) (v := ?_) rfl (by kernel_rfl) (by kernel_rfl) (by kernel_rfl) (fun _ _ _ h => h) (Or.inl ⟨by rfl, ?_⟩) hHeld ?_
    rotate_left
    · (intro W hSw; (try dsimp only at hSw); go_simp; try with_reducible rfl)
    try simp only [Act.put, List.setIfInBounds_toArray, List.set_cons_zero, List.set_cons_succ, List.getElem_toArray, List.getElem_cons_succ, List.getElem_cons_zero]
    refine wpAnyH_ready (rs := [2, 8]) (by kernel_rfl) (by simp) ?_
    refine AllReadyH.cons rfl (fun K1 hK1 => ?_) ?_
    · go_simp
      refine (mod_any _ _ _ (by omega) (by omega)).mono ?_
      rintro e u ⟨rfl, rfl⟩
      refine hK1.out _ _ hHeld (fun hHeld => ?_)
      clear hK1
      try simp only [Act.put, List.setIfInBounds_toArray, List.set_cons_zero, List.set_cons_succ, List.getElem_toArray, List.getElem_cons_succ, List.getElem_cons_zero]
      refine wpAnyH_take (i := 3) (v := ?_) rfl (by kernel_rfl) (by kernel_rfl) (by kernel_rfl) (fun _ _ _ h => h) (Or.inl ⟨by rfl, ?_⟩) hHeld ?_
      rotate_left
      · (intro W hSw; (try dsimp only at hSw); go_simp; try with_reducible rfl)
      try simp only [Act.put, List.setIfInBounds_toArray, List.set_cons_zero, List.set_cons_succ, List.getElem_toArray, List.getElem_cons_succ, List.getElem_cons_zero]
      refine wpAnyH_ready (rs := [4, 8]) (by kernel_rfl) (by simp) ?_
      refine AllReadyH.cons rfl (fun K1 hK1 => ?_) ?_
      · have hB0 : Below w2.heap.size w2 w2.drew := (Below.refl _ _).drew
        go_simp
        refine (HO.out _ hB0).mono ?_
        rintro e w5 ⟨rfl, hw5⟩
        have hB5 := pure_trans hB0 hw5
        refine hK1.out _ _ (KS _ hB5) (fun hHeld => ?_)
        clear hK1
        try simp only [Act.put, List.setIfInBounds_toArray, List.set_cons_zero, List.set_cons_succ, List.getElem_toArray, List.getElem_cons_succ, List.getElem_cons_zero]
        refine wpAnyH_take (i := 5) (v := ?_) rfl (by kernel_rfl) (by kernel_rfl) (by kernel_rfl) (fun _ _ _ h => h) (Or.inl ⟨by rfl, ?_⟩) hHeld ?_
        rotate_left
        · (intro W hSw; (try dsimp only at hSw); go_simp; try with_reducible rfl)
        try simp only [Act.put, List.setIfInBounds_toArray, List.set_cons_zero, List.set_cons_succ, List.getElem_toArray, List.getElem_cons_succ, List.getElem_cons_zero]
        refine wpAnyH_take (i := 6) (v := ?_) rfl (by kernel_rfl) (by kernel_rfl) (by kernel_rfl) (fun _ _ _ h => h) (Or.inl ⟨by rfl, ?_⟩) hHeld ?_
        rotate_left
        · (intro W hSw; (try dsimp only at hSw); go_simp; try with_reducible rfl)
        try simp only [Act.put, List.setIfInBounds_toArray, List.set_cons_zero, List.set_cons_succ, List.getElem_toArray, List.getElem_cons_succ, List.getElem_cons_zero]
        refine wpAnyH_take (i := 7) (v := ?_) rfl (by kernel_rfl) (by kernel_rfl) (by kernel_rfl) (fun _ _ _ h => h) (Or.inl ⟨by rfl, ?_⟩) hHeld ?_
        rotate_left
        · (intro W hSw; (try dsimp only at hSw); go_simp; try with_reducible rfl)
        try simp only [Act.put, List.setIfInBounds_toArray, List.set_cons_zero, List.set_cons_succ, List.getElem_toArray, List.getElem_cons_succ, List.getElem_cons_zero]
        refine wpAnyH_ready (rs := [8]) (by kernel_rfl) (by simp) ?_
        refine AllReadyH.cons rfl (fun K1 hK1 => ?_) AllReadyH.nil
        go_simp
        refine hK1.out _ _ (KS _ (pure_trans hB5 (pure_alloc _ _))) (fun hHeld => ?_)
        clear hK1
        try simp only [Act.put, List.setIfInBounds_toArray, List.set_cons_zero, List.set_cons_succ, List.getElem_toArray, List.getElem_cons_succ, List.getElem_cons_zero]
        refine wpAnyH_ready (rs := [9]) (by kernel_rfl) (by simp) ?_
        refine AllReadyH.cons rfl (fun K1 hK1 => ?_) AllReadyH.nil
        go_simp
        refine hK1.out _ _ (KS _ (pure_trans hB5 (pure_alloc _ _))) (fun hHeld => ?_)
        clear hK1
        try simp only [Act.put, List.setIfInBounds_toArray, List.set_cons_zero, List.set_cons_succ, List.getElem_toArray, List.getElem_cons_succ, List.getElem_cons_zero]
        refine wpAnyH_take (i := 10) (v := ?_) rfl (by kernel_rfl) (by kernel_rfl) (by kernel_rfl) (fun _ _ _ h => h) (Or.inl ⟨by rfl, ?_⟩) hHeld ?_
        rotate_left
        · (intro W hSw; (try dsimp only at hSw); go_simp; try with_reducible rfl)
        try simp only [Act.put, List.setIfInBounds_toArray, List.set_cons_zero, List.set_cons_succ, List.getElem_toArray, List.getElem_cons_succ, List.getElem_cons_zero]
        refine wpAnyH_done (by kernel_rfl) ?_ _
        try simp only [Act.put, List.setIfInBounds_toArray, List.set_cons_zero, List.set_cons_succ, List.getElem_toArray, List.getElem_cons_succ, List.getElem_cons_zero]
        go_wp2_with fail
        go_meet
        case rel => exact ⟨w5.heap.size, rfl, rfl, hB5.size, pure_trans hB5 (pure_alloc _ _), alloc_new _ _⟩
      refine AllReadyH.cons rfl (fun K1 hK1 => ?_) AllReadyH.nil
      · go_simp
        refine hK1.out _ _ (KS _ (pure_alloc _ _).drew) (fun hHeld => ?_)
        clear hK1
        try simp only [Act.put, List.setIfInBounds_toArray, List.set_cons_zero, List.set_cons_succ, List.getElem_toArray, List.getElem_cons_succ, List.getElem_cons_zero]
        have Y3 : (w2.alloc (.cells #[.int .i64 0, .int .i64 0, .int .i64 0, .int .i64 0] 49)).drew.heap[w2.heap.size]? = some (.cells #[.int .i64 0, .int .i64 0, .int .i64 0, .int .i64 0] 49 (0, 0)) := alloc_new w2 _
        have PA : Below w2.heap.size w2 (w2.alloc (.cells #[.int .i64 0, .int .i64 0, .int .i64 0, .int .i64 0] 49)).drew := (pure_alloc w2 _).drew
        generalize (w2.alloc (.cells #[.int .i64 0, .int .i64 0, .int .i64 0, .int .i64 0] 49)).drew = wA at *
        refine wpAnyH_ready (rs := [4]) (by kernel_rfl) (by simp) ?_
        refine AllReadyH.cons rfl (fun K1 hK1 => ?_) AllReadyH.nil
        go_simp
        refine (HO.out _ PA).mono ?_
        rintro e w5 ⟨rfl, hw5⟩
        have hB5 := pure_trans PA hw5
        have B1 := Below.keep hw5 Y3 (lt_of_block Y3)
        refine hK1.out _ _ (KS _ hB5) (fun hHeld => ?_)
        clear hK1
        try simp only [Act.put, List.setIfInBounds_toArray, List.set_cons_zero, List.set_cons_succ, List.getElem_toArray, List.getElem_cons_succ, List.getElem_cons_zero]
        refine wpAnyH_take (i := 5) (v := ?_) rfl (by kernel_rfl) (by kernel_rfl) (by kernel_rfl) (fun _ _ _ h => h) (Or.inl ⟨by rfl, ?_⟩) hHeld ?_
        rotate_left
        · (intro W hSw; (try dsimp only at hSw); go_simp; try with_reducible rfl)
        try simp only [Act.put, List.setIfInBounds_toArray, List.set_cons_zero, List.set_cons_succ, List.getElem_toArray, List.getElem_cons_succ, List.getElem_cons_zero]
        refine wpAnyH_take (i := 6) (v := ?_) rfl (by kernel_rfl) (by kernel_rfl) (by kernel_rfl) (fun _ _ _ h => h) (Or.inl ⟨by rfl, ?_⟩) hHeld ?_
        rotate_left
        · (intro W hSw; (try dsimp only at hSw); go_simp; try with_reducible rfl)
        try simp only [Act.put, List.setIfInBounds_toArray, List.set_cons_zero, List.set_cons_succ, List.getElem_toArray, List.getElem_cons_succ, List.getElem_cons_zero]
        refine wpAnyH_take (i := 7) (v := ?_) rfl (by kernel_rfl) (by kernel_rfl) (by kernel_rfl) (fun _ _ _ h => h) (Or.inl ⟨by rfl, ?_⟩) hHeld ?_
        rotate_left
        · (intro W hSw; (try dsimp only at hSw); go_simp; try with_reducible rfl)
        try simp only [Act.put, List.setIfInBounds_toArray, List.set_cons_zero, List.set_cons_succ, List.getElem_toArray, List.getElem_cons_succ, List.getElem_cons_zero]
        have d1 := cell_of_arr B1 0
        have d2 := cell_of_arr B1 1
        have d3 := cell_of_arr B1 2
        have d4 := cell_of_arr B1 3
        have f1 := frozen_of_arr B1 0
        have f2 := frozen_of_arr B1 1
        have f3 := frozen_of_arr B1 2
        have f4 := frozen_of_arr B1 3
        simp at d1 d2 d3 d4
        have HB1 := Lib.hid B1
        clear B1
        refine wpAnyH_ready (rs := [9]) (by kernel_rfl) (by simp) ?_
        refine AllReadyH.cons rfl (fun K1 hK1 => ?_) AllReadyH.nil
        go_simp
        refine hK1.out _ _ (KS _ ((((hB5.setCell (by dsimp only; omega) _).setCell (by dsimp only; omega) _).setCell (by dsimp only; omega) _).setCell (by dsimp only; omega) _)) (fun hHeld => ?_)
        clear hK1
        try simp only [Act.put, List.setIfInBounds_toArray, List.set_cons_zero, List.set_cons_succ, List.getElem_toArray, List.getElem_cons_succ, List.getElem_cons_zero]
        refine wpAnyH_take (i := 10) (v := ?_) rfl (by kernel_rfl) (by kernel_rfl) (by kernel_rfl) (fun _ _ _ h => h) (Or.inl ⟨by rfl, ?_⟩) hHeld ?_
        rotate_left
        · (intro W hSw; (try dsimp only at hSw); go_simp; try with_reducible rfl)
        try simp only [Act.put, List.setIfInBounds_toArray, List.set_cons_zero, List.set_cons_succ, List.getElem_toArray, List.getElem_cons_succ, List.getElem_cons_zero]
        refine wpAnyH_done (by kernel_rfl) ?_ _
        try simp only [Act.put, List.setIfInBounds_toArray, List.set_cons_zero, List.set_cons_succ, List.getElem_toArray, List.getElem_cons_succ, List.getElem_cons_zero]
        go_wp2_with fail
        go_meet
        case rel => exact ⟨w2.heap.size, rfl, rfl, Nat.le_refl _, ((((hB5.setCell (by dsimp only; omega) _).setCell (by dsimp only; omega) _).setCell (by dsimp only; omega) _).setCell (by dsimp only; omega) _), four_cells HB1.out _ _ _ _ _ rfl⟩
    refine AllReadyH.cons rfl (fun K1 hK1 => ?_) AllReadyH.nil
    · go_simp
      refine hK1.out _ _ (KS _ (pure_alloc _ _).drew) (fun hHeld => ?_)
      clear hK1
      try simp only [Act.put, List.setIfInBounds_toArray, List.set_cons_zero, List.set_cons_succ, List.getElem_toArray, List.getElem_cons_succ, List.getElem_cons_zero]
      have Y3 : (w2.alloc (.cells #[.int .i64 0, .int .i64 0, .int .i64 0, .int .i64 0] 49)).drew.heap[w2.heap.size]? = some (.cells #[.int .i64 0, .int .i64 0, .int .i64 0, .int .i64 0] 49 (0, 0)) := alloc_new w2 _
      have PA : Below w2.heap.size w2 (w2.alloc (.cells #[.int .i64 0, .int .i64 0, .int .i64 0, .int .i64 0] 49)).drew := (pure_alloc w2 _).drew
      generalize (w2.alloc (.cells #[.int .i64 0, .int .i64 0, .int .i64 0, .int .i64 0] 49)).drew = wA at *
      refine wpAnyH_ready (rs := [2]) (by kernel_rfl) (by simp) ?_
      refine AllReadyH.cons rfl (fun K1 hK1 => ?_) AllReadyH.nil
      go_simp
      refine (mod_any _ _ _ (by omega) (by omega)).mono ?_
      rintro e u ⟨rfl, rfl⟩
      refine hK1.out _ _ hHeld (fun hHeld => ?_)
      clear hK1
      try simp only [Act.put, List.setIfInBounds_toArray, List.set_cons_zero, List.set_cons_succ, List.getElem_toArray, List.getElem_cons_succ, List.getElem_cons_zero]
      refine wpAnyH_take (i := 3) (v := ?_) rfl (by kernel_rfl) (by kernel_rfl) (by kernel_rfl) (fun _ _ _ h => h) (Or.inl ⟨by rfl, ?_⟩) hHeld ?_
      rotate_left
      · (intro W hSw; (try dsimp only at hSw); go_simp; try with_reducible rfl)
      try simp only [Act.put, List.setIfInBounds_toArray, List.set_cons_zero, List.set_cons_succ, List.getElem_toArray, List.getElem_cons_succ, List.getElem_cons_zero]
      refine wpAnyH_ready (rs := [4]) (by kernel_rfl) (by simp) ?_
      refine AllReadyH.cons rfl (fun K1 hK1 => ?_) AllReadyH.nil
      go_simp
      refine (HO.out _ PA).mono ?_
      rintro e w5 ⟨rfl, hw5⟩
      have hB5 := pure_trans PA hw5
      have B1 := Below.keep hw5 Y3 (lt_of_block Y3)
      refine hK1.out _ _ (KS _ hB5) (fun hHeld => ?_)
      clear hK1
      try simp only [Act.put, List.setIfInBounds_toArray, List.set_cons_zero, List.set_cons_succ, List.getElem_toArray, List.getElem_cons_succ, List.getElem_cons_zero]
      refine wpAnyH_take (i := 5) (v := ?_) rfl (by kernel_rfl) (by kernel_rfl) (by kernel_rfl) (fun _ _ _ h => h) (Or.inl ⟨by rfl, ?_⟩) hHeld ?_
      rotate_left
      · (intro W hSw; (try dsimp only at hSw); go_simp; try with_reducible rfl)
      try simp only [Act.put, List.setIfInBounds_toArray, List.set_cons_zero, List.set_cons_succ, List.getElem_toArray, List.getElem_cons_succ, List.getElem_cons_zero]
      refine wpAnyH_take (i := 6) (v := ?_) rfl (by kernel_rfl) (by kernel_rfl) (by kernel_rfl) (fun _ _ _ h => h) (Or.inl ⟨by rfl, ?_⟩) hHeld ?_
      rotate_left
      · (intro W hSw; (try dsimp only at hSw); go_simp; try with_reducible rfl)
      try simp only [Act.put, List.setIfInBounds_toArray, List.set_cons_zero, List.set_cons_succ, List.getElem_toArray, List.getElem_cons_succ, List.getElem_cons_zero]
      refine wpAnyH_take (i := 7) (v := ?_) rfl (by kernel_rfl) (by kernel_rfl) (by kernel_rfl) (fun _ _ _ h => h) (Or.inl ⟨by rfl, ?_⟩) hHeld ?_
      rotate_left
      · (intro W hSw; (try dsimp only at hSw); go_simp; try with_reducible rfl)
      try simp only [Act.put, List.setIfInBounds_toArray, List.set_cons_zero, List.set_cons_succ, List.getElem_toArray, List.getElem_cons_succ, List.getElem_cons_zero]
      have d1 := cell_of_arr B1 0
      have d2 := cell_of_arr B1 1
      have d3 := cell_of_arr B1 2
      have d4 := cell_of_arr B1 3
      have f1 := frozen_of_arr B1 0
      have f2 := frozen_of_arr B1 1
      have f3 := frozen_of_arr B1 2
      have f4 := frozen_of_arr B1 3
      simp at d1 d2 d3 d4
      have HB1 := Lib.hid B1
      clear B1
      refine wpAnyH_ready (rs := [9]) (by kernel_rfl) (by simp) ?_
      refine AllReadyH.cons rfl (fun K1 hK1 => ?_) AllReadyH.nil
      go_simp
      refine hK1.out _ _ (KS _ ((((hB5.setCell (by dsimp only; omega) _).setCell (by dsimp only; omega) _).setCell (by dsimp only; omega) _).setCell (by dsimp only; omega) _)) (fun hHeld => ?_)
      clear hK1
      try simp only [Act.put, List.setIfInBounds_toArray, List.set_cons_zero, List.set_cons_succ, List.getElem_toArray, List.getElem_cons_succ, List.getElem_cons_zero]
      refine wpAnyH_take (i := 10) (v := ?_) rfl (by kernel_rfl) (by kernel_rfl) (by kernel_rfl) (fun _ _ _ h => h) (Or.inl ⟨by rfl, ?_⟩) hHeld ?_
      rotate_left
      · (intro W hSw; (try dsimp only at hSw); go_simp; try with_reducible rfl)
      try simp only [Act.put, List.setIfInBounds_toArray, List.set_cons_zero, List.set_cons_succ, List.getElem_toArray, List.getElem_cons_succ, List.getElem_cons_zero]
      refine wpAnyH_done (by kernel_rfl) ?_ _
      try simp only [Act.put, List.setIfInBounds_toArray, List.set_cons_zero, List.set_cons_succ, List.getElem_toArray, List.getElem_cons_succ, List.getElem_cons_zero]
      go_wp2_with fail
      go_meet
      case rel => exact ⟨w2.heap.size, rfl, rfl, Nat.le_refl _, ((((hB5.setCell (by dsimp only; omega) _).setCell (by dsimp only; omega) _).setCell (by dsimp only; omega) _).setCell (by dsimp only; omega) _), four_cells HB1.out _ _ _ _ _ rfl⟩
  case rest =>
    obtain ⟨bc, rfl, rfl, hX, hB, hC⟩ := hcut
    have HST : Hid (NSt w bf bc s 0 (-1) wc) := ⟨sz, pa, pn, pc, ea, en, ec, _, 0, 0, Below.keep hB HN2.out hb, hC, FOff.of_new HFN.out (by have := HK2.out.2.1; have := hB.size; have := HBE.out; omega) (Or.inr (by have := HBE.out; omega)) (Or.inr (by have := HBE.out; omega)) (fun k h1 h2 => (hB.block k (by have := HBE.out; omega)).trans (HK2.out.2.2 k (by have := HBE.out; omega))), Fl.NInv.start s, pure_trans HW2.out hB⟩
    have hne : bf ≠ bc := by omega
    have hlo2 : w.heap.size ≤ bc := by omega
    clear hB hC HO HN2 HF2 HW2 c1 c2 c3 hX hb HSC q5 q5' HFN HK2 HBE
    go_wp2_with fail
    go_loopw [9, 47] (fun la i wr => ∃ (j : Nat) (last : Int), la = .int .i64 last ∧ i = .int .i64 j ∧ j ≤ len ∧ NSt w bf bc s j last wr) (fun _ i _ => len - (intOf i).toNat)
    case atStart => exact ⟨0, -1, rfl, rfl, by omega, HST.out⟩
    case round =>
      obtain ⟨j, last, rfl, rfl, hj, hst⟩ := hrel
      obtain ⟨sz, pa, pn, pc, ea, en, ec, m, nx, L, hM, hC, hF, hI, hB⟩ := hst
      clear HST
      by_cases hlt : j < len
      · obtain ⟨b, o, rfl, hv0, hv1, hv2⟩ := HI.out.2.2 j hlt
        have hv := (hB.cell (p := ⟨b, o + j, none⟩) (lt_of_cell hv0)).trans hv0
        generalize l.getD j 0 = v at *
        clear hv0
        have HM := Lib.hid hM
        have HC := Lib.hid hC
        have HF := Lib.hid hF.rep
        have HOFF := Lib.hid hF
        have HN := Lib.hid hI
        have HB := Lib.hid hB
        have hL : L ≤ 9223372036854775807 := by have := hI.bd; dsimp only at this; omega
        have c1 := cell_of_arr hM 0
        have c2 := cell_of_arr hM 1
        have c3 := cell_of_arr hM 2
        have k1 := cell_of_arr hC 0
        have k2 := cell_of_arr hC 1
        have k3 := cell_of_arr hC 2
        have k4 := cell_of_arr hC 3
        simp at c1 c2 c3 k1 k2 k3 k4
        clear hM hC hF hI hB
        have m4 := Int.emod_lt_of_pos v (show (0 : Int) < 4 by omega)
        have m4' := Int.emod_nonneg v (show (4 : Int) ≠ 0 by omega)
        by_cases hpos : 0 < v % 4
        · go_wp2_with (go_at_call 12; refine (mod_any _ _ _ (by omega) (by omega)).mono ?_; rintro e w2 ⟨rfl, rfl⟩)
          refine (take_any sz pa pn pc ea en ec 0 s nx L m wr HF.out hL).mono ?_
          rintro e w5 ⟨sz', pa', pn', pc', ea', en', ec', rfl, hF5, hw5⟩
          have hT := Fl.NInv.take HN.out ⟨hs3, hs4⟩ (by omega)
          generalize Fl.takeP m ⟨0, s, nx, L⟩ = tk at *
          obtain ⟨m', ⟨ck', cs', cn', cl'⟩, n', er'⟩ := tk
          dsimp only at hT hF5 ⊢
          simp only [ctrV]
          have HF5 := Lib.hid hF5
          have HB5 := Lib.hid (pure_trans HB.out hw5)
          have M5 := Below.keep hw5 HM.out (lt_of_block HM.out)
          have C5 := Below.keep hw5 HC.out (lt_of_block HC.out)
          have hbf := lt_of_block HM.out
          have hbc := lt_of_block HC.out
          have hsz5 := hw5.size
          clear hF5 hw5 c1 c2 c3 k1 k2 k3 k4 HM HC HF HN HB hv HOFF
          rcases hT with h35 | ⟨h0, hgt, hinv⟩
          · obtain rfl := h35
            go_wp2_with fail
            refine (awake_any _).mono ?_
            rintro e w7 ⟨rfl, hw7⟩
            have HB7 := Lib.hid ((((HB5.out.alloc HB5.out.size _).alloc (by have := HB5.out.size; simp; omega) _).trans (hw7.mono (by have := HB5.out.size; simp; omega))))
            clear hw7
            go_wp2_with fail
            go_ret
            exact ⟨rfl, HB7.out⟩
          · obtain rfl := h0
            have hgt' : decide (n' ≤ last) = false := by simp; omega
            have hkey := hinv.key
            have hstep := hinv.step
            dsimp only at hkey hstep
            obtain rfl := hkey
            obtain rfl := hstep
            have HINV := Lib.hid hinv
            clear hinv hgt
            go_upto_region 16 with fail
            have X1 : ((w5.alloc (.cells #[.int .i64 sz', .slice pa' pn' pc', .slice ea' en' ec'] 32)).alloc (.cells #[.int .i64 0, .int .i64 cs', .int .i64 cn', .int .i64 cl'] 49)).heap[w5.heap.size]? = some (.cells #[.int .i64 sz', .slice pa' pn' pc', .slice ea' en' ec'] 32 (0, 0)) := alloc_keep (alloc_new _ _)
            have X2 : ((w5.alloc (.cells #[.int .i64 sz', .slice pa' pn' pc', .slice ea' en' ec'] 32)).alloc (.cells #[.int .i64 0, .int .i64 cs', .int .i64 cn', .int .i64 cl'] 49)).heap[w5.heap.size + 1]? = some (.cells #[.int .i64 0, .int .i64 cs', .int .i64 cn', .int .i64 cl'] 49 (0, 0)) := alloc_new' _ _ _ (by simp)
            have M6 := alloc_keep (o' := .cells #[.int .i64 0, .int .i64 cs', .int .i64 cn', .int .i64 cl'] 49) (alloc_keep (o' := .cells #[.int .i64 sz', .slice pa' pn' pc', .slice ea' en' ec'] 32) M5)
            have C6 := alloc_keep (o' := .cells #[.int .i64 0, .int .i64 cs', .int .i64 cn', .int .i64 cl'] 49) (alloc_keep (o' := .cells #[.int .i64 sz', .slice pa' pn' pc', .slice ea' en' ec'] 32) C5)
            have P6 : Below w.heap.size w ((w5.alloc (.cells #[.int .i64 sz', .slice pa' pn' pc', .slice ea' en' ec'] 32)).alloc (.cells #[.int .i64 0, .int .i64 cs', .int .i64 cn', .int .i64 cl'] 49)) := (HB5.out.alloc HB5.out.size _).alloc (by have := HB5.out.size; simp; omega) _
            have K6 : ∀ k, k < w5.heap.size → ((w5.alloc (.cells #[.int .i64 sz', .slice pa' pn' pc', .slice ea' en' ec'] 32)).alloc (.cells #[.int .i64 0, .int .i64 cs', .int .i64 cn', .int .i64 cl'] 49)).heap[k]? = w5.heap[k]? := fun k hk => by rw [Below.heap_alloc _ _ _ (by simp; omega), Below.heap_alloc _ _ _ hk]
            generalize ((w5.alloc (.cells #[.int .i64 sz', .slice pa' pn' pc', .slice ea' en' ec'] 32)).alloc (.cells #[.int .i64 0, .int .i64 cs', .int .i64 cn', .int .i64 cl'] 49)) = w6 at *
            have hs56 := lt_of_block X2
            have HK6 := Lib.hid K6
            have HP6 := Lib.hid P6
            have x1 := cell_of_arr X1 0
            have x2 := cell_of_arr X1 1
            have x3 := cell_of_arr X1 2
            simp at x1 x2 x3
            have y1 := cell_of_arr X2 0
            have y2 := cell_of_arr X2 1
            have y3 := cell_of_arr X2 2
            have y4 := cell_of_arr X2 3
            simp at y1 y2 y3 y4
            have d1 := cell_of_arr M6 0
            have d2 := cell_of_arr M6 1
            have d3 := cell_of_arr M6 2
            have f1 := frozen_of_arr M6 0
            have f2 := frozen_of_arr M6 1
            have f3 := frozen_of_arr M6 2
            simp at d1 d2 d3
            have e1 := cell_of_arr C6 0
            have e2 := cell_of_arr C6 1
            have e3 := cell_of_arr C6 2
            have e4 := cell_of_arr C6 3
            have g1 := frozen_of_arr C6 0
            have g2 := frozen_of_arr C6 1
            have g3 := frozen_of_arr C6 2
            have g4 := frozen_of_arr C6 3
            simp at e1 e2 e3 e4
            have Q := put34 M6 C6 hne (.int .i64 sz') (.slice pa' pn' pc') (.slice ea' en' ec') (.int .i64 0) (.int .i64 cs') (.int .i64 cn') (.int .i64 cl') _ rfl
            have HQ := Lib.hid Q
            clear Q K6 P6 X1 X2 M6 C6 M5 C5
            go_region
            have Q := HQ.out
            generalize (((((((w6.setCell ⟨bf, 0, none⟩ (.int .i64 sz')).setCell ⟨bf, 1, none⟩ (.slice pa' pn' pc')).setCell ⟨bf, 2, none⟩ (.slice ea' en' ec')).setCell ⟨bc, 0, none⟩ (.int .i64 0)).setCell ⟨bc, 1, none⟩ (.int .i64 cs')).setCell ⟨bc, 2, none⟩ (.int .i64 cn')).setCell ⟨bc, 3, none⟩ (.int .i64 cl')) = w7 at Q ⊢
            have HQ7 := Lib.hid Q
            have HS7 : Hid (w5.heap.size ≤ w7.drew.heap.size) := by
              show w5.heap.size ≤ w7.heap.size
              have h1 := (Q.2.2.2 0 w6 (Nat.zero_le _) (Nat.zero_le _) (Below.refl _ _)).size
              omega
            clear Q HQ
            go_wp2_with fail
            go_roundw
            case rel =>
              obtain ⟨S2, S3, S4, S5⟩ := HQ7.out
              refine ⟨j + 1, n', rfl, by go_num, by omega, sz', pa', pn', pc', ea', en', ec', m', cn', cl', S2, S3, ?_, HINV.out, below_drew (S5 _ _ hlo hlo2 HP6.out)⟩
              exact FOff.of_new HF5.out HS7.out (Or.inl hbf) (Or.inl hbc) (fun k h1 h2 => (S4 k (by omega) (by omega)).trans (HK6.out k h2))
            case measure => simp [intOf]; omega
        · have hz : v % 4 = 0 := by omega
          go_wp2_with (go_at_call 12; refine (mod_any _ _ _ (by omega) (by omega)).mono ?_; rintro e w2 ⟨rfl, rfl⟩)
          refine (reserve_any sz pa pn pc ea en ec 0 s nx L m wr HF.out hL).mono ?_
          rintro e w5 ⟨rfl, hw5⟩
          have hTorn := Lib.hid (Fl.NInv.torn HN.out ⟨hs3, hs4⟩)
          have hStay := Fl.NInv.stay HN.out ⟨hs3, hs4⟩
          have HOFF5 := Lib.hid (FOff.on HOFF.out hw5.size (fun k _ _ h3 => hw5.block k h3))
          have HB5 := Lib.hid (pure_trans HB.out hw5)
          have M5 := Below.keep hw5 HM.out (lt_of_block HM.out)
          have C5 := Below.keep hw5 HC.out (lt_of_block HC.out)
          clear hw5 HM HC HF HN HB HOFF hv c1 c2 c3 k1 k2 k3 k4
          dsimp only at hStay
          generalize Fl.reserveP m ⟨0, s, nx, L⟩ = rp at *
          obtain ⟨rn, lm, er⟩ := rp
          dsimp only at hTorn ⊢
          have c1 := cell_of_arr M5 0
          have c2 := cell_of_arr M5 1
          have c3 := cell_of_arr M5 2
          simp at c1 c2 c3
          have k1 := cell_of_arr C5 0
          have k2 := cell_of_arr C5 1
          have k3 := cell_of_arr C5 2
          have k4 := cell_of_arr C5 3
          simp at k1 k2 k3 k4
          have HM5 := Lib.hid M5
          have HC5 := Lib.hid C5
          clear M5 C5
          by_cases hgo : er = 0 ∧ lm ≠ L
          · obtain ⟨rfl, hlm⟩ := hgo
            have hlm' : (lm != L) = true := by simpa using hlm
            obtain ⟨t1, t2⟩ := hTorn.out rfl hlm
            have HT2 := Lib.hid t2
            clear t2 hTorn hlm
            go_wp2_with fail
            refine (steps_any sz pa pn pc ea en ec 0 lm m w5 HOFF5.out.rep).mono ?_
            rintro e w6 ⟨rfl, hw6⟩
            rw [t1]
            obtain ⟨z1, z2, z3, z4, z5⟩ := Fl.stepsRes_zero t1
            have z6 := stepsP_len m 0 lm
            generalize (stepsRes m 0 lm).1 = sn at *
            have hsn0 : 0 ≤ sn := by omega
            have hsn1 : sn ≤ 1000000 := by omega
            clear z1 z2 z3 z4 z5 z6 t1
            have HB6 := Lib.hid (pure_trans HB5.out hw6)
            have HOFF6 := Lib.hid (FOff.on HOFF5.out hw6.size (fun k _ _ h3 => hw6.block k h3))
            have M6 := Below.keep hw6 HM5.out (lt_of_block HM5.out)
            have C6 := Below.keep hw6 HC5.out (lt_of_block HC5.out)
            have hbf := lt_of_block M6
            have hbc := lt_of_block C6
            clear hw6 HB5 HOFF5 HM5 HC5 c1 c2 c3 k1 k2 k3 k4 hStay
            have c1 := cell_of_arr M6 0
            have c2 := cell_of_arr M6 1
            have c3 := cell_of_arr M6 2
            have k1 := cell_of_arr C6 0
            have k2 := cell_of_arr C6 1
            simp at c1 c2 c3 k1 k2
            have HM6 := Lib.hid M6
            have HC6 := Lib.hid C6
            clear M6 C6
            have r1 := Int.emod_nonneg (v.tdiv 4) (show sn + 1 ≠ 0 by omega)
            have r2 := Int.emod_lt_of_pos (v.tdiv 4) (show 0 < sn + 1 by omega)
            obtain ⟨tk1, tk2, tk3⟩ := HT2.out ((v.tdiv 4) % (sn + 1)) r1 (by omega)
            have HINVq := Lib.hid (And.intro tk2 tk3)
            have HTN : Hid (∀ W : World, Below w6.heap.size w6 W → Calls Try.prog 22 #[.agg #[.int .i64 sz, .slice pa pn pc, .slice ea en ec], .int .i64 0, .int .i64 lm, .int .i64 ((v.tdiv 4) % (sn + 1))] W (FPost (Fl.tornP m 0 lm ((v.tdiv 4) % (sn + 1))) W)) := by
              show ∀ W : World, _ → _
              exact fun W hW => torn_any sz pa pn pc ea en ec 0 lm _ m W (HOFF6.out.rep.below hW)
            clear tk2 tk3 HT2
            generalize Fl.tornP m 0 lm ((v.tdiv 4) % (sn + 1)) = tq at *
            obtain ⟨mq, er⟩ := tq
            dsimp only at tk1 HINVq
            have HER := Lib.hid tk1
            clear tk1
            go_upto_region 20 with fail
            go_cut [21, 22] (fun x y W => ∃ (X : Nat) (sz' : Int) (pa' : Option Addr) (pn' pc' : Nat) (ea' : Option Addr) (en' ec' : Nat), x = .pointer (some ⟨X, 0, none⟩) ∧ y = .int .i64 0 ∧ w6.heap.size ≤ X ∧ Below w6.heap.size w6 W ∧ W.heap[X]? = some (.cells #[.int .i64 sz', .slice pa' pn' pc', .slice ea' en' ec'] 32 (0, 0)) ∧ FOff bf bc W sz' pa' pn' ea' en' mq)
            case first =>
              have hsum : IntKind.i64.wrap (sn + 1) = sn + 1 := wrap_i64 _ (by omega) (by omega)
              have hq4 : v.tdiv 4 = v / 4 := Int.tdiv_eq_ediv_of_dvd (by omega)
              have hquo : IntKind.i64.wrap (v.tdiv 4) = v.tdiv 4 := wrap_i64 _ (by omega) (by omega)
              clear hq4
              have KS : ∀ W : World, Below w6.heap.size w6 W → W.cell? ⟨bf, 0, none⟩ = some (.int .i64 sz) ∧ W.cell? ⟨bf, 1, none⟩ = some (.slice pa pn pc) ∧ W.cell? ⟨bf, 2, none⟩ = some (.slice ea en ec) ∧ W.cell? ⟨bc, 0, none⟩ = some (.int .i64 0) := fun W hW => ⟨(hW.cell (p := ⟨bf, 0, none⟩) hbf).trans c1, (hW.cell (p := ⟨bf, 1, none⟩) hbf).trans c2, (hW.cell (p := ⟨bf, 2, none⟩) hbf).trans c3, (hW.cell (p := ⟨bc, 0, none⟩) hbc).trans k1⟩
              refine wp_region_held_drew (S := (fun W => W.cell? ⟨bf, 0, none⟩ = some (.int .i64 sz) ∧ W.cell? ⟨bf, 1, none⟩ = some (.slice pa pn pc) ∧ W.cell? ⟨bf, 2, none⟩ = some (.slice ea en ec) ∧ W.cell? ⟨bc, 0, none⟩ = some (.int .i64 0))) (by kernel_rfl) ⟨c1, c2, c3, k1⟩ (fun hHeld => ?_)
              refine wpAnyH_take (i := 0) (v := ?_) rfl (by kernel_rfl) (by kernel_rfl) (by kernel_rfl) (fun _ _ _ h => h) (Or.inl ⟨by rfl, ?_⟩) hHeld ?_
              rotate_left
              · (intro W hSw; (try dsimp only at hSw); go_simp; try with_reducible rfl)
              try simp only [Act.put, List.setIfInBounds_toArray, List.set_cons_zero, List.set_cons_succ, List.getElem_toArray, List.getElem_cons_succ, List.getElem_cons_zero]
              refine wpAnyH_take (i := 1) (v := ?_) rfl (by kernel_rfl) (by kernel_rfl) (by kernel_rfl) (fun _ _ _ h => h) (Or.inl ⟨by rfl, ?_⟩) hHeld ?_
              rotate_left
              · (intro W hSw; (try dsimp only at hSw); go_simp; try with_reducible rfl)
              try simp only [Act.put, List.setIfInBounds_toArray, List.set_cons_zero, List.set_cons_succ, List.getElem_toArray, List.getElem_cons_succ, List.getElem_cons_zero]
              refine wpAnyH_take (i := 2) (v := ?_) rfl (by kernel_rfl) (by kernel_rfl) (by kernel_rfl) (fun _ _ _ h => h) (Or.inl ⟨by rfl, ?_⟩) hHeld ?_
              rotate_left
              · (intro W hSw; (try dsimp only at hSw); go_simp; try with_reducible rfl)
              try simp only [Act.put, List.setIfInBounds_toArray, List.set_cons_zero, List.set_cons_succ, List.getElem_toArray, List.getElem_cons_succ, List.getElem_cons_zero]
              refine wpAnyH_take (i := 3) (v := ?_) rfl (by kernel_rfl) (by kernel_rfl) (by kernel_rfl) (fun _ _ _ h => h) (Or.inl ⟨by rfl, ?_⟩) hHeld ?_
              rotate_left
              · (intro W hSw; (try dsimp only at hSw); go_simp; try with_reducible rfl)
              try simp only [Act.put, List.setIfInBounds_toArray, List.set_cons_zero, List.set_cons_succ, List.getElem_toArray, List.getElem_cons_succ, List.getElem_cons_zero]
              refine wpAnyH_take (i := 4) (v := ?_) rfl (by kernel_rfl) (by kernel_rfl) (by kernel_rfl) (fun _ _ _ h => h) (Or.inl ⟨by rfl, ?_⟩) hHeld ?_
              rotate_left
              · (intro W hSw; (try dsimp only at hSw); go_simp; try with_reducible rfl)
              try simp only [Act.put, List.setIfInBounds_toArray, List.set_cons_zero, List.set_cons_succ, List.getElem_toArray, List.getElem_cons_succ, List.getElem_cons_zero]
              refine wpAnyH_take (i := 5) (v := ?_) rfl (by kernel_rfl) (by kernel_rfl) (by kernel_rfl) (fun _ _ _ h => h) (Or.inl ⟨by rfl, ?_⟩) hHeld ?_
              rotate_left
              · (intro W hSw; (try dsimp only at hSw); go_simp; try with_reducible rfl)
              try simp only [Act.put, List.setIfInBounds_toArray, List.set_cons_zero, List.set_cons_succ, List.getElem_toArray, List.getElem_cons_succ, List.getElem_cons_zero]
              refine wpAnyH_take (i := 6) (v := ?_) rfl (by kernel_rfl) (by kernel_rfl) (by kernel_rfl) (fun _ _ _ h => h) (Or.inl ⟨by rfl, ?_⟩) hHeld ?_
              rotate_left
              · (intro W hSw; (try dsimp only at hSw); go_simp; try with_reducible rfl)
              try simp only [Act.put, List.setIfInBounds_toArray, List.set_cons_zero, List.set_cons_succ, List.getElem_toArray, List.getElem_cons_succ, List.getElem_cons_zero]
              refine wpAnyH_take (i := 7) (v := ?_) rfl (by kernel_rfl) (by kernel_rfl) (by kernel_rfl) (fun _ _ _ h => h) (Or.inl ⟨by rfl, ?_⟩) hHeld ?_
              rotate_left
              · (intro W hSw; (try dsimp only at hSw); go_simp; try with_reducible rfl)
              try simp only [Act.put, List.setIfInBounds_toArray, List.set_cons_zero, List.set_cons_succ, List.getElem_toArray, List.getElem_cons_succ, List.getElem_cons_zero]
              refine wpAnyH_ready (rs := [8, 13]) (by kernel_rfl) (by simp) ?_
              refine AllReadyH.cons rfl (fun K1 hK1 => ?_) ?_
              · go_simp
                refine (mod_any _ _ _ (by omega) (by omega)).mono ?_
                rintro e u ⟨rfl, rfl⟩
                refine hK1.out _ _ hHeld (fun hHeld => ?_)
                clear hK1
                try simp only [Act.put, List.setIfInBounds_toArray, List.set_cons_zero, List.set_cons_succ, List.getElem_toArray, List.getElem_cons_succ, List.getElem_cons_zero]
                refine wpAnyH_ready (rs := [9, 13]) (by kernel_rfl) (by simp) ?_
                refine AllReadyH.cons rfl (fun K1 hK1 => ?_) ?_
                · have hB0 : Below w6.heap.size w6 w6.drew := (Below.refl _ _).drew
                  go_simp
                  refine (HTN.out _ hB0).mono ?_
                  rintro e w7 ⟨sz', pa', pn', pc', ea', en', ec', rfl, hF7, hw7⟩
                  have hB7 := pure_trans hB0 hw7
                  refine hK1.out _ _ (KS _ hB7) (fun hHeld => ?_)
                  clear hK1
                  try simp only [Act.put, List.setIfInBounds_toArray, List.set_cons_zero, List.set_cons_succ, List.getElem_toArray, List.getElem_cons_succ, List.getElem_cons_zero]
                  refine wpAnyH_take (i := 10) (v := ?_) rfl (by kernel_rfl) (by kernel_rfl) (by kernel_rfl) (fun _ _ _ h => h) (Or.inl ⟨by rfl, ?_⟩) hHeld ?_
                  rotate_left
                  · (intro W hSw; (try dsimp only at hSw); go_simp; try with_reducible rfl)
                  try simp only [Act.put, List.setIfInBounds_toArray, List.set_cons_zero, List.set_cons_succ, List.getElem_toArray, List.getElem_cons_succ, List.getElem_cons_zero]
                  refine wpAnyH_take (i := 11) (v := ?_) rfl (by kernel_rfl) (by kernel_rfl) (by kernel_rfl) (fun _ _ _ h => h) (Or.inl ⟨by rfl, ?_⟩) hHeld ?_
                  rotate_left
                  · (intro W hSw; (try dsimp only at hSw); go_simp; try with_reducible rfl)
                  try simp only [Act.put, List.setIfInBounds_toArray, List.set_cons_zero, List.set_cons_succ, List.getElem_toArray, List.getElem_cons_succ, List.getElem_cons_zero]
                  refine wpAnyH_take (i := 12) (v := ?_) rfl (by kernel_rfl) (by kernel_rfl) (by kernel_rfl) (fun _ _ _ h => h) (Or.inl ⟨by rfl, ?_⟩) hHeld ?_
                  rotate_left
                  · (intro W hSw; (try dsimp only at hSw); go_simp; try with_reducible rfl)
                  try simp only [Act.put, List.setIfInBounds_toArray, List.set_cons_zero, List.set_cons_succ, List.getElem_toArray, List.getElem_cons_succ, List.getElem_cons_zero]
                  refine wpAnyH_ready (rs := [13]) (by kernel_rfl) (by simp) ?_
                  refine AllReadyH.cons rfl (fun K1 hK1 => ?_) AllReadyH.nil
                  go_simp
                  refine hK1.out _ _ (KS _ (pure_trans hB7 (pure_alloc _ _))) (fun hHeld => ?_)
                  clear hK1
                  try simp only [Act.put, List.setIfInBounds_toArray, List.set_cons_zero, List.set_cons_succ, List.getElem_toArray, List.getElem_cons_succ, List.getElem_cons_zero]
                  refine wpAnyH_ready (rs := [14]) (by kernel_rfl) (by simp) ?_
                  refine AllReadyH.cons rfl (fun K1 hK1 => ?_) AllReadyH.nil
                  go_simp
                  refine hK1.out _ _ (KS _ (pure_trans hB7 (pure_alloc _ _))) (fun hHeld => ?_)
                  clear hK1
                  try simp only [Act.put, List.setIfInBounds_toArray, List.set_cons_zero, List.set_cons_succ, List.getElem_toArray, List.getElem_cons_succ, List.getElem_cons_zero]
                  refine wpAnyH_take (i := 15) (v := ?_) rfl (by kernel_rfl) (by kernel_rfl) (by kernel_rfl) (fun _ _ _ h => h) (Or.inl ⟨by rfl, ?_⟩) hHeld ?_
                  rotate_left
                  · (intro W hSw; (try dsimp only at hSw); go_simp; try with_reducible rfl)
                  try simp only [Act.put, List.setIfInBounds_toArray, List.set_cons_zero, List.set_cons_succ, List.getElem_toArray, List.getElem_cons_succ, List.getElem_cons_zero]
                  refine wpAnyH_done (by kernel_rfl) ?_ _
                  try simp only [Act.put, List.setIfInBounds_toArray, List.set_cons_zero, List.set_cons_succ, List.getElem_toArray, List.getElem_cons_succ, List.getElem_cons_zero]
                  go_wp2_with fail
                  go_meet
                  case rel => exact ⟨w7.heap.size, sz', pa', pn', pc', ea', en', ec', rfl, by rw [HER.out], hB7.size, pure_trans hB7 (pure_alloc _ _), alloc_new _ _, FOff.of_new hF7 (pure_alloc w7 _).size (Or.inl hbf) (Or.inl hbc) (fun k h1 h2 => (pure_alloc w7 _).block k h2)⟩
                refine AllReadyH.cons rfl (fun K1 hK1 => ?_) AllReadyH.nil
                · go_simp
                  refine hK1.out _ _ (KS _ (pure_alloc _ _).drew) (fun hHeld => ?_)
                  clear hK1
                  try simp only [Act.put, List.setIfInBounds_toArray, List.set_cons_zero, List.set_cons_succ, List.getElem_toArray, List.getElem_cons_succ, List.getElem_cons_zero]
                  have Y3 : (w6.alloc (.cells #[.int .i64 0, .slice none 0 0, .slice none 0 0] 32)).drew.heap[w6.heap.size]? = some (.cells #[.int .i64 0, .slice none 0 0, .slice none 0 0] 32 (0, 0)) := alloc_new w6 _
                  have PA : Below w6.heap.size w6 (w6.alloc (.cells #[.int .i64 0, .slice none 0 0, .slice none 0 0] 32)).drew := (pure_alloc w6 _).drew
                  have hsA : w6.heap.size < (w6.alloc (.cells #[.int .i64 0, .slice none 0 0, .slice none 0 0] 32)).drew.heap.size := lt_of_block Y3
                  generalize (w6.alloc (.cells #[.int .i64 0, .slice none 0 0, .slice none 0 0] 32)).drew = wA at *
                  refine wpAnyH_ready (rs := [9]) (by kernel_rfl) (by simp) ?_
                  refine AllReadyH.cons rfl (fun K1 hK1 => ?_) AllReadyH.nil
                  go_simp
                  refine (HTN.out _ PA).mono ?_
                  rintro e w7 ⟨sz', pa', pn', pc', ea', en', ec', rfl, hF7, hw7⟩
                  have hB7 := pure_trans PA hw7
                  have B1 := Below.keep hw7 Y3 (lt_of_block Y3)
                  refine hK1.out _ _ (KS _ hB7) (fun hHeld => ?_)
                  clear hK1
                  try simp only [Act.put, List.setIfInBounds_toArray, List.set_cons_zero, List.set_cons_succ, List.getElem_toArray, List.getElem_cons_succ, List.getElem_cons_zero]
                  refine wpAnyH_take (i := 10) (v := ?_) rfl (by kernel_rfl) (by kernel_rfl) (by kernel_rfl) (fun _ _ _ h => h) (Or.inl ⟨by rfl, ?_⟩) hHeld ?_
                  rotate_left
                  · (intro W hSw; (try dsimp only at hSw); go_simp; try with_reducible rfl)
                  try simp only [Act.put, List.setIfInBounds_toArray, List.set_cons_zero, List.set_cons_succ, List.getElem_toArray, List.getElem_cons_succ, List.getElem_cons_zero]
                  refine wpAnyH_take (i := 11) (v := ?_) rfl (by kernel_rfl) (by kernel_rfl) (by kernel_rfl) (fun _ _ _ h => h) (Or.inl ⟨by rfl, ?_⟩) hHeld ?_
                  rotate_left
                  · (intro W hSw; (try dsimp only at hSw); go_simp; try with_reducible rfl)
                  try simp only [Act.put, List.setIfInBounds_toArray, List.set_cons_zero, List.set_cons_succ, List.getElem_toArray, List.getElem_cons_succ, List.getElem_cons_zero]
                  refine wpAnyH_take (i := 12) (v := ?_) rfl (by kernel_rfl) (by kernel_rfl) (by kernel_rfl) (fun _ _ _ h => h) (Or.inl ⟨by rfl, ?_⟩) hHeld ?_
                  rotate_left
                  · (intro W hSw; (try dsimp only at hSw); go_simp; try with_reducible rfl)
                  try simp only [Act.put, List.setIfInBounds_toArray, List.set_cons_zero, List.set_cons_succ, List.getElem_toArray, List.getElem_cons_succ, List.getElem_cons_zero]
                  have d1 := cell_of_arr B1 0
                  have d2 := cell_of_arr B1 1
                  have d3 := cell_of_arr B1 2
                  have f1 := frozen_of_arr B1 0
                  have f2 := frozen_of_arr B1 1
                  have f3 := frozen_of_arr B1 2
                  simp at d1 d2 d3
                  have HB1 := Lib.hid B1
                  have hs7 := hw7.size
                  clear B1
                  refine wpAnyH_ready (rs := [14]) (by kernel_rfl) (by simp) ?_
                  refine AllReadyH.cons rfl (fun K1 hK1 => ?_) AllReadyH.nil
                  go_simp
                  refine hK1.out _ _ (KS _ (((hB7.setCell (by dsimp only; omega) _).setCell (by dsimp only; omega) _).setCell (by dsimp only; omega) _)) (fun hHeld => ?_)
                  clear hK1
                  try simp only [Act.put, List.setIfInBounds_toArray, List.set_cons_zero, List.set_cons_succ, List.getElem_toArray, List.getElem_cons_succ, List.getElem_cons_zero]
                  refine wpAnyH_take (i := 15) (v := ?_) rfl (by kernel_rfl) (by kernel_rfl) (by kernel_rfl) (fun _ _ _ h => h) (Or.inl ⟨by rfl, ?_⟩) hHeld ?_
                  rotate_left
                  · (intro W hSw; (try dsimp only at hSw); go_simp; try with_reducible rfl)
                  try simp only [Act.put, List.setIfInBounds_toArray, List.set_cons_zero, List.set_cons_succ, List.getElem_toArray, List.getElem_cons_succ, List.getElem_cons_zero]
                  refine wpAnyH_done (by kernel_rfl) ?_ _
                  try simp only [Act.put, List.setIfInBounds_toArray, List.set_cons_zero, List.set_cons_succ, List.getElem_toArray, List.getElem_cons_succ, List.getElem_cons_zero]
                  have Q3 := three_cells'' HB1.out (.int .i64 sz') (.slice pa' pn' pc') (.slice ea' en' ec') _ rfl
                  go_wp2_with fail
                  go_meet
                  case rel =>
                    obtain ⟨S1, S2, S3⟩ := Q3
                    exact ⟨w6.heap.size, sz', pa', pn', pc', ea', en', ec', rfl, by rw [HER.out], Nat.le_refl _, S3 _ _ (Nat.le_refl _) hB7, S1, FOff.of_new hF7 (S3 0 w7 (Nat.zero_le _) (Below.refl _ _)).size (Or.inl (by omega)) (Or.inl (by omega)) (fun k h1 h2 => S2 k (by omega))⟩
              refine AllReadyH.cons rfl (fun K1 hK1 => ?_) AllReadyH.nil
              · go_simp
                refine hK1.out _ _ (KS _ (pure_alloc _ _).drew) (fun hHeld => ?_)
                clear hK1
                try simp only [Act.put, List.setIfInBounds_toArray, List.set_cons_zero, List.set_cons_succ, List.getElem_toArray, List.getElem_cons_succ, List.getElem_cons_zero]
                have Y3 : (w6.alloc (.cells #[.int .i64 0, .slice none 0 0, .slice none 0 0] 32)).drew.heap[w6.heap.size]? = some (.cells #[.int .i64 0, .slice none 0 0, .slice none 0 0] 32 (0, 0)) := alloc_new w6 _
                have PA : Below w6.heap.size w6 (w6.alloc (.cells #[.int .i64 0, .slice none 0 0, .slice none 0 0] 32)).drew := (pure_alloc w6 _).drew
                have hsA : w6.heap.size < (w6.alloc (.cells #[.int .i64 0, .slice none 0 0, .slice none 0 0] 32)).drew.heap.size := lt_of_block Y3
                generalize (w6.alloc (.cells #[.int .i64 0, .slice none 0 0, .slice none 0 0] 32)).drew = wA at *
                refine wpAnyH_ready (rs := [8]) (by kernel_rfl) (by simp) ?_
                refine AllReadyH.cons rfl (fun K1 hK1 => ?_) AllReadyH.nil
                go_simp
                refine (mod_any _ _ _ (by omega) (by omega)).mono ?_
                rintro e u ⟨rfl, rfl⟩
                refine hK1.out _ _ hHeld (fun hHeld => ?_)
                clear hK1
                try simp only [Act.put, List.setIfInBounds_toArray, List.set_cons_zero, List.set_cons_succ, List.getElem_toArray, List.getElem_cons_succ, List.getElem_cons_zero]
                refine wpAnyH_ready (rs := [9]) (by kernel_rfl) (by simp) ?_
                refine AllReadyH.cons rfl (fun K1 hK1 => ?_) AllReadyH.nil
                go_simp
                refine (HTN.out _ PA).mono ?_
                rintro e w7 ⟨sz', pa', pn', pc', ea', en', ec', rfl, hF7, hw7⟩
                have hB7 := pure_trans PA hw7
                have B1 := Below.keep hw7 Y3 (lt_of_block Y3)
                refine hK1.out _ _ (KS _ hB7) (fun hHeld => ?_)
                clear hK1
                try simp only [Act.put, List.setIfInBounds_toArray, List.set_cons_zero, List.set_cons_succ, List.getElem_toArray, List.getElem_cons_succ, List.getElem_cons_zero]
                refine wpAnyH_take (i := 10) (v := ?_) rfl (by kernel_rfl) (by kernel_rfl) (by kernel_rfl) (fun _ _ _ h => h) (Or.inl ⟨by rfl, ?_⟩) hHeld ?_
                rotate_left
                · (intro W hSw; (try dsimp only at hSw); go_simp; try with_reducible rfl)
                try simp only [Act.put, List.setIfInBounds_toArray, List.set_cons_zero, List.set_cons_succ, List.getElem_toArray, List.getElem_cons_succ, List.getElem_cons_zero]
                refine wpAnyH_take (i := 11) (v := ?_) rfl (by kernel_rfl) (by kernel_rfl) (by kernel_rfl) (fun _ _ _ h => h) (Or.inl ⟨by rfl, ?_⟩) hHeld ?_
                rotate_left
                · (intro W hSw; (try dsimp only at hSw); go_simp; try with_reducible rfl)
                try simp only [Act.put, List.setIfInBounds_toArray, List.set_cons_zero, List.set_cons_succ, List.getElem_toArray, List.getElem_cons_succ, List.getElem_cons_zero]
                refine wpAnyH_take (i := 12) (v := ?_) rfl (by kernel_rfl) (by kernel_rfl) (by kernel_rfl) (fun _ _ _ h => h) (Or.inl ⟨by rfl, ?_⟩) hHeld ?_
                rotate_left
                · (intro W hSw; (try dsimp only at hSw); go_simp; try with_reducible rfl)
                try simp only [Act.put, List.setIfInBounds_toArray, List.set_cons_zero, List.set_cons_succ, List.getElem_toArray, List.getElem_cons_succ, List.getElem_cons_zero]
                have d1 := cell_of_arr B1 0
                have d2 := cell_of_arr B1 1
                have d3 := cell_of_arr B1 2
                have f1 := frozen_of_arr B1 0
                have f2 := frozen_of_arr B1 1
                have f3 := frozen_of_arr B1 2
                simp at d1 d2 d3
                have HB1 := Lib.hid B1
                have hs7 := hw7.size
                clear B1
                refine wpAnyH_ready (rs := [14]) (by kernel_rfl) (by simp) ?_
                refine AllReadyH.cons rfl (fun K1 hK1 => ?_) AllReadyH.nil
                go_simp
                refine hK1.out _ _ (KS _ (((hB7.setCell (by dsimp only; omega) _).setCell (by dsimp only; omega) _).setCell (by dsimp only; omega) _)) (fun hHeld => ?_)
                clear hK1
                try simp only [Act.put, List.setIfInBounds_toArray, List.set_cons_zero, List.set_cons_succ, List.getElem_toArray, List.getElem_cons_succ, List.getElem_cons_zero]
                refine wpAnyH_take (i := 15) (v := ?_) rfl (by kernel_rfl) (by kernel_rfl) (by kernel_rfl) (fun _ _ _ h => h) (Or.inl ⟨by rfl, ?_⟩) hHeld ?_
                rotate_left
                · (intro W hSw; (try dsimp only at hSw); go_simp; try with_reducible rfl)
                try simp only [Act.put, List.setIfInBounds_toArray, List.set_cons_zero, List.set_cons_succ, List.getElem_toArray, List.getElem_cons_succ, List.getElem_cons_zero]
                refine wpAnyH_done (by kernel_rfl) ?_ _
                try simp only [Act.put, List.setIfInBounds_toArray, List.set_cons_zero, List.set_cons_succ, List.getElem_toArray, List.getElem_cons_succ, List.getElem_cons_zero]
                have Q3 := three_cells'' HB1.out (.int .i64 sz') (.slice pa' pn' pc') (.slice ea' en' ec') _ rfl
                go_wp2_with fail
                go_meet
                case rel =>
                  obtain ⟨S1, S2, S3⟩ := Q3
                  exact ⟨w6.heap.size, sz', pa', pn', pc', ea', en', ec', rfl, by rw [HER.out], Nat.le_refl _, S3 _ _ (Nat.le_refl _) hB7, S1, FOff.of_new hF7 (S3 0 w7 (Nat.zero_le _) (Below.refl _ _)).size (Or.inl (by omega)) (Or.inl (by omega)) (fun k h1 h2 => S2 k (by omega))⟩
            case rest =>
              obtain ⟨X, sz', pa', pn', pc', ea', en', ec', rfl, rfl, hX, hB, hXc, hoff⟩ := hcut
              have M8 := Below.keep hB HM6.out hbf
              have C8 := Below.keep hB HC6.out hbc
              have HB8 := Lib.hid (pure_trans HB6.out hB)
              have HOFFc := Lib.hid hoff
              clear hB hoff HTN HM6 HC6 HB6 HOFF6 c1 c2 c3 k1 k2
              have x1 := cell_of_arr hXc 0
              have x2 := cell_of_arr hXc 1
              have x3 := cell_of_arr hXc 2
              simp at x1 x2 x3
              have d1 := cell_of_arr M8 0
              have d2 := cell_of_arr M8 1
              have d3 := cell_of_arr M8 2
              have f1 := frozen_of_arr M8 0
              have f2 := frozen_of_arr M8 1
              have f3 := frozen_of_arr M8 2
              simp at d1 d2 d3
              have Q := three_cells'' M8 (.int .i64 sz') (.slice pa' pn' pc') (.slice ea' en' ec') _ rfl
              have HC8 := Lib.hid C8
              clear M8 C8 hXc
              go_upto_region 23 with fail
              generalize (((wc.setCell ⟨bf, 0, none⟩ (.int .i64 sz')).setCell ⟨bf, 1, none⟩ (.slice pa' pn' pc')).setCell ⟨bf, 2, none⟩ (.slice ea' en' ec')) = w9 at *
              obtain ⟨S1, S2, S3⟩ := Q
              have C9 := (S2 bc (Ne.symm hne)).trans HC8.out
              have HMq := Lib.hid S1
              have HCq := Lib.hid C9
              have HBq := Lib.hid (S3 _ _ hlo HB8.out)
              have HOFFq := Lib.hid (FOff.on HOFFc.out (S3 0 wc (Nat.zero_le _) (Below.refl _ _)).size (fun k h1 _ _ => S2 k h1))
              have c1 := cell_of_arr S1 0
              have c2 := cell_of_arr S1 1
              have c3 := cell_of_arr S1 2
              simp at c1 c2 c3
              have k1 := cell_of_arr C9 0
              have k2 := cell_of_arr C9 1
              simp at k1 k2
              clear S1 S2 S3 C9 HC8 HB8 HOFFc x1 x2 x3 d1 d2 d3 f1 f2 f3
              go_wp2_with fail
              refine (open_any sz' pa' pn' pc' ea' en' ec' 0 s mq w9 HOFFq.out.rep).mono ?_
              rintro e w8 ⟨rfl, hw8⟩
              have hT := HINVq.out
              generalize Fl.openP mq 0 s = op at *
              obtain ⟨⟨ck', cs', cn', cl'⟩, er9⟩ := op
              obtain ⟨t1, t2⟩ := hT
              dsimp only at t1 t2 ⊢
              obtain rfl := t1
              have hkey := t2.key
              have hstep := t2.step
              dsimp only at hkey hstep
              obtain rfl := hkey
              obtain rfl := hstep
              have HINV8 := Lib.hid t2
              simp only [ctrV]
              have HB8 := Lib.hid (pure_trans HBq.out hw8)
              have M8 := Below.keep hw8 HMq.out (lt_of_block HMq.out)
              have C8 := Below.keep hw8 HCq.out (lt_of_block HCq.out)
              have HOFF8 := Lib.hid (FOff.on HOFFq.out hw8.size (fun k _ _ h3 => hw8.block k h3))
              have HM8 := Lib.hid M8
              clear t2 hw8 HMq HCq HOFFq HINVq HBq
              have z1 := cell_of_arr C8 0
              have z2 := cell_of_arr C8 1
              have z3 := cell_of_arr C8 2
              have z4 := cell_of_arr C8 3
              have zf1 := frozen_of_arr C8 0
              have zf2 := frozen_of_arr C8 1
              have zf3 := frozen_of_arr C8 2
              have zf4 := frozen_of_arr C8 3
              simp at z1 z2 z3 z4
              have HQ := Lib.hid (four_cells' C8 (.int .i64 0) (.int .i64 cs') (.int .i64 cn') (.int .i64 cl') _ rfl)
              clear C8 M8
              go_wp2_with fail
              go_roundw
              case rel =>
                obtain ⟨S1, S2, S3⟩ := HQ.out
                refine ⟨j + 1, last, rfl, by go_num, by omega, sz', pa', pn', pc', ea', en', ec', mq, cn', cl', (S2 _ hne).trans HM8.out, S1, ?_, HINV8.out, S3 _ _ hlo2 HB8.out⟩
                exact FOff.on HOFF8.out (S3 0 w8 (Nat.zero_le _) (Below.refl _ _)).size (fun k _ h2 _ => S2 k h2)
              case measure => simp [intOf]; omega
          · have HINVq := Lib.hid hStay
            have HMq := HM5
            have HCq := HC5
            have HOFFq := HOFF5
            have HBq := HB5
            have hb : (er == 0 && lm != L) = false := by
              cases h1 : (er == 0)
              · rfl
              · have h1' : er = 0 := by simpa using h1
                simp only [Bool.true_and, bne_eq_false_iff_eq]
                exact Classical.byContradiction fun h => hgo ⟨h1', h⟩
            clear hTorn hStay HM5 HC5 HOFF5 HB5 hgo
            cases h1 : (er == 0)
            · go_wp2_with fail
              refine (open_any sz pa pn pc ea en ec 0 s m w5 HOFFq.out.rep).mono ?_
              rintro e w8 ⟨rfl, hw8⟩
              have hT := HINVq.out
              generalize Fl.openP m 0 s = op at *
              obtain ⟨⟨ck', cs', cn', cl'⟩, er'⟩ := op
              obtain ⟨t1, t2⟩ := hT
              dsimp only at t1 t2 ⊢
              obtain rfl := t1
              have hkey := t2.key
              have hstep := t2.step
              dsimp only at hkey hstep
              obtain rfl := hkey
              obtain rfl := hstep
              have HINV8 := Lib.hid t2
              simp only [ctrV]
              have HB8 := Lib.hid (pure_trans HBq.out hw8)
              have M8 := Below.keep hw8 HMq.out (lt_of_block HMq.out)
              have C8 := Below.keep hw8 HCq.out (lt_of_block HCq.out)
              have HOFF8 := Lib.hid (FOff.on HOFFq.out hw8.size (fun k _ _ h3 => hw8.block k h3))
              have HM8 := Lib.hid M8
              clear t2 hw8 HMq HCq HOFFq HINVq HBq
              have z1 := cell_of_arr C8 0
              have z2 := cell_of_arr C8 1
              have z3 := cell_of_arr C8 2
              have z4 := cell_of_arr C8 3
              have zf1 := frozen_of_arr C8 0
              have zf2 := frozen_of_arr C8 1
              have zf3 := frozen_of_arr C8 2
              have zf4 := frozen_of_arr C8 3
              simp at z1 z2 z3 z4
              have HQ := Lib.hid (four_cells' C8 (.int .i64 0) (.int .i64 cs') (.int .i64 cn') (.int .i64 cl') _ rfl)
              clear C8 M8
              go_wp2_with fail
              go_roundw
              case rel =>
                obtain ⟨S1, S2, S3⟩ := HQ.out
                refine ⟨j + 1, last, rfl, by go_num, by omega, sz, pa, pn, pc, ea, en, ec, m, cn', cl', (S2 _ hne).trans HM8.out, S1, ?_, HINV8.out, S3 _ _ hlo2 HB8.out⟩
                exact FOff.on HOFF8.out (S3 0 w8 (Nat.zero_le _) (Below.refl _ _)).size (fun k _ h2 _ => S2 k h2)
              case measure => simp [intOf]; omega
            · have h2 : (lm != L) = false := by rw [h1] at hb; simpa using hb
              clear hb
              go_wp2_with fail
              refine (open_any sz pa pn pc ea en ec 0 s m w5 HOFFq.out.rep).mono ?_
              rintro e w8 ⟨rfl, hw8⟩
              have hT := HINVq.out
              generalize Fl.openP m 0 s = op at *
              obtain ⟨⟨ck', cs', cn', cl'⟩, er'⟩ := op
              obtain ⟨t1, t2⟩ := hT
              dsimp only at t1 t2 ⊢
              obtain rfl := t1
              have hkey := t2.key
              have hstep := t2.step
              dsimp only at hkey hstep
              obtain rfl := hkey
              obtain rfl := hstep
              have HINV8 := Lib.hid t2
              simp only [ctrV]
              have HB8 := Lib.hid (pure_trans HBq.out hw8)
              have M8 := Below.keep hw8 HMq.out (lt_of_block HMq.out)
              have C8 := Below.keep hw8 HCq.out (lt_of_block HCq.out)
              have HOFF8 := Lib.hid (FOff.on HOFFq.out hw8.size (fun k _ _ h3 => hw8.block k h3))
              have HM8 := Lib.hid M8
              clear t2 hw8 HMq HCq HOFFq HINVq HBq
              have z1 := cell_of_arr C8 0
              have z2 := cell_of_arr C8 1
              have z3 := cell_of_arr C8 2
              have z4 := cell_of_arr C8 3
              have zf1 := frozen_of_arr C8 0
              have zf2 := frozen_of_arr C8 1
              have zf3 := frozen_of_arr C8 2
              have zf4 := frozen_of_arr C8 3
              simp at z1 z2 z3 z4
              have HQ := Lib.hid (four_cells' C8 (.int .i64 0) (.int .i64 cs') (.int .i64 cn') (.int .i64 cl') _ rfl)
              clear C8 M8
              go_wp2_with fail
              go_roundw
              case rel =>
                obtain ⟨S1, S2, S3⟩ := HQ.out
                refine ⟨j + 1, last, rfl, by go_num, by omega, sz, pa, pn, pc, ea, en, ec, m, cn', cl', (S2 _ hne).trans HM8.out, S1, ?_, HINV8.out, S3 _ _ hlo2 HB8.out⟩
                exact FOff.on HOFF8.out (S3 0 w8 (Nat.zero_le _) (Below.refl _ _)).size (fun k _ h2 _ => S2 k h2)
              case measure => simp [intOf]; omega
      · have HB := Lib.hid hB
        clear hM hC hF hI hB
        go_wp2_with fail
        refine (awake_any _).mono ?_
        rintro e w2 ⟨rfl, hw2⟩
        have HB2 := Lib.hid (pure_trans HB.out hw2)
        clear hw2
        go_wp2_with fail
        go_ret
        exact ⟨rfl, HB2.out⟩
end Go.Proofs.Ytnfjfifdkmgbdaa
