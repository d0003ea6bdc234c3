/- Memories in rows of their own, and the walk of copied. -/
import Derived.Test.YtnfjfifdkmgbdaaAp
namespace Go.Proofs.Ytnfjfifdkmgbdaa
open Go.RowKit

theorem own_lt {w : World} {base e size : Nat} {v : Value} {n : Nat} {xs : List Value} (h : w.ownsRow base e size v n xs) {g : Nat} (hg : v.ownBlock = some g) : g < w.heap.size ∧ base ≤ g ∧ ∃ cur, w.heap[g]? = some (.cells cur e (0, 0)) := by
  rcases h.2 with ⟨rfl, _⟩ | ⟨g', cap, cur, rfl, hb, hh, _⟩
  · cases hg
  · simp only [Value.ownBlock, Option.some.injEq] at hg
    subst hg
    exact ⟨lt_of_block hh, hb, cur, hh⟩
theorem own_keep {w w' : World} {base e size : Nat} {v : Value} {n : Nat} {xs : List Value} (h : w.ownsRow base e size v n xs) (k : ∀ g, v.ownBlock = some g → w'.heap[g]? = w.heap[g]?) : w'.ownsRow base e size v n xs := by
  obtain ⟨h1, h2⟩ := h
  refine ⟨h1, ?_⟩
  rcases h2 with h2 | ⟨g, cap, cur, rfl, hb, hh, r⟩
  · exact .inl h2
  · exact .inr ⟨g, cap, cur, rfl, hb, (k g rfl).trans hh, r⟩
theorem own_pure {w w' : World} {base e size : Nat} {v : Value} {n : Nat} {xs : List Value} (h : w.ownsRow base e size v n xs) (k : Below w.heap.size w w') : w'.ownsRow base e size v n xs :=
  own_keep h fun g hg => k.block g (own_lt h hg).1
/-- Blocks of two kinds are two blocks. -/
theorem kind_ne {w : World} {a b : Nat} {c c' : Array Value} {e e' : TypeId} {f f' : Nat × Nat} (h : w.heap[a]? = some (.cells c e f)) (h' : w.heap[b]? = some (.cells c' e' f')) (he : e ≠ e') : a ≠ b := fun h2 => by
  subst h2; rw [h] at h'; cases h'; exact he rfl
theorem grown_pure {w w' : World} (h : w.grownBy w' none) : Below w.heap.size w w' := ⟨h.os, h.tape, h.output, h.size, fun k hk => h.block k hk (by simp)⟩

/-- The slice pv holds the slices vs, which hold the pages ps, all in rows of their own, no two in one block. -/
structure OwnP (w : World) (base : Nat) (pv : Value) (vs : List Value) (ps : List (List UInt8)) : Prop where
  row : w.ownsRow base 22 1 pv vs.length vs
  len : vs.length = ps.length
  each : ∀ i, i < vs.length → OwnB w base (vs.getD i undef) (ps.getD i [])
  apart : ∀ i j g, i < j → j < vs.length → (vs.getD i undef).ownBlock = some g → (vs.getD j undef).ownBlock ≠ some g
theorem OwnP.keep {w w' : World} {base : Nat} {pv : Value} {vs : List Value} {ps : List (List UInt8)} (h : OwnP w base pv vs ps) (k1 : ∀ g, pv.ownBlock = some g → w'.heap[g]? = w.heap[g]?) (k2 : ∀ i g, i < vs.length → (vs.getD i undef).ownBlock = some g → w'.heap[g]? = w.heap[g]?) : OwnP w' base pv vs ps :=
  ⟨own_keep h.row k1, h.len, fun i hi => own_keep (h.each i hi) (fun g hg => k2 i g hi hg), h.apart⟩
theorem OwnP.pure {w w' : World} {base : Nat} {pv : Value} {vs : List Value} {ps : List (List UInt8)} (h : OwnP w base pv vs ps) (k : Below w.heap.size w w') : OwnP w' base pv vs ps :=
  h.keep (fun g hg => k.block g (own_lt h.row hg).1) (fun i g hi hg => k.block g (own_lt (h.each i hi) hg).1)
theorem OwnP.nil (w : World) (base : Nat) : OwnP w base (.slice none 0 0) [] [] := ⟨⟨rfl, .inl ⟨rfl, rfl⟩⟩, rfl, fun i h => by simp at h, fun i j g _ h => by simp at h⟩
theorem own_one {w : World} {base : Nat} {v : Value} {l : List UInt8} (h : OwnB w base v l) : v.oneCell' = true := by
  rcases h.2 with ⟨rfl, _⟩ | ⟨g, cap, cur, rfl, _⟩ <;> rfl

/-- One page more: its row is new, and the slice of slices has grown by it. -/
theorem OwnP.snoc {w w1 w2 : World} {base : Nat} {pv pv' x : Value} {vs : List Value} {ps : List (List UInt8)} {p : List UInt8} (h : OwnP w base pv vs ps) (hw : Below w.heap.size w w1) (hx : OwnB w1 w.heap.size x p) (hb : base ≤ w.heap.size)
    (hg : w1.grownBy w2 pv.ownBlock) (hr : w2.ownsRow base 22 1 pv' (vs ++ [x]).length (vs ++ [x])) : OwnP w2 base pv' (vs ++ [x]) (ps ++ [p]) := by
  have h1 := h.pure hw
  have hxo : OwnB w1 base x p := by
    refine ⟨hx.1, ?_⟩
    rcases hx.2 with h | ⟨g, cap, cur, e1, e2, r⟩
    · exact .inl h
    · exact .inr ⟨g, cap, cur, e1, Nat.le_trans hb e2, r⟩
  have ne : ∀ {y : Value} {q : List UInt8}, OwnB w1 base y q → ∀ g, y.ownBlock = some g → w2.heap[g]? = w1.heap[g]? := fun hy g hgy => by
    obtain ⟨l1, _, cur, hc⟩ := own_lt hy hgy
    refine hg.block g l1 fun e => ?_
    obtain ⟨_, _, cur', hc'⟩ := own_lt h1.row e.symm
    rw [hc] at hc'
    cases hc'
  refine ⟨hr, by simp [h.len], fun i hi => ?_, fun i j g hij hj hi => ?_⟩
  · simp only [List.length_append, List.length_cons, List.length_nil] at hi
    by_cases e : i < vs.length
    · have h3 := h1.each i e
      have e1 : (vs ++ [x]).getD i undef = vs.getD i undef := by simp [List.getElem?_append_left e]
      have e2 : (ps ++ [p]).getD i [] = ps.getD i [] := by simp [List.getElem?_append_left (show i < ps.length by have := h.len; omega)]
      rw [e1, e2]
      exact own_keep h3 (ne h3)
    · obtain rfl : i = vs.length := by omega
      have e1 : (vs ++ [x]).getD vs.length undef = x := by simp
      have e2 : (ps ++ [p]).getD vs.length [] = p := by rw [h.len]; simp
      rw [e1, e2]
      exact own_keep hxo (ne hxo)
  · simp only [List.length_append, List.length_cons, List.length_nil] at hj
    have e0 : (vs ++ [x]).getD i undef = vs.getD i undef := by simp [List.getElem?_append_left (show i < vs.length by omega)]
    rw [e0] at hi
    by_cases e : j < vs.length
    · have e1 : (vs ++ [x]).getD j undef = vs.getD j undef := by simp [List.getElem?_append_left e]
      rw [e1]
      exact h.apart i j g hij e hi
    · obtain rfl : j = vs.length := by omega
      have e1 : (vs ++ [x]).getD vs.length undef = x := by simp
      rw [e1]
      intro hx2
      have l1 := (own_lt (h.each i (by omega)) hi).1
      have l2 := (own_lt hx hx2).2.1
      omega
theorem take_snoc_pg (l : List (List UInt8)) (k : Nat) (h : k < l.length) : l.take (k + 1) = l.take k ++ [l.getD k []] := by
  rw [List.take_succ_eq_append_getElem h]; simp [h]
set_option maxHeartbeats 1600000 in
theorem copied_any (sz : Int) (pa : Option Addr) (pn pc : Nat) (ea : Option Addr) (en ec : Nat) (m : Fl.Mem) (w : World) (h : FRep w sz pa pn ea en m) (hpn : pn ≤ 1000) (hen : en ≤ 1000) (hlen : ∀ i, i < pn → (m.pages.getD i []).length ≤ 1000) :
    Calls Try.prog 42 #[.agg #[.int .i64 sz, .slice pa pn pc, .slice ea en ec]] w fun e w' => ∃ pv ev vs, e = .returned (.agg #[.int .i64 sz, pv, ev]) ∧ OwnP w' w.heap.size pv vs m.pages ∧ w'.ownsRow w.heap.size 3 1 ev m.erased.length (m.erased.map (Value.int .i64)) ∧ Below w.heap.size w w' := by
  have HF := Lib.hid h
  have HLE := Lib.hid hlen
  clear h hlen
  go_enter Try.func42, Try.ntmps42
  go_upto_region 1 with fail
  have P1 : Below w.heap.size w ((w.alloc (.cells #[.int .i64 sz, .slice pa pn pc, .slice ea en ec] 32)).alloc (.cells #[.int .i64 0, .slice none 0 0, .slice none 0 0] 32)) := (pure_alloc _ _).alloc (by simp) _
  have X1 : ((w.alloc (.cells #[.int .i64 sz, .slice pa pn pc, .slice ea en ec] 32)).alloc (.cells #[.int .i64 0, .slice none 0 0, .slice none 0 0] 32)).heap[w.heap.size]? = some (.cells #[.int .i64 sz, .slice pa pn pc, .slice ea en ec] 32 (0, 0)) := alloc_keep (alloc_new _ _)
  have X2 : ((w.alloc (.cells #[.int .i64 sz, .slice pa pn pc, .slice ea en ec] 32)).alloc (.cells #[.int .i64 0, .slice none 0 0, .slice none 0 0] 32)).heap[w.heap.size + 1]? = some (.cells #[.int .i64 0, .slice none 0 0, .slice none 0 0] 32 (0, 0)) := alloc_new' _ _ _ (by simp)
  generalize ((w.alloc (.cells #[.int .i64 sz, .slice pa pn pc, .slice ea en ec] 32)).alloc (.cells #[.int .i64 0, .slice none 0 0, .slice none 0 0] 32)) = w1 at *
  have c0 := cell_of_arr X1 0
  have c1 := cell_of_arr X1 1
  have c2 := cell_of_arr X1 2
  simp at c0 c1 c2
  have xl := lt_of_block X1
  have xl2 := lt_of_block X2
  have HX1 := Lib.hid X1
  have HX2 := Lib.hid X2
  have HP1 := Lib.hid P1
  clear X1 X2 P1
  go_cut [3] (fun s W => ∃ (X3 : Nat) (ev : Value), s = .pointer (some ⟨X3, 0, none⟩) ∧ w.heap.size + 1 < X3 ∧ Below w1.heap.size w1 W ∧ W.heap[X3]? = some (.cells #[.int .i64 sz, .slice none 0 0, ev] 32 (0, 0)) ∧ W.ownsRow w.heap.size 3 1 ev m.erased.length (m.erased.map (Value.int .i64)) ∧ ev.oneCell' = true)
  case first =>
    refine wp_region_held_drew (S := (fun W => W.cell? ⟨w.heap.size, 0, none⟩ = some (.int .i64 sz) ∧ W.cell? ⟨w.heap.size, 2, none⟩ = some (.slice ea en ec))) (by kernel_rfl) ⟨c0, c2⟩ (fun hHeld => ?_)
    refine wpAnyH_take (i := 0) (v := ?_) rfl (by kernel_rfl) (by kernel_rfl) (by kernel_rfl) (fun _ _ _ h => h) (Or.inl ⟨by rfl, ?_⟩) hHeld ?_
    rotate_left
    · (intro W hSw; (try dsimp only at hSw); go_simp; try with_reducible rfl)
    try simp only [Act.put, List.setIfInBounds_toArray, List.set_cons_zero, List.set_cons_succ, List.getElem_toArray, List.getElem_cons_succ, List.getElem_cons_zero]
    refine wpAnyH_take (i := 1) (v := ?_) rfl (by kernel_rfl) (by kernel_rfl) (by kernel_rfl) (fun _ _ _ h => h) (Or.inl ⟨by rfl, ?_⟩) hHeld ?_
    rotate_left
    · (intro W hSw; (try dsimp only at hSw); go_simp; try with_reducible rfl)
    try simp only [Act.put, List.setIfInBounds_toArray, List.set_cons_zero, List.set_cons_succ, List.getElem_toArray, List.getElem_cons_succ, List.getElem_cons_zero]
    refine wpAnyH_take (i := 2) (v := ?_) rfl (by kernel_rfl) (by kernel_rfl) (by kernel_rfl) (fun _ _ _ h => h) (Or.inl ⟨by rfl, ?_⟩) hHeld ?_
    rotate_left
    · (intro W hSw; (try dsimp only at hSw); go_simp; try with_reducible rfl)
    try simp only [Act.put, List.setIfInBounds_toArray, List.set_cons_zero, List.set_cons_succ, List.getElem_toArray, List.getElem_cons_succ, List.getElem_cons_zero]
    refine wpAnyH_take (i := 3) (v := ?_) rfl (by kernel_rfl) (by kernel_rfl) (by kernel_rfl) (fun _ _ _ h => h) (Or.inl ⟨by rfl, ?_⟩) hHeld ?_
    rotate_left
    · (intro W hSw; (try dsimp only at hSw); go_simp; try with_reducible rfl)
    try simp only [Act.put, List.setIfInBounds_toArray, List.set_cons_zero, List.set_cons_succ, List.getElem_toArray, List.getElem_cons_succ, List.getElem_cons_zero]
    refine wpAnyH_ready (rs := [4, 6]) (by kernel_rfl) (by simp) ?_
    refine AllReadyH.cons rfl (fun K1 hK1 => ?_) ?_
    · -- append first
      obtain ⟨a', c', w2, hrun, hown, hgr, hob⟩ := app_ints w1.drew w.heap.size (.slice none 0 0) [] ⟨rfl, .inl ⟨rfl, rfl⟩⟩ ea en ec m.erased (HF.out.erased.below HP1.out.drew) (by simp; omega) (by exact HP1.out.size)
      have hpu := grown_pure hgr
      simp only [List.nil_append, List.length_nil, Nat.zero_add] at hrun hown
      rw [if_pos (by rfl)]
      refine wp_app _ _ 27 rfl rfl rfl hrun ?_
      refine hK1.out _ _ ⟨(hpu.cell (p := ⟨w.heap.size, 0, none⟩) xl).trans c0, (hpu.cell (p := ⟨w.heap.size, 2, none⟩) xl).trans c2⟩ (fun hHeld => ?_)
      clear hK1
      try simp only [Act.put, List.setIfInBounds_toArray, List.set_cons_zero, List.set_cons_succ, List.getElem_toArray, List.getElem_cons_succ, List.getElem_cons_zero]
      have xl4 : w.heap.size < w2.heap.size := Nat.lt_of_lt_of_le xl hpu.size
      refine wpAnyH_take (i := 5) (v := ?_) rfl (by kernel_rfl) (by kernel_rfl) (by kernel_rfl) (fun _ _ _ h => h) (Or.inl ⟨by rfl, ?_⟩) hHeld ?_
      rotate_left
      · (intro W hSw; (try dsimp only at hSw); go_simp; try with_reducible rfl)
      try simp only [Act.put, List.setIfInBounds_toArray, List.set_cons_zero, List.set_cons_succ, List.getElem_toArray, List.getElem_cons_succ, List.getElem_cons_zero]
      refine wpAnyH_ready (rs := [6]) (by kernel_rfl) (by simp) ?_
      refine AllReadyH.cons rfl (fun K1 hK1 => ?_) AllReadyH.nil
      go_simp
      refine hK1.out _ _ ⟨((pure_alloc _ _).cell (p := ⟨w.heap.size, 0, none⟩) xl4).trans hHeld.1, ((pure_alloc _ _).cell (p := ⟨w.heap.size, 2, none⟩) xl4).trans hHeld.2⟩ (fun hHeld2 => ?_)
      clear hK1
      try simp only [Act.put, List.setIfInBounds_toArray, List.set_cons_zero, List.set_cons_succ, List.getElem_toArray, List.getElem_cons_succ, List.getElem_cons_zero]
      refine wpAnyH_ready (rs := [7]) (by kernel_rfl) (by simp) ?_
      refine AllReadyH.cons rfl (fun K1 hK1 => ?_) AllReadyH.nil
      go_simp
      refine hK1.out _ _ ⟨((pure_alloc _ _).cell (p := ⟨w.heap.size, 0, none⟩) xl4).trans hHeld.1, ((pure_alloc _ _).cell (p := ⟨w.heap.size, 2, none⟩) xl4).trans hHeld.2⟩ (fun hHeld3 => ?_)
      clear hK1
      try simp only [Act.put, List.setIfInBounds_toArray, List.set_cons_zero, List.set_cons_succ, List.getElem_toArray, List.getElem_cons_succ, List.getElem_cons_zero]
      refine wpAnyH_done (by kernel_rfl) ?_ _
      try simp only [Act.put, List.setIfInBounds_toArray, List.set_cons_zero, List.set_cons_succ, List.getElem_toArray, List.getElem_cons_succ, List.getElem_cons_zero]
      go_wp2_with fail
      go_meet
      case rel => exact ⟨w2.heap.size, _, rfl, by have := hpu.size; simp at this; omega, (Below.refl _ _).drew.trans (hpu.alloc hpu.size _), alloc_new _ _, own_pure hown (pure_alloc _ _), rfl⟩
    refine AllReadyH.cons rfl (fun K1 hK1 => ?_) AllReadyH.nil
    · -- the variable first
      go_simp
      refine hK1.out _ _ ⟨((pure_alloc _ _).cell (p := ⟨w.heap.size, 0, none⟩) xl).trans hHeld.1, ((pure_alloc _ _).cell (p := ⟨w.heap.size, 2, none⟩) xl).trans hHeld.2⟩ (fun hHeld => ?_)
      clear hK1
      try simp only [Act.put, List.setIfInBounds_toArray, List.set_cons_zero, List.set_cons_succ, List.getElem_toArray, List.getElem_cons_succ, List.getElem_cons_zero]
      have Y3 : (w1.alloc (.cells #[.int .i64 0, .slice none 0 0, .slice none 0 0] 32)).drew.heap[w1.heap.size]? = some (.cells #[.int .i64 0, .slice none 0 0, .slice none 0 0] 32 (0, 0)) := alloc_new w1 _
      have PA : Below w1.heap.size w1 (w1.alloc (.cells #[.int .i64 0, .slice none 0 0, .slice none 0 0] 32)).drew := (pure_alloc w1 _).drew
      generalize (w1.alloc (.cells #[.int .i64 0, .slice none 0 0, .slice none 0 0] 32)).drew = wA at *
      have xlA : w.heap.size < wA.heap.size := Nat.lt_of_lt_of_le xl PA.size
      refine wpAnyH_ready (rs := [4]) (by kernel_rfl) (by simp) ?_
      refine AllReadyH.cons rfl (fun K1 hK1 => ?_) AllReadyH.nil
      obtain ⟨a', c', w2, hrun, hown, hgr, hob⟩ := app_ints wA w.heap.size (.slice none 0 0) [] ⟨rfl, .inl ⟨rfl, rfl⟩⟩ ea en ec m.erased (HF.out.erased.below (pure_trans HP1.out PA)) (by simp; omega) (by exact Nat.le_of_lt xlA)
      have hpu := grown_pure hgr
      simp only [List.nil_append, List.length_nil, Nat.zero_add] at hrun hown
      rw [if_pos (by rfl)]
      refine wp_app _ _ 27 rfl rfl rfl hrun ?_
      refine hK1.out _ _ ⟨(hpu.cell (p := ⟨w.heap.size, 0, none⟩) xlA).trans hHeld.1, (hpu.cell (p := ⟨w.heap.size, 2, none⟩) xlA).trans hHeld.2⟩ (fun hHeld2 => ?_)
      clear hK1
      try simp only [Act.put, List.setIfInBounds_toArray, List.set_cons_zero, List.set_cons_succ, List.getElem_toArray, List.getElem_cons_succ, List.getElem_cons_zero]
      refine wpAnyH_take (i := 5) (v := ?_) rfl (by kernel_rfl) (by kernel_rfl) (by kernel_rfl) (fun _ _ _ h => h) (Or.inl ⟨by rfl, ?_⟩) hHeld2 ?_
      rotate_left
      · (intro W hSw; (try dsimp only at hSw); go_simp; try with_reducible rfl)
      try simp only [Act.put, List.setIfInBounds_toArray, List.set_cons_zero, List.set_cons_succ, List.getElem_toArray, List.getElem_cons_succ, List.getElem_cons_zero]
      have Y4 := Below.keep hpu Y3 (lt_of_block Y3)
      have d0 := cell_of_arr Y4 0
      have d1 := cell_of_arr Y4 1
      have d2 := cell_of_arr Y4 2
      have f0 := frozen_of_arr Y4 0
      have f1 := frozen_of_arr Y4 1
      have f2 := frozen_of_arr Y4 2
      simp at d0 d1 d2
      have nx : w1.heap.size ≠ w.heap.size := by omega
      refine wpAnyH_ready (rs := [7]) (by kernel_rfl) (by simp) ?_
      refine AllReadyH.cons rfl (fun K1 hK1 => ?_) AllReadyH.nil
      go_simp
      refine hK1.out _ _ ⟨by simpa [World.cell?_setCell_far, nx] using hHeld2.1, by simpa [World.cell?_setCell_far, nx] using hHeld2.2⟩ (fun hHeld3 => ?_)
      clear hK1
      try simp only [Act.put, List.setIfInBounds_toArray, List.set_cons_zero, List.set_cons_succ, List.getElem_toArray, List.getElem_cons_succ, List.getElem_cons_zero]
      refine wpAnyH_done (by kernel_rfl) ?_ _
      try simp only [Act.put, List.setIfInBounds_toArray, List.set_cons_zero, List.set_cons_succ, List.getElem_toArray, List.getElem_cons_succ, List.getElem_cons_zero]
      go_wp2_with fail
      go_meet
      case rel =>
        refine ⟨w1.heap.size, .slice a' en c', rfl, by omega, ?_, ?_, ?_, rfl⟩
        · exact (((PA.trans (hpu.mono PA.size)).setCell (p := ⟨w1.heap.size, 0, none⟩) (Nat.le_refl _) _).setCell (p := ⟨w1.heap.size, 1, none⟩) (Nat.le_refl _) _).setCell (p := ⟨w1.heap.size, 2, none⟩) (Nat.le_refl _) _
        · rw [set_arr (set_arr (set_arr Y4 0 _) 1 _) 2 _]; rfl
        · refine own_keep hown fun g hg => ?_
          obtain ⟨_, _, cur, hc⟩ := own_lt hown hg
          have hne := kind_ne hc Y4 (by decide)
          rw [Below.heap_setCell _ _ _ _ hne, Below.heap_setCell _ _ _ _ hne, Below.heap_setCell _ _ _ _ hne]
  case rest =>
    obtain ⟨X3, ev, rfl, hX3, hPc, hX3c, hEv, hev1⟩ := hcut
    obtain ⟨ea', ec', rfl⟩ := own_form hEv
    have X1c := Below.keep hPc HX1.out xl
    have X2c := Below.keep hPc HX2.out xl2
    have d1 := cell_of_arr X1c 1
    simp at d1
    have HPc := Lib.hid (pure_trans HP1.out hPc)
    have HX3c := Lib.hid hX3c
    have HEv := Lib.hid hEv
    have HX1c := Lib.hid X1c
    have HX2c := Lib.hid X2c
    clear hPc hX3c hEv X1c X2c c0 c1 c2 xl xl2 HX1 HX2 HP1 hev1
    go_wp2_with fail
    go_loopw [15] (fun i wr => ∃ (k : Nat) (pa' : Option Addr) (pc' : Nat) (vs : List Value), i = .int .i64 k ∧ k ≤ pn ∧ vs.length = k ∧ wr.heap[X3]? = some (.cells #[.int .i64 sz, .slice pa' k pc', .slice ea' m.erased.length ec'] 32 (0, 0)) ∧ OwnP wr w.heap.size (.slice pa' k pc') vs (m.pages.take k) ∧ wr.ownsRow w.heap.size 3 1 (.slice ea' m.erased.length ec') m.erased.length (m.erased.map (Value.int .i64)) ∧ Below w.heap.size w wr ∧ wr.heap[w.heap.size]? = some (.cells #[.int .i64 sz, .slice pa pn pc, .slice ea en ec] 32 (0, 0)) ∧ wr.heap[w.heap.size + 1]? = some (.cells #[.int .i64 0, .slice none 0 0, .slice none 0 0] 32 (0, 0))) (fun i _ => pn - (intOf i).toNat)
    case atStart => exact ⟨0, none, 0, [], rfl, by omega, rfl, HX3c.out, OwnP.nil _ _, HEv.out, HPc.out, HX1c.out, HX2c.out⟩
    case round =>
      obtain ⟨k, pa', pc', vs, rfl, hk, hvs, hX3r, hOP, hEr, hPr, hX1r, hX2r⟩ := hrel
      have HX3r := Lib.hid hX3r
      have HOP := Lib.hid hOP
      have HEr := Lib.hid hEr
      have HPr := Lib.hid hPr
      have HX1r := Lib.hid hX1r
      have HX2r := Lib.hid hX2r
      have HVS := Lib.hid hvs
      have x3c1 := cell_of_arr hX3r 1
      have x3c0 := cell_of_arr hX3r 0
      have x3c2 := cell_of_arr hX3r 2
      simp at x3c0 x3c1 x3c2
      have x3l := lt_of_block hX3r
      have rl := hPr.size
      clear hX3r hOP hEr hPr hX1r hX2r HX3c HEv HPc HX1c HX2c d1 hvs
      by_cases hlt : k < pn
      · obtain ⟨b, o, c, len, cap, rfl, e2, e3⟩ := (HF.out.below HPr.out).pages.2.2 k hlt
        have hl1 := HLE.out k hlt
        have hl2 := e3.1
        have HE3 := Lib.hid e3
        clear e3
        go_upto_region 5 with fail
        refine wp_region_held_drew (S := (fun _ => True)) (by kernel_rfl) trivial (fun hHeld => ?_)
        refine wpAnyH_take (i := 0) (v := ?_) rfl (by kernel_rfl) (by kernel_rfl) (by kernel_rfl) (fun _ _ _ h => h) (Or.inl ⟨by rfl, ?_⟩) hHeld ?_
        rotate_left
        · (intro W hSw; (try dsimp only at hSw); go_simp; try with_reducible rfl)
        try simp only [Act.put, List.setIfInBounds_toArray, List.set_cons_zero, List.set_cons_succ, List.getElem_toArray, List.getElem_cons_succ, List.getElem_cons_zero]
        refine wpAnyH_take (i := 2) (v := ?_) rfl (by kernel_rfl) (by kernel_rfl) (by kernel_rfl) (fun _ _ _ h => h) (Or.inl ⟨by rfl, ?_⟩) hHeld ?_
        rotate_left
        · (intro W hSw; (try dsimp only at hSw); go_simp; try with_reducible rfl)
        try simp only [Act.put, List.setIfInBounds_toArray, List.set_cons_zero, List.set_cons_succ, List.getElem_toArray, List.getElem_cons_succ, List.getElem_cons_zero]
        refine wpAnyH_ready (rs := [1, 3]) (by kernel_rfl) (by simp) ?_
        refine AllReadyH.cons rfl (fun K1 hK1 => ?_) ?_
        · -- load, append
          go_simp
          refine hK1.out _ _ trivial (fun hHeld => ?_)
          clear hK1
          try simp only [Act.put, List.setIfInBounds_toArray, List.set_cons_zero, List.set_cons_succ, List.getElem_toArray, List.getElem_cons_succ, List.getElem_cons_zero]
          refine wpAnyH_ready (rs := [3]) (by kernel_rfl) (by simp) ?_
          refine AllReadyH.cons rfl (fun K1 hK1 => ?_) AllReadyH.nil
          obtain ⟨a3, c3, w3, hrun3, hown3, hgr3, hob3⟩ := app_bytes wr.drew wr.drew.heap.size (.slice none 0 0) [] ⟨rfl, .inl ⟨rfl, rfl⟩⟩ c len cap _ (HE3.out.below (below_drewN (Below.refl _ _) 1)) (by simp; omega) (Nat.le_refl _)
          have hp3 := grown_pure hgr3
          simp only [List.nil_append, List.length_nil, Nat.zero_add] at hrun3 hown3
          have y3c1 := (hp3.cell (p := ⟨X3, 1, none⟩) x3l).trans x3c1
          rw [if_pos (by rfl)]
          refine wp_app _ _ 22 rfl rfl rfl hrun3 ?_
          refine hK1.out _ _ trivial (fun hHeld => ?_)
          clear hK1
          try simp only [Act.put, List.setIfInBounds_toArray, List.set_cons_zero, List.set_cons_succ, List.getElem_toArray, List.getElem_cons_succ, List.getElem_cons_zero]
          refine wpAnyH_ready (rs := [4]) (by kernel_rfl) (by simp) ?_
          refine AllReadyH.cons rfl (fun K1 hK1 => ?_) AllReadyH.nil
          go_simp
          refine hK1.out _ _ trivial (fun hHeld => ?_)
          clear hK1
          try simp only [Act.put, List.setIfInBounds_toArray, List.set_cons_zero, List.set_cons_succ, List.getElem_toArray, List.getElem_cons_succ, List.getElem_cons_zero]
          have Z4 : (w3.alloc (.cells #[.slice a3 len c3] 22)).heap[w3.heap.size]? = some (.cells #[.slice a3 len c3] 22 (0, 0)) := alloc_new _ _
          have hp4 : Below wr.heap.size wr (w3.alloc (.cells #[.slice a3 len c3] 22)) := (below_drewN (Below.refl _ _) 1).trans (pure_trans hp3 (pure_alloc w3 (.cells #[.slice a3 len c3] 22)))
          have hown4 : OwnB (w3.alloc (.cells #[.slice a3 len c3] 22)) wr.drew.heap.size (.slice a3 len c3) _ := own_pure hown3 (pure_alloc _ _)
          generalize hw4 : w3.alloc (.cells #[.slice a3 len c3] 22) = w4 at *
          clear hw4
          have z4c1 := (hp4.cell (p := ⟨X3, 1, none⟩) x3l).trans x3c1
          refine wpAnyH_ready (rs := [5]) (by kernel_rfl) (by simp) ?_
          refine AllReadyH.cons rfl (fun K1 hK1 => ?_) AllReadyH.nil
          have HOP4 : OwnP w4 w.heap.size (.slice pa' k pc') vs (m.pages.take k) := HOP.out.pure hp4
          have hvl := HVS.out
          obtain ⟨a5, c5, w5, hrun5, hown5, hgr5, hob5⟩ := app_slice w4 w.heap.size (.slice pa' k pc') vs HOP4.row w3.heap.size (.slice a3 len c3) Z4 rfl (by omega) (Nat.le_trans rl hp4.size)
          rw [hvl] at hrun5 hown5 hob5
          have hX3o : Value.ownBlock (.slice pa' k pc') ≠ some X3 := fun e => by
            obtain ⟨_, _, cur, hc⟩ := own_lt HOP.out.row e
            exact kind_ne hc HX3r.out (by decide) rfl
          have keep5 : ∀ j c f, j < wr.heap.size → wr.heap[j]? = some (.cells c 32 f) → w5.heap[j]? = some (.cells c 32 f) := fun j c f hj hc => by
            rw [hgr5.block j (Nat.lt_of_lt_of_le hj hp4.size) (fun e => by
              obtain ⟨_, _, cur, hc'⟩ := own_lt HOP.out.row e.symm
              rw [hc] at hc'; cases hc'), hp4.block j hj]
            exact hc
          have W5 := keep5 X3 _ _ x3l HX3r.out
          have f5 := frozen_of_arr W5 1
          have w5c1 := cell_of_arr W5 1
          simp at w5c1
          rw [if_pos (by rfl)]
          refine wp_app _ _ 30 rfl rfl rfl hrun5 ?_
          refine hK1.out _ _ trivial (fun hHeld => ?_)
          clear hK1
          try simp only [Act.put, List.setIfInBounds_toArray, List.set_cons_zero, List.set_cons_succ, List.getElem_toArray, List.getElem_cons_succ, List.getElem_cons_zero]
          refine wpAnyH_take (i := 6) (v := ?_) rfl (by kernel_rfl) (by kernel_rfl) (by kernel_rfl) (fun _ _ _ h => h) (Or.inl ⟨by rfl, ?_⟩) hHeld ?_
          rotate_left
          · (intro W hSw; (try dsimp only at hSw); go_simp; try with_reducible rfl)
          try simp only [Act.put, List.setIfInBounds_toArray, List.set_cons_zero, List.set_cons_succ, List.getElem_toArray, List.getElem_cons_succ, List.getElem_cons_zero]
          refine wpAnyH_ready (rs := [7]) (by kernel_rfl) (by simp) ?_
          refine AllReadyH.cons rfl (fun K1 hK1 => ?_) AllReadyH.nil
          go_simp
          refine hK1.out _ _ trivial (fun hHeld => ?_)
          clear hK1
          try simp only [Act.put, List.setIfInBounds_toArray, List.set_cons_zero, List.set_cons_succ, List.getElem_toArray, List.getElem_cons_succ, List.getElem_cons_zero]
          refine wpAnyH_done (by kernel_rfl) ?_ _
          try simp only [Act.put, List.setIfInBounds_toArray, List.set_cons_zero, List.set_cons_succ, List.getElem_toArray, List.getElem_cons_succ, List.getElem_cons_zero]
          go_wp2_with fail
          go_roundw
          case measure => simp [intOf]; omega
          case rel =>
            have hvl := HVS.out
            have hbel : Below w.heap.size w w5 := ((HPr.out.trans (hp4.mono rl)).grown hgr5 (Nat.le_trans rl hp4.size) (fun g hg => (own_lt HOP.out.row hg).2.1))
            have hX1w : w.heap.size ≠ X3 := by omega
            have hX2w : w.heap.size + 1 ≠ X3 := by omega
            refine ⟨k + 1, a5, c5, vs ++ [.slice a3 len c3], by go_num, by omega, by simp [hvl], ?_, ?_, ?_, hbel.setCell (p := ⟨X3, 1, none⟩) (by show _ ≤ X3; omega) _, ?_, ?_⟩
            · rw [set_arr W5 1 _]; rfl
            · have hO := HOP.out.snoc hp4 hown4 rl hgr5 hown5
              rw [← take_snoc_pg m.pages k (by have := HF.out.pages.1; omega)] at hO
              refine hO.keep (fun g hg => ?_) (fun i g hi hg => ?_)
              · obtain ⟨_, _, cur, hc⟩ := own_lt hO.row hg
                exact Below.heap_setCell _ _ _ _ (kind_ne hc W5 (by decide))
              · obtain ⟨_, _, cur, hc⟩ := own_lt (hO.each i hi) hg
                exact Below.heap_setCell _ _ _ _ (kind_ne hc W5 (by decide))
            · refine own_keep HEr.out fun g hg => ?_
              obtain ⟨gl, _, cur, hc⟩ := own_lt HEr.out hg
              rw [Below.heap_setCell _ _ _ _ (kind_ne hc HX3r.out (by decide)), hgr5.block g (Nat.lt_of_lt_of_le gl hp4.size) (fun e => by
                obtain ⟨_, _, cur', hc'⟩ := own_lt HOP.out.row e.symm
                rw [hc] at hc'; cases hc'), hp4.block g gl]
            · exact set_other (keep5 _ _ _ (lt_of_block HX1r.out) HX1r.out) hX1w
            · exact set_other (keep5 _ _ _ (lt_of_block HX2r.out) HX2r.out) hX2w
        refine AllReadyH.cons rfl (fun K1 hK1 => ?_) AllReadyH.nil
        · -- append, then the load
          obtain ⟨a3, c3, w3, hrun3, hown3, hgr3, hob3⟩ := app_bytes wr.drew wr.drew.heap.size (.slice none 0 0) [] ⟨rfl, .inl ⟨rfl, rfl⟩⟩ c len cap _ (HE3.out.below (below_drewN (Below.refl _ _) 1)) (by simp; omega) (Nat.le_refl _)
          have hp3 := grown_pure hgr3
          simp only [List.nil_append, List.length_nil, Nat.zero_add] at hrun3 hown3
          have y3c1 := (hp3.cell (p := ⟨X3, 1, none⟩) x3l).trans x3c1
          rw [if_pos (by rfl)]
          refine wp_app _ _ 22 rfl rfl rfl hrun3 ?_
          refine hK1.out _ _ trivial (fun hHeld => ?_)
          clear hK1
          try simp only [Act.put, List.setIfInBounds_toArray, List.set_cons_zero, List.set_cons_succ, List.getElem_toArray, List.getElem_cons_succ, List.getElem_cons_zero]
          refine wpAnyH_ready (rs := [1, 4]) (by kernel_rfl) (by simp) ?_
          refine AllReadyH.cons rfl (fun K1 hK1 => ?_) ?_
          ·
            go_simp
            refine hK1.out _ _ trivial (fun hHeld => ?_)
            clear hK1
            try simp only [Act.put, List.setIfInBounds_toArray, List.set_cons_zero, List.set_cons_succ, List.getElem_toArray, List.getElem_cons_succ, List.getElem_cons_zero]
            refine wpAnyH_ready (rs := [4]) (by kernel_rfl) (by simp) ?_
            refine AllReadyH.cons rfl (fun K1 hK1 => ?_) AllReadyH.nil
            go_simp
            refine hK1.out _ _ trivial (fun hHeld => ?_)
            clear hK1
            try simp only [Act.put, List.setIfInBounds_toArray, List.set_cons_zero, List.set_cons_succ, List.getElem_toArray, List.getElem_cons_succ, List.getElem_cons_zero]
            have Z4 : (w3.alloc (.cells #[.slice a3 len c3] 22)).heap[w3.heap.size]? = some (.cells #[.slice a3 len c3] 22 (0, 0)) := alloc_new _ _
            have hp4 : Below wr.heap.size wr (w3.alloc (.cells #[.slice a3 len c3] 22)) := (below_drewN (Below.refl _ _) 1).trans (pure_trans hp3 (pure_alloc w3 (.cells #[.slice a3 len c3] 22)))
            have hown4 : OwnB (w3.alloc (.cells #[.slice a3 len c3] 22)) wr.drew.heap.size (.slice a3 len c3) _ := own_pure hown3 (pure_alloc _ _)
            generalize hw4 : w3.alloc (.cells #[.slice a3 len c3] 22) = w4 at *
            clear hw4
            have z4c1 := (hp4.cell (p := ⟨X3, 1, none⟩) x3l).trans x3c1
            refine wpAnyH_ready (rs := [5]) (by kernel_rfl) (by simp) ?_
            refine AllReadyH.cons rfl (fun K1 hK1 => ?_) AllReadyH.nil
            have HOP4 : OwnP w4 w.heap.size (.slice pa' k pc') vs (m.pages.take k) := HOP.out.pure hp4
            have hvl := HVS.out
            obtain ⟨a5, c5, w5, hrun5, hown5, hgr5, hob5⟩ := app_slice w4 w.heap.size (.slice pa' k pc') vs HOP4.row w3.heap.size (.slice a3 len c3) Z4 rfl (by omega) (Nat.le_trans rl hp4.size)
            rw [hvl] at hrun5 hown5 hob5
            have hX3o : Value.ownBlock (.slice pa' k pc') ≠ some X3 := fun e => by
              obtain ⟨_, _, cur, hc⟩ := own_lt HOP.out.row e
              exact kind_ne hc HX3r.out (by decide) rfl
            have keep5 : ∀ j c f, j < wr.heap.size → wr.heap[j]? = some (.cells c 32 f) → w5.heap[j]? = some (.cells c 32 f) := fun j c f hj hc => by
              rw [hgr5.block j (Nat.lt_of_lt_of_le hj hp4.size) (fun e => by
                obtain ⟨_, _, cur, hc'⟩ := own_lt HOP.out.row e.symm
                rw [hc] at hc'; cases hc'), hp4.block j hj]
              exact hc
            have W5 := keep5 X3 _ _ x3l HX3r.out
            have f5 := frozen_of_arr W5 1
            have w5c1 := cell_of_arr W5 1
            simp at w5c1
            rw [if_pos (by rfl)]
            refine wp_app _ _ 30 rfl rfl rfl hrun5 ?_
            refine hK1.out _ _ trivial (fun hHeld => ?_)
            clear hK1
            try simp only [Act.put, List.setIfInBounds_toArray, List.set_cons_zero, List.set_cons_succ, List.getElem_toArray, List.getElem_cons_succ, List.getElem_cons_zero]
            refine wpAnyH_take (i := 6) (v := ?_) rfl (by kernel_rfl) (by kernel_rfl) (by kernel_rfl) (fun _ _ _ h => h) (Or.inl ⟨by rfl, ?_⟩) hHeld ?_
            rotate_left
            · (intro W hSw; (try dsimp only at hSw); go_simp; try with_reducible rfl)
            try simp only [Act.put, List.setIfInBounds_toArray, List.set_cons_zero, List.set_cons_succ, List.getElem_toArray, List.getElem_cons_succ, List.getElem_cons_zero]
            refine wpAnyH_ready (rs := [7]) (by kernel_rfl) (by simp) ?_
            refine AllReadyH.cons rfl (fun K1 hK1 => ?_) AllReadyH.nil
            go_simp
            refine hK1.out _ _ trivial (fun hHeld => ?_)
            clear hK1
            try simp only [Act.put, List.setIfInBounds_toArray, List.set_cons_zero, List.set_cons_succ, List.getElem_toArray, List.getElem_cons_succ, List.getElem_cons_zero]
            refine wpAnyH_done (by kernel_rfl) ?_ _
            try simp only [Act.put, List.setIfInBounds_toArray, List.set_cons_zero, List.set_cons_succ, List.getElem_toArray, List.getElem_cons_succ, List.getElem_cons_zero]
            go_wp2_with fail
            go_roundw
            case measure => simp [intOf]; omega
            case rel =>
              have hvl := HVS.out
              have hbel : Below w.heap.size w w5 := ((HPr.out.trans (hp4.mono rl)).grown hgr5 (Nat.le_trans rl hp4.size) (fun g hg => (own_lt HOP.out.row hg).2.1))
              have hX1w : w.heap.size ≠ X3 := by omega
              have hX2w : w.heap.size + 1 ≠ X3 := by omega
              refine ⟨k + 1, a5, c5, vs ++ [.slice a3 len c3], by go_num, by omega, by simp [hvl], ?_, ?_, ?_, hbel.setCell (p := ⟨X3, 1, none⟩) (by show _ ≤ X3; omega) _, ?_, ?_⟩
              · rw [set_arr W5 1 _]; rfl
              · have hO := HOP.out.snoc hp4 hown4 rl hgr5 hown5
                rw [← take_snoc_pg m.pages k (by have := HF.out.pages.1; omega)] at hO
                refine hO.keep (fun g hg => ?_) (fun i g hi hg => ?_)
                · obtain ⟨_, _, cur, hc⟩ := own_lt hO.row hg
                  exact Below.heap_setCell _ _ _ _ (kind_ne hc W5 (by decide))
                · obtain ⟨_, _, cur, hc⟩ := own_lt (hO.each i hi) hg
                  exact Below.heap_setCell _ _ _ _ (kind_ne hc W5 (by decide))
              · refine own_keep HEr.out fun g hg => ?_
                obtain ⟨gl, _, cur, hc⟩ := own_lt HEr.out hg
                rw [Below.heap_setCell _ _ _ _ (kind_ne hc HX3r.out (by decide)), hgr5.block g (Nat.lt_of_lt_of_le gl hp4.size) (fun e => by
                  obtain ⟨_, _, cur', hc'⟩ := own_lt HOP.out.row e.symm
                  rw [hc] at hc'; cases hc'), hp4.block g gl]
              · exact set_other (keep5 _ _ _ (lt_of_block HX1r.out) HX1r.out) hX1w
              · exact set_other (keep5 _ _ _ (lt_of_block HX2r.out) HX2r.out) hX2w
          refine AllReadyH.cons rfl (fun K1 hK1 => ?_) AllReadyH.nil
          ·
            go_simp
            refine hK1.out _ _ trivial (fun hHeld => ?_)
            clear hK1
            try simp only [Act.put, List.setIfInBounds_toArray, List.set_cons_zero, List.set_cons_succ, List.getElem_toArray, List.getElem_cons_succ, List.getElem_cons_zero]
            have Z4 : (w3.alloc (.cells #[.slice a3 len c3] 22)).heap[w3.heap.size]? = some (.cells #[.slice a3 len c3] 22 (0, 0)) := alloc_new _ _
            have hp4 : Below wr.heap.size wr (w3.alloc (.cells #[.slice a3 len c3] 22)) := (below_drewN (Below.refl _ _) 1).trans (pure_trans hp3 (pure_alloc w3 (.cells #[.slice a3 len c3] 22)))
            have hown4 : OwnB (w3.alloc (.cells #[.slice a3 len c3] 22)) wr.drew.heap.size (.slice a3 len c3) _ := own_pure hown3 (pure_alloc _ _)
            generalize hw4 : w3.alloc (.cells #[.slice a3 len c3] 22) = w4 at *
            clear hw4
            have z4c1 := (hp4.cell (p := ⟨X3, 1, none⟩) x3l).trans x3c1
            refine wpAnyH_ready (rs := [1]) (by kernel_rfl) (by simp) ?_
            refine AllReadyH.cons rfl (fun K1 hK1 => ?_) AllReadyH.nil
            go_simp
            refine hK1.out _ _ trivial (fun hHeld => ?_)
            clear hK1
            try simp only [Act.put, List.setIfInBounds_toArray, List.set_cons_zero, List.set_cons_succ, List.getElem_toArray, List.getElem_cons_succ, List.getElem_cons_zero]
            refine wpAnyH_ready (rs := [5]) (by kernel_rfl) (by simp) ?_
            refine AllReadyH.cons rfl (fun K1 hK1 => ?_) AllReadyH.nil
            have HOP4 : OwnP w4 w.heap.size (.slice pa' k pc') vs (m.pages.take k) := HOP.out.pure hp4
            have hvl := HVS.out
            obtain ⟨a5, c5, w5, hrun5, hown5, hgr5, hob5⟩ := app_slice w4 w.heap.size (.slice pa' k pc') vs HOP4.row w3.heap.size (.slice a3 len c3) Z4 rfl (by omega) (Nat.le_trans rl hp4.size)
            rw [hvl] at hrun5 hown5 hob5
            have hX3o : Value.ownBlock (.slice pa' k pc') ≠ some X3 := fun e => by
              obtain ⟨_, _, cur, hc⟩ := own_lt HOP.out.row e
              exact kind_ne hc HX3r.out (by decide) rfl
            have keep5 : ∀ j c f, j < wr.heap.size → wr.heap[j]? = some (.cells c 32 f) → w5.heap[j]? = some (.cells c 32 f) := fun j c f hj hc => by
              rw [hgr5.block j (Nat.lt_of_lt_of_le hj hp4.size) (fun e => by
                obtain ⟨_, _, cur, hc'⟩ := own_lt HOP.out.row e.symm
                rw [hc] at hc'; cases hc'), hp4.block j hj]
              exact hc
            have W5 := keep5 X3 _ _ x3l HX3r.out
            have f5 := frozen_of_arr W5 1
            have w5c1 := cell_of_arr W5 1
            simp at w5c1
            rw [if_pos (by rfl)]
            refine wp_app _ _ 30 rfl rfl rfl hrun5 ?_
            refine hK1.out _ _ trivial (fun hHeld => ?_)
            clear hK1
            try simp only [Act.put, List.setIfInBounds_toArray, List.set_cons_zero, List.set_cons_succ, List.getElem_toArray, List.getElem_cons_succ, List.getElem_cons_zero]
            refine wpAnyH_take (i := 6) (v := ?_) rfl (by kernel_rfl) (by kernel_rfl) (by kernel_rfl) (fun _ _ _ h => h) (Or.inl ⟨by rfl, ?_⟩) hHeld ?_
            rotate_left
            · (intro W hSw; (try dsimp only at hSw); go_simp; try with_reducible rfl)
            try simp only [Act.put, List.setIfInBounds_toArray, List.set_cons_zero, List.set_cons_succ, List.getElem_toArray, List.getElem_cons_succ, List.getElem_cons_zero]
            refine wpAnyH_ready (rs := [7]) (by kernel_rfl) (by simp) ?_
            refine AllReadyH.cons rfl (fun K1 hK1 => ?_) AllReadyH.nil
            go_simp
            refine hK1.out _ _ trivial (fun hHeld => ?_)
            clear hK1
            try simp only [Act.put, List.setIfInBounds_toArray, List.set_cons_zero, List.set_cons_succ, List.getElem_toArray, List.getElem_cons_succ, List.getElem_cons_zero]
            refine wpAnyH_done (by kernel_rfl) ?_ _
            try simp only [Act.put, List.setIfInBounds_toArray, List.set_cons_zero, List.set_cons_succ, List.getElem_toArray, List.getElem_cons_succ, List.getElem_cons_zero]
            go_wp2_with fail
            go_roundw
            case measure => simp [intOf]; omega
            case rel =>
              have hvl := HVS.out
              have hbel : Below w.heap.size w w5 := ((HPr.out.trans (hp4.mono rl)).grown hgr5 (Nat.le_trans rl hp4.size) (fun g hg => (own_lt HOP.out.row hg).2.1))
              have hX1w : w.heap.size ≠ X3 := by omega
              have hX2w : w.heap.size + 1 ≠ X3 := by omega
              refine ⟨k + 1, a5, c5, vs ++ [.slice a3 len c3], by go_num, by omega, by simp [hvl], ?_, ?_, ?_, hbel.setCell (p := ⟨X3, 1, none⟩) (by show _ ≤ X3; omega) _, ?_, ?_⟩
              · rw [set_arr W5 1 _]; rfl
              · have hO := HOP.out.snoc hp4 hown4 rl hgr5 hown5
                rw [← take_snoc_pg m.pages k (by have := HF.out.pages.1; omega)] at hO
                refine hO.keep (fun g hg => ?_) (fun i g hi hg => ?_)
                · obtain ⟨_, _, cur, hc⟩ := own_lt hO.row hg
                  exact Below.heap_setCell _ _ _ _ (kind_ne hc W5 (by decide))
                · obtain ⟨_, _, cur, hc⟩ := own_lt (hO.each i hi) hg
                  exact Below.heap_setCell _ _ _ _ (kind_ne hc W5 (by decide))
              · refine own_keep HEr.out fun g hg => ?_
                obtain ⟨gl, _, cur, hc⟩ := own_lt HEr.out hg
                rw [Below.heap_setCell _ _ _ _ (kind_ne hc HX3r.out (by decide)), hgr5.block g (Nat.lt_of_lt_of_le gl hp4.size) (fun e => by
                  obtain ⟨_, _, cur', hc'⟩ := own_lt HOP.out.row e.symm
                  rw [hc] at hc'; cases hc'), hp4.block g gl]
              · exact set_other (keep5 _ _ _ (lt_of_block HX1r.out) HX1r.out) hX1w
              · exact set_other (keep5 _ _ _ (lt_of_block HX2r.out) HX2r.out) hX2w
      · obtain rfl : k = pn := by omega
        have y0 := cell_of_arr HX2r.out 0
        have y1 := cell_of_arr HX2r.out 1
        have y2 := cell_of_arr HX2r.out 2
        have f0 := frozen_of_arr HX2r.out 0
        have f1 := frozen_of_arr HX2r.out 1
        have f2 := frozen_of_arr HX2r.out 2
        simp at y0 y1 y2
        go_wp2_with fail
        have F2 := set_arr (set_arr (set_arr HX2r.out 0 (.int .i64 sz)) 1 (.slice pa' k pc')) 2 (.slice ea' m.erased.length ec')
        have g0 := cell_of_arr F2 0
        have g1 := cell_of_arr F2 1
        have g2 := cell_of_arr F2 2
        simp at g0 g1 g2
        have hfin : OwnP (((wr.setCell ⟨w.heap.size + 1, 0, none⟩ (.int .i64 sz)).setCell ⟨w.heap.size + 1, 1, none⟩ (.slice pa' k pc')).setCell ⟨w.heap.size + 1, 2, none⟩ (.slice ea' m.erased.length ec')) w.heap.size (.slice pa' k pc') vs m.pages := by
          have hO := HOP.out
          rw [List.take_of_length_le (by have := HF.out.pages.1; omega)] at hO
          refine hO.keep (fun g hg => ?_) (fun i g hi hg => ?_)
          · obtain ⟨_, _, cur, hc⟩ := own_lt hO.row hg
            have hne := kind_ne hc HX2r.out (by decide)
            rw [Below.heap_setCell _ _ _ _ hne, Below.heap_setCell _ _ _ _ hne, Below.heap_setCell _ _ _ _ hne]
          · obtain ⟨_, _, cur, hc⟩ := own_lt (hO.each i hi) hg
            have hne := kind_ne hc HX2r.out (by decide)
            rw [Below.heap_setCell _ _ _ _ hne, Below.heap_setCell _ _ _ _ hne, Below.heap_setCell _ _ _ _ hne]
        have hfe : (((wr.setCell ⟨w.heap.size + 1, 0, none⟩ (.int .i64 sz)).setCell ⟨w.heap.size + 1, 1, none⟩ (.slice pa' k pc')).setCell ⟨w.heap.size + 1, 2, none⟩ (.slice ea' m.erased.length ec')).ownsRow w.heap.size 3 1 (.slice ea' m.erased.length ec') m.erased.length (m.erased.map (Value.int .i64)) := by
          refine own_keep HEr.out fun g hg => ?_
          obtain ⟨_, _, cur, hc⟩ := own_lt HEr.out hg
          have hne := kind_ne hc HX2r.out (by decide)
          rw [Below.heap_setCell _ _ _ _ hne, Below.heap_setCell _ _ _ _ hne, Below.heap_setCell _ _ _ _ hne]
        have hfb := ((HPr.out.setCell (p := ⟨w.heap.size + 1, 0, none⟩) (by simp) (.int .i64 sz)).setCell (p := ⟨w.heap.size + 1, 1, none⟩) (by simp) (.slice pa' k pc')).setCell (p := ⟨w.heap.size + 1, 2, none⟩) (by simp) (.slice ea' m.erased.length ec')
        generalize (((wr.setCell ⟨w.heap.size + 1, 0, none⟩ (.int .i64 sz)).setCell ⟨w.heap.size + 1, 1, none⟩ (.slice pa' k pc')).setCell ⟨w.heap.size + 1, 2, none⟩ (.slice ea' m.erased.length ec')) = wF at *
        exact bodyPost_ret (v := .agg #[.int .i64 sz, .slice pa' k pc', .slice ea' m.erased.length ec']) (by simp [results, Try.results42, go_sem, g0, g1, g2]) rfl ⟨_, _, vs, rfl, hfin, hfe, hfb⟩
end Go.Proofs.Ytnfjfifdkmgbdaa
