/- The walk of Torn. -/
import Derived.Test.YtnfjfifdkmgbdaaWs
namespace Go.Proofs.Ytnfjfifdkmgbdaa
open Go.RowKit Go.Shelf
attribute [local go_sem] Oper.semAt_some

/-- Where the loop of Torn stands. -/
structure TI (w : World) (m : Fl.Mem) (pn q cb X g gc ge gec bk br : Nat) (pre : List (OkStep pn)) (W : World) : Prop where
  f : ∃ vs, OwnF W cb X (Fl.runs m (stepsOf pre)) (some ⟨g, 0, none⟩) gc (some ⟨ge, 0, none⟩) gec vs
  le : pre.length ≤ q
  k : W.heap[bk]? = some (.cells #[.int .i64 ((q : Int) - (pre.length : Int))] 3 (0, 0))
  r : W.heap[br]? = some (.cells #[.int .i64 0, .slice none 0 0, .slice none 0 0] 32 (0, 0))
  low : Below w.heap.size w W
  hi : cb ≤ W.heap.size
theorem TI.cells {w : World} {m : Fl.Mem} {pn q cb X g gc ge gec bk br : Nat} {pre : List (OkStep pn)} {W W' : World} (h : TI w m pn q cb X g gc ge gec bk br pre W) (k : CellsKept W W') (hs : W.heap.size ≤ W'.heap.size) (hl : Below w.heap.size w W') : TI w m pn q cb X g gc ge gec bk br pre W' := by
  obtain ⟨vs, hf⟩ := h.f
  exact ⟨⟨vs, hf.cells k⟩, h.le, k _ _ _ _ h.k, k _ _ _ _ h.r, hl, Nat.le_trans h.hi hs⟩
theorem TI.own {w : World} {m : Fl.Mem} {pn q cb X g gc ge gec bk br B : Nat} (hB : w.heap.size ≤ B) : OwnFrom B (TI w m pn q cb X g gc ge gec bk br) := fun s A C row hs hg hr =>
  hs.cells (.of_grown hg fun r e => (hr r e).2) hg.size (ownFrom_below (β := Unit) (Nat.le_refl _) hB () A C row hs.low hg hr)

theorem OwnF.setLow {W : World} {base X g pc ec : Nat} {m : Fl.Mem} {ea : Option Addr} {vs : List Value} (h : OwnF W base X m (some ⟨g, 0, none⟩) pc ea ec vs) {b : Nat} (hb : b < base) (hX : X ≠ b) (i : Nat) (v : Value) : OwnF (W.setCell ⟨b, i, none⟩ v) base X m (some ⟨g, 0, none⟩) pc ea ec vs := by
  have nb : ∀ k, FBlk (some ⟨g, 0, none⟩) ea vs k → k ≠ b := fun k o => by have := (h.blk o).1; omega
  exact ⟨set_other h.box hX, h.pages.keep (fun k hk => Below.heap_setCell _ _ _ _ (nb k (by cases hk; exact .inl ⟨_, rfl, rfl⟩))) (fun i k hi hk => Below.heap_setCell _ _ _ _ (nb k (.inr (.inr ⟨i, hi, hk⟩)))),
     own_keep h.erased (fun k hk => Below.heap_setCell _ _ _ _ (nb k (by cases ea with | none => cases hk | some a => cases hk; exact .inr (.inl ⟨_, rfl, rfl⟩))))⟩
/-- The end of Torn: its memory is the result. -/
theorem torn_end {w W : World} {cb X g gc ge gec br D : Nat} {mm : Fl.Mem} {vs : List Value} (hf : OwnF W cb X mm (some ⟨g, 0, none⟩) gc (some ⟨ge, 0, none⟩) gec vs)
    (hr : W.heap[br]? = some (.cells #[.int .i64 0, .slice none 0 0, .slice none 0 0] 32 (0, 0))) (hb : br < cb) (hX : X ≠ br) (hK : W.heap[D]? = some (.deferred (some []))) (low : Below w.heap.size w W) (h1 : w.heap.size ≤ br) (h2 : w.heap.size ≤ D) (hXl : w.heap.size ≤ X)
    (hp : mm.pages.length ≤ 1000) (he : mm.erased.length ≤ 1000) (hsz : 0 ≤ mm.size ∧ mm.size ≤ 1000) (tb : Fl.TB mm 200) (W' : World) (hW' : W' = ((W.setCell ⟨br, 0, none⟩ (.int .i64 mm.size)).setCell ⟨br, 1, none⟩ (.slice (some ⟨g, 0, none⟩) mm.pages.length gc)).setCell ⟨br, 2, none⟩ (.slice (some ⟨ge, 0, none⟩) mm.erased.length gec)) :
    W'.heap[D]? = some (.deferred (some [])) ∧ (W'.putObj D (.deferred none)).heap[br]? = some (.cells #[.int .i64 mm.size, .slice (some ⟨g, 0, none⟩) mm.pages.length gc, .slice (some ⟨ge, 0, none⟩) mm.erased.length gec] 32 (0, 0)) ∧
      (∀ W2 : World, (∀ k, w.heap.size ≤ k → W2.heap[k]? = (W'.putObj D (.deferred none)).heap[k]?) → FRep W2 mm.size (some ⟨g, 0, none⟩) mm.pages.length (some ⟨ge, 0, none⟩) mm.erased.length mm) ∧ Below w.heap.size w (W'.putObj D (.deferred none)) := by
  have hDb : D ≠ br := fun e => by subst e; rw [hr] at hK; cases hK
  have k1 : W'.heap[D]? = some (.deferred (some [])) := by
    rw [hW', Below.heap_setCell _ _ _ _ hDb, Below.heap_setCell _ _ _ _ hDb, Below.heap_setCell _ _ _ _ hDb]; exact hK
  have k2 : W'.heap[br]? = some (.cells #[.int .i64 mm.size, .slice (some ⟨g, 0, none⟩) mm.pages.length gc, .slice (some ⟨ge, 0, none⟩) mm.erased.length gec] 32 (0, 0)) := by
    rw [hW', set_arr (set_arr (set_arr hr 0 _) 1 _) 2 _]; simp
  have ck : CellsKept W' (W'.putObj D (.deferred none)) := .of_grown (grownBy_putObj' _ _ _) (fun r e => by cases e; exact ⟨_, k1, rfl⟩)
  have hf2 : OwnF W' cb X mm (some ⟨g, 0, none⟩) gc (some ⟨ge, 0, none⟩) gec vs := by
    rw [hW']; exact ((hf.setLow hb hX _ _).setLow hb hX _ _).setLow hb hX _ _
  refine ⟨k1, ck _ _ _ _ k2, fun W2 hW2 => ((hf2.cells ck).keepFrom hW2 (by omega) hXl).frep hp he hsz (fun i => by have := tb.len i; omega) (fun i => ⟨tb.lo i, by have := tb.hi i; omega⟩), ?_⟩
  have lw : Below w.heap.size w W' := by rw [hW']; exact ((low.setCell (by simpa using h1) _).setCell (by simpa using h1) _).setCell (by simpa using h1) _
  exact lw.trans (belowK_b (w := w) (Nat.le_refl _) W' D _ _ h2 k1 rfl rfl)

set_option maxHeartbeats 1600000 in
theorem torn_any (sz : Int) (pa : Option Addr) (pn pc : Nat) (ea : Option Addr) (en ec : Nat) (key v k : Int) (m : Fl.Mem) (w : World) (h : FRep w sz pa pn ea en m) :
    Calls Try.prog 22 #[.agg #[.int .i64 sz, .slice pa pn pc, .slice ea en ec], .int .i64 key, .int .i64 v, .int .i64 k] w (FPost (Fl.tornP m key v k) w) := by
  have HF := Lib.hid h
  have P1 : Below w.heap.size w (((((w.alloc (.cells #[.int .i64 sz, .slice pa pn pc, .slice ea en ec] 32)).alloc (.cells #[.int .i64 key] 3)).alloc (.cells #[.int .i64 v] 3)).alloc (.cells #[.int .i64 k] 3)).alloc (.cells #[.int .i64 0, .slice none 0 0, .slice none 0 0] 32)) :=
    ((((pure_alloc _ _).alloc (by simp) _).alloc (by simp; omega) _).alloc (by simp; omega) _).alloc (by simp; omega) _
  have R0 : Hid (Fl.tornP m key v k = if (stepsRes m key v).2 ≠ 0 then (Fl.none_, (stepsRes m key v).2) else if k < 0 ∨ (stepsRes m key v).1 < k then (Fl.none_, 1) else (Fl.runs m ((Fl.stepsP m key v).take k.toNat), 0)) := rfl
  clear h
  refine callsIn_wide.1 (callsIn_of_wp_marks (n := 9) Try.func22 rfl trivial ?_ rfl)
  simp only [Try.ntmps22, List.size_toArray, List.length_cons, List.length_nil, Nat.reduceAdd, Nat.reduceSub, Array.replicate_succ, Array.replicate_zero, List.push_toArray, List.append_toArray, List.nil_append, List.cons_append]
  refine wpIn_wide.2 ?_
  go_upto_region 1 with fail
  have B0 : (((((w.alloc (.cells #[.int .i64 sz, .slice pa pn pc, .slice ea en ec] 32)).alloc (.cells #[.int .i64 key] 3)).alloc (.cells #[.int .i64 v] 3)).alloc (.cells #[.int .i64 k] 3)).alloc (.cells #[.int .i64 0, .slice none 0 0, .slice none 0 0] 32)).heap[w.heap.size]? = some (.cells #[.int .i64 sz, .slice pa pn pc, .slice ea en ec] 32 (0, 0)) := alloc_keep (alloc_keep (alloc_keep (alloc_keep (alloc_new _ _))))
  have B1 : (((((w.alloc (.cells #[.int .i64 sz, .slice pa pn pc, .slice ea en ec] 32)).alloc (.cells #[.int .i64 key] 3)).alloc (.cells #[.int .i64 v] 3)).alloc (.cells #[.int .i64 k] 3)).alloc (.cells #[.int .i64 0, .slice none 0 0, .slice none 0 0] 32)).heap[w.heap.size + 1]? = some (.cells #[.int .i64 key] 3 (0, 0)) := alloc_keep (alloc_keep (alloc_keep (alloc_new' _ _ _ (by simp))))
  have B2 : (((((w.alloc (.cells #[.int .i64 sz, .slice pa pn pc, .slice ea en ec] 32)).alloc (.cells #[.int .i64 key] 3)).alloc (.cells #[.int .i64 v] 3)).alloc (.cells #[.int .i64 k] 3)).alloc (.cells #[.int .i64 0, .slice none 0 0, .slice none 0 0] 32)).heap[w.heap.size + 1 + 1]? = some (.cells #[.int .i64 v] 3 (0, 0)) := alloc_keep (alloc_keep (alloc_new' _ _ _ (by simp)))
  have B3 : (((((w.alloc (.cells #[.int .i64 sz, .slice pa pn pc, .slice ea en ec] 32)).alloc (.cells #[.int .i64 key] 3)).alloc (.cells #[.int .i64 v] 3)).alloc (.cells #[.int .i64 k] 3)).alloc (.cells #[.int .i64 0, .slice none 0 0, .slice none 0 0] 32)).heap[w.heap.size + 1 + 1 + 1]? = some (.cells #[.int .i64 k] 3 (0, 0)) := alloc_keep (alloc_new' _ _ _ (by simp))
  have B4 : (((((w.alloc (.cells #[.int .i64 sz, .slice pa pn pc, .slice ea en ec] 32)).alloc (.cells #[.int .i64 key] 3)).alloc (.cells #[.int .i64 v] 3)).alloc (.cells #[.int .i64 k] 3)).alloc (.cells #[.int .i64 0, .slice none 0 0, .slice none 0 0] 32)).heap[w.heap.size + 1 + 1 + 1 + 1]? = some (.cells #[.int .i64 0, .slice none 0 0, .slice none 0 0] 32 (0, 0)) := alloc_new' _ _ _ (by simp)
  generalize (((((w.alloc (.cells #[.int .i64 sz, .slice pa pn pc, .slice ea en ec] 32)).alloc (.cells #[.int .i64 key] 3)).alloc (.cells #[.int .i64 v] 3)).alloc (.cells #[.int .i64 k] 3)).alloc (.cells #[.int .i64 0, .slice none 0 0, .slice none 0 0] 32)) = w1 at *
  have c1 := cell_of_arr B0 0
  have c2 := cell_of_arr B0 1
  have c3 := cell_of_arr B0 2
  have c4 := cell_of_arr B1 0
  have c5 := cell_of_arr B2 0
  simp at c1 c2 c3 c4 c5
  have HS := Lib.hid (steps_any sz pa pn pc ea en ec key v m w1 (HF.out.below P1))
  have HB0 := Lib.hid B0
  have HB1 := Lib.hid B1
  have HB2 := Lib.hid B2
  have HB3 := Lib.hid B3
  have HB4 := Lib.hid B4
  have HP1 := Lib.hid P1
  clear B0 B1 B2 B3 B4 P1
  go_wp2_with fail
  refine HS.out.mono ?_
  rintro e w2 ⟨rfl, hw2⟩
  have HP2 := Lib.hid (pure_trans HP1.out hw2)
  have kp : ∀ {b : Nat} {o : Obj}, w1.heap[b]? = some o → w2.heap[b]? = some o := fun hb => Below.keep hw2 hb (lt_of_block hb)
  have B0 := kp HB0.out
  have B1 := kp HB1.out
  have B2 := kp HB2.out
  have B3 := kp HB3.out
  have B4 := kp HB4.out
  clear kp c1 c2 c3 c4 c5 hw2 HB0 HB1 HB2 HB3 HB4 HP1 HS
  have c1 := cell_of_arr B0 0
  have c2 := cell_of_arr B0 1
  have c3 := cell_of_arr B0 2
  have c7 := cell_of_arr B3 0
  have d1 := cell_of_arr B4 0
  have d2 := cell_of_arr B4 1
  have d3 := cell_of_arr B4 2
  have f4 := frozen_of_arr B4 0
  have f5 := frozen_of_arr B4 1
  have f6 := frozen_of_arr B4 2
  simp at c1 c2 c3 c7 d1 d2 d3
  by_cases he : (stepsRes m key v).2 = 0
  rotate_left
  · have R1 : Hid (Fl.tornP m key v k = (Fl.none_, (stepsRes m key v).2)) := by show _ = _; rw [R0.out, if_pos he]
    clear R0
    generalize (stepsRes m key v).2 = er at *
    generalize (stepsRes m key v).1 = ln at *
    go_wp2_with fail
    have S3 := set_arr (set_arr (set_arr B4 0 (.int .i64 0)) 1 (.slice none 0 0)) 2 (.slice none 0 0)
    simp at S3
    have g1 := cell_of_arr S3 0
    have g2 := cell_of_arr S3 1
    have g3 := cell_of_arr S3 2
    simp at g1 g2 g3
    refine ⟨.tuple #[.agg #[.int .i64 0, .slice none 0 0, .slice none 0 0], .int .i64 er], by simp [results, Try.results22, go_sem, g1, g2, g3], ?_⟩
    rw [R1.out]
    exact FPost.mk rfl (fun W _ => frep_none W) (((HP2.out.setCell (by simp; omega) _).setCell (by simp; omega) _).setCell (by simp; omega) _)
  have R2 : Hid (Fl.tornP m key v k = if k < 0 ∨ (stepsRes m key v).1 < k then (Fl.none_, 1) else (Fl.runs m ((Fl.stepsP m key v).take k.toNat), 0)) := by show _ = _; rw [R0.out, if_neg (by simp [he])]
  clear R0
  obtain ⟨hv, ha, hn⟩ : Fl.validP m = true ∧ argsOk key v = true ∧ (stepsRes m key v).1 = ((Fl.stepsP m key v).length : Int) := by
    unfold stepsRes at he ⊢
    cases h1 : Fl.validP m <;> cases h2 : argsOk key v <;> simp [h1, h2] at he ⊢
    cases h3 : wornP m (Fl.stepsP m key v) <;> simp [h3] at he ⊢
  have hsl := stepsP_len m key v
  rw [he, hn]
  rw [hn] at R2
  generalize hsn : (Fl.stepsP m key v).length = sn at *
  have HSN := Lib.hid hsn
  clear hsn he hn
  by_cases hk : k < 0 ∨ (sn : Int) < k
  · have R3 : Hid (Fl.tornP m key v k = (Fl.none_, 1)) := by show _ = _; rw [R2.out, if_pos hk]
    clear R2
    have S3 := set_arr (set_arr (set_arr B4 0 (.int .i64 0)) 1 (.slice none 0 0)) 2 (.slice none 0 0)
    simp at S3
    have g1 := cell_of_arr S3 0
    have g2 := cell_of_arr S3 1
    have g3 := cell_of_arr S3 2
    simp at g1 g2 g3
    have G : Hid (Fl.tornP m key v k = (Fl.none_, 1) ∧ Below w.heap.size w (((w2.setCell ⟨w.heap.size + 1 + 1 + 1 + 1, 0, none⟩ (.int .i64 0)).setCell ⟨w.heap.size + 1 + 1 + 1 + 1, 1, none⟩ (.slice none 0 0)).setCell ⟨w.heap.size + 1 + 1 + 1 + 1, 2, none⟩ (.slice none 0 0))) := ⟨R3.out, ((HP2.out.setCell (by simp; omega) _).setCell (by simp; omega) _).setCell (by simp; omega) _⟩
    have G1 := Lib.hid g1
    have G2 := Lib.hid g2
    have G3 := Lib.hid g3
    clear S3 g1 g2 g3
    by_cases hk0 : k < 0
    · go_wp2_with fail
      refine ⟨.tuple #[.agg #[.int .i64 0, .slice none 0 0, .slice none 0 0], .int .i64 1], by simp [results, Try.results22, go_sem, G1.out, G2.out, G3.out], ?_⟩
      rw [G.out.1]
      exact FPost.mk rfl (fun W _ => frep_none W) G.out.2
    · have hk1 : (sn : Int) < k := by omega
      go_wp2_with fail
      refine ⟨.tuple #[.agg #[.int .i64 0, .slice none 0 0, .slice none 0 0], .int .i64 1], by simp [results, Try.results22, go_sem, G1.out, G2.out, G3.out], ?_⟩
      rw [G.out.1]
      exact FPost.mk rfl (fun W _ => frep_none W) G.out.2
  have R3 : Hid (Fl.tornP m key v k = (Fl.runs m ((Fl.stepsP m key v).take k.toNat), 0)) := by show _ = _; rw [R2.out, if_neg hk]
  clear R2
  obtain ⟨q, rfl⟩ : ∃ q : Nat, k = (q : Int) := ⟨k.toNat, by omega⟩
  have hk1 : ¬ (sn : Int) < (q : Int) := by omega
  clear hk
  have V := vfacts hv
  have HV := Lib.hid V
  have HVV := Lib.hid hv
  have HA := Lib.hid ha
  have hp1 := V.pages
  have hs1 := V.size
  have hl1 := V.lens
  have hpn := HF.out.pages.1
  have hen := HF.out.erased.1
  have HC := Lib.hid (copied_any sz pa pn pc ea en ec m w2 (HF.out.below HP2.out) (by omega) (by omega) (fun i hi => by have := rows_len _ _ i V.rows (by omega); omega))
  clear V hv ha d1 d2 d3
  have HB1 := Lib.hid B1
  have HB2 := Lib.hid B2
  clear B1 B2
  go_wp2_with fail
  refine HC.out.mono ?_
  rintro e w3 ⟨pv, ev, vs, rfl, hpv, hev, hw3⟩
  obtain ⟨g, gc, rfl, _, _⟩ := World.ownsRow.form hpv.row (by have := hpv.len; omega)
  obtain ⟨ge, gec, rfl, _, _⟩ := World.ownsRow.form hev (by omega)
  clear HC
  have hvl : vs.length = pn := by have := hpv.len; omega
  rw [hvl] at hpv ⊢
  go_upto_region 7 with fail
  have kp : ∀ {b : Nat} {o : Obj}, w2.heap[b]? = some o → (w3.alloc (.cells #[.int .i64 sz, .slice (some ⟨g, 0, none⟩) pn gc, .slice (some ⟨ge, 0, none⟩) pn gec] 32)).heap[b]? = some o := fun hb => alloc_keep (Below.keep hw3 hb (lt_of_block hb))
  have OF : Hid (OwnF (w3.alloc (.cells #[.int .i64 sz, .slice (some ⟨g, 0, none⟩) pn gc, .slice (some ⟨ge, 0, none⟩) pn gec] 32)) w2.heap.size w3.heap.size m (some ⟨g, 0, none⟩) gc (some ⟨ge, 0, none⟩) gec vs) := by
    show OwnF _ _ _ _ _ _ _ _ _
    refine ⟨?_, ?_, own_pure hev (pure_alloc _ _)⟩
    · rw [alloc_new, ← HF.out.size, hl1, hpn]
    · have := hpv.pure (pure_alloc w3 (.cells #[.int .i64 sz, .slice (some ⟨g, 0, none⟩) pn gc, .slice (some ⟨ge, 0, none⟩) pn gec] 32))
      rw [hpn]; exact this
  have P4 : Hid (Below w.heap.size w (w3.alloc (.cells #[.int .i64 sz, .slice (some ⟨g, 0, none⟩) pn gc, .slice (some ⟨ge, 0, none⟩) pn gec] 32)) ∧ w2.heap.size ≤ (w3.alloc (.cells #[.int .i64 sz, .slice (some ⟨g, 0, none⟩) pn gc, .slice (some ⟨ge, 0, none⟩) pn gec] 32)).heap.size) := ⟨pure_trans HP2.out (hw3.alloc hw3.size _), by have := hw3.size; simp; omega⟩
  have E0 := Lib.hid (kp B0)
  have E1 := Lib.hid (kp HB1.out)
  have E2 := Lib.hid (kp HB2.out)
  have E3 := Lib.hid (kp B3)
  have E4 := Lib.hid (kp B4)
  have hcb : w.heap.size + 1 + 1 + 1 < w2.heap.size := lt_of_block B3
  have hcb4 : w.heap.size + 1 + 1 + 1 + 1 < w2.heap.size := lt_of_block B4
  have hXc := hw3.size
  have HVL := Lib.hid hvl
  clear hvl
  generalize hcb0 : w2.heap.size = cb at *
  generalize hX0 : w3.heap.size = X at *
  generalize hW0 : w3.alloc (.cells #[.int .i64 sz, .slice (some ⟨g, 0, none⟩) pn gc, .slice (some ⟨ge, 0, none⟩) pn gec] 32) = W0 at *
  clear hW0 hX0 hcb0 kp hw3 hpv hev B0 B3 B4 HB1 HB2 f4 f5 f6 c1 c2 c3 c7 HP2
  go_wp2_with fail
  generalize decide ((q : Int) < 0) = dq at *
  have HARG : Hid (0 ≤ key ∧ key ≤ 15 ∧ 0 ≤ v ∧ v ≤ 1099511627775) := by
    have h := HA.out
    simp [argsOk] at h
    show _ ∧ _
    omega
  refine (wpIn_wide (n := 9)).1 ?_
  refine wpIn_rangeFunc_ownH (α := OkStep pn) rfl (by omega) (gf := 43) (lb := #[.pointer (some ⟨w.heap.size, 0, none⟩), .pointer (some ⟨w.heap.size + 1, 0, none⟩), .pointer (some ⟨w.heap.size + 1 + 1, 0, none⟩)]) rfl trivial (enters_of Try.func43 (by kernel_rfl) rfl)
    (torn1_stops (tIface (n0 := w.heap.size) (bk := w.heap.size + 1 + 1 + 1) (cb := cb) (X := X) (g := g) (pc := gc) (ec := gec) (pn := pn) (ea := some ⟨ge, 0, none⟩)) (9 - 1) sz pa pn pc ea en ec m key v w W0 HF.out HVV.out rfl P4.out.1 ⟨by omega, hcb, P4.out.2, m, vs, OF.out, hpn⟩ HARG.out.1 HARG.out.2.1 HARG.out.2.2.1 HARG.out.2.2.2 _ _ _ E0.out E1.out E2.out)
    (fun h k => h.trans k) (fun W l o o' hl ho hc _ => tKy_put o' ho hc (by have := P4.out.1.size; omega)) (Below.refl _ _) (fun _ => rfl)
    (TI w m pn q cb X g gc ge gec (w.heap.size + 1 + 1 + 1) (w.heap.size + 1 + 1 + 1 + 1))
    (fun c l W => ∃ pre x, l = pre ++ [x] ∧ pre.length = q ∧ c = .exit 0 ∧ TI w m pn q cb X g gc ge gec (w.heap.size + 1 + 1 + 1) (w.heap.size + 1 + 1 + 1 + 1) pre W)
    (TI.own P4.out.1.size)
    (fun c s A C row hs hg hr => by obtain ⟨pre, x, h1, h2, h3, h4⟩ := hs; exact ⟨pre, x, h1, h2, h3, TI.own P4.out.1.size pre A C row h4 hg hr⟩)
    ⟨⟨vs, OF.out⟩, by simp, by simpa using E3.out, E4.out, P4.out.1, P4.out.2⟩
    (fun x a' W => ∃ Bx, W.heap[Bx]? = some (.cells #[.int .i64 x.1.page, .int .i64 x.1.at_, .bool x.1.erase, .int .u8 (x.1.b.toNat : Int)] 74 (0, 0)) ∧ a' = { tmps := #[.agg #[.int .i64 sz, .slice pa pn pc, .slice ea en ec], .int .i64 key, .int .i64 v, .int .i64 (q : Int), .pointer (some ⟨w.heap.size, 0, none⟩), .pointer (some ⟨w.heap.size + 1, 0, none⟩), .pointer (some ⟨w.heap.size + 1 + 1, 0, none⟩), .pointer (some ⟨w.heap.size + 1 + 1 + 1, 0, none⟩), .pointer (some ⟨w.heap.size + 1 + 1 + 1 + 1, 0, none⟩), .int .i64 0, .int .i64 (sn : Int), .int .i64 0, .pointer (some ⟨X, 0, none⟩), .pointer (some ⟨Bx, 0, none⟩), .tuple #[.int .i64 (sn : Int), .int .i64 0], .agg #[.int .i64 sz, .slice pa pn pc, .slice ea en ec], .int .i64 key, .int .i64 v, .tuple #[.int .i64 (sn : Int), .int .i64 0], .int .i64 (sn : Int), .int .i64 0, .int .i64 0, .bool false, undef, undef, .int .i64 (q : Int), .bool dq, .bool dq, .int .i64 (q : Int), .int .i64 (sn : Int), .bool false, .bool dq, undef, .agg #[.int .i64 sz, .slice pa pn pc, .slice ea en ec], .agg #[.int .i64 sz, .slice (some ⟨g, 0, none⟩) pn gc, .slice (some ⟨ge, 0, none⟩) pn gec], .func (.func 43) #[] #[.pointer (some ⟨w.heap.size, 0, none⟩), .pointer (some ⟨w.heap.size + 1, 0, none⟩), .pointer (some ⟨w.heap.size + 1 + 1, 0, none⟩)], encS x.1, undef, undef, undef, undef, undef, undef, undef], defers := [] })
    (fun x a' _ A C row hs hg hr => by obtain ⟨Bx, h1, h2⟩ := hs; exact ⟨Bx, CellsKept.of_grown hg (fun r e => (hr r e).2) _ _ _ _ h1, h2⟩)
    ?assign ?body ?done ?stop
  case assign =>
    rintro l pre ⟨⟨page, at_, er, b⟩, ok⟩ W K hi hK
    simp only [encS]
    have HI := Lib.hid hi
    clear hi
    gi_wp2
    have hb := pure_alloc W (.cells #[.int .i64 page, .int .i64 at_, .bool er, .int .u8 (b.toNat : Int)] 74)
    exact hK _ _ ((KeepsOthers.alloc _ _).from _) (Ky.of_pure tIface hb HI.out.low.size) (HI.out.cells (.of_below hb) hb.size (HI.out.low.alloc HI.out.low.size _)) ⟨W.heap.size, alloc_new _ _, rfl⟩
  case body =>
    rintro l pre ⟨⟨page, at_, er, b⟩, ok⟩ a' W hl hr hi ⟨Bx, hBx, rfl⟩ hlt
    simp only [encS]
    dsimp only at hBx
    obtain ⟨vs1, hf⟩ := hi.f
    have hk := hi.k
    have HI := Lib.hid hi
    have OF1 := Lib.hid hf
    have HBX := Lib.hid hBx
    have s0 := cell_of_arr hBx 0
    have s1 := cell_of_arr hBx 1
    have s2 := cell_of_arr hBx 2
    have s3 := cell_of_arr hBx 3
    have ck := cell_of_arr hk 0
    simp at s0 s1 s2 s3 ck
    have hle := hi.le
    obtain ⟨pq, rfl⟩ := Int.eq_ofNat_of_zero_le ok.1
    have tb := runs_tb HV.out pre
    have hmp := Fl.runs_pages m (stepsOf pre)
    have hme := Fl.runs_erased m (stepsOf pre)
    have ok1 : (pq : Int) < (pn : Int) := ok.2.1
    have ok2 : 0 ≤ at_ := ok.2.2.1
    have ok3 : at_ ≤ 100000 := ok.2.2.2
    have HTB := Lib.hid tb
    clear hi hf hBx hr tb
    by_cases hq : pre.length = q
    · rw [show (q : Int) - (pre.length : Int) = 0 by omega] at ck
      clear hk
      gi_wp2
      exact ⟨KeepsFrom.refl _ _, pre, _, rfl, hq, rfl, HI.out⟩
    · obtain ⟨kk, hkk⟩ : ∃ kk : Int, (q : Int) - (pre.length : Int) = kk := ⟨_, rfl⟩
      rw [hkk] at ck hk
      have hk1' : 1 ≤ kk := by omega
      have hk2' : kk ≤ 200 := by omega
      have hk0' : ¬ kk = 0 := by omega
      have HK := Lib.hid hk
      clear hk
      cases er
      · gi_wp2
        refine ⟨trivial, ?_⟩
        refine (CallsIn.inRound l (callsIn_wide.2 (do_write cb X (Fl.runs m (stepsOf pre)) (some ⟨g, 0, none⟩) gc (some ⟨ge, 0, none⟩) gec vs1 pq at_ b W OF1.out (by omega) (by omega) ok2 ok3 (by have := HTB.out.len pq; omega) HI.out.hi))).mono ?_
        rintro e W2 ⟨rfl, vs2, hf2, hk2⟩
        have hb2 := (hk2.blk _ (lt_of_block HK.out) (fun o => by have := (OF1.out.blk o).1; omega)).trans HK.out
        have ck2 := cell_of_arr hb2 0
        have fk2 := frozen_of_arr hb2 0
        simp at ck2
        have hr2 := (hk2.blk _ (lt_of_block HI.out.r) (fun o => by have := (OF1.out.blk o).1; omega)).trans HI.out.r
        have T := Lib.hid (tKy_step (n0 := w.heap.size) (pn := pn) (bk := w.heap.size + 1 + 1 + 1) (.int .i64 (kk - 1)) (by omega) hcb HI.out.hi OF1.out (by omega) hf2 (by rw [Fl.doP_pages]; omega) hk2 HK.out)
        have HR2 := Lib.hid hr2
        clear hf2 hk2 hb2 hr2
        gi_wp2
        obtain ⟨t1, t2, t3, t4⟩ := T.out
        refine ⟨t3.from _, t4, ⟨⟨vs2, ?_⟩, by simp; omega, ?_, set_other HR2.out (by simp), HI.out.low.trans t4.low, Nat.le_trans HI.out.hi t4.low.size⟩⟩
        · rw [stepsOf_append]; show OwnF _ _ _ (Fl.runs m (stepsOf pre ++ [_])) _ _ _ _ _; rw [Fl.runs_snoc]; exact t1
        · rw [t2, ← hkk]; simp; omega
      · gi_wp2
        refine ⟨trivial, ?_⟩
        refine (CallsIn.inRound l (callsIn_wide.2 (do_erase cb X (Fl.runs m (stepsOf pre)) (some ⟨g, 0, none⟩) gc (some ⟨ge, 0, none⟩) gec vs1 pq at_ b W OF1.out (by omega) (by omega) (by omega) (by have h1 := HTB.out.lo pq; have h2 := HTB.out.hi pq; omega)))).mono ?_
        rintro e W2 ⟨rfl, vs2, hf2, hk2⟩
        have hb2 := (hk2.blk _ (lt_of_block HK.out) (fun o => by have := (OF1.out.blk o).1; omega)).trans HK.out
        have ck2 := cell_of_arr hb2 0
        have fk2 := frozen_of_arr hb2 0
        simp at ck2
        have hr2 := (hk2.blk _ (lt_of_block HI.out.r) (fun o => by have := (OF1.out.blk o).1; omega)).trans HI.out.r
        have T := Lib.hid (tKy_step (n0 := w.heap.size) (pn := pn) (bk := w.heap.size + 1 + 1 + 1) (.int .i64 (kk - 1)) (by omega) hcb HI.out.hi OF1.out (by omega) hf2 (by rw [Fl.doP_pages]; omega) hk2 HK.out)
        have HR2 := Lib.hid hr2
        clear hf2 hk2 hb2 hr2
        gi_wp2
        obtain ⟨t1, t2, t3, t4⟩ := T.out
        refine ⟨t3.from _, t4, ⟨⟨vs2, ?_⟩, by simp; omega, ?_, set_other HR2.out (by simp), HI.out.low.trans t4.low, Nat.le_trans HI.out.hi t4.low.size⟩⟩
        · rw [stepsOf_append]; show OwnF _ _ _ (Fl.runs m (stepsOf pre ++ [_])) _ _ _ _ _; rw [Fl.runs_snoc]; exact t1
        · rw [t2, ← hkk]; simp; omega
  case done =>
    rintro D xs W hD hS hi hK
    obtain ⟨vs1, hf⟩ := hi.f
    have e0 := cell_of_arr hf.box 0
    have e1 := cell_of_arr hf.box 1
    have e2 := cell_of_arr hf.box 2
    have r0 := cell_of_arr hi.r 0
    have r1 := cell_of_arr hi.r 1
    have r2 := cell_of_arr hi.r 2
    have f0 := frozen_of_arr hi.r 0
    have f1 := frozen_of_arr hi.r 1
    have f2 := frozen_of_arr hi.r 2
    simp at e0 e1 e2 r0 r1 r2
    have hxl : xs.length = q := by
      have h1 := congrArg List.length hS
      have h2 := HSN.out
      have h3 := hi.le
      rw [stepsOf, List.length_map] at h1
      omega
    have hmm : Hid (Fl.tornP m key v q = (Fl.runs m (stepsOf xs), 0)) := by
      show _ = _
      rw [R3.out, hS, Int.toNat_natCast, List.take_of_length_le (by have h2 := HSN.out; have h1 := congrArg List.length hS; rw [stepsOf, List.length_map] at h1; omega)]
    have HE := Lib.hid (fun W' hW' => torn_end (D := D) (W' := W') hf hi.r hcb4 (by omega) hK hi.low (by omega) (by have := P4.out.1.size; omega) (by omega) (by rw [Fl.runs_pages]; omega) (by rw [Fl.runs_erased]; omega) (by rw [Fl.runs_size]; omega) (by have := runs_tb HV.out xs; exact ⟨fun i => by have := this.len i; omega, this.lo, fun i => by have := this.hi i; omega⟩) hW')
    generalize Fl.runs m (stepsOf xs) = mm at *
    clear hi hf hS
    go_wp2_with fail
    obtain ⟨t1, t2, t3, t4⟩ := HE.out _ rfl
    have g1 := cell_of_arr t2 0
    have g2 := cell_of_arr t2 1
    have g3 := cell_of_arr t2 2
    simp only [List.getElem?_toArray, List.getElem?_cons_zero, List.getElem?_cons_succ] at g1 g2 g3
    refine ⟨by simp, .inl ⟨_, _, rfl, run_takeDeferred t1, ?_⟩⟩
    refine ⟨.tuple #[.agg #[.int .i64 mm.size, .slice (some ⟨g, 0, none⟩) mm.pages.length gc, .slice (some ⟨ge, 0, none⟩) mm.erased.length gec], .int .i64 0], by simp [results, Try.results22, go_sem, g1, g2, g3], ?_⟩
    rw [hmm.out]
    exact FPost.mk rfl t3 t4
  case stop =>
    rintro D c l W hD hS ⟨xs, x, rfl, hxl, rfl, hi⟩ hK
    refine wpIn_wide.2 ?_
    obtain ⟨vs1, hf⟩ := hi.f
    have e0 := cell_of_arr hf.box 0
    have e1 := cell_of_arr hf.box 1
    have e2 := cell_of_arr hf.box 2
    have r0 := cell_of_arr hi.r 0
    have r1 := cell_of_arr hi.r 1
    have r2 := cell_of_arr hi.r 2
    have f0 := frozen_of_arr hi.r 0
    have f1 := frozen_of_arr hi.r 1
    have f2 := frozen_of_arr hi.r 2
    simp at e0 e1 e2 r0 r1 r2
    have hmm : Hid (Fl.tornP m key v q = (Fl.runs m (stepsOf xs), 0)) := by
      show _ = _
      obtain ⟨t, ht⟩ := hS
      have hx2 : (stepsOf xs).length = q := by rw [stepsOf, List.length_map]; exact hxl
      rw [R3.out, Int.toNat_natCast, ← ht, stepsOf_append, List.append_assoc, List.take_append_of_le_length (by omega), List.take_of_length_le (by omega)]
    have HE := Lib.hid (fun W' hW' => torn_end (D := D) (W' := W') hf hi.r hcb4 (by omega) hK hi.low (by omega) (by have := P4.out.1.size; omega) (by omega) (by rw [Fl.runs_pages]; omega) (by rw [Fl.runs_erased]; omega) (by rw [Fl.runs_size]; omega) (by have := runs_tb HV.out xs; exact ⟨fun i => by have := this.len i; omega, this.lo, fun i => by have := this.hi i; omega⟩) hW')
    generalize Fl.runs m (stepsOf xs) = mm at *
    clear hi hf hS
    go_wp2_with fail
    obtain ⟨t1, t2, t3, t4⟩ := HE.out _ rfl
    have g1 := cell_of_arr t2 0
    have g2 := cell_of_arr t2 1
    have g3 := cell_of_arr t2 2
    simp only [List.getElem?_toArray, List.getElem?_cons_zero, List.getElem?_cons_succ] at g1 g2 g3
    refine ⟨by simp, .inl ⟨_, _, rfl, run_takeDeferred t1, ?_⟩⟩
    refine ⟨.tuple #[.agg #[.int .i64 mm.size, .slice (some ⟨g, 0, none⟩) mm.pages.length gc, .slice (some ⟨ge, 0, none⟩) mm.erased.length gec], .int .i64 0], by simp [results, Try.results22, go_sem, g1, g2, g3], ?_⟩
    rw [hmm.out]
    exact FPost.mk rfl t3 t4
end Go.Proofs.Ytnfjfifdkmgbdaa
