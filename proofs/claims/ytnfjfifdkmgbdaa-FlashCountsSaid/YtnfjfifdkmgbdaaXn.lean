/- The walk of the reference's states: all is moved to the next page. -/
import Derived.Test.YtnfjfifdkmgbdaaXm
namespace Go.Proofs.Ytnfjfifdkmgbdaa
open Go.RowKit Go.Shelf
theorem moveEr_nil {m : Fl.Mem} (h : (Fl.page m (Fl.nextOf m).toNat).length = 0) : Fl.moveEr m = m.erased := by unfold Fl.moveEr; rw [if_pos h]
theorem movePage_nil (m : Fl.Mem) (p : List UInt8) : Fl.movePage m p m.erased = Fl.setPage m (Fl.nextOf m).toNat p := rfl
theorem movePage_set (m : Fl.Mem) (p : List UInt8) (er : List Int) : Fl.movePage m p er = Fl.setPage (Fl.movePage m [] er) (Fl.nextOf m).toNat p := by simp [Fl.movePage, Fl.setPage]
theorem states_nil_eq {m : Fl.Mem} {key v : Int} (hv : Fl.validP m = true) (hvv : 0 ≤ v ∧ v ≤ 1099511627775) (hst : Fl.stays m = false) (hw : wornP m (Fl.stepsP m key v) = false) (h : (Fl.page m (Fl.nextOf m).toNat).length = 0) : Fl.statesP m key v = [m] ++ addB m (Fl.nextOf m).toNat [] (Fl.recsB (Fl.moveL m key v)) (Fl.recsB (Fl.moveL m key v)).length := by
  have hlen : (Fl.stepsP m key v).length = (Fl.recsB (Fl.moveL m key v)).length := by rw [Fl.stepsP_move hv hvv hst, List.length_append, Fl.writes_length, Fl.eraseSteps, if_pos h]; simp
  unfold Fl.statesP
  rw [hw, hlen, if_neg (by simp), addB_range, List.range_succ_eq_map]
  simp only [List.map_cons, List.map_map, List.cons_append, List.nil_append, List.cons.injEq]
  refine ⟨rfl, List.map_congr_left fun i _ => ?_⟩
  simp only [Function.comp]
  rw [Fl.move_runs_nil hv hvv hst h, moveEr_nil h]
  rfl
theorem states_old_eq {m : Fl.Mem} {key v : Int} (hv : Fl.validP m = true) (hvv : 0 ≤ v ∧ v ≤ 1099511627775) (hst : Fl.stays m = false) (hw : wornP m (Fl.stepsP m key v) = false) (h : ¬ (Fl.page m (Fl.nextOf m).toNat).length = 0) : Fl.statesP m key v = [m, Fl.movePage m [] (Fl.moveEr m)] ++ addB (Fl.movePage m [] (Fl.moveEr m)) (Fl.nextOf m).toNat [] (Fl.recsB (Fl.moveL m key v)) (Fl.recsB (Fl.moveL m key v)).length := by
  have hlen : (Fl.stepsP m key v).length = (Fl.recsB (Fl.moveL m key v)).length + 1 := by rw [Fl.stepsP_move hv hvv hst, List.length_append, Fl.writes_length, Fl.eraseSteps, if_neg h]; simp; omega
  unfold Fl.statesP
  rw [hw, hlen, if_neg (by simp), addB_range, List.range_succ_eq_map, List.range_succ_eq_map]
  simp only [List.map_cons, List.map_map, List.cons_append, List.nil_append, List.cons.injEq]
  refine ⟨rfl, ?_, List.map_congr_left fun i _ => ?_⟩
  · have := Fl.move_runs_old (key := key) hv hvv hst h 0
    simpa using this
  · simp only [Function.comp]
    rw [Fl.move_runs_old hv hvv hst h, movePage_set]
theorem worn_gen {m : Fl.Mem} {key v : Int} (hv : Fl.validP m = true) (hvv : 0 ≤ v ∧ v ≤ 1099511627775) (hst : Fl.stays m = false) (h : 549755813888 ≤ (Fl.newest m).2 + 1) : wornP m (Fl.stepsP m key v) = true := by
  cases hw : wornP m (Fl.stepsP m key v)
  · have := (Fl.moveEr_ok hv hvv hst hw).1; omega
  · rfl
theorem worn_era {m : Fl.Mem} {key v : Int} (hv : Fl.validP m = true) (hvv : 0 ≤ v ∧ v ≤ 1099511627775) (hst : Fl.stays m = false) (hne : ¬ (Fl.page m (Fl.nextOf m).toNat).length = 0) (h : 1000 ≤ m.erased.getD (Fl.nextOf m).toNat 0) : wornP m (Fl.stepsP m key v) = true := by
  cases hw : wornP m (Fl.stepsP m key v)
  · have h1 := (Fl.moveEr_ok hv hvv hst hw).2.2 (Fl.nextOf m).toNat (Fl.next_bd hv).2.1
    have hl := ((Fl.val_iff m).1 hv).lens
    have hb := (Fl.next_bd hv).2.1
    unfold Fl.moveEr at h1
    rw [if_neg hne, Fl.getD_set_if _ _ _ _ _ (by omega), if_pos rfl] at h1
    omega
  · rfl
theorem worn_no {m : Fl.Mem} {key v : Int} (hv : Fl.validP m = true) (hvv : 0 ≤ v ∧ v ≤ 1099511627775) (hst : Fl.stays m = false) (h1 : (Fl.newest m).2 + 1 < 549755813888) (h2 : (Fl.page m (Fl.nextOf m).toNat).length = 0 ∨ m.erased.getD (Fl.nextOf m).toNat 0 < 1000) : wornP m (Fl.stepsP m key v) = false := by
  unfold wornP
  rw [List.any_eq_false]
  intro s hs
  rw [Fl.stepsP_move hv hvv hst] at hs
  rcases List.mem_append.1 hs with hs | hs
  · unfold Fl.eraseSteps at hs
    split at hs
    · simp at hs
    · rename_i hne
      simp at hs
      subst hs
      simp [wornBy]
      rcases h2 with h2 | h2
      · exact absurd h2 hne
      · have e : m.erased.getD (Fl.nextOf m).toNat 0 = m.erased[(Fl.nextOf m).toNat]?.getD 0 := by simp
        rw [e] at h2
        exact ⟨h2, fun _ => h1⟩
  · have : ∀ (l : List UInt8) (i : Nat), s ∈ Fl.writesFrom (Fl.nextOf m) ((0 * 8 : Nat) : Int) l i → s.erase = false := by
      intro l
      induction l with
      | nil => intro i h; simp [Fl.writesFrom] at h
      | cons x l ih =>
        intro i h
        simp only [Fl.writesFrom, List.mem_cons] at h
        rcases h with rfl | h
        · rfl
        · exact ih _ h
    have h3 := this _ _ hs
    simp [wornBy, h3]
    intro _; omega
theorem ents_snoc (p : List UInt8) (N : Nat) (key v : Int) : ∀ f k, Fl.ents p N key v (f + 1) k = Fl.ents p N key v f k ++ (if (Fl.copyAt p N key v (k + f)).2 then [(((k + f : Nat) : Int), (Fl.copyAt p N key v (k + f)).1)] else [])
  | 0, k => by simp [Fl.ents]
  | f + 1, k => by
    have ih := ents_snoc p N key v f (k + 1)
    rw [Fl.ents, ih, Fl.ents]
    rw [show k + 1 + f = k + (f + 1) by omega]
    split <;> simp
set_option maxRecDepth 100000 in
set_option maxHeartbeats 3200000 in
theorem states_move (sz : Int) (pa : Option Addr) (pn pc : Nat) (ea : Option Addr) (en ec : Nat) (key v : Int) (m : Fl.Mem) (w : World) (h : FRep w sz pa pn ea en m) (hv : Fl.validP m = true) (hk : 0 ≤ key ∧ key ≤ 15) (hvv : 0 ≤ v ∧ v ≤ 1099511627775) (hst : Fl.stays m = false) :
    Calls Try.prog 59 #[.agg #[.int .i64 sz, .slice pa pn pc, .slice ea en ec], .int .i64 key, .int .i64 v] w (SPost (Fl.statesP m key v) w) := by
  have hb := Fl.val_bounds hv
  have hnx := Fl.next_bd hv
  have V := (Fl.val_iff m).1 hv
  have HF := Lib.hid h
  have HSZ := Lib.hid h.size
  have hpl := h.pages.1
  have hel := h.erased.1
  have hml := V.lens
  obtain ⟨q, hq⟩ : ∃ q : Nat, (Fl.newest m).1 = q := ⟨(Fl.newest m).1.toNat, by omega⟩
  obtain ⟨gg, hgg⟩ : ∃ gg : Int, (Fl.newest m).2 = gg := ⟨_, rfl⟩
  have hqn : q < pn := by omega
  obtain ⟨b, o, c, len, cap, rfl, e2, e3⟩ := h.pages.2.2 q hqn
  have hcur : m.pages.getD q [] = Fl.cur m := by unfold Fl.cur Fl.page; rw [hq]; simp
  rw [hcur] at e3
  have hlen : len ≤ 256 := by
    have h1 := (V.rows q (by omega)).1
    rw [hcur, e3.1] at h1
    omega
  have hslot : ((len : Int) + 7) / 8 = (Fl.slotOf (Fl.cur m) : Nat) := by
    unfold Fl.slotOf; rw [e3.1]; omega
  have P1 := pure_alloc w (.cells #[.int .i64 sz, .slice (some ⟨b, o, none⟩) pn pc, .slice ea en ec] 32)
  have N1 := alloc_new w (.cells #[.int .i64 sz, .slice (some ⟨b, o, none⟩) pn pc, .slice ea en ec] 32)
  go_enter Try.func59, Try.ntmps59
  go_upto_region 1 with fail
  generalize w.alloc (.cells #[.int .i64 sz, .slice (some ⟨b, o, none⟩) pn pc, .slice ea en ec] 32) = w1 at *
  have c0 := cell_of_arr N1 0
  have c1 := cell_of_arr N1 1
  have c2 := cell_of_arr N1 2
  simp at c0 c1 c2
  have HNW := Lib.hid (newestR_any sz (some ⟨b, o, none⟩) pn pc ea en ec m w1 (h.below P1) (by have := h.size; omega) (by have := h.size; omega))
  rw [hq, hgg] at HNW
  have HP1 := Lib.hid P1
  have HN1 := Lib.hid N1
  have HE2 := Lib.hid e2
  have HE3 := Lib.hid e3
  have HSL := Lib.hid hslot
  have HQ := Lib.hid hq
  have HGG := Lib.hid hgg
  have HV := Lib.hid hv
  have HCUR := Lib.hid hcur
  have hbs := hb
  clear h P1 N1 e2 e3 hslot hq hgg V hcur hv hb
  go_wp2_with fail
  refine HNW.out.mono ?_
  rintro e w2 ⟨rfl, hw2⟩
  have HP2 := Lib.hid (pure_trans HP1.out hw2)
  have N2 := Below.keep hw2 HN1.out (lt_of_block HN1.out)
  clear hw2 HNW HP1 HN1 c0 c1 c2
  have PA := pure_alloc w2 (.cells #[.int .i64 sz, .slice (some ⟨b, o, none⟩) pn pc, .slice ea en ec] 32)
  have NA := alloc_new w2 (.cells #[.int .i64 sz, .slice (some ⟨b, o, none⟩) pn pc, .slice ea en ec] 32)
  have N3 := Below.keep PA N2 (lt_of_block N2)
  have HP3 := Lib.hid (pure_trans HP2.out PA)
  have cq3 := (HP3.out.cell (p := ⟨b, o + q, none⟩) (lt_of_cell HE2.out)).trans HE2.out
  have c0' := cell_of_arr N2 0
  have c1' := cell_of_arr N2 1
  have c2' := cell_of_arr N2 2
  simp at c0' c1' c2'
  go_upto_region 3 with fail
  generalize w2.alloc (.cells #[.int .i64 sz, .slice (some ⟨b, o, none⟩) pn pc, .slice ea en ec] 32) = w3 at *
  -- STAY
  have c0 := cell_of_arr N3 0
  have c1 := cell_of_arr N3 1
  have c2 := cell_of_arr N3 2
  simp at c0 c1 c2
  have HN3 := Lib.hid N3
  have HNA := Lib.hid NA
  have hbx : w.heap.size < w2.heap.size := lt_of_block N2
  have hbx3 := lt_of_block NA
  have HREC := Lib.hid (recordR_any key v w3 (by omega) (by omega) (by omega) (by omega))
  have HFR := Lib.hid (Fl.record_key hk hvv)
  clear N3 NA N2 PA c0' c1' c2' HP2
  have hlb : (0 : Int) ≤ len := by omega
  go_wp2_with fail
  refine HREC.out.mono ?_
  rintro e w4 ⟨rv, rfl, hrv, hw4⟩
  rw [HFR.out] at hrv
  obtain ⟨ra, rc, hra, _⟩ := hrv.bs
  rw [Fl.full_length] at hra
  subst hra
  have HP4 := Lib.hid (pure_trans HP3.out hw4)
  have N4 := Below.keep hw4 HN3.out (lt_of_block HN3.out)
  have A4 := Below.keep hw4 HNA.out hbx3
  have hs34 := hw4.size
  have HRV := Lib.hid hrv
  have hrc : 8 ≤ rc := by
    rcases hrv.2 with ⟨h1, h2⟩ | ⟨_, _, _, h1, _, _, h2, _⟩
    · simp [Fl.full_length] at h2
    · simp [Fl.full_length] at h1 h2; omega
  clear hw4 HREC c0 c1 c2 cq3 HN3 HNA hrv
  have c0 := cell_of_arr N4 0
  have c1 := cell_of_arr N4 1
  have c2 := cell_of_arr N4 2
  simp at c0 c1 c2
  have HN4 := Lib.hid N4
  have HA4 := Lib.hid A4
  have cq4 := (HP4.out.cell (p := ⟨b, o + q, none⟩) (lt_of_cell HE2.out)).trans HE2.out
  clear N4 A4
  obtain ⟨n8, hn8⟩ : ∃ n8 : Nat, Fl.slotOf (Fl.cur m) = n8 := ⟨_, rfl⟩
  have hn8b : sz ≤ ((n8 * 8 : Nat) : Int) ∧ n8 ≤ 40 := by
    have h1 := HE3.out.1
    have h2 := HSZ.out
    have hst' := hst
    unfold Fl.stays at hst'
    rw [hn8] at hst'
    simp only [decide_eq_false_iff_not] at hst'
    unfold Fl.slotOf at hn8
    rw [h1] at hn8
    omega
  obtain ⟨hn3, hn4⟩ := hn8b
  have hsl8 : ((len : Int) + 7) / 8 = (n8 : Int) := by rw [HSL.out, hn8]
  have HST := Lib.hid hst
  clear hn8 hst
  have hst8 : ¬ (8 * (n8 : Int) < sz) := by omega
  obtain ⟨nx, hnxe⟩ : ∃ nx : Nat, Fl.nextOf m = nx := ⟨(Fl.nextOf m).toNat, by omega⟩
  have hmod : ((q : Int) + 1) % (pn : Int) = (nx : Int) := by rw [← hnxe]; unfold Fl.nextOf; rw [HQ.out, hpl]
  have hnxl : nx < pn := by omega
  have HNX := Lib.hid hnxe
  have HPL := Lib.hid hpl
  have HEL := Lib.hid hel
  have HML := Lib.hid hml
  have hg0 : 0 ≤ gg := by have := HGG.out; omega
  have hg1 : gg < 549755813888 := by have := HGG.out; omega
  have hen : en ≤ 8 := by omega
  have henp : en = pn := by omega
  have hpn8 : pn ≤ 8 := by omega
  have hpn2 : 2 ≤ pn := by omega
  clear hpl hel hml hbs hnx hnxe
  by_cases hgw : 549755813888 ≤ gg + 1
  · have R : Hid (Fl.statesP m key v = []) := by
      show _ = _
      unfold Fl.statesP
      rw [worn_gen HV.out hvv HST.out (by have := HGG.out; omega)]; rfl
    clear henp
    go_wp2_with fail
    go_ret
    refine ⟨w.heap.size, 0, _, [], rfl, ?_, HP4.out⟩
    rw [R.out]
    exact ⟨rfl, ⟨rfl, .inl ⟨rfl, rfl⟩⟩, fun i h1 => by simp at h1⟩
  obtain ⟨bn, on, cn, lenn, capn, hbe, en2, en3⟩ := HF.out.pages.2.2 nx hnxl
  cases hbe
  have cn4 := (HP4.out.cell (p := ⟨b, o + nx, none⟩) (lt_of_cell en2)).trans en2
  obtain ⟨be, oe, rfl, er2, er3, er4⟩ := HF.out.erased.2.2 nx (by omega)
  have ce4 := (HP4.out.cell (p := ⟨be, oe + nx, none⟩) (lt_of_cell er2)).trans er2
  have HEN3 := Lib.hid en3
  obtain ⟨ern, hern⟩ : ∃ ern : Int, m.erased.getD nx 0 = ern := ⟨_, rfl⟩
  rw [hern] at ce4 er3 er4
  have HERN := Lib.hid hern
  have hpg : Hid ((Fl.page m (Fl.nextOf m).toNat).length = lenn) := by
    show _ = _
    rw [HNX.out, Int.toNat_natCast]; exact en3.1
  have hlenn : lenn ≤ 256 := by
    have h1 := ((Fl.val_iff m).1 HV.out).rows nx (by have := HPL.out; omega)
    have h2 := en3.1
    have := HSZ.out
    have := (Fl.val_bounds HV.out).2.1
    omega
  clear en2 en3 er2 hern
  have HENP := Lib.hid henp
  have hnxen : nx < en := by omega
  clear henp
  have hx4 : w.heap.size < w4.heap.size := lt_of_block HN4.out
  have PX := pure_alloc w4 (.cells #[.int .i64 sz, .slice (some ⟨b, o, none⟩) pn pc, .slice (some ⟨be, oe, none⟩) en ec] 32)
  have NX := alloc_new w4 (.cells #[.int .i64 sz, .slice (some ⟨b, o, none⟩) pn pc, .slice (some ⟨be, oe, none⟩) en ec] 32)
  have HP5 := Lib.hid (pure_trans HP4.out PX)
  have N5 := Below.keep PX HN4.out hx4
  have A5 := Below.keep PX HA4.out (lt_of_block HA4.out)
  have cn5 := (PX.cell (p := ⟨b, o + nx, none⟩) (lt_of_cell cn4)).trans cn4
  have ce5 := (PX.cell (p := ⟨be, oe + nx, none⟩) (lt_of_cell ce4)).trans ce4
  go_upto_region 20 with fail
  generalize w4.alloc (.cells #[.int .i64 sz, .slice (some ⟨b, o, none⟩) pn pc, .slice (some ⟨be, oe, none⟩) en ec] 32) = w5 at *
  have hbX := lt_of_block NX
  generalize hbXe : w4.heap.size = bX at *
  clear hbXe
  rw [hmod]
  have HN5 := Lib.hid N5
  have HA5 := Lib.hid A5
  have HNX5 := Lib.hid NX
  have HMB := Lib.hid (MB.valid HV.out)
  have hqm : nx < m.pages.length := by have := HPL.out; omega
  have hw2X : w2.heap.size < bX := by omega
  have n0 := cell_of_arr N5 0
  have n1 := cell_of_arr N5 1
  have n2 := cell_of_arr N5 2
  simp at n0 n1 n2
  have HBAD : Hid (∀ k, badOf bX (.slice (some ⟨w2.heap.size, 0, none⟩) 1 1) k → w.heap.size ≤ k) := by
    show ∀ k, _ → _
    intro k hk
    rcases hk with h | h
    · omega
    · simp [Value.ownBlock] at h; omega
  have HOUT0 : Hid (∀ W : World, Below bX w5 W → OutR W w.heap.size bX (.slice (some ⟨w2.heap.size, 0, none⟩) 1 1) [⟨sz, some ⟨b, o, none⟩, pn, pc, some ⟨be, oe, none⟩, en, ec⟩] [m]) := by
    show ∀ W : World, _ → _
    intro W hW
    refine ⟨rfl, ⟨rfl, .inr ⟨w2.heap.size, 1, _, rfl, by omega, Below.keep hW HA5.out hw2X, by simp, by unfold maxLen; omega, rfl, rfl⟩⟩, fun i h1 h2 => ?_⟩
    obtain rfl : i = 0 := by simp at h1; omega
    exact FAway.old HF.out (HP5.out.trans (hW.mono (by omega))) HBAD.out
  clear PX N5 A5 NX cn4 ce4 c0 c1 c2 cq4 HRV HP4 HN4 HA4
  go_upto_if 101 with fail
  go_cut [9] (fun ov W => ∃ (e : Elem) (es : List Elem) (ms0 : List Fl.Mem) (M0 : Fl.Mem), OutR W w.heap.size bX ov es ms0 ∧ ms0.length ≤ 2 ∧ W.heap[bX]? = some (.cells #[.int .i64 e.sz, .slice e.pa e.pn e.pc, .slice e.ea e.en e.ec] 32 (0, 0)) ∧ FE (badOf bX ov) W e M0 ∧ Below w.heap.size w W ∧ ov.ownBlock ≠ some bX ∧ W.heap[w.heap.size]? = some (.cells #[.int .i64 sz, .slice (some ⟨b, o, none⟩) pn pc, .slice (some ⟨be, oe, none⟩) en ec] 32 (0, 0)) ∧ M0.pages.length = m.pages.length ∧ M0.pages.getD nx [] = [] ∧ MB M0 ∧ Fl.statesP m key v = ms0 ++ addB M0 nx [] (Fl.recsB (Fl.moveL m key v)) (Fl.recsB (Fl.moveL m key v)).length)
  case first =>
    by_cases hl0 : lenn = 0
    · have R : Hid (Fl.statesP m key v = [m] ++ addB m nx [] (Fl.recsB (Fl.moveL m key v)) (Fl.recsB (Fl.moveL m key v)).length) := by
        show _ = _
        have h0 : (Fl.page m (Fl.nextOf m).toNat).length = 0 := by rw [hpg.out]; exact hl0
        have := states_nil_eq (key := key) HV.out hvv HST.out (worn_no HV.out hvv HST.out (by have := HGG.out; omega) (.inl h0)) h0
        rw [HNX.out, Int.toNat_natCast] at this
        exact this
      have hl0' : ¬ ((0 : Int) < (lenn : Int)) := by omega
      have HL0 := Lib.hid hl0
      clear hl0
      go_wp2_with fail
      go_meet
      case rel =>
        refine ⟨⟨sz, some ⟨b, o, none⟩, pn, pc, some ⟨be, oe, none⟩, en, ec⟩, _, [m], m, HOUT0.out w5 (Below.refl _ _), by simp, HNX5.out, FAway.old HF.out HP5.out HBAD.out, HP5.out, by simp [Value.ownBlock]; omega, HN5.out, rfl, ?_, HMB.out, R.out⟩
        exact List.eq_nil_of_length_eq_zero (by rw [HEN3.out.1]; exact HL0.out)
    · have hl0' : (0 : Int) < (lenn : Int) := by omega
      have hl0n : 0 < lenn := by omega
      have hl0b : decide (0 < lenn) = true := by simpa using hl0n
      have hpne : Hid (¬ (Fl.page m (Fl.nextOf m).toNat).length = 0) := by show ¬ _; rw [hpg.out]; exact hl0
      by_cases her : 1000 ≤ ern
      · have R : Hid (Fl.statesP m key v = []) := by
          show _ = _
          unfold Fl.statesP
          rw [worn_era HV.out hvv HST.out hpne.out (by rw [HNX.out, Int.toNat_natCast, HERN.out]; exact her)]; rfl
        go_wp2_with fail
        go_ret
        refine ⟨w.heap.size, 0, _, [], rfl, ?_, HP5.out⟩
        rw [R.out]
        exact ⟨rfl, ⟨rfl, .inl ⟨rfl, rfl⟩⟩, fun i h1 => by simp at h1⟩
      · have R : Hid (Fl.statesP m key v = [m, Fl.movePage m [] (Fl.moveEr m)] ++ addB (Fl.movePage m [] (Fl.moveEr m)) nx [] (Fl.recsB (Fl.moveL m key v)) (Fl.recsB (Fl.moveL m key v)).length) := by
          show _ = _
          have := states_old_eq (key := key) HV.out hvv HST.out (worn_no HV.out hvv HST.out (by have := HGG.out; omega) (.inr (by rw [HNX.out, Int.toNat_natCast, HERN.out]; omega))) hpne.out
          rw [HNX.out, Int.toNat_natCast] at this
          exact this
        have hc1000 : ∀ i, i < pn → (m.pages.getD i []).length ≤ 1000 := fun i hi => by have := HMB.out.lens i; omega
        have HCP := Lib.hid (copyR_any sz (some ⟨b, o, none⟩) pn pc (some ⟨be, oe, none⟩) en ec m w5 (HF.out.below HP5.out) (by omega) (by omega) hc1000)
        clear hc1000
        go_wp2_with fail
        refine HCP.out.mono ?_
        rintro e w6 ⟨pv, ev, vs, rfl, hpv, hev, hw6⟩
        have hrow := hpv.row
        rw [hpv.len] at hrow
        obtain ⟨g, pc6, rfl, hg1', hg2'⟩ := World.ownsRow.form hrow (by omega)
        obtain ⟨ge, ec6, rfl, hge1, hge2⟩ := World.ownsRow.form hev (by have := HML.out; omega)
        have hs56 := hw6.size
        have X6 := Below.keep hw6 HNX5.out hbX
        have f0 := frozen_of_arr X6 0
        have f1 := frozen_of_arr X6 1
        have f2 := frozen_of_arr X6 2
        have x0 := cell_of_arr X6 0
        have x1 := cell_of_arr X6 1
        have x2 := cell_of_arr X6 2
        simp at x0 x1 x2
        have HX6 := Lib.hid X6
        have HW6 := Lib.hid hw6
        have HPV := Lib.hid hpv
        have HEV := Lib.hid hev
        have HMLE : m.erased.length = m.pages.length := HML.out
        have hem : nx < m.erased.length := by omega
        have HMM := Lib.hid HMLE
        clear hrow hpv hev hw6 X6 HCP HMLE n0 n1 n2 cn5 ce5
        go_upto_region 24 with fail
        have Q := three_cells'' HX6.out (.int .i64 sz) (.slice (some ⟨g, 0, none⟩) m.pages.length pc6) (.slice (some ⟨ge, 0, none⟩) m.erased.length ec6) _ rfl
        generalize ((w6.setCell ⟨bX, 0, none⟩ (.int .i64 sz)).setCell ⟨bX, 1, none⟩ (.slice (some ⟨g, 0, none⟩) m.pages.length pc6)).setCell ⟨bX, 2, none⟩ (.slice (some ⟨ge, 0, none⟩) m.erased.length ec6) = w7 at *
        obtain ⟨S1, S2, S3⟩ := Q
        have hs67 := (S3 0 w6 (Nat.zero_le _) (Below.refl _ _)).size
        have B57 : Below bX w5 w7 := S3 _ _ (Nat.le_refl _) (HW6.out.mono (by omega))
        have OF7 : OwnF w7 w5.heap.size bX m (some ⟨g, 0, none⟩) pc6 (some ⟨ge, 0, none⟩) ec6 vs := by
          refine ⟨by rw [S1, HSZ.out], HPV.out.keep (fun k hk => S2 k (by have := (own_lt HPV.out.row hk).2.1; omega)) (fun i k hi hk => S2 k (by have := (own_lt (HPV.out.each i hi) hk).2.1; omega)), own_keep HEV.out (fun k hk => S2 k (by have := (own_lt HEV.out hk).2.1; omega))⟩
        obtain ⟨g', a, c', hgg', hv, y1, y2, yq, yf, hgX, hgl⟩ := OF7.reads (i := nx) hqm
        simp only [Option.some.injEq, Addr.mk.injEq, and_true] at hgg'
        subst hgg'
        have U := OF7.upd hqm (w2 := w7) (x := .slice none 0 0) (p := []) ⟨rfl, rfl, rfl, Nat.le_refl _, fun _ _ _ => rfl⟩ (World.ownsRow_nil _ _ _ _) (.inl rfl)
        have HU := Lib.hid U.1
        have HS1 := Lib.hid S1
        have HB57 := Lib.hid B57
        have HS2 := Lib.hid S2
        have hlq := HMB.out.lens nx
        clear U S1 S2 S3 B57 OF7 hv y2 x0 x1 x2 f0 f1 f2
        go_upto_region 25 with fail
        have U8 := HU.out
        have B58 := HB57.out.setCell (p := ⟨g, nx, none⟩) (by dsimp only; omega) (.slice none 0 0)
        have X8 := set_other (a := ⟨g, nx, none⟩) (v := .slice none 0 0) HS1.out (by dsimp only; omega)
        generalize w7.setCell ⟨g, nx, none⟩ (.slice none 0 0) = w8 at *
        have x0 := cell_of_arr X8 0
        have x1 := cell_of_arr X8 1
        have x2 := cell_of_arr X8 2
        simp at x0 x1 x2
        have er8 : w8.cell? ⟨ge, nx, none⟩ = some (.int .i64 ern) := by
          have h1 := World.ownsRow.cellAt U8.erased nx (by rw [Nat.mul_one]; exact hem)
          rw [h1, ← HERN.out]
          have hem' : nx < (Fl.setPage m nx []).erased.length := hem
          simp [Fl.setPage, List.getElem?_eq_getElem hem]
        obtain ⟨_, _, cur, hgc⟩ := own_lt U8.erased (g := ge) rfl
        have ef8 := frozen_of_arr hgc nx
        have U9 := U8.updE (i := nx) hem (ern + 1)
        have HU9 := Lib.hid U9.1
        have HB58 := Lib.hid B58
        have HX8 := Lib.hid X8
        have hgeX : ge ≠ bX := by omega
        have i0 : (0 : Int) ≤ (nx : Int) := by omega
        have i1 : (nx : Int) < (m.erased.length : Int) := by omega
        have hw1 : ern + 1 ≤ 9223372036854775807 := by omega
        clear U8 U9 B58 X8 hgc HU HS1 HB57 HS2 y1 yq yf
        go_upto_region 26 with fail
        have U9 := HU9.out
        have B59 := HB58.out.setCell (p := ⟨ge, nx, none⟩) (by dsimp only; omega) (.int .i64 (ern + 1))
        have X9 := set_other (a := ⟨ge, nx, none⟩) (v := .int .i64 (ern + 1)) HX8.out (by dsimp only; omega)
        generalize w8.setCell ⟨ge, nx, none⟩ (.int .i64 (ern + 1)) = w9 at *
        have hM1 : ({ Fl.setPage m nx [] with erased := (Fl.setPage m nx []).erased.set nx (ern + 1) } : Fl.Mem) = Fl.movePage m [] (Fl.moveEr m) := by
          unfold Fl.movePage Fl.moveEr Fl.setPage
          rw [if_neg hpne.out, HNX.out, Int.toNat_natCast, HERN.out]
        rw [hM1] at U9
        have hMB1 : MB (Fl.movePage m [] (Fl.moveEr m)) := by
          refine ⟨by simpa [Fl.movePage] using HMB.out.pages, ?_, HMB.out.size, fun i => ?_, fun i => ?_⟩
          · rw [← hM1]; simpa [Fl.setPage] using HMB.out.erased
          · rw [← hM1]
            rcases Fl.getD_set_le m.pages nx i [] [] with h1 | h1
            · simp only [Fl.setPage]; rw [h1]; simp
            · simp only [Fl.setPage]; rw [h1]; exact HMB.out.lens i
          · rw [← hM1]
            have h0 := HMB.out.ers nx
            rw [HERN.out] at h0
            rcases Fl.getD_set_le m.erased nx i (ern + 1) 0 with h1 | h1
            · simp only [Fl.setPage]; rw [h1]; omega
            · simp only [Fl.setPage]; rw [h1]; exact HMB.out.ers i
        have x0 := cell_of_arr X9 0
        have x1 := cell_of_arr X9 1
        have x2 := cell_of_arr X9 2
        simp at x0 x1 x2
        have OUT9 := HOUT0.out w9 B59
        have hpgl : (Fl.movePage m [] (Fl.moveEr m)).pages.length = m.pages.length := by simp [Fl.movePage]
        have hpel : (Fl.movePage m [] (Fl.moveEr m)).erased.length = m.erased.length := by rw [← hM1]; simp [Fl.setPage]
        have FE9 : FE (badOf bX (.slice (some ⟨w2.heap.size, 0, none⟩) 1 1)) w9 ⟨sz, some ⟨g, 0, none⟩, m.pages.length, pc6, some ⟨ge, 0, none⟩, m.erased.length, ec6⟩ (Fl.movePage m [] (Fl.moveEr m)) := by
          have h1 := U9.away (bad := badOf bX (.slice (some ⟨w2.heap.size, 0, none⟩) 1 1)) hMB1 (fun k hk => by
            rcases hk with h | h
            · exact .inl h
            · simp [Value.ownBlock] at h; omega)
          rw [hpgl, hpel] at h1
          show FAway _ _ _ _ _ _ _ _
          rw [HSZ.out]
          exact h1
        have BW9 : Below w.heap.size w w9 := HP5.out.trans (B59.mono (by omega))
        have F9 := Below.keep B59 HN5.out (by omega)
        have NB := alloc_new w9 (.cells #[.int .i64 sz, .slice (some ⟨g, 0, none⟩) m.pages.length pc6, .slice (some ⟨ge, 0, none⟩) m.erased.length ec6] 32)
        have PB := pure_alloc w9 (.cells #[.int .i64 sz, .slice (some ⟨g, 0, none⟩) m.pages.length pc6, .slice (some ⟨ge, 0, none⟩) m.erased.length ec6] 32)
        have SB := Below.keep PB X9 (lt_of_block X9)
        have FB := Below.keep PB F9 (lt_of_block F9)
        have BWB := BW9.alloc BW9.size (.cells #[.int .i64 sz, .slice (some ⟨g, 0, none⟩) m.pages.length pc6, .slice (some ⟨ge, 0, none⟩) m.erased.length ec6] 32)
        have hno : (Value.slice (some ⟨w2.heap.size, 0, none⟩) 1 1).ownBlock ≠ some bX := by simp [Value.ownBlock]; omega
        obtain ⟨v9, w10, hrun, hout9, hgr9, hob9, hno9⟩ := (OUT9.pure PB).push (c := 1) (e := ⟨sz, some ⟨g, 0, none⟩, m.pages.length, pc6, some ⟨ge, 0, none⟩, m.erased.length, ec6⟩) NB (FE9.pure PB) (by simp) BWB.size hno (lt_of_block SB)
        have FE10 : FE (badOf bX v9) w10 ⟨sz, some ⟨g, 0, none⟩, m.pages.length, pc6, some ⟨ge, 0, none⟩, m.erased.length, ec6⟩ _ := FAway.on (FE9.pure PB) hgr9.size (fun k hb hl => hgr9.block k hl (fun e => hb (.inr e.symm))) (badOf_push hob9)
        have X10 := (hgr9.block _ (lt_of_block SB) (fun e => hno e.symm)).trans SB
        have F10 := (hgr9.block _ (lt_of_block FB) (fun e => by have := (own_lt (OUT9.pure PB).row e.symm).2.1; simp [Value.ownBlock] at e; omega)).trans FB
        have BW10 := below_grown BWB BWB.size (OUT9.pure PB).row hgr9
        have HOUT10 := Lib.hid hout9
        have HFE10 := Lib.hid FE10
        have HX10 := Lib.hid X10
        have HF10 := Lib.hid F10
        have HBW10 := Lib.hid BW10
        have HNO10 := Lib.hid hno9
        have HMB1 := Lib.hid hMB1
        have HPGL := Lib.hid hpgl
        have HM1 := Lib.hid hM1
        clear U9 B59 X9 hM1 hMB1 OUT9 hpgl hpel FE9 BW9 F9 NB PB SB FB BWB hno hout9 hgr9 hob9 hno9 FE10 X10 F10 BW10 er8 ef8
        go_wp2_with (at_builtin; refine wpList_app rfl _ _ 51 rfl rfl rfl hrun ?_)
        clear hrun
        go_wp2_with fail
        go_meet
        case rel =>
          refine ⟨_, _, _, _, HOUT10.out, by simp, HX10.out, HFE10.out, HBW10.out, HNO10.out, HF10.out, HPGL.out, ?_, HMB1.out, R.out⟩
          rw [← HM1.out]; simp [Fl.setPage, hqm]
  case rest =>
    obtain ⟨e, es, ms0, M0, hout, hml2, hXb, hfe, hBW, hno, hFb, hMl, hMe, hMB0, hR⟩ := hcut
    have HOUT := Lib.hid hout
    have HXB := Lib.hid hXb
    have HFE := Lib.hid hfe
    have HBW := Lib.hid hBW
    have HNO := Lib.hid hno
    have HFB := Lib.hid hFb
    have HMl := Lib.hid hMl
    have HMe := Lib.hid hMe
    have HMB0 := Lib.hid hMB0
    have HR := Lib.hid hR
    have hXl := lt_of_block hXb
    clear hout hXb hfe hBW hno hFb hMl hMe hMB0 hR HNX5 HN5 HA5 HOUT0 HBAD n0 n1 n2 cn5 ce5
    have HREC2 := Lib.hid (recordR_any 240 (gg + 1) wc (by omega) (by omega) (by omega) (by omega))
    have HFR2 := Lib.hid (Fl.record_ok (key := 240) (v := gg + 1) (by simp [Fl.recOk, Fl.keyOk]; omega))
    go_wp2_with fail
    refine HREC2.out.mono ?_
    rintro e1 w6 ⟨rv, rfl, hrv, hw6⟩
    rw [HFR2.out] at hrv
    obtain ⟨ba, bc, rfl⟩ := own_form hrv
    have HRV := Lib.hid hrv
    have HW6 := Lib.hid hw6
    clear hrv hw6 HREC2
    go_wp2_with fail
    go_loopw [12, 16] (fun bv i W => ∃ (k : Nat) (ba : Option Addr) (bl bc : Nat), bv = .slice ba bl bc ∧ i = .int .i64 k ∧ k ≤ 16 ∧ bl ≤ 8 + 8 * k ∧ OwnB W wc.heap.size (.slice ba bl bc) (Fl.recsB ((240, gg + 1) :: Fl.ents (Fl.cur m) (Fl.N m) key v k 0)) ∧ Below wc.heap.size wc W) (fun _ i _ => 16 - (intOf i).toNat)
    case atStart => exact ⟨0, ba, _, bc, rfl, rfl, by omega, by simp [Fl.full_length], (by have := HRV.out; simpa [Fl.recsB, Fl.ents] using this), HW6.out⟩
    case round =>
      obtain ⟨k, ba, bl, bc, rfl, rfl, hk16, hbl, hown, hB⟩ := hrel
      have HOWN := Lib.hid hown
      have HB := Lib.hid hB
      have F := Below.keep hB HFB.out (lt_of_block HFB.out)
      have n0 := cell_of_arr F 0
      have n1 := cell_of_arr F 1
      have n2 := cell_of_arr F 2
      simp at n0 n1 n2
      by_cases hk2 : k < 16
      · have HGET := Lib.hid (getR_any sz (some ⟨b, o, none⟩) pn pc (some ⟨be, oe, none⟩) en ec k m wr ((HF.out.below HBW.out).below hB))
        have HGV := Lib.hid (Fl.getP_val HV.out (key := (k : Int)) (by omega) (by omega))
        clear hown hB F
        go_wp2_with fail
        refine HGET.out.mono ?_
        rintro e2 w7 ⟨rfl, hw7⟩
        rw [HGV.out]
        have HES := Lib.hid (ents_snoc (Fl.cur m) (Fl.N m) key v k 0)
        have HCA : Hid (Fl.copyAt (Fl.cur m) (Fl.N m) key v k = if (k : Int) == key then (v, true) else Fl.valueBelow (Fl.cur m) k (Fl.N m)) := rfl
        have HVB := Lib.hid (Fl.valueBelow_bd (Fl.cur m) k (Fl.N m))
        have HB7 := Lib.hid (HB.out.trans (hw7.mono HB.out.size))
        have HO7 := Lib.hid (own_pure HOWN.out hw7)
        clear hw7 HGET HOWN HB n0 n1 n2
        generalize Fl.valueBelow (Fl.cur m) k (Fl.N m) = gv at *
        obtain ⟨gv1, gv2⟩ := gv
        dsimp only at HVB ⊢
        by_cases hkk : (k : Int) = key
        · have hkb : ((k : Int) == key) = true := by simpa using hkk
          have HKK := Lib.hid hkk
          clear hkk
          have HCO : Hid (Fl.ents (Fl.cur m) (Fl.N m) key v (k + 1) 0 = Fl.ents (Fl.cur m) (Fl.N m) key v k 0 ++ [((k : Int), v)]) := by
            show _ = _
            rw [HES.out, Nat.zero_add, HCA.out]; simp [HKK.out]
          have HRC := Lib.hid (recordR_any k v w7 (by omega) (by omega) (by have := hvv; omega) (by have := hvv; omega))
          have HRO := Lib.hid (Fl.record_ok (key := (k : Int)) (v := v) (Fl.recOk_key (by omega) hvv))
          go_wp2_with fail
          refine HRC.out.mono ?_
          rintro e3 w8 ⟨rv2, rfl, hrv2, hw8⟩
          rw [HRO.out] at hrv2
          obtain ⟨ra2, rc2, hra2, hb2⟩ := hrv2.bs
          rw [Fl.full_length] at hra2 hb2
          subst hra2
          have O8 := own_pure HO7.out hw8
          have hbl8 : (Fl.recsB ((240, gg + 1) :: Fl.ents (Fl.cur m) (Fl.N m) key v k 0)).length = bl := (OwnB.bs' O8).1
          obtain ⟨a9, c9, w9, hrun, hown9, hgr9, hob9⟩ := app_bytes w8 wc.heap.size (.slice ba bl bc) _ O8 ra2 8 rc2 _ hb2 (by omega) (Nat.le_trans HB7.out.size hw8.size)
          rw [hbl8] at hrun hown9
          have HB9 := Lib.hid (below_grown (HB7.out.trans (hw8.mono HB7.out.size)) (Nat.le_trans HB7.out.size hw8.size) O8 hgr9)
          have HO9 := Lib.hid hown9
          clear O8 hbl8 hown9 hgr9 hob9 hw8 hrv2 hb2 HRC HO7 HB7
          go_wp2_with (at_builtin; refine wpList_app rfl _ _ 22 rfl rfl rfl hrun ?_)
          clear hrun
          go_wp2_with fail
          go_roundw
          case rel =>
            refine ⟨k + 1, a9, bl + 8, c9, rfl, by go_num, by omega, by omega, ?_, HB9.out⟩
            have h1 := HO9.out
            rw [HCO.out, ← List.cons_append, Fl.recsB_append]
            simpa [Fl.recsB] using h1
          case measure => simp [intOf]; omega
        · have hkb : ((k : Int) == key) = false := by simpa using hkk
          cases gv2
          · have HCO : Hid (Fl.ents (Fl.cur m) (Fl.N m) key v (k + 1) 0 = Fl.ents (Fl.cur m) (Fl.N m) key v k 0) := by
              show _ = _
              rw [HES.out, Nat.zero_add, HCA.out]; simp [hkk]
            go_wp2_with fail
            go_roundw
            case rel => exact ⟨k + 1, ba, bl, bc, rfl, by go_num, by omega, by omega, (by rw [HCO.out]; exact HO7.out), HB7.out⟩
            case measure => simp [intOf]; omega
          ·
            have HCO : Hid (Fl.ents (Fl.cur m) (Fl.N m) key v (k + 1) 0 = Fl.ents (Fl.cur m) (Fl.N m) key v k 0 ++ [((k : Int), gv1)]) := by
              show _ = _
              rw [HES.out, Nat.zero_add, HCA.out]; simp [hkk]
            have HRC := Lib.hid (recordR_any k gv1 w7 (by omega) (by omega) (by have := HVB.out; omega) (by have := HVB.out; omega))
            have HRO := Lib.hid (Fl.record_ok (key := (k : Int)) (v := gv1) (Fl.recOk_key (by omega) HVB.out))
            go_wp2_with fail
            refine HRC.out.mono ?_
            rintro e3 w8 ⟨rv2, rfl, hrv2, hw8⟩
            rw [HRO.out] at hrv2
            obtain ⟨ra2, rc2, hra2, hb2⟩ := hrv2.bs
            rw [Fl.full_length] at hra2 hb2
            subst hra2
            have O8 := own_pure HO7.out hw8
            have hbl8 : (Fl.recsB ((240, gg + 1) :: Fl.ents (Fl.cur m) (Fl.N m) key v k 0)).length = bl := (OwnB.bs' O8).1
            obtain ⟨a9, c9, w9, hrun, hown9, hgr9, hob9⟩ := app_bytes w8 wc.heap.size (.slice ba bl bc) _ O8 ra2 8 rc2 _ hb2 (by omega) (Nat.le_trans HB7.out.size hw8.size)
            rw [hbl8] at hrun hown9
            have HB9 := Lib.hid (below_grown (HB7.out.trans (hw8.mono HB7.out.size)) (Nat.le_trans HB7.out.size hw8.size) O8 hgr9)
            have HO9 := Lib.hid hown9
            clear O8 hbl8 hown9 hgr9 hob9 hw8 hrv2 hb2 HRC HO7 HB7
            go_wp2_with (at_builtin; refine wpList_app rfl _ _ 22 rfl rfl rfl hrun ?_)
            clear hrun
            go_wp2_with fail
            go_roundw
            case rel =>
              refine ⟨k + 1, a9, bl + 8, c9, rfl, by go_num, by omega, by omega, ?_, HB9.out⟩
              have h1 := HO9.out
              rw [HCO.out, ← List.cons_append, Fl.recsB_append]
              simpa [Fl.recsB] using h1
            case measure => simp [intOf]; omega
      · obtain rfl : k = 16 := by omega
        have HRC := Lib.hid (recordR_any 241 (gg + 1) wr (by omega) (by omega) (by omega) (by omega))
        have HRO := Lib.hid (Fl.record_ok (key := 241) (v := gg + 1) (by simp [Fl.recOk, Fl.keyOk]; omega))
        clear hown hB F n0 n1 n2
        go_wp2_with fail
        refine HRC.out.mono ?_
        rintro e3 w8 ⟨rv2, rfl, hrv2, hw8⟩
        rw [HRO.out] at hrv2
        obtain ⟨ra2, rc2, hra2, hb2⟩ := hrv2.bs
        rw [Fl.full_length] at hra2 hb2
        subst hra2
        have O8 := own_pure HOWN.out hw8
        have hbl8 : (Fl.recsB ((240, gg + 1) :: Fl.ents (Fl.cur m) (Fl.N m) key v 16 0)).length = bl := (OwnB.bs' O8).1
        obtain ⟨a9, c9, w9, hrun, hown9, hgr9, hob9⟩ := app_bytes w8 wc.heap.size (.slice ba bl bc) _ O8 ra2 8 rc2 _ hb2 (by omega) (Nat.le_trans HB.out.size hw8.size)
        rw [hbl8] at hrun hown9
        have HB9 := Lib.hid (below_grown (HB.out.trans (hw8.mono HB.out.size)) (Nat.le_trans HB.out.size hw8.size) O8 hgr9)
        have hBBe : Fl.recsB ((240, gg + 1) :: Fl.ents (Fl.cur m) (Fl.N m) key v 16 0) ++ Fl.full 241 (gg + 1) = Fl.recsB (Fl.moveL m key v) := by
          unfold Fl.moveL
          rw [HGG.out, ← List.cons_append, Fl.recsB_append]
          simp [Fl.recsB]
        rw [hBBe] at hown9
        have hBl : (Fl.recsB (Fl.moveL m key v)).length = bl + 8 := (OwnB.bs' hown9).1
        have HO9 := Lib.hid hown9
        have hc9 : bl + 8 ≤ c9 := by
          rcases hown9.2 with ⟨h1, h2⟩ | ⟨_, _, _, h1, _, _, h2, _⟩
          · omega
          · simp only [Value.slice.injEq] at h1; omega
        clear O8 hbl8 hown9 hgr9 hob9 hw8 hrv2 hb2 HRC HOWN HB hBBe
        generalize Fl.recsB (Fl.moveL m key v) = BB at *
        have HBL := Lib.hid hBl
        have hL0 : bl + 8 ≤ 200 := by omega
        clear hBl hbl
        generalize bl + 8 = L at *
        have HOUTs := Lib.hid (HOUT.out.pure HB9.out)
        have HFEs := Lib.hid (FAway.pure HFE.out HB9.out)
        have HXBs := Lib.hid (Below.keep HB9.out HXB.out hXl)
        have HBWs := Lib.hid (HBW.out.trans (HB9.out.mono HBW.out.size))
        have HBAs : Hid (BAway (badOf bX u9) w9 a9 L BB) := by
          show BAway _ _ _ _ _
          refine BAway.of_own' HO9.out (fun g hg hbad => ?_)
          have h1 := (own_lt HO9.out hg).2.1
          rcases hbad with h | h
          · omega
          · have := (own_lt HOUT.out.row h).1; omega
        have hwX : w.heap.size ≤ bX := by omega
        have hqm0 : nx < M0.pages.length := by have := HMl.out; omega
        clear HOUT HFE HXB HBW HB9 HO9 HFB hXl
        go_wp2_with (at_builtin; refine wpList_app rfl _ _ 22 rfl rfl rfl hrun ?_)
        clear hrun
        go_wp2_with fail
        go_loopw [9, 155] (fun ov i W => ∃ (j : Nat) (e : Elem) (es : List Elem), i = .int .i64 j ∧ j ≤ L ∧ OutR W w.heap.size bX ov es (ms0 ++ addB M0 nx [] BB j) ∧ W.heap[bX]? = some (.cells #[.int .i64 e.sz, .slice e.pa e.pn e.pc, .slice e.ea e.en e.ec] 32 (0, 0)) ∧ FE (badOf bX ov) W e (Fl.setPage M0 nx ([] ++ BB.take j)) ∧ BAway (badOf bX ov) W a9 L BB ∧ Below w.heap.size w W ∧ ov.ownBlock ≠ some bX) (fun _ i _ => L - (intOf i).toNat)
        case atStart =>
          refine ⟨0, e, es, rfl, by omega, (by simpa [addB] using HOUTs.out), HXBs.out, ?_, HBAs.out, HBWs.out, HNO.out⟩
          have h1 := HFEs.out
          have h2 : Fl.setPage M0 nx ([] ++ BB.take 0) = M0 := by
            have := setPage_self M0 nx hqm0
            rw [HMe.out] at this
            simpa using this
          show FAway _ _ _ _ _ _ _ _
          rw [h2]; exact h1
        case round =>
          obtain ⟨i, e, es, rfl, hi, hout, hXb, hfe, hba, hBW, hno⟩ := hrel
          clear HOUTs HFEs HXBs HBWs HBAs HNO
          by_cases hi8 : i < L
          · obtain ⟨rb, ro, hra, _⟩ := (hba wr fun _ _ _ => rfl).2.2 0 (by omega)
            subst hra
            have x0 := cell_of_arr hXb 0
            have x1 := cell_of_arr hXb 1
            have x2 := cell_of_arr hXb 2
            simp at x0 x1 x2
            have HOUT := Lib.hid hout
            have HXB := Lib.hid hXb
            have HFE := Lib.hid hfe
            have HBA := Lib.hid hba
            have HBW := Lib.hid hBW
            have HNO := Lib.hid hno
            have hXl := lt_of_block hXb
            clear hout hXb hfe hba hBW hno
            go_upto_region 40 with fail
            have hsum : IntKind.i64.wrap ((i : Int) + 1) = (i : Int) + 1 := wrap_i64 _ (by omega) (by omega)
            have j0 : (0 : Int) ≤ (i : Int) := by omega
            have j1 : (i : Int) ≤ (i : Int) + 1 := by omega
            have j2 : (i : Int) + 1 ≤ (L : Int) := by omega
            have j3 : ((i : Int) + 1).toNat = i + 1 := by omega
            have j4 : (0 : Int) ≤ (i : Int) + 1 := by omega
            have j5 : i + 1 ≤ c9 := by omega
            have j6 : (i : Int) + 1 ≤ (c9 : Int) := by omega
            have j7 : ¬ c9 = i := by omega
            refine wp_region_held_drew (S := (fun _ => True)) (by kernel_rfl) trivial (fun hHeld => ?_)
            refine wpAnyH_take (i := 1) (v := ?_) rfl (by kernel_rfl) (by kernel_rfl) (by kernel_rfl) (fun _ _ _ h => h) (Or.inl ⟨by rfl, ?_⟩) hHeld ?_
            rotate_left
            · (intro W hSw; (try dsimp only at hSw); go_simp; try with_reducible rfl)
            try simp only [Act.put, List.setIfInBounds_toArray, List.set_cons_zero, List.set_cons_succ, List.getElem_toArray, List.getElem_cons_succ, List.getElem_cons_zero]
            refine wpAnyH_take (i := 2) (v := ?_) rfl (by kernel_rfl) (by kernel_rfl) (by kernel_rfl) (fun _ _ _ h => h) (Or.inl ⟨by rfl, ?_⟩) hHeld ?_
            rotate_left
            · (intro W hSw; (try dsimp only at hSw); go_simp; try with_reducible rfl)
            try simp only [Act.put, List.setIfInBounds_toArray, List.set_cons_zero, List.set_cons_succ, List.getElem_toArray, List.getElem_cons_succ, List.getElem_cons_zero]
            refine wpAnyH_take (i := 3) (v := ?_) rfl (by kernel_rfl) (by kernel_rfl) (by kernel_rfl) (fun _ _ _ h => h) (Or.inl ⟨by rfl, ?_⟩) hHeld ?_
            rotate_left
            · (intro W hSw; (try dsimp only at hSw); go_simp; try with_reducible rfl)
            try simp only [Act.put, List.setIfInBounds_toArray, List.set_cons_zero, List.set_cons_succ, List.getElem_toArray, List.getElem_cons_succ, List.getElem_cons_zero]
            refine wpAnyH_take (i := 4) (v := ?_) rfl (by kernel_rfl) (by kernel_rfl) (by kernel_rfl) (fun _ _ _ h => h) (Or.inl ⟨by rfl, ?_⟩) hHeld ?_
            rotate_left
            · (intro W hSw; (try dsimp only at hSw); go_simp; try with_reducible rfl)
            try simp only [Act.put, List.setIfInBounds_toArray, List.set_cons_zero, List.set_cons_succ, List.getElem_toArray, List.getElem_cons_succ, List.getElem_cons_zero]
            refine wpAnyH_take (i := 5) (v := ?_) rfl (by kernel_rfl) (by kernel_rfl) (by kernel_rfl) (fun _ _ _ h => h) (Or.inl ⟨by rfl, ?_⟩) hHeld ?_
            rotate_left
            · (intro W hSw; (try dsimp only at hSw); go_simp; try with_reducible rfl)
            try simp only [Act.put, List.setIfInBounds_toArray, List.set_cons_zero, List.set_cons_succ, List.getElem_toArray, List.getElem_cons_succ, List.getElem_cons_zero]
            refine wpAnyH_take (i := 6) (v := ?_) rfl (by kernel_rfl) (by kernel_rfl) (by kernel_rfl) (fun _ _ _ h => h) (Or.inl ⟨by rfl, ?_⟩) hHeld ?_
            rotate_left
            · (intro W hSw; (try dsimp only at hSw); go_simp; try with_reducible rfl)
            try simp only [Act.put, List.setIfInBounds_toArray, List.set_cons_zero, List.set_cons_succ, List.getElem_toArray, List.getElem_cons_succ, List.getElem_cons_zero]
            refine wpAnyH_ready (rs := [0]) (by kernel_rfl) (by simp) ?_
            refine AllReadyH.cons rfl (fun K1 hK1 => ?_) AllReadyH.nil
            go_simp
            refine hK1.out _ _ trivial (fun hHeld => ?_)
            clear hK1
            try simp only [Act.put, List.setIfInBounds_toArray, List.set_cons_zero, List.set_cons_succ, List.getElem_toArray, List.getElem_cons_succ, List.getElem_cons_zero]
            refine wpAnyH_ready (rs := [7]) (by kernel_rfl) (by simp) ?_
            refine AllReadyH.cons rfl (fun K1 hK1 => ?_) AllReadyH.nil
            go_simp
            clear hsum j0 j1 j2 j3 j4 j5 j6 j7
            refine (written_any e.sz e.pa e.pn e.pc e.ea e.en e.ec nx (some ⟨rb, ro + i, none⟩) 1 (c9 - i) [BB.getD i 0] _ wr.drew (HFE.out.rep.below (below_drewN (Below.refl _ _) 1)) (by rw [setPage_len]; exact hqm0) (MB.set HMB0.out (by rw [List.nil_append, List.length_take, HBL.out]; omega)) (((HBA.out wr fun _ _ _ => rfl).sub i hi8).below (below_drewN (Below.refl _ _) 1)) (by omega)).mono ?_
            rintro e' w7 ⟨sz', pa', pn', pc', ea', en', ec', rfl, hF7, hw7⟩
            rw [setPage_get M0 nx _ hqm0, setPage_set, List.append_assoc, ← take_snoc_b _ _ (by rw [HBL.out]; exact hi8)] at hF7
            have hw7' : Below wr.heap.size wr w7 := ⟨hw7.os, hw7.tape, hw7.output, hw7.size, hw7.block⟩
            have X7 := Below.keep hw7' HXB.out hXl
            have hs7 := hw7'.size
            have HW7 := Lib.hid hw7'
            have HF7 := Lib.hid hF7
            have d0 := cell_of_arr X7 0
            have d1 := cell_of_arr X7 1
            have d2 := cell_of_arr X7 2
            have f0 := frozen_of_arr X7 0
            have f1 := frozen_of_arr X7 1
            have f2 := frozen_of_arr X7 2
            simp at d0 d1 d2
            have HX7 := Lib.hid X7
            clear hw7 hw7' hF7 X7 x0 x1 x2
            refine hK1.out _ _ trivial (fun hHeld => ?_)
            clear hK1
            try simp only [Act.put, List.setIfInBounds_toArray, List.set_cons_zero, List.set_cons_succ, List.getElem_toArray, List.getElem_cons_succ, List.getElem_cons_zero]
            refine wpAnyH_ready (rs := [8]) (by kernel_rfl) (by simp) ?_
            refine AllReadyH.cons rfl (fun K1 hK1 => ?_) AllReadyH.nil
            go_simp
            refine hK1.out _ _ trivial (fun hHeld => ?_)
            clear hK1
            try simp only [Act.put, List.setIfInBounds_toArray, List.set_cons_zero, List.set_cons_succ, List.getElem_toArray, List.getElem_cons_succ, List.getElem_cons_zero]
            refine wpAnyH_done (by kernel_rfl) ?_ _
            try simp only [Act.put, List.setIfInBounds_toArray, List.set_cons_zero, List.set_cons_succ, List.getElem_toArray, List.getElem_cons_succ, List.getElem_cons_zero]
            have Q := three_cells'' HX7.out (.int .i64 sz') (.slice pa' pn' pc') (.slice ea' en' ec') _ rfl
            have HQ8 := Lib.hid Q
            clear Q
            go_upto_region 41 with fail
            have Q := HQ8.out
            clear HQ8
            generalize ((w7.setCell ⟨bX, 0, none⟩ (.int .i64 sz')).setCell ⟨bX, 1, none⟩ (.slice pa' pn' pc')).setCell ⟨bX, 2, none⟩ (.slice ea' en' ec') = w8 at *
            obtain ⟨S1, S2, S3⟩ := Q
            have hs8 := (S3 0 w7 (Nat.zero_le _) (Below.refl _ _)).size
            have hown9 : ∀ k, badOf bX u9 k → k < wr.heap.size := fun k hk => by
              rcases hk with rfl | hk
              · exact hXl
              · exact (own_lt HOUT.out.row hk).1
            have OUT8 := (HOUT.out.pure HW7.out).var hs8 (fun k hk _ => S2 k hk) HNO.out
            have FE8 : FE (badOf bX u9) w8 ⟨sz', pa', pn', pc', ea', en', ec'⟩ (Fl.setPage M0 nx ([] ++ BB.take (i + 1))) := FAway.on (FAway.of_new HF7.out (fun k hk => .inl (hown9 k hk))) hs8 (fun k hb _ => S2 k (fun e => hb (.inl e))) (fun _ h => .inl h)
            have BA8 := HBA.out.on (bad' := badOf bX u9) (W1 := w8) (by omega) (fun k hb hl => (S2 k (fun e => hb (.inl e))).trans (HW7.out.block k hl)) (fun _ h => .inl h)
            have BW8 := S3 _ _ hwX (HBW.out.trans (HW7.out.mono HBW.out.size))
            have NB := alloc_new w8 (.cells #[.int .i64 sz', .slice pa' pn' pc', .slice ea' en' ec'] 32)
            have PB := pure_alloc w8 (.cells #[.int .i64 sz', .slice pa' pn' pc', .slice ea' en' ec'] 32)
            have SB := Below.keep PB S1 (lt_of_block S1)
            have BWB := BW8.alloc BW8.size (.cells #[.int .i64 sz', .slice pa' pn' pc', .slice ea' en' ec'] 32)
            obtain ⟨v9, w9, hrun, hout9, hgr9, hob9, hno9⟩ := (OUT8.pure PB).push (c := 1) (e := ⟨sz', pa', pn', pc', ea', en', ec'⟩) NB (FE8.pure PB) (by rw [List.length_append, addB_len]; omega) BWB.size HNO.out (lt_of_block SB)
            have FE9 : FE (badOf bX v9) w9 ⟨sz', pa', pn', pc', ea', en', ec'⟩ _ := FAway.on (FE8.pure PB) hgr9.size (fun k hb hl => hgr9.block k hl (fun e => hb (.inr e.symm))) (badOf_push hob9)
            have BA9 := (BA8.on (bad' := badOf bX u9) PB.size (fun k _ hl => PB.block k hl) (fun _ h => .inl h)).on (bad' := badOf bX v9) hgr9.size (fun k hb hl => hgr9.block k hl (fun e => hb (.inr e.symm))) (badOf_push hob9)
            have X9 := (hgr9.block _ (lt_of_block SB) (fun e => HNO.out e.symm)).trans SB
            have BW9 := below_grown BWB BWB.size (OUT8.pure PB).row hgr9
            have HOUT9 := Lib.hid hout9
            have HFE9 := Lib.hid FE9
            have HBA9 := Lib.hid BA9
            have HX9 := Lib.hid X9
            have HBW9 := Lib.hid BW9
            have HNO9 := Lib.hid hno9
            have t0 := cell_of_arr S1 0
            have t1 := cell_of_arr S1 1
            have t2 := cell_of_arr S1 2
            simp at t0 t1 t2
            clear OUT8 FE8 BA8 BW8 NB PB SB BWB hout9 hgr9 hob9 hno9 FE9 BA9 X9 BW9 S1 S2 S3 hown9 HF7 HW7 HOUT HXB HFE HBA HBW d0 d1 d2 f0 f1 f2
            go_wp2_with (at_builtin; refine wpList_app rfl _ _ 51 rfl rfl rfl hrun ?_)
            clear hrun t0 t1 t2
            go_wp2_with fail
            go_roundw
            case rel => exact ⟨i + 1, ⟨sz', pa', pn', pc', ea', en', ec'⟩, _, by go_num, by omega, (by rw [addB, ← List.append_assoc]; exact HOUT9.out), HX9.out, HFE9.out, HBA9.out, HBW9.out, HNO9.out⟩
            case measure => simp [intOf]; omega
          · obtain rfl : i = L := by omega
            have HOUT := Lib.hid hout
            have HBW := Lib.hid hBW
            clear hout hXb hfe hba hBW hno
            go_wp2_with fail
            go_ret
            refine ⟨w.heap.size, bX, _, es, rfl, ?_, HBW.out⟩
            rw [HR.out, HBL.out]
            exact HOUT.out
end Go.Proofs.Ytnfjfifdkmgbdaa
