/- The walks of the reference's refused and Steps. -/
import Derived.Test.YtnfjfifdkmgbdaaXn
import Derived.Test.YtnfjfifdkmgbdaaPk
namespace Go.Proofs.Ytnfjfifdkmgbdaa
open Go.RowKit Go.Shelf
theorem OutR.form {W : World} {base X : Nat} {v : Value} {es : List Elem} {ms : List Fl.Mem} (h : OutR W base X v es ms) : ∃ a cap, v = .slice a ms.length cap := by
  rcases h.row.2 with ⟨h1, h2⟩ | ⟨g, cap, cur, h1, _⟩
  · refine ⟨none, 0, ?_⟩
    rw [h1]
    have := h.row.1
    rw [h2] at this
    simp at this
    rw [show ms.length = 0 by omega]
  · exact ⟨_, _, h1⟩
/-- The memories that refused answers. -/
def refL (m : Fl.Mem) (key v : Int) : List Fl.Mem := if (stepsRes m key v).2 = 0 then Fl.statesP m key v else []
def RPost (m : Fl.Mem) (key v : Int) (w : World) (e : Ending) (w' : World) : Prop := ∃ (base X : Nat) (a : Option Addr) (cap : Nat) (es : List Elem), e = .returned (.tuple #[.slice a (refL m key v).length cap, .int .i64 (stepsRes m key v).2]) ∧ OutR w' base X (.slice a (refL m key v).length cap) es (refL m key v) ∧ Below w.heap.size w w'
theorem RPost.mk {m : Fl.Mem} {key v : Int} {w w' : World} {e : Ending} {base X : Nat} {a : Option Addr} {n cap : Nat} {es : List Elem} {er : Int} (h1 : e = .returned (.tuple #[.slice a n cap, .int .i64 er])) (h2 : (refL m key v).length = n) (h3 : (stepsRes m key v).2 = er) (h4 : OutR w' base X (.slice a n cap) es (refL m key v)) (h5 : Below w.heap.size w w') : RPost m key v w e w' := by
  subst h2 h3; exact ⟨base, X, a, cap, es, h1, h4, h5⟩
theorem OutR.none (W : World) : OutR W 0 0 (.slice none 0 0) [] [] := ⟨rfl, ⟨rfl, .inl ⟨rfl, rfl⟩⟩, fun i h => by simp at h⟩
theorem refL_bad {m : Fl.Mem} {key v : Int} (h : (stepsRes m key v).2 ≠ 0) : refL m key v = [] := by unfold refL; rw [if_neg h]
theorem statesP_len {m : Fl.Mem} {key v : Int} (h : wornP m (Fl.stepsP m key v) = false) : (Fl.statesP m key v).length = (Fl.stepsP m key v).length + 1 := by
  unfold Fl.statesP; rw [h]; simp
set_option maxHeartbeats 1600000 in
theorem refused_any (sz : Int) (pa : Option Addr) (pn pc : Nat) (ea : Option Addr) (en ec : Nat) (key v : Int) (m : Fl.Mem) (w : World) (h : FRep w sz pa pn ea en m) :
    Calls Try.prog 52 #[.agg #[.int .i64 sz, .slice pa pn pc, .slice ea en ec], .int .i64 key, .int .i64 v] w (RPost m key v w) := by
  have P1 := pure_alloc w (.cells #[.int .i64 sz, .slice pa pn pc, .slice ea en ec] 32)
  have N1 := alloc_new w (.cells #[.int .i64 sz, .slice pa pn pc, .slice ea en ec] 32)
  go_enter Try.func52, Try.ntmps52
  go_upto_region 1 with fail
  generalize w.alloc (.cells #[.int .i64 sz, .slice pa pn pc, .slice ea en ec] 32) = w1 at *
  have HF := Lib.hid (h.below P1)
  have c0 := cell_of_arr N1 0
  have c1 := cell_of_arr N1 1
  have c2 := cell_of_arr N1 2
  simp at c0 c1 c2
  have HP1 := Lib.hid P1
  have HN1 := Lib.hid N1
  have R0 : Hid (stepsRes m key v = if Fl.validP m && argsOk key v then (if wornP m (Fl.stepsP m key v) then (0, 35) else ((((Fl.stepsP m key v).length : Nat) : Int), (0 : Int))) else (0, 1)) := rfl
  clear P1 N1 h
  go_wp2_with fail
  refine (validR_any sz pa pn pc ea en ec m w1 HF.out).mono ?_
  rintro e w2 ⟨rfl, hw2⟩
  have HP2 := Lib.hid (pure_trans HP1.out hw2)
  have HF2 := Lib.hid (HF.out.below hw2)
  have N2 := Below.keep hw2 HN1.out (lt_of_block HN1.out)
  clear hw2 HP1 HN1 HF c0 c1 c2
  have c0 := cell_of_arr N2 0
  have c1 := cell_of_arr N2 1
  have c2 := cell_of_arr N2 2
  simp at c0 c1 c2
  clear N2
  by_cases hok : (0 ≤ key ∧ key ≤ 15) ∧ (0 ≤ v ∧ v ≤ 1099511627775)
  · have hargs := Fl.argsOk_iff.2 hok
    cases hv : Fl.validP m
    · have R : Hid ((stepsRes m key v).2 = 1) := by show _ = _; rw [R0.out, hv]; rfl
      obtain ⟨⟨o1, o2⟩, o3, o4⟩ := hok
      go_wp2_with fail
      go_ret2
      refine RPost.mk rfl (by rw [refL_bad (by rw [R.out]; omega)]; rfl) R.out (base := 0) (X := 0) (es := []) ?_ HP2.out
      rw [refL_bad (by rw [R.out]; omega)]
      exact OutR.none _
    · have HST : Hid (Calls Try.prog 59 #[.agg #[.int .i64 sz, .slice pa pn pc, .slice ea en ec], .int .i64 key, .int .i64 v] w2 (SPost (Fl.statesP m key v) w2)) := by
        show Calls _ _ _ _ _
        cases hst : Fl.stays m
        · exact states_move sz pa pn pc ea en ec key v m w2 HF2.out hv hok.1 hok.2 hst
        · exact states_stay sz pa pn pc ea en ec key v m w2 HF2.out hv hok.1 hok.2 hst
      have R1 : Hid (stepsRes m key v = if wornP m (Fl.stepsP m key v) then (0, 35) else ((((Fl.stepsP m key v).length : Nat) : Int), (0 : Int))) := by show _ = _; rw [R0.out, hv, hargs]; rfl
      have hsl := stepsP_len m key v
      have HSL := Lib.hid (@statesP_len m key v)
      have HE : Hid (Fl.statesP m key v = if wornP m (Fl.stepsP m key v) then [] else (List.range ((Fl.stepsP m key v).length + 1)).map fun k => Fl.runs m ((Fl.stepsP m key v).take k)) := rfl
      obtain ⟨⟨o1, o2⟩, o3, o4⟩ := hok
      clear R0 hargs
      go_wp2_with fail
      refine HST.out.mono ?_
      rintro e w3 ⟨base, X, vv, es, rfl, hout, hw3⟩
      obtain ⟨a, cap, rfl⟩ := hout.form
      have HOUT := Lib.hid hout
      have HW3 := Lib.hid (pure_trans HP2.out hw3)
      clear hout hw3 HST
      cases hwn : wornP m (Fl.stepsP m key v)
      · have hl := HSL.out hwn
        have R : Hid ((stepsRes m key v).2 = 0) := by show _ = _; rw [R1.out, hwn]; rfl
        have hRL : refL m key v = Fl.statesP m key v := by unfold refL; rw [if_pos R.out]
        have HRL := Lib.hid hRL
        obtain ⟨n, hn⟩ : ∃ n, (Fl.statesP m key v).length = n := ⟨_, rfl⟩
        rw [hn] at HOUT hl ⊢
        have HN := Lib.hid hn
        have hne : ((n : Int) == 0) = false := by simp; omega
        have hnb : n ≤ 201 := by omega
        clear hRL hn hl hwn
        go_wp2_with fail
        go_ret2
        refine RPost.mk rfl (by rw [HRL.out]; exact HN.out) R.out (base := base) (X := X) (es := es) ?_ HW3.out
        rw [HRL.out]; exact HOUT.out
      · have he : Fl.statesP m key v = [] := by rw [HE.out, hwn]; rfl
        have R : Hid ((stepsRes m key v).2 = 35) := by show _ = _; rw [R1.out, hwn]; rfl
        rw [he] at HOUT ⊢
        simp only [List.length_nil] at HOUT ⊢
        clear he hwn
        go_wp2_with fail
        go_ret2
        refine RPost.mk rfl (by rw [refL_bad (by rw [R.out]; omega)]; rfl) R.out (base := 0) (X := 0) (es := []) ?_ HW3.out
        rw [refL_bad (by rw [R.out]; omega)]
        exact OutR.none _
  · have hargs : argsOk key v = false := by
      cases h : argsOk key v
      · rfl
      · exact absurd (Fl.argsOk_iff.1 h) hok
    have R : Hid ((stepsRes m key v).2 = 1) := by show _ = _; rw [R0.out, hargs]; simp
    have HOK := Lib.hid hok
    clear hok R0 hargs
    cases hv : Fl.validP m
    all_goals
      go_wp2_with fail
      all_goals first
        | (exfalso; have := HOK.out; omega)
        | (go_ret2
           refine RPost.mk rfl (by rw [refL_bad (by rw [R.out]; omega)]; rfl) R.out (base := 0) (X := 0) (es := []) ?_ HP2.out
           rw [refL_bad (by rw [R.out]; omega)]
           exact OutR.none _)
set_option maxHeartbeats 1600000 in
theorem stepsR_any (sz : Int) (pa : Option Addr) (pn pc : Nat) (ea : Option Addr) (en ec : Nat) (key v : Int) (m : Fl.Mem) (w : World) (h : FRep w sz pa pn ea en m) :
    Calls Try.prog 36 #[.agg #[.int .i64 sz, .slice pa pn pc, .slice ea en ec], .int .i64 key, .int .i64 v] w fun e w' => e = .returned (.tuple #[.int .i64 (stepsRes m key v).1, .int .i64 (stepsRes m key v).2]) ∧ Below w.heap.size w w' := by
  have P1 := pure_alloc w (.cells #[.int .i64 sz, .slice pa pn pc, .slice ea en ec] 32)
  have HR := Lib.hid (refused_any sz pa pn pc ea en ec key v m _ (h.below P1))
  have HP1 := Lib.hid P1
  clear P1 h
  go_enter Try.func36, Try.ntmps36
  go_wp2_with fail
  refine HR.out.mono ?_
  rintro e w2 ⟨base, X, a, cap, es, rfl, _, hw2⟩
  have HP2 := Lib.hid (pure_trans HP1.out hw2)
  clear hw2 HR HP1
  by_cases he : (stepsRes m key v).2 = 0
  · obtain ⟨h1, h2, h3, h4, h5⟩ := Fl.stepsRes_zero he
    have hl : (refL m key v).length = (Fl.stepsP m key v).length + 1 := by unfold refL; rw [if_pos he, statesP_len h4]
    have hsl := stepsP_len m key v
    rw [he, hl]
    have H5 := Lib.hid h5
    have HE := Lib.hid he
    clear hl h5 he h1 h2 h3 h4
    generalize (Fl.stepsP m key v).length = n at *
    go_wp2_with fail
    go_ret2
    refine ⟨?_, HP2.out⟩
    rw [H5.out, HE.out]
    congr 3
  · have h0 : (stepsRes m key v).1 = 0 := by
      unfold stepsRes at he ⊢
      cases h1 : Fl.validP m <;> cases h2 : argsOk key v <;> simp [h1, h2] at he ⊢
      cases h3 : wornP m (Fl.stepsP m key v) <;> simp [h3] at he ⊢
    have H0 := Lib.hid h0
    clear h0
    generalize her : (stepsRes m key v).2 = er at *
    have HER := Lib.hid her
    clear her
    generalize (refL m key v).length = n at *
    go_wp2_with fail
    go_ret2
    exact ⟨by rw [H0.out, HER.out]; rfl, HP2.out⟩
theorem refL_get {m : Fl.Mem} {key v : Int} (h : (stepsRes m key v).2 = 0) (i : Nat) (hi : i < (refL m key v).length) : (refL m key v)[i] = Fl.runs m ((Fl.stepsP m key v).take i) := by
  obtain ⟨h1, h2, h3, h4, h5⟩ := Fl.stepsRes_zero h
  have e : refL m key v = (List.range ((Fl.stepsP m key v).length + 1)).map fun k => Fl.runs m ((Fl.stepsP m key v).take k) := by
    unfold refL Fl.statesP; rw [if_pos h, h4]; rfl
  simp only [e, List.getElem_map, List.getElem_range]
theorem refL_len {m : Fl.Mem} {key v : Int} (h : (stepsRes m key v).2 = 0) : (refL m key v).length = (Fl.stepsP m key v).length + 1 := by
  obtain ⟨h1, h2, h3, h4, h5⟩ := Fl.stepsRes_zero h
  unfold refL; rw [if_pos h, statesP_len h4]
theorem runs_mb {m : Fl.Mem} {key v : Int} (h : (stepsRes m key v).2 = 0) (k : Nat) : Fl.validP (Fl.runs m ((Fl.stepsP m key v).take k)) = true := by
  obtain ⟨h1, h2, h3, h4, h5⟩ := Fl.stepsRes_zero h
  exact (Fl.torn_law h1 h2 h3 h4 k).1.valid
set_option maxHeartbeats 1600000 in
theorem tornR_any (sz : Int) (pa : Option Addr) (pn pc : Nat) (ea : Option Addr) (en ec : Nat) (key v k : Int) (m : Fl.Mem) (w : World) (h : FRep w sz pa pn ea en m) :
    Calls Try.prog 37 #[.agg #[.int .i64 sz, .slice pa pn pc, .slice ea en ec], .int .i64 key, .int .i64 v, .int .i64 k] w (FPost (Fl.tornP m key v k) w) := by
  have P1 : Below w.heap.size w ((w.alloc (.cells #[.int .i64 sz, .slice pa pn pc, .slice ea en ec] 32)).alloc (.cells #[.int .i64 0, .slice none 0 0, .slice none 0 0] 32)) := (pure_alloc _ _).alloc (by simp) _
  have B0 : ((w.alloc (.cells #[.int .i64 sz, .slice pa pn pc, .slice ea en ec] 32)).alloc (.cells #[.int .i64 0, .slice none 0 0, .slice none 0 0] 32)).heap[w.heap.size]? = some (.cells #[.int .i64 sz, .slice pa pn pc, .slice ea en ec] 32 (0, 0)) := alloc_keep (alloc_new _ _)
  have B1 : ((w.alloc (.cells #[.int .i64 sz, .slice pa pn pc, .slice ea en ec] 32)).alloc (.cells #[.int .i64 0, .slice none 0 0, .slice none 0 0] 32)).heap[w.heap.size + 1]? = some (.cells #[.int .i64 0, .slice none 0 0, .slice none 0 0] 32 (0, 0)) := alloc_new' _ _ _ (by simp)
  have R0 : Hid (Fl.tornP m key v k = if (stepsRes m key v).2 ≠ 0 then (Fl.none_, (stepsRes m key v).2) else if k < 0 ∨ (stepsRes m key v).1 < k then (Fl.none_, 1) else (Fl.runs m ((Fl.stepsP m key v).take k.toNat), 0)) := rfl
  go_enter Try.func37, Try.ntmps37
  go_upto_region 1 with fail
  generalize (w.alloc (.cells #[.int .i64 sz, .slice pa pn pc, .slice ea en ec] 32)).alloc (.cells #[.int .i64 0, .slice none 0 0, .slice none 0 0] 32) = w1 at *
  have HR := Lib.hid (refused_any sz pa pn pc ea en ec key v m w1 (h.below P1))
  have c1 := cell_of_arr B0 0
  have c2 := cell_of_arr B0 1
  have c3 := cell_of_arr B0 2
  simp at c1 c2 c3
  have HP1 := Lib.hid P1
  have HB1 := Lib.hid B1
  clear P1 B0 B1 h
  go_wp2_with fail
  refine HR.out.mono ?_
  rintro e w2 ⟨base, X, a, cap, es, rfl, hout, hw2⟩
  have HP2 := Lib.hid (pure_trans HP1.out hw2)
  have B1 := Below.keep hw2 HB1.out (lt_of_block HB1.out)
  have HOUT := Lib.hid hout
  clear hw2 HB1 HP1 HR hout c1 c2 c3
  have d1 := cell_of_arr B1 0
  have d2 := cell_of_arr B1 1
  have d3 := cell_of_arr B1 2
  have f1 := frozen_of_arr B1 0
  have f2 := frozen_of_arr B1 1
  have f3 := frozen_of_arr B1 2
  simp at d1 d2 d3
  have HB1 := Lib.hid B1
  clear B1
  by_cases he : (stepsRes m key v).2 = 0
  rotate_left
  · have R1 : Hid (Fl.tornP m key v k = (Fl.none_, (stepsRes m key v).2)) := by show _ = _; rw [R0.out, if_pos he]
    generalize (stepsRes m key v).2 = er at *
    generalize (refL m key v).length = n at *
    go_wp2_with fail
    have S3 := three_cells HB1.out (.int .i64 0) (.slice none 0 0) (.slice none 0 0) _ rfl
    have g1 := cell_of_arr S3 0
    have g2 := cell_of_arr S3 1
    have g3 := cell_of_arr S3 2
    simp at g1 g2 g3
    refine bodyPost_ret (v := .tuple #[.agg #[.int .i64 0, .slice none 0 0, .slice none 0 0], .int .i64 er]) (by simp [results, Try.results37, go_sem, g1, g2, g3]) rfl ?_
    rw [R1.out]
    exact FPost.mk rfl (fun W _ => frep_none W) (((HP2.out.setCell (by simp) _).setCell (by simp) _).setCell (by simp) _)
  have hl := refL_len he
  have h5 := (Fl.stepsRes_zero he).2.2.2.2
  have hsl := stepsP_len m key v
  have HG := Lib.hid (fun i hi => refL_get (i := i) he hi)
  have HVR := Lib.hid (fun k => runs_mb he k)
  rw [he, hl]
  rw [hl] at HOUT
  have R1 : Hid (Fl.tornP m key v k = if k < 0 ∨ ((Fl.stepsP m key v).length : Int) < k then (Fl.none_, 1) else (Fl.runs m ((Fl.stepsP m key v).take k.toNat), 0)) := by show _ = _; rw [R0.out, if_neg (by simpa using he), h5]
  have HL := Lib.hid hl
  clear R0 he hl h5
  generalize (Fl.stepsP m key v).length = n at *
  by_cases hk : k < 0 ∨ (n : Int) < k
  · have R2 : Hid (Fl.tornP m key v k = (Fl.none_, 1)) := by show _ = _; rw [R1.out, if_pos hk]
    clear R1
    have HK := Lib.hid hk
    clear hk
    by_cases hk0 : k < 0
    all_goals
      have hk1 : k < 0 ∨ (n : Int) + 1 ≤ k := by have := HK.out; omega
      have hk2 : ¬ k < 0 → (n : Int) + 1 ≤ k := by omega
      go_wp2_with fail
      all_goals first
        | (exfalso; omega)
        | (have S3 := three_cells HB1.out (.int .i64 0) (.slice none 0 0) (.slice none 0 0) _ rfl
           have g1 := cell_of_arr S3 0
           have g2 := cell_of_arr S3 1
           have g3 := cell_of_arr S3 2
           simp at g1 g2 g3
           refine bodyPost_ret (v := .tuple #[.agg #[.int .i64 0, .slice none 0 0, .slice none 0 0], .int .i64 1]) (by simp [results, Try.results37, go_sem, g1, g2, g3]) rfl ?_
           rw [R2.out]
           exact FPost.mk rfl (fun W _ => frep_none W) (((HP2.out.setCell (by simp) _).setCell (by simp) _).setCell (by simp) _))
  · have R2 : Hid (Fl.tornP m key v k = (Fl.runs m ((Fl.stepsP m key v).take k.toNat), 0)) := by show _ = _; rw [R1.out, if_neg hk]
    obtain ⟨j, rfl⟩ := Int.eq_ofNat_of_zero_le (show 0 ≤ k by omega)
    have hj : j ≤ n := by omega
    have hjl : j < (refL m key v).length := by rw [HL.out]; omega
    obtain ⟨g, cap', hge, hget⟩ := HOUT.out.get (by omega)
    simp only [Value.slice.injEq] at hge
    obtain ⟨rfl, hgl, rfl⟩ := hge
    obtain ⟨el, e0, e1, e2, e3⟩ := hget j hjl
    rw [HG.out j hjl] at e3
    have hvr := HVR.out j
    rw [Int.toNat_natCast] at R2
    generalize Fl.runs m ((Fl.stepsP m key v).take j) = mj at *
    have HM := MB.valid hvr
    have hpl := e3.pages.1
    have hel := e3.erased.1
    have HCP := Lib.hid (copyR_any el.sz el.pa el.pn el.pc el.ea el.en el.ec mj w2 e3 (by have := HM.pages; omega) (by have := HM.erased; omega) (fun i _ => by have := HM.lens i; omega))
    have HSZ := Lib.hid e3.size
    have HVR2 := Lib.hid hvr
    have HMB := Lib.hid HM
    have hk3 : ¬ ((n : Int) + 1 ≤ (j : Int)) := by omega
    have hj1 : (j : Int) < (n : Int) + 1 := by omega
    clear hk R1 HG HVR hget hgl hpl hel hvr HM e3
    go_wp2_with fail
    refine HCP.out.mono ?_
    rintro e w3 ⟨pv, ev, vs, rfl, hpv, hev, hw3⟩
    have hrow := hpv.row
    rw [hpv.len] at hrow
    obtain ⟨pa3, pc3, rfl⟩ := own_form hrow
    obtain ⟨ea3, ec3, rfl⟩ := own_form hev
    have HREP := Lib.hid (copied_rep hpv hev HVR2.out)
    have HP3 := Lib.hid (pure_trans HP2.out hw3)
    have B3 := Below.keep hw3 HB1.out (lt_of_block HB1.out)
    have hb2 := lt_of_block HB1.out
    clear hrow hpv hev hw3 HCP d1 d2 d3 f1 f2 f3 HB1 e0 e1 e2
    have d1 := cell_of_arr B3 0
    have d2 := cell_of_arr B3 1
    have d3 := cell_of_arr B3 2
    have f1 := frozen_of_arr B3 0
    have f2 := frozen_of_arr B3 1
    have f3 := frozen_of_arr B3 2
    simp at d1 d2 d3
    have HB3 := Lib.hid B3
    clear B3
    go_wp2_with fail
    have Q := three_cells'' HB3.out (.int .i64 el.sz) (.slice pa3 mj.pages.length pc3) (.slice ea3 mj.erased.length ec3) _ rfl
    generalize ((w3.setCell ⟨w.heap.size + 1, 0, none⟩ (.int .i64 el.sz)).setCell ⟨w.heap.size + 1, 1, none⟩ (.slice pa3 mj.pages.length pc3)).setCell ⟨w.heap.size + 1, 2, none⟩ (.slice ea3 mj.erased.length ec3) = w4 at *
    obtain ⟨S1, S2, S3⟩ := Q
    have g1 := cell_of_arr S1 0
    have g2 := cell_of_arr S1 1
    have g3 := cell_of_arr S1 2
    simp at g1 g2 g3
    refine bodyPost_ret (v := .tuple #[.agg #[.int .i64 el.sz, .slice pa3 mj.pages.length pc3, .slice ea3 mj.erased.length ec3], .int .i64 0]) (by simp [results, Try.results37, go_sem, g1, g2, g3]) rfl ?_
    rw [R2.out]
    refine FPost.mk rfl (fun W hW => ?_) (S3 _ _ (by omega) HP3.out)
    rw [HSZ.out]
    exact HREP.out W (fun k h1 h2 => (hW k (by omega)).trans (S2 k (by omega)))
set_option maxHeartbeats 1600000 in
theorem putR_any (sz : Int) (pa : Option Addr) (pn pc : Nat) (ea : Option Addr) (en ec : Nat) (key v : Int) (m : Fl.Mem) (w : World) (h : FRep w sz pa pn ea en m) :
    Calls Try.prog 38 #[.agg #[.int .i64 sz, .slice pa pn pc, .slice ea en ec], .int .i64 key, .int .i64 v] w (FPost (Fl.putP m key v) w) := by
  have P1 : Below w.heap.size w ((w.alloc (.cells #[.int .i64 sz, .slice pa pn pc, .slice ea en ec] 32)).alloc (.cells #[.int .i64 0, .slice none 0 0, .slice none 0 0] 32)) := (pure_alloc _ _).alloc (by simp) _
  have B0 : ((w.alloc (.cells #[.int .i64 sz, .slice pa pn pc, .slice ea en ec] 32)).alloc (.cells #[.int .i64 0, .slice none 0 0, .slice none 0 0] 32)).heap[w.heap.size]? = some (.cells #[.int .i64 sz, .slice pa pn pc, .slice ea en ec] 32 (0, 0)) := alloc_keep (alloc_new _ _)
  have B1 : ((w.alloc (.cells #[.int .i64 sz, .slice pa pn pc, .slice ea en ec] 32)).alloc (.cells #[.int .i64 0, .slice none 0 0, .slice none 0 0] 32)).heap[w.heap.size + 1]? = some (.cells #[.int .i64 0, .slice none 0 0, .slice none 0 0] 32 (0, 0)) := alloc_new' _ _ _ (by simp)
  have R0 : Hid (Fl.putP m key v = if (stepsRes m key v).2 ≠ 0 then (Fl.none_, (stepsRes m key v).2) else (Fl.runs m (Fl.stepsP m key v), 0)) := rfl
  go_enter Try.func38, Try.ntmps38
  go_upto_region 1 with fail
  generalize (w.alloc (.cells #[.int .i64 sz, .slice pa pn pc, .slice ea en ec] 32)).alloc (.cells #[.int .i64 0, .slice none 0 0, .slice none 0 0] 32) = w1 at *
  have HR := Lib.hid (refused_any sz pa pn pc ea en ec key v m w1 (h.below P1))
  have c1 := cell_of_arr B0 0
  have c2 := cell_of_arr B0 1
  have c3 := cell_of_arr B0 2
  simp at c1 c2 c3
  have HP1 := Lib.hid P1
  have HB1 := Lib.hid B1
  clear P1 B0 B1 h
  go_wp2_with fail
  refine HR.out.mono ?_
  rintro e w2 ⟨base, X, a, cap, es, rfl, hout, hw2⟩
  have HP2 := Lib.hid (pure_trans HP1.out hw2)
  have B1 := Below.keep hw2 HB1.out (lt_of_block HB1.out)
  have HOUT := Lib.hid hout
  clear hw2 HB1 HP1 HR hout c1 c2 c3
  have d1 := cell_of_arr B1 0
  have d2 := cell_of_arr B1 1
  have d3 := cell_of_arr B1 2
  have f1 := frozen_of_arr B1 0
  have f2 := frozen_of_arr B1 1
  have f3 := frozen_of_arr B1 2
  simp at d1 d2 d3
  have HB1 := Lib.hid B1
  clear B1
  by_cases he : (stepsRes m key v).2 = 0
  rotate_left
  · have R1 : Hid (Fl.putP m key v = (Fl.none_, (stepsRes m key v).2)) := by show _ = _; rw [R0.out, if_pos he]
    generalize (stepsRes m key v).2 = er at *
    generalize (refL m key v).length = n at *
    go_wp2_with fail
    have S3 := three_cells HB1.out (.int .i64 0) (.slice none 0 0) (.slice none 0 0) _ rfl
    have g1 := cell_of_arr S3 0
    have g2 := cell_of_arr S3 1
    have g3 := cell_of_arr S3 2
    simp at g1 g2 g3
    refine bodyPost_ret (v := .tuple #[.agg #[.int .i64 0, .slice none 0 0, .slice none 0 0], .int .i64 er]) (by simp [results, Try.results38, go_sem, g1, g2, g3]) rfl ?_
    rw [R1.out]
    exact FPost.mk rfl (fun W _ => frep_none W) (((HP2.out.setCell (by simp) _).setCell (by simp) _).setCell (by simp) _)
  have hl := refL_len he
  have h5 := (Fl.stepsRes_zero he).2.2.2.2
  have hsl := stepsP_len m key v
  have HG := Lib.hid (fun i hi => refL_get (i := i) he hi)
  have HVR := Lib.hid (fun k => runs_mb he k)
  rw [he, hl]
  rw [hl] at HOUT
  have R2 : Hid (Fl.putP m key v = (Fl.runs m ((Fl.stepsP m key v).take (Fl.stepsP m key v).length), 0)) := by show _ = _; rw [R0.out, if_neg (by simpa using he), List.take_length]
  have HL := Lib.hid hl
  clear R0 he hl h5
  generalize hj0 : (Fl.stepsP m key v).length = j at *
  clear hj0
  · have hjl : j < (refL m key v).length := by rw [HL.out]; omega
    obtain ⟨g, cap', hge, hget⟩ := HOUT.out.get (by omega)
    simp only [Value.slice.injEq] at hge
    obtain ⟨rfl, hgl, rfl⟩ := hge
    obtain ⟨el, e0, e1, e2, e3⟩ := hget j hjl
    rw [HG.out j hjl] at e3
    have hvr := HVR.out j
    generalize Fl.runs m ((Fl.stepsP m key v).take j) = mj at *
    have HM := MB.valid hvr
    have hpl := e3.pages.1
    have hel := e3.erased.1
    have HCP := Lib.hid (copyR_any el.sz el.pa el.pn el.pc el.ea el.en el.ec mj w2 e3 (by have := HM.pages; omega) (by have := HM.erased; omega) (fun i _ => by have := HM.lens i; omega))
    have HSZ := Lib.hid e3.size
    have HVR2 := Lib.hid hvr
    have HMB := Lib.hid HM
    have hj1 : (j : Int) < (j : Int) + 1 := by omega
    have hj2 : (j : Int) + 1 - 1 = (j : Int) := by omega
    clear HG HVR hget hgl hpl hel hvr HM e3
    go_wp2_with fail
    refine HCP.out.mono ?_
    rintro e w3 ⟨pv, ev, vs, rfl, hpv, hev, hw3⟩
    have hrow := hpv.row
    rw [hpv.len] at hrow
    obtain ⟨pa3, pc3, rfl⟩ := own_form hrow
    obtain ⟨ea3, ec3, rfl⟩ := own_form hev
    have HREP := Lib.hid (copied_rep hpv hev HVR2.out)
    have HP3 := Lib.hid (pure_trans HP2.out hw3)
    have B3 := Below.keep hw3 HB1.out (lt_of_block HB1.out)
    have hb2 := lt_of_block HB1.out
    clear hrow hpv hev hw3 HCP d1 d2 d3 f1 f2 f3 HB1 e0 e1 e2
    have d1 := cell_of_arr B3 0
    have d2 := cell_of_arr B3 1
    have d3 := cell_of_arr B3 2
    have f1 := frozen_of_arr B3 0
    have f2 := frozen_of_arr B3 1
    have f3 := frozen_of_arr B3 2
    simp at d1 d2 d3
    have HB3 := Lib.hid B3
    clear B3
    go_wp2_with fail
    have Q := three_cells'' HB3.out (.int .i64 el.sz) (.slice pa3 mj.pages.length pc3) (.slice ea3 mj.erased.length ec3) _ rfl
    generalize ((w3.setCell ⟨w.heap.size + 1, 0, none⟩ (.int .i64 el.sz)).setCell ⟨w.heap.size + 1, 1, none⟩ (.slice pa3 mj.pages.length pc3)).setCell ⟨w.heap.size + 1, 2, none⟩ (.slice ea3 mj.erased.length ec3) = w4 at *
    obtain ⟨S1, S2, S3⟩ := Q
    have g1 := cell_of_arr S1 0
    have g2 := cell_of_arr S1 1
    have g3 := cell_of_arr S1 2
    simp at g1 g2 g3
    refine bodyPost_ret (v := .tuple #[.agg #[.int .i64 el.sz, .slice pa3 mj.pages.length pc3, .slice ea3 mj.erased.length ec3], .int .i64 0]) (by simp [results, Try.results38, go_sem, g1, g2, g3]) rfl ?_
    rw [R2.out]
    refine FPost.mk rfl (fun W hW => ?_) (S3 _ _ (by omega) HP3.out)
    rw [HSZ.out]
    exact HREP.out W (fun k h1 h2 => (hW k (by omega)).trans (S2 k (by omega)))
end Go.Proofs.Ytnfjfifdkmgbdaa
