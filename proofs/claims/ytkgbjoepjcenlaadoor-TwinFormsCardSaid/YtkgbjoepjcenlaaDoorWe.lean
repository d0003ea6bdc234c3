/- The walks of Contains, of the program and of the reference. -/
import Derived.Test.YtkgbjoepjcenlaaDoorWd
namespace Go.Proofs.YtkgbjoepjcenlaaDoor
open Go.RowKit
set_option maxHeartbeats 1600000 in
theorem contains_any (m : Nat) : ∀ (t u : Tm) (a : Option Addr) (n c : Nat) (a' : Option Addr) (n' c' : Nat) (w : World) (ok ok' : Nat → Prop), t.size ≤ m → TR ok w t a n → TR ok' w u a' n' →
    Calls Tryd.prog 26 #[.agg #[.int .i64 t.op, .int .i64 t.num, .slice a n c], .agg #[.int .i64 u.op, .int .i64 u.num, .slice a' n' c']] w fun e w' => e = .returned (.bool (Tm.contains t u)) ∧ Below w.heap.size w w' := by
  induction m with
  | zero => intro t u a n c a' n' c' w ok ok' h; have := t.size_pos; omega
  | succ m ih =>
    intro t u a n c a' n' c' w ok ok' hm hT hU
    have hsz := t.size_kids
    have P1 : Below w.heap.size w ((w.alloc (.cells #[.int .i64 t.op, .int .i64 t.num, .slice a n c] 28)).alloc (.cells #[.int .i64 u.op, .int .i64 u.num, .slice a' n' c'] 28)) := (pure_alloc _ _).alloc (by simp) _
    have N1 : ((w.alloc (.cells #[.int .i64 t.op, .int .i64 t.num, .slice a n c] 28)).alloc (.cells #[.int .i64 u.op, .int .i64 u.num, .slice a' n' c'] 28)).heap[w.heap.size]? = some (.cells #[.int .i64 t.op, .int .i64 t.num, .slice a n c] 28 (0, 0)) := alloc_keep (alloc_new _ _)
    have N2 : ((w.alloc (.cells #[.int .i64 t.op, .int .i64 t.num, .slice a n c] 28)).alloc (.cells #[.int .i64 u.op, .int .i64 u.num, .slice a' n' c'] 28)).heap[w.heap.size + 1]? = some (.cells #[.int .i64 u.op, .int .i64 u.num, .slice a' n' c'] 28 (0, 0)) := alloc_new' _ _ _ (by simp)
    have HT := Lib.hid (hT.below P1)
    have HU := Lib.hid (hU.below P1)
    rw [TR_iff] at hT
    have hn := hT.2.1
    have HLN := Lib.hid hT.1
    have HIH := Lib.hid ih
    have HSZ : Hid (Tm.sizes t.kids ≤ m) := by show _ ≤ _; omega
    have HCE := Lib.hid (Tm.contains_eq t u)
    clear hT hU hsz ih hm
    go_enter Tryd.func26, Tryd.ntmps26
    go_upto_region 1 with fail
    generalize ((w.alloc (.cells #[.int .i64 t.op, .int .i64 t.num, .slice a n c] 28)).alloc (.cells #[.int .i64 u.op, .int .i64 u.num, .slice a' n' c'] 28)) = w1 at *
    have HP1 := Lib.hid P1
    have HN1 := Lib.hid N1
    have HN2 := Lib.hid N2
    have x0 := cell_of_arr N1 0
    have x1 := cell_of_arr N1 1
    have x2 := cell_of_arr N1 2
    simp at x0 x1 x2
    have y0 := cell_of_arr N2 0
    have y1 := cell_of_arr N2 1
    have y2 := cell_of_arr N2 2
    simp at y0 y1 y2
    clear P1 N1 N2
    go_wp2_with fail
    refine (compare_any t.size t u a n c a' n' c' w1 ok ok' (Nat.le_refl _) HT.out HU.out).mono ?_
    rintro e w2 ⟨rfl, hw2⟩
    have HP2 := Lib.hid (pure_trans HP1.out hw2)
    have HT2 := Lib.hid (TR_iff.1 (HT.out.below hw2))
    have HU2 := Lib.hid (HU.out.below hw2)
    have HN1W := Lib.hid (Below.keep hw2 HN1.out (lt_of_block HN1.out))
    have HN2W := Lib.hid (Below.keep hw2 HN2.out (lt_of_block HN2.out))
    clear hw2 x0 x1 x2 y0 y1 y2 HT HU HN1 HN2 HP1
    generalize hcv : Tm.compare t u = cv at *
    have HCV := Lib.hid hcv
    clear hcv
    by_cases hz : cv = 0
    · have hzb : (cv == 0) = true := by simpa using hz
      have HE : Hid (Tm.contains t u = true) := by show _ = _; rw [HCE.out, hzb]; rfl
      clear hz HCE HCV
      go_wp2_with fail
      go_ret
      rw [HE.out]
      exact ⟨rfl, HP2.out⟩
    have hzb : (cv == 0) = false := by simpa using hz
    have HE : Hid (Tm.contains t u = Tm.containsL t.kids u) := by show _ = _; rw [HCE.out, hzb]; rfl
    clear hz HCE HCV
    have N1 := HN1W.out
    have x0 := cell_of_arr N1 0
    have x1 := cell_of_arr N1 1
    have x2 := cell_of_arr N1 2
    simp at x0 x1 x2
    clear N1
    go_wp2_with fail
    clear x0 x1 x2
    go_loopw [14] (fun i W => ∃ j : Nat, i = .int .i64 j ∧ j ≤ n ∧ Tm.containsL t.kids u = Tm.containsL (t.kids.drop j) u ∧ Below w2.heap.size w2 W) (fun i _ => n - (intOf i).toNat)
    case atStart => exact ⟨0, rfl, by omega, rfl, Below.refl _ _⟩
    case round =>
      obtain ⟨j, rfl, hj, hcj, hB⟩ := hrel
      by_cases hjn : j < n
      · have hjl : j < t.kids.length := by have := HLN.out; omega
        obtain ⟨b, o, an, nn, cc, hea, hb, c0, c1, c2, ht⟩ := (HT2.out.below hB).2.2 j hjl
        subst hea
        have PA := pure_alloc wr (.cells #[.int .i64 t.kids[j].op, .int .i64 t.kids[j].num, .slice an nn cc] 28)
        have HEQ := Lib.hid (hcj.trans (Tm.containsL_step hjl u))
        have hk1 : t.kids[j].size ≤ m := Nat.le_trans (Tm.size_get hjl) HSZ.out
        have HCL := Lib.hid (HIH.out t.kids[j] u an nn cc a' n' c' _ ok ok' hk1 (ht.below PA) ((HU2.out.below hB).below PA))
        have N2 := Below.keep hB HN2W.out (lt_of_block HN2W.out)
        have HB := Lib.hid (hB.trans (PA.mono hB.size))
        clear hcj hB ht hk1 PA
        generalize t.kids[j] = k at *
        have y0 := cell_of_arr N2 0
        have y1 := cell_of_arr N2 1
        have y2 := cell_of_arr N2 2
        simp at y0 y1 y2
        clear N2
        have hy : w.heap.size + 1 < wr.heap.size := lt_of_cell y0
        have hlt : (j : Int) < n := by omega
        go_wp2_with fail
        refine HCL.out.mono ?_
        rintro e w5 ⟨rfl, hw5⟩
        have HB5 := Lib.hid (HB.out.trans (hw5.mono HB.out.size))
        clear hw5 y0 y1 y2 c0 c1 c2 HB HCL
        cases hcv : Tm.contains k u
        · rw [hcv] at HEQ
          have HEQ2 := Lib.hid (HEQ.out.trans (Bool.false_or _))
          clear hcv HEQ
          go_wp2_with fail
          go_roundw
          case rel => exact ⟨j + 1, by go_num, by omega, HEQ2.out, HB5.out⟩
          case measure => simp [intOf]; omega
        · rw [hcv] at HEQ
          have HEQ2 := Lib.hid (HEQ.out.trans (Bool.true_or _))
          clear hcv HEQ
          go_wp2_with fail
          go_ret
          rw [HE.out, HEQ2.out]
          exact ⟨rfl, pure_trans HP2.out HB5.out⟩
      · have hjn' : ¬ ((j : Int) < n) := by omega
        have HB := Lib.hid (pure_trans HP2.out hB)
        have HEQ := Lib.hid (hcj.trans (Tm.containsL_end (by have := HLN.out; omega) u))
        clear hB hcj
        go_wp2_with fail
        go_ret
        rw [HE.out, HEQ.out]
        exact ⟨rfl, HB.out⟩
set_option maxHeartbeats 1600000 in
theorem containsR_any (m : Nat) : ∀ (t u : Tm) (a : Option Addr) (n c : Nat) (a' : Option Addr) (n' c' : Nat) (w : World) (ok ok' : Nat → Prop), t.size ≤ m → TR ok w t a n → TR ok' w u a' n' →
    Calls Tryd.prog 27 #[.agg #[.int .i64 t.op, .int .i64 t.num, .slice a n c], .agg #[.int .i64 u.op, .int .i64 u.num, .slice a' n' c']] w fun e w' => e = .returned (.bool (Tm.contains t u)) ∧ Below w.heap.size w w' := by
  induction m with
  | zero => intro t u a n c a' n' c' w ok ok' h; have := t.size_pos; omega
  | succ m ih =>
    intro t u a n c a' n' c' w ok ok' hm hT hU
    have hsz := t.size_kids
    have P1 : Below w.heap.size w ((w.alloc (.cells #[.int .i64 t.op, .int .i64 t.num, .slice a n c] 28)).alloc (.cells #[.int .i64 u.op, .int .i64 u.num, .slice a' n' c'] 28)) := (pure_alloc _ _).alloc (by simp) _
    have N1 : ((w.alloc (.cells #[.int .i64 t.op, .int .i64 t.num, .slice a n c] 28)).alloc (.cells #[.int .i64 u.op, .int .i64 u.num, .slice a' n' c'] 28)).heap[w.heap.size]? = some (.cells #[.int .i64 t.op, .int .i64 t.num, .slice a n c] 28 (0, 0)) := alloc_keep (alloc_new _ _)
    have N2 : ((w.alloc (.cells #[.int .i64 t.op, .int .i64 t.num, .slice a n c] 28)).alloc (.cells #[.int .i64 u.op, .int .i64 u.num, .slice a' n' c'] 28)).heap[w.heap.size + 1]? = some (.cells #[.int .i64 u.op, .int .i64 u.num, .slice a' n' c'] 28 (0, 0)) := alloc_new' _ _ _ (by simp)
    have HT := Lib.hid (hT.below P1)
    have HU := Lib.hid (hU.below P1)
    rw [TR_iff] at hT
    have hn := hT.2.1
    have HLN := Lib.hid hT.1
    have HIH := Lib.hid ih
    have HSZ : Hid (Tm.sizes t.kids ≤ m) := by show _ ≤ _; omega
    have HCE := Lib.hid (Tm.contains_eq t u)
    clear hT hU hsz ih hm
    go_enter Tryd.func27, Tryd.ntmps27
    go_upto_region 1 with fail
    generalize ((w.alloc (.cells #[.int .i64 t.op, .int .i64 t.num, .slice a n c] 28)).alloc (.cells #[.int .i64 u.op, .int .i64 u.num, .slice a' n' c'] 28)) = w1 at *
    have HP1 := Lib.hid P1
    have HN1 := Lib.hid N1
    have HN2 := Lib.hid N2
    have x0 := cell_of_arr N1 0
    have x1 := cell_of_arr N1 1
    have x2 := cell_of_arr N1 2
    simp at x0 x1 x2
    have y0 := cell_of_arr N2 0
    have y1 := cell_of_arr N2 1
    have y2 := cell_of_arr N2 2
    simp at y0 y1 y2
    clear P1 N1 N2
    go_wp2_with fail
    refine (compareR_any t.size t u a n c a' n' c' w1 ok ok' (Nat.le_refl _) HT.out HU.out).mono ?_
    rintro e w2 ⟨rfl, hw2⟩
    have HP2 := Lib.hid (pure_trans HP1.out hw2)
    have HT2 := Lib.hid (TR_iff.1 (HT.out.below hw2))
    have HU2 := Lib.hid (HU.out.below hw2)
    have HN1W := Lib.hid (Below.keep hw2 HN1.out (lt_of_block HN1.out))
    have HN2W := Lib.hid (Below.keep hw2 HN2.out (lt_of_block HN2.out))
    clear hw2 x0 x1 x2 y0 y1 y2 HT HU HN1 HN2 HP1
    generalize hcv : Tm.compare t u = cv at *
    have HCV := Lib.hid hcv
    clear hcv
    by_cases hz : cv = 0
    · have hzb : (cv == 0) = true := by simpa using hz
      have HE : Hid (Tm.contains t u = true) := by show _ = _; rw [HCE.out, hzb]; rfl
      clear hz HCE HCV
      go_wp2_with fail
      go_ret
      rw [HE.out]
      exact ⟨rfl, HP2.out⟩
    have hzb : (cv == 0) = false := by simpa using hz
    have HE : Hid (Tm.contains t u = Tm.containsL t.kids u) := by show _ = _; rw [HCE.out, hzb]; rfl
    clear hz HCE HCV
    have N1 := HN1W.out
    have x0 := cell_of_arr N1 0
    have x1 := cell_of_arr N1 1
    have x2 := cell_of_arr N1 2
    simp at x0 x1 x2
    clear N1
    go_wp2_with fail
    clear x0 x1 x2
    go_loopw [14] (fun i W => ∃ j : Nat, i = .int .i64 j ∧ j ≤ n ∧ Tm.containsL t.kids u = Tm.containsL (t.kids.drop j) u ∧ Below w2.heap.size w2 W) (fun i _ => n - (intOf i).toNat)
    case atStart => exact ⟨0, rfl, by omega, rfl, Below.refl _ _⟩
    case round =>
      obtain ⟨j, rfl, hj, hcj, hB⟩ := hrel
      by_cases hjn : j < n
      · have hjl : j < t.kids.length := by have := HLN.out; omega
        obtain ⟨b, o, an, nn, cc, hea, hb, c0, c1, c2, ht⟩ := (HT2.out.below hB).2.2 j hjl
        subst hea
        have PA := pure_alloc wr (.cells #[.int .i64 t.kids[j].op, .int .i64 t.kids[j].num, .slice an nn cc] 28)
        have HEQ := Lib.hid (hcj.trans (Tm.containsL_step hjl u))
        have hk1 : t.kids[j].size ≤ m := Nat.le_trans (Tm.size_get hjl) HSZ.out
        have HCL := Lib.hid (HIH.out t.kids[j] u an nn cc a' n' c' _ ok ok' hk1 (ht.below PA) ((HU2.out.below hB).below PA))
        have N2 := Below.keep hB HN2W.out (lt_of_block HN2W.out)
        have HB := Lib.hid (hB.trans (PA.mono hB.size))
        clear hcj hB ht hk1 PA
        generalize t.kids[j] = k at *
        have y0 := cell_of_arr N2 0
        have y1 := cell_of_arr N2 1
        have y2 := cell_of_arr N2 2
        simp at y0 y1 y2
        clear N2
        have hy : w.heap.size + 1 < wr.heap.size := lt_of_cell y0
        have hlt : (j : Int) < n := by omega
        go_wp2_with fail
        refine HCL.out.mono ?_
        rintro e w5 ⟨rfl, hw5⟩
        have HB5 := Lib.hid (HB.out.trans (hw5.mono HB.out.size))
        clear hw5 y0 y1 y2 c0 c1 c2 HB HCL
        cases hcv : Tm.contains k u
        · rw [hcv] at HEQ
          have HEQ2 := Lib.hid (HEQ.out.trans (Bool.false_or _))
          clear hcv HEQ
          go_wp2_with fail
          go_roundw
          case rel => exact ⟨j + 1, by go_num, by omega, HEQ2.out, HB5.out⟩
          case measure => simp [intOf]; omega
        · rw [hcv] at HEQ
          have HEQ2 := Lib.hid (HEQ.out.trans (Bool.true_or _))
          clear hcv HEQ
          go_wp2_with fail
          go_ret
          rw [HE.out, HEQ2.out]
          exact ⟨rfl, pure_trans HP2.out HB5.out⟩
      · have hjn' : ¬ ((j : Int) < n) := by omega
        have HB := Lib.hid (pure_trans HP2.out hB)
        have HEQ := Lib.hid (hcj.trans (Tm.containsL_end (by have := HLN.out; omega) u))
        clear hB hcj
        go_wp2_with fail
        go_ret
        rw [HE.out, HEQ.out]
        exact ⟨rfl, HB.out⟩
end Go.Proofs.YtkgbjoepjcenlaaDoor
