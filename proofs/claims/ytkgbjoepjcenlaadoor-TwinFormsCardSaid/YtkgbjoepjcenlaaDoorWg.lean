/- The walks of Valid, of shaped and of the reference's Valid. -/
import Derived.Test.YtkgbjoepjcenlaaDoorWf
namespace Go.Proofs.YtkgbjoepjcenlaaDoor
open Go.RowKit
set_option maxHeartbeats 400000 in
theorem valid_any (t : Tm) (a : Option Addr) (n c : Nat) (w : World) (ok : Nat → Prop) (hT : TR ok w t a n) :
    Calls Tryd.prog 18 #[.agg #[.int .i64 t.op, .int .i64 t.num, .slice a n c]] w fun e w' => e = .returned (.bool (Tm.valid t)) ∧ Below w.heap.size w w' := by
  have P1 : Below w.heap.size w ((w.alloc (.cells #[.int .i64 t.op, .int .i64 t.num, .slice a n c] 28)).alloc (.cells #[.int .i64 2000] 3)) := (pure_alloc _ _).alloc (by simp) _
  have N1 : ((w.alloc (.cells #[.int .i64 t.op, .int .i64 t.num, .slice a n c] 28)).alloc (.cells #[.int .i64 2000] 3)).heap[w.heap.size]? = some (.cells #[.int .i64 t.op, .int .i64 t.num, .slice a n c] 28 (0, 0)) := alloc_keep (alloc_new _ _)
  have N2 : ((w.alloc (.cells #[.int .i64 t.op, .int .i64 t.num, .slice a n c] 28)).alloc (.cells #[.int .i64 2000] 3)).heap[w.heap.size + 1]? = some (.cells #[.int .i64 2000] 3 (0, 0)) := alloc_new' _ _ _ (by simp)
  have HT := Lib.hid (((hT.imp (ok' := fun b => b ≠ w.heap.size + 1) fun b _ hl => by omega)).below P1)
  have HV := Lib.hid t.formed_valid
  clear hT
  go_enter Tryd.func18, Tryd.ntmps18
  go_upto_region 2 with fail
  generalize (w.alloc (.cells #[.int .i64 t.op, .int .i64 t.num, .slice a n c] 28)).alloc (.cells #[.int .i64 2000] 3) = w1 at *
  have HP1 := Lib.hid P1
  have HN2 := Lib.hid N2
  have x0 := cell_of_arr N1 0
  have x1 := cell_of_arr N1 1
  have x2 := cell_of_arr N1 2
  simp at x0 x1 x2
  clear P1 N1 N2
  go_wp2_with fail
  refine (formed_any t.size t a n c (w.heap.size + 1) 2000 1 w1 (Nat.le_refl _) HT.out HN2.out (by omega) (by omega) (by omega) (by omega)).mono ?_
  rintro e w2 ⟨rfl, hL, hb⟩
  rw [HV.out]
  have HB2 := Lib.hid (HP1.out.trans (hb.below (B := w.heap.size) (by omega) HP1.out.size))
  clear hL hb x0 x1 x2
  go_wp2_with fail
  go_ret
  exact ⟨rfl, HB2.out⟩
set_option maxHeartbeats 3200000 in
theorem shaped_any (m : Nat) : ∀ (t : Tm) (a : Option Addr) (n c l : Nat) (w : World) (ok : Nat → Prop), t.size ≤ m → TR ok w t a n → l ≤ 1000 →
    Calls Tryd.prog 40 #[.agg #[.int .i64 t.op, .int .i64 t.num, .slice a n c], .int .i64 l] w fun e w' => e = .returned (.bool (Tm.shaped t l)) ∧ Below w.heap.size w w' := by
  induction m with
  | zero => intro t a n c l w ok h; have := t.size_pos; omega
  | succ m ih =>
    intro t a n c l w ok hm hT hl
    have hsz := t.size_kids
    have HS0 := Lib.hid (t.shaped_kids l)
    rw [TR_iff] at hT
    have hn := hT.2.1
    have HLN := Lib.hid hT.1
    have HIH := Lib.hid ih
    have HSZ : Hid (Tm.sizes t.kids ≤ m) := by show _ ≤ _; omega
    have P1 := pure_alloc w (.cells #[.int .i64 t.op, .int .i64 t.num, .slice a n c] 28)
    have N1 := alloc_new w (.cells #[.int .i64 t.op, .int .i64 t.num, .slice a n c] 28)
    have HT := Lib.hid (hT.below P1)
    clear hT hsz ih
    go_enter Tryd.func40, Tryd.ntmps40
    go_upto_region 1 with fail
    generalize (w.alloc (.cells #[.int .i64 t.op, .int .i64 t.num, .slice a n c] 28)) = w1 at *
    have HP1 := Lib.hid P1
    have HN1 := Lib.hid N1
    have x0 := cell_of_arr N1 0
    have x1 := cell_of_arr N1 1
    have x2 := cell_of_arr N1 2
    simp at x0 x1 x2
    clear P1 N1
    cases l with
    | zero =>
      have HE : Hid (Tm.shaped t 0 = false) := by show _ = _; rw [HS0.out]; rfl
      go_quiet (fail)
      go_wp2_with fail
      go_ret
      rw [HE.out]
      exact ⟨rfl, below_drewN HP1.out _⟩
    | succ lv =>
    have hlb : (((lv + 1 : Nat) : Int) == 0) = false := by simp; omega
    have hcast : ((lv + 1 : Nat) : Int) = (lv : Int) + 1 := by omega
    rw [hcast] at hlb ⊢
    clear hcast
    have HS1 : Hid (Tm.shaped t (lv + 1) = (Tm.okN t.op t.num n && Tm.shapedL t.kids lv)) := by show _ = _; rw [HS0.out, HLN.out]; simp
    have HOK : Hid (Tm.okN t.op t.num n = (((n : Int) == Tm.arity t.op) && if t.op == 1 then decide (0 ≤ t.num) && decide (t.num ≤ 1000) else t.num == 0)) := rfl
    clear HS0
    by_cases hK : (n : Int) = Tm.arity t.op
    rotate_left
    · have hKb : ((n : Int) != Tm.arity t.op) = true := by simpa using hK
      have HE : Hid (Tm.shaped t (lv + 1) = false) := by show _ = _; rw [HS1.out, HOK.out]; simp [hK]
      go_quiet ((go_at_call 60; go_must (exact quiet_at (arity_any t.op _) ⟨_, rfl⟩)))
      go_wp2_with fail
      go_ret
      rw [HE.out]
      exact ⟨rfl, below_drewN HP1.out _⟩
    have hKb : ((n : Int) != Tm.arity t.op) = false := by simpa using hK
    by_cases h1 : t.op = 1
    · have h1b : (t.op == 1) = true := by simpa using h1
      have h1c : (t.op != 1) = false := by simpa using h1
      by_cases hp : t.num < 0
      · have HE : Hid (Tm.shaped t (lv + 1) = false) := by
          show _ = _; rw [HS1.out, HOK.out, h1b]; simp; omega
        clear hK h1
        go_quiet ((go_at_call 60; go_must (exact quiet_at (arity_any t.op _) ⟨_, rfl⟩)))
        go_wp2_with fail
        go_ret
        rw [HE.out]
        exact ⟨rfl, below_drewN HP1.out _⟩
      have hpb : decide (t.num < 0) = false := by simpa using hp
      by_cases hq : 1000 < t.num
      · have HE : Hid (Tm.shaped t (lv + 1) = false) := by
          show _ = _; rw [HS1.out, HOK.out, h1b]; simp; omega
        clear hK h1
        go_quiet ((go_at_call 60; go_must (exact quiet_at (arity_any t.op _) ⟨_, rfl⟩)))
        go_wp2_with fail
        go_ret
        rw [HE.out]
        exact ⟨rfl, below_drewN HP1.out _⟩
      have hqb : decide (1000 < t.num) = false := by simpa using hq
      have HEQ0 : Hid (Tm.shaped t (lv + 1) = Tm.shapedL t.kids lv) := by
        show _ = _; rw [HS1.out, HOK.out, h1b]; simp [hK]; omega
      clear hK h1 HS1 HOK
      go_quiet ((go_at_call 60; go_must (exact quiet_at (arity_any t.op _) ⟨_, rfl⟩)))
      clear hpb hqb h1b h1c hKb
      have HP2 := Lib.hid (below_drewN HP1.out nq)
      have HN2 : Hid ((w1.drewN nq).heap[w.heap.size]? = some (.cells #[.int .i64 t.op, .int .i64 t.num, .slice a n c] 28 (0, 0))) := HN1.out
      have HT2 : Hid (TL ok (w1.drewN nq) t.kids a n) := HT.out.keep fun b hb _ => ⟨rfl, hb⟩
      clear x0 x1 x2 HP1 HN1 HT
      generalize w1.drewN nq = w2 at *
      have N2 := HN2.out
      have x0 := cell_of_arr N2 0
      have x1 := cell_of_arr N2 1
      have x2 := cell_of_arr N2 2
      simp at x0 x1 x2
      clear N2
      go_wp2_with fail
      clear x0 x1 x2
      go_loopw [46] (fun i W => ∃ j : Nat, i = .int .i64 j ∧ j ≤ n ∧ Tm.shapedL t.kids lv = Tm.shapedL (t.kids.drop j) lv ∧ Below w2.heap.size w2 W) (fun i _ => n - (intOf i).toNat)
      case atStart => exact ⟨0, rfl, by omega, rfl, Below.refl _ _⟩
      case round =>
        obtain ⟨j, rfl, hj, hcj, hB⟩ := hrel
        by_cases hjn : j < n
        · have hjl : j < t.kids.length := by have := HLN.out; omega
          obtain ⟨b, o, an, nn, cc, hea, hb, c0, c1, c2, ht⟩ := (HT2.out.below hB).2.2 j hjl
          subst hea
          have PA := pure_alloc wr (.cells #[.int .i64 t.kids[j].op, .int .i64 t.kids[j].num, .slice an nn cc] 28)
          have hk1 : t.kids[j].size ≤ m := Nat.le_trans (Tm.size_get hjl) HSZ.out
          have HCL := Lib.hid (HIH.out t.kids[j] an nn cc lv _ ok hk1 (ht.below PA) (by omega))
          have HEQ := Lib.hid (hcj.trans (Tm.shapedL_step hjl lv))
          have HB := Lib.hid (hB.trans (PA.mono hB.size))
          clear hcj hB ht PA hk1
          generalize t.kids[j] = k at *
          have hlt : (j : Int) < n := by omega
          go_wp2_with fail
          refine HCL.out.mono ?_
          rintro e w3 ⟨rfl, hw3⟩
          have HB3 := Lib.hid (HB.out.trans (hw3.mono HB.out.size))
          clear hw3 c0 c1 c2 HCL HB
          cases hr : Tm.shaped k lv
          · rw [hr] at HEQ
            have HE := Lib.hid (HEQ0.out.trans (HEQ.out.trans (Bool.false_and _)))
            clear HEQ hr
            go_wp2_with fail
            go_ret
            rw [HE.out]
            exact ⟨rfl, pure_trans HP2.out HB3.out⟩
          · rw [hr] at HEQ
            have HE := Lib.hid (HEQ.out.trans (Bool.true_and _))
            clear HEQ hr
            go_wp2_with fail
            go_roundw
            case rel => exact ⟨j + 1, by go_num, by omega, HE.out, HB3.out⟩
            case measure => simp [intOf]; omega
        · have hjn' : ¬ ((j : Int) < n) := by omega
          have HE := Lib.hid (HEQ0.out.trans (hcj.trans (Tm.shapedL_end (by have := HLN.out; omega) lv)))
          have HB := Lib.hid (pure_trans HP2.out hB)
          clear hB hcj
          go_wp2_with fail
          go_ret
          rw [HE.out]
          exact ⟨rfl, HB.out⟩
    have h1b : (t.op == 1) = false := by simpa using h1
    have h1c : (t.op != 1) = true := by simpa using h1
    by_cases h0 : t.num = 0
    rotate_left
    · have h0b : (t.num != 0) = true := by simpa using h0
      have HE : Hid (Tm.shaped t (lv + 1) = false) := by
        show _ = _; rw [HS1.out, HOK.out, h1b]; simp [h0]
      clear hK h1 h0
      go_quiet ((go_at_call 60; go_must (exact quiet_at (arity_any t.op _) ⟨_, rfl⟩)))
      go_wp2_with fail
      go_ret
      rw [HE.out]
      exact ⟨rfl, below_drewN HP1.out _⟩
    have h0b : (t.num != 0) = false := by simpa using h0
    have HEQ0 : Hid (Tm.shaped t (lv + 1) = Tm.shapedL t.kids lv) := by
      show _ = _; rw [HS1.out, HOK.out, h1b]; simp [hK, h0]
    clear hK h1 h0 HS1 HOK
    go_quiet ((go_at_call 60; go_must (exact quiet_at (arity_any t.op _) ⟨_, rfl⟩)))
    clear h0b h1b h1c hKb
    have HP2 := Lib.hid (below_drewN HP1.out nq)
    have HN2 : Hid ((w1.drewN nq).heap[w.heap.size]? = some (.cells #[.int .i64 t.op, .int .i64 t.num, .slice a n c] 28 (0, 0))) := HN1.out
    have HT2 : Hid (TL ok (w1.drewN nq) t.kids a n) := HT.out.keep fun b hb _ => ⟨rfl, hb⟩
    clear x0 x1 x2 HP1 HN1 HT
    generalize w1.drewN nq = w2 at *
    have N2 := HN2.out
    have x0 := cell_of_arr N2 0
    have x1 := cell_of_arr N2 1
    have x2 := cell_of_arr N2 2
    simp at x0 x1 x2
    clear N2
    go_wp2_with fail
    clear x0 x1 x2
    go_loopw [46] (fun i W => ∃ j : Nat, i = .int .i64 j ∧ j ≤ n ∧ Tm.shapedL t.kids lv = Tm.shapedL (t.kids.drop j) lv ∧ Below w2.heap.size w2 W) (fun i _ => n - (intOf i).toNat)
    case atStart => exact ⟨0, rfl, by omega, rfl, Below.refl _ _⟩
    case round =>
      obtain ⟨j, rfl, hj, hcj, hB⟩ := hrel
      by_cases hjn : j < n
      · have hjl : j < t.kids.length := by have := HLN.out; omega
        obtain ⟨b, o, an, nn, cc, hea, hb, c0, c1, c2, ht⟩ := (HT2.out.below hB).2.2 j hjl
        subst hea
        have PA := pure_alloc wr (.cells #[.int .i64 t.kids[j].op, .int .i64 t.kids[j].num, .slice an nn cc] 28)
        have hk1 : t.kids[j].size ≤ m := Nat.le_trans (Tm.size_get hjl) HSZ.out
        have HCL := Lib.hid (HIH.out t.kids[j] an nn cc lv _ ok hk1 (ht.below PA) (by omega))
        have HEQ := Lib.hid (hcj.trans (Tm.shapedL_step hjl lv))
        have HB := Lib.hid (hB.trans (PA.mono hB.size))
        clear hcj hB ht PA hk1
        generalize t.kids[j] = k at *
        have hlt : (j : Int) < n := by omega
        go_wp2_with fail
        refine HCL.out.mono ?_
        rintro e w3 ⟨rfl, hw3⟩
        have HB3 := Lib.hid (HB.out.trans (hw3.mono HB.out.size))
        clear hw3 c0 c1 c2 HCL HB
        cases hr : Tm.shaped k lv
        · rw [hr] at HEQ
          have HE := Lib.hid (HEQ0.out.trans (HEQ.out.trans (Bool.false_and _)))
          clear HEQ hr
          go_wp2_with fail
          go_ret
          rw [HE.out]
          exact ⟨rfl, pure_trans HP2.out HB3.out⟩
        · rw [hr] at HEQ
          have HE := Lib.hid (HEQ.out.trans (Bool.true_and _))
          clear HEQ hr
          go_wp2_with fail
          go_roundw
          case rel => exact ⟨j + 1, by go_num, by omega, HE.out, HB3.out⟩
          case measure => simp [intOf]; omega
      · have hjn' : ¬ ((j : Int) < n) := by omega
        have HE := Lib.hid (HEQ0.out.trans (hcj.trans (Tm.shapedL_end (by have := HLN.out; omega) lv)))
        have HB := Lib.hid (pure_trans HP2.out hB)
        clear hB hcj
        go_wp2_with fail
        go_ret
        rw [HE.out]
        exact ⟨rfl, HB.out⟩
set_option maxHeartbeats 400000 in
theorem validR_any (t : Tm) (a : Option Addr) (n c : Nat) (w : World) (ok : Nat → Prop) (hT : TR ok w t a n) (hsz : t.size ≤ 1000000000) :
    Calls Tryd.prog 19 #[.agg #[.int .i64 t.op, .int .i64 t.num, .slice a n c]] w fun e w' => e = .returned (.bool (Tm.valid t)) ∧ Below w.heap.size w w' := by
  have P1 := pure_alloc w (.cells #[.int .i64 t.op, .int .i64 t.num, .slice a n c] 28)
  have N1 := alloc_new w (.cells #[.int .i64 t.op, .int .i64 t.num, .slice a n c] 28)
  have HT := Lib.hid (hT.below P1)
  have HV : Hid (Tm.valid t = (decide (t.size ≤ 2000) && Tm.shaped t 40)) := rfl
  clear hT
  go_enter Tryd.func19, Tryd.ntmps19
  go_upto_region 1 with fail
  generalize (w.alloc (.cells #[.int .i64 t.op, .int .i64 t.num, .slice a n c] 28)) = w1 at *
  have HP1 := Lib.hid P1
  have HN1 := Lib.hid N1
  have x0 := cell_of_arr N1 0
  have x1 := cell_of_arr N1 1
  have x2 := cell_of_arr N1 2
  simp at x0 x1 x2
  clear P1 N1
  go_wp2_with fail
  refine (sizeR_any t.size t a n c w1 ok (Nat.le_refl _) HT.out hsz).mono ?_
  rintro e w2 ⟨rfl, hw2⟩
  have HP2 := Lib.hid (pure_trans HP1.out hw2)
  have HT2 := Lib.hid (HT.out.below hw2)
  have N2 := Below.keep hw2 HN1.out (lt_of_block HN1.out)
  clear hw2 x0 x1 x2
  have x0 := cell_of_arr N2 0
  have x1 := cell_of_arr N2 1
  have x2 := cell_of_arr N2 2
  simp at x0 x1 x2
  clear N2
  by_cases hs : t.size ≤ 2000
  · have HE : Hid (Tm.valid t = Tm.shaped t 40) := by show _ = _; rw [HV.out]; simp [hs]
    have hs' : decide (((t.size : Nat) : Int) ≤ 2000) = true := by simp; omega
    have HSH := Lib.hid (shaped_any t.size t a n c 40 w2 ok (Nat.le_refl _) HT2.out (by omega))
    generalize t.size = sz at *
    go_wp2_with fail
    refine HSH.out.mono ?_
    rintro e w3 ⟨rfl, hw3⟩
    have HP3 := Lib.hid (pure_trans HP2.out hw3)
    clear hw3
    go_wp2_with fail
    go_ret
    rw [HE.out]
    exact ⟨rfl, HP3.out⟩
  · have HE : Hid (Tm.valid t = false) := by show _ = _; rw [HV.out]; simp [hs]
    have hs' : decide (((t.size : Nat) : Int) ≤ 2000) = false := by simp; omega
    generalize t.size = sz at *
    go_wp2_with fail
    go_ret
    rw [HE.out]
    exact ⟨rfl, HP2.out⟩
end Go.Proofs.YtkgbjoepjcenlaaDoor
