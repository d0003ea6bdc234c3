/- The walk of Steps. -/
import Derived.Test.YtnfjfifdkmgbdaaWj
namespace Go.Proofs.Ytnfjfifdkmgbdaa
open Go.RowKit

theorem writes_len (page : Int) (n : Nat) (r : List UInt8) : (Fl.writes page n r).length = r.length := by
  unfold Fl.writes
  have : ∀ (l : List UInt8) (b : Int) i, (Fl.writesFrom page b l i).length = l.length := by
    intro l b
    induction l with
    | nil => intro i; rfl
    | cons x l ih => intro i; simp [Fl.writesFrom, ih]
  exact this _ _ _
theorem copies_len (p : List UInt8) (N : Nat) (key v next : Int) : ∀ f k n, (Fl.copies p N key v next f k n).1.length ≤ 8 * f
  | 0, k, n => by simp [Fl.copies]
  | f + 1, k, n => by
    unfold Fl.copies
    split
    · have := copies_len p N key v next f (k + 1) (n + 1)
      have h2 := record_len k (Fl.copyAt p N key v k).1
      simp only [List.length_append, writes_len]; omega
    · have := copies_len p N key v next f (k + 1) n; omega
theorem stepsP_len (m : Fl.Mem) (key v : Int) : (Fl.stepsP m key v).length ≤ 200 := by
  unfold Fl.stepsP
  split
  · have := record_len key v; rw [writes_len]; omega
  · unfold Fl.stepsMove Fl.moved
    have h1 := record_len 240 ((Fl.newest m).2 + 1)
    have h2 := record_len 241 ((Fl.newest m).2 + 1)
    have h3 := copies_len (Fl.cur m) (Fl.N m) key v (Fl.nextOf m) 16 0 1
    have h4 : (Fl.eraseSteps m).length ≤ 1 := by unfold Fl.eraseSteps; split <;> simp
    simp only [List.length_append, writes_len]; omega

def argsOk (key v : Int) : Bool := decide (0 ≤ key) && decide (key ≤ 15) && decide (0 ≤ v) && decide (v ≤ 1099511627775)
/-- What Steps answers: the number of steps, and the error. -/
def stepsRes (m : Fl.Mem) (key v : Int) : Int × Int :=
  if Fl.validP m && argsOk key v then (if wornP m (Fl.stepsP m key v) then (0, 35) else ((((Fl.stepsP m key v).length : Nat) : Int), (0 : Int))) else (0, 1)

set_option maxHeartbeats 1600000 in
theorem steps_any (sz : Int) (pa : Option Addr) (pn pc : Nat) (ea : Option Addr) (en ec : Nat) (key v : Int) (m : Fl.Mem) (w : World) (h : FRep w sz pa pn ea en m) :
    Calls Try.prog 21 #[.agg #[.int .i64 sz, .slice pa pn pc, .slice ea en ec], .int .i64 key, .int .i64 v] w fun e w' => e = .returned (.tuple #[.int .i64 (stepsRes m key v).1, .int .i64 (stepsRes m key v).2]) ∧ Below w.heap.size w w' := by
  have HF := Lib.hid h
  have P1 := pure_alloc w (.cells #[.int .i64 sz, .slice pa pn pc, .slice ea en ec] 32)
  have H1 := Lib.hid (h.below P1)
  have R0 : Hid (stepsRes m key v = if Fl.validP m && argsOk key v then (if wornP m (Fl.stepsP m key v) then (0, 35) else ((((Fl.stepsP m key v).length : Nat) : Int), (0 : Int))) else (0, 1)) := rfl
  clear h P1
  go_enter Try.func21, Try.ntmps21
  go_wp2_with fail
  refine (valid_any _ _ _ _ _ _ _ _ _ H1.out).mono ?_
  rintro e w2 ⟨rfl, hw2⟩
  have HW2 := Lib.hid (pure_trans (pure_alloc w _) hw2)
  have HX := Lib.hid (Below.keep hw2 (alloc_new w (.cells #[.int .i64 sz, .slice pa pn pc, .slice ea en ec] 32)) (by simp))
  clear hw2 H1
  cases hv : Fl.validP m
  · have R1 : Hid (stepsRes m key v = (0, 1)) := by show _ = _; rw [R0.out, hv]; rfl
    go_wp2_with fail
    go_ret2
    exact ⟨by rw [R1.out]; rfl, HW2.out⟩
  by_cases hargs : 0 ≤ key ∧ key ≤ 15 ∧ 0 ≤ v ∧ v ≤ 1099511627775
  rotate_left
  · have R1 : Hid (stepsRes m key v = (0, 1)) := by
      show _ = _
      rw [R0.out, if_neg]
      simp [argsOk]
      omega
    by_cases g1 : 0 ≤ key
    · by_cases g2 : key ≤ 15
      · by_cases g3 : 0 ≤ v
        · have g4 : ¬ v ≤ 1099511627775 := by omega
          clear hargs
          go_wp2_with fail
          go_ret2
          exact ⟨by rw [R1.out]; rfl, HW2.out⟩
        · clear hargs
          go_wp2_with fail
          go_ret2
          exact ⟨by rw [R1.out]; rfl, HW2.out⟩
      · clear hargs
        go_wp2_with fail
        go_ret2
        exact ⟨by rw [R1.out]; rfl, HW2.out⟩
    · clear hargs
      go_wp2_with fail
      go_ret2
      exact ⟨by rw [R1.out]; rfl, HW2.out⟩
  obtain ⟨g1, g2, g3, g4⟩ := hargs
  have R1 : Hid (stepsRes m key v = if wornP m (Fl.stepsP m key v) then (0, 35) else ((((Fl.stepsP m key v).length : Nat) : Int), (0 : Int))) := by
    show _ = _
    rw [R0.out, if_pos (by simp [hv, argsOk, g1, g2, g3, g4])]
  have V := vfacts hv
  obtain ⟨s1, s2, s3⟩ := V.size
  rw [← HF.out.size] at s1 s2 s3
  have x0 := cell_of_arr HX.out 0
  have x1 := cell_of_arr HX.out 1
  have x2 := cell_of_arr HX.out 2
  simp at x0 x1 x2
  have xl := lt_of_block HX.out
  have HVV := Lib.hid V
  have HV := Lib.hid hv
  clear R0 V hv
  go_wp2_with fail
  have y1 := alloc_keep (o' := .cells #[.bool false] 4) (alloc_new w2 (.cells #[.int .i64 0] 3))
  have y2 := alloc_new' (w2.alloc (.cells #[.int .i64 0] 3)) (.cells #[.bool false] 4) (w2.heap.size + 1) (by simp)
  have y3 := alloc_keep (o' := .cells #[.bool false] 4) (alloc_keep (o' := .cells #[.int .i64 0] 3) HX.out)
  have P3 : Below w.heap.size w ((w2.alloc (.cells #[.int .i64 0] 3)).alloc (.cells #[.bool false] 4)) := (HW2.out.alloc HW2.out.size _).alloc (by simp; have := HW2.out.size; omega) _
  have hz3 : ((w2.alloc (.cells #[.int .i64 0] 3)).alloc (.cells #[.bool false] 4)).heap.size = w2.heap.size + 2 := by simp
  generalize ((w2.alloc (.cells #[.int .i64 0] 3)).alloc (.cells #[.bool false] 4)) = w3 at *
  have bl2 := HW2.out.size
  refine (newest_any _ _ _ _ _ _ _ _ _ (HF.out.below P3) (by omega) (by omega)).mono ?_
  rintro e w4 ⟨rfl, hw4⟩
  have Y1 := Lib.hid (Below.keep hw4 y1 (by omega))
  have Y2 := Lib.hid (Below.keep hw4 y2 (by omega))
  have Y3 := Lib.hid (Below.keep hw4 y3 (by omega))
  have HP4 := Lib.hid (pure_trans P3 hw4)
  have hz4 := hw4.size
  have z0 := cell_of_arr Y3.out 0
  have z1 := cell_of_arr Y3.out 1
  have z2 := cell_of_arr Y3.out 2
  simp at z0 z1 z2
  clear y1 y2 y3 P3 hw4 x0 x1 x2
  have hl3 := lt_of_block Y3.out
  go_wp2_with fail
  have t1 := alloc_keep (o' := .cells #[.int .i64 (Fl.newest m).2] 3) (alloc_keep (o' := .cells #[.int .i64 (Fl.newest m).1] 3) Y1.out)
  have t2 := alloc_keep (o' := .cells #[.int .i64 (Fl.newest m).2] 3) (alloc_keep (o' := .cells #[.int .i64 (Fl.newest m).1] 3) Y2.out)
  have t3 := alloc_keep (o' := .cells #[.int .i64 (Fl.newest m).2] 3) (alloc_keep (o' := .cells #[.int .i64 (Fl.newest m).1] 3) Y3.out)
  have t4 := alloc_keep (o' := .cells #[.int .i64 (Fl.newest m).2] 3) (alloc_new w4 (.cells #[.int .i64 (Fl.newest m).1] 3))
  have t5 := alloc_new' (w4.alloc (.cells #[.int .i64 (Fl.newest m).1] 3)) (.cells #[.int .i64 (Fl.newest m).2] 3) (w4.heap.size + 1) (by simp)
  have P5 : Below w.heap.size w ((w4.alloc (.cells #[.int .i64 (Fl.newest m).1] 3)).alloc (.cells #[.int .i64 (Fl.newest m).2] 3)) := (HP4.out.alloc HP4.out.size _).alloc (by simp; have := HP4.out.size; omega) _
  generalize ((w4.alloc (.cells #[.int .i64 (Fl.newest m).1] 3)).alloc (.cells #[.int .i64 (Fl.newest m).2] 3)) = w5 at *
  have SB : SBox m #[.int .i64 sz, .slice pa pn pc, .slice ea en ec] ea en w.heap.size w2.heap.size (w2.heap.size + 1) w4.heap.size (w4.heap.size + 1) [] w5 := ⟨by rw [t1]; simp [wrap64], t2, t3, t4, t5, HF.out.erased.below P5⟩
  have hl1 := lt_of_block Y1.out
  have hl2 := lt_of_block Y2.out
  have hea : ∀ b o, ea = some ⟨b, o, none⟩ → b < w.heap.size := fun b o e => by
    obtain ⟨b', o', e1, e2, _⟩ := HF.out.erased.2.2 0 (by have := HF.out.erased.1; have := HVV.out.lens; have := HVV.out.pages; omega)
    rw [e] at e1
    simp only [Option.some.injEq, Addr.mk.injEq, and_true] at e1
    obtain ⟨rfl, rfl⟩ := e1
    exact lt_of_cell e2
  have hSW : SWf w.heap.size w2.heap.size (w2.heap.size + 1) w5 := ⟨by omega, by omega, lt_of_block t1, lt_of_block t2⟩
  have hlens : en = pn := by have := HF.out.erased.1; have := HF.out.pages.1; have := HVV.out.lens; omega
  refine (steps_c (sIface w.heap.size w2.heap.size (w2.heap.size + 1)) (SBox m #[.int .i64 sz, .slice pa pn pc, .slice ea en ec] ea en w.heap.size w2.heap.size (w2.heap.size + 1) w4.heap.size (w4.heap.size + 1)) (fun _ _ _ hs hb => hs.pure hb) _ _ _ _ _ sz pa pn pc ea en ec m key v w w5 HF.out HV.out rfl P5
    (fun pre s W hj hwf hok => count_any m sz pa pn pc ea en ec w.heap.size w.heap.size w2.heap.size (w2.heap.size + 1) w4.heap.size (w4.heap.size + 1) (by omega) (by omega) (by omega) (by omega) (by omega) (by omega) (by omega) HVV.out.gen hlens pre s W hok hj hwf hea) SB hSW g1 g2 g3 g4).mono ?_
  rintro e w6 ⟨rfl, hj6, hk6⟩
  have P6 := Lib.hid (P5.trans (hk6.below (sIface w.heap.size w2.heap.size (w2.heap.size + 1)) hSW P5.size))
  have cw := cell_of_arr hj6.bw 0
  have cn := cell_of_arr hj6.bn 0
  simp at cw cn
  have hsl := stepsP_len m key v
  rw [show wrap64 (((Fl.stepsP m key v).length : Nat) : Int) = ((Fl.stepsP m key v).length : Nat) by unfold wrap64; omega] at cn
  clear hj6 hk6 SB hSW hea t1 t2 t3 t4 t5 P5 hlens z0 z1 z2
  cases hwo : wornP m (Fl.stepsP m key v)
  · rw [hwo] at cw
    go_wp2_with fail
    go_ret2
    exact ⟨by rw [R1.out, hwo]; rfl, P6.out⟩
  · rw [hwo] at cw
    go_wp2_with fail
    go_ret2
    exact ⟨by rw [R1.out, hwo]; rfl, P6.out⟩
end Go.Proofs.Ytnfjfifdkmgbdaa
