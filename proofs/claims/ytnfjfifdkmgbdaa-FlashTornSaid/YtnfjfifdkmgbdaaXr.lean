/- The walk of FlashTorn. -/
import Derived.Test.YtnfjfifdkmgbdaaXq
namespace Go.Proofs.Ytnfjfifdkmgbdaa
open Go.RowKit Go.Shelf
/-- What is asked of a torn write. -/
structure TL (m mq : Fl.Mem) (key v s n : Int) : Prop where
  valid : Fl.validP mq = true
  rest : ∀ i, i ≠ key → Fl.getP mq i = Fl.getP m i
  own : (Fl.getP mq key = Fl.getP m key ∧ s ≠ n) ∨ Fl.getP mq key = (v, true)
theorem torn_tl {m : Fl.Mem} {key v s : Int} (h : (stepsRes m key v).2 = 0) (h0 : 0 ≤ s) (h1 : s ≤ (stepsRes m key v).1) : (Fl.tornP m key v s).2 = 0 ∧ TL m (Fl.tornP m key v s).1 key v s (stepsRes m key v).1 := by
  obtain ⟨q1, q2, q3, q4, q5⟩ := Fl.stepsRes_zero h
  have ht : Fl.tornP m key v s = (Fl.runs m ((Fl.stepsP m key v).take s.toNat), 0) := by
    unfold Fl.tornP
    rw [if_neg (by simpa using h), if_neg (by omega)]
  rw [ht]
  have law := Fl.torn_law q1 q2 q3 q4 s.toNat
  refine ⟨rfl, law.1.valid, law.1.rest, ?_⟩
  by_cases hn : s = (stepsRes m key v).1
  · right; exact law.2 (by omega)
  · rcases law.1.own with h | h
    · exact .inl ⟨h, hn⟩
    · exact .inr h
theorem steps_pos {m : Fl.Mem} {key v : Int} (h : (stepsRes m key v).2 = 0) : 1 ≤ (stepsRes m key v).1 ∧ (stepsRes m key v).1 ≤ 200 := by
  obtain ⟨q1, q2, q3, q4, q5⟩ := Fl.stepsRes_zero h
  have := stepsP_len m key v
  have hp : 1 ≤ (Fl.stepsP m key v).length := by
    cases hst : Fl.stays m
    · rw [Fl.stepsP_move q1 q3 hst, List.length_append, Fl.writes_length, Fl.recsB_length]
      have := Fl.moveL_length m key v
      omega
    · rw [Fl.stepsP_stay q2 q3 hst, Fl.writes_length, Fl.full_length]; omega
  omega
theorem steps_err {m : Fl.Mem} {key v : Int} (hm : Fl.validP m = true) (hk : 0 ≤ key ∧ key ≤ 15) (hv : 0 ≤ v ∧ v ≤ 1099511627775) (h : (stepsRes m key v).2 ≠ 0) : (stepsRes m key v).2 = 35 := by
  rw [Fl.stepsRes_ok hm hk hv] at h ⊢
  cases hw : wornP m (Fl.stepsP m key v)
  · rw [hw] at h; simp at h
  · rfl
set_option maxRecDepth 100000 in
set_option maxHeartbeats 3200000 in
theorem torn_law_any (a : Option Addr) (len cap : Nat) (l : List Int) (key0 v0 k0 : Int) (w : World) (h : Is w a len l) :
    Calls Try.prog 4 #[.slice a len cap, .int .i64 key0, .int .i64 v0, .int .i64 k0] w fun e w' => e = .returned (.bool true) ∧ Below w.heap.size w w' := by
  have HD := Lib.hid (Deck.made (cap := cap) h)
  have P1 := Lib.hid (pure_alloc w (.cells #[.slice a len cap, .int .i64 0] 69))
  clear h
  obtain ⟨key, hkey, hk1, hk2⟩ : ∃ key : Int, key0 % 16 = key ∧ 0 ≤ key ∧ key ≤ 15 := ⟨_, rfl, by omega, by omega⟩
  obtain ⟨v, hv, hv1, hv2⟩ : ∃ v : Int, v0 % 1099511627776 = v ∧ 0 ≤ v ∧ v ≤ 1099511627775 := ⟨_, rfl, by omega, by omega⟩
  have HKEY := Lib.hid hkey
  have HVE := Lib.hid hv
  clear hkey hv
  go_enter Try.func4, Try.ntmps4
  go_wp2_with fail
  refine (new_any a len cap w).mono ?_
  rintro e w1 ⟨rfl, rfl⟩
  have hs1 : (w.alloc (.cells #[.slice a len cap, .int .i64 0] 69)).heap.size = w.heap.size + 1 := by simp
  generalize w.alloc (.cells #[.slice a len cap, .int .i64 0] 69) = w1 at *
  have HS1 := Lib.hid hs1
  clear hs1
  go_wp2_with fail
  refine (mkflash_any w.heap.size w1 HD.out).mono ?_
  rintro e w2 ⟨sz, pa, pn, pc, ea, en, ec, m, rfl, hF, hval, hbut⟩
  have HP2 := Lib.hid (P1.out.trans (hbut.below (B := w.heap.size) (Nat.le_refl _) (by have := HS1.out; omega)))
  have PX := pure_alloc w2 (.cells #[.int .i64 sz, .slice pa pn pc, .slice ea en ec] 32)
  have NX := alloc_new w2 (.cells #[.int .i64 sz, .slice pa pn pc, .slice ea en ec] 32)
  have HF3 := Lib.hid (hF.below PX)
  have HP3 := Lib.hid (pure_trans HP2.out PX)
  have HVAL := Lib.hid hval
  clear hF hval hbut HD P1 HS1
  go_upto_region 2 with fail
  generalize w2.alloc (.cells #[.int .i64 sz, .slice pa pn pc, .slice ea en ec] 32) = w3 at *
  have hX := lt_of_block NX
  have x0 := cell_of_arr NX 0
  have x1 := cell_of_arr NX 1
  have x2 := cell_of_arr NX 2
  simp at x0 x1 x2
  have HNX := Lib.hid NX
  clear PX NX
  generalize w2.heap.size = X at *
  go_upto_region 3 with (go_at_call 12; refine (mod_any _ _ _ (by omega) (by omega)).mono ?_; rintro e w2 ⟨rfl, rfl⟩)
  rw [HKEY.out, HVE.out]
  go_wp2_with fail
  refine (steps_any sz pa pn pc ea en ec key v m w3 HF3.out).mono ?_
  rintro e w4 ⟨rfl, hw4⟩
  have HP4 := Lib.hid (pure_trans HP3.out hw4)
  have HF4 := Lib.hid (HF3.out.below hw4)
  have X4 := Below.keep hw4 HNX.out hX
  clear hw4 x0 x1 x2 HNX HF3 HP3
  by_cases he : (stepsRes m key v).2 = 0
  rotate_left
  · rw [steps_err HVAL.out ⟨hk1, hk2⟩ ⟨hv1, hv2⟩ he]
    generalize (stepsRes m key v).1 = n at *
    clear he X4
    go_wp2_with fail
    refine (awake_any _).mono ?_
    rintro e w5 ⟨rfl, hw5⟩
    have HP5 := Lib.hid (pure_trans HP4.out hw5)
    clear hw5
    go_wp2_with fail
    go_ret
    exact ⟨rfl, HP5.out⟩
  have hn := steps_pos he
  have HTL : Hid (∀ s, 0 ≤ s → s ≤ (stepsRes m key v).1 → (Fl.tornP m key v s).2 = 0 ∧ TL m (Fl.tornP m key v s).1 key v s (stepsRes m key v).1) := by
    show ∀ s, _ → _ → _
    exact fun s h0 h1 => torn_tl he h0 h1
  rw [he]
  clear he
  generalize (stepsRes m key v).1 = n at *
  obtain ⟨hn1, hn2⟩ := hn
  have r0 := Int.emod_nonneg k0 (show n + 1 ≠ 0 by omega)
  have r1 := Int.emod_lt_of_pos k0 (show 0 < n + 1 by omega)
  have hX4 := lt_of_block X4
  have HX4 := Lib.hid X4
  clear X4
  go_upto_region 7 with (go_at_call 12; refine (mod_any _ _ _ (by omega) (by omega)).mono ?_; rintro e w2 ⟨rfl, rfl⟩)
  generalize k0 % (n + 1) = s0 at *
  have PA := pure_alloc w4 (.cells #[.int .i64 s0, .int .i64 0, .int .i64 n, .int .i64 (n - 1)] 3)
  have NA := alloc_new w4 (.cells #[.int .i64 s0, .int .i64 0, .int .i64 n, .int .i64 (n - 1)] 3)
  have HX5 := Lib.hid (Below.keep PA HX4.out hX4)
  have HF5 := Lib.hid (HF4.out.below PA)
  have HP5 := Lib.hid (pure_trans HP4.out PA)
  generalize w4.alloc (.cells #[.int .i64 s0, .int .i64 0, .int .i64 n, .int .i64 (n - 1)] 3) = w5 at *
  have CE : Hid (∀ j, j < 4 → ∀ W : World, Below w5.heap.size w5 W → ∃ s : Int, W.cell? ⟨w4.heap.size, j, none⟩ = some (.int .i64 s) ∧ 0 ≤ s ∧ s ≤ n) := by
    show ∀ j, j < 4 → ∀ W : World, _ → _
    intro j hj W hW
    have hc := fun i => cell_of_arr (Below.keep hW NA (lt_of_block NA)) i
    rcases (show j = 0 ∨ j = 1 ∨ j = 2 ∨ j = 3 by omega) with rfl | rfl | rfl | rfl
    · exact ⟨s0, by rw [hc]; rfl, by omega, by omega⟩
    · exact ⟨0, by rw [hc]; rfl, by omega, by omega⟩
    · exact ⟨n, by rw [hc]; rfl, by omega, by omega⟩
    · exact ⟨n - 1, by rw [hc]; rfl, by omega, by omega⟩
  clear PA NA HX4 HF4 HP4 hX4
  generalize w4.heap.size = bl at *
  go_wp2_with fail
  go_loopw [53] (fun i W => ∃ j : Nat, i = .int .i64 j ∧ j ≤ 4 ∧ Below w5.heap.size w5 W) (fun i _ => 4 - (intOf i).toNat)
  case atStart => exact ⟨0, rfl, by omega, Below.refl _ _⟩
  case round =>
    obtain ⟨j, rfl, hj, hB⟩ := hrel
    by_cases hj4 : j < 4
    · obtain ⟨s, cs, hs0, hs1⟩ := CE.out j hj4 wr hB
      have Xr := Below.keep hB HX5.out (lt_of_block HX5.out)
      have x0 := cell_of_arr Xr 0
      have x1 := cell_of_arr Xr 1
      have x2 := cell_of_arr Xr 2
      simp at x0 x1 x2
      have HTN := Lib.hid (torn_any sz pa pn pc ea en ec key v s m wr (HF5.out.below hB))
      have HTS := Lib.hid (HTL.out s hs0 hs1)
      have HXr := Lib.hid Xr
      have HFr := Lib.hid (HF5.out.below hB)
      have HB := Lib.hid hB
      have hj4' : (j : Int) < 4 := by omega
      clear hB Xr
      go_wp2_with fail
      refine HTN.out.mono ?_
      rintro e w6 ⟨sz2, pa2, pn2, pc2, ea2, en2, ec2, rfl, hF2, hw6⟩
      generalize Fl.tornP m key v s = tq at *
      obtain ⟨mq, eq⟩ := tq
      obtain ⟨ht1, ht2⟩ := HTS.out
      dsimp only at ht1 ht2 hF2 ⊢
      subst ht1
      have HT := Lib.hid ht2
      have PY := pure_alloc w6 (.cells #[.int .i64 sz2, .slice pa2 pn2 pc2, .slice ea2 en2 ec2] 32)
      have NY := alloc_new w6 (.cells #[.int .i64 sz2, .slice pa2 pn2 pc2, .slice ea2 en2 ec2] 32)
      have HG7 := Lib.hid ((hF2 w6 (fun _ _ => rfl)).below PY)
      have HF7 := Lib.hid ((HFr.out.below hw6).below PY)
      have HB7 := Lib.hid ((HB.out.trans (hw6.mono HB.out.size)).trans (PY.mono (Nat.le_trans HB.out.size hw6.size)))
      have HX7 := Lib.hid (Below.keep PY (Below.keep hw6 HXr.out (lt_of_block HXr.out)) (Nat.lt_of_lt_of_le (lt_of_block HXr.out) hw6.size))
      have HY7 := Lib.hid NY
      clear hw6 hF2 ht2 HTN HTS PY NY HFr HXr HB x0 x1 x2 cs
      go_upto_region 10 with fail
      generalize w6.alloc (.cells #[.int .i64 sz2, .slice pa2 pn2 pc2, .slice ea2 en2 ec2] 32) = w7 at *
      generalize w6.heap.size = Y at *
      have y0 := cell_of_arr HY7.out 0
      have y1 := cell_of_arr HY7.out 1
      have y2 := cell_of_arr HY7.out 2
      simp at y0 y1 y2
      go_wp2_with fail
      refine (valid_any sz2 pa2 pn2 pc2 ea2 en2 ec2 mq w7 HG7.out).mono ?_
      rintro e w8 ⟨rfl, hw8⟩
      rw [HT.out.valid]
      have HG8 := Lib.hid (HG7.out.below hw8)
      have HF8 := Lib.hid (HF7.out.below hw8)
      have HB8 := Lib.hid (HB7.out.trans (hw8.mono HB7.out.size))
      have HX8 := Lib.hid (Below.keep hw8 HX7.out (lt_of_block HX7.out))
      have HY8 := Lib.hid (Below.keep hw8 HY7.out (lt_of_block HY7.out))
      clear hw8 HG7 HF7 HB7 HX7 HY7 y0 y1 y2
      go_wp2_with fail
      go_loopw [16] (fun x W => ∃ i : Nat, x = .int .i64 i ∧ i ≤ 16 ∧ Below w8.heap.size w8 W) (fun x _ => 16 - (intOf x).toNat)
      case atStart => exact ⟨0, rfl, by omega, Below.refl _ _⟩
      case round =>
        obtain ⟨i, rfl, hi, hB⟩ := hrel
        by_cases hi16 : i < 16
        · have Xr := Below.keep hB HX8.out (lt_of_block HX8.out)
          have Yr := Below.keep hB HY8.out (lt_of_block HY8.out)
          have x0 := cell_of_arr Xr 0
          have x1 := cell_of_arr Xr 1
          have x2 := cell_of_arr Xr 2
          simp at x0 x1 x2
          have HYr := Lib.hid Yr
          have HGr := Lib.hid (HG8.out.below hB)
          have HGE := Lib.hid (get_any sz pa pn pc ea en ec i m wr (HF8.out.below hB))
          have HB := Lib.hid hB
          have hi' : (i : Int) < 16 := by omega
          clear hB Xr Yr
          go_wp2_with fail
          refine HGE.out.mono ?_
          rintro e w9 ⟨rfl, hw9⟩
          have Yr := Below.keep hw9 HYr.out (lt_of_block HYr.out)
          have HG9 := Lib.hid (HGr.out.below hw9)
          have HB9 := Lib.hid (HB.out.trans (hw9.mono HB.out.size))
          clear hw9 HGE HGr HYr HB x0 x1 x2
          have y0 := cell_of_arr Yr 0
          have y1 := cell_of_arr Yr 1
          have y2 := cell_of_arr Yr 2
          simp at y0 y1 y2
          clear Yr
          go_wp2_with fail
          refine (get_any sz2 pa2 pn2 pc2 ea2 en2 ec2 i mq w9 HG9.out).mono ?_
          rintro e w10 ⟨rfl, hw10⟩
          have HB10 := Lib.hid (HB9.out.trans (hw10.mono HB9.out.size))
          have hrest := HT.out.rest i
          have hown := HT.out.own
          clear hw10 HB9 HG9 y0 y1 y2
          by_cases hik : (i : Int) = key
          · rw [← hik] at hown
            have hikb : ((i : Int) == key) = true := by simpa using hik
            clear hik hrest
            generalize Fl.getP mq i = g2 at *
            generalize Fl.getP m i = g1 at *
            obtain ⟨a1, ok1⟩ := g1
            obtain ⟨b1, is1⟩ := g2
            rcases hown with ⟨ho, hsn⟩ | ho
            · obtain ⟨rfl, rfl⟩ := Prod.mk.injEq .. ▸ ho
              have hsnb : (s == n) = false := by simpa using hsn
              clear ho hsn
              dsimp only
              cases is1 <;> cases hav : (b1 == v)
              all_goals
                go_wp2_with fail
                go_roundw
                case rel => exact ⟨i + 1, by go_num, by omega, HB10.out⟩
                case measure => simp [intOf]; omega
            · obtain ⟨rfl, rfl⟩ := Prod.mk.injEq .. ▸ ho
              clear ho
              dsimp only
              cases ok1 <;> cases hav : (a1 == b1) <;> cases hsn : (s == n)
              all_goals
                go_wp2_with fail
                go_roundw
                case rel => exact ⟨i + 1, by go_num, by omega, HB10.out⟩
                case measure => simp [intOf]; omega
          · have hikb : ((i : Int) == key) = false := by simpa using hik
            rw [hrest hik]
            clear hik hrest hown
            generalize Fl.getP m i = g1 at *
            obtain ⟨a1, ok1⟩ := g1
            dsimp only
            cases ok1 <;> cases hsn : (s == n)
            all_goals
              go_wp2_with fail
              go_roundw
              case rel => exact ⟨i + 1, by go_num, by omega, HB10.out⟩
              case measure => simp [intOf]; omega
        · have HB := Lib.hid (HB8.out.trans (hB.mono HB8.out.size))
          have hi' : ¬ ((i : Int) < 16) := by omega
          clear hB
          go_wp2_with fail
          go_roundw
          case rel => exact ⟨j + 1, by go_num, by omega, HB.out⟩
          case measure => simp [intOf]; omega
    · have HB := Lib.hid (pure_trans HP5.out hB)
      have hj4' : ¬ ((j : Int) < 4) := by omega
      clear hB
      go_wp2_with fail
      refine (awake_any _).mono ?_
      rintro e w6 ⟨rfl, hw6⟩
      have HP6 := Lib.hid (pure_trans HB.out hw6)
      clear hw6
      go_wp2_with fail
      go_ret
      exact ⟨rfl, HP6.out⟩
end Go.Proofs.Ytnfjfifdkmgbdaa
