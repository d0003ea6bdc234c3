/- The walk of TwinForms. -/
import Derived.Test.YtkgbjoepjcenlaaDoorFe
namespace Go.Proofs.YtkgbjoepjcenlaaDoor
open Go.RowKit
theorem cmp_same (t : Tm) (a : Option Addr) (n c : Nat) (a' : Option Addr) (n' c' : Nat) (w : World) {ok ok' : Nat → Prop} (h : TR ok w t a n) (h' : TR ok' w t a' n') : Calls Tryd.prog 22 #[.agg #[.int .i64 t.op, .int .i64 t.num, .slice a n c], .agg #[.int .i64 t.op, .int .i64 t.num, .slice a' n' c']] w fun e w' => e = .returned (.int .i64 0) ∧ Below w.heap.size w w' :=
  (compareR_any t.size t t a n c a' n' c' w _ _ (Nat.le_refl _) h h').mono fun e w' ⟨he, hb⟩ => ⟨by rw [he, Tm.compare_self], hb⟩
theorem is_below {w w' : World} {a : Option Addr} {n : Nat} {l : List Int} (h : Is w a n l) (k : Below w.heap.size w w') : Is w' a n l :=
  ⟨h.1, h.2.1, fun i hi => by
    obtain ⟨b, o, e, hc, h1, h2⟩ := h.2.2 i hi
    exact ⟨b, o, e, (k.cell (p := ⟨b, o + i, none⟩) (lt_of_cell hc)).trans hc, h1, h2⟩⟩
theorem light_size {t : Tm} (h : lightB t = true) : t.size ≤ 300 := by
  unfold lightB at h
  have h1 : 0 ≤ Tm.nodesP t 300 := by simpa using h
  have := Tm.nodesP_eq t 300 h1
  omega
def DLoop (w4 : World) (b q7 : Nat) (i : Value) (W : World) : Prop := ∃ j : Nat, j ≤ 41 ∧ i = .int .i64 j ∧ (∃ a n c, W.heap[q7]? = some (.cells #[.int .i64 (Tm.hashN j).op, .int .i64 (Tm.hashN j).num, .slice a n c] 28 (0, 0)) ∧ TR (fun k => q7 < k) W (Tm.hashN j) a n ∧ n ≤ c) ∧ Deck W b ∧ But b w4 W
set_option maxHeartbeats 4000000 in
set_option maxRecDepth 100000 in
theorem forms_any (raw : Tm) (ra : Option Addr) (rn rc : Nat) (la : Option Addr) (ln lc : Nat) (ll : List Int) (w : World) (hT : TR (fun _ => True) w raw ra rn) (hn : rn ≤ rc) (hI : Is w la ln ll) (hE : Env w) :
    Calls Tryd.prog 4 #[.agg #[.int .i64 raw.op, .int .i64 raw.num, .slice ra rn rc], .slice la ln lc] w fun e w' => e = .returned (.bool true) ∧ Below w.heap.size w w' := by
  have P1 := pure_alloc w (.cells #[.int .i64 raw.op, .int .i64 raw.num, .slice ra rn rc] 28)
  have HN1 := Lib.hid (alloc_new w (.cells #[.int .i64 raw.op, .int .i64 raw.num, .slice ra rn rc] 28))
  have HT1 := Lib.hid ((hT.imp (ok' := fun k => k < w.heap.size) fun k _ hl => hl).below P1)
  have HI1 := Lib.hid (is_below hI P1)
  have HE := Lib.hid hE
  have HP1 := Lib.hid P1
  clear P1 hT hI hE
  go_enter Tryd.func4, Tryd.ntmps4
  go_upto_region 1 with fail
  generalize (w.alloc (.cells #[.int .i64 raw.op, .int .i64 raw.num, .slice ra rn rc] 28)) = w1 at *
  have x0 := cell_of_arr HN1.out 0
  have x1 := cell_of_arr HN1.out 1
  have x2 := cell_of_arr HN1.out 2
  simp at x0 x1 x2
  go_wp2_with fail
  refine (light_any raw ra rn rc w1 _ HT1.out).mono ?_
  rintro e w2 ⟨rfl, hw2⟩
  have HP2 := Lib.hid (pure_trans HP1.out hw2)
  have HN2 := Lib.hid (Below.keep hw2 HN1.out (lt_of_block HN1.out))
  have HT2 := Lib.hid (HT1.out.below hw2)
  have HI2 := Lib.hid (is_below HI1.out hw2)
  clear hw2 x0 x1 x2 HN1 HT1 HI1 HP1
  cases hl : lightB raw with
  | false =>
    clear hl
    go_wp2_with fail
    refine (awake_any w2 (HE.out.below HP2.out)).mono ?_
    rintro e w3 ⟨rfl, hw3⟩
    have HP3 := Lib.hid (pure_trans HP2.out hw3)
    clear hw3
    go_wp2_with fail
    go_ret
    exact ⟨rfl, HP3.out⟩
  | true =>
    have HSR : Hid (raw.size ≤ 300) := light_size hl
    clear hl
    go_wp2_with fail
    refine (new_any la ln lc w2).mono ?_
    rintro e w3 ⟨rfl, rfl⟩
    have HD3 := Lib.hid (Deck.made (cap := lc) HI2.out)
    have P3 := pure_alloc w2 (.cells #[.slice la ln lc, .int .i64 0] 57)
    have HP3 := Lib.hid (pure_trans HP2.out P3)
    have HN3 := Lib.hid (Below.keep P3 HN2.out (lt_of_block HN2.out))
    have HT3 := Lib.hid (HT2.out.below P3)
    have hwb : w.heap.size < w2.heap.size := lt_of_block HN2.out
    go_upto_region 4 with fail
    generalize (w2.alloc (.cells #[.slice la ln lc, .int .i64 0] 57)) = w3 at *
    obtain ⟨b, hb⟩ : ∃ b, b = w2.heap.size := ⟨_, rfl⟩
    rw [← hb] at HD3 hwb ⊢
    clear hb P3 HT2 HN2 HP2 HI2
    have x0 := cell_of_arr HN3.out 0
    have x1 := cell_of_arr HN3.out 1
    have x2 := cell_of_arr HN3.out 2
    simp at x0 x1 x2
    go_wp2_with fail
    refine (sides_any raw ra rn rc b w3 HD3.out (HT3.out.imp fun k hk _ => by have h1 : k < w.heap.size := hk; omega) hn).mono ?_
    rintro e w4 ⟨t, t2, t3, g, rfl, hs1, hs2, hs3, hTL, hD4, hB4⟩
    have HTL4 := Lib.hid hTL
    have HB4 := Lib.hid hB4
    have HSS : Hid (∀ q ∈ [raw, t, .mk (raw.op % 9) raw.num [t, t2], t3], q.size ≤ 1000) := by
      show ∀ q ∈ _, _
      have h1 := Tm.size_len t 5 hs1
      have h2 := Tm.size_len t2 3 hs2
      have h3 := Tm.size_len t3 4 hs3
      have h4 := HSR.out
      intro q hq
      simp only [List.mem_cons, List.not_mem_nil, or_false] at hq
      rcases hq with rfl | rfl | rfl | rfl
      · omega
      · omega
      · simp only [Tm.size, Tm.sizes]; omega
      · omega
    have HD4 := Lib.hid hD4
    clear hTL hD4 hB4 hs1 hs2 hs3 x0 x1 x2 HN3 HT3 HD3 HSR
    generalize hls : [raw, t, .mk (raw.op % 9) raw.num [t, t2], t3] = ls at *
    have hll : ls.length = 4 := by rw [← hls]; rfl
    have HLL := Lib.hid hll
    clear hls hll
    go_wp2_with fail
    refine (name_any 100 w4).mono ?_
    rintro e w5 ⟨rfl, hw5⟩
    have P6 := pure_alloc w5 (.cells #[.int .i64 1, .int .i64 100, .slice none 0 0] 28)
    have HB6 := Lib.hid (But.of_below (b := b) (pure_trans hw5 P6))
    have HD6 := Lib.hid (HD4.out.below (pure_trans hw5 P6))
    have HN6 := Lib.hid (alloc_new w5 (.cells #[.int .i64 1, .int .i64 100, .slice none 0 0] 28))
    have hq7 : w4.heap.size ≤ w5.heap.size := hw5.size
    have hbq : b < w4.heap.size := HD4.out.lt
    clear P6 hw5 HD4
    go_upto_region 6 with fail
    generalize (w5.alloc (.cells #[.int .i64 1, .int .i64 100, .slice none 0 0] 28)) = w6 at *
    generalize w5.heap.size = q7 at *
    go_wp2_with fail
    go_loopw [8] (fun i W => DLoop w4 b q7 i W) (fun i _ => 50 - (intOf i).toNat)
    case atStart => exact ⟨0, by omega, rfl, ⟨none, 0, 0, HN6.out, TR_iff.2 (TL.nil _ _ _), Nat.le_refl _⟩, HD6.out, HB6.out⟩
    case round =>
      obtain ⟨j, hj, rfl, ⟨ha, hn7, hc7, hc, hTh, hnc⟩, hD, hB⟩ := hrel
      go_wp2_with fail
      refine (next_any b 6 wr hD (by omega) (by omega)).mono ?_
      rintro e w7 ⟨r, hr0, hr6, rfl, hD7, hB7, hsz⟩
      clear hsz
      have hc' : w7.heap[q7]? = some (.cells #[.int .i64 (Tm.hashN j).op, .int .i64 (Tm.hashN j).num, .slice ha hn7 hc7] 28 (0, 0)) := (hB7.block _ (lt_of_block hc) (by omega)).trans hc
      have hT7 : TR (fun k => q7 < k) w7 (Tm.hashN j) ha hn7 := hTh.keep fun k hk hl => ⟨hB7.block k hl (by have h1 : q7 < k := hk; omega), hk⟩
      have HB7 := Lib.hid (hB.trans hB7)
      have HD7 := Lib.hid hD7
      have HT7 := Lib.hid hT7
      have HC7 := Lib.hid hc'
      clear hc hTh hD hB hD7 hB7 hT7
      have y0 := cell_of_arr hc' 0
      have y1 := cell_of_arr hc' 1
      have y2 := cell_of_arr hc' 2
      simp at y0 y1 y2
      have f0 := frozen_of_arr hc' 0
      have f1 := frozen_of_arr hc' 1
      have f2 := frozen_of_arr hc' 2
      clear hc'
      by_cases hlt : (j : Int) < 36 + r
      · have hj40 : j ≤ 40 := by omega
        have hq77 : q7 < w7.heap.size := lt_of_block HC7.out
        have HX : Hid (∀ i : Value, i = .int .i64 ((j + 1 : Nat) : Int) → DLoop w4 b q7 i ((((w7.setCell ⟨q7, 0, none⟩ (.int .i64 3)).setCell ⟨q7, 1, none⟩ (.int .i64 0)).setCell ⟨q7, 2, none⟩ (.slice (some ⟨w7.heap.size, 0, none⟩) 1 1)).alloc (.cells #[.int .i64 (Tm.hashN j).op, .int .i64 (Tm.hashN j).num, .slice ha hn7 hc7] 28))) := by
          show ∀ i : Value, _ → _
          intro i hi
          obtain ⟨S1, S2, S3⟩ := put3 HC7.out (.int .i64 3) (.int .i64 0) (.slice (some ⟨w7.heap.size, 0, none⟩) 1 1) _ rfl
          have hsz : (((w7.setCell ⟨q7, 0, none⟩ (.int .i64 3)).setCell ⟨q7, 1, none⟩ (.int .i64 0)).setCell ⟨q7, 2, none⟩ (.slice (some ⟨w7.heap.size, 0, none⟩) 1 1)).heap.size = w7.heap.size := by simp [World.setCell]
          have PA := pure_alloc (((w7.setCell ⟨q7, 0, none⟩ (.int .i64 3)).setCell ⟨q7, 1, none⟩ (.int .i64 0)).setCell ⟨q7, 2, none⟩ (.slice (some ⟨w7.heap.size, 0, none⟩) 1 1)) (.cells #[.int .i64 (Tm.hashN j).op, .int .i64 (Tm.hashN j).num, .slice ha hn7 hc7] 28)
          have hN := alloc_new' (((w7.setCell ⟨q7, 0, none⟩ (.int .i64 3)).setCell ⟨q7, 1, none⟩ (.int .i64 0)).setCell ⟨q7, 2, none⟩ (.slice (some ⟨w7.heap.size, 0, none⟩) 1 1)) (.cells #[.int .i64 (Tm.hashN j).op, .int .i64 (Tm.hashN j).num, .slice ha hn7 hc7] 28) w7.heap.size hsz.symm
          refine ⟨j + 1, by omega, hi, ⟨_, 1, 1, Below.keep PA S1 (by rw [hsz]; exact hq77), TR_iff.2 ⟨rfl, by omega, fun i hi => ?_⟩, Nat.le_refl _⟩, (HD7.out.keep fun k hk => S2 k (by omega)).below PA, ?_⟩
          · have hi1 : i < 1 := hi
            obtain rfl : i = 0 := by omega
            exact ⟨w7.heap.size, 0, ha, hn7, hc7, rfl, ⟨hq77, hnc⟩, cell_of_arr hN 0, cell_of_arr hN 1, cell_of_arr hN 2, (HT7.out.keep fun k hk _ => ⟨S2 k (by have h1 : q7 < k := hk; omega), hk⟩).below PA⟩
          · exact ((((HB7.out).setNew (by show w4.heap.size ≤ q7; omega) _).setNew (by show w4.heap.size ≤ q7; omega) _).setNew (by show w4.heap.size ≤ q7; omega) _).trans (But.of_below PA)
        have hq78 : ¬ q7 = w7.heap.size := by omega
        have hq79 : ¬ w7.heap.size = q7 := by omega
        clear HB7 HD7 HT7 HC7
        go_wp2_with fail
        go_roundw
        case rel => exact HX.out _ (by go_num)
        case measure => simp [intOf]; omega
      have hge : ¬ ((j : Int) < 36 + r) := hlt
      have HB := HB7
      clear hge
      -- the row of five
      have PC := pure_alloc w7 (.cells #[.int .i64 (Tm.hashN j).op, .int .i64 (Tm.hashN j).num, .slice ha hn7 hc7] 28)
      have HTL8 : Hid (TL (fun k => k ≠ b) (w7.alloc (.cells #[.int .i64 (Tm.hashN j).op, .int .i64 (Tm.hashN j).num, .slice ha hn7 hc7] 28)) ls (some ⟨g, 0, none⟩) 4) := (HTL4.out.keep fun k hk hl => HB7.out.ne k hk hl).below PC
      obtain ⟨h5, cap5, w9, hrun, hTL5, hR9⟩ := append5 (b := b) HLL.out HTL8.out (by have := HB7.out.size; have := PC.size; omega) (alloc_new w7 (.cells #[.int .i64 (Tm.hashN j).op, .int .i64 (Tm.hashN j).num, .slice ha hn7 hc7] 28)) ((HT7.out.below PC).imp fun k hk _ => by have h1 : q7 < k := hk; omega) hnc
      have HB9 := Lib.hid ((HB7.out.trans (But.of_below PC)).trans (But.of_below hR9))
      have HD9 := Lib.hid ((HD7.out.below PC).below hR9)
      have HS9 := Lib.hid (HTL8.out.below hR9)
      have HT9 := Lib.hid hTL5
      have HZ9 : Hid (∀ q ∈ ls ++ [Tm.hashN j], q.size ≤ 1000) := by
        show ∀ q ∈ _, _
        intro q hq
        rcases List.mem_append.1 hq with hq | hq
        · exact HSS.out q hq
        · simp at hq; subst hq; rw [Tm.hashN_size]; omega
      have HL5 : Hid ((ls ++ [Tm.hashN j]).length = 5) := by show _ = _; rw [List.length_append, HLL.out]; rfl
      have HBW : Hid (∀ W : World, But b w9 W → Below w.heap.size w W) := by
        show ∀ W : World, _ → _
        intro W hW
        have h1 : But b w3 W := (HB4.out.trans HB9.out).trans hW
        exact HP3.out.trans (h1.below (by omega) HP3.out.size)
      clear PC HTL8 hTL5 hR9 HB7 HD7 HT7 HC7 HB HTL4 HB4 HB6 HD6 HN6 HB9
      generalize ls ++ [Tm.hashN j] = l5 at *
      go_wp2_with (refine wpList_app rfl _ _ 23 rfl rfl rfl hrun ?_; clear hrun)
      clear y0 y1 y2 f0 f1 f2 hlt
      go_loopw [42] (fun i W => ∃ k : Nat, i = .int .i64 k ∧ k ≤ 5 ∧ Deck W b ∧ But b w9 W) (fun i _ => 5 - (intOf i).toNat)
      case atStart => exact ⟨0, rfl, by omega, HD9.out, But.refl _ _⟩
      case round =>
        obtain ⟨k, rfl, hk, hDk, hBk⟩ := hrel
        by_cases hk5 : k < 5
        · have hkl : k < l5.length := by have := HL5.out; omega
          obtain ⟨eb, eo, en, nn, cc, hea, hok, c0, c1, c2, ht⟩ := (HT9.out.keep fun q hq hl => hBk.ne q hq hl).2.2 k hkl
          cases hea
          simp only [Nat.zero_add] at c0 c1 c2
          have HSZ : Hid (l5[k].size ≤ 1000) := HZ9.out _ (List.getElem_mem hkl)
          have PA := pure_alloc wr (.cells #[.int .i64 l5[k].op, .int .i64 l5[k].num, .slice en nn cc] 28)
          have NA := Lib.hid (alloc_new wr (.cells #[.int .i64 l5[k].op, .int .i64 l5[k].num, .slice en nn cc] 28))
          have HTA := Lib.hid (ht.below PA)
          have HDA := Lib.hid (hDk.below PA)
          have HBA := Lib.hid (hBk.trans (But.of_below PA))
          have hqb : wr.heap.size ≠ b := by have := hDk.lt; omega
          have hnc2 := hok.2
          clear ht PA hDk hBk hok
          generalize l5[k] = a at *
          have hlt5 : (k : Int) < 5 := by omega
          go_upto_region 13 with fail
          generalize (wr.alloc (.cells #[.int .i64 a.op, .int .i64 a.num, .slice en nn cc] 28)) = wa at *
          generalize wr.heap.size = q10 at *
          clear c0 c1 c2
          have x0 := cell_of_arr NA.out 0
          have x1 := cell_of_arr NA.out 1
          have x2 := cell_of_arr NA.out 2
          simp at x0 x1 x2
          go_wp2_with fail
          refine (normT_all a en nn cc wa _ HTA.out (by have := HSZ.out; omega)).mono ?_
          rintro e wb ⟨xa, xn, xc, rfl, ⟨hTx, hxc⟩, hwb2⟩
          have PB := pure_alloc wb (.cells #[.int .i64 (Tm.nmv a).op, .int .i64 (Tm.nmv a).num, .slice xa xn xc] 28)
          have hRB := RB.trans _ _ _ hwb2 PB
          have NB := Lib.hid (Below.keep hRB NA.out (lt_of_block NA.out))
          have NX := Lib.hid (alloc_new wb (.cells #[.int .i64 (Tm.nmv a).op, .int .i64 (Tm.nmv a).num, .slice xa xn xc] 28))
          have hblt := HDA.out.lt
          have HTX : Hid (TR (fun q => q ≠ b) (wb.alloc (.cells #[.int .i64 (Tm.nmv a).op, .int .i64 (Tm.nmv a).num, .slice xa xn xc] 28)) (Tm.nmv a) xa xn) := (hTx.below PB).imp fun q hq _ => by have h1 : wa.heap.size ≤ q := hq; omega
          have HTB := Lib.hid (HTA.out.below hRB)
          have HDB := Lib.hid (HDA.out.below hRB)
          have HBB := Lib.hid (HBA.out.trans (But.of_below hRB))
          have hq11 : wb.heap.size ≠ b := by have := hwb2.size; omega
          clear PB hRB NA hTx hwb2 HTA HDA HBA x0 x1 x2 hblt
          go_upto_region 14 with fail
          generalize (wb.alloc (.cells #[.int .i64 (Tm.nmv a).op, .int .i64 (Tm.nmv a).num, .slice xa xn xc] 28)) = wc at *
          generalize wb.heap.size = q11 at *
          have x0 := cell_of_arr NB.out 0
          have x1 := cell_of_arr NB.out 1
          have x2 := cell_of_arr NB.out 2
          simp at x0 x1 x2
          go_wp2_with fail
          refine (normR_all a en nn cc wc _ HTB.out (by have := HSZ.out; omega)).mono ?_
          rintro e wd ⟨ya, yn, yc, rfl, ⟨hTy, hyc⟩, hwd⟩
          have PD := pure_alloc wd (.cells #[.int .i64 (Tm.nmv a).op, .int .i64 (Tm.nmv a).num, .slice ya yn yc] 28)
          have hRD := RB.trans _ _ _ hwd PD
          have hblt := HDB.out.lt
          have hq13 : wd.heap.size ≠ b := by have := hwd.size; omega
          have HGS : Hid (GS b [(wd.heap.size, Tm.nmv a), (q11, Tm.nmv a), (q10, a)] (wd.alloc (.cells #[.int .i64 (Tm.nmv a).op, .int .i64 (Tm.nmv a).num, .slice ya yn yc] 28))) := by
            refine ⟨HDB.out.below hRD, fun p hp => ?_⟩
            simp only [List.mem_cons, List.not_mem_nil, or_false] at hp
            rcases hp with rfl | rfl | rfl
            · exact ⟨hq13, ya, yn, yc, alloc_new _ _, (hTy.below PD).imp fun q hq _ => by have h1 : wc.heap.size ≤ q := hq; omega, hyc⟩
            · exact ⟨hq11, xa, xn, xc, Below.keep hRD NX.out (lt_of_block NX.out), HTX.out.below hRD, hxc⟩
            · exact ⟨hqb, en, nn, cc, Below.keep hRD NB.out (lt_of_block NB.out), HTB.out.below hRD, hnc2⟩
          have HBD := Lib.hid (HBB.out.trans (But.of_below hRD))
          clear PD hRD hTy hwd NB NX HTX HTB HDB HBB x0 x1 x2 hblt
          go_upto_region 15 with fail
          generalize (wd.alloc (.cells #[.int .i64 (Tm.nmv a).op, .int .i64 (Tm.nmv a).num, .slice ya yn yc] 28)) = we at *
          generalize wd.heap.size = q13 at *
          have HEW : Hid (∀ W : World, But b we W → Env W) := by
            show ∀ W : World, _ → _
            exact fun W hW => HE.out.below (HBW.out W (HBD.out.trans hW))
          refine region_s (M := 30) [.tm a, .eq (.bool (Tm.valid a)), .tm a, .eq (.bool (Tm.valid a)), .eq (.bool false), .eq (.bool false), .tm a, .eq (.int .i64 (a.size : Nat)), .tm a, .eq (.int .i64 (a.size : Nat)), .eq (.bool false), .eq (.bool false), .eq (.bool false), .eq (.int .i64 (Tm.ner a)), .eq (.int .i64 (Tm.ner a)), .eq (.bool false), .eq (.bool false), .eq (.bool false), .tm (Tm.nmv a), .tm (Tm.nmv a), .eq (.int .i64 0), .eq (.bool false), .eq (.bool false), .eq (.bool false), .tm a, .eq (Str (Tm.prt a)), .tm a, .eq (Str (Tm.prt a)), .eq (.bool false), .eq (.bool false)] (by kernel_rfl) (by kernel_rfl) HGS.out ?_ ?_
          · refine ⟨fun vs W hR hG hd => ?_, fun vs W hR hG hd => ?_, fun vs W hR hG hd => ?_, fun vs W hR hG hd => ?_, fun vs W hR hG hd => ?_, fun vs W hR hG hd => ?_, fun vs W hR hG hd => ?_, fun vs W hR hG hd => ?_, fun vs W hR hG hd => ?_, fun vs W hR hG hd => ?_, fun vs W hR hG hd => ?_, fun vs W hR hG hd => ?_, fun vs W hR hG hd => ?_, fun vs W hR hG hd => ?_, fun vs W hR hG hd => ?_, fun vs W hR hG hd => ?_, fun vs W hR hG hd => ?_, fun vs W hR hG hd => ?_, fun vs W hR hG hd => ?_, fun vs W hR hG hd => ?_, fun vs W hR hG hd => ?_, fun vs W hR hG hd => ?_, fun vs W hR hG hd => ?_, fun vs W hR hG hd => ?_, fun vs W hR hG hd => ?_, fun vs W hR hG hd => ?_, fun vs W hR hG hd => ?_, fun vs W hR hG hd => ?_, fun vs W hR hG hd => ?_, fun vs W hR hG hd => ?_, trivial⟩
            · exact s_load hG (.tmp 10) q10 a (by simp) rfl (by kernel_rfl)
            · obtain ⟨a0, n0, c0, e0, T0, l0⟩ := hd 0 (by decide); exact s_pure hG 18 #[.tmp 56] _ rfl (by kernel_rfl) (vals := #[vs 0]) (by kernel_rfl) (cf 18 _ Tryd.func18 (by kernel_rfl) (by kernel_rfl) _) (by rw [e0]; exact valid_any a a0 n0 c0 W _ T0)
            · exact s_load hG (.tmp 10) q10 a (by simp) rfl (by kernel_rfl)
            · obtain ⟨a0, n0, c0, e0, T0, l0⟩ := hd 2 (by decide); exact s_pure hG 19 #[.tmp 58] _ rfl (by kernel_rfl) (vals := #[vs 2]) (by kernel_rfl) (cf 19 _ Tryd.func19 (by kernel_rfl) (by kernel_rfl) _) (by rw [e0]; exact validR_any a a0 n0 c0 W _ T0 (by have := HSZ.out; omega))
            · exact s_neqB hG (.tmp 57) (.tmp 59) ((Tm.valid a)) rfl (hd 1 (by decide)) (hd 3 (by decide))
            · exact Rg.Does.move (.tmp 60) rfl ⟨But.refl _ _, hG, hd 4 (by decide)⟩
            · refine ⟨fun _ => ?_, fun hg => absurd (hd 5 (by decide)) hg⟩
              exact s_load hG (.tmp 10) q10 a (by simp) rfl (by kernel_rfl)
            · refine ⟨fun _ => ?_, fun hg => absurd (hd 5 (by decide)) hg⟩
              obtain ⟨a0, n0, c0, e0, T0, l0⟩ := hd 6 (by decide); exact s_pure hG 20 #[.tmp 62] _ rfl (by kernel_rfl) (vals := #[vs 6]) (by kernel_rfl) (cf 20 _ Tryd.func20 (by kernel_rfl) (by kernel_rfl) _) (by rw [e0]; exact size_any a.size a a0 n0 c0 W _ (Nat.le_refl _) T0 (by have := HSZ.out; omega))
            · refine ⟨fun _ => ?_, fun hg => absurd (hd 5 (by decide)) hg⟩
              exact s_load hG (.tmp 10) q10 a (by simp) rfl (by kernel_rfl)
            · refine ⟨fun _ => ?_, fun hg => absurd (hd 5 (by decide)) hg⟩
              obtain ⟨a0, n0, c0, e0, T0, l0⟩ := hd 8 (by decide); exact s_pure hG 21 #[.tmp 64] _ rfl (by kernel_rfl) (vals := #[vs 8]) (by kernel_rfl) (cf 21 _ Tryd.func21 (by kernel_rfl) (by kernel_rfl) _) (by rw [e0]; exact sizeR_any a.size a a0 n0 c0 W _ (Nat.le_refl _) T0 (by have := HSZ.out; omega))
            · refine ⟨fun _ => ?_, fun hg => absurd (hd 5 (by decide)) hg⟩
              exact s_neqI hG (.tmp 63) (.tmp 65) ((a.size : Nat)) rfl (hd 7 (by decide)) (hd 9 (by decide))
            · exact s_pick hG (.tmp 61) (.const (.bool true)) (.tmp 66) rfl (hd 5 (by decide)) (hd 10 (by decide))
            · exact Rg.Does.move (.tmp 67) rfl ⟨But.refl _ _, hG, hd 11 (by decide)⟩
            · refine ⟨fun _ => ?_, fun hg => absurd (hd 12 (by decide)) hg⟩
              exact Rg.Does.move (.tmp 12) rfl ⟨But.refl _ _, hG, show _ = _ by kernel_rfl⟩
            · refine ⟨fun _ => ?_, fun hg => absurd (hd 12 (by decide)) hg⟩
              exact Rg.Does.move (.tmp 14) rfl ⟨But.refl _ _, hG, show _ = _ by kernel_rfl⟩
            · refine ⟨fun _ => ?_, fun hg => absurd (hd 12 (by decide)) hg⟩
              exact s_neqE hG (.tmp 69) (.tmp 70) ((Tm.ner a)) rfl (hd 13 (by decide)) (hd 14 (by decide))
            · exact s_pick hG (.tmp 68) (.const (.bool true)) (.tmp 71) rfl (hd 12 (by decide)) (hd 15 (by decide))
            · exact Rg.Does.move (.tmp 72) rfl ⟨But.refl _ _, hG, hd 16 (by decide)⟩
            · refine ⟨fun _ => ?_, fun hg => absurd (hd 17 (by decide)) hg⟩
              exact s_load hG (.tmp 11) q11 (Tm.nmv a) (by simp) rfl (by kernel_rfl)
            · refine ⟨fun _ => ?_, fun hg => absurd (hd 17 (by decide)) hg⟩
              exact s_load hG (.tmp 13) q13 (Tm.nmv a) (by simp) rfl (by kernel_rfl)
            · refine ⟨fun _ => ?_, fun hg => absurd (hd 17 (by decide)) hg⟩
              obtain ⟨a0, n0, c0, e0, T0, l0⟩ := hd 18 (by decide); obtain ⟨a1, n1, c1, e1, T1, l1⟩ := hd 19 (by decide); exact s_pure hG 22 #[.tmp 74, .tmp 75] _ rfl (by kernel_rfl) (vals := #[vs 18, vs 19]) (by kernel_rfl) (cf 22 _ Tryd.func22 (by kernel_rfl) (by kernel_rfl) _) (by rw [e0, e1]; exact cmp_same (Tm.nmv a) a0 n0 c0 a1 n1 c1 W T0 T1)
            · refine ⟨fun _ => ?_, fun hg => absurd (hd 17 (by decide)) hg⟩
              exact s_neqI hG (.tmp 76) (.const (.int .i64 0)) (0) rfl (hd 20 (by decide)) (by kernel_rfl)
            · exact s_pick hG (.tmp 73) (.const (.bool true)) (.tmp 77) rfl (hd 17 (by decide)) (hd 21 (by decide))
            · exact Rg.Does.move (.tmp 78) rfl ⟨But.refl _ _, hG, hd 22 (by decide)⟩
            · refine ⟨fun _ => ?_, fun hg => absurd (hd 23 (by decide)) hg⟩
              exact s_load hG (.tmp 10) q10 a (by simp) rfl (by kernel_rfl)
            · refine ⟨fun _ => ?_, fun hg => absurd (hd 23 (by decide)) hg⟩
              obtain ⟨a0, n0, c0, e0, T0, l0⟩ := hd 24 (by decide); exact s_pure hG 23 #[.tmp 80] _ rfl (by kernel_rfl) (vals := #[vs 24]) (by kernel_rfl) (cf 23 _ Tryd.func23 (by kernel_rfl) (by kernel_rfl) _) (by rw [e0]; exact print_all a a0 n0 c0 W _ T0 (by have := HSZ.out; omega) (HEW.out W hR))
            · refine ⟨fun _ => ?_, fun hg => absurd (hd 23 (by decide)) hg⟩
              exact s_load hG (.tmp 10) q10 a (by simp) rfl (by kernel_rfl)
            · refine ⟨fun _ => ?_, fun hg => absurd (hd 23 (by decide)) hg⟩
              obtain ⟨a0, n0, c0, e0, T0, l0⟩ := hd 26 (by decide); exact s_pure hG 24 #[.tmp 82] _ rfl (by kernel_rfl) (vals := #[vs 26]) (by kernel_rfl) (cf 24 _ Tryd.func24 (by kernel_rfl) (by kernel_rfl) _) (by rw [e0]; exact printR_all a a0 n0 c0 W _ T0 (by have := HSZ.out; omega) (HEW.out W hR))
            · refine ⟨fun _ => ?_, fun hg => absurd (hd 23 (by decide)) hg⟩
              exact s_neqS hG (.tmp 81) (.tmp 83) _ rfl (hd 25 (by decide)) (hd 27 (by decide))
            · exact s_pick hG (.tmp 79) (.const (.bool true)) (.tmp 84) rfl (hd 23 (by decide)) (hd 28 (by decide))
          intro vs wf hRf hGf hf
          have e29 : vs 29 = .bool false := hf 29 (by decide)
          have HBf := Lib.hid (HBD.out.trans hRf)
          have HGf := Lib.hid hGf
          clear hRf hGf hf HBD HGS HEW
          simp only [Rg.putAll, Rg.putFrom, List.take_succ_cons, List.take_zero, List.drop_succ_cons, List.drop_zero, Act.put, List.setIfInBounds_toArray, List.set_cons_zero, List.set_cons_succ, e29]
          clear e29
          go_wp2_with fail
          have HGq : Hid (GS b [(q10, a)] wf) := ⟨HGf.out.deck, fun p hp => HGf.out.var p (by simp at hp; subst hp; simp)⟩
          clear HGf
          obtain ⟨wo, rfl⟩ : ∃ wo : World, wo = wf := ⟨_, rfl⟩
          go_loopw [88] (fun i W => ∃ m : Nat, i = .int .i64 m ∧ m ≤ 4 ∧ GS b [(q10, a)] W ∧ But b w9 W) (fun i _ => 4 - (intOf i).toNat)
          case atStart => exact ⟨0, rfl, by omega, HGq.out, HBf.out⟩
          case round =>
            obtain ⟨m, rfl, hm, hGm, hBm⟩ := hrel
            by_cases hm4 : m < 4
            · have hml : m < ls.length := by have := HLL.out; omega
              obtain ⟨eb, eo, un, uu, uc, hea, hok, c0, c1, c2, hu⟩ := (HS9.out.keep fun q hq hl => hBm.ne q hq hl).2.2 m hml
              cases hea
              simp only [Nat.zero_add] at c0 c1 c2
              have PA := pure_alloc wr (.cells #[.int .i64 ls[m].op, .int .i64 ls[m].num, .slice un uu uc] 28)
              have hqu : wr.heap.size ≠ b := by have := hGm.deck.lt; omega
              have HGS : Hid (GS b [(wr.heap.size, ls[m]), (q10, a)] (wr.alloc (.cells #[.int .i64 ls[m].op, .int .i64 ls[m].num, .slice un uu uc] 28))) := by
                refine ⟨hGm.deck.below PA, fun p hp => ?_⟩
                rcases List.mem_cons.1 hp with rfl | hp
                · exact ⟨hqu, un, uu, uc, alloc_new _ _, hu.below PA, hok.2⟩
                · exact (hGm.pure PA).2.var p hp
              have HBA := Lib.hid (hBm.trans (But.of_below PA))
              clear PA hGm hBm hok hu
              generalize ls[m] = u at *
              have hlt4 : (m : Int) < 4 := by omega
              go_upto_region 20 with fail
              generalize (wr.alloc (.cells #[.int .i64 u.op, .int .i64 u.num, .slice un uu uc] 28)) = wa at *
              generalize wr.heap.size = q16 at *
              clear c0 c1 c2
              refine region_s (M := 16) [.tm a, .tm u, .eq (.int .i64 (Tm.compare a u)), .tm a, .tm u, .eq (.int .i64 (Tm.compare a u)), .eq (.bool false), .eq (.bool false), .tm a, .tm u, .eq (.bool (Tm.contains a u)), .tm a, .tm u, .eq (.bool (Tm.contains a u)), .eq (.bool false), .eq (.bool false)] (by kernel_rfl) (by kernel_rfl) HGS.out ?_ ?_
              · refine ⟨fun vs W hR hG hd => ?_, fun vs W hR hG hd => ?_, fun vs W hR hG hd => ?_, fun vs W hR hG hd => ?_, fun vs W hR hG hd => ?_, fun vs W hR hG hd => ?_, fun vs W hR hG hd => ?_, fun vs W hR hG hd => ?_, fun vs W hR hG hd => ?_, fun vs W hR hG hd => ?_, fun vs W hR hG hd => ?_, fun vs W hR hG hd => ?_, fun vs W hR hG hd => ?_, fun vs W hR hG hd => ?_, fun vs W hR hG hd => ?_, fun vs W hR hG hd => ?_, trivial⟩
                · exact s_load hG (.tmp 10) q10 a (by simp) rfl (by kernel_rfl)
                · exact s_load hG (.tmp 16) q16 u (by simp) rfl (by kernel_rfl)
                · obtain ⟨a0, n0, c0, e0, T0, l0⟩ := hd 0 (by decide); obtain ⟨a1, n1, c1, e1, T1, l1⟩ := hd 1 (by decide); exact s_pure hG 25 #[.tmp 92, .tmp 93] _ rfl (by kernel_rfl) (vals := #[vs 0, vs 1]) (by kernel_rfl) (cf 25 _ Tryd.func25 (by kernel_rfl) (by kernel_rfl) _) (by rw [e0, e1]; exact compare_any a.size a u a0 n0 c0 a1 n1 c1 W _ _ (Nat.le_refl _) T0 T1)
                · exact s_load hG (.tmp 10) q10 a (by simp) rfl (by kernel_rfl)
                · exact s_load hG (.tmp 16) q16 u (by simp) rfl (by kernel_rfl)
                · obtain ⟨a0, n0, c0, e0, T0, l0⟩ := hd 3 (by decide); obtain ⟨a1, n1, c1, e1, T1, l1⟩ := hd 4 (by decide); exact s_pure hG 22 #[.tmp 95, .tmp 96] _ rfl (by kernel_rfl) (vals := #[vs 3, vs 4]) (by kernel_rfl) (cf 22 _ Tryd.func22 (by kernel_rfl) (by kernel_rfl) _) (by rw [e0, e1]; exact compareR_any a.size a u a0 n0 c0 a1 n1 c1 W _ _ (Nat.le_refl _) T0 T1)
                · exact s_neqI hG (.tmp 94) (.tmp 97) ((Tm.compare a u)) rfl (hd 2 (by decide)) (hd 5 (by decide))
                · exact Rg.Does.move (.tmp 98) rfl ⟨But.refl _ _, hG, hd 6 (by decide)⟩
                · refine ⟨fun _ => ?_, fun hg => absurd (hd 7 (by decide)) hg⟩
                  exact s_load hG (.tmp 10) q10 a (by simp) rfl (by kernel_rfl)
                · refine ⟨fun _ => ?_, fun hg => absurd (hd 7 (by decide)) hg⟩
                  exact s_load hG (.tmp 16) q16 u (by simp) rfl (by kernel_rfl)
                · refine ⟨fun _ => ?_, fun hg => absurd (hd 7 (by decide)) hg⟩
                  obtain ⟨a0, n0, c0, e0, T0, l0⟩ := hd 8 (by decide); obtain ⟨a1, n1, c1, e1, T1, l1⟩ := hd 9 (by decide); exact s_pure hG 26 #[.tmp 100, .tmp 101] _ rfl (by kernel_rfl) (vals := #[vs 8, vs 9]) (by kernel_rfl) (cf 26 _ Tryd.func26 (by kernel_rfl) (by kernel_rfl) _) (by rw [e0, e1]; exact contains_any a.size a u a0 n0 c0 a1 n1 c1 W _ _ (Nat.le_refl _) T0 T1)
                · refine ⟨fun _ => ?_, fun hg => absurd (hd 7 (by decide)) hg⟩
                  exact s_load hG (.tmp 10) q10 a (by simp) rfl (by kernel_rfl)
                · refine ⟨fun _ => ?_, fun hg => absurd (hd 7 (by decide)) hg⟩
                  exact s_load hG (.tmp 16) q16 u (by simp) rfl (by kernel_rfl)
                · refine ⟨fun _ => ?_, fun hg => absurd (hd 7 (by decide)) hg⟩
                  obtain ⟨a0, n0, c0, e0, T0, l0⟩ := hd 11 (by decide); obtain ⟨a1, n1, c1, e1, T1, l1⟩ := hd 12 (by decide); exact s_pure hG 27 #[.tmp 103, .tmp 104] _ rfl (by kernel_rfl) (vals := #[vs 11, vs 12]) (by kernel_rfl) (cf 27 _ Tryd.func27 (by kernel_rfl) (by kernel_rfl) _) (by rw [e0, e1]; exact containsR_any a.size a u a0 n0 c0 a1 n1 c1 W _ _ (Nat.le_refl _) T0 T1)
                · refine ⟨fun _ => ?_, fun hg => absurd (hd 7 (by decide)) hg⟩
                  exact s_neqB hG (.tmp 102) (.tmp 105) ((Tm.contains a u)) rfl (hd 10 (by decide)) (hd 13 (by decide))
                · exact s_pick hG (.tmp 99) (.const (.bool true)) (.tmp 106) rfl (hd 7 (by decide)) (hd 14 (by decide))
              intro vs wg hRg hGg hf
              have e15 : vs 15 = .bool false := hf 15 (by decide)
              have HBg := Lib.hid (HBA.out.trans hRg)
              have HGg : Hid (GS b [(q10, a)] wg) := ⟨hGg.deck, fun p hp => hGg.var p (by simp at hp; subst hp; simp)⟩
              clear hRg hGg hf HBA HGS
              simp only [Rg.putAll, Rg.putFrom, List.take_succ_cons, List.take_zero, List.drop_succ_cons, List.drop_zero, Act.put, List.setIfInBounds_toArray, List.set_cons_zero, List.set_cons_succ, e15]
              clear e15
              go_wp2_with fail
              go_roundw
              case rel => exact ⟨m + 1, by go_num, by omega, HGg.out, HBg.out⟩
              case measure => simp [intOf]; omega
            · have hm4' : ¬ ((m : Int) < 4) := by omega
              have HGg := Lib.hid hGm
              have HBg := Lib.hid hBm
              clear hGm hBm
              go_wp2_with fail
              go_roundw
              case rel => exact ⟨k + 1, by go_num, by omega, HGg.out.deck, HBg.out⟩
              case measure => simp [intOf]; omega
        · have hk5' : ¬ ((k : Int) < 5) := by omega
          have HBk := Lib.hid (HBW.out wr hBk)
          have HAW := Lib.hid (awake_any wr (HE.out.below HBk.out))
          clear hDk hBk
          go_wp2_with fail
          refine HAW.out.mono ?_
          rintro e wz ⟨rfl, hwz⟩
          have HBz := Lib.hid (HBk.out.trans (hwz.mono HBk.out.size))
          clear hwz
          go_wp2_with fail
          go_ret
          exact ⟨rfl, HBz.out⟩
end Go.Proofs.YtkgbjoepjcenlaaDoor
