/- The walk of TwinSecrets. -/
import Derived.Test.YtkgbjoepjcenlaaDoorRn
namespace Go.Proofs.YtkgbjoepjcenlaaDoor
open Go.RowKit
theorem inf3i : (Tryd.prog.info? 3).map (fun i => (i.zero, i.size, i.bytes)) = some (some (.int .i64 0), 1, 8) := by kernel_rfl
theorem pushI {W : World} {base : Nat} {v : Value} {ls : List Int} (h : W.ownsRow base 3 1 v ls.length (ls.map (Value.int .i64))) {a : Nat} {x : Int} (ha : W.heap[a]? = some (.cells #[.int .i64 x] 3 (0, 0))) (hl : ls.length ≤ 1000) (hb : base ≤ W.heap.size) :
    ∃ v' W', (Builtin.append_ #[22, 22] 22 #[v, .slice (some ⟨a, 0, none⟩) 1 1]).run Tryd.prog W = .ok v' W' ∧ W'.ownsRow base 3 1 v' (ls ++ [x]).length ((ls ++ [x]).map (Value.int .i64)) ∧ W.grownBy W' v.ownBlock := by
  obtain ⟨i0, hi, hz0, hz1, hz2⟩ := info_parts inf3i
  have c0 := cell_of_arr ha 0
  simp at c0
  obtain ⟨v', W', h2, h3, h4, _, _⟩ := run_append_own_at (P := Tryd.prog) W base 22 22 3 i0 _ 1 8 Tryd.underlying22 hi hz0 hz1 hz2 rfl (by omega) v ls.length _ h ⟨a, 0, none⟩ 1 1 [.int .i64 x] rfl (fun j u hu => by
    rcases (show j = 0 ∨ 1 ≤ j by omega) with rfl | hj
    · simp at hu; subst hu; exact c0
    · rw [List.getElem?_eq_none (by simpa using hj)] at hu; cases hu) (fun u hu => by simp at hu; subst hu; rfl) (by unfold maxLen; omega) (by omega) hb
  exact ⟨v', W', h2, by simpa using h3, h4⟩
theorem own_is {W : World} {base : Nat} {v : Value} {ls : List Int} (h : W.ownsRow base 3 1 v ls.length (ls.map (Value.int .i64))) (hl : ls.length ≤ 1000) (hb : ∀ x ∈ ls, 0 ≤ x ∧ x ≤ 1000) : ∃ a c, v = .slice a ls.length c ∧ Is W a ls.length ls := by
  obtain ⟨a, c, rfl⟩ := own_form h
  refine ⟨a, c, rfl, rfl, by omega, fun i hi => ?_⟩
  obtain ⟨g, cap, e, _, hlt⟩ := World.ownsRow.form h (by omega)
  cases e
  have hc := World.ownsRow.cellAt h (j := i) (by omega)
  have := hb (ls.getD i 0) (by rw [List.getD_eq_getElem?_getD, List.getElem?_eq_getElem hi]; exact List.getElem_mem hi)
  refine ⟨g, 0, rfl, ?_, by omega, by omega⟩
  simpa [List.getElem?_eq_getElem hi] using hc
def told (b0 b1 b2 b3 : Bool) : List Int := (if b0 then [100] else []) ++ (if b1 then [101] else []) ++ (if b2 then [102] else []) ++ (if b3 then [103] else [])
def TLoop (w : World) (i v : Value) (W : World) : Prop := ∃ (j : Nat) (b0 b1 b2 b3 : Bool), j ≤ 4 ∧ i = .int .i64 j ∧ ((j ≤ 0 → b0 = false) ∧ (j ≤ 1 → b1 = false) ∧ (j ≤ 2 → b2 = false) ∧ (j ≤ 3 → b3 = false)) ∧ W.heap[w.heap.size]? = some (.cells #[.bool b0, .bool b1, .bool b2, .bool b3] 47 (0, 0)) ∧ W.ownsRow (w.heap.size + 1) 3 1 v (told b0 b1 b2 b3).length ((told b0 b1 b2 b3).map (Value.int .i64)) ∧ Below w.heap.size w W
theorem told_len (b0 b1 b2 b3 : Bool) : (told b0 b1 b2 b3).length ≤ 4 := by cases b0 <;> cases b1 <;> cases b2 <;> cases b3 <;> decide
/-- One number more. -/
theorem TLoop.next {w wr : World} {j : Nat} (hj : j < 4) {b0 b1 b2 b3 : Bool} (hb : (j ≤ 0 → b0 = false) ∧ (j ≤ 1 → b1 = false) ∧ (j ≤ 2 → b2 = false) ∧ (j ≤ 3 → b3 = false)) {v : Value} (hH : wr.heap[w.heap.size]? = some (.cells #[.bool b0, .bool b1, .bool b2, .bool b3] 47 (0, 0))) (hO : wr.ownsRow (w.heap.size + 1) 3 1 v (told b0 b1 b2 b3).length ((told b0 b1 b2 b3).map (Value.int .i64))) (hB : Below w.heap.size w wr) {x : Int} (hx : x = 100 + j) :
    ∃ v' W', (Builtin.append_ #[22, 22] 22 #[v, .slice (some ⟨wr.heap.size, 0, none⟩) 1 1]).run Tryd.prog (wr.alloc (.cells #[.int .i64 x] 3)) = .ok v' W' ∧ W'.cell? ⟨w.heap.size, j, none⟩ = some (.bool false) ∧ W'.frozen? ⟨w.heap.size, j, none⟩ = false ∧ ∀ i : Value, i = .int .i64 ((j + 1 : Nat) : Int) → TLoop w i v' (W'.setCell ⟨w.heap.size, j, none⟩ (.bool true)) := by
  have hs := lt_of_block hH
  have hO1 := own_pure hO (pure_alloc wr (.cells #[.int .i64 x] 3))
  obtain ⟨v', W', hrun, hO2, hgr⟩ := pushI hO1 (alloc_new wr (.cells #[.int .i64 x] 3)) (by have := told_len b0 b1 b2 b3; omega) (by simp; omega)
  have hne : some w.heap.size ≠ v.ownBlock := fun e => by have := (own_lt hO e.symm).2.1; omega
  have H2 : W'.heap[w.heap.size]? = some (.cells #[.bool b0, .bool b1, .bool b2, .bool b3] 47 (0, 0)) := (hgr.block _ (by simp; omega) hne).trans (alloc_keep hH)
  have hne' : ∀ g, v'.ownBlock = some g → w.heap.size + 1 ≤ g := fun g h => (own_lt hO2 h).2.1
  have hB2 : Below w.heap.size w W' := by
    have h1 := hB.alloc hB.size (.cells #[.int .i64 x] 3)
    exact ⟨hgr.os.trans h1.os, hgr.tape.trans h1.tape, hgr.output.trans h1.output, Nat.le_trans h1.size hgr.size, fun i hi => (hgr.block i (by simp; omega) fun e => by have := (own_lt hO e.symm).2.1; omega).trans (h1.block i hi)⟩
  have hO3 : (W'.setCell ⟨w.heap.size, j, none⟩ (.bool true)).ownsRow (w.heap.size + 1) 3 1 v' (told b0 b1 b2 b3 ++ [x]).length ((told b0 b1 b2 b3 ++ [x]).map (Value.int .i64)) := own_keep hO2 fun g hg => Below.heap_setCell _ _ _ _ (by have := hne' g hg; show g ≠ w.heap.size; omega)
  have hS := set_arr H2 j (.bool true)
  have hcell : W'.cell? ⟨w.heap.size, j, none⟩ = some (.bool false) := by
    rw [cell_of_arr H2]
    rcases (show j = 0 ∨ j = 1 ∨ j = 2 ∨ j = 3 by omega) with rfl | rfl | rfl | rfl
    · rw [hb.1 (by omega)]; rfl
    · rw [hb.2.1 (by omega)]; rfl
    · rw [hb.2.2.1 (by omega)]; rfl
    · rw [hb.2.2.2 (by omega)]; rfl
  refine ⟨v', W', hrun, hcell, frozen_of_arr H2 j, fun i hi => ?_⟩
  subst hx
  rcases (show j = 0 ∨ j = 1 ∨ j = 2 ∨ j = 3 by omega) with rfl | rfl | rfl | rfl
  · obtain ⟨h0, h1, h2, h3⟩ := hb
    obtain rfl := h0 (by omega); obtain rfl := h1 (by omega); obtain rfl := h2 (by omega); obtain rfl := h3 (by omega)
    exact ⟨1, true, false, false, false, by omega, hi, ⟨by omega, fun _ => rfl, fun _ => rfl, fun _ => rfl⟩, hS, hO3, hB2.setCell (Nat.le_refl _) _⟩
  · obtain ⟨h0, h1, h2, h3⟩ := hb
    obtain rfl := h1 (by omega); obtain rfl := h2 (by omega); obtain rfl := h3 (by omega)
    refine ⟨2, b0, true, false, false, by omega, hi, ⟨by omega, by omega, fun _ => rfl, fun _ => rfl⟩, hS, ?_, hB2.setCell (Nat.le_refl _) _⟩
    have e : told b0 true false false = told b0 false false false ++ [100 + ((1 : Nat) : Int)] := by cases b0 <;> rfl
    rw [e]; exact hO3
  · obtain ⟨h0, h1, h2, h3⟩ := hb
    obtain rfl := h2 (by omega); obtain rfl := h3 (by omega)
    refine ⟨3, b0, b1, true, false, by omega, hi, ⟨by omega, by omega, by omega, fun _ => rfl⟩, hS, ?_, hB2.setCell (Nat.le_refl _) _⟩
    have e : told b0 b1 true false = told b0 b1 false false ++ [100 + ((2 : Nat) : Int)] := by cases b0 <;> cases b1 <;> rfl
    rw [e]; exact hO3
  · obtain ⟨h0, h1, h2, h3⟩ := hb
    obtain rfl := h3 (by omega)
    refine ⟨4, b0, b1, b2, true, by omega, hi, ⟨by omega, by omega, by omega, by omega⟩, hS, ?_, hB2.setCell (Nat.le_refl _) _⟩
    have e : told b0 b1 b2 true = told b0 b1 b2 false ++ [100 + ((3 : Nat) : Int)] := by cases b0 <;> cases b1 <;> cases b2 <;> rfl
    rw [e]; exact hO3
set_option maxHeartbeats 2000000 in
set_option maxRecDepth 100000 in
theorem law_any (method leaked : Int) (w : World) (hE : Env w) : Calls Tryd.prog 5 #[.int .i64 method, .int .i64 leaked] w fun e w' => e = .returned (.bool true) ∧ Below w.heap.size w w' := by
  have hk1 := Int.emod_lt_of_pos method (show 0 < (4 : Int) by omega)
  have hk0 := Int.emod_nonneg method (show (4 : Int) ≠ 0 by omega)
  have hq1 := Int.emod_lt_of_pos leaked (show 0 < (16 : Int) by omega)
  have hq0 := Int.emod_nonneg leaked (show (16 : Int) ≠ 0 by omega)
  have HE := Lib.hid hE
  have HB0 : Hid (Below w.heap.size w (w.alloc (.cells #[.bool false, .bool false, .bool false, .bool false] 47))) := pure_alloc _ _
  have HH0 := Lib.hid (alloc_new w (.cells #[.bool false, .bool false, .bool false, .bool false] 47))
  clear hE
  go_enter Tryd.func5, Tryd.ntmps5
  go_wp2_with (go_at_call 28; refine (mod_any _ _ _ (by omega) (by omega)).mono ?_; rintro e w' ⟨rfl, rfl⟩)
  go_loopw [8, 6] (fun i v W => TLoop w i v W) (fun i _ _ => 4 - (intOf i).toNat)
  case atStart => exact ⟨0, false, false, false, false, by omega, rfl, ⟨fun _ => rfl, fun _ => rfl, fun _ => rfl, fun _ => rfl⟩, HH0.out, ⟨rfl, .inl ⟨rfl, rfl⟩⟩, HB0.out⟩
  case round =>
    obtain ⟨j, b0, b1, b2, b3, hj, rfl, hb, hH, hO, hB⟩ := hrel
    obtain ⟨va, vcap, hvf⟩ := own_form hO
    by_cases hj4 : j < 4
    · have HNX := fun x hx => TLoop.next (x := x) hj4 hb hH hO hB hx
      have HOLD : Hid (∀ i : Value, i = .int .i64 ((j + 1 : Nat) : Int) → TLoop w i u6 wr) := by
        show ∀ i : Value, _ → _
        intro i hi
        exact ⟨j + 1, b0, b1, b2, b3, by omega, hi, ⟨fun h => by omega, fun h => hb.2.1 (by omega), fun h => hb.2.2.1 (by omega), fun h => hb.2.2.2 (by omega)⟩, hH, hO, hB⟩
      subst hvf
      generalize (told b0 b1 b2 b3).length = nl at *
      clear hH hO hB hb
      rcases (show j = 0 ∨ j = 1 ∨ j = 2 ∨ j = 3 by omega) with rfl | rfl | rfl | rfl
      · obtain ⟨v', w6, hrun, hcl, hfr, hX6⟩ := HNX 100 (by decide)
        have HX6 := Lib.hid hX6
        clear hX6 HNX
        go_wp2_with (first | (go_at_call 28; refine (mod_any _ _ _ (by omega) (by omega)).mono ?_; rintro e w' ⟨rfl, rfl⟩) | (refine wpList_app rfl _ _ 22 rfl rfl rfl hrun ?_))
        all_goals
          go_roundw
          case rel => first | exact HX6.out _ (by go_num) | exact HOLD.out _ (by go_num)
          case measure => simp [intOf]
      · obtain ⟨v', w6, hrun, hcl, hfr, hX6⟩ := HNX 101 (by decide)
        have HX6 := Lib.hid hX6
        clear hX6 HNX
        go_wp2_with (first | (go_at_call 28; refine (mod_any _ _ _ (by omega) (by omega)).mono ?_; rintro e w' ⟨rfl, rfl⟩) | (refine wpList_app rfl _ _ 22 rfl rfl rfl hrun ?_))
        all_goals
          go_roundw
          case rel => first | exact HX6.out _ (by go_num) | exact HOLD.out _ (by go_num)
          case measure => simp [intOf]
      · obtain ⟨v', w6, hrun, hcl, hfr, hX6⟩ := HNX 102 (by decide)
        have HX6 := Lib.hid hX6
        clear hX6 HNX
        go_wp2_with (first | (go_at_call 28; refine (mod_any _ _ _ (by omega) (by omega)).mono ?_; rintro e w' ⟨rfl, rfl⟩) | (refine wpList_app rfl _ _ 22 rfl rfl rfl hrun ?_))
        all_goals
          go_roundw
          case rel => first | exact HX6.out _ (by go_num) | exact HOLD.out _ (by go_num)
          case measure => simp [intOf]
      · obtain ⟨v', w6, hrun, hcl, hfr, hX6⟩ := HNX 103 (by decide)
        have HX6 := Lib.hid hX6
        clear hX6 HNX
        go_wp2_with (first | (go_at_call 28; refine (mod_any _ _ _ (by omega) (by omega)).mono ?_; rintro e w' ⟨rfl, rfl⟩) | (refine wpList_app rfl _ _ 22 rfl rfl rfl hrun ?_))
        all_goals
          go_roundw
          case rel => first | exact HX6.out _ (by go_num) | exact HOLD.out _ (by go_num)
          case measure => simp [intOf]
    · obtain rfl : j = 4 := by omega
      have hln := told_len b0 b1 b2 b3
      obtain ⟨ta, tc, hte, hIs⟩ := own_is hO (by omega) (fun x hx => by
        unfold told at hx
        cases b0 <;> cases b1 <;> cases b2 <;> cases b3 <;> simp at hx <;> omega)
      subst hte
      obtain ⟨k, hk, hkk⟩ : ∃ k : Nat, k < 4 ∧ method % 4 = (k : Int) := ⟨(method % 4).toNat, by omega, by omega⟩
      have HIS := Lib.hid hIs
      have HB := Lib.hid hB
      have HH := Lib.hid hH
      have HTL : Hid (∀ q ∈ told b0 b1 b2 b3, 100 ≤ q ∧ q ≤ 103) := by
        show ∀ q ∈ _, _
        intro q hq
        unfold told at hq
        cases b0 <;> cases b1 <;> cases b2 <;> cases b3 <;> simp at hq <;> omega
      have HW : Hid ((decide ((100 : Int) ∈ told b0 b1 b2 b3) = b0 ∧ decide ((101 : Int) ∈ told b0 b1 b2 b3) = b1) ∧ decide ((102 : Int) ∈ told b0 b1 b2 b3) = b2 ∧ decide ((103 : Int) ∈ told b0 b1 b2 b3) = b3) := by
        show _ ∧ _
        cases b0 <;> cases b1 <;> cases b2 <;> cases b3 <;> decide
      rw [hkk]
      generalize told b0 b1 b2 b3 = ld at *
      generalize ld.length = nl at *
      clear hkk hk1 hk0 hq1 hq0 hO hB hH hIs hb hvf hj hj4 hln
      go_upto_region 10 with fail
      have c0 := cell_of_arr HH.out 0
      have c1 := cell_of_arr HH.out 1
      have c2 := cell_of_arr HH.out 2
      have c3 := cell_of_arr HH.out 3
      simp at c0 c1 c2 c3
      go_quiet (fail)
      clear c0 c1 c2 c3
      go_upto_region 11 with fail
      go_cut [13] from 45 to 75 (fun s W => s = .bool (Tm.wantB k b0 b1 b2 b3) ∧ W = wr.drewN nq)
      case first =>
        rcases (show k = 0 ∨ k = 1 ∨ k = 2 ∨ k = 3 by omega) with rfl | rfl | rfl | rfl <;> cases b0 <;> cases b1 <;> cases b2 <;> cases b3
        all_goals
          go_wp2_with fail
          go_meet
          case rel => exact ⟨rfl, rfl⟩
      case rest =>
      obtain ⟨rfl, rfl⟩ := hcut
      have hI2 : Is (wr.drewN nq) ta nl ld := HIS.out
      have HB2 : Hid (Below w.heap.size w (wr.drewN nq)) := below_drewN HB.out nq
      have HSC := Lib.hid (secret_good k hk ld ta nl tc (wr.drewN nq) hI2 HTL.out (HE.out.below HB2.out))
      clear hI2
      go_wp2_with fail
      refine HSC.out.mono ?_
      rintro e w5 ⟨rfl, hw5⟩
      rw [HW.out.1.1, HW.out.1.2, HW.out.2.1, HW.out.2.2]
      have HB5 := Lib.hid (HB2.out.trans (hw5.mono HB2.out.size))
      clear hw5 HSC
      generalize Tm.wantB k b0 b1 b2 b3 = wb at *
      go_wp2_with fail
      go_ret
      exact ⟨by simp, HB5.out⟩
end Go.Proofs.YtkgbjoepjcenlaaDoor
