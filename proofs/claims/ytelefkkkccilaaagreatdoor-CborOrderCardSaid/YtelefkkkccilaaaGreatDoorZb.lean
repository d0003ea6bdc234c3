/- Find, of the program and of the reference. -/
import Derived.Test.YtelefkkkccilaaaGreatDoorZa
import Derived.Test.YtelefkkkccilaaaGreatDoorLM
import Derived.Test.YtelefkkkccilaaaGreatDoorLA
set_option linter.unusedVariables false
set_option linter.unusedSimpArgs false
namespace Go.Proofs.YtelefkkkccilaaaGreatDoor
open Go.RowKit
set_option maxRecDepth 100000
/-- What Find answers. -/
def FP (r : Option It) (w : World) (e : Ending) (w' : World) : Prop := match r with
  | .none => e = .returned (.tuple #[.agg #[.int .i64 0, .int .u64 0, .slice none 0 0, .slice none 0 0], .bool false]) ∧ Below w.heap.size w w'
  | some z => ∃ Z : Ad, e = .returned (.tuple #[.agg #[.int .i64 z.kind, .int .u64 (z.num : Int), .slice Z.ab Z.nb Z.cb, .slice Z.ai Z.ni Z.ci], .bool true]) ∧ IR (fun b => w.heap.size ≤ b) w' z Z ∧ Below w.heap.size w w'
set_option maxHeartbeats 8000000 in
theorem cfind_any (m q : It) (A K : Ad) (w : World) (ok ok' : Nat → Prop) (hI : IR ok w m A) (hQ : IR ok' w q K) (hE : Env w) :
    Calls Tryz.prog 63 #[.agg #[.int .i64 m.kind, .int .u64 (m.num : Int), .slice A.ab A.nb A.cb, .slice A.ai A.ni A.ci], .agg #[.int .i64 q.kind, .int .u64 (q.num : Int), .slice K.ab K.nb K.cb, .slice K.ai K.ni K.ci]] w (FP (It.findP m q) w) := by
  have P0 := pure_alloc w (.cells #[.int .i64 m.kind, .int .u64 (m.num : Int), .slice A.ab A.nb A.cb, .slice A.ai A.ni A.ci] 26)
  have N0 := alloc_new w (.cells #[.int .i64 m.kind, .int .u64 (m.num : Int), .slice A.ab A.nb A.cb, .slice A.ai A.ni A.ci] 26)
  have P1 := pure_alloc (w.alloc (.cells #[.int .i64 m.kind, .int .u64 (m.num : Int), .slice A.ab A.nb A.cb, .slice A.ai A.ni A.ci] 26)) (.cells #[.int .i64 q.kind, .int .u64 (q.num : Int), .slice K.ab K.nb K.cb, .slice K.ai K.ni K.ci] 26)
  have N1 := alloc_new (w.alloc (.cells #[.int .i64 m.kind, .int .u64 (m.num : Int), .slice A.ab A.nb A.cb, .slice A.ai A.ni A.ci] 26)) (.cells #[.int .i64 q.kind, .int .u64 (q.num : Int), .slice K.ab K.nb K.cb, .slice K.ai K.ni K.ci] 26)
  have P2 := pure_alloc ((w.alloc (.cells #[.int .i64 m.kind, .int .u64 (m.num : Int), .slice A.ab A.nb A.cb, .slice A.ai A.ni A.ci] 26)).alloc (.cells #[.int .i64 q.kind, .int .u64 (q.num : Int), .slice K.ab K.nb K.cb, .slice K.ai K.ni K.ci] 26)) (.cells #[.int .i64 0, .int .u64 0, .slice none 0 0, .slice none 0 0] 26)
  have N2 := alloc_new ((w.alloc (.cells #[.int .i64 m.kind, .int .u64 (m.num : Int), .slice A.ab A.nb A.cb, .slice A.ai A.ni A.ci] 26)).alloc (.cells #[.int .i64 q.kind, .int .u64 (q.num : Int), .slice K.ab K.nb K.cb, .slice K.ai K.ni K.ci] 26)) (.cells #[.int .i64 0, .int .u64 0, .slice none 0 0, .slice none 0 0] 26)
  have hsz0 : (w.alloc (.cells #[.int .i64 m.kind, .int .u64 (m.num : Int), .slice A.ab A.nb A.cb, .slice A.ai A.ni A.ci] 26)).heap.size = w.heap.size + 1 := by simp
  have hsz1 : ((w.alloc (.cells #[.int .i64 m.kind, .int .u64 (m.num : Int), .slice A.ab A.nb A.cb, .slice A.ai A.ni A.ci] 26)).alloc (.cells #[.int .i64 q.kind, .int .u64 (q.num : Int), .slice K.ab K.nb K.cb, .slice K.ai K.ni K.ci] 26)).heap.size = w.heap.size + 2 := by simp
  rw [hsz0] at N1
  rw [hsz1] at N2
  have HX1 := Lib.hid (Below.keep P2 (Below.keep P1 N0 (lt_of_block N0)) (lt_of_block (Below.keep P1 N0 (lt_of_block N0))))
  have HY1 := Lib.hid (Below.keep P2 N1 (lt_of_block N1))
  have HR1 := Lib.hid N2
  have HP1 := Lib.hid (pure_trans (pure_trans P0 P1) P2)
  have HI1 := Lib.hid (((hI.below P0).below P1).below P2)
  have HQ1 := Lib.hid (((hQ.below P0).below P1).below P2)
  have HE1 := Lib.hid (((hE.below P0).below P1).below P2)
  obtain ⟨x0, x1, x2, x3⟩ := cell_of4 HX1.out
  obtain ⟨y0, y1, y2, y3⟩ := cell_of4 HY1.out
  clear hI hQ hE N0 N1 N2 P0 P1 P2 hsz0 hsz1
  obtain ⟨R, hRR⟩ : ∃ R, It.findP m q = R := ⟨_, rfl⟩
  rw [hRR]
  have HRR := Lib.hid hRR
  clear hRR
  go_enter Tryz.func63, Tryz.ntmps63
  go_upto_region 1 with fail
  generalize ((w.alloc (.cells #[.int .i64 m.kind, .int .u64 (m.num : Int), .slice A.ab A.nb A.cb, .slice A.ai A.ni A.ci] 26)).alloc (.cells #[.int .i64 q.kind, .int .u64 (q.num : Int), .slice K.ab K.nb K.cb, .slice K.ai K.ni K.ci] 26)).alloc (.cells #[.int .i64 0, .int .u64 0, .slice none 0 0, .slice none 0 0] 26) = w1 at *
  generalize hB : w.heap.size = B at *
  by_cases hk : m.kind = 5
  case neg =>
    have hkb : (m.kind != 5) = true := by simpa using hk
    have HN9 : Hid (R = .none) := Lib.hid (HRR.out.symm.trans (if_neg (fun h => hk h.1)))
    obtain ⟨r0, r1, r2, r3⟩ := cell_of4 HR1.out
    obtain ⟨f0, f1, f2, f3⟩ := frozen_of4 HR1.out
    go_wp2_with fail
    clear r0 r1 r2 r3 f0 f1 f2 f3
    have hp4 := put4 (HR1.out) (.int .i64 0) (.int .u64 0) (.slice none 0 0) (.slice none 0 0)
    have hs4 := put4_keep (W := w1) (b := B + 2) (.int .i64 0) (.int .u64 0) (.slice none 0 0) (.slice none 0 0)
    have hb4 := fun (n9 : Nat) (u9 : World) (h9 : Below n9 u9 (w1)) (hb9 : n9 ≤ B + 2) => put4_below h9 hb9 (.int .i64 0) (.int .u64 0) (.slice none 0 0) (.slice none 0 0)
    generalize ((((w1).setCell ⟨B + 2, 0, none⟩ (.int .i64 0)).setCell ⟨B + 2, 1, none⟩ (.int .u64 0)).setCell ⟨B + 2, 2, none⟩ (.slice none 0 0)).setCell ⟨B + 2, 3, none⟩ (.slice none 0 0) = W' at *
    obtain ⟨g0, g1, g2, g3⟩ := cell_of4 hp4
    refine bodyPost_ret (v := .tuple #[.agg #[.int .i64 0, .int .u64 0, .slice none 0 0, .slice none 0 0], .bool false]) (by simp [results, Tryz.results63, go_sem, g0, g1, g2, g3]) rfl ?_
    rw [HN9.out]
    exact ⟨rfl, by rw [hB]; exact hb4 B w HP1.out (by omega)⟩
  have hkb : (m.kind != 5) = false := by simpa using hk
  have HK := Lib.hid hk
  clear hk
  cases hv : It.valid m with
  | false =>
    have HC := Lib.hid (cvalid_any m A w1 _ HI1.out HE1.out false hv)
    go_wp2_with fail
    refine HC.out.mono ?_
    rintro e w2 ⟨rfl, B2⟩
    have HX2 := Lib.hid (Below.keep B2 HX1.out (lt_of_block HX1.out))
    have HY2 := Lib.hid (Below.keep B2 HY1.out (lt_of_block HY1.out))
    have HR2 := Lib.hid (Below.keep B2 HR1.out (lt_of_block HR1.out))
    have HI2 := Lib.hid (HI1.out.below B2)
    have HQ2 := Lib.hid (HQ1.out.below B2)
    have HE2 := Lib.hid (HE1.out.below B2)
    have HP2 := Lib.hid (HP1.out.trans (B2.mono (by have := HP1.out.size; omega)))
    clear B2 HX1 HY1 HR1 HI1 HQ1 HE1 HP1 x0 x1 x2 x3 y0 y1 y2 y3
    obtain ⟨x0, x1, x2, x3⟩ := cell_of4 HX2.out
    obtain ⟨y0, y1, y2, y3⟩ := cell_of4 HY2.out
    clear HC
    have HN9 : Hid (R = .none) := Lib.hid (HRR.out.symm.trans (if_neg (fun h => by rw [hv] at h; cases h.2)))
    obtain ⟨r0, r1, r2, r3⟩ := cell_of4 HR2.out
    obtain ⟨f0, f1, f2, f3⟩ := frozen_of4 HR2.out
    go_wp2_with fail
    clear r0 r1 r2 r3 f0 f1 f2 f3
    have hp4 := put4 (HR2.out) (.int .i64 0) (.int .u64 0) (.slice none 0 0) (.slice none 0 0)
    have hs4 := put4_keep (W := w2) (b := B + 2) (.int .i64 0) (.int .u64 0) (.slice none 0 0) (.slice none 0 0)
    have hb4 := fun (n9 : Nat) (u9 : World) (h9 : Below n9 u9 (w2)) (hb9 : n9 ≤ B + 2) => put4_below h9 hb9 (.int .i64 0) (.int .u64 0) (.slice none 0 0) (.slice none 0 0)
    generalize ((((w2).setCell ⟨B + 2, 0, none⟩ (.int .i64 0)).setCell ⟨B + 2, 1, none⟩ (.int .u64 0)).setCell ⟨B + 2, 2, none⟩ (.slice none 0 0)).setCell ⟨B + 2, 3, none⟩ (.slice none 0 0) = W' at *
    obtain ⟨g0, g1, g2, g3⟩ := cell_of4 hp4
    refine bodyPost_ret (v := .tuple #[.agg #[.int .i64 0, .int .u64 0, .slice none 0 0, .slice none 0 0], .bool false]) (by simp [results, Tryz.results63, go_sem, g0, g1, g2, g3]) rfl ?_
    rw [HN9.out]
    exact ⟨rfl, by rw [hB]; exact hb4 B w HP2.out (by omega)⟩
  | true =>
    have HC := Lib.hid (cvalid_any m A w1 _ HI1.out HE1.out true hv)
    go_wp2_with fail
    refine HC.out.mono ?_
    rintro e w2 ⟨rfl, B2⟩
    have HX2 := Lib.hid (Below.keep B2 HX1.out (lt_of_block HX1.out))
    have HY2 := Lib.hid (Below.keep B2 HY1.out (lt_of_block HY1.out))
    have HR2 := Lib.hid (Below.keep B2 HR1.out (lt_of_block HR1.out))
    have HI2 := Lib.hid (HI1.out.below B2)
    have HQ2 := Lib.hid (HQ1.out.below B2)
    have HE2 := Lib.hid (HE1.out.below B2)
    have HP2 := Lib.hid (HP1.out.trans (B2.mono (by have := HP1.out.size; omega)))
    clear B2 HX1 HY1 HR1 HI1 HQ1 HE1 HP1 x0 x1 x2 x3 y0 y1 y2 y3
    obtain ⟨x0, x1, x2, x3⟩ := cell_of4 HX2.out
    obtain ⟨y0, y1, y2, y3⟩ := cell_of4 HY2.out
    clear HC
    cases hvq : It.valid q with
    | false =>
      have HC := Lib.hid (cvalid_any q K w2 _ HQ2.out HE2.out false hvq)
      go_wp2_with fail
      refine HC.out.mono ?_
      rintro e w3 ⟨rfl, B3⟩
      have HX3 := Lib.hid (Below.keep B3 HX2.out (lt_of_block HX2.out))
      have HY3 := Lib.hid (Below.keep B3 HY2.out (lt_of_block HY2.out))
      have HR3 := Lib.hid (Below.keep B3 HR2.out (lt_of_block HR2.out))
      have HI3 := Lib.hid (HI2.out.below B3)
      have HQ3 := Lib.hid (HQ2.out.below B3)
      have HE3 := Lib.hid (HE2.out.below B3)
      have HP3 := Lib.hid (HP2.out.trans (B3.mono (by have := HP2.out.size; omega)))
      clear B3 HX2 HY2 HR2 HI2 HQ2 HE2 HP2 x0 x1 x2 x3 y0 y1 y2 y3
      obtain ⟨x0, x1, x2, x3⟩ := cell_of4 HX3.out
      obtain ⟨y0, y1, y2, y3⟩ := cell_of4 HY3.out
      clear HC
      have HN9 : Hid (R = .none) := Lib.hid (HRR.out.symm.trans ((if_pos ⟨HK.out, hv⟩).trans (It.look_bad (fun y hy => It.valid_kid hv hy) hvq)))
      obtain ⟨r0, r1, r2, r3⟩ := cell_of4 HR3.out
      obtain ⟨f0, f1, f2, f3⟩ := frozen_of4 HR3.out
      go_wp2_with fail
      clear r0 r1 r2 r3 f0 f1 f2 f3
      have hp4 := put4 (HR3.out) (.int .i64 0) (.int .u64 0) (.slice none 0 0) (.slice none 0 0)
      have hs4 := put4_keep (W := w3) (b := B + 2) (.int .i64 0) (.int .u64 0) (.slice none 0 0) (.slice none 0 0)
      have hb4 := fun (n9 : Nat) (u9 : World) (h9 : Below n9 u9 (w3)) (hb9 : n9 ≤ B + 2) => put4_below h9 hb9 (.int .i64 0) (.int .u64 0) (.slice none 0 0) (.slice none 0 0)
      generalize ((((w3).setCell ⟨B + 2, 0, none⟩ (.int .i64 0)).setCell ⟨B + 2, 1, none⟩ (.int .u64 0)).setCell ⟨B + 2, 2, none⟩ (.slice none 0 0)).setCell ⟨B + 2, 3, none⟩ (.slice none 0 0) = W' at *
      obtain ⟨g0, g1, g2, g3⟩ := cell_of4 hp4
      refine bodyPost_ret (v := .tuple #[.agg #[.int .i64 0, .int .u64 0, .slice none 0 0, .slice none 0 0], .bool false]) (by simp [results, Tryz.results63, go_sem, g0, g1, g2, g3]) rfl ?_
      rw [HN9.out]
      exact ⟨rfl, by rw [hB]; exact hb4 B w HP3.out (by omega)⟩
    | true =>
      have HC := Lib.hid (cvalid_any q K w2 _ HQ2.out HE2.out true hvq)
      go_wp2_with fail
      refine HC.out.mono ?_
      rintro e w3 ⟨rfl, B3⟩
      have HX3 := Lib.hid (Below.keep B3 HX2.out (lt_of_block HX2.out))
      have HY3 := Lib.hid (Below.keep B3 HY2.out (lt_of_block HY2.out))
      have HR3 := Lib.hid (Below.keep B3 HR2.out (lt_of_block HR2.out))
      have HI3 := Lib.hid (HI2.out.below B3)
      have HQ3 := Lib.hid (HQ2.out.below B3)
      have HE3 := Lib.hid (HE2.out.below B3)
      have HP3 := Lib.hid (HP2.out.trans (B3.mono (by have := HP2.out.size; omega)))
      clear B3 HX2 HY2 HR2 HI2 HQ2 HE2 HP2 x0 x1 x2 x3 y0 y1 y2 y3
      obtain ⟨x0, x1, x2, x3⟩ := cell_of4 HX3.out
      obtain ⟨y0, y1, y2, y3⟩ := cell_of4 HY3.out
      clear HC
      have hvw := valid_wf hvq
      have HC := Lib.hid (add_new hvw.1 HQ3.out (by omega) w3 (Below.refl _ _))
      clear hvw
      go_wp2_with fail
      refine HC.out.mono ?_
      rintro e w4 h4
      obtain ⟨a4, c4, rfl, _, R4, _, _, B4⟩ := h4.open
      have HK4 := Lib.hid (R4.imp (ok' := fun _ => True) fun _ _ _ => trivial)
      have HX4 := Lib.hid (Below.keep B4 HX3.out (lt_of_block HX3.out))
      have HY4 := Lib.hid (Below.keep B4 HY3.out (lt_of_block HY3.out))
      have HR4 := Lib.hid (Below.keep B4 HR3.out (lt_of_block HR3.out))
      have HI4 := Lib.hid (HI3.out.below B4)
      have HQ4 := Lib.hid (HQ3.out.below B4)
      have HE4 := Lib.hid (HE3.out.below B4)
      have HP4 := Lib.hid (HP3.out.trans (B4.mono (by have := HP3.out.size; omega)))
      clear B4 HX3 HY3 HR3 HI3 HQ3 HE3 HP3 x0 x1 x2 x3 y0 y1 y2 y3
      obtain ⟨x0, x1, x2, x3⟩ := cell_of4 HX4.out
      obtain ⟨y0, y1, y2, y3⟩ := cell_of4 HY4.out
      clear HC R4 h4
      obtain ⟨KL, hKL⟩ : ∃ KL, KL = (It.enc q).length := ⟨_, rfl⟩
      rw [← hKL] at HK4
      rw [← hKL]
      clear hKL
      have HL : Hid (It.look m.kids q = R) := Lib.hid ((if_pos ⟨HK.out, hv⟩).symm.trans HRR.out)
      have HEV := Lib.hid (It.map_even hv HK.out)
      have HTL := Lib.hid HI4.out.tl
      have HNI : Hid (A.ni = m.kids.length) := Lib.hid HTL.out.1
      have hni := HEV.out.2
      rw [← HNI.out] at hni
      have HV := Lib.hid (And.intro hv hvq)
      clear hv hvq HRR
      go_wp2_with fail
      go_loopw [7] (fun i W => ∃ t : Nat, i = .int .i64 ((2 * t : Nat) : Int) ∧ 2 * t ≤ A.ni ∧ It.look (m.kids.drop (2 * t)) q = R ∧ Below w4.heap.size w4 W) (fun i _ => A.ni - (intOf i).toNat)
      case atStart => exact ⟨0, rfl, by omega, by simpa using HL.out, Below.refl _ _⟩
      case round =>
        obtain ⟨u, hu⟩ : ∃ u, u = wr := ⟨_, rfl⟩
        subst hu
        obtain ⟨t, rfl, ht, hlk, hBl⟩ := hrel
        obtain ⟨T, hT⟩ : ∃ T, T = 2 * t := ⟨_, rfl⟩
        rw [← hT] at hlk ht ⊢
        have HT := Lib.hid hT
        clear hT
        have hx3 : u.cell? ⟨B, 3, none⟩ = some (.slice A.ai A.ni A.ci) := (hBl.cell (p := ⟨B, 3, none⟩) (lt_of_block HX4.out)).trans x3
        by_cases hTn : T < A.ni
        · have hTm : T + 1 < m.kids.length := by have := HEV.out.1; have := HNI.out; have := HT.out; omega
          rw [It.drop_two hTm] at hlk
          unfold It.look at hlk
          have hT1 := (HTL.out.below hBl).2.2 T (by omega)
          have hT2 := (HTL.out.below hBl).2.2 (T + 1) hTm
          have hvp : It.valid m.kids[T] = true := It.valid_kid HV.out.1 (List.getElem_mem _)
          have hvz : It.valid m.kids[T + 1] = true := It.valid_kid HV.out.1 (List.getElem_mem _)
          have hz : (T : Int) < (A.ni : Int) := by omega
          have hcm : (A.ni : Int) ≤ 256 := by omega
          have hw1 : IntKind.i64.wrap ((T : Int) + 1) = ((T + 1 : Nat) : Int) := by rw [IntWalk.i64_in _ (by omega)]; omega
          have hw2 : IntKind.i64.wrap ((T : Int) + 2) = ((T + 2 : Nat) : Int) := by rw [IntWalk.i64_in _ (by omega)]; omega
          generalize m.kids[T] = p at *
          generalize m.kids[T + 1] = z at *
          obtain ⟨b1, o1, X, e1, _, ⟨c0, c1, c2, c3⟩, hIx⟩ := hT1
          obtain ⟨b2, o2, Y, e2, _, ⟨d0, d1, d2, d3⟩, hIy⟩ := hT2
          rw [e1] at e2
          cases e2
          rw [e1] at hx3
          clear e1
          have hvw := valid_wf hvp
          have HC := Lib.hid (add_new hvw.1 hIx (by omega) u (Below.refl _ _))
          clear hvw
          have HBl := Lib.hid hBl
          have HLK := Lib.hid hlk
          have HIY := Lib.hid hIy
          have hTc : T + 1 < A.ni := by have := HNI.out; omega
          have hzc : ((T + 1 : Nat) : Int) < (A.ni : Int) := by omega
          clear hBl hlk hIx hIy
          go_wp2_with fail
          refine HC.out.mono ?_
          rintro e w5 h5
          obtain ⟨a5, c5, rfl, _, R5, _, _, B5⟩ := h5.open
          have HC5 := Lib.hid (equal_any (c := c5) (d := c4) R5 (HK4.out.below (pure_trans HBl.out B5)))
          have HSE := Lib.hid (It.same_enc hvp HV.out.2)
          rw [HSE.out] at HC5
          have HB5 := Lib.hid (pure_trans HBl.out B5)
          have HIY5 := Lib.hid (HIY.out.below B5)
          have hx3' := (B5.cell (p := ⟨B, 3, none⟩) (lt_of_cell hx3)).trans hx3
          have g0 := (B5.cell (p := ⟨b1, o1 + (T + 1) * 4, none⟩) (lt_of_cell d0)).trans d0
          have g1 := (B5.cell (p := ⟨b1, o1 + (T + 1) * 4 + 1, none⟩) (lt_of_cell d1)).trans d1
          have g2 := (B5.cell (p := ⟨b1, o1 + (T + 1) * 4 + 2, none⟩) (lt_of_cell d2)).trans d2
          have g3 := (B5.cell (p := ⟨b1, o1 + (T + 1) * 4 + 3, none⟩) (lt_of_cell d3)).trans d3
          have hss := HLK.out
          clear hx3 c0 c1 c2 c3 d0 d1 d2 d3 R5 B5 h5 HC HLK HIY HBl HSE
          generalize (It.enc p).length = PL at *
          go_wp2_with fail
          refine HC5.out.mono ?_
          rintro e w' ⟨rfl, rfl⟩
          cases hs : It.same p q with
          | true =>
            rw [if_pos hs] at hss
            subst hss
            have hzw := valid_wf hvz
            have HC6 := Lib.hid (cpd_any 256 z Y w5 _ hzw.2.2 (by omega) (It.st_of hzw.1 hzw.2.1) HIY5.out)
            clear hzw hs
            go_wp2_with fail
            refine HC6.out.mono ?_
            rintro e w6 ⟨Z, rfl, hI6, B6⟩
            have HR6 := Lib.hid (Below.keep (pure_trans HB5.out B6) HR4.out (lt_of_block HR4.out))
            have hp4 := HP4.out.size
            have hp5 := HB5.out.size
            have hr4 := lt_of_block HR4.out
            have HP6 := Lib.hid (HP4.out.trans ((pure_trans HB5.out B6).mono (by have := HP4.out.size; omega)))
            have HI6 := Lib.hid (hI6.imp (ok' := fun b => B + 3 ≤ b) fun b hb _ => by omega)
            clear hI6 B6 g0 g1 g2 g3 hx3'
            obtain ⟨r0, r1, r2, r3⟩ := cell_of4 HR6.out
            obtain ⟨f0, f1, f2, f3⟩ := frozen_of4 HR6.out
            go_wp2_with fail
            clear r0 r1 r2 r3 f0 f1 f2 f3
            have hp4 := put4 (HR6.out) (.int .i64 z.kind) (.int .u64 (z.num : Int)) (.slice Z.ab Z.nb Z.cb) (.slice Z.ai Z.ni Z.ci)
            have hs4 := put4_keep (W := w6) (b := B + 2) (.int .i64 z.kind) (.int .u64 (z.num : Int)) (.slice Z.ab Z.nb Z.cb) (.slice Z.ai Z.ni Z.ci)
            have hb4 := fun (n9 : Nat) (u9 : World) (h9 : Below n9 u9 (w6)) (hb9 : n9 ≤ B + 2) => put4_below h9 hb9 (.int .i64 z.kind) (.int .u64 (z.num : Int)) (.slice Z.ab Z.nb Z.cb) (.slice Z.ai Z.ni Z.ci)
            generalize ((((w6).setCell ⟨B + 2, 0, none⟩ (.int .i64 z.kind)).setCell ⟨B + 2, 1, none⟩ (.int .u64 (z.num : Int))).setCell ⟨B + 2, 2, none⟩ (.slice Z.ab Z.nb Z.cb)).setCell ⟨B + 2, 3, none⟩ (.slice Z.ai Z.ni Z.ci) = W' at *
            obtain ⟨g0, g1, g2, g3⟩ := cell_of4 hp4
            refine bodyPost_ret (v := .tuple #[.agg #[.int .i64 z.kind, .int .u64 (z.num : Int), .slice Z.ab Z.nb Z.cb, .slice Z.ai Z.ni Z.ci], .bool true]) (by simp [results, Tryz.results63, go_sem, g0, g1, g2, g3]) rfl ?_
            exact ⟨Z, rfl, HI6.out.keep fun b hb _ => ⟨hs4.2 b (by omega), by omega⟩, by rw [hB]; exact hb4 B w HP6.out (by omega)⟩
          | false =>
            rw [if_neg (by rw [hs]; decide)] at hss
            have HSS := Lib.hid hss
            clear hs hss g0 g1 g2 g3 hx3'
            go_wp2_with fail
            go_roundw
            case rel => exact ⟨t + 1, by have := HT.out; subst this; go_num, by have := HT.out; omega, by have := HT.out; subst this; exact HSS.out, HB5.out⟩
            case measure => simp [intOf]; omega
        · have hTe : m.kids.drop T = [] := List.drop_eq_nil_of_le (by have := HNI.out; omega)
          rw [hTe] at hlk
          unfold It.look at hlk
          subst hlk
          have hz : ¬ (T : Int) < (A.ni : Int) := by omega
          have HR6 := Lib.hid (Below.keep hBl HR4.out (lt_of_block HR4.out))
          have HP6 := Lib.hid (HP4.out.trans (hBl.mono (by have := HP4.out.size; omega)))
          clear hBl hTe
          obtain ⟨r0, r1, r2, r3⟩ := cell_of4 HR6.out
          obtain ⟨f0, f1, f2, f3⟩ := frozen_of4 HR6.out
          go_wp2_with fail
          clear r0 r1 r2 r3 f0 f1 f2 f3
          have hp4 := put4 (HR6.out) (.int .i64 0) (.int .u64 0) (.slice none 0 0) (.slice none 0 0)
          have hs4 := put4_keep (W := u) (b := B + 2) (.int .i64 0) (.int .u64 0) (.slice none 0 0) (.slice none 0 0)
          have hb4 := fun (n9 : Nat) (u9 : World) (h9 : Below n9 u9 (u)) (hb9 : n9 ≤ B + 2) => put4_below h9 hb9 (.int .i64 0) (.int .u64 0) (.slice none 0 0) (.slice none 0 0)
          generalize ((((u).setCell ⟨B + 2, 0, none⟩ (.int .i64 0)).setCell ⟨B + 2, 1, none⟩ (.int .u64 0)).setCell ⟨B + 2, 2, none⟩ (.slice none 0 0)).setCell ⟨B + 2, 3, none⟩ (.slice none 0 0) = W' at *
          obtain ⟨g0, g1, g2, g3⟩ := cell_of4 hp4
          refine bodyPost_ret (v := .tuple #[.agg #[.int .i64 0, .int .u64 0, .slice none 0 0, .slice none 0 0], .bool false]) (by simp [results, Tryz.results63, go_sem, g0, g1, g2, g3]) rfl ?_
          exact ⟨rfl, by rw [hB]; exact hb4 B w HP6.out (by omega)⟩
set_option maxHeartbeats 8000000 in
theorem rfind_any (m q : It) (A K : Ad) (w : World) (ok ok' : Nat → Prop) (hI : IR ok w m A) (hQ : IR ok' w q K) (hE : Env w) :
    Calls Tryz.prog 64 #[.agg #[.int .i64 m.kind, .int .u64 (m.num : Int), .slice A.ab A.nb A.cb, .slice A.ai A.ni A.ci], .agg #[.int .i64 q.kind, .int .u64 (q.num : Int), .slice K.ab K.nb K.cb, .slice K.ai K.ni K.ci]] w (FP (It.findP m q) w) := by
  have P0 := pure_alloc w (.cells #[.int .i64 m.kind, .int .u64 (m.num : Int), .slice A.ab A.nb A.cb, .slice A.ai A.ni A.ci] 26)
  have N0 := alloc_new w (.cells #[.int .i64 m.kind, .int .u64 (m.num : Int), .slice A.ab A.nb A.cb, .slice A.ai A.ni A.ci] 26)
  have P1 := pure_alloc (w.alloc (.cells #[.int .i64 m.kind, .int .u64 (m.num : Int), .slice A.ab A.nb A.cb, .slice A.ai A.ni A.ci] 26)) (.cells #[.int .i64 q.kind, .int .u64 (q.num : Int), .slice K.ab K.nb K.cb, .slice K.ai K.ni K.ci] 26)
  have N1 := alloc_new (w.alloc (.cells #[.int .i64 m.kind, .int .u64 (m.num : Int), .slice A.ab A.nb A.cb, .slice A.ai A.ni A.ci] 26)) (.cells #[.int .i64 q.kind, .int .u64 (q.num : Int), .slice K.ab K.nb K.cb, .slice K.ai K.ni K.ci] 26)
  have P2 := pure_alloc ((w.alloc (.cells #[.int .i64 m.kind, .int .u64 (m.num : Int), .slice A.ab A.nb A.cb, .slice A.ai A.ni A.ci] 26)).alloc (.cells #[.int .i64 q.kind, .int .u64 (q.num : Int), .slice K.ab K.nb K.cb, .slice K.ai K.ni K.ci] 26)) (.cells #[.int .i64 0, .int .u64 0, .slice none 0 0, .slice none 0 0] 26)
  have N2 := alloc_new ((w.alloc (.cells #[.int .i64 m.kind, .int .u64 (m.num : Int), .slice A.ab A.nb A.cb, .slice A.ai A.ni A.ci] 26)).alloc (.cells #[.int .i64 q.kind, .int .u64 (q.num : Int), .slice K.ab K.nb K.cb, .slice K.ai K.ni K.ci] 26)) (.cells #[.int .i64 0, .int .u64 0, .slice none 0 0, .slice none 0 0] 26)
  have hsz0 : (w.alloc (.cells #[.int .i64 m.kind, .int .u64 (m.num : Int), .slice A.ab A.nb A.cb, .slice A.ai A.ni A.ci] 26)).heap.size = w.heap.size + 1 := by simp
  have hsz1 : ((w.alloc (.cells #[.int .i64 m.kind, .int .u64 (m.num : Int), .slice A.ab A.nb A.cb, .slice A.ai A.ni A.ci] 26)).alloc (.cells #[.int .i64 q.kind, .int .u64 (q.num : Int), .slice K.ab K.nb K.cb, .slice K.ai K.ni K.ci] 26)).heap.size = w.heap.size + 2 := by simp
  rw [hsz0] at N1
  rw [hsz1] at N2
  have HX1 := Lib.hid (Below.keep P2 (Below.keep P1 N0 (lt_of_block N0)) (lt_of_block (Below.keep P1 N0 (lt_of_block N0))))
  have HY1 := Lib.hid (Below.keep P2 N1 (lt_of_block N1))
  have HR1 := Lib.hid N2
  have HP1 := Lib.hid (pure_trans (pure_trans P0 P1) P2)
  have HI1 := Lib.hid (((hI.below P0).below P1).below P2)
  have HQ1 := Lib.hid (((hQ.below P0).below P1).below P2)
  have HE1 := Lib.hid (((hE.below P0).below P1).below P2)
  obtain ⟨x0, x1, x2, x3⟩ := cell_of4 HX1.out
  obtain ⟨y0, y1, y2, y3⟩ := cell_of4 HY1.out
  clear hI hQ hE N0 N1 N2 P0 P1 P2 hsz0 hsz1
  obtain ⟨R, hRR⟩ : ∃ R, It.findP m q = R := ⟨_, rfl⟩
  rw [hRR]
  have HRR := Lib.hid hRR
  clear hRR
  go_enter Tryz.func64, Tryz.ntmps64
  go_upto_region 1 with fail
  generalize ((w.alloc (.cells #[.int .i64 m.kind, .int .u64 (m.num : Int), .slice A.ab A.nb A.cb, .slice A.ai A.ni A.ci] 26)).alloc (.cells #[.int .i64 q.kind, .int .u64 (q.num : Int), .slice K.ab K.nb K.cb, .slice K.ai K.ni K.ci] 26)).alloc (.cells #[.int .i64 0, .int .u64 0, .slice none 0 0, .slice none 0 0] 26) = w1 at *
  generalize hB : w.heap.size = B at *
  by_cases hk : m.kind = 5
  case neg =>
    have hkb : (m.kind != 5) = true := by simpa using hk
    have HN9 : Hid (R = .none) := Lib.hid (HRR.out.symm.trans (if_neg (fun h => hk h.1)))
    obtain ⟨r0, r1, r2, r3⟩ := cell_of4 HR1.out
    obtain ⟨f0, f1, f2, f3⟩ := frozen_of4 HR1.out
    go_wp2_with fail
    clear r0 r1 r2 r3 f0 f1 f2 f3
    have hp4 := put4 (HR1.out) (.int .i64 0) (.int .u64 0) (.slice none 0 0) (.slice none 0 0)
    have hs4 := put4_keep (W := w1) (b := B + 2) (.int .i64 0) (.int .u64 0) (.slice none 0 0) (.slice none 0 0)
    have hb4 := fun (n9 : Nat) (u9 : World) (h9 : Below n9 u9 (w1)) (hb9 : n9 ≤ B + 2) => put4_below h9 hb9 (.int .i64 0) (.int .u64 0) (.slice none 0 0) (.slice none 0 0)
    generalize ((((w1).setCell ⟨B + 2, 0, none⟩ (.int .i64 0)).setCell ⟨B + 2, 1, none⟩ (.int .u64 0)).setCell ⟨B + 2, 2, none⟩ (.slice none 0 0)).setCell ⟨B + 2, 3, none⟩ (.slice none 0 0) = W' at *
    obtain ⟨g0, g1, g2, g3⟩ := cell_of4 hp4
    refine bodyPost_ret (v := .tuple #[.agg #[.int .i64 0, .int .u64 0, .slice none 0 0, .slice none 0 0], .bool false]) (by simp [results, Tryz.results64, go_sem, g0, g1, g2, g3]) rfl ?_
    rw [HN9.out]
    exact ⟨rfl, by rw [hB]; exact hb4 B w HP1.out (by omega)⟩
  have hkb : (m.kind != 5) = false := by simpa using hk
  have HK := Lib.hid hk
  clear hk
  cases hv : It.valid m with
  | false =>
    have HC := Lib.hid (rvalid_any m A w1 _ HI1.out HE1.out false hv)
    go_wp2_with fail
    refine HC.out.mono ?_
    rintro e w2 ⟨rfl, B2⟩
    have HX2 := Lib.hid (Below.keep B2 HX1.out (lt_of_block HX1.out))
    have HY2 := Lib.hid (Below.keep B2 HY1.out (lt_of_block HY1.out))
    have HR2 := Lib.hid (Below.keep B2 HR1.out (lt_of_block HR1.out))
    have HI2 := Lib.hid (HI1.out.below B2)
    have HQ2 := Lib.hid (HQ1.out.below B2)
    have HE2 := Lib.hid (HE1.out.below B2)
    have HP2 := Lib.hid (HP1.out.trans (B2.mono (by have := HP1.out.size; omega)))
    clear B2 HX1 HY1 HR1 HI1 HQ1 HE1 HP1 x0 x1 x2 x3 y0 y1 y2 y3
    obtain ⟨x0, x1, x2, x3⟩ := cell_of4 HX2.out
    obtain ⟨y0, y1, y2, y3⟩ := cell_of4 HY2.out
    clear HC
    have HN9 : Hid (R = .none) := Lib.hid (HRR.out.symm.trans (if_neg (fun h => by rw [hv] at h; cases h.2)))
    obtain ⟨r0, r1, r2, r3⟩ := cell_of4 HR2.out
    obtain ⟨f0, f1, f2, f3⟩ := frozen_of4 HR2.out
    go_wp2_with fail
    clear r0 r1 r2 r3 f0 f1 f2 f3
    have hp4 := put4 (HR2.out) (.int .i64 0) (.int .u64 0) (.slice none 0 0) (.slice none 0 0)
    have hs4 := put4_keep (W := w2) (b := B + 2) (.int .i64 0) (.int .u64 0) (.slice none 0 0) (.slice none 0 0)
    have hb4 := fun (n9 : Nat) (u9 : World) (h9 : Below n9 u9 (w2)) (hb9 : n9 ≤ B + 2) => put4_below h9 hb9 (.int .i64 0) (.int .u64 0) (.slice none 0 0) (.slice none 0 0)
    generalize ((((w2).setCell ⟨B + 2, 0, none⟩ (.int .i64 0)).setCell ⟨B + 2, 1, none⟩ (.int .u64 0)).setCell ⟨B + 2, 2, none⟩ (.slice none 0 0)).setCell ⟨B + 2, 3, none⟩ (.slice none 0 0) = W' at *
    obtain ⟨g0, g1, g2, g3⟩ := cell_of4 hp4
    refine bodyPost_ret (v := .tuple #[.agg #[.int .i64 0, .int .u64 0, .slice none 0 0, .slice none 0 0], .bool false]) (by simp [results, Tryz.results64, go_sem, g0, g1, g2, g3]) rfl ?_
    rw [HN9.out]
    exact ⟨rfl, by rw [hB]; exact hb4 B w HP2.out (by omega)⟩
  | true =>
    have HC := Lib.hid (rvalid_any m A w1 _ HI1.out HE1.out true hv)
    go_wp2_with fail
    refine HC.out.mono ?_
    rintro e w2 ⟨rfl, B2⟩
    have HX2 := Lib.hid (Below.keep B2 HX1.out (lt_of_block HX1.out))
    have HY2 := Lib.hid (Below.keep B2 HY1.out (lt_of_block HY1.out))
    have HR2 := Lib.hid (Below.keep B2 HR1.out (lt_of_block HR1.out))
    have HI2 := Lib.hid (HI1.out.below B2)
    have HQ2 := Lib.hid (HQ1.out.below B2)
    have HE2 := Lib.hid (HE1.out.below B2)
    have HP2 := Lib.hid (HP1.out.trans (B2.mono (by have := HP1.out.size; omega)))
    clear B2 HX1 HY1 HR1 HI1 HQ1 HE1 HP1 x0 x1 x2 x3 y0 y1 y2 y3
    obtain ⟨x0, x1, x2, x3⟩ := cell_of4 HX2.out
    obtain ⟨y0, y1, y2, y3⟩ := cell_of4 HY2.out
    clear HC
    have HL : Hid (It.look m.kids q = R) := Lib.hid ((if_pos ⟨HK.out, hv⟩).symm.trans HRR.out)
    have HEV := Lib.hid (It.map_even hv HK.out)
    have HTL := Lib.hid HI2.out.tl
    have HNI : Hid (A.ni = m.kids.length) := Lib.hid HTL.out.1
    have hni := HEV.out.2
    rw [← HNI.out] at hni
    have HV := Lib.hid hv
    clear hv HRR
    go_wp2_with fail
    go_loopw [6] (fun i W => ∃ t : Nat, i = .int .i64 ((2 * t : Nat) : Int) ∧ 2 * t ≤ A.ni ∧ It.look (m.kids.drop (2 * t)) q = R ∧ Below w2.heap.size w2 W) (fun i _ => A.ni - (intOf i).toNat)
    case atStart => exact ⟨0, rfl, by omega, by simpa using HL.out, Below.refl _ _⟩
    case round =>
      obtain ⟨u, hu⟩ : ∃ u, u = wr := ⟨_, rfl⟩
      subst hu
      obtain ⟨t, rfl, ht, hlk, hBl⟩ := hrel
      obtain ⟨T, hT⟩ : ∃ T, T = 2 * t := ⟨_, rfl⟩
      rw [← hT] at hlk ht ⊢
      have HT := Lib.hid hT
      clear hT
      have hx3 : u.cell? ⟨B, 3, none⟩ = some (.slice A.ai A.ni A.ci) := (hBl.cell (p := ⟨B, 3, none⟩) (lt_of_block HX2.out)).trans x3
      by_cases hTn : T < A.ni
      · have hTm : T + 1 < m.kids.length := by have := HEV.out.1; have := HNI.out; have := HT.out; omega
        rw [It.drop_two hTm] at hlk
        unfold It.look at hlk
        have hT1 := (HTL.out.below hBl).2.2 T (by omega)
        have hT2 := (HTL.out.below hBl).2.2 (T + 1) hTm
        have hvz : It.valid m.kids[T + 1] = true := It.valid_kid HV.out (List.getElem_mem _)
        have hz : (T : Int) < (A.ni : Int) := by omega
        have hcm : (A.ni : Int) ≤ 256 := by omega
        have hw1 : IntKind.i64.wrap ((T : Int) + 1) = ((T + 1 : Nat) : Int) := by rw [IntWalk.i64_in _ (by omega)]; omega
        have hw2 : IntKind.i64.wrap ((T : Int) + 2) = ((T + 2 : Nat) : Int) := by rw [IntWalk.i64_in _ (by omega)]; omega
        generalize m.kids[T] = p at *
        generalize m.kids[T + 1] = z at *
        obtain ⟨b1, o1, X, e1, _, ⟨c0, c1, c2, c3⟩, hIx⟩ := hT1
        obtain ⟨b2, o2, Y, e2, _, ⟨d0, d1, d2, d3⟩, hIy⟩ := hT2
        rw [e1] at e2
        cases e2
        rw [e1] at hx3
        clear e1
        have HIX := Lib.hid hIx
        have HBl := Lib.hid hBl
        have HLK := Lib.hid hlk
        have HIY := Lib.hid hIy
        have HYu := Lib.hid (Below.keep hBl HY2.out (lt_of_block HY2.out))
        have hTc : T + 1 < A.ni := by have := HNI.out; omega
        have hzc : ((T + 1 : Nat) : Int) < (A.ni : Int) := by omega
        have HS : Hid (∀ W, Below u.heap.size u W → W.cell? ⟨B, 3, none⟩ = some (.slice (some ⟨b1, o1, none⟩) A.ni A.ci) ∧ (W.cell? ⟨b1, o1 + T * 4, none⟩ = some (.int .i64 p.kind) ∧ W.cell? ⟨b1, o1 + T * 4 + 1, none⟩ = some (.int .u64 (p.num : Int)) ∧ W.cell? ⟨b1, o1 + T * 4 + 2, none⟩ = some (.slice X.ab X.nb X.cb) ∧ W.cell? ⟨b1, o1 + T * 4 + 3, none⟩ = some (.slice X.ai X.ni X.ci)) ∧ (W.cell? ⟨B + 1, 0, none⟩ = some (.int .i64 q.kind) ∧ W.cell? ⟨B + 1, 1, none⟩ = some (.int .u64 (q.num : Int)) ∧ W.cell? ⟨B + 1, 2, none⟩ = some (.slice K.ab K.nb K.cb) ∧ W.cell? ⟨B + 1, 3, none⟩ = some (.slice K.ai K.ni K.ci))) := Lib.hid fun W hW =>
          ⟨(hW.cell (p := ⟨B, 3, none⟩) (lt_of_cell hx3)).trans hx3, ⟨(hW.cell (p := ⟨b1, o1 + T * 4, none⟩) (lt_of_cell c0)).trans c0, (hW.cell (p := ⟨b1, o1 + T * 4 + 1, none⟩) (lt_of_cell c1)).trans c1, (hW.cell (p := ⟨b1, o1 + T * 4 + 2, none⟩) (lt_of_cell c2)).trans c2, (hW.cell (p := ⟨b1, o1 + T * 4 + 3, none⟩) (lt_of_cell c3)).trans c3⟩, cell_of4 (Below.keep hW HYu.out (lt_of_block HYu.out))⟩
        have HD : Hid (∀ W, Below u.heap.size u W → W.cell? ⟨B, 3, none⟩ = some (.slice (some ⟨b1, o1, none⟩) A.ni A.ci) ∧ (W.cell? ⟨b1, o1 + (T + 1) * 4, none⟩ = some (.int .i64 z.kind) ∧ W.cell? ⟨b1, o1 + (T + 1) * 4 + 1, none⟩ = some (.int .u64 (z.num : Int)) ∧ W.cell? ⟨b1, o1 + (T + 1) * 4 + 2, none⟩ = some (.slice Y.ab Y.nb Y.cb) ∧ W.cell? ⟨b1, o1 + (T + 1) * 4 + 3, none⟩ = some (.slice Y.ai Y.ni Y.ci))) := Lib.hid fun W hW =>
          ⟨(hW.cell (p := ⟨B, 3, none⟩) (lt_of_cell hx3)).trans hx3, (hW.cell (p := ⟨b1, o1 + (T + 1) * 4, none⟩) (lt_of_cell d0)).trans d0, (hW.cell (p := ⟨b1, o1 + (T + 1) * 4 + 1, none⟩) (lt_of_cell d1)).trans d1, (hW.cell (p := ⟨b1, o1 + (T + 1) * 4 + 2, none⟩) (lt_of_cell d2)).trans d2, (hW.cell (p := ⟨b1, o1 + (T + 1) * 4 + 3, none⟩) (lt_of_cell d3)).trans d3⟩
        clear hBl hlk hIx hIy d0 d1 d2 d3
        go_upto_region 6 with fail
        clear c0 c1 c2 c3 hx3
        refine wp_region_held_drew (S := (fun w' => w'.cell? ⟨B, 3, none⟩ = some (.slice (some ⟨b1, o1, none⟩) A.ni A.ci) ∧ (w'.cell? ⟨b1, o1 + T * 4, none⟩ = some (.int .i64 p.kind) ∧ w'.cell? ⟨b1, o1 + T * 4 + 1, none⟩ = some (.int .u64 (p.num : Int)) ∧ w'.cell? ⟨b1, o1 + T * 4 + 2, none⟩ = some (.slice X.ab X.nb X.cb) ∧ w'.cell? ⟨b1, o1 + T * 4 + 3, none⟩ = some (.slice X.ai X.ni X.ci)) ∧ (w'.cell? ⟨B + 1, 0, none⟩ = some (.int .i64 q.kind) ∧ w'.cell? ⟨B + 1, 1, none⟩ = some (.int .u64 (q.num : Int)) ∧ w'.cell? ⟨B + 1, 2, none⟩ = some (.slice K.ab K.nb K.cb) ∧ w'.cell? ⟨B + 1, 3, none⟩ = some (.slice K.ai K.ni K.ci)))) (by kernel_rfl) (HS.out _ (Below.refl _ _).drew) (fun hHeld => ?_)
        refine wpAnyH_take (i := 0) (v := ?_) rfl (by kernel_rfl) (by kernel_rfl) (by kernel_rfl) (fun _ _ _ h => h) (Or.inl ⟨by rfl, ?_⟩) hHeld ?_
        rotate_left
        · (intro W hSw; (try dsimp only at hSw); go_simp; try with_reducible rfl)
        try simp only [Act.put, List.setIfInBounds_toArray, List.set_cons_zero, List.set_cons_succ, List.getElem_toArray, List.getElem_cons_succ, List.getElem_cons_zero]
        refine wpAnyH_take (i := 1) (v := ?_) rfl (by kernel_rfl) (by kernel_rfl) (by kernel_rfl) (fun _ _ _ h => h) (Or.inl ⟨by rfl, ?_⟩) hHeld ?_
        rotate_left
        · (intro W hSw; (try dsimp only at hSw); go_simp; try with_reducible rfl)
        try simp only [Act.put, List.setIfInBounds_toArray, List.set_cons_zero, List.set_cons_succ, List.getElem_toArray, List.getElem_cons_succ, List.getElem_cons_zero]
        refine wpAnyH_take (i := 2) (v := ?_) rfl (by kernel_rfl) (by kernel_rfl) (by kernel_rfl) (fun _ _ _ h => h) (Or.inl ⟨by rfl, ?_⟩) hHeld ?_
        rotate_left
        · (intro W hSw; (try dsimp only at hSw); go_simp; try with_reducible rfl)
        try simp only [Act.put, List.setIfInBounds_toArray, List.set_cons_zero, List.set_cons_succ, List.getElem_toArray, List.getElem_cons_succ, List.getElem_cons_zero]
        refine wpAnyH_take (i := 3) (v := ?_) rfl (by kernel_rfl) (by kernel_rfl) (by kernel_rfl) (fun _ _ _ h => h) (Or.inl ⟨by rfl, ?_⟩) hHeld ?_
        rotate_left
        · (intro W hSw; (try dsimp only at hSw); go_simp; try with_reducible rfl)
        try simp only [Act.put, List.setIfInBounds_toArray, List.set_cons_zero, List.set_cons_succ, List.getElem_toArray, List.getElem_cons_succ, List.getElem_cons_zero]
        refine wpAnyH_take (i := 4) (v := ?_) rfl (by kernel_rfl) (by kernel_rfl) (by kernel_rfl) (fun _ _ _ h => h) (Or.inl ⟨by rfl, ?_⟩) hHeld ?_
        rotate_left
        · (intro W hSw; (try dsimp only at hSw); go_simp; try with_reducible rfl)
        try simp only [Act.put, List.setIfInBounds_toArray, List.set_cons_zero, List.set_cons_succ, List.getElem_toArray, List.getElem_cons_succ, List.getElem_cons_zero]
        refine wpAnyH_take (i := 5) (v := ?_) rfl (by kernel_rfl) (by kernel_rfl) (by kernel_rfl) (fun _ _ _ h => h) (Or.inl ⟨by rfl, ?_⟩) hHeld ?_
        rotate_left
        · (intro W hSw; (try dsimp only at hSw); go_simp; try with_reducible rfl)
        try simp only [Act.put, List.setIfInBounds_toArray, List.set_cons_zero, List.set_cons_succ, List.getElem_toArray, List.getElem_cons_succ, List.getElem_cons_zero]
        refine wpAnyH_ready (rs := [6]) (by kernel_rfl) (by simp) ?_
        refine AllReadyH.cons rfl (fun K1 hK1 => ?_) AllReadyH.nil
        go_simp
        refine (same_any p q X K _ _ _ (HIX.out.below (below_drewN (Below.refl _ _) 1)) ((HQ2.out.below HBl.out).below (below_drewN (Below.refl _ _) 1))).mono ?_
        rintro e w5 ⟨rfl, B5⟩
        have HBu := Lib.hid (pure_trans (below_drewN (Below.refl u.heap.size u) 1) B5)
        refine hK1.out _ _ (HS.out _ HBu.out) (fun hHeld => ?_)
        clear hK1 B5
        try simp only [Act.put, List.setIfInBounds_toArray, List.set_cons_zero, List.set_cons_succ, List.getElem_toArray, List.getElem_cons_succ, List.getElem_cons_zero]
        refine wpAnyH_done (by kernel_rfl) ?_ _
        try simp only [Act.put, List.setIfInBounds_toArray, List.set_cons_zero, List.set_cons_succ, List.getElem_toArray, List.getElem_cons_succ, List.getElem_cons_zero]
        have HB5 := Lib.hid (pure_trans HBl.out HBu.out)
        have HIY5 := Lib.hid (HIY.out.below HBu.out)
        obtain ⟨hx3', g0, g1, g2, g3⟩ := HD.out _ HBu.out
        have hss := HLK.out
        clear hHeld HS HD HBu HIY HLK HBl HIX
        cases hs : It.same p q with
        | true =>
          rw [if_pos hs] at hss
          subst hss
          have hzw := valid_wf hvz
          have hnum := HIY5.out.num
          have HC6 := Lib.hid (copy_any 256 z Y w5 _ hzw.2.2 (by omega) (It.st_of hzw.1 hzw.2.1) HIY5.out)
          have HNU := Lib.hid hnum
          clear hzw hs hnum
          go_wp2_with fail
          refine HC6.out.mono ?_
          rintro e w6 h6
          obtain ⟨Z, rfl, hI6, B6⟩ := h6.ir HNU.out
          have HR6 := Lib.hid (Below.keep (pure_trans HB5.out B6) HR2.out (lt_of_block HR2.out))
          have hp4 := HP2.out.size
          have hp5 := HB5.out.size
          have hr4 := lt_of_block HR2.out
          have HP6 := Lib.hid (HP2.out.trans ((pure_trans HB5.out B6).mono (by have := HP2.out.size; omega)))
          have HI6 := Lib.hid (hI6.imp (ok' := fun b => B + 3 ≤ b) fun b hb _ => by omega)
          clear hI6 B6 h6 g0 g1 g2 g3 hx3'
          obtain ⟨r0, r1, r2, r3⟩ := cell_of4 HR6.out
          obtain ⟨f0, f1, f2, f3⟩ := frozen_of4 HR6.out
          go_wp2_with fail
          clear r0 r1 r2 r3 f0 f1 f2 f3
          have hp4 := put4 (HR6.out) (.int .i64 z.kind) (.int .u64 (z.num : Int)) (.slice Z.ab Z.nb Z.cb) (.slice Z.ai Z.ni Z.ci)
          have hs4 := put4_keep (W := w6) (b := B + 2) (.int .i64 z.kind) (.int .u64 (z.num : Int)) (.slice Z.ab Z.nb Z.cb) (.slice Z.ai Z.ni Z.ci)
          have hb4 := fun (n9 : Nat) (u9 : World) (h9 : Below n9 u9 (w6)) (hb9 : n9 ≤ B + 2) => put4_below h9 hb9 (.int .i64 z.kind) (.int .u64 (z.num : Int)) (.slice Z.ab Z.nb Z.cb) (.slice Z.ai Z.ni Z.ci)
          generalize ((((w6).setCell ⟨B + 2, 0, none⟩ (.int .i64 z.kind)).setCell ⟨B + 2, 1, none⟩ (.int .u64 (z.num : Int))).setCell ⟨B + 2, 2, none⟩ (.slice Z.ab Z.nb Z.cb)).setCell ⟨B + 2, 3, none⟩ (.slice Z.ai Z.ni Z.ci) = W' at *
          obtain ⟨g0, g1, g2, g3⟩ := cell_of4 hp4
          refine bodyPost_ret (v := .tuple #[.agg #[.int .i64 z.kind, .int .u64 (z.num : Int), .slice Z.ab Z.nb Z.cb, .slice Z.ai Z.ni Z.ci], .bool true]) (by simp [results, Tryz.results64, go_sem, g0, g1, g2, g3]) rfl ?_
          exact ⟨Z, rfl, HI6.out.keep fun b hb _ => ⟨hs4.2 b (by omega), by omega⟩, by rw [hB]; exact hb4 B w HP6.out (by omega)⟩
        | false =>
          rw [if_neg (by rw [hs]; decide)] at hss
          have HSS := Lib.hid hss
          clear hs hss g0 g1 g2 g3 hx3'
          go_wp2_with fail
          go_roundw
          case rel => exact ⟨t + 1, by have := HT.out; subst this; go_num, by have := HT.out; omega, by have := HT.out; subst this; exact HSS.out, HB5.out⟩
          case measure => simp [intOf]; omega
      · have hTe : m.kids.drop T = [] := List.drop_eq_nil_of_le (by have := HNI.out; omega)
        rw [hTe] at hlk
        unfold It.look at hlk
        subst hlk
        have hz : ¬ (T : Int) < (A.ni : Int) := by omega
        have HR6 := Lib.hid (Below.keep hBl HR2.out (lt_of_block HR2.out))
        have HP6 := Lib.hid (HP2.out.trans (hBl.mono (by have := HP2.out.size; omega)))
        clear hBl hTe
        obtain ⟨r0, r1, r2, r3⟩ := cell_of4 HR6.out
        obtain ⟨f0, f1, f2, f3⟩ := frozen_of4 HR6.out
        go_wp2_with fail
        clear r0 r1 r2 r3 f0 f1 f2 f3
        have hp4 := put4 (HR6.out) (.int .i64 0) (.int .u64 0) (.slice none 0 0) (.slice none 0 0)
        have hs4 := put4_keep (W := u) (b := B + 2) (.int .i64 0) (.int .u64 0) (.slice none 0 0) (.slice none 0 0)
        have hb4 := fun (n9 : Nat) (u9 : World) (h9 : Below n9 u9 (u)) (hb9 : n9 ≤ B + 2) => put4_below h9 hb9 (.int .i64 0) (.int .u64 0) (.slice none 0 0) (.slice none 0 0)
        generalize ((((u).setCell ⟨B + 2, 0, none⟩ (.int .i64 0)).setCell ⟨B + 2, 1, none⟩ (.int .u64 0)).setCell ⟨B + 2, 2, none⟩ (.slice none 0 0)).setCell ⟨B + 2, 3, none⟩ (.slice none 0 0) = W' at *
        obtain ⟨g0, g1, g2, g3⟩ := cell_of4 hp4
        refine bodyPost_ret (v := .tuple #[.agg #[.int .i64 0, .int .u64 0, .slice none 0 0, .slice none 0 0], .bool false]) (by simp [results, Tryz.results64, go_sem, g0, g1, g2, g3]) rfl ?_
        exact ⟨rfl, by rw [hB]; exact hb4 B w HP6.out (by omega)⟩
end Go.Proofs.YtelefkkkccilaaaGreatDoor
