/- The walks of Derives, of name and of Print. -/
import Derived.Test.YtkgbjoepjcenlaaDoorWr
namespace Go.Proofs.YtkgbjoepjcenlaaDoor
open Go.RowKit Go.Maps
def DPost (l : List Tm) (g : Tm) (w : World) (e : Ending) (w' : World) : Prop := ∃ C, Tm.IsCl l C ∧ e = .returned (.tuple #[.bool (Tm.builds C (Tm.normal g)), .int .i64 0]) ∧ Below w.heap.size w w'
set_option maxHeartbeats 800000 in
theorem derives_any (l : List Tm) (a : Option Addr) (n c : Nat) (g : Tm) (ga : Option Addr) (gn gc : Nat) (w : World) (ok ok' : Nat → Prop) (hTL : TL ok w l a n) (hTG : TR ok' w g ga gn) (hv : ∀ t ∈ l, Tm.valid t = true) (hg : Tm.valid g = true) (hl : l.length ≤ 60) (hA : (Tm.accN l).length ≤ 400) (hE : Env w) :
    Calls Tryd.prog 10 #[.slice a n c, .agg #[.int .i64 g.op, .int .i64 g.num, .slice ga gn gc]] w (DPost l g w) := by
  have P1 := pure_alloc w (.cells #[.int .i64 g.op, .int .i64 g.num, .slice ga gn gc] 28)
  have N1 := alloc_new w (.cells #[.int .i64 g.op, .int .i64 g.num, .slice ga gn gc] 28)
  have HTL := Lib.hid (hTL.below P1)
  have HTG := Lib.hid (hTG.below P1)
  have HE := Lib.hid (hE.below P1)
  have HV := Lib.hid hv
  have HG := Lib.hid hg
  have HL := Lib.hid hl
  have HA := Lib.hid hA
  have hvn := Tm.valid_normal hg
  have hsg : g.size ≤ 2000 := by simp [Tm.valid] at hg; exact hg.1
  have hsn : (Tm.normal g).size ≤ 2000 := by simp [Tm.valid] at hvn; exact hvn.1
  have HWN := Lib.hid (Tm.valid_wf hvn)
  clear hTL hTG hE hv hg hl hA hvn
  go_enter Tryd.func10, Tryd.ntmps10
  go_upto_region 1 with fail
  generalize (w.alloc (.cells #[.int .i64 g.op, .int .i64 g.num, .slice ga gn gc] 28)) = w1 at *
  have HP1 := Lib.hid P1
  have HN1 := Lib.hid N1
  have x0 := cell_of_arr N1 0
  have x1 := cell_of_arr N1 1
  have x2 := cell_of_arr N1 2
  simp at x0 x1 x2
  clear P1 N1
  go_wp2_with fail
  refine (valid_any g ga gn gc w1 _ HTG.out).mono ?_
  rintro e w2 ⟨rfl, hw2⟩
  rw [HG.out]
  have HP2 := Lib.hid (pure_trans HP1.out hw2)
  have HTL2 := Lib.hid (HTL.out.below hw2)
  have HTG2 := Lib.hid (HTG.out.below hw2)
  have HE2 := Lib.hid (HE.out.below hw2)
  have HN2 := Lib.hid (Below.keep hw2 HN1.out (lt_of_block HN1.out))
  clear hw2 x0 x1 x2 HP1 HTL HTG HE HN1
  go_wp2_with fail
  refine (closed_any l a n c w2 _ HTL2.out HV.out HL.out HA.out HE2.out).mono ?_
  rintro e w3 ⟨K, M, C, rfl, hKB, hCl, hw3⟩
  have HP3 := Lib.hid (pure_trans HP2.out hw3)
  have HTG3 := Lib.hid (HTG2.out.below hw3)
  have HE3 := Lib.hid (HE2.out.below hw3)
  have HKB := Lib.hid hKB
  have HCL := Lib.hid hCl
  have N3 := Below.keep hw3 HN2.out (lt_of_block HN2.out)
  clear hw3 hKB hCl HP2 HTL2 HTG2 HE2 HN2
  have x0 := cell_of_arr N3 0
  have x1 := cell_of_arr N3 1
  have x2 := cell_of_arr N3 2
  simp at x0 x1 x2
  clear N3
  go_wp2_with fail
  refine (normal_any g.size g ga gn gc w3 _ (Nat.le_refl _) HTG3.out (by omega)).mono ?_
  rintro e w4 ⟨ra, rn, rc, rfl, ⟨hTR, hrc⟩, hw4⟩
  have HP4 := Lib.hid (pure_trans HP3.out hw4)
  have HBA := Lib.hid (builds_any K M C (Tm.normal g).size (Tm.normal g) ra rn rc w4 _ (Nat.le_refl _) hTR HWN.out (HE3.out.below hw4) (HKB.out.below hw4) (by omega))
  clear hw4 hTR x0 x1 x2
  go_wp2_with fail
  refine HBA.out.mono ?_
  rintro e w5 ⟨rfl, hw5⟩
  have HP5 := Lib.hid (pure_trans HP4.out hw5)
  clear hw5 HBA
  go_wp2_with fail
  go_ret2
  exact ⟨C, HCL.out, rfl, HP5.out⟩
theorem name_any (q : Int) (w : World) : Calls Tryd.prog 14 #[.int .i64 q] w fun e w' => e = .returned (.agg #[.int .i64 1, .int .i64 q, .slice none 0 0]) ∧ Below w.heap.size w w' := by
  have P1 := Lib.hid (pure_alloc w (.cells #[.int .i64 1, .int .i64 q, .slice none 0 0] 28))
  have N1 := alloc_new w (.cells #[.int .i64 1, .int .i64 q, .slice none 0 0] 28)
  go_enter Tryd.func14, Tryd.ntmps14
  go_wp2_with fail
  generalize w.alloc (.cells #[.int .i64 1, .int .i64 q, .slice none 0 0] 28) = w1 at *
  have p0 := cell_of_arr N1 0
  have p1 := cell_of_arr N1 1
  have p2 := cell_of_arr N1 2
  simp at p0 p1 p2
  refine bodyPost_ret (v := .agg #[.int .i64 1, .int .i64 q, .slice none 0 0]) (by simp [results, Tryd.results14, go_sem, p0, p1, p2]) rfl ?_
  exact ⟨rfl, P1.out⟩
theorem tr_name (ok : Nat → Prop) (w : World) (q : Int) : TR ok w (Tm.mk 1 q []) none 0 := TR_iff.2 (TL.nil _ _ _)
set_option maxHeartbeats 400000 in
theorem print_any (t : Tm) (a : Option Addr) (n c : Nat) (w : World) (ok : Nat → Prop) (hT : TR ok w t a n) (hv : Tm.valid t = true) (hE : Env w) :
    Calls Tryd.prog 23 #[.agg #[.int .i64 t.op, .int .i64 t.num, .slice a n c]] w fun e w' => e = .returned (Str (Tm.text t)) ∧ Below w.heap.size w w' := by
  have P1 := pure_alloc w (.cells #[.int .i64 t.op, .int .i64 t.num, .slice a n c] 28)
  have N1 := alloc_new w (.cells #[.int .i64 t.op, .int .i64 t.num, .slice a n c] 28)
  have HT := Lib.hid (hT.below P1)
  have HE := Lib.hid (hE.below P1)
  have HV := Lib.hid hv
  have hs : t.size ≤ 2000 := by simp [Tm.valid] at hv; exact hv.1
  clear hT hE hv
  go_enter Tryd.func23, Tryd.ntmps23
  go_upto_region 1 with fail
  generalize w.alloc (.cells #[.int .i64 t.op, .int .i64 t.num, .slice a n c] 28) = w1 at *
  have HP1 := Lib.hid P1
  have HN1 := Lib.hid N1
  have x0 := cell_of_arr N1 0
  have x1 := cell_of_arr N1 1
  have x2 := cell_of_arr N1 2
  simp at x0 x1 x2
  clear P1 N1
  go_wp2_with fail
  refine (valid_any t a n c w1 _ HT.out).mono ?_
  rintro e w2 ⟨rfl, hw2⟩
  rw [HV.out]
  have HP2 := Lib.hid (pure_trans HP1.out hw2)
  have HT2 := Lib.hid (HT.out.below hw2)
  have HE2 := Lib.hid (HE.out.below hw2)
  have N2 := Below.keep hw2 HN1.out (lt_of_block HN1.out)
  clear hw2 x0 x1 x2
  have x0 := cell_of_arr N2 0
  have x1 := cell_of_arr N2 1
  have x2 := cell_of_arr N2 2
  simp at x0 x1 x2
  clear N2
  go_wp2_with fail
  refine (text_any t.size t a n c w2 _ (Nat.le_refl _) HT2.out (Tm.valid_wf HV.out) HE2.out (by omega)).mono ?_
  rintro e w3 ⟨rfl, hw3⟩
  have HP3 := Lib.hid (pure_trans HP2.out hw3)
  clear hw3 x0 x1 x2
  go_wp2_with fail
  go_ret
  exact ⟨rfl, HP3.out⟩
end Go.Proofs.YtkgbjoepjcenlaaDoor
