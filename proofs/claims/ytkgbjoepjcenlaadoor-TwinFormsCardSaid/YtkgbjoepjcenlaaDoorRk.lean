/- The walk of Normal, at a valid term. -/
import Derived.Test.YtkgbjoepjcenlaaDoorRi
namespace Go.Proofs.YtkgbjoepjcenlaaDoor
open Go.RowKit
def NmPost (r : Tm) (w : World) (e : Ending) (w' : World) : Prop := ∃ a n c, e = .returned (.tuple #[.agg #[.int .i64 r.op, .int .i64 r.num, .slice a n c], .int .i64 0]) ∧ (TR (fun b => w.heap.size ≤ b) w' r a n ∧ n ≤ c) ∧ Below w.heap.size w w'
set_option maxHeartbeats 1000000 in
theorem normT_any (t : Tm) (a : Option Addr) (n c : Nat) (w : World) (ok : Nat → Prop) (hT : TR ok w t a n) (hv : Tm.valid t = true) :
    Calls Tryd.prog 16 #[.agg #[.int .i64 t.op, .int .i64 t.num, .slice a n c]] w (NmPost (Tm.normal t) w) := by
  have hsz : t.size ≤ 1000000 := by
    unfold Tm.valid at hv
    rw [Bool.and_eq_true] at hv
    have := hv.1
    simp at this; omega
  have P1 : Below w.heap.size w ((w.alloc (.cells #[.int .i64 t.op, .int .i64 t.num, .slice a n c] 28)).alloc (.cells #[.int .i64 0, .int .i64 0, .slice none 0 0] 28)) := (pure_alloc _ _).alloc (by simp) _
  have N1 : ((w.alloc (.cells #[.int .i64 t.op, .int .i64 t.num, .slice a n c] 28)).alloc (.cells #[.int .i64 0, .int .i64 0, .slice none 0 0] 28)).heap[w.heap.size]? = some (.cells #[.int .i64 t.op, .int .i64 t.num, .slice a n c] 28 (0, 0)) := alloc_keep (alloc_new _ _)
  have Z1 : ((w.alloc (.cells #[.int .i64 t.op, .int .i64 t.num, .slice a n c] 28)).alloc (.cells #[.int .i64 0, .int .i64 0, .slice none 0 0] 28)).heap[w.heap.size + 1]? = some (.cells #[.int .i64 0, .int .i64 0, .slice none 0 0] 28 (0, 0)) := alloc_new' _ _ _ (by simp)
  have HT := Lib.hid (hT.below P1)
  have HV := Lib.hid hv
  clear hT hv
  go_enter Tryd.func16, Tryd.ntmps16
  go_upto_region 1 with fail
  generalize ((w.alloc (.cells #[.int .i64 t.op, .int .i64 t.num, .slice a n c] 28)).alloc (.cells #[.int .i64 0, .int .i64 0, .slice none 0 0] 28)) = w1 at *
  have HP1 := Lib.hid P1
  have HN1 := Lib.hid N1
  have HZ1 := Lib.hid Z1
  have x0 := cell_of_arr N1 0
  have x1 := cell_of_arr N1 1
  have x2 := cell_of_arr N1 2
  simp at x0 x1 x2
  clear P1 N1 Z1
  go_wp2_with fail
  refine (valid_any t a n c w1 _ HT.out).mono ?_
  rintro e w2 ⟨rfl, hw2⟩
  rw [HV.out]
  have HP2 := Lib.hid (HP1.out.trans (hw2.mono HP1.out.size))
  have HT2 := Lib.hid (HT.out.below hw2)
  have N2 := Below.keep hw2 HN1.out (lt_of_block HN1.out)
  have HZ2 := Lib.hid (Below.keep hw2 HZ1.out (lt_of_block HZ1.out))
  clear hw2 x0 x1 x2 HP1 HT HN1 HZ1
  have x0 := cell_of_arr N2 0
  have x1 := cell_of_arr N2 1
  have x2 := cell_of_arr N2 2
  simp at x0 x1 x2
  clear N2
  go_wp2_with fail
  refine (normal_any t.size t a n c w2 _ (Nat.le_refl _) HT2.out (by omega)).mono ?_
  rintro e w3 ⟨ra, rn, rc, rfl, ⟨hTR, hrc⟩, hw3⟩
  have HP3 := Lib.hid (HP2.out.trans (hw3.mono HP2.out.size))
  have Z3 := Below.keep hw3 HZ2.out (lt_of_block HZ2.out)
  have hs2 := lt_of_block HZ2.out
  have hT3 : TR (fun b => okW w.heap.size [] b ∧ b ≠ w.heap.size + 1) w3 (Tm.normal t) ra rn := hTR.imp fun k hk _ => ⟨⟨by omega, fun p hp => by simp at hp⟩, by omega⟩
  have HT3 := Lib.hid hT3
  have HZ3 := Lib.hid Z3
  clear hw3 hTR hT3 HP2 HT2 HZ2 x0 x1 x2 hs2
  have r0 := cell_of_arr Z3 0
  have r1 := cell_of_arr Z3 1
  have r2 := cell_of_arr Z3 2
  simp at r0 r1 r2
  have f0 := frozen_of_arr Z3 0
  have f1 := frozen_of_arr Z3 1
  have f2 := frozen_of_arr Z3 2
  clear Z3
  obtain ⟨S1, S2, S3⟩ := put3 HZ3.out (.int .i64 (Tm.normal t).op) (.int .i64 (Tm.normal t).num) (.slice ra rn rc) _ rfl
  have HE : Hid (NmPost (Tm.normal t) w (.returned (.tuple #[.agg #[.int .i64 (Tm.normal t).op, .int .i64 (Tm.normal t).num, .slice ra rn rc], .int .i64 0])) (((w3.setCell ⟨w.heap.size + 1, 0, none⟩ (.int .i64 (Tm.normal t).op)).setCell ⟨w.heap.size + 1, 1, none⟩ (.int .i64 (Tm.normal t).num)).setCell ⟨w.heap.size + 1, 2, none⟩ (.slice ra rn rc))) :=
    ⟨ra, rn, rc, rfl, ⟨HT3.out.keep fun k hk _ => ⟨S2 k hk.2, hk.1.1⟩, hrc⟩, RB.stored HP3.out (by omega) _ _ _⟩
  have p0 := cell_of_arr S1 0
  have p1 := cell_of_arr S1 1
  have p2 := cell_of_arr S1 2
  simp at p0 p1 p2
  clear S1 S2 S3
  go_wp2_with fail
  exact bodyPost_ret (v := .tuple #[.agg #[.int .i64 (Tm.normal t).op, .int .i64 (Tm.normal t).num, .slice ra rn rc], .int .i64 0]) (by simp [results, Tryd.results16, go_sem, p0, p1, p2]) rfl HE.out
end Go.Proofs.YtkgbjoepjcenlaaDoor
