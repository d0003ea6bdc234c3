/- Numbers, bytes, texts and lists as items. -/
import Derived.Test.YtelefkkkccilaaaGreatDoorLJ
import Derived.Test.YtelefkkkccilaaaGreatDoorLM
import Derived.Test.YtelefkkkccilaaaGreatDoorLA
set_option linter.unusedVariables false
set_option linter.unusedSimpArgs false
namespace Go.Proofs.YtelefkkkccilaaaGreatDoor
open Go.RowKit
set_option maxRecDepth 100000
set_option maxHeartbeats 4000000 in
theorem ruint_any (n : Int) (w : World) : Calls Tryz.prog 68 #[.int .u64 n] w fun e w' => e = .returned (.agg #[.int .i64 0, .int .u64 n, .slice none 0 0, .slice none 0 0]) ∧ Below w.heap.size w w' := by
  have P0 := pure_alloc w (.cells #[.int .i64 0, .int .u64 0, .slice none 0 0, .slice none 0 0] 26)
  have N0 := alloc_new w (.cells #[.int .i64 0, .int .u64 0, .slice none 0 0, .slice none 0 0] 26)
  obtain ⟨r0, r1, r2, r3⟩ := cell_of4 N0
  obtain ⟨q0, q1, q2, q3⟩ := frozen_of4 N0
  have HP := Lib.hid P0
  have HN := Lib.hid N0
  clear P0 N0
  go_enter Tryz.func68, Tryz.ntmps68
  go_upto_region 1 with fail
  generalize w.alloc (.cells #[.int .i64 0, .int .u64 0, .slice none 0 0, .slice none 0 0] 26) = w1 at *
  generalize hB : w.heap.size = B at *
  go_wp2_with fail
  clear r0 r1 r2 r3 q0 q1 q2 q3
  have hp4 := put4 (HN.out) (.int .i64 0) (.int .u64 n) (.slice none 0 0) (.slice none 0 0)
  have hs4 := put4_keep (W := w1) (b := B) (.int .i64 0) (.int .u64 n) (.slice none 0 0) (.slice none 0 0)
  have hb4 := fun (n9 : Nat) (u9 : World) (h9 : Below n9 u9 (w1)) (hb9 : n9 ≤ B) => put4_below h9 hb9 (.int .i64 0) (.int .u64 n) (.slice none 0 0) (.slice none 0 0)
  generalize ((((w1).setCell ⟨B, 0, none⟩ (.int .i64 0)).setCell ⟨B, 1, none⟩ (.int .u64 n)).setCell ⟨B, 2, none⟩ (.slice none 0 0)).setCell ⟨B, 3, none⟩ (.slice none 0 0) = W' at *
  obtain ⟨g0, g1, g2, g3⟩ := cell_of4 hp4
  refine bodyPost_ret (v := .agg #[.int .i64 0, .int .u64 n, .slice none 0 0, .slice none 0 0]) (by simp [results, Tryz.results68, go_sem, g0, g1, g2, g3]) rfl ?_
  exact ⟨rfl, by first | exact hb4 B w HP.out (by omega) | (rw [hB]; exact hb4 B w HP.out (by omega))⟩


set_option maxHeartbeats 4000000 in
theorem ctext_any (l : List UInt8) (w : World) (hl : l.length ≤ 1000000000) :
    Calls Tryz.prog 71 #[.string ⟨l.toArray⟩] w (IP (.mk 3 0 l []) w) := by
  have P0 := pure_alloc w (.cells #[.int .i64 0, .int .u64 0, .slice none 0 0, .slice none 0 0] 26)
  have N0 := alloc_new w (.cells #[.int .i64 0, .int .u64 0, .slice none 0 0, .slice none 0 0] 26)
  obtain ⟨r0, r1, r2, r3⟩ := cell_of4 N0
  obtain ⟨q0, q1, q2, q3⟩ := frozen_of4 N0
  have HP := Lib.hid P0
  have HN := Lib.hid N0
  go_enter Tryz.func71, Tryz.ntmps71
  go_upto_region 1 with fail
  generalize w.alloc (.cells #[.int .i64 0, .int .u64 0, .slice none 0 0, .slice none 0 0] 26) = w1 at *
  generalize hB : w.heap.size = B at *
  have hcv := Lib.run_convert_string_bytes (P := Tryz.prog) w1 9 23 5 ⟨l.toArray⟩ Tryz.underlying9 Tryz.underlying23 Tryz.underlying5
  have hbel : Below w1.heap.size w1 (Lib.bytesWorld w1 5 ⟨l.toArray⟩) := ⟨rfl, rfl, rfl, by rw [Lib.bytesWorld_size]; omega, fun k hk => Lib.bytesWorld_at_old _ _ _ _ hk⟩
  have hcl : ∀ j (h : j < l.length), (Lib.bytesWorld w1 5 ⟨l.toArray⟩).cell? ⟨w1.heap.size, j, none⟩ = some (.int .u8 (l[j].toNat : Int)) := fun j h => by
    rw [Lib.bytesWorld_cell w1 5 ⟨l.toArray⟩ j h]
    simp [List.getD, h]
  have hlen : (⟨l.toArray⟩ : ByteArray).size = l.length := rfl
  rw [hlen] at hcv
  generalize hcap : grownCap w1 l.length 0 5 = cap at *
  generalize Lib.bytesWorld w1 5 ⟨l.toArray⟩ = W2 at *
  have HB2 := Lib.hid (hB ▸ (HP.out.trans (hbel.mono (by have := HP.out.size; omega))))
  have HN2 := Lib.hid (Below.keep hbel HN.out (lt_of_block HN.out))
  have HCL := Lib.hid hcl
  clear r0 r1 r2 r3 q0 q1 q2 q3 hbel hcl
  obtain ⟨r0, r1, r2, r3⟩ := cell_of4 HN2.out
  obtain ⟨q0, q1, q2, q3⟩ := frozen_of4 HN2.out
  go_wp2_with fail
  clear r0 r1 r2 r3 q0 q1 q2 q3
  have hp4 := put4 (HN2.out) (.int .i64 3) (.int .u64 0) (.slice (some ⟨w1.heap.size, 0, none⟩) l.length cap) (.slice none 0 0)
  have hs4 := put4_keep (W := W2) (b := B) (.int .i64 3) (.int .u64 0) (.slice (some ⟨w1.heap.size, 0, none⟩) l.length cap) (.slice none 0 0)
  have hb4 := fun (n9 : Nat) (u9 : World) (h9 : Below n9 u9 (W2)) (hb9 : n9 ≤ B) => put4_below h9 hb9 (.int .i64 3) (.int .u64 0) (.slice (some ⟨w1.heap.size, 0, none⟩) l.length cap) (.slice none 0 0)
  generalize ((((W2).setCell ⟨B, 0, none⟩ (.int .i64 3)).setCell ⟨B, 1, none⟩ (.int .u64 0)).setCell ⟨B, 2, none⟩ (.slice (some ⟨w1.heap.size, 0, none⟩) l.length cap)).setCell ⟨B, 3, none⟩ (.slice none 0 0) = W' at *
  obtain ⟨g0, g1, g2, g3⟩ := cell_of4 hp4
  refine bodyPost_ret (v := .agg #[.int .i64 3, .int .u64 0, .slice (some ⟨w1.heap.size, 0, none⟩) l.length cap, .slice none 0 0]) (by simp [results, Tryz.results71, go_sem, g0, g1, g2, g3]) rfl ?_
  have hlt := lt_of_block HN.out
  refine ⟨⟨some ⟨w1.heap.size, 0, none⟩, l.length, cap, none, 0, 0⟩, rfl, IR_iff.2 ⟨(by show 0 < _; omega), ⟨⟨rfl, (by show l.length ≤ _; omega), fun i hi => ⟨w1.heap.size, 0, rfl, (by omega), ?_⟩⟩, (by rw [← hcap]; exact grownCap_ge _ _ _ _), (by rw [← hcap]; exact grownCap_le_maxLen _ _ _ _ (by unfold maxLen; omega))⟩, TL.nil _ _ _, by simp, by simp⟩, ?_⟩
  · rw [Nat.zero_add]
    exact (cell_block (hs4.2 w1.heap.size (by omega))).trans (HCL.out i hi)
  · first | exact hb4 B w (hB ▸ HB2.out) (by omega) | (rw [hB]; exact hb4 B w (hB ▸ HB2.out) (by omega))


set_option maxHeartbeats 4000000 in
theorem sclone_any {ok : Nat → Prop} {w : World} {a : Option Addr} {n c : Nat} {x : List UInt8} (hx : BR ok w a n x) (hl : x.length ≤ 1000000000) :
    Calls Tryz.prog 114 #[.slice a n c] w (FB x w) := by
  cases a with
  | none =>
    have hx0 : x = [] := by
      cases x with
      | nil => rfl
      | cons u l => obtain ⟨b, o, e, _⟩ := hx.2.2 0 (by simp); cases e
    subst hx0
    have hnl : ∀ W, (binOp .eql 23 (.slice none n c) (.slice none 0 0)).run Tryz.prog W = .ok (.bool true) W := fun W => Lib.run_eql_slice_nil W 23 5 _ _ _ 0 0 Tryz.underlying23
    clear hx hl
    go_enter Tryz.func114, Tryz.ntmps114
    go_wp2_with fail
    go_ret
    exact ⟨_, rfl, OwnB.nil _ _, Below.refl _ _⟩
  | some ad =>
    have P0 := pure_alloc w (.cells #[] 5)
    have N0 := alloc_new w (.cells #[] 5)
    have hO : OwnB (w.alloc (.cells #[] 5)) w.heap.size (.slice (some ⟨w.heap.size, 0, none⟩) 0 0) [] := own_lits [] w.heap.size (by simp) N0 _ (Nat.le_refl _)
    obtain ⟨v, W', hrun, hO2, hB2⟩ := app_step (c := c) hO P0.size (Below.refl _ _) (hx.below P0) (by simp; omega)
    have HR := Lib.hid hrun
    have HB := Lib.hid (P0.trans hB2)
    have HO := Lib.hid hO2
    have hnl : ∀ W, (binOp .eql 23 (.slice (some ad) n c) (.slice none 0 0)).run Tryz.prog W = .ok (.bool false) W := fun W => Lib.run_eql_slice_nil W 23 5 _ _ _ 0 0 Tryz.underlying23
    clear P0 N0 hO hrun hO2 hB2 hx
    go_enter Tryz.func114, Tryz.ntmps114
    go_wp2_with (at_builtin; refine wpList_app rfl _ _ 23 rfl rfl rfl HR.out ?_; clear HR)
    go_ret
    exact ⟨v, rfl, by simpa using HO.out, HB.out⟩

set_option maxHeartbeats 4000000 in
theorem cint_pos (n : Int) (h0 : n ≤ 9223372036854775807) (h : ¬ n < 0) (w : World) : Calls Tryz.prog 69 #[.int .i64 n] w fun e w' => e = .returned (.agg #[.int .i64 0, .int .u64 n, .slice none 0 0, .slice none 0 0]) ∧ Below w.heap.size w w' := by
  have P0 := pure_alloc w (.cells #[.int .i64 0, .int .u64 0, .slice none 0 0, .slice none 0 0] 26)
  have HN := Lib.hid (alloc_new w (.cells #[.int .i64 0, .int .u64 0, .slice none 0 0, .slice none 0 0] 26))
  have HP := Lib.hid P0
  clear P0
  go_enter Tryz.func69, Tryz.ntmps69
  go_upto_region 1 with fail
  generalize w.alloc (.cells #[.int .i64 0, .int .u64 0, .slice none 0 0, .slice none 0 0] 26) = w1 at *
  generalize hB : w.heap.size = B at *
  go_wp2_with fail
  refine (cuint_any n w1).mono ?_
  rintro e w2 ⟨rfl, B2⟩
  have HN2 := Lib.hid (Below.keep B2 HN.out (lt_of_block HN.out))
  have HP2 := Lib.hid (HP.out.trans (B2.mono (by have := HP.out.size; omega)))
  clear B2
  obtain ⟨r0, r1, r2, r3⟩ := cell_of4 HN2.out
  obtain ⟨q0, q1, q2, q3⟩ := frozen_of4 HN2.out
  go_wp2_with fail
  clear r0 r1 r2 r3 q0 q1 q2 q3
  have hp4 := put4 (HN2.out) (.int .i64 0) (.int .u64 n) (.slice none 0 0) (.slice none 0 0)
  have hs4 := put4_keep (W := w2) (b := B) (.int .i64 0) (.int .u64 n) (.slice none 0 0) (.slice none 0 0)
  have hb4 := fun (n9 : Nat) (u9 : World) (h9 : Below n9 u9 (w2)) (hb9 : n9 ≤ B) => put4_below h9 hb9 (.int .i64 0) (.int .u64 n) (.slice none 0 0) (.slice none 0 0)
  generalize ((((w2).setCell ⟨B, 0, none⟩ (.int .i64 0)).setCell ⟨B, 1, none⟩ (.int .u64 n)).setCell ⟨B, 2, none⟩ (.slice none 0 0)).setCell ⟨B, 3, none⟩ (.slice none 0 0) = W' at *
  obtain ⟨g0, g1, g2, g3⟩ := cell_of4 hp4
  refine bodyPost_ret (v := .agg #[.int .i64 0, .int .u64 n, .slice none 0 0, .slice none 0 0]) (by simp [results, Tryz.results69, go_sem, g0, g1, g2, g3]) rfl ?_
  exact ⟨rfl, by rw [hB]; exact hb4 B w HP2.out (by omega)⟩
theorem cint_any (n : Int) (h0 : -9223372036854775808 ≤ n) (h1 : n ≤ 9223372036854775807) (w : World) : Calls Tryz.prog 69 #[.int .i64 n] w (IP (intIt n) w) := by
  by_cases h : n < 0
  · refine (cint_neg n h0 h w).mono ?_
    rintro e w' ⟨rfl, hB⟩
    refine ⟨⟨none, 0, 0, none, 0, 0⟩, ?_, ?_, hB⟩
    · unfold intIt; rw [if_pos h]; simp only [It.kind, It.num]; rw [Int.toNat_of_nonneg (by omega)]
    · unfold intIt; rw [if_pos h]; exact IR.flat _ _ (by omega)
  · refine (cint_pos n h1 h w).mono ?_
    rintro e w' ⟨rfl, hB⟩
    refine ⟨⟨none, 0, 0, none, 0, 0⟩, ?_, ?_, hB⟩
    · unfold intIt; rw [if_neg h]; simp only [It.kind, It.num]; rw [Int.toNat_of_nonneg (by omega)]
    · unfold intIt; rw [if_neg h]; exact IR.flat _ _ (by omega)
theorem uint_ip (n : Nat) (hn : n < 18446744073709551616) (w : World) : Calls Tryz.prog 67 #[.int .u64 (n : Int)] w (IP (.mk 0 n [] []) w) :=
  (cuint_any n w).mono fun e w' h => ⟨⟨none, 0, 0, none, 0, 0⟩, h.1, IR.flat _ _ hn, h.2⟩
theorem ruint_ip (n : Nat) (hn : n < 18446744073709551616) (w : World) : Calls Tryz.prog 68 #[.int .u64 (n : Int)] w (IP (.mk 0 n [] []) w) :=
  (ruint_any n w).mono fun e w' h => ⟨⟨none, 0, 0, none, 0, 0⟩, h.1, IR.flat _ _ hn, h.2⟩

set_option maxHeartbeats 4000000 in
theorem cbytes_any (l : List UInt8) (a : Option Addr) (n c : Nat) (w : World) (ok : Nat → Prop) (hR : BR ok w a n l) (hl : l.length ≤ 1000000000) :
    Calls Tryz.prog 70 #[.slice a n c] w (IP (.mk 2 0 l []) w) := by
  have P0 := pure_alloc w (.cells #[.int .i64 0, .int .u64 0, .slice none 0 0, .slice none 0 0] 26)
  have HN := Lib.hid (alloc_new w (.cells #[.int .i64 0, .int .u64 0, .slice none 0 0, .slice none 0 0] 26))
  have HC := Lib.hid (sclone_any (c := c) (hR.below P0) hl)
  have HP := Lib.hid P0
  have hw : (w.alloc (.cells #[.int .i64 0, .int .u64 0, .slice none 0 0, .slice none 0 0] 26)).heap.size = w.heap.size + 1 := by simp
  have HW := Lib.hid hw
  clear P0 hR hw
  go_enter Tryz.func70, Tryz.ntmps70
  go_upto_region 1 with fail
  generalize w.alloc (.cells #[.int .i64 0, .int .u64 0, .slice none 0 0, .slice none 0 0] 26) = w1 at *
  generalize hB : w.heap.size = B at *
  go_wp2_with fail
  refine HC.out.mono ?_
  rintro e W4 h4
  obtain ⟨a4, c4, rfl, O4, _, _, _, B4⟩ := h4.open
  have HO4 := Lib.hid O4
  have HN4 := Lib.hid (Below.keep B4 HN.out (lt_of_block HN.out))
  have HB4 := Lib.hid (HP.out.trans (B4.mono (by have := HP.out.size; omega)))
  clear O4 B4 h4 HC
  obtain ⟨r0, r1, r2, r3⟩ := cell_of4 HN4.out
  obtain ⟨q0, q1, q2, q3⟩ := frozen_of4 HN4.out
  go_wp2_with fail
  clear r0 r1 r2 r3 q0 q1 q2 q3
  have hp4 := put4 (HN4.out) (.int .i64 2) (.int .u64 0) (.slice a4 l.length c4) (.slice none 0 0)
  have hs4 := put4_keep (W := W4) (b := B) (.int .i64 2) (.int .u64 0) (.slice a4 l.length c4) (.slice none 0 0)
  have hb4 := fun (n9 : Nat) (u9 : World) (h9 : Below n9 u9 (W4)) (hb9 : n9 ≤ B) => put4_below h9 hb9 (.int .i64 2) (.int .u64 0) (.slice a4 l.length c4) (.slice none 0 0)
  generalize ((((W4).setCell ⟨B, 0, none⟩ (.int .i64 2)).setCell ⟨B, 1, none⟩ (.int .u64 0)).setCell ⟨B, 2, none⟩ (.slice a4 l.length c4)).setCell ⟨B, 3, none⟩ (.slice none 0 0) = W' at *
  obtain ⟨g0, g1, g2, g3⟩ := cell_of4 hp4
  refine bodyPost_ret (v := .agg #[.int .i64 2, .int .u64 0, .slice a4 l.length c4, .slice none 0 0]) (by simp [results, Tryz.results70, go_sem, g0, g1, g2, g3]) rfl ?_
  have O' : OwnB W' (B + 1) (.slice a4 l.length c4) l := own_keep (by have := HO4.out; rw [HW.out] at this; exact this) fun g hg => hs4.2 g (fun e => by have := own_lt HO4.out hg; have := HW.out; omega)
  obtain ⟨A, e1, e2, hI⟩ := mk_ir (k := 2) (n := 0) (by omega) O' (OutI.nil W' (B + 1) (fun _ => False))
  simp only [Value.slice.injEq] at e1 e2
  refine ⟨A, ?_, hI.imp (fun b hb _ => by rcases hb with hb | hb; omega; exact hb.elim), by rw [hB]; exact hb4 B w HB4.out (by omega)⟩
  simp only [It.kind, It.num]
  rw [← e1.1, ← e1.2.1, ← e1.2.2, ← e2.1, ← e2.2.1, ← e2.2.2]
  rfl

set_option maxHeartbeats 4000000 in
theorem rlist_any (l : List It) (a : Option Addr) (n c : Nat) (w : World) (ok : Nat → Prop) (hT : TL ok w l a n) (hc : n ≤ c) (hcm : c ≤ 9223372036854775807) (hn : It.nodesL l ≤ 90000) (hs : It.sts l = true) :
    Calls Tryz.prog 74 #[.slice a n c] w (IP (.mk 4 0 [] l) w) := by
  have P0 := pure_alloc w (.cells #[.int .i64 0, .int .u64 0, .slice none 0 0, .slice none 0 0] 26)
  have HN := Lib.hid (alloc_new w (.cells #[.int .i64 0, .int .u64 0, .slice none 0 0, .slice none 0 0] 26))
  have hI : IR ok (w.alloc (.cells #[.int .i64 0, .int .u64 0, .slice none 0 0, .slice none 0 0] 26)) (.mk 4 0 [] l) ⟨none, 0, 0, a, n, c⟩ := IR_iff.2 ⟨by show 0 < _; omega, ⟨BR.nil _ _ _, by simp, by simp⟩, hT.below P0, hc, hcm⟩
  have HC := Lib.hid (copy_any 100000 (.mk 4 0 [] l) ⟨none, 0, 0, a, n, c⟩ _ ok (by show 1 + It.nodesL l ≤ _; omega) (by omega) (by unfold It.st; simp [hs]) hI)
  have HP := Lib.hid P0
  have hw : (w.alloc (.cells #[.int .i64 0, .int .u64 0, .slice none 0 0, .slice none 0 0] 26)).heap.size = w.heap.size + 1 := by simp
  have HW := Lib.hid hw
  simp only [It.kind, It.num] at HC
  clear P0 hT hI hw
  go_enter Tryz.func74, Tryz.ntmps74
  go_upto_region 1 with fail
  generalize w.alloc (.cells #[.int .i64 0, .int .u64 0, .slice none 0 0, .slice none 0 0] 26) = w1 at *
  generalize hB : w.heap.size = B at *
  go_wp2_with fail
  refine HC.out.mono ?_
  rintro e W4 h4
  obtain ⟨Z, rfl, hI4, B4⟩ := h4.ir (by show 0 < _; omega)
  simp only [It.kind, It.num]
  have HI4 := Lib.hid hI4
  have HN4 := Lib.hid (Below.keep B4 HN.out (lt_of_block HN.out))
  have HB4 := Lib.hid (HP.out.trans (B4.mono (by have := HP.out.size; omega)))
  have hsw := HW.out
  clear hI4 B4 h4 HC
  obtain ⟨r0, r1, r2, r3⟩ := cell_of4 HN4.out
  obtain ⟨q0, q1, q2, q3⟩ := frozen_of4 HN4.out
  go_wp2_with fail
  clear r0 r1 r2 r3 q0 q1 q2 q3
  have hp4 := put4 (HN4.out) (.int .i64 4) (.int .u64 0) (.slice Z.ab Z.nb Z.cb) (.slice Z.ai Z.ni Z.ci)
  have hs4 := put4_keep (W := W4) (b := B) (.int .i64 4) (.int .u64 0) (.slice Z.ab Z.nb Z.cb) (.slice Z.ai Z.ni Z.ci)
  have hb4 := fun (n9 : Nat) (u9 : World) (h9 : Below n9 u9 (W4)) (hb9 : n9 ≤ B) => put4_below h9 hb9 (.int .i64 4) (.int .u64 0) (.slice Z.ab Z.nb Z.cb) (.slice Z.ai Z.ni Z.ci)
  generalize ((((W4).setCell ⟨B, 0, none⟩ (.int .i64 4)).setCell ⟨B, 1, none⟩ (.int .u64 0)).setCell ⟨B, 2, none⟩ (.slice Z.ab Z.nb Z.cb)).setCell ⟨B, 3, none⟩ (.slice Z.ai Z.ni Z.ci) = W' at *
  obtain ⟨g0, g1, g2, g3⟩ := cell_of4 hp4
  refine bodyPost_ret (v := .agg #[.int .i64 4, .int .u64 0, .slice Z.ab Z.nb Z.cb, .slice Z.ai Z.ni Z.ci]) (by simp [results, Tryz.results74, go_sem, g0, g1, g2, g3]) rfl ?_
  exact ⟨Z, rfl, HI4.out.keep fun b hb _ => ⟨hs4.2 b (by omega), by omega⟩, by rw [hB]; exact hb4 B w HB4.out (by omega)⟩

end Go.Proofs.YtelefkkkccilaaaGreatDoor
