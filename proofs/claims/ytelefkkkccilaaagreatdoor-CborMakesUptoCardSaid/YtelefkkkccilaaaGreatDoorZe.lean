/- The law CborMakes, walked. -/
import Derived.Test.YtelefkkkccilaaaGreatDoorLN
import Derived.Test.YtelefkkkccilaaaGreatDoorXp
import Derived.Test.YtelefkkkccilaaaGreatDoorZa
import Derived.Test.YtelefkkkccilaaaGreatDoorZd
import Derived.Test.YtelefkkkccilaaaGreatDoorZg
import Derived.Test.YtelefkkkccilaaaGreatDoorLP
set_option linter.unusedVariables false
set_option linter.unusedSimpArgs false
namespace Go.Proofs.YtelefkkkccilaaaGreatDoor
open Go.RowKit
set_option maxRecDepth 100000
theorem q_same {x : It} {v u : Value} {w : World} (hx : (Fq.it x).holds v w) (hy : (Fq.it x).holds u w) : Calls Tryz.prog 30 #[v, u] w (EndQ w (.eq (.bool true))) := by
  obtain ⟨A, rfl, hI⟩ := hx
  obtain ⟨C, rfl, hJ⟩ := hy
  refine (same_any x x A C w _ _ hI hJ).mono fun e w' h => ?_
  rw [It.same_self] at h
  exact EndQ.bool h
theorem q_array {l : List It} {v : Value} {w : World} (h : (Fq.rw l).holds v w) (hn : It.nodesL l ≤ 90000) (hs : It.sts l = true) : Calls Tryz.prog 73 #[v] w (EndQ w (.it (.mk 4 0 [] l))) := by
  obtain ⟨a, c, rfl, hT, hc⟩ := h
  exact (carray_any l a _ c w _ hT hn hs).mono fun _ _ h => EndQ.ip h
theorem q_list {l : List It} {v : Value} {w : World} (h : (Fq.rw l).holds v w) (hn : It.nodesL l ≤ 90000) (hs : It.sts l = true) : Calls Tryz.prog 74 #[v] w (EndQ w (.it (.mk 4 0 [] l))) := by
  obtain ⟨a, c, rfl, hT, hc⟩ := h
  exact (rlist_any l a _ c w _ hT hc.1 hc.2 hn hs).mono fun _ _ h => EndQ.ip h
theorem intIt_flat (i : Int) : It.nodes (intIt i) = 1 ∧ It.st (intIt i) = true := by
  unfold intIt
  split <;> exact ⟨rfl, rfl⟩
set_option maxHeartbeats 8000000 in
theorem makes_any (n : Nat) (i : Int) (a : Option Addr) (nb cb : Nat) (l s : List UInt8) (la : Option Addr) (ln lc : Nat) (w : World) (ok : Nat → Prop) (hn : n < 18446744073709551616) (hi : -9223372036854775808 ≤ i ∧ i ≤ 9223372036854775807) (hR : BR ok w a nb l) (hl : l.length ≤ 1000000000 ∧ s.length ≤ 1000000000) (hL : InL w la ln) (hE : Env w) :
    Calls Tryz.prog 13 #[.int .u64 (n : Int), .int .i64 i, .slice a nb cb, .string ⟨s.toArray⟩, .slice la ln lc] w fun e w' => e = .returned (.bool true) ∧ Below w.heap.size w w' := by
  have h1 := hE.lt
  have HE := Lib.hid hE
  have HL := Lib.hid hL
  have HNN := Lib.hid hn
  have HII := Lib.hid hi
  have HLL := Lib.hid hl
  have HBR0 := Lib.hid hR
  clear hE hL hn hi hl hR
  go_enter Tryz.func13, Tryz.ntmps13
  go_wp2_with fail
  refine (new_any la ln lc w).mono ?_
  rintro e w2 ⟨rfl, rfl⟩
  have PD := pure_alloc w (.cells #[.slice la ln lc, .int .i64 0] 94)
  have hD := HL.out.deck lc
  have hg := gen_any 2 (by decide) w.heap.size _ 2 rfl hD (HE.out.below PD) (by omega)
  have HG := Lib.hid hg
  have HPD := Lib.hid PD
  clear PD hD hg
  go_wp2_with fail
  refine HG.out.mono ?_
  rintro e w3 ⟨y, A2, rfl, hv, hI2, hDW⟩
  have hB3 : Below w.heap.size w w3 := ⟨hDW.but.os.trans HPD.out.os, hDW.but.tape.trans HPD.out.tape, hDW.but.output.trans HPD.out.output, Nat.le_trans HPD.out.size hDW.but.size, fun k hk => (hDW.but.block k (Nat.lt_of_lt_of_le hk HPD.out.size) (by omega)).trans (HPD.out.block k hk)⟩
  have P4 := pure_alloc w3 (.cells #[.int .i64 y.kind, .int .u64 (y.num : Int), .slice A2.ab A2.nb A2.cb, .slice A2.ai A2.ni A2.ci] 26)
  have HP4 := Lib.hid (pure_trans hB3 P4)
  have HY4 := Lib.hid (alloc_new w3 (.cells #[.int .i64 y.kind, .int .u64 (y.num : Int), .slice A2.ab A2.nb A2.cb, .slice A2.ai A2.ni A2.ci] 26))
  have HE4 := Lib.hid (HE.out.below (pure_trans hB3 P4))
  have HBR := Lib.hid (HBR0.out.below (pure_trans hB3 P4))
  have HYI4 := Lib.hid (hI2.below P4)
  have hvw := valid_wf hv
  have HNY : Hid (It.nodesL [y, intIt i] ≤ 90000 ∧ It.sts [y, intIt i] = true) := Lib.hid (by
    have h2 := intIt_flat i
    simp only [It.nodesL, It.sts, h2.1, h2.2, It.st_of hvw.1 hvw.2.1]
    exact ⟨by omega, by simp⟩)
  clear hB3 hI2 hDW hv HG HPD P4 hvw h1 HE HL HBR0
  go_upto_region 2 with fail
  generalize hw4 : w3.alloc (.cells #[.int .i64 y.kind, .int .u64 (y.num : Int), .slice A2.ab A2.nb A2.cb, .slice A2.ai A2.ni A2.ci] 26) = w4 at *
  generalize hC : w3.heap.size = C at *
  clear hw4 hC
  refine region_q (M := 43) [.eq (.int .u64 (n : Int)), .it (It.mk 0 n [] []), .eq (.int .u64 (n : Int)), .it (It.mk 0 n [] []), .eq (.bool true), .eq (.bool true), .eq (.int .i64 i), .it (intIt i), .eq (.int .i64 i), .it (intIt i), .eq (.bool true), .eq (.bool true), .eq (.bool true), .eq (.slice a nb cb), .it (It.mk 2 0 l []), .eq (.slice a nb cb), .it (It.mk 2 0 l []), .eq (.bool true), .eq (.bool true), .eq (.bool true), .eq (.string ⟨s.toArray⟩), .it (It.mk 3 0 s []), .eq (.string ⟨s.toArray⟩), .it (It.mk 3 0 s []), .eq (.bool true), .eq (.bool true), .eq (.bool true), .it y, .eq (.int .i64 i), .it (intIt i), .rw [y, intIt i], .it (It.mk 4 0 [] [y, intIt i]), .it y, .eq (.int .i64 i), .it (intIt i), .rw [y, intIt i], .it (It.mk 4 0 [] [y, intIt i]), .eq (.bool true), .eq (.bool true), .eq (.bool true), .eq (.bool true), .eq (.bool true), .eq (.bool true)] (by kernel_rfl) (by kernel_rfl) ?_ ?_
  · refine ⟨fun vs W hR _ hd => ?_, fun vs W hR _ hd => ?_, fun vs W hR _ hd => ?_, fun vs W hR _ hd => ?_, fun vs W hR _ hd => ?_, fun vs W hR _ hd => ?_, fun vs W hR _ hd => ?_, fun vs W hR _ hd => ?_, fun vs W hR _ hd => ?_, fun vs W hR _ hd => ?_, fun vs W hR _ hd => ?_, fun vs W hR _ hd => ?_, fun vs W hR _ hd => ?_, fun vs W hR _ hd => ?_, fun vs W hR _ hd => ?_, fun vs W hR _ hd => ?_, fun vs W hR _ hd => ?_, fun vs W hR _ hd => ?_, fun vs W hR _ hd => ?_, fun vs W hR _ hd => ?_, fun vs W hR _ hd => ?_, fun vs W hR _ hd => ?_, fun vs W hR _ hd => ?_, fun vs W hR _ hd => ?_, fun vs W hR _ hd => ?_, fun vs W hR _ hd => ?_, fun vs W hR _ hd => ?_, fun vs W hR _ hd => ?_, fun vs W hR _ hd => ?_, fun vs W hR _ hd => ?_, fun vs W hR _ hd => ?_, fun vs W hR _ hd => ?_, fun vs W hR _ hd => ?_, fun vs W hR _ hd => ?_, fun vs W hR _ hd => ?_, fun vs W hR _ hd => ?_, fun vs W hR _ hd => ?_, fun vs W hR _ hd => ?_, fun vs W hR _ hd => ?_, fun vs W hR _ hd => ?_, fun vs W hR _ hd => ?_, fun vs W hR _ hd => ?_, fun vs W hR _ hd => ?_, trivial⟩
    · exact Rg.Does.move (.tmp 0) rfl ⟨RB.refl _, trivial, (show _ = _ by kernel_rfl)⟩
    · have e0 : vs 0 = .int .u64 (n : Int) := (hd 0 (by decide)); exact does_q (vals := #[vs 0]) 67 (.func 67) #[.tmp 15] _ rfl (by kernel_rfl) (by kernel_rfl) (cfq 67 _ Tryz.func67 (by kernel_rfl) (by kernel_rfl) _) (by rw [e0]; exact (uint_ip n HNN.out W).mono fun _ _ h => EndQ.ip h)
    · exact Rg.Does.move (.tmp 0) rfl ⟨RB.refl _, trivial, (show _ = _ by kernel_rfl)⟩
    · have e2 : vs 2 = .int .u64 (n : Int) := (hd 2 (by decide)); exact does_q (vals := #[vs 2]) 68 (.func 68) #[.tmp 17] _ rfl (by kernel_rfl) (by kernel_rfl) (cfq 68 _ Tryz.func68 (by kernel_rfl) (by kernel_rfl) _) (by rw [e2]; exact (ruint_ip n HNN.out W).mono fun _ _ h => EndQ.ip h)
    · exact does_q (vals := #[vs 1, vs 3]) 30 (.func 30) #[.tmp 16, .tmp 18] _ rfl (by kernel_rfl) (by kernel_rfl) (cfq 30 _ Tryz.func30 (by kernel_rfl) (by kernel_rfl) _) (q_same (hd 1 (by decide)) (hd 3 (by decide)))
    · exact Rg.Does.move (.tmp 19) rfl ⟨RB.refl _, trivial, (hd 4 (by decide))⟩
    · exact ⟨fun _ => Rg.Does.move (.tmp 1) rfl ⟨RB.refl _, trivial, (show _ = _ by kernel_rfl)⟩, fun h => absurd (hd 5 (by decide)) h⟩
    · have e6 : vs 6 = .int .i64 i := (hd 6 (by decide)); exact ⟨fun _ => does_q (vals := #[vs 6]) 69 (.func 69) #[.tmp 21] _ rfl (by kernel_rfl) (by kernel_rfl) (cfq 69 _ Tryz.func69 (by kernel_rfl) (by kernel_rfl) _) (by rw [e6]; exact (cint_any i HII.out.1 HII.out.2 W).mono fun _ _ h => EndQ.ip h), fun h => absurd (hd 5 (by decide)) h⟩
    · exact ⟨fun _ => Rg.Does.move (.tmp 1) rfl ⟨RB.refl _, trivial, (show _ = _ by kernel_rfl)⟩, fun h => absurd (hd 5 (by decide)) h⟩
    · have e8 : vs 8 = .int .i64 i := (hd 8 (by decide)); exact ⟨fun _ => does_q (vals := #[vs 8]) 62 (.func 62) #[.tmp 23] _ rfl (by kernel_rfl) (by kernel_rfl) (cfq 62 _ Tryz.func62 (by kernel_rfl) (by kernel_rfl) _) (by rw [e8]; exact (rint_any i HII.out.1 HII.out.2 W).mono fun _ _ h => EndQ.ip h), fun h => absurd (hd 5 (by decide)) h⟩
    · exact ⟨fun _ => does_q (vals := #[vs 7, vs 9]) 30 (.func 30) #[.tmp 22, .tmp 24] _ rfl (by kernel_rfl) (by kernel_rfl) (cfq 30 _ Tryz.func30 (by kernel_rfl) (by kernel_rfl) _) (q_same (hd 7 (by decide)) (hd 9 (by decide))), fun h => absurd (hd 5 (by decide)) h⟩
    · exact does_pick_t (.tmp 20) (.tmp 25) (.const (.bool false)) rfl (hd 5 (by decide)) (hd 10 (by decide))
    · exact Rg.Does.move (.tmp 26) rfl ⟨RB.refl _, trivial, (hd 11 (by decide))⟩
    · exact ⟨fun _ => Rg.Does.move (.tmp 2) rfl ⟨RB.refl _, trivial, (show _ = _ by kernel_rfl)⟩, fun h => absurd (hd 12 (by decide)) h⟩
    · have e13 : vs 13 = .slice a nb cb := (hd 13 (by decide)); exact ⟨fun _ => does_q (vals := #[vs 13]) 70 (.func 70) #[.tmp 28] _ rfl (by kernel_rfl) (by kernel_rfl) (cfq 70 _ Tryz.func70 (by kernel_rfl) (by kernel_rfl) _) (by rw [e13]; exact (cbytes_any l a nb cb W _ (HBR.out.below hR) HLL.out.1).mono fun _ _ h => EndQ.ip h), fun h => absurd (hd 12 (by decide)) h⟩
    · exact ⟨fun _ => Rg.Does.move (.tmp 2) rfl ⟨RB.refl _, trivial, (show _ = _ by kernel_rfl)⟩, fun h => absurd (hd 12 (by decide)) h⟩
    · have e15 : vs 15 = .slice a nb cb := (hd 15 (by decide)); exact ⟨fun _ => does_q (vals := #[vs 15]) 31 (.func 31) #[.tmp 30] _ rfl (by kernel_rfl) (by kernel_rfl) (cfq 31 _ Tryz.func31 (by kernel_rfl) (by kernel_rfl) _) (by rw [e15]; exact (rbytes_any l a nb cb W _ (HBR.out.below hR) HLL.out.1).mono fun _ _ h => EndQ.ip h), fun h => absurd (hd 12 (by decide)) h⟩
    · exact ⟨fun _ => does_q (vals := #[vs 14, vs 16]) 30 (.func 30) #[.tmp 29, .tmp 31] _ rfl (by kernel_rfl) (by kernel_rfl) (cfq 30 _ Tryz.func30 (by kernel_rfl) (by kernel_rfl) _) (q_same (hd 14 (by decide)) (hd 16 (by decide))), fun h => absurd (hd 12 (by decide)) h⟩
    · exact does_pick_t (.tmp 27) (.tmp 32) (.const (.bool false)) rfl (hd 12 (by decide)) (hd 17 (by decide))
    · exact Rg.Does.move (.tmp 33) rfl ⟨RB.refl _, trivial, (hd 18 (by decide))⟩
    · exact ⟨fun _ => Rg.Does.move (.tmp 3) rfl ⟨RB.refl _, trivial, (show _ = _ by kernel_rfl)⟩, fun h => absurd (hd 19 (by decide)) h⟩
    · have e20 : vs 20 = .string ⟨s.toArray⟩ := (hd 20 (by decide)); exact ⟨fun _ => does_q (vals := #[vs 20]) 71 (.func 71) #[.tmp 35] _ rfl (by kernel_rfl) (by kernel_rfl) (cfq 71 _ Tryz.func71 (by kernel_rfl) (by kernel_rfl) _) (by rw [e20]; exact (ctext_any s W HLL.out.2).mono fun _ _ h => EndQ.ip h), fun h => absurd (hd 19 (by decide)) h⟩
    · exact ⟨fun _ => Rg.Does.move (.tmp 3) rfl ⟨RB.refl _, trivial, (show _ = _ by kernel_rfl)⟩, fun h => absurd (hd 19 (by decide)) h⟩
    · have e22 : vs 22 = .string ⟨s.toArray⟩ := (hd 22 (by decide)); exact ⟨fun _ => does_q (vals := #[vs 22]) 72 (.func 72) #[.tmp 37] _ rfl (by kernel_rfl) (by kernel_rfl) (cfq 72 _ Tryz.func72 (by kernel_rfl) (by kernel_rfl) _) (by rw [e22]; exact (rtext_any s W HLL.out.2).mono fun _ _ h => EndQ.ip h), fun h => absurd (hd 19 (by decide)) h⟩
    · exact ⟨fun _ => does_q (vals := #[vs 21, vs 23]) 30 (.func 30) #[.tmp 36, .tmp 38] _ rfl (by kernel_rfl) (by kernel_rfl) (cfq 30 _ Tryz.func30 (by kernel_rfl) (by kernel_rfl) _) (q_same (hd 21 (by decide)) (hd 23 (by decide))), fun h => absurd (hd 19 (by decide)) h⟩
    · exact does_pick_t (.tmp 34) (.tmp 39) (.const (.bool false)) rfl (hd 19 (by decide)) (hd 24 (by decide))
    · exact Rg.Does.move (.tmp 40) rfl ⟨RB.refl _, trivial, (hd 25 (by decide))⟩
    · exact ⟨fun _ => does_loadI (.tmp 11) C y _ rfl (by kernel_rfl) (Below.keep hR HY4.out (lt_of_block HY4.out)) (HYI4.out.below hR), fun h => absurd (hd 26 (by decide)) h⟩
    · exact ⟨fun _ => Rg.Does.move (.tmp 1) rfl ⟨RB.refl _, trivial, (show _ = _ by kernel_rfl)⟩, fun h => absurd (hd 26 (by decide)) h⟩
    · have e28 : vs 28 = .int .i64 i := (hd 28 (by decide)); exact ⟨fun _ => does_q (vals := #[vs 28]) 69 (.func 69) #[.tmp 43] _ rfl (by kernel_rfl) (by kernel_rfl) (cfq 69 _ Tryz.func69 (by kernel_rfl) (by kernel_rfl) _) (by rw [e28]; exact (cint_any i HII.out.1 HII.out.2 W).mono fun _ _ h => EndQ.ip h), fun h => absurd (hd 26 (by decide)) h⟩
    · exact ⟨fun _ => does_row2 (.tmp 42) (.tmp 44) y (intIt i) rfl (hd 27 (by decide)) (hd 29 (by decide)), fun h => absurd (hd 26 (by decide)) h⟩
    · exact ⟨fun _ => does_q (vals := #[vs 30]) 73 (.func 73) #[.tmp 45] _ rfl (by kernel_rfl) (by kernel_rfl) (cfq 73 _ Tryz.func73 (by kernel_rfl) (by kernel_rfl) _) (q_array (hd 30 (by decide)) HNY.out.1 HNY.out.2), fun h => absurd (hd 26 (by decide)) h⟩
    · exact ⟨fun _ => does_loadI (.tmp 11) C y _ rfl (by kernel_rfl) (Below.keep hR HY4.out (lt_of_block HY4.out)) (HYI4.out.below hR), fun h => absurd (hd 26 (by decide)) h⟩
    · exact ⟨fun _ => Rg.Does.move (.tmp 1) rfl ⟨RB.refl _, trivial, (show _ = _ by kernel_rfl)⟩, fun h => absurd (hd 26 (by decide)) h⟩
    · have e33 : vs 33 = .int .i64 i := (hd 33 (by decide)); exact ⟨fun _ => does_q (vals := #[vs 33]) 62 (.func 62) #[.tmp 48] _ rfl (by kernel_rfl) (by kernel_rfl) (cfq 62 _ Tryz.func62 (by kernel_rfl) (by kernel_rfl) _) (by rw [e33]; exact (rint_any i HII.out.1 HII.out.2 W).mono fun _ _ h => EndQ.ip h), fun h => absurd (hd 26 (by decide)) h⟩
    · exact ⟨fun _ => does_row2 (.tmp 47) (.tmp 49) y (intIt i) rfl (hd 32 (by decide)) (hd 34 (by decide)), fun h => absurd (hd 26 (by decide)) h⟩
    · exact ⟨fun _ => does_q (vals := #[vs 35]) 74 (.func 74) #[.tmp 50] _ rfl (by kernel_rfl) (by kernel_rfl) (cfq 74 _ Tryz.func74 (by kernel_rfl) (by kernel_rfl) _) (q_list (hd 35 (by decide)) HNY.out.1 HNY.out.2), fun h => absurd (hd 26 (by decide)) h⟩
    · exact ⟨fun _ => does_q (vals := #[vs 31, vs 36]) 30 (.func 30) #[.tmp 46, .tmp 51] _ rfl (by kernel_rfl) (by kernel_rfl) (cfq 30 _ Tryz.func30 (by kernel_rfl) (by kernel_rfl) _) (q_same (hd 31 (by decide)) (hd 36 (by decide))), fun h => absurd (hd 26 (by decide)) h⟩
    · exact does_pick_t (.tmp 41) (.tmp 52) (.const (.bool false)) rfl (hd 26 (by decide)) (hd 37 (by decide))
    · exact Rg.Does.move (.tmp 53) rfl ⟨RB.refl _, trivial, (hd 38 (by decide))⟩
    · exact ⟨fun _ => does_q (vals := #[]) 53 (.func 53) #[] _ rfl (by kernel_rfl) (by kernel_rfl) (cfq 53 _ Tryz.func53 (by kernel_rfl) (by kernel_rfl) _) ((awake_any W (HE4.out.below hR)).mono fun _ _ h => EndQ.bool h), fun h => absurd (hd 39 (by decide)) h⟩
    · exact does_pick_t (.tmp 54) (.tmp 55) (.const (.bool false)) rfl (hd 39 (by decide)) (hd 40 (by decide))
    · exact Rg.Does.assign (.tmp 56) rfl ⟨RB.refl _, trivial, (hd 41 (by decide))⟩
  · intro vs W1 hR1 _ hf
    have e42 : vs 42 = .bool true := hf 42 (by decide)
    simp only [Rg.putAll, Rg.putFrom, List.take_succ_cons, List.take_zero, List.drop_succ_cons, List.drop_zero, Act.put, List.setIfInBounds_toArray, List.set_cons_zero, List.set_cons_succ, e42]
    clear e42 hf
    have HW := Lib.hid (HP4.out.trans (hR1.mono HP4.out.size))
    clear hR1
    go_wp2_with fail
    go_ret
    exact ⟨rfl, HW.out⟩
end Go.Proofs.YtelefkkkccilaaaGreatDoor
