/- The law CborEncodes, walked. -/
import Derived.Test.YtelefkkkccilaaaGreatDoorLN
import Derived.Test.YtelefkkkccilaaaGreatDoorLO
import Derived.Test.YtelefkkkccilaaaGreatDoorXp
import Derived.Test.YtelefkkkccilaaaGreatDoorLP
set_option linter.unusedVariables false
set_option linter.unusedSimpArgs false
namespace Go.Proofs.YtelefkkkccilaaaGreatDoor
open Go.RowKit
set_option maxRecDepth 100000
set_option maxHeartbeats 8000000 in
theorem encodes_any (x : It) (A : Ad) (la : Option Addr) (ln lc : Nat) (p q : Int) (w : World) (hq0 : -9223372036854775808 ≤ q) (hq1 : q ≤ 9223372036854775807) (hI : IR (fun b => b < w.heap.size) w x A) (hE : Env w) (hL : InL w la ln) :
    Calls Tryz.prog 9 #[.agg #[.int .i64 x.kind, .int .u64 (x.num : Int), .slice A.ab A.nb A.cb, .slice A.ai A.ni A.ci], .slice la ln lc, .int .i64 p, .int .i64 q] w fun e w' => e = .returned (.bool true) ∧ Below w.heap.size w w' := by
  have h1 := hE.lt
  have HI := Lib.hid hI
  have HE := Lib.hid hE
  have HL := Lib.hid hL
  clear hI hE hL
  go_enter Tryz.func9, Tryz.ntmps9
  have P0 := pure_alloc w (.cells #[.int .i64 x.kind, .int .u64 (x.num : Int), .slice A.ab A.nb A.cb, .slice A.ai A.ni A.ci] 26)
  have HN0 := Lib.hid (alloc_new w (.cells #[.int .i64 x.kind, .int .u64 (x.num : Int), .slice A.ab A.nb A.cb, .slice A.ai A.ni A.ci] 26))
  have HP0 := Lib.hid P0
  have HI0 := Lib.hid (HI.out.below P0)
  have HE0 := Lib.hid (HE.out.below P0)
  have HL0 := Lib.hid (HL.out.below P0)
  clear P0
  go_upto_region 1 with fail
  generalize hw1 : w.alloc (.cells #[.int .i64 x.kind, .int .u64 (x.num : Int), .slice A.ab A.nb A.cb, .slice A.ai A.ni A.ci] 26) = w1 at *
  clear hw1
  go_wp2_with fail
  refine (new_any la ln lc w1).mono ?_
  rintro e w2 ⟨rfl, rfl⟩
  have PD := pure_alloc w1 (.cells #[.slice la ln lc, .int .i64 0] 94)
  have hD := HL0.out.deck lc
  have hg := gen_any 4 (by decide) w1.heap.size _ 4 rfl hD (HE0.out.below PD) (by have := HE0.out.lt; omega)
  have HG := Lib.hid hg
  have HPD := Lib.hid PD
  clear PD hD hg
  go_wp2_with fail
  refine HG.out.mono ?_
  rintro e w3 ⟨y, A2, rfl, hv, hI2, hDW⟩
  have hB3 : Below w1.heap.size w1 w3 := ⟨hDW.but.os.trans HPD.out.os, hDW.but.tape.trans HPD.out.tape, hDW.but.output.trans HPD.out.output, Nat.le_trans HPD.out.size hDW.but.size, fun k hk => (hDW.but.block k (Nat.lt_of_lt_of_le hk HPD.out.size) (by omega)).trans (HPD.out.block k hk)⟩
  have P4 := pure_alloc w3 (.cells #[.int .i64 y.kind, .int .u64 (y.num : Int), .slice A2.ab A2.nb A2.cb, .slice A2.ai A2.ni A2.ci] 26)
  have HP4 := Lib.hid (pure_trans HP0.out (pure_trans hB3 P4))
  have HX4 := Lib.hid (Below.keep (pure_trans hB3 P4) HN0.out (lt_of_block HN0.out))
  have HY4 := Lib.hid (alloc_new w3 (.cells #[.int .i64 y.kind, .int .u64 (y.num : Int), .slice A2.ab A2.nb A2.cb, .slice A2.ai A2.ni A2.ci] 26))
  have HI4 := Lib.hid (HI0.out.below (pure_trans hB3 P4))
  have HE4 := Lib.hid (HE0.out.below (pure_trans hB3 P4))
  have HYI4 := Lib.hid (hI2.below P4)
  have hvw := valid_wf hv
  have HST : Hid (It.nodes y ≤ 256 ∧ It.st y = true) := Lib.hid ⟨hvw.2.2, It.st_of hvw.1 hvw.2.1⟩
  clear hB3 hI2 hDW hv HG HPD HL0 HE0 HI0 HN0 HP0 P4 hvw h1 HE HI HL
  go_upto_region 2 with fail
  generalize hw4 : w3.alloc (.cells #[.int .i64 y.kind, .int .u64 (y.num : Int), .slice A2.ab A2.nb A2.cb, .slice A2.ai A2.ni A2.ci] 26) = w4 at *
  generalize hC : w3.heap.size = C at *
  generalize hB : w.heap.size = B at *
  clear hw4 hC
  have CA := Lib.hid (fun W (hW : Below w4.heap.size w4 W) => sp_any 256 y A2 W _ p q hq0 hq1 HST.out.1 (by omega) HST.out.2 (HYI4.out.below hW))
  refine wp_region_held_drew (S := (fun w' => (w'.cell? ⟨B, 0, none⟩ = some (.int .i64 x.kind) ∧ w'.cell? ⟨B, 1, none⟩ = some (.int .u64 (x.num : Int)) ∧ w'.cell? ⟨B, 2, none⟩ = some (.slice A.ab A.nb A.cb) ∧ w'.cell? ⟨B, 3, none⟩ = some (.slice A.ai A.ni A.ci)) ∧ (w'.cell? ⟨C, 0, none⟩ = some (.int .i64 y.kind) ∧ w'.cell? ⟨C, 1, none⟩ = some (.int .u64 (y.num : Int)) ∧ w'.cell? ⟨C, 2, none⟩ = some (.slice A2.ab A2.nb A2.cb) ∧ w'.cell? ⟨C, 3, none⟩ = some (.slice A2.ai A2.ni A2.ci)))) (by kernel_rfl) ⟨cell_of4 HX4.out, cell_of4 HY4.out⟩ (fun hHeld => ?_)
  refine wpAnyH_take (i := 0) (v := ?_) rfl (by kernel_rfl) (by kernel_rfl) (by kernel_rfl) (fun _ _ _ h => h) (Or.inl ⟨by rfl, ?_⟩) hHeld ?_
  rotate_left
  · (intro W hSw; (try dsimp only at hSw); go_simp; try with_reducible rfl)
  try simp only [Act.put, List.setIfInBounds_toArray, List.set_cons_zero, List.set_cons_succ, List.getElem_toArray, List.getElem_cons_succ, List.getElem_cons_zero]
  refine wpAnyH_take (i := 1) (v := ?_) rfl (by kernel_rfl) (by kernel_rfl) (by kernel_rfl) (fun _ _ _ h => h) (Or.inl ⟨by rfl, ?_⟩) hHeld ?_
  rotate_left
  · (intro W hSw; (try dsimp only at hSw); go_simp; try with_reducible rfl)
  try simp only [Act.put, List.setIfInBounds_toArray, List.set_cons_zero, List.set_cons_succ, List.getElem_toArray, List.getElem_cons_succ, List.getElem_cons_zero]
  refine wpAnyH_take (i := 2) (v := ?_) rfl (by kernel_rfl) (by kernel_rfl) (by kernel_rfl) (fun _ _ _ h => h) (Or.inl ⟨by rfl, ?_⟩) hHeld ?_
  rotate_left
  · (intro W hSw; (try dsimp only at hSw); go_simp; try with_reducible rfl)
  try simp only [Act.put, List.setIfInBounds_toArray, List.set_cons_zero, List.set_cons_succ, List.getElem_toArray, List.getElem_cons_succ, List.getElem_cons_zero]
  refine wpAnyH_take (i := 3) (v := ?_) rfl (by kernel_rfl) (by kernel_rfl) (by kernel_rfl) (fun _ _ _ h => h) (Or.inl ⟨by rfl, ?_⟩) hHeld ?_
  rotate_left
  · (intro W hSw; (try dsimp only at hSw); go_simp; try with_reducible rfl)
  try simp only [Act.put, List.setIfInBounds_toArray, List.set_cons_zero, List.set_cons_succ, List.getElem_toArray, List.getElem_cons_succ, List.getElem_cons_zero]
  refine wpAnyH_take (i := 4) (v := ?_) rfl (by kernel_rfl) (by kernel_rfl) (by kernel_rfl) (fun _ _ _ h => h) (Or.inl ⟨by rfl, ?_⟩) hHeld ?_
  rotate_left
  · (intro W hSw; (try dsimp only at hSw); go_simp; try with_reducible rfl)
  try simp only [Act.put, List.setIfInBounds_toArray, List.set_cons_zero, List.set_cons_succ, List.getElem_toArray, List.getElem_cons_succ, List.getElem_cons_zero]
  refine wpAnyH_take (i := 8) (v := ?_) rfl (by kernel_rfl) (by kernel_rfl) (by kernel_rfl) (fun _ _ _ h => h) (Or.inl ⟨by rfl, ?_⟩) hHeld ?_
  rotate_left
  · (intro W hSw; (try dsimp only at hSw); go_simp; try with_reducible rfl)
  try simp only [Act.put, List.setIfInBounds_toArray, List.set_cons_zero, List.set_cons_succ, List.getElem_toArray, List.getElem_cons_succ, List.getElem_cons_zero]
  refine wpAnyH_ready (rs := [5]) (by kernel_rfl) (by simp) ?_
  refine AllReadyH.cons rfl (fun K1 hK1 => ?_) AllReadyH.nil
  go_simp
  refine (CA.out _ (below_drewN (Below.refl _ _) 1)).mono ?_
  rintro e8 v8 ⟨z, A8, rfl, hI8, hB8⟩
  have HB8 := Lib.hid (pure_trans (below_drewN (Below.refl w4.heap.size w4) 1) hB8)
  have HI8 := Lib.hid (hI8.imp (ok' := fun _ => True) fun _ _ _ => trivial)
  clear hI8 hB8
  refine hK1.out _ _ ⟨cell_of4 (Below.keep HB8.out HX4.out (lt_of_block HX4.out)), cell_of4 (Below.keep HB8.out HY4.out (lt_of_block HY4.out))⟩ (fun hHeld => ?_)
  clear hK1
  try simp only [Act.put, List.setIfInBounds_toArray, List.set_cons_zero, List.set_cons_succ, List.getElem_toArray, List.getElem_cons_succ, List.getElem_cons_zero]
  refine wpAnyH_ready (rs := [6]) (by kernel_rfl) (by simp) ?_
  refine AllReadyH.cons rfl (fun K1 hK1 => ?_) AllReadyH.nil
  go_simp
  have P9 := pure_alloc v8 (.cells #[.int .i64 x.kind, .int .u64 (x.num : Int), .slice A.ab A.nb A.cb, .slice A.ai A.ni A.ci, .int .i64 y.kind, .int .u64 (y.num : Int), .slice A2.ab A2.nb A2.cb, .slice A2.ai A2.ni A2.ci, .int .i64 z.kind, .int .u64 (z.num : Int), .slice A8.ab A8.nb A8.cb, .slice A8.ai A8.ni A8.ci] 26)
  have N9 := alloc_new v8 (.cells #[.int .i64 x.kind, .int .u64 (x.num : Int), .slice A.ab A.nb A.cb, .slice A.ai A.ni A.ci, .int .i64 y.kind, .int .u64 (y.num : Int), .slice A2.ab A2.nb A2.cb, .slice A2.ai A2.ni A2.ci, .int .i64 z.kind, .int .u64 (z.num : Int), .slice A8.ab A8.nb A8.cb, .slice A8.ai A8.ni A8.ci] 26)
  have HB9 := Lib.hid (pure_trans HB8.out P9)
  have hTL : TL (fun _ => True) (v8.alloc (.cells #[.int .i64 x.kind, .int .u64 (x.num : Int), .slice A.ab A.nb A.cb, .slice A.ai A.ni A.ci, .int .i64 y.kind, .int .u64 (y.num : Int), .slice A2.ab A2.nb A2.cb, .slice A2.ai A2.ni A2.ci, .int .i64 z.kind, .int .u64 (z.num : Int), .slice A8.ab A8.nb A8.cb, .slice A8.ai A8.ni A8.ci] 26)) [x, y, z] (some ⟨v8.heap.size, 0, none⟩) 3 := by
    refine ⟨rfl, by decide, fun j hj => ?_⟩
    have hj : j < 3 := hj
    rcases (show j = 0 ∨ j = 1 ∨ j = 2 by omega) with rfl | rfl | rfl
    · exact ⟨v8.heap.size, 0, A, rfl, trivial, ⟨cell_of_arr N9 _, cell_of_arr N9 _, cell_of_arr N9 _, cell_of_arr N9 _⟩, (HI4.out.below HB9.out).imp fun _ _ _ => trivial⟩
    · exact ⟨v8.heap.size, 0, A2, rfl, trivial, ⟨cell_of_arr N9 _, cell_of_arr N9 _, cell_of_arr N9 _, cell_of_arr N9 _⟩, (HYI4.out.below HB9.out).imp fun _ _ _ => trivial⟩
    · exact ⟨v8.heap.size, 0, A8, rfl, trivial, ⟨cell_of_arr N9 _, cell_of_arr N9 _, cell_of_arr N9 _, cell_of_arr N9 _⟩, HI8.out.below P9⟩
  have HTL := Lib.hid hTL
  clear P9 N9 hTL
  refine hK1.out _ _ ⟨cell_of4 (Below.keep HB9.out HX4.out (lt_of_block HX4.out)), cell_of4 (Below.keep HB9.out HY4.out (lt_of_block HY4.out))⟩ (fun hHeld => ?_)
  clear hK1
  try simp only [Act.put, List.setIfInBounds_toArray, List.set_cons_zero, List.set_cons_succ, List.getElem_toArray, List.getElem_cons_succ, List.getElem_cons_zero]
  refine wpAnyH_take (i := 7) (v := ?_) rfl (by kernel_rfl) (by kernel_rfl) (by kernel_rfl) (fun _ _ _ h => h) (Or.inl ⟨by rfl, ?_⟩) hHeld ?_
  rotate_left
  · (intro W hSw; (try dsimp only at hSw); go_simp; try with_reducible rfl)
  try simp only [Act.put, List.setIfInBounds_toArray, List.set_cons_zero, List.set_cons_succ, List.getElem_toArray, List.getElem_cons_succ, List.getElem_cons_zero]
  refine wpAnyH_done (by kernel_rfl) ?_ _
  try simp only [Act.put, List.setIfInBounds_toArray, List.set_cons_zero, List.set_cons_succ, List.getElem_toArray, List.getElem_cons_succ, List.getElem_cons_zero]
  have HE9 := Lib.hid (HE4.out.below HB9.out)
  have HP9 := Lib.hid (show Below B w _ from HP4.out.trans (HB9.out.mono (by have := HP4.out.size; omega)))
  clear hHeld CA HYI4 HST HX4 HY4 HI4 HE4 HB8 HI8 HB9 HP4
  generalize hr : v8.heap.size = r at *
  generalize v8.alloc (.cells #[.int .i64 x.kind, .int .u64 (x.num : Int), .slice A.ab A.nb A.cb, .slice A.ai A.ni A.ci, .int .i64 y.kind, .int .u64 (y.num : Int), .slice A2.ab A2.nb A2.cb, .slice A2.ai A2.ni A2.ci, .int .i64 z.kind, .int .u64 (z.num : Int), .slice A8.ab A8.nb A8.cb, .slice A8.ai A8.ni A8.ci] 26) = w9 at *
  clear hr
  go_wp2_with fail
  go_loopw [27] (fun i W => ∃ j : Nat, i = .int .i64 (j : Int) ∧ j ≤ 3 ∧ Below w9.heap.size w9 W) (fun i _ => 3 - (intOf i).toNat)
  case atStart => exact ⟨0, rfl, by omega, Below.refl _ _⟩
  case round =>
    obtain ⟨u, hu⟩ : ∃ u, u = wr := ⟨_, rfl⟩
    subst hu
    obtain ⟨j, rfl, hj, hBl⟩ := hrel
    by_cases hj3 : j < 3
    · obtain ⟨b', o', Z, ea, _, ⟨c0, c1, c2, c3⟩, hIz⟩ := (HTL.out.below hBl).2.2 j hj3
      cases ea
      simp only [Nat.zero_add] at c0 c1 c2 c3
      have HBL := Lib.hid hBl
      have HIZ := Lib.hid hIz
      clear hBl hIz
      generalize [x, y, z][j] = z9 at *
      obtain ⟨bs, hbs⟩ : ∃ bs, bs = (if It.valid z9 = true then It.enc z9 else []) := ⟨_, rfl⟩
      obtain ⟨er, her⟩ : ∃ er : Int, er = (if It.valid z9 = true then 0 else 1) := ⟨_, rfl⟩
      have HEP : Hid (∀ W e W', EP z9 W e W' → ∃ v, e = .returned (.tuple #[v, .int .i64 er]) ∧ OwnB W' W.heap.size v bs ∧ Below W.heap.size W W') := Lib.hid fun W e W' h => by subst hbs her; exact h
      clear hbs her
      have PZ := pure_alloc u (.cells #[.int .i64 z9.kind, .int .u64 (z9.num : Int), .slice Z.ab Z.nb Z.cb, .slice Z.ai Z.ni Z.ci] 26)
      have NZ := alloc_new u (.cells #[.int .i64 z9.kind, .int .u64 (z9.num : Int), .slice Z.ab Z.nb Z.cb, .slice Z.ai Z.ni Z.ci] 26)
      have HC := Lib.hid (cencode_any z9 Z _ _ (HIZ.out.below PZ) ((HE9.out.below HBL.out).below PZ))
      have HIZ1 := Lib.hid (HIZ.out.below PZ)
      have HBZ := Lib.hid (pure_trans HBL.out PZ)
      have HNZ := Lib.hid NZ
      have hjz : (j : Int) < 3 := by omega
      clear PZ NZ HIZ HBL
      go_upto_region 5 with fail
      clear c0 c1 c2 c3
      generalize u.alloc (.cells #[.int .i64 z9.kind, .int .u64 (z9.num : Int), .slice Z.ab Z.nb Z.cb, .slice Z.ai Z.ni Z.ci] 26) = u1 at *
      generalize u.heap.size = bz at *
      obtain ⟨d0, d1, d2, d3⟩ := cell_of4 HNZ.out
      go_wp2_with fail
      refine HC.out.mono ?_
      rintro e u2 h2
      obtain ⟨v2, rfl, hO2, hB2⟩ := HEP.out _ _ _ h2
      clear h2
      obtain ⟨a2, c2, e2⟩ := own_form hO2
      subst e2
      have HO2 := Lib.hid hO2
      have HB2 := Lib.hid (pure_trans HBZ.out hB2)
      have HC2 := Lib.hid (rencode_any z9 Z u2 _ (HIZ1.out.below hB2) (HE9.out.below (pure_trans HBZ.out hB2)))
      obtain ⟨d0, d1, d2, d3⟩ := cell_of4 (Below.keep hB2 HNZ.out (lt_of_block HNZ.out))
      clear hO2 hB2 HC HBZ HIZ1
      generalize hL2 : bs.length = L2 at *
      go_wp2_with fail
      refine HC2.out.mono ?_
      rintro e u3 h3
      obtain ⟨v3, rfl, hO3, hB3⟩ := HEP.out _ _ _ h3
      clear h3 HEP
      obtain ⟨a3, c3, e3⟩ := own_form hO3
      subst e3
      have hbr2 := (HO2.out.pure hB3).br
      have hbr3 := hO3.br
      obtain ⟨a2', c2', e2', hbr2, _, _⟩ := hbr2
      obtain ⟨a3', c3', e3', hbr3, _, _⟩ := hbr3
      simp only [Value.slice.injEq] at e2' e3'
      obtain ⟨rfl, _, rfl⟩ := e2'
      obtain ⟨rfl, _, rfl⟩ := e3'
      have hs2 := str_of hbr2 c2
      have hs3 := str_of hbr3 c3
      have HB3 := Lib.hid (pure_trans HB2.out hB3)
      generalize hL3 : bs.length = L3 at *
      clear hO3 hB3 hbr2 hbr3 HC2 HO2 d0 d1 d2 d3 hL2 hL3
      go_wp2_with fail
      go_roundw
      case rel => exact ⟨j + 1, by go_num, by omega, HB3.out⟩
      case measure => simp [intOf]; omega
    · have hj3' : j = 3 := by omega
      have hjz : ¬ (j : Int) < 3 := by omega
      have HCa := Lib.hid (awake_any u (HE9.out.below hBl))
      have HBL := Lib.hid hBl
      clear hBl
      go_wp2_with fail
      refine HCa.out.mono ?_
      rintro e u5 ⟨rfl, B5⟩
      have HB5 := Lib.hid (HP9.out.trans ((pure_trans HBL.out B5).mono (by have := HP9.out.size; omega)))
      clear B5 HCa HBL
      go_wp2_with fail
      go_ret
      exact ⟨rfl, hB ▸ HB5.out⟩
end Go.Proofs.YtelefkkkccilaaaGreatDoor
