/- The law CborOne, walked. -/
import Derived.Test.YtelefkkkccilaaaGreatDoorLN
import Derived.Test.YtelefkkkccilaaaGreatDoorLP
import Derived.Test.YtelefkkkccilaaaGreatDoorZy
import Derived.Test.YtelefkkkccilaaaGreatDoorNa
import Derived.Test.YtelefkkkccilaaaGreatDoorNb
set_option linter.unusedVariables false
set_option linter.unusedSimpArgs false
namespace Go.Proofs.YtelefkkkccilaaaGreatDoor
open Go.RowKit
set_option maxRecDepth 100000
theorem short_yes (a : Option Addr) (n c : Nat) (w : World) (h : n ≤ 600) : Calls Tryz.prog 41 #[.slice a n c] w fun e w' => e = .returned (.bool true) ∧ w = w' := by
  have hz : (n : Int) ≤ 600 := by omega
  go_enter Tryz.func41, Tryz.ntmps41
  go_wp2
  go_ret
  exact ⟨by simp [hz], rfl⟩
theorem short_no (a : Option Addr) (n c : Nat) (w : World) (h : ¬ n ≤ 600) : Calls Tryz.prog 41 #[.slice a n c] w fun e w' => e = .returned (.bool false) ∧ w = w' := by
  have hz : ¬ (n : Int) ≤ 600 := by omega
  go_enter Tryz.func41, Tryz.ntmps41
  go_wp2
  go_ret
  exact ⟨by simp, rfl⟩
set_option maxHeartbeats 32000000 in
theorem one_any (a la : Option Addr) (n c ln lc : Nat) (l : List UInt8) (p q : Int) (w : World) (hq0 : -9223372036854775808 ≤ q) (hq1 : q ≤ 9223372036854775807) (hR : BR (fun b => b < w.heap.size) w a n l) (hc : n ≤ c) (hcm : c ≤ 9223372036854775807) (hL : InL w la ln) (hE : Env w) :
    Calls Tryz.prog 11 #[.slice a n c, .slice la ln lc, .int .i64 p, .int .i64 q] w fun e w' => e = .returned (.bool true) ∧ Below w.heap.size w w' := by
  have h1 := hE.lt
  have HE := Lib.hid hE
  have HL := Lib.hid hL
  have HRB := Lib.hid hR
  clear hE hL hR
  by_cases h6 : n ≤ 600
  case neg =>
    have HS := Lib.hid (short_no a n c w h6)
    have HC := Lib.hid (awake_any w HE.out)
    clear HE HL HRB h6
    go_enter Tryz.func11, Tryz.ntmps11
    go_wp2_with fail
    refine HS.out.mono ?_
    rintro e w1 ⟨rfl, rfl⟩
    go_wp2_with fail
    refine HC.out.mono ?_
    rintro e w5 ⟨rfl, B5⟩
    have HB5 := Lib.hid B5
    clear B5 HC
    go_wp2_with fail
    go_ret
    exact ⟨rfl, HB5.out⟩
  have HS := Lib.hid (short_yes a n c w h6)
  go_enter Tryz.func11, Tryz.ntmps11
  go_wp2_with fail
  refine HS.out.mono ?_
  rintro e w1 ⟨rfl, rfl⟩
  go_wp2_with fail
  refine (new_any la ln lc w).mono ?_
  rintro e w2 ⟨rfl, rfl⟩
  have PD := pure_alloc w (.cells #[.slice la ln lc, .int .i64 0] 94)
  have hD := HL.out.deck lc
  have HG := Lib.hid (gen_any 4 (by decide) w.heap.size _ 4 rfl hD (HE.out.below PD) h1)
  clear PD hD HS
  go_wp2_with fail
  refine HG.out.mono ?_
  rintro e w3 ⟨x, X, rfl, hvx, hIx, hW3⟩
  have hB3 := hW3.pure
  have HB3 := Lib.hid hB3
  have HV := Lib.hid hvx
  have HC1 := Lib.hid (rencode_any x X w3 _ hIx (HE.out.below hB3))
  clear hB3 hvx hIx hW3 HG
  go_wp2_with fail
  refine HC1.out.mono ?_
  rintro e w4 h4
  obtain ⟨v4, rfl, hO4, hB4⟩ := h4
  rw [if_pos HV.out] at hO4
  have hel : (It.enc x).length ≤ 4096 := (by have h := HV.out; unfold It.valid at h; simp only [Bool.and_eq_true, decide_eq_true_eq] at h; exact h.2)
  generalize It.enc x = ex at *
  obtain ⟨a4, c4, e4⟩ := own_form hO4
  subst e4
  generalize hL4 : ex.length = n4 at *
  have hif : (if It.valid x = true then (0 : Int) else 1) = 0 := if_pos HV.out
  rw [hif]
  have HB4 := Lib.hid (pure_trans HB3.out hB4)
  have HSp := Lib.hid (spoilt_any ex a4 n4 c4 w4 _ p q (BR.of_own hO4 hL4.symm) (by omega) hq0 hq1)
  clear hif hO4 hB4 HC1 HB3 HV hL4
  go_wp2_with fail
  refine HSp.out.mono ?_
  rintro e w5 ⟨l5, a5, c5, rfl, hR5, hc5, hcm5, hl5, hB5⟩
  generalize hn5 : l5.length = n5 at *
  have HB5 := Lib.hid (pure_trans HB4.out hB5)
  have P6 := pure_alloc w5 (.cells #[.slice a n c, .slice a5 n5 c5] 23)
  have N6 := alloc_new w5 (.cells #[.slice a n c, .slice a5 n5 c5] 23)
  have HROW : Hid (∀ j, j < 2 → ∃ (az : Option Addr) (nz cz : Nat) (lz : List UInt8), (w5.alloc (.cells #[.slice a n c, .slice a5 n5 c5] 23)).cell? ⟨w5.heap.size, j, none⟩ = some (.slice az nz cz) ∧ BR (fun _ => True) (w5.alloc (.cells #[.slice a n c, .slice a5 n5 c5] 23)) az nz lz ∧ nz ≤ cz ∧ cz ≤ 9223372036854775807) := Lib.hid fun j hj => by
    rcases (show j = 0 ∨ j = 1 by omega) with rfl | rfl
    · exact ⟨_, _, _, l, cell_of_arr N6 _, ((HRB.out.below HB5.out).below P6).imp fun _ _ _ => trivial, hc, hcm⟩
    · exact ⟨_, _, _, l5, cell_of_arr N6 _, (hR5.below P6).imp fun _ _ _ => trivial, hc5, hcm5⟩
  have HB6 := Lib.hid (pure_trans HB5.out P6)
  have HE6 := Lib.hid (HE.out.below HB6.out)
  clear hR5 hB5 HSp HB4 HB5 P6 N6 hl5 hc5 hcm5 hn5 HRB hel hc hcm
  go_upto_region 5 with fail
  generalize hr6 : w5.heap.size = r at *
  generalize w5.alloc (.cells #[.slice a n c, .slice a5 n5 c5] 23) = w6 at *
  clear hr6
  go_loopw [35] (fun i W => ∃ j : Nat, i = .int .i64 (j : Int) ∧ j ≤ 2 ∧ Below w6.heap.size w6 W) (fun i _ => 2 - (intOf i).toNat)
  case atStart => exact ⟨0, rfl, by omega, Below.refl _ _⟩
  case round =>
    obtain ⟨u, hu⟩ : ∃ u, u = wr := ⟨_, rfl⟩
    subst hu
    obtain ⟨j, rfl, hj, hBj⟩ := hrel
    by_cases hj2 : j < 2
    · obtain ⟨az, nz, cz, lz, hcell, hBz, hcz, hczm⟩ := HROW.out j hj2
      have hcl := (hBj.cell (p := ⟨r, j, none⟩) (lt_of_cell hcell)).trans hcell
      have HBj := Lib.hid hBj
      have HBz := Lib.hid (hBz.below hBj)
      have hjz : (j : Int) < 2 := by omega
      have HEu := Lib.hid (HE6.out.below hBj)
      have HC := Lib.hid (cdecode_any lz az nz cz u _ HBz.out hcz hczm HEu.out)
      have hdo := fun x => @It.decode_ok lz x
      have HDO := Lib.hid hdo
      clear hcell hBz hBj hdo hcz hczm
      generalize It.decodeP lz = R at *
      go_wp2_with fail
      refine HC.out.mono ?_
      rintro e u2 ⟨hB2, h2⟩
      cases R with
      | err er =>
        obtain ⟨h0, rfl⟩ := h2
        have he : ¬ (er : Int) = 0 := by omega
        have heb : ((er : Int) != 0) = true := by simpa using he
        have HB7 := Lib.hid (pure_trans HBj.out (pure_trans hB2 (pure_alloc u2 (.cells #[.int .i64 0, .int .u64 0, .slice none 0 0, .slice none 0 0] 26))))
        clear h0 hB2 HC hcl
        go_wp2_with fail
        go_roundw
        case rel => exact ⟨j + 1, by go_num, by omega, HB7.out⟩
        case measure => simp [intOf]; omega
      | ok y =>
        obtain ⟨Y, rfl, hIy⟩ := h2
        obtain ⟨hey, hvy⟩ := HDO.out y rfl
        have P7 := pure_alloc u2 (.cells #[.int .i64 y.kind, .int .u64 (y.num : Int), .slice Y.ab Y.nb Y.cb, .slice Y.ai Y.ni Y.ci] 26)
        have HB7 := Lib.hid (pure_trans HBj.out (pure_trans hB2 P7))
        have HN7 := Lib.hid (alloc_new u2 (.cells #[.int .i64 y.kind, .int .u64 (y.num : Int), .slice Y.ab Y.nb Y.cb, .slice Y.ai Y.ni Y.ci] 26))
        have HI7 := Lib.hid ((hIy.imp (ok' := fun _ => True) fun _ _ _ => trivial).below P7)
        have HE7 := Lib.hid (HE6.out.below HB7.out)
        have HBz7 := Lib.hid ((HBz.out.below hB2).below P7)
        have HEP : Hid (∀ W e W', EP y W e W' → ∃ v, e = .returned (.tuple #[v, .int .i64 0]) ∧ OwnB W' W.heap.size v lz ∧ Below W.heap.size W W') := Lib.hid fun W e W' h => by unfold EP at h; rw [hvy, hey] at h; exact h
        have HVY := Lib.hid hvy
        clear hB2 HC hcl P7 hIy hey hvy HBz HEu
        go_upto_region 8 with fail
        generalize hs7 : u2.heap.size = by7 at *
        generalize u2.alloc (.cells #[.int .i64 y.kind, .int .u64 (y.num : Int), .slice Y.ab Y.nb Y.cb, .slice Y.ai Y.ni Y.ci] 26) = u7 at *
        clear hs7
        have HC8 := Lib.hid (cencode_any y Y u7 _ HI7.out HE7.out)
        obtain ⟨y0, y1, y2, y3⟩ := cell_of4 HN7.out
        go_wp2_with fail
        refine HC8.out.mono ?_
        rintro e u8 h8
        obtain ⟨v8, rfl, hO8, hB8⟩ := HEP.out _ _ _ h8
        obtain ⟨a8, c8, e8⟩ := own_form hO8
        subst e8
        clear h8 HEP HC8 y0 y1 y2 y3
        have hbz := HBz7.out.below hB8
        have hnz := hbz.1
        have hs2 := str_of (BR.of_own hO8 rfl) c8
        have hs3 := str_of hbz cz
        have HCV := Lib.hid (cvalid_any y Y u8 _ (HI7.out.below hB8) (HE7.out.below hB8) true HVY.out)
        have hn8 := Below.keep hB8 HN7.out (lt_of_block HN7.out)
        obtain ⟨y0, y1, y2, y3⟩ := cell_of4 hn8
        have HB8 := Lib.hid (pure_trans HB7.out hB8)
        generalize lz.length = L8 at *
        clear hO8 hB8 hbz hn8 HBz7 hnz
        go_wp2_with fail
        refine HCV.out.mono ?_
        rintro e u9 ⟨rfl, hB9⟩
        have HB9 := Lib.hid (pure_trans HB8.out hB9)
        clear hB9 HCV hs2 hs3 y0 y1 y2 y3
        go_wp2_with fail
        go_roundw
        case rel => exact ⟨j + 1, by go_num, by omega, HB9.out⟩
        case measure => simp [intOf]; omega
    · have hj3' : j = 2 := by omega
      have hjz : ¬ (j : Int) < 2 := by omega
      have HCa := Lib.hid (awake_any u (HE6.out.below hBj))
      have HBL := Lib.hid hBj
      clear hBj
      go_wp2_with fail
      refine HCa.out.mono ?_
      rintro e u5 ⟨rfl, B5⟩
      have HB9 := Lib.hid (HB6.out.trans ((pure_trans HBL.out B5).mono HB6.out.size))
      clear B5 HCa HBL
      go_wp2_with fail
      go_ret
      exact ⟨rfl, HB9.out⟩
end Go.Proofs.YtelefkkkccilaaaGreatDoor
