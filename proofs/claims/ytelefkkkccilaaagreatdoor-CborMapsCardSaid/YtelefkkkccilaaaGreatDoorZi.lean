/- The law CborMaps, walked. -/
import Derived.Test.YtelefkkkccilaaaGreatDoorLN
import Derived.Test.YtelefkkkccilaaaGreatDoorLO
import Derived.Test.YtelefkkkccilaaaGreatDoorZg
import Derived.Test.YtelefkkkccilaaaGreatDoorZh
set_option linter.unusedVariables false
set_option linter.unusedSimpArgs false
namespace Go.Proofs.YtelefkkkccilaaaGreatDoor
open Go.RowKit
set_option maxRecDepth 100000
theorem TL.upto {ok : Nat → Prop} {w : World} {l : List It} {a : Option Addr} {n : Nat} (h : TL ok w l a n) {k : Nat} (hk : k ≤ n) : TL ok w (l.take k) a k := by
  obtain ⟨h1, h2, h3⟩ := h
  refine ⟨by rw [List.length_take]; omega, by omega, fun j hj => ?_⟩
  have hj' : j < l.length := by rw [List.length_take] at hj; omega
  rw [List.getElem_take]
  exact h3 j hj'
/-- A row that is appended to a row of one's own. -/
theorem app_rows {W : World} {base : Nat} {Q ok : Nat → Prop} {v : Value} {es : List (It × Ad)} (hO : OutI W base Q v es) {l : List It} {a : Option Addr} {n : Nat} (hT : TL ok W l a n) (hok : ∀ b, ok b → b < W.heap.size → okQ Q v b) (hsz : es.length + n ≤ 1000000) (hb : base ≤ W.heap.size) (c : Nat) :
    ∃ v' W' es2, (Builtin.append_ #[24, 24] 24 #[v, .slice a n c]).run Tryz.prog W = .ok v' W' ∧ es2.map (·.1) = l ∧ OutI W' base Q v' (es ++ es2) ∧ W.grownBy W' v.ownBlock := by
  obtain ⟨es2, h1, h2, h3⟩ := hT.src
  obtain ⟨v', W', h4, h5, h6, _⟩ := hO.app (news := es2) (c := c) h2 (fun e he => (h3 e he).imp fun b hb' hl => hok b hb' hl) hsz hb
  exact ⟨v', W', es2, h4, h1, h5, h6⟩
theorem does_eql {o : Oper} {ρ : Operand → Value} {w : World} (a b : Operand) (X : Int) (ho : o.op = .binOp .eql 3 a b 3) (ha : ρ a = .int .i64 X) (hb : ρ b = .int .i64 X) : Rg.Does Tryz.prog o ρ w fun v w' => RB w w' ∧ True ∧ (Fq.eq (.bool true)).holds v w' := by
  refine Rg.Does.value (v := .bool true) (w' := w) ?_ ⟨RB.refl _, trivial, rfl⟩
  have hr : (binOp .eql 3 (.int .i64 X) (.int .i64 X)).run Tryz.prog w = .ok (.bool true) w := by go_simp
  have hg : (eqGuard BinOp.eql 3 a b (.int .i64 X) (.int .i64 X)).run Tryz.prog w = .ok () w := by simp [eqGuard]
  simp only [execOp, ho, ha, hb, Sem.run_bind, hg, hr, Result.andThen_ok, Sem.run_pure]
theorem q_ccmp {x y : It} {v u : Value} {w : World} (hE : Env w) (hx : (Fq.it x).holds v w) (hy : (Fq.it y).holds u w) : Calls Tryz.prog 65 #[v, u] w (EndQ w (.eq (.int .i64 (It.cmpI x y)))) := by
  obtain ⟨A, rfl, hI⟩ := hx
  obtain ⟨C, rfl, hJ⟩ := hy
  exact (ccmp_any x y A C w _ _ hI hJ hE).mono fun e w' h => ⟨_, h.1, h.2, trivial, rfl⟩
theorem q_rcmp {x y : It} {v u : Value} {w : World} (hE : Env w) (hx : (Fq.it x).holds v w) (hy : (Fq.it y).holds u w) : Calls Tryz.prog 66 #[v, u] w (EndQ w (.eq (.int .i64 (It.cmpI x y)))) := by
  obtain ⟨A, rfl, hI⟩ := hx
  obtain ⟨C, rfl, hJ⟩ := hy
  exact (rcmp_any x y A C w _ _ hI hJ hE).mono fun e w' h => ⟨_, h.1, h.2, trivial, rfl⟩
theorem q_ccmp_self {x : It} {v u : Value} {w : World} (hE : Env w) (hx : (Fq.it x).holds v w) (hy : (Fq.it x).holds u w) : Calls Tryz.prog 65 #[v, u] w (EndQ w (.eq (.int .i64 0))) := by
  have := q_ccmp hE hx hy
  rw [cmpI_self] at this
  exact this
set_option maxHeartbeats 32000000 in
theorem maps_any (la lm ra : Option Addr) (ln lc mn mc rn rc : Nat) (rl : List It) (p q : Int) (w : World) (hq0 : -9223372036854775808 ≤ q) (hq1 : q ≤ 9223372036854775807) (hL : InL w la ln) (hM : InL w lm mn) (hT : TL (fun b => b < w.heap.size) w rl ra rn) (hE : Env w) :
    Calls Tryz.prog 12 #[.slice la ln lc, .slice lm mn mc, .slice ra rn rc, .int .i64 p, .int .i64 q] w fun e w' => e = .returned (.bool true) ∧ Below w.heap.size w w' := by
  have h1 := hE.lt
  have HE := Lib.hid hE
  have HL := Lib.hid hL
  have HM := Lib.hid hM
  have HT := Lib.hid hT
  clear hE hL hM hT
  go_enter Tryz.func12, Tryz.ntmps12
  by_cases h20 : 20 < rn
  case pos =>
    have hz : (20 : Int) < (rn : Int) := by omega
    have HC := Lib.hid (awake_any w HE.out)
    clear HE HL HM HT
    go_wp2_with fail
    refine HC.out.mono ?_
    rintro e w5 ⟨rfl, B5⟩
    have HB5 := Lib.hid B5
    clear B5 HC
    go_wp2_with fail
    go_ret
    exact ⟨rfl, HB5.out⟩
  have hz : ¬ (20 : Int) < (rn : Int) := by omega
  have HRN : Hid (rn ≤ 20) := Lib.hid (by omega)
  go_wp2_with fail
  refine (new_any la ln lc w).mono ?_
  rintro e w2 ⟨rfl, rfl⟩
  have PD := pure_alloc w (.cells #[.slice la ln lc, .int .i64 0] 94)
  have HD := Lib.hid (HL.out.deck lc)
  have HPD := Lib.hid PD
  have HED := Lib.hid (HE.out.below PD)
  have hsD : (w.alloc (.cells #[.slice la ln lc, .int .i64 0] 94)).heap.size = w.heap.size + 1 := by simp
  clear PD
  generalize hwd : w.alloc (.cells #[.slice la ln lc, .int .i64 0] 94) = wd at *
  generalize hb : w.heap.size = b at *
  go_wp2_with fail
  refine (next_any b 8 wd HD.out (by omega) (by omega)).mono ?_
  rintro e w3 ⟨r, hr0, hr1, rfl, hD3, hB3, hs3⟩
  obtain ⟨n0, rfl⟩ := Int.eq_ofNat_of_zero_le hr0
  have HD3 := Lib.hid ((DW.start HD.out).next hD3 hB3)
  have HNn : Hid (n0 ≤ 7) := Lib.hid (by omega)
  clear hB3 hs3 hD3 hr0 hr1 hz h20
  go_wp2_with fail
  go_loopw [12, 13] (fun v n W => PRL b wd v n W) (fun _ n _ => (intOf n).toNat)
  case atStart => exact ⟨n0, [], rfl, by have := HNn.out; simp; omega, OutI.nil _ _ _, HD3.out⟩
  case round =>
    obtain ⟨u, hu⟩ : ∃ u, u = wr := ⟨_, rfl⟩
    subst hu
    obtain ⟨k, es, rfl, hlen, hO, hDW⟩ := hrel
    have hsr := hDW.but.size
    by_cases hk : 0 < (k : Int)
    · have hk8 : (k : Int) ≤ 8 := by omega
      have HO := Lib.hid hO
      have HDW := Lib.hid hDW
      have HCa := Lib.hid (gen_any 1 (by decide) b u 1 rfl hDW.deck (But.env HED.out hDW.but (by omega)) (by omega))
      clear hO hDW
      go_wp2_with fail
      refine HCa.out.mono ?_
      rintro e w5 ⟨y, A1, rfl, hvy, hIy, hW5⟩
      have HW5 := Lib.hid hW5
      have HIy := Lib.hid hIy
      have HCb := Lib.hid (gen_any 1 (by decide) b w5 1 rfl hW5.deck (But.env HED.out (HDW.out.but.trans hW5.but) (by omega)) (by omega))
      clear hvy hIy hW5 HCa
      go_wp2_with fail
      refine HCb.out.mono ?_
      rintro e w7 ⟨z, A2, rfl, hvz, hIz, hW7⟩
      have hs5 := HW5.out.but.size
      have hs7 := hW7.but.size
      obtain ⟨v8, w8, hrun, hO8, hB8⟩ := gen_push2 HO.out (by omega) (by omega) (HW5.out.but.trans hW7.but) (But.ir HIy.out hW7.but (fun q hq => by omega)) (hIz.imp fun q hq _ => by omega) 2 (by omega)
      have HR := Lib.hid hrun
      have HO8 := Lib.hid hO8
      have HD8 := Lib.hid (((HDW.out.next HW5.out.deck HW5.out.but).next hW7.deck hW7.but).down hB8 (by omega))
      clear hrun hO8 hB8 hvz hIz hW7 hs5 hs7 HCb HW5 HIy
      go_wp2_with (at_builtin; refine wpList_app rfl _ _ 24 rfl rfl rfl HR.out ?_; clear HR)
      go_roundw
      case rel => exact ⟨k - 1, _, by go_num, by simp; omega, HO8.out, HD8.out⟩
      case measure => simp [intOf]; omega
    · obtain ⟨pa, pc, rfl⟩ := own_form hO.row
      obtain ⟨hTL, _, hlc, hlcm⟩ := hO.tl'
      generalize hL0 : es.length = pn at *
      have HTP := Lib.hid (hTL.imp (ok' := fun q => q < u.heap.size) fun q _ hl => hl)
      have HB1 : Hid (Below b w u) := Lib.hid (by subst hb; subst hwd; exact hDW.pure)
      have hpn : pn ≤ 16 := by omega
      have HE1 := Lib.hid (HE.out.below (hb ▸ HB1.out))
      have HM1 := Lib.hid (HM.out.below (hb ▸ HB1.out))
      have HT1 := Lib.hid (HT.out.below (hb ▸ HB1.out))
      clear hTL hO hDW
      generalize es.map (·.1) = pl at *
      have HPN : Hid (pn = pl.length) := Lib.hid HTP.out.1
      go_wp2_with fail
      refine (new_any lm mn mc u).mono ?_
      rintro e w6 ⟨rfl, rfl⟩
      have PD2 := pure_alloc u (.cells #[.slice lm mn mc, .int .i64 0] 94)
      have hD2 := HM1.out.deck mc
      have hbu : 1 < u.heap.size := by have := HB1.out.size; omega
      have HG := Lib.hid (gen_any 2 (by decide) u.heap.size _ 2 rfl hD2 (HE1.out.below PD2) hbu)
      have HPD2 := Lib.hid PD2
      have hsu2 : (u.alloc (.cells #[.slice lm mn mc, .int .i64 0] 94)).heap.size = u.heap.size + 1 := by simp
      clear PD2 hD2
      go_wp2_with fail
      refine HG.out.mono ?_
      rintro e w7 ⟨x, X, rfl, hvx, hIx, hW7⟩
      have HW7 := Lib.hid hW7
      have HIx := Lib.hid hIx
      have HVX := Lib.hid hvx
      have HG2 := Lib.hid (gen_any 2 (by decide) u.heap.size w7 2 rfl hW7.deck (HE1.out.below hW7.pure) hbu)
      clear hvx hIx hW7 HG
      go_wp2_with fail
      refine HG2.out.mono ?_
      rintro e w8 ⟨y, Y, rfl, hvy, hIy, hW8⟩
      have HW8 := Lib.hid (show DW u.heap.size (u.alloc (.cells #[.slice lm mn mc, .int .i64 0] 94)) w8 from HW7.out.next hW8.deck hW8.but)
      have HIx8 := Lib.hid (But.ir HIx.out hW8.but (fun q hq => by omega))
      have HIy8 := Lib.hid hIy
      have HB8 := Lib.hid HW8.out.pure
      clear hvy hIy hW8 HG2 HW7 HIx HW8
      go_upto_region 11 with fail
      have HA8 := Lib.hid (pure_trans (pure_alloc w8 (.cells #[.int .i64 x.kind, .int .u64 (x.num : Int), .slice X.ab X.nb X.cb, .slice X.ai X.ni X.ci] 26)) (pure_alloc (w8.alloc (.cells #[.int .i64 x.kind, .int .u64 (x.num : Int), .slice X.ab X.nb X.cb, .slice X.ai X.ni X.ci] 26)) (.cells #[.int .i64 y.kind, .int .u64 (y.num : Int), .slice Y.ab Y.nb Y.cb, .slice Y.ai Y.ni Y.ci] 26)))
      have HX9 := Lib.hid (Below.keep (pure_alloc (w8.alloc (.cells #[.int .i64 x.kind, .int .u64 (x.num : Int), .slice X.ab X.nb X.cb, .slice X.ai X.ni X.ci] 26)) (.cells #[.int .i64 y.kind, .int .u64 (y.num : Int), .slice Y.ab Y.nb Y.cb, .slice Y.ai Y.ni Y.ci] 26)) (alloc_new w8 (.cells #[.int .i64 x.kind, .int .u64 (x.num : Int), .slice X.ab X.nb X.cb, .slice X.ai X.ni X.ci] 26)) (lt_of_block (alloc_new w8 (.cells #[.int .i64 x.kind, .int .u64 (x.num : Int), .slice X.ab X.nb X.cb, .slice X.ai X.ni X.ci] 26))))
      have HY9 := Lib.hid (alloc_new (w8.alloc (.cells #[.int .i64 x.kind, .int .u64 (x.num : Int), .slice X.ab X.nb X.cb, .slice X.ai X.ni X.ci] 26)) (.cells #[.int .i64 y.kind, .int .u64 (y.num : Int), .slice Y.ab Y.nb Y.cb, .slice Y.ai Y.ni Y.ci] 26))
      have hs9 : (w8.alloc (.cells #[.int .i64 x.kind, .int .u64 (x.num : Int), .slice X.ab X.nb X.cb, .slice X.ai X.ni X.ci] 26)).heap.size = w8.heap.size + 1 := by simp
      rw [hs9] at HY9
      have HIx9 := Lib.hid ((HIx8.out.imp (ok' := fun _ => True) fun _ _ _ => trivial).below HA8.out)
      have HIy9 := Lib.hid ((HIy8.out.imp (ok' := fun _ => True) fun _ _ _ => trivial).below HA8.out)
      have HB9 := Lib.hid (pure_trans HB8.out HA8.out)
      clear HIx8 HIy8 HB8 HA8 hs9 HPD2 hsu2
      generalize hw9 : (w8.alloc (.cells #[.int .i64 x.kind, .int .u64 (x.num : Int), .slice X.ab X.nb X.cb, .slice X.ai X.ni X.ci] 26)).alloc (.cells #[.int .i64 y.kind, .int .u64 (y.num : Int), .slice Y.ab Y.nb Y.cb, .slice Y.ai Y.ni Y.ci] 26) = w9 at *
      generalize hbx : w8.heap.size = bx at *
      clear hw9 hbx
      have HE9 := Lib.hid (HE1.out.below HB9.out)
      have HTP9 := Lib.hid ((HTP.out.below HB9.out).imp (ok' := fun q => q < w9.heap.size) fun q _ hl => hl)
      have HTR9 := Lib.hid ((HT1.out.below HB9.out).imp (ok' := fun q => q < w9.heap.size) fun q _ hl => hl)
      obtain ⟨PH, hPH⟩ : ∃ PH : Nat, PH = pn / 2 * 2 := ⟨_, rfl⟩
      have hphl : PH ≤ pn := by omega
      obtain ⟨PQ, hPQ⟩ : ∃ PQ : Nat, PQ = pn / 2 := ⟨_, rfl⟩
      have hwpq : IntKind.i64.wrap ((pn : Int) / 2) = (PQ : Int) := by rw [IntWalk.i64_in _ (by omega)]; omega
      have hwph : IntKind.i64.wrap ((PQ : Int) * 2) = (PH : Int) := by rw [IntWalk.i64_in _ (by omega)]; omega
      have hphc : (PH : Int) ≤ (pc : Int) := by omega
      have hphn : PH ≤ pc := by omega
      clear hPH hPQ
      refine wp_region_held_drew (S := (fun w' => True)) (by kernel_rfl) trivial (fun hHeld => ?_)
      refine wpAnyH_take (i := 0) (v := ?_) rfl (by kernel_rfl) (by kernel_rfl) (by kernel_rfl) (fun _ _ _ h => h) (Or.inl ⟨by rfl, ?_⟩) hHeld ?_
      rotate_left
      · (intro W hSw; (try dsimp only at hSw); go_simp; try with_reducible rfl)
      try simp only [Act.put, List.setIfInBounds_toArray, List.set_cons_zero, List.set_cons_succ, List.getElem_toArray, List.getElem_cons_succ, List.getElem_cons_zero]
      refine wpAnyH_take (i := 1) (v := ?_) rfl (by kernel_rfl) (by kernel_rfl) (by kernel_rfl) (fun _ _ _ h => h) (Or.inl ⟨by rfl, ?_⟩) hHeld ?_
      rotate_left
      · (intro W hSw; (try dsimp only at hSw); go_simp; try with_reducible rfl)
      try simp only [Act.put, List.setIfInBounds_toArray, List.set_cons_zero, List.set_cons_succ, List.getElem_toArray, List.getElem_cons_succ, List.getElem_cons_zero]
      refine wpAnyH_take (i := 2) (v := ?_) rfl (by kernel_rfl) (by kernel_rfl) (by kernel_rfl) (fun _ _ _ h => h) (Or.inl ⟨by rfl, ?_⟩) hHeld ?_
      rotate_left
      · (intro W hSw; (try dsimp only at hSw); go_simp; try with_reducible rfl)
      try simp only [Act.put, List.setIfInBounds_toArray, List.set_cons_zero, List.set_cons_succ, List.getElem_toArray, List.getElem_cons_succ, List.getElem_cons_zero]
      refine wpAnyH_take (i := 4) (v := ?_) rfl (by kernel_rfl) (by kernel_rfl) (by kernel_rfl) (fun _ _ _ h => h) (Or.inl ⟨by rfl, ?_⟩) hHeld ?_
      rotate_left
      · (intro W hSw; (try dsimp only at hSw); go_simp; try with_reducible rfl)
      try simp only [Act.put, List.setIfInBounds_toArray, List.set_cons_zero, List.set_cons_succ, List.getElem_toArray, List.getElem_cons_succ, List.getElem_cons_zero]
      refine wpAnyH_take (i := 6) (v := ?_) rfl (by kernel_rfl) (by kernel_rfl) (by kernel_rfl) (fun _ _ _ h => h) (Or.inl ⟨by rfl, ?_⟩) hHeld ?_
      rotate_left
      · (intro W hSw; (try dsimp only at hSw); go_simp; try with_reducible rfl)
      try simp only [Act.put, List.setIfInBounds_toArray, List.set_cons_zero, List.set_cons_succ, List.getElem_toArray, List.getElem_cons_succ, List.getElem_cons_zero]
      refine wpAnyH_take (i := 8) (v := ?_) rfl (by kernel_rfl) (by kernel_rfl) (by kernel_rfl) (fun _ _ _ h => h) (Or.inl ⟨by rfl, ?_⟩) hHeld ?_
      rotate_left
      · (intro W hSw; (try dsimp only at hSw); go_simp; try with_reducible rfl)
      try simp only [Act.put, List.setIfInBounds_toArray, List.set_cons_zero, List.set_cons_succ, List.getElem_toArray, List.getElem_cons_succ, List.getElem_cons_zero]
      refine wpAnyH_take (i := 9) (v := ?_) rfl (by kernel_rfl) (by kernel_rfl) (by kernel_rfl) (fun _ _ _ h => h) (Or.inl ⟨by rfl, ?_⟩) hHeld ?_
      rotate_left
      · (intro W hSw; (try dsimp only at hSw); go_simp; try with_reducible rfl)
      try simp only [Act.put, List.setIfInBounds_toArray, List.set_cons_zero, List.set_cons_succ, List.getElem_toArray, List.getElem_cons_succ, List.getElem_cons_zero]
      refine wpAnyH_take (i := 10) (v := ?_) rfl (by kernel_rfl) (by kernel_rfl) (by kernel_rfl) (fun _ _ _ h => h) (Or.inl ⟨by rfl, ?_⟩) hHeld ?_
      rotate_left
      · (intro W hSw; (try dsimp only at hSw); go_simp; try with_reducible rfl)
      try simp only [Act.put, List.setIfInBounds_toArray, List.set_cons_zero, List.set_cons_succ, List.getElem_toArray, List.getElem_cons_succ, List.getElem_cons_zero]
      refine wpAnyH_take (i := 11) (v := ?_) rfl (by kernel_rfl) (by kernel_rfl) (by kernel_rfl) (fun _ _ _ h => h) (Or.inl ⟨by rfl, ?_⟩) hHeld ?_
      rotate_left
      · (intro W hSw; (try dsimp only at hSw); go_simp; try with_reducible rfl)
      try simp only [Act.put, List.setIfInBounds_toArray, List.set_cons_zero, List.set_cons_succ, List.getElem_toArray, List.getElem_cons_succ, List.getElem_cons_zero]
      refine wpAnyH_take (i := 12) (v := ?_) rfl (by kernel_rfl) (by kernel_rfl) (by kernel_rfl) (fun _ _ _ h => h) (Or.inl ⟨by rfl, ?_⟩) hHeld ?_
      rotate_left
      · (intro W hSw; (try dsimp only at hSw); go_simp; try with_reducible rfl)
      try simp only [Act.put, List.setIfInBounds_toArray, List.set_cons_zero, List.set_cons_succ, List.getElem_toArray, List.getElem_cons_succ, List.getElem_cons_zero]
      refine wpAnyH_take (i := 13) (v := ?_) rfl (by kernel_rfl) (by kernel_rfl) (by kernel_rfl) (fun _ _ _ h => h) (Or.inl ⟨by rfl, ?_⟩) hHeld ?_
      rotate_left
      · (intro W hSw; (try dsimp only at hSw); go_simp; try with_reducible rfl)
      try simp only [Act.put, List.setIfInBounds_toArray, List.set_cons_zero, List.set_cons_succ, List.getElem_toArray, List.getElem_cons_succ, List.getElem_cons_zero]
      refine wpAnyH_take (i := 17) (v := ?_) rfl (by kernel_rfl) (by kernel_rfl) (by kernel_rfl) (fun _ _ _ h => h) (Or.inl ⟨by rfl, ?_⟩) hHeld ?_
      rotate_left
      · (intro W hSw; (try dsimp only at hSw); go_simp; try with_reducible rfl)
      try simp only [Act.put, List.setIfInBounds_toArray, List.set_cons_zero, List.set_cons_succ, List.getElem_toArray, List.getElem_cons_succ, List.getElem_cons_zero]
      refine wpAnyH_ready (rs := [3]) (by kernel_rfl) (by simp) ?_
      refine AllReadyH.cons rfl (fun K1 hK1 => ?_) AllReadyH.nil
      rw [if_pos (by rfl)]
      obtain ⟨v3, W3, es3, hrun3, hm3, hO3, hg3⟩ := app_rows (OutI.nil w9.drew w9.heap.size (fun q => q < w9.heap.size)) (HTP9.out.below (Below.refl _ _).drew) (fun b hb _ => ⟨hb, by simp [Value.ownBlock]⟩) (by simp; omega) (Nat.le_refl _) pc
      have HB3 := Lib.hid (below_grown (Below.refl w9.heap.size w9).drew (Nat.le_refl _) (OutI.nil w9.drew w9.heap.size (fun q => q < w9.heap.size)).row hg3)
      have hl3 : es3.length = pn := by have := congrArg List.length hm3; have := HPN.out; simp at *; omega
      have HO3 := Lib.hid hO3
      refine wp_app _ _ 24 rfl rfl rfl hrun3 ?_
      clear hrun3 hO3 hg3
      refine hK1.out _ _ trivial (fun hHeld => ?_)
      clear hK1
      try simp only [Act.put, List.setIfInBounds_toArray, List.set_cons_zero, List.set_cons_succ, List.getElem_toArray, List.getElem_cons_succ, List.getElem_cons_zero]
      refine wpAnyH_ready (rs := [5]) (by kernel_rfl) (by simp) ?_
      refine AllReadyH.cons rfl (fun K1 hK1 => ?_) AllReadyH.nil
      rw [if_pos (by rfl)]
      obtain ⟨v5, W5, es5, hrun5, hm5, hO5, hg5⟩ := app_rows HO3.out (HTR9.out.below HB3.out) (fun b hb _ => ⟨hb, fun e => by have := (own_lt HO3.out.row e).2.1; omega⟩) (by have := HRN.out; simp; omega) (by have := HB3.out.size; omega) rc
      have HB5 := Lib.hid (below_grown HB3.out (by have := HB3.out.size; omega) HO3.out.row hg5)
      have hl5 : es5.length = rn := by have := congrArg List.length hm5; have := HTR9.out.1; simp at *; omega
      have HO5 := Lib.hid hO5
      have hs5 := HB5.out.size
      refine wp_app _ _ 24 rfl rfl rfl hrun5 ?_
      clear hrun5 hO5 hg5
      refine hK1.out _ _ trivial (fun hHeld => ?_)
      clear hK1
      try simp only [Act.put, List.setIfInBounds_toArray, List.set_cons_zero, List.set_cons_succ, List.getElem_toArray, List.getElem_cons_succ, List.getElem_cons_zero]
      refine wpAnyH_ready (rs := [7]) (by kernel_rfl) (by simp) ?_
      refine AllReadyH.cons rfl (fun K1 hK1 => ?_) AllReadyH.nil
      rw [if_pos (by rfl)]
      obtain ⟨v7, W7, es7, hrun7, hm7, hO7, hg7⟩ := app_rows (OutI.nil W5 W5.heap.size (fun q => q < w9.heap.size)) (HTP9.out.below HB5.out) (fun b hb _ => ⟨hb, by simp [Value.ownBlock]⟩) (by simp; omega) (Nat.le_refl _) pc
      have HB7 := Lib.hid (below_grown (Below.refl W5.heap.size W5) (Nat.le_refl _) (OutI.nil W5 W5.heap.size (fun q => q < w9.heap.size)).row hg7)
      have hl7 : es7.length = pn := by have := congrArg List.length hm7; have := HPN.out; simp at *; omega
      have HO7 := Lib.hid hO7
      have hs7 := HB7.out.size
      refine wp_app _ _ 24 rfl rfl rfl hrun7 ?_
      clear hrun7 hO7 hg7
      refine hK1.out _ _ trivial (fun hHeld => ?_)
      clear hK1
      try simp only [Act.put, List.setIfInBounds_toArray, List.set_cons_zero, List.set_cons_succ, List.getElem_toArray, List.getElem_cons_succ, List.getElem_cons_zero]
      refine wpAnyH_ready (rs := [14]) (by kernel_rfl) (by simp) ?_
      refine AllReadyH.cons rfl (fun K1 hK1 => ?_) AllReadyH.nil
      rw [if_pos (by rfl)]
      obtain ⟨v8, W8, es8, hrun8, hm8, hO8, hg8⟩ := app_rows HO7.out (((HTP9.out.below HB5.out).below HB7.out).upto hphl) (fun b hb _ => ⟨hb, fun e => by have := (own_lt HO7.out.row e).2.1; omega⟩) (by simp; omega) hs7 pc
      have HB8' := Lib.hid (below_grown HB7.out hs7 HO7.out.row hg8)
      have hl8 : es8.length = PH := by have := congrArg List.length hm8; have := HPN.out; simp at *; omega
      have HO8 := Lib.hid hO8
      refine wp_app _ _ 24 rfl rfl rfl hrun8 ?_
      clear hrun8 hO8 hg8
      obtain ⟨va, ca, ea⟩ := own_form HO5.out.row
      obtain ⟨vb, cb, eb⟩ := own_form HO8.out.row
      have hna : (([] ++ es3) ++ es5 : List (It × Ad)).length = pn + rn := by simp; omega
      have hnb : (([] ++ es7) ++ es8 : List (It × Ad)).length = pn + PH := by simp; omega
      rw [hna] at ea
      rw [hnb] at eb
      subst ea
      subst eb
      have HTA := Lib.hid ((HO5.out.pure HB8'.out).tl'.1)
      have HTB := Lib.hid (HO8.out.tl'.1)
      have HB9' := Lib.hid (show Below w9.heap.size w9 W8 from HB5.out.trans (HB8'.out.mono hs5))
      clear hna hnb hl3 hl5 hl7 hl8
      refine hK1.out _ _ trivial (fun hHeld => ?_)
      clear hK1
      try simp only [Act.put, List.setIfInBounds_toArray, List.set_cons_zero, List.set_cons_succ, List.getElem_toArray, List.getElem_cons_succ, List.getElem_cons_zero]
      refine wpAnyH_ready (rs := [15]) (by kernel_rfl) (by simp) ?_
      refine AllReadyH.cons rfl (fun K1 hK1 => ?_) AllReadyH.nil
      go_simp
      refine hK1.out _ _ trivial (fun hHeld => ?_)
      clear hK1
      try simp only [Act.put, List.setIfInBounds_toArray, List.set_cons_zero, List.set_cons_succ, List.getElem_toArray, List.getElem_cons_succ, List.getElem_cons_zero]
      refine wpAnyH_take (i := 16) (v := ?_) rfl (by kernel_rfl) (by kernel_rfl) (by kernel_rfl) (fun _ _ _ h => h) (Or.inl ⟨by rfl, ?_⟩) hHeld ?_
      rotate_left
      · (intro W hSw; (try dsimp only at hSw); go_simp; try with_reducible rfl)
      try simp only [Act.put, List.setIfInBounds_toArray, List.set_cons_zero, List.set_cons_succ, List.getElem_toArray, List.getElem_cons_succ, List.getElem_cons_zero]
      refine wpAnyH_done (by kernel_rfl) ?_ _
      try simp only [Act.put, List.setIfInBounds_toArray, List.set_cons_zero, List.set_cons_succ, List.getElem_toArray, List.getElem_cons_succ, List.getElem_cons_zero]
      have PR := pure_alloc W8 (.cells #[.slice pa pn pc, .slice ra rn rc, .slice va (pn + rn) ca, .slice vb (pn + PH) cb] 24)
      have NR := alloc_new W8 (.cells #[.slice pa pn pc, .slice ra rn rc, .slice va (pn + rn) ca, .slice vb (pn + PH) cb] 24)
      have HROW : Hid (∀ j, j < 4 → ∃ (a : Option Addr) (n c : Nat) (l : List It), (W8.alloc (.cells #[.slice pa pn pc, .slice ra rn rc, .slice va (pn + rn) ca, .slice vb (pn + PH) cb] 24)).cell? ⟨W8.heap.size, j, none⟩ = some (.slice a n c) ∧ TL (fun _ => True) (W8.alloc (.cells #[.slice pa pn pc, .slice ra rn rc, .slice va (pn + rn) ca, .slice vb (pn + PH) cb] 24)) l a n ∧ n ≤ 40) := Lib.hid fun j hj => by
        rcases (show j = 0 ∨ j = 1 ∨ j = 2 ∨ j = 3 by omega) with rfl | rfl | rfl | rfl
        · exact ⟨_, _, _, _, cell_of_arr NR _, ((HTP9.out.below HB9'.out).below PR).imp fun _ _ _ => trivial, by omega⟩
        · exact ⟨_, _, _, _, cell_of_arr NR _, ((HTR9.out.below HB9'.out).below PR).imp fun _ _ _ => trivial, by have := HRN.out; omega⟩
        · exact ⟨_, _, _, _, cell_of_arr NR _, (HTA.out.below PR).imp fun _ _ _ => trivial, by have := HRN.out; omega⟩
        · exact ⟨_, _, _, _, cell_of_arr NR _, (HTB.out.below PR).imp fun _ _ _ => trivial, by omega⟩
      have HB10 := Lib.hid (pure_trans HB9'.out PR)
      have HX10 := Lib.hid (Below.keep HB10.out HX9.out (lt_of_block HX9.out))
      have HY10 := Lib.hid (Below.keep HB10.out HY9.out (lt_of_block HY9.out))
      have HIx10 := Lib.hid (HIx9.out.below HB10.out)
      have HIy10 := Lib.hid (HIy9.out.below HB10.out)
      have HE10 := Lib.hid (HE9.out.below HB10.out)
      have hsu := HB1.out.size
      have HP10 : Hid (Below b w (W8.alloc (.cells #[.slice pa pn pc, .slice ra rn rc, .slice va (pn + rn) ca, .slice vb (pn + PH) cb] 24))) := Lib.hid (HB1.out.trans ((pure_trans HB9.out HB10.out).mono (by omega)))
      clear PR NR hHeld HTA HTB HO8 HO5 HO7 HO3 HB9' HB8' HB7 HB5 HB3 hs5 hs7 HTP9 HTR9 HX9 HY9 HIx9 HIy9 HE9 HB9 hphl hwpq hwph hphc hphn hm3 hm5 hm7 hm8 HTP HT1 HM1 HE1 HPN HB10 HM HL HT HED HD HPD HD3 HB1 hL0 hlen hlc hlcm hpn hsr
      clear hwd hsD
      generalize hrr : W8.heap.size = r at *
      generalize W8.alloc (.cells #[.slice pa pn pc, .slice ra rn rc, .slice va (pn + rn) ca, .slice vb (pn + PH) cb] 24) = w10 at *
      clear hrr
      go_wp2_with fail
      go_loopw [72] (fun i W => ∃ j : Nat, i = .int .i64 (j : Int) ∧ j ≤ 4 ∧ Below w10.heap.size w10 W) (fun i _ => 4 - (intOf i).toNat)
      case atStart => exact ⟨0, rfl, by omega, Below.refl _ _⟩
      case round =>
        obtain ⟨u2, hu2⟩ : ∃ u, u = wr := ⟨_, rfl⟩
        subst hu2
        obtain ⟨j, rfl, hj, hBj⟩ := hrel
        by_cases hj4 : j < 4
        · obtain ⟨a, n, c, l, hcell, hTl, hn⟩ := HROW.out j hj4
          have hcl := (hBj.cell (p := ⟨r, j, none⟩) (lt_of_cell hcell)).trans hcell
          have HTl := Lib.hid (hTl.below hBj)
          have HBj := Lib.hid hBj
          have hjz : (j : Int) < 4 := by omega
          obtain ⟨v, k0, hout⟩ := BPost.out (It.buildP l)
          have HOUT := Lib.hid hout
          have HC := Lib.hid (cbuild_any l a n c u2 _ HTl.out (by omega) (HE10.out.below hBj))
          clear hcell hTl hBj hout
          go_wp2_with fail
          refine HC.out.mono ?_
          rintro e w11 h11
          obtain ⟨V1, rfl, hV1, hB11⟩ := HOUT.out _ _ _ h11
          have P12 := pure_alloc w11 (.cells #[.int .i64 v.kind, .int .u64 (v.num : Int), .slice V1.ab V1.nb V1.cb, .slice V1.ai V1.ni V1.ci] 26)
          have HN12 := Lib.hid (alloc_new w11 (.cells #[.int .i64 v.kind, .int .u64 (v.num : Int), .slice V1.ab V1.nb V1.cb, .slice V1.ai V1.ni V1.ci] 26))
          have HB12 := Lib.hid (pure_trans HBj.out (pure_trans hB11 P12))
          have HV12 := Lib.hid (hV1.below P12)
          have HC2 := Lib.hid (rbuild_any l a n c (w11.alloc (.cells #[.int .i64 v.kind, .int .u64 (v.num : Int), .slice V1.ab V1.nb V1.cb, .slice V1.ai V1.ni V1.ci] 26)) _ ((HTl.out.below hB11).below P12) (by omega) (HE10.out.below HB12.out))
          have HTl12 := Lib.hid ((HTl.out.below hB11).below P12)
          clear h11 hB11 hV1 P12 HC hcl
          go_upto_region 15 with fail
          generalize hs12 : w11.heap.size = b19 at *
          generalize w11.alloc (.cells #[.int .i64 v.kind, .int .u64 (v.num : Int), .slice V1.ab V1.nb V1.cb, .slice V1.ai V1.ni V1.ci] 26) = w12 at *
          clear hs12
          go_wp2_with fail
          refine HC2.out.mono ?_
          rintro e w13 h13
          obtain ⟨V2, rfl, hV2, hB13⟩ := HOUT.out _ _ _ h13
          have P14 := pure_alloc w13 (.cells #[.int .i64 v.kind, .int .u64 (v.num : Int), .slice V2.ab V2.nb V2.cb, .slice V2.ai V2.ni V2.ci] 26)
          have HN14 := Lib.hid (alloc_new w13 (.cells #[.int .i64 v.kind, .int .u64 (v.num : Int), .slice V2.ab V2.nb V2.cb, .slice V2.ai V2.ni V2.ci] 26))
          have HB14 := Lib.hid (pure_trans HB12.out (pure_trans hB13 P14))
          have HN12' := Lib.hid (Below.keep (pure_trans hB13 P14) HN12.out (lt_of_block HN12.out))
          have HV14 := Lib.hid (hV2.below P14)
          have HC3 := Lib.hid (same_any v v V1 V2 (w13.alloc (.cells #[.int .i64 v.kind, .int .u64 (v.num : Int), .slice V2.ab V2.nb V2.cb, .slice V2.ai V2.ni V2.ci] 26)) _ _ (HV12.out.below (pure_trans hB13 P14)) HV14.out)
          rw [It.same_self] at HC3
          have HTl14 := Lib.hid (HTl12.out.below (pure_trans hB13 P14))
          clear h13 hB13 hV2 P14 HC2 HOUT HV12 HTl12 HTl HN12 HB12 HBj
          go_upto_region 16 with fail
          generalize hs14 : w13.heap.size = b21 at *
          generalize w13.alloc (.cells #[.int .i64 v.kind, .int .u64 (v.num : Int), .slice V2.ab V2.nb V2.cb, .slice V2.ai V2.ni V2.ci] 26) = w14 at *
          clear hs14
          obtain ⟨x0, x1, x2, x3⟩ := cell_of4 HN12'.out
          obtain ⟨y0, y1, y2, y3⟩ := cell_of4 HN14.out
          go_wp2_with fail
          refine HC3.out.mono ?_
          rintro e w15 ⟨rfl, hB15⟩
          have HB15 := Lib.hid (pure_trans HB14.out hB15)
          have HTl15 := Lib.hid (HTl14.out.below hB15)
          have HN15 := Lib.hid (Below.keep hB15 HN14.out (lt_of_block HN14.out))
          have HV15 := Lib.hid (HV14.out.below hB15)
          have HX15 := Lib.hid (Below.keep HB15.out HX10.out (lt_of_block HX10.out))
          have HIx15 := Lib.hid (HIx10.out.below HB15.out)
          have HE15 := Lib.hid (HE10.out.below HB15.out)
          clear hB15 x0 x1 x2 x3 y0 y1 y2 y3 HC3 HTl14 HN14 HN12' HV14 HB14
          go_upto_region 18 with fail
          refine wp_region_held_drew (S := (fun w' => (w'.cell? ⟨bx, 0, none⟩ = some (.int .i64 x.kind) ∧ w'.cell? ⟨bx, 1, none⟩ = some (.int .u64 (x.num : Int)) ∧ w'.cell? ⟨bx, 2, none⟩ = some (.slice X.ab X.nb X.cb) ∧ w'.cell? ⟨bx, 3, none⟩ = some (.slice X.ai X.ni X.ci)))) (by kernel_rfl) (cell_of4 (Below.keep (Below.refl w15.heap.size w15).drew HX15.out (lt_of_block HX15.out))) (fun hHeld => ?_)
          refine wpAnyH_take (i := 0) (v := ?_) rfl (by kernel_rfl) (by kernel_rfl) (by kernel_rfl) (fun _ _ _ h => h) (Or.inl ⟨by rfl, ?_⟩) hHeld ?_
          rotate_left
          · (intro W hSw; (try dsimp only at hSw); go_simp; try with_reducible rfl)
          try simp only [Act.put, List.setIfInBounds_toArray, List.set_cons_zero, List.set_cons_succ, List.getElem_toArray, List.getElem_cons_succ, List.getElem_cons_zero]
          refine wpAnyH_take (i := 1) (v := ?_) rfl (by kernel_rfl) (by kernel_rfl) (by kernel_rfl) (fun _ _ _ h => h) (Or.inl ⟨by rfl, ?_⟩) hHeld ?_
          rotate_left
          · (intro W hSw; (try dsimp only at hSw); go_simp; try with_reducible rfl)
          try simp only [Act.put, List.setIfInBounds_toArray, List.set_cons_zero, List.set_cons_succ, List.getElem_toArray, List.getElem_cons_succ, List.getElem_cons_zero]
          refine wpAnyH_take (i := 4) (v := ?_) rfl (by kernel_rfl) (by kernel_rfl) (by kernel_rfl) (fun _ _ _ h => h) (Or.inl ⟨by rfl, ?_⟩) hHeld ?_
          rotate_left
          · (intro W hSw; (try dsimp only at hSw); go_simp; try with_reducible rfl)
          try simp only [Act.put, List.setIfInBounds_toArray, List.set_cons_zero, List.set_cons_succ, List.getElem_toArray, List.getElem_cons_succ, List.getElem_cons_zero]
          refine wpAnyH_take (i := 7) (v := ?_) rfl (by kernel_rfl) (by kernel_rfl) (by kernel_rfl) (fun _ _ _ h => h) (Or.inl ⟨by rfl, ?_⟩) hHeld ?_
          rotate_left
          · (intro W hSw; (try dsimp only at hSw); go_simp; try with_reducible rfl)
          try simp only [Act.put, List.setIfInBounds_toArray, List.set_cons_zero, List.set_cons_succ, List.getElem_toArray, List.getElem_cons_succ, List.getElem_cons_zero]
          refine wpAnyH_ready (rs := [2]) (by kernel_rfl) (by simp) ?_
          refine AllReadyH.cons rfl (fun K1 hK1 => ?_) AllReadyH.nil
          go_simp
          refine (rint_any q hq0 hq1 _).mono ?_
          rintro e v16 ⟨Z, rfl, hI16, hB16⟩
          have HB16 := Lib.hid (pure_trans (below_drewN (Below.refl w15.heap.size w15) 1) hB16)
          have HI16 := Lib.hid (hI16.imp (ok' := fun _ => True) fun _ _ _ => trivial)
          clear hI16 hB16
          generalize intIt q = yi at *
          refine hK1.out _ _ (cell_of4 (Below.keep HB16.out HX15.out (lt_of_block HX15.out))) (fun hHeld => ?_)
          clear hK1
          try simp only [Act.put, List.setIfInBounds_toArray, List.set_cons_zero, List.set_cons_succ, List.getElem_toArray, List.getElem_cons_succ, List.getElem_cons_zero]
          refine wpAnyH_ready (rs := [3]) (by kernel_rfl) (by simp) ?_
          refine AllReadyH.cons rfl (fun K1 hK1 => ?_) AllReadyH.nil
          go_simp
          have P17 := pure_alloc v16 (.cells #[.int .i64 x.kind, .int .u64 (x.num : Int), .slice X.ab X.nb X.cb, .slice X.ai X.ni X.ci, .int .i64 yi.kind, .int .u64 (yi.num : Int), .slice Z.ab Z.nb Z.cb, .slice Z.ai Z.ni Z.ci] 26)
          have N17 := alloc_new v16 (.cells #[.int .i64 x.kind, .int .u64 (x.num : Int), .slice X.ab X.nb X.cb, .slice X.ai X.ni X.ci, .int .i64 yi.kind, .int .u64 (yi.num : Int), .slice Z.ab Z.nb Z.cb, .slice Z.ai Z.ni Z.ci] 26)
          have HB17 := Lib.hid (pure_trans HB16.out P17)
          have hO17 : OutI (v16.alloc (.cells #[.int .i64 x.kind, .int .u64 (x.num : Int), .slice X.ab X.nb X.cb, .slice X.ai X.ni X.ci, .int .i64 yi.kind, .int .u64 (yi.num : Int), .slice Z.ab Z.nb Z.cb, .slice Z.ai Z.ni Z.ci] 26)) v16.heap.size (fun q => q < v16.heap.size) (.slice (some ⟨v16.heap.size, 0, none⟩) 2 2) [(x, X), (yi, Z)] := OutI.two (e := (x, X)) (f := (yi, Z)) N17 (Nat.le_refl _)
            (((HIx15.out.below HB16.out).imp (ok' := fun q => q < v16.heap.size ∧ q ≠ v16.heap.size) fun q _ hl => ⟨hl, by omega⟩).below P17) ((HI16.out.imp (ok' := fun q => q < v16.heap.size ∧ q ≠ v16.heap.size) fun q _ hl => ⟨hl, by omega⟩).below P17)
          obtain ⟨v18, W18, es18, hrun18, hm18, hO18, hg18⟩ := app_rows hO17 (((HTl15.out.below HB16.out).imp (ok' := fun q => q < v16.heap.size) fun q _ hl => hl).below P17) (fun b hb _ => ⟨hb, fun e => by have : v16.heap.size = b := Option.some.inj e; omega⟩) (by simp; omega) (by have := P17.size; omega) c
          have HR18 := Lib.hid hrun18
          have HO18 := Lib.hid hO18
          have HB18 := Lib.hid (show Below w15.heap.size w15 W18 from HB16.out.trans ((below_grown P17 P17.size hO17.row hg18).mono HB16.out.size))
          have HM18 := Lib.hid hm18
          have HNl := Lib.hid HTl15.out.1
          clear hrun18 hO18 hg18 hm18 P17 N17 hO17
          refine hK1.out _ _ (cell_of4 (Below.keep HB17.out HX15.out (lt_of_block HX15.out))) (fun hHeld => ?_)
          clear hK1
          try simp only [Act.put, List.setIfInBounds_toArray, List.set_cons_zero, List.set_cons_succ, List.getElem_toArray, List.getElem_cons_succ, List.getElem_cons_zero]
          refine wpAnyH_ready (rs := [5]) (by kernel_rfl) (by simp) ?_
          refine AllReadyH.cons rfl (fun K1 hK1 => ?_) AllReadyH.nil
          rw [if_pos (by rfl)]
          refine wp_app _ _ 24 rfl rfl rfl HR18.out ?_
          clear HR18
          obtain ⟨va, ca, ea⟩ := own_form HO18.out.row
          obtain ⟨m2, hlen2⟩ : ∃ m2, ([(x, X), (yi, Z)] ++ es18).length = m2 := ⟨_, rfl⟩
          have hm42 : m2 ≤ 42 := by have := congrArg List.length HM18.out; have := HNl.out; simp at *; omega
          rw [hlen2] at ea
          subst ea
          have HT18 := Lib.hid (HO18.out.tl'.1)
          generalize (([(x, X), (yi, Z)] ++ es18).map (·.1) : List It) = l2 at *
          clear hlen2
          refine hK1.out _ _ (cell_of4 (Below.keep HB18.out HX15.out (lt_of_block HX15.out))) (fun hHeld => ?_)
          clear hK1
          try simp only [Act.put, List.setIfInBounds_toArray, List.set_cons_zero, List.set_cons_succ, List.getElem_toArray, List.getElem_cons_succ, List.getElem_cons_zero]
          refine wpAnyH_take (i := 6) (v := ?_) rfl (by kernel_rfl) (by kernel_rfl) (by kernel_rfl) (fun _ _ _ h => h) (Or.inl ⟨by rfl, ?_⟩) hHeld ?_
          rotate_left
          · (intro W hSw; (try dsimp only at hSw); go_simp; try with_reducible rfl)
          try simp only [Act.put, List.setIfInBounds_toArray, List.set_cons_zero, List.set_cons_succ, List.getElem_toArray, List.getElem_cons_succ, List.getElem_cons_zero]
          refine wpAnyH_done (by kernel_rfl) ?_ _
          try simp only [Act.put, List.setIfInBounds_toArray, List.set_cons_zero, List.set_cons_succ, List.getElem_toArray, List.getElem_cons_succ, List.getElem_cons_zero]
          have HB19 := Lib.hid (pure_trans HB15.out HB18.out)
          have HN19 := Lib.hid (Below.keep HB18.out HN15.out (lt_of_block HN15.out))
          have HV19 := Lib.hid (HV15.out.below HB18.out)
          have HE19 := Lib.hid (HE15.out.below HB18.out)
          have HT19 := Lib.hid (HT18.out.imp (ok' := fun _ => True) fun _ _ _ => trivial)
          clear hHeld HO18 HM18 HNl HT18 HB16 HB17 HI16 HTl15 HX15 HIx15 HE15 HN15 HV15 HB18 HB15
          go_wp2_with fail
          go_loopw [102] (fun i W => ∃ j2 : Nat, i = .int .i64 (j2 : Int) ∧ j2 ≤ m2 ∧ Below W18.heap.size W18 W) (fun i _ => m2 - (intOf i).toNat)
          case atStart => exact ⟨0, rfl, by omega, Below.refl _ _⟩
          case round =>
            obtain ⟨u3, hu3⟩ : ∃ u, u = wr := ⟨_, rfl⟩
            subst hu3
            obtain ⟨j2, rfl, hj2, hBk⟩ := hrel
            by_cases hjm : j2 < m2
            · have hT3 := HT19.out.below hBk
              have hjl : j2 < l2.length := by have := hT3.1; omega
              obtain ⟨b3, o3, E, e3, _, ⟨c0, c1, c2, c3⟩, hIe⟩ := hT3.2.2 j2 hjl
              subst e3
              generalize l2[j2] = el at *
              have hjz2 : (j2 : Int) < (m2 : Int) := by omega
              have P20 := pure_alloc u3 (.cells #[.int .i64 el.kind, .int .u64 (el.num : Int), .slice E.ab E.nb E.cb, .slice E.ai E.ni E.ci] 26)
              have HN20 := Lib.hid (alloc_new u3 (.cells #[.int .i64 el.kind, .int .u64 (el.num : Int), .slice E.ab E.nb E.cb, .slice E.ai E.ni E.ci] 26))
              have HB20 := Lib.hid (pure_trans hBk P20)
              have HIe20 := Lib.hid (hIe.below P20)
              have HV20 := Lib.hid (HV19.out.below HB20.out)
              have HE20 := Lib.hid (HE19.out.below HB20.out)
              have HNv20 := Lib.hid (Below.keep HB20.out HN19.out (lt_of_block HN19.out))
              obtain ⟨zf, kf, hout2⟩ := FP.out (It.findP v el)
              have HOUT2 := Lib.hid hout2
              have HC20 := Lib.hid (cfind_any v el V2 E (u3.alloc (.cells #[.int .i64 el.kind, .int .u64 (el.num : Int), .slice E.ab E.nb E.cb, .slice E.ai E.ni E.ci] 26)) _ _ HV20.out HIe20.out HE20.out)
              clear hT3 hIe P20 hBk hout2
              go_upto_region 21 with fail
              clear c0 c1 c2 c3
              generalize hs20 : u3.heap.size = b24 at *
              generalize u3.alloc (.cells #[.int .i64 el.kind, .int .u64 (el.num : Int), .slice E.ab E.nb E.cb, .slice E.ai E.ni E.ci] 26) = w20 at *
              clear hs20
              obtain ⟨x0, x1, x2, x3⟩ := cell_of4 HNv20.out
              obtain ⟨y0, y1, y2, y3⟩ := cell_of4 HN20.out
              go_wp2_with fail
              refine HC20.out.mono ?_
              rintro e w21 h21
              obtain ⟨Z1, rfl, hI21, hB21⟩ := HOUT2.out _ _ _ h21
              have P22 := pure_alloc w21 (.cells #[.int .i64 zf.kind, .int .u64 (zf.num : Int), .slice Z1.ab Z1.nb Z1.cb, .slice Z1.ai Z1.ni Z1.ci] 26)
              have HN22 := Lib.hid (alloc_new w21 (.cells #[.int .i64 zf.kind, .int .u64 (zf.num : Int), .slice Z1.ab Z1.nb Z1.cb, .slice Z1.ai Z1.ni Z1.ci] 26))
              have HB22 := Lib.hid (pure_trans HB20.out (pure_trans hB21 P22))
              have HI22 := Lib.hid (hI21.below P22)
              have HV22 := Lib.hid (HV20.out.below (pure_trans hB21 P22))
              have HIe22 := Lib.hid (HIe20.out.below (pure_trans hB21 P22))
              have HNv22 := Lib.hid (Below.keep (pure_trans hB21 P22) HNv20.out (lt_of_block HNv20.out))
              have HN20' := Lib.hid (Below.keep (pure_trans hB21 P22) HN20.out (lt_of_block HN20.out))
              have HC22 := Lib.hid (rfind_any v el V2 E (w21.alloc (.cells #[.int .i64 zf.kind, .int .u64 (zf.num : Int), .slice Z1.ab Z1.nb Z1.cb, .slice Z1.ai Z1.ni Z1.ci] 26)) _ _ HV22.out HIe22.out (HE19.out.below HB22.out))
              clear h21 hI21 hB21 P22 HC20 x0 x1 x2 x3 y0 y1 y2 y3 HNv20 HN20 HV20 HIe20 HE20 HB20
              go_upto_region 22 with fail
              generalize hs22 : w21.heap.size = b25 at *
              generalize w21.alloc (.cells #[.int .i64 zf.kind, .int .u64 (zf.num : Int), .slice Z1.ab Z1.nb Z1.cb, .slice Z1.ai Z1.ni Z1.ci] 26) = w22 at *
              clear hs22
              obtain ⟨x0, x1, x2, x3⟩ := cell_of4 HNv22.out
              obtain ⟨y0, y1, y2, y3⟩ := cell_of4 HN20'.out
              go_wp2_with fail
              refine HC22.out.mono ?_
              rintro e w23 h23
              obtain ⟨Z2, rfl, hI23, hB23⟩ := HOUT2.out _ _ _ h23
              have P24 := pure_alloc w23 (.cells #[.int .i64 zf.kind, .int .u64 (zf.num : Int), .slice Z2.ab Z2.nb Z2.cb, .slice Z2.ai Z2.ni Z2.ci] 26)
              have HN24 := Lib.hid (alloc_new w23 (.cells #[.int .i64 zf.kind, .int .u64 (zf.num : Int), .slice Z2.ab Z2.nb Z2.cb, .slice Z2.ai Z2.ni Z2.ci] 26))
              have HB24 := Lib.hid (pure_trans HB22.out (pure_trans hB23 P24))
              have HN22' := Lib.hid (Below.keep (pure_trans hB23 P24) HN22.out (lt_of_block HN22.out))
              have HC24 := Lib.hid (same_any zf zf Z1 Z2 (w23.alloc (.cells #[.int .i64 zf.kind, .int .u64 (zf.num : Int), .slice Z2.ab Z2.nb Z2.cb, .slice Z2.ai Z2.ni Z2.ci] 26)) _ _ (HI22.out.below (pure_trans hB23 P24)) (hI23.below P24))
              rw [It.same_self] at HC24
              clear h23 hI23 hB23 P24 HC22 HOUT2 x0 x1 x2 x3 y0 y1 y2 y3 HNv22 HN20' HV22 HIe22 HI22 HN22 HB22
              go_upto_region 23 with fail
              generalize hs24 : w23.heap.size = b27 at *
              generalize w23.alloc (.cells #[.int .i64 zf.kind, .int .u64 (zf.num : Int), .slice Z2.ab Z2.nb Z2.cb, .slice Z2.ai Z2.ni Z2.ci] 26) = w24 at *
              clear hs24
              obtain ⟨x0, x1, x2, x3⟩ := cell_of4 HN22'.out
              obtain ⟨y0, y1, y2, y3⟩ := cell_of4 HN24.out
              go_wp2_with fail
              refine HC24.out.mono ?_
              rintro e w25 ⟨rfl, hB25⟩
              have HB25 := Lib.hid (pure_trans HB24.out hB25)
              clear hB25 x0 x1 x2 x3 y0 y1 y2 y3 HC24 HN22' HN24 HB24
              go_wp2_with fail
              go_roundw
              case rel => exact ⟨j2 + 1, by go_num, by omega, HB25.out⟩
              case measure => simp [intOf]; omega
            · have hjz2 : ¬ (j2 : Int) < (m2 : Int) := by omega
              have HB30 := Lib.hid (pure_trans HB19.out hBk)
              clear hBk
              go_wp2_with fail
              go_roundw
              case rel => exact ⟨j + 1, by go_num, by omega, HB30.out⟩
              case measure => simp [intOf]; omega
        · have hj4' : j = 4 := by omega
          have hjz : ¬ (j : Int) < 4 := by omega
          have HX30 := Lib.hid (Below.keep hBj HX10.out (lt_of_block HX10.out))
          have HY30 := Lib.hid (Below.keep hBj HY10.out (lt_of_block HY10.out))
          have HIx30 := Lib.hid (HIx10.out.below hBj)
          have HIy30 := Lib.hid (HIy10.out.below hBj)
          have HE30 := Lib.hid (HE10.out.below hBj)
          have HP30 := Lib.hid (HP10.out.trans (hBj.mono (by have := HP10.out.size; omega)))
          have hvw := valid_wf HVX.out
          have HC30 := Lib.hid (sp_any 256 x X u2 _ p q hq0 hq1 hvw.2.2 (by omega) (It.st_of hvw.1 hvw.2.1) HIx30.out)
          clear hBj hvw HROW
          obtain ⟨x0, x1, x2, x3⟩ := cell_of4 HX30.out
          go_wp2_with fail
          refine HC30.out.mono ?_
          rintro e w31 ⟨s, S, rfl, hI31, hB31⟩
          have P32 := pure_alloc w31 (.cells #[.int .i64 s.kind, .int .u64 (s.num : Int), .slice S.ab S.nb S.cb, .slice S.ai S.ni S.ci] 26)
          have HN32 := Lib.hid (alloc_new w31 (.cells #[.int .i64 s.kind, .int .u64 (s.num : Int), .slice S.ab S.nb S.cb, .slice S.ai S.ni S.ci] 26))
          have HB32 := Lib.hid (pure_trans hB31 P32)
          have HX32 := Lib.hid (Below.keep HB32.out HX30.out (lt_of_block HX30.out))
          have HY32 := Lib.hid (Below.keep HB32.out HY30.out (lt_of_block HY30.out))
          have HIx32 := Lib.hid (HIx30.out.below HB32.out)
          have HIy32 := Lib.hid (HIy30.out.below HB32.out)
          have HIs32 := Lib.hid (hI31.below P32)
          have HE32 := Lib.hid (HE30.out.below HB32.out)
          have HP32 := Lib.hid (HP30.out.trans (HB32.out.mono (by have := HP30.out.size; omega)))
          clear hI31 hB31 P32 HC30 x0 x1 x2 x3 HX30 HY30 HIx30 HIy30 HE30 HP30 HB32
          go_upto_region 28 with fail
          generalize hs32 : w31.heap.size = bs at *
          generalize w31.alloc (.cells #[.int .i64 s.kind, .int .u64 (s.num : Int), .slice S.ab S.nb S.cb, .slice S.ai S.ni S.ci] 26) = w32 at *
          clear hs32
          refine region_q (M := 26) [.it x, .it y, .eq (.int .i64 (It.cmpI x y)), .it x, .it y, .eq (.int .i64 (It.cmpI x y)), .eq (.bool true), .eq (.bool true), .it x, .it s, .eq (.int .i64 (It.cmpI x s)), .it x, .it s, .eq (.int .i64 (It.cmpI x s)), .eq (.bool true), .eq (.bool true), .eq (.bool true), .it x, .it x, .eq (.int .i64 0), .eq (.bool true), .eq (.bool true), .eq (.bool true), .eq (.bool true), .eq (.bool true), .eq (.bool true)] (by kernel_rfl) (by kernel_rfl) ?_ ?_
          · refine ⟨fun vs W hR _ hd => ?_, fun vs W hR _ hd => ?_, fun vs W hR _ hd => ?_, fun vs W hR _ hd => ?_, fun vs W hR _ hd => ?_, fun vs W hR _ hd => ?_, fun vs W hR _ hd => ?_, fun vs W hR _ hd => ?_, fun vs W hR _ hd => ?_, fun vs W hR _ hd => ?_, fun vs W hR _ hd => ?_, fun vs W hR _ hd => ?_, fun vs W hR _ hd => ?_, fun vs W hR _ hd => ?_, fun vs W hR _ hd => ?_, fun vs W hR _ hd => ?_, fun vs W hR _ hd => ?_, fun vs W hR _ hd => ?_, fun vs W hR _ hd => ?_, fun vs W hR _ hd => ?_, fun vs W hR _ hd => ?_, fun vs W hR _ hd => ?_, fun vs W hR _ hd => ?_, fun vs W hR _ hd => ?_, fun vs W hR _ hd => ?_, fun vs W hR _ hd => ?_, trivial⟩
            · exact does_loadI (.tmp 15) bx x _ rfl (by kernel_rfl) (Below.keep hR HX32.out (lt_of_block HX32.out)) (HIx32.out.below hR)
            · exact does_loadI (.tmp 16) (bx + 1) y _ rfl (by kernel_rfl) (Below.keep hR HY32.out (lt_of_block HY32.out)) (HIy32.out.below hR)
            · exact does_q (vals := #[vs 0, vs 1]) 65 (.func 65) #[.tmp 133, .tmp 134] _ rfl (by kernel_rfl) (by kernel_rfl) (cfq 65 _ Tryz.func65 (by kernel_rfl) (by kernel_rfl) _) (q_ccmp (HE32.out.below hR) (hd 0 (by decide)) (hd 1 (by decide)))
            · exact does_loadI (.tmp 15) bx x _ rfl (by kernel_rfl) (Below.keep hR HX32.out (lt_of_block HX32.out)) (HIx32.out.below hR)
            · exact does_loadI (.tmp 16) (bx + 1) y _ rfl (by kernel_rfl) (Below.keep hR HY32.out (lt_of_block HY32.out)) (HIy32.out.below hR)
            · exact does_q (vals := #[vs 3, vs 4]) 66 (.func 66) #[.tmp 136, .tmp 137] _ rfl (by kernel_rfl) (by kernel_rfl) (cfq 66 _ Tryz.func66 (by kernel_rfl) (by kernel_rfl) _) (q_rcmp (HE32.out.below hR) (hd 3 (by decide)) (hd 4 (by decide)))
            · exact does_eql (.tmp 135) (.tmp 138) _ rfl (hd 2 (by decide)) (hd 5 (by decide))
            · exact Rg.Does.move (.tmp 139) rfl ⟨RB.refl _, trivial, (hd 6 (by decide))⟩
            · exact ⟨fun _ => does_loadI (.tmp 15) bx x _ rfl (by kernel_rfl) (Below.keep hR HX32.out (lt_of_block HX32.out)) (HIx32.out.below hR), fun h => absurd (hd 7 (by decide)) h⟩
            · exact ⟨fun _ => does_loadI (.tmp 29) bs s _ rfl (by kernel_rfl) (Below.keep hR HN32.out (lt_of_block HN32.out)) (HIs32.out.below hR), fun h => absurd (hd 7 (by decide)) h⟩
            · exact ⟨fun _ => does_q (vals := #[vs 8, vs 9]) 65 (.func 65) #[.tmp 141, .tmp 142] _ rfl (by kernel_rfl) (by kernel_rfl) (cfq 65 _ Tryz.func65 (by kernel_rfl) (by kernel_rfl) _) (q_ccmp (HE32.out.below hR) (hd 8 (by decide)) (hd 9 (by decide))), fun h => absurd (hd 7 (by decide)) h⟩
            · exact ⟨fun _ => does_loadI (.tmp 15) bx x _ rfl (by kernel_rfl) (Below.keep hR HX32.out (lt_of_block HX32.out)) (HIx32.out.below hR), fun h => absurd (hd 7 (by decide)) h⟩
            · exact ⟨fun _ => does_loadI (.tmp 29) bs s _ rfl (by kernel_rfl) (Below.keep hR HN32.out (lt_of_block HN32.out)) (HIs32.out.below hR), fun h => absurd (hd 7 (by decide)) h⟩
            · exact ⟨fun _ => does_q (vals := #[vs 11, vs 12]) 66 (.func 66) #[.tmp 144, .tmp 145] _ rfl (by kernel_rfl) (by kernel_rfl) (cfq 66 _ Tryz.func66 (by kernel_rfl) (by kernel_rfl) _) (q_rcmp (HE32.out.below hR) (hd 11 (by decide)) (hd 12 (by decide))), fun h => absurd (hd 7 (by decide)) h⟩
            · exact ⟨fun _ => does_eql (.tmp 143) (.tmp 146) _ rfl (hd 10 (by decide)) (hd 13 (by decide)), fun h => absurd (hd 7 (by decide)) h⟩
            · exact does_pick_t (.tmp 140) (.tmp 147) (.const (.bool false)) rfl (hd 7 (by decide)) (hd 14 (by decide))
            · exact Rg.Does.move (.tmp 148) rfl ⟨RB.refl _, trivial, (hd 15 (by decide))⟩
            · exact ⟨fun _ => does_loadI (.tmp 15) bx x _ rfl (by kernel_rfl) (Below.keep hR HX32.out (lt_of_block HX32.out)) (HIx32.out.below hR), fun h => absurd (hd 16 (by decide)) h⟩
            · exact ⟨fun _ => does_loadI (.tmp 15) bx x _ rfl (by kernel_rfl) (Below.keep hR HX32.out (lt_of_block HX32.out)) (HIx32.out.below hR), fun h => absurd (hd 16 (by decide)) h⟩
            · exact ⟨fun _ => does_q (vals := #[vs 17, vs 18]) 65 (.func 65) #[.tmp 150, .tmp 151] _ rfl (by kernel_rfl) (by kernel_rfl) (cfq 65 _ Tryz.func65 (by kernel_rfl) (by kernel_rfl) _) (q_ccmp_self (HE32.out.below hR) (hd 17 (by decide)) (hd 18 (by decide))), fun h => absurd (hd 16 (by decide)) h⟩
            · exact ⟨fun _ => does_eql (.tmp 152) (.const (.int .i64 0)) _ rfl (hd 19 (by decide)) (show _ = _ by kernel_rfl), fun h => absurd (hd 16 (by decide)) h⟩
            · exact does_pick_t (.tmp 149) (.tmp 153) (.const (.bool false)) rfl (hd 16 (by decide)) (hd 20 (by decide))
            · exact Rg.Does.move (.tmp 154) rfl ⟨RB.refl _, trivial, (hd 21 (by decide))⟩
            · exact ⟨fun _ => does_q (vals := #[]) 53 (.func 53) #[] _ rfl (by kernel_rfl) (by kernel_rfl) (cfq 53 _ Tryz.func53 (by kernel_rfl) (by kernel_rfl) _) ((awake_any W (HE32.out.below hR)).mono fun _ _ h => EndQ.bool h), fun h => absurd (hd 22 (by decide)) h⟩
            · exact does_pick_t (.tmp 155) (.tmp 156) (.const (.bool false)) rfl (hd 22 (by decide)) (hd 23 (by decide))
            · exact Rg.Does.assign (.tmp 157) rfl ⟨RB.refl _, trivial, (hd 24 (by decide))⟩
          · intro vs W1 hR1 _ hf
            have e42 : vs 25 = .bool true := hf 25 (by decide)
            simp only [Rg.putAll, Rg.putFrom, List.take_succ_cons, List.take_zero, List.drop_succ_cons, List.drop_zero, Act.put, List.setIfInBounds_toArray, List.set_cons_zero, List.set_cons_succ, e42]
            clear e42 hf
            have HW := Lib.hid (HP32.out.trans (hR1.mono (by have := HP32.out.size; omega)))
            clear hR1
            go_wp2_with fail
            go_ret
            exact ⟨rfl, hb ▸ HW.out⟩
end Go.Proofs.YtelefkkkccilaaaGreatDoor
