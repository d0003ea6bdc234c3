/- The law CborOrder, walked. -/
import Derived.Test.YtelefkkkccilaaaGreatDoorLN
import Derived.Test.YtelefkkkccilaaaGreatDoorZt
import Derived.Test.YtelefkkkccilaaaGreatDoorZb
import Derived.Test.YtelefkkkccilaaaGreatDoorLP
import Derived.Test.YtelefkkkccilaaaGreatDoorGq
set_option linter.unusedVariables false
set_option linter.unusedSimpArgs false
namespace Go.Proofs.YtelefkkkccilaaaGreatDoor
open Go.RowKit
set_option maxRecDepth 100000
/-- What the deck's loop has made: q pairs are still to come. -/
def PRO (b : Nat) (w : World) (v n : Value) (W : World) : Prop := ∃ (q : Nat) (es : List (It × Ad)), n = .int .i64 (q : Int) ∧ es.length + 2 * q ≤ 10 ∧ es.length % 2 = 0 ∧ (∀ e ∈ es, It.valid e.1 = true ∧ It.Sm 1 e.1) ∧ OutI W (b + 1) (fun q => b + 1 ≤ q) v es ∧ DW b w W
/-- The pairs that were turned. -/
def TRN (L : List It.KV) (t PQ : Nat) (w0 : World) (v i : Value) (W : World) : Prop := ∃ (j i2 : Nat) (ta : Option Addr) (tc : Nat), i = .int .i64 (i2 : Int) ∧ i2 = 2 * j ∧ j ≤ PQ ∧ v = .slice ta i2 tc ∧ i2 ≤ tc ∧ tc ≤ 9223372036854775807 ∧ TL (fun _ => True) W (It.flatK ((L.drop t ++ L.take t).take j).reverse) ta i2 ∧ Below w0.heap.size w0 W
theorem keep4 {w w' : World} {b o : Nat} {x : It} {A : Ad} (h : Below w.heap.size w w') (c : w.cell? ⟨b, o, none⟩ = some (.int .i64 x.kind) ∧ w.cell? ⟨b, o + 1, none⟩ = some (.int .u64 (x.num : Int)) ∧ w.cell? ⟨b, o + 2, none⟩ = some (.slice A.ab A.nb A.cb) ∧ w.cell? ⟨b, o + 3, none⟩ = some (.slice A.ai A.ni A.ci)) : w'.cell? ⟨b, o, none⟩ = some (.int .i64 x.kind) ∧ w'.cell? ⟨b, o + 1, none⟩ = some (.int .u64 (x.num : Int)) ∧ w'.cell? ⟨b, o + 2, none⟩ = some (.slice A.ab A.nb A.cb) ∧ w'.cell? ⟨b, o + 3, none⟩ = some (.slice A.ai A.ni A.ci) :=
  have hb := lt_of_cell c.1
  ⟨(h.cell (p := ⟨b, o, none⟩) hb).trans c.1, (h.cell (p := ⟨b, o + 1, none⟩) hb).trans c.2.1, (h.cell (p := ⟨b, o + 2, none⟩) hb).trans c.2.2.1, (h.cell (p := ⟨b, o + 3, none⟩) hb).trans c.2.2.2⟩
theorem It.rot_step (pl : List It) {pn : Nat} (he : pn % 2 = 0) (hpn : pn = pl.length) (t j k2 : Nat) (h1 : k2 < pl.length) (h2 : k2 + 1 < pl.length) (ht : t < (It.pairsK pl).length) (hj : j < (It.pairsK pl).length) (hk : k2 = 2 * ((j + t) % (It.pairsK pl).length)) :
    It.flatK (((It.pairsK pl).drop t ++ (It.pairsK pl).take t).take (j + 1)).reverse = pl[k2] :: pl[k2 + 1] :: It.flatK (((It.pairsK pl).drop t ++ (It.pairsK pl).take t).take j).reverse := by
  have hf := It.flat_pairs pl (by omega)
  obtain ⟨hr, e⟩ := It.rot_at (It.pairsK pl) t j hj ht
  rw [It.rev_take hr, e]
  have key : ∀ m (hm : m < (It.pairsK pl).length), k2 = 2 * m → (It.pairsK pl)[m].1 = pl[k2] ∧ (It.pairsK pl)[m].2 = pl[k2 + 1] := fun m hm hk => by
    subst hk
    obtain ⟨_, e1, h', e2⟩ := It.flatK_at (It.pairsK pl) m (by rw [hf]; omega)
    simp only [hf] at e1 e2
    exact ⟨e1.symm, e2.symm⟩
  obtain ⟨k1, k2'⟩ := key _ (Nat.mod_lt (j + t) (show 0 < (It.pairsK pl).length by omega)) hk
  have hm := Nat.mod_lt (j + t) (show 0 < (It.pairsK pl).length by omega)
  show (It.pairsK pl)[(j + t) % (It.pairsK pl).length].1 :: (It.pairsK pl)[(j + t) % (It.pairsK pl).length].2 :: It.flatK _ = _
  rw [k1, k2']
def okMR (r : It.MR) (x : It) (k : Int) : Prop := match r with
  | .err n => k = n
  | .ok y => k = 0 ∧ x = y
theorem BPost.out2 (r : It.MR) : ∃ (x : It) (k : Int), (∀ w e w', BPost r w e w' → ∃ A : Ad, e = .returned (.tuple #[.agg #[.int .i64 x.kind, .int .u64 (x.num : Int), .slice A.ab A.nb A.cb, .slice A.ai A.ni A.ci], .int .i64 k]) ∧ IR (fun _ => True) w' x A ∧ Below w.heap.size w w') ∧ okMR r x k := by
  cases r with
  | err n => exact ⟨.mk 0 0 [] [], n, fun w e w' h => ⟨⟨none, 0, 0, none, 0, 0⟩, h.1, IR.flat _ _ (by omega), h.2⟩, rfl⟩
  | ok x =>
    refine ⟨x, 0, fun w e w' h => ?_, rfl, rfl⟩
    obtain ⟨A, h1, h2, h3⟩ := h
    exact ⟨A, h1, h2.imp fun _ _ _ => trivial, h3⟩
def OR3 (PQ : Nat) (w15 : World) (i : Value) (W : World) : Prop := ∃ j3 i3 : Nat, i = .int .i64 (i3 : Int) ∧ i3 = 2 * j3 ∧ j3 ≤ PQ ∧ Below w15.heap.size w15 W
/-- Behind Find: what was found lies in a block. -/
def Cut21 (z : It) (u3 : World) (v16 v17 : Value) (wx : World) : Prop := ∃ (b : Nat) (Z : Ad), v16 = .pointer (some ⟨b, 0, none⟩) ∧ v17 = .bool true ∧ wx.heap[b]? = some (.cells #[.int .i64 z.kind, .int .u64 (z.num : Int), .slice Z.ab Z.nb Z.cb, .slice Z.ai Z.ni Z.ci] 26 (0, 0)) ∧ IR (fun _ => True) wx z Z ∧ Below u3.heap.size u3 wx
theorem q_same_self {x : It} {v u : Value} {w : World} (hx : (Fq.it x).holds v w) (hy : (Fq.it x).holds u w) : Calls Tryz.prog 30 #[v, u] w (EndQ w (.eq (.bool true))) := by
  obtain ⟨A, rfl, hI⟩ := hx
  obtain ⟨C, rfl, hJ⟩ := hy
  have h := same_any x x A C w _ _ hI hJ
  rw [It.same_self] at h
  exact h.mono fun e w' h => EndQ.bool h
set_option maxHeartbeats 32000000 in
theorem order_any (la : Option Addr) (ln lc : Nat) (p : Int) (w : World) (hp0 : -9223372036854775808 ≤ p) (hp1 : p ≤ 9223372036854775807) (hL : InL w la ln) (hE : Env w) :
    Calls Tryz.prog 14 #[.slice la ln lc, .int .i64 p] w fun e w' => e = .returned (.bool true) ∧ Below w.heap.size w w' := by
  have h1 := hE.lt
  have HE := Lib.hid hE
  have HL := Lib.hid hL
  have HPB := Lib.hid (And.intro hp0 hp1)
  clear hE hL hp0 hp1
  go_enter Tryz.func14, Tryz.ntmps14
  go_wp2_with fail
  refine (new_any la ln lc w).mono ?_
  rintro e w2 ⟨rfl, rfl⟩
  have PD := pure_alloc w (.cells #[.slice la ln lc, .int .i64 0] 94)
  have HD := Lib.hid (HL.out.deck lc)
  have HPD := Lib.hid PD
  have HED := Lib.hid (HE.out.below PD)
  have hsD : (w.alloc (.cells #[.slice la ln lc, .int .i64 0] 94)).heap.size = w.heap.size + 1 := by simp
  clear PD
  generalize hwd : w.alloc (.cells #[.slice la ln lc, .int .i64 0] 94) = wd at *
  generalize hb : w.heap.size = b at *
  go_wp2_with fail
  refine (next_any b 6 wd HD.out (by omega) (by omega)).mono ?_
  rintro e w3 ⟨r, hr0, hr1, rfl, hD3, hB3, hs3⟩
  obtain ⟨n0, rfl⟩ := Int.eq_ofNat_of_zero_le hr0
  have HD3 := Lib.hid ((DW.start HD.out).next hD3 hB3)
  have HNn : Hid (n0 ≤ 5) := Lib.hid (by omega)
  clear hB3 hs3 hD3 hr0 hr1
  go_wp2_with fail
  go_loopw [6, 8] (fun v n W => PRO b wd v n W) (fun _ n _ => (intOf n).toNat)
  case atStart => exact ⟨n0, [], rfl, by have := HNn.out; simp; omega, rfl, by simp, OutI.nil _ _ _, HD3.out⟩
  case round =>
    obtain ⟨u, hu⟩ : ∃ u, u = wr := ⟨_, rfl⟩
    subst hu
    obtain ⟨k, es, rfl, hlen, hev, hsm, hO, hDW⟩ := hrel
    have hsr := hDW.but.size
    by_cases hk : 0 < (k : Int)
    · have hk8 : (k : Int) ≤ 8 := by omega
      have HO := Lib.hid hO
      have HDW := Lib.hid hDW
      have HSM := Lib.hid hsm
      have HEV := Lib.hid hev
      have HCa := Lib.hid (genS_any 1 (by decide) b u 1 rfl hDW.deck (But.env HED.out hDW.but (by omega)) (by omega))
      clear hO hDW hsm hev
      go_wp2_with fail
      refine HCa.out.mono ?_
      rintro e w5 ⟨y, A1, rfl, hvy, hIy, hW5⟩
      have HW5 := Lib.hid hW5
      have HIy := Lib.hid hIy
      have HVY := Lib.hid hvy
      have HCb := Lib.hid (genS_any 1 (by decide) b w5 1 rfl hW5.deck (But.env HED.out (HDW.out.but.trans hW5.but) (by omega)) (by omega))
      clear hvy hIy hW5 HCa
      go_wp2_with fail
      refine HCb.out.mono ?_
      rintro e w7 ⟨z, A2, rfl, hvz, hIz, hW7⟩
      have hs5 := HW5.out.but.size
      have hs7 := hW7.but.size
      obtain ⟨v8, w8, hrun, hO8, hB8⟩ := gen_push2 HO.out (by omega) (by omega) (HW5.out.but.trans hW7.but) (But.ir HIy.out hW7.but (fun q hq => by omega)) (hIz.imp fun q hq _ => by omega) 2 (by omega)
      have HR := Lib.hid hrun
      have HO8 := Lib.hid hO8
      have HVZ := Lib.hid hvz
      have HD8 := Lib.hid (((HDW.out.next HW5.out.deck HW5.out.but).next hW7.deck hW7.but).down hB8 (by omega))
      clear hrun hO8 hB8 hvz hIz hW7 hs5 hs7 HCb HW5 HIy
      go_wp2_with (at_builtin; refine wpList_app rfl _ _ 24 rfl rfl rfl HR.out ?_; clear HR)
      go_roundw
      case rel => exact ⟨k - 1, _, by go_num, by simp; omega, by have := HEV.out; simp; omega, fun e he => by
        rcases List.mem_append.1 he with he | he
        · exact HSM.out e he
        · simp only [List.mem_cons, List.not_mem_nil, or_false] at he
          rcases he with rfl | rfl
          · exact HVY.out
          · exact HVZ.out, HO8.out, HD8.out⟩
      case measure => simp [intOf]; omega
    · obtain ⟨pa, pc, rfl⟩ := own_form hO.row
      obtain ⟨hTL, _, hlc, hlcm⟩ := hO.tl'
      have HVA : Hid (∀ y ∈ es.map (·.1), It.valid y = true) := Lib.hid fun y hy => by obtain ⟨e, he, rfl⟩ := List.mem_map.1 hy; exact (hsm e he).1
      have HSA : Hid (∀ y ∈ es.map (·.1), It.Sm 1 y) := Lib.hid fun y hy => by obtain ⟨e, he, rfl⟩ := List.mem_map.1 hy; exact (hsm e he).2
      generalize hL0 : es.length = pn at *
      have HTP := Lib.hid (hTL.imp (ok' := fun q => q < u.heap.size) fun q _ hl => hl)
      have HB1 : Hid (Below b w u) := Lib.hid (by subst hb; subst hwd; exact hDW.pure)
      have hpn : pn ≤ 10 := by omega
      have HEV := Lib.hid hev
      have HE1 := Lib.hid (HE.out.below (hb ▸ HB1.out))
      clear hTL hO hDW hsm hL0 hlen hev
      generalize es.map (·.1) = pl at *
      have HPN : Hid (pn = pl.length) := Lib.hid HTP.out.1
      obtain ⟨PQ, hPQ⟩ : ∃ PQ : Nat, PQ = pn / 2 := ⟨_, rfl⟩
      have HPQ : Hid (pn = 2 * PQ ∧ (It.pairsK pl).length = PQ) := Lib.hid (by
        have h1 := HEV.out
        have h2 := congrArg List.length (It.flat_pairs pl (by have := HPN.out; omega))
        rw [It.flatK_length] at h2
        have := HPN.out
        constructor <;> omega)
      have hwpq : IntKind.i64.wrap ((pn : Int) / 2) = (PQ : Int) := by rw [IntWalk.i64_in _ (by omega)]; omega
      obtain ⟨t, ht⟩ : ∃ t : Nat, t = (p % (PQ : Int)).toNat := ⟨_, rfl⟩
      have HT := Lib.hid ht
      clear hPQ ht
      go_wp2_with fail
      go_loopw [7, 9] (fun v i W => TRN (It.pairsK pl) t PQ u v i W) (fun _ i _ => pn - (intOf i).toNat)
      case atStart => exact ⟨0, 0, none, 0, rfl, rfl, Nat.zero_le _, rfl, Nat.le_refl _, by omega, by simpa [It.flatK] using TL.nil _ _ _, Below.refl _ _⟩
      case round =>
        obtain ⟨u2, hu2⟩ : ∃ u, u = wr := ⟨_, rfl⟩
        subst hu2
        obtain ⟨j, i2, ta, tc, rfl, hi2, hj, rfl, htc, htcm, hTT, hBu⟩ := hrel
        have HTT := Lib.hid hTT
        have HBu := Lib.hid hBu
        have HI2 := Lib.hid hi2
        clear hTT hBu hi2
        by_cases hlt : i2 < pn
        · have hpz : 0 < PQ := by have := HPQ.out; omega
          have hpq5 : PQ ≤ 5 := by have := HPQ.out; omega
          have htp : p % (PQ : Int) = (t : Int) := by have := Int.emod_nonneg p (show (PQ : Int) ≠ 0 by omega); rw [HT.out]; omega
          have htl : t < PQ := by have := Int.emod_lt_of_pos p (show (0 : Int) < PQ by omega); omega
          have HTL := Lib.hid htl
          obtain ⟨T2, hT2⟩ : ∃ T2 : Nat, T2 = 2 * t := ⟨_, rfl⟩
          obtain ⟨S, hS⟩ : ∃ S : Nat, S = i2 + T2 := ⟨_, rfl⟩
          obtain ⟨k2, hk2⟩ : ∃ k2 : Nat, k2 = S % pn := ⟨_, rfl⟩
          have hkl : k2 < pn := by rw [hk2]; exact Nat.mod_lt _ (by omega)
          have hw1 : IntKind.i64.wrap (2 * (t : Int)) = (T2 : Int) := by rw [IntWalk.i64_in _ (by omega)]; omega
          have hw2 : IntKind.i64.wrap ((i2 : Int) + (T2 : Int)) = (S : Int) := by rw [IntWalk.i64_in _ (by omega)]; omega
          have hw3 : (S : Int).tmod (pn : Int) = (k2 : Int) := by rw [hk2]; rfl
          have hpn0 : ¬ pn = 0 := by omega
          have HK2 : Hid (k2 = 2 * ((j + t) % PQ) ∧ k2 + 1 < pn) := Lib.hid (by
            have h2 := HPQ.out
            have h3 := HI2.out
            have e : S = 2 * (j + t) := by omega
            have e2 : k2 = 2 * ((j + t) % PQ) := by rw [hk2, e, h2.1, Nat.mul_mod_mul_left]
            have := Nat.mod_lt (j + t) hpz
            exact ⟨e2, by omega⟩)
          have HCm : Hid (Calls Tryz.prog 35 #[.int .i64 p, .int .i64 (PQ : Int)] u2 fun e w' => e = .returned (.int .i64 (t : Int)) ∧ u2 = w') := Lib.hid (by rw [← htp]; exact mod_any p PQ u2 (by omega) (by omega))
          clear hpz htp htl hT2 hS hk2
          go_wp2_with fail
          refine HCm.out.mono ?_
          rintro e w4 ⟨rfl, rfl⟩
          clear HCm
          go_wp2_with fail
          have hTP2 := HTP.out.below HBu.out
          have hk2l : k2 < pl.length := by have := HPN.out; omega
          have hk3l : k2 + 1 < pl.length := by have := HPN.out; have := HK2.out.2; omega
          obtain ⟨bK, oK, X1, eK, hb1, cx, hIx⟩ := hTP2.2.2 k2 hk2l
          obtain ⟨bK', oK', Y1, eK', hb1', cy, hIy⟩ := hTP2.2.2 (k2 + 1) hk3l
          rw [eK] at eK'
          cases eK'
          subst eK
          have hst := It.rot_step pl HEV.out HPN.out t j k2 hk2l hk3l (by have := HPQ.out; have := HTL.out; omega) (by have := HPQ.out; have := HTL.out; have := HI2.out; omega) (by rw [HPQ.out.2]; exact HK2.out.1)
          have HST := Lib.hid hst
          clear hst
          generalize pl[k2] = x at *
          generalize pl[k2 + 1] = y at *
          obtain ⟨k3, hk3⟩ : ∃ k3 : Nat, k3 = k2 + 1 := ⟨_, rfl⟩
          rw [← hk3] at cy
          have hk3p : k3 < pn := by have := HK2.out.2; omega
          have hwk3 : IntKind.i64.wrap ((k2 : Int) + 1) = (k3 : Int) := by rw [IntWalk.i64_in _ (by omega)]; omega
          have HIx := Lib.hid hIx
          have HIy := Lib.hid hIy
          have HCX := Lib.hid cx
          have HCY := Lib.hid cy
          have hbKl := lt_of_cell cx.1
          have HT2 := Lib.hid (HTT.out)
          have HPIV : Hid (i2 + 2 ≤ pn ∧ i2 = 2 * j) := Lib.hid ⟨by have := HPQ.out; have := HI2.out; omega, HI2.out⟩
          clear hTP2 hk2l hk3l hb1 hb1' hIx hIy cx cy hk3 hw1 hw2 hw3 hpq5
          refine wp_region_held_drew (S := (fun w' => (w'.cell? ⟨bK, oK + k2 * 4, none⟩ = some (.int .i64 x.kind) ∧ w'.cell? ⟨bK, oK + k2 * 4 + 1, none⟩ = some (.int .u64 (x.num : Int)) ∧ w'.cell? ⟨bK, oK + k2 * 4 + 2, none⟩ = some (.slice X1.ab X1.nb X1.cb) ∧ w'.cell? ⟨bK, oK + k2 * 4 + 3, none⟩ = some (.slice X1.ai X1.ni X1.ci)) ∧ (w'.cell? ⟨bK, oK + k3 * 4, none⟩ = some (.int .i64 y.kind) ∧ w'.cell? ⟨bK, oK + k3 * 4 + 1, none⟩ = some (.int .u64 (y.num : Int)) ∧ w'.cell? ⟨bK, oK + k3 * 4 + 2, none⟩ = some (.slice Y1.ab Y1.nb Y1.cb) ∧ w'.cell? ⟨bK, oK + k3 * 4 + 3, none⟩ = some (.slice Y1.ai Y1.ni Y1.ci)))) (by kernel_rfl) ⟨keep4 (Below.refl u2.heap.size u2).drew HCX.out, keep4 (Below.refl u2.heap.size u2).drew HCY.out⟩ (fun hHeld => ?_)
          refine wpAnyH_take (i := 0) (v := ?_) rfl (by kernel_rfl) (by kernel_rfl) (by kernel_rfl) (fun _ _ _ h => h) (Or.inl ⟨by rfl, ?_⟩) hHeld ?_
          rotate_left
          · (intro W hSw; (try dsimp only at hSw); go_simp; try with_reducible rfl)
          try simp only [Act.put, List.setIfInBounds_toArray, List.set_cons_zero, List.set_cons_succ, List.getElem_toArray, List.getElem_cons_succ, List.getElem_cons_zero]
          refine wpAnyH_take (i := 1) (v := ?_) rfl (by kernel_rfl) (by kernel_rfl) (by kernel_rfl) (fun _ _ _ h => h) (Or.inl ⟨by rfl, ?_⟩) hHeld ?_
          rotate_left
          · (intro W hSw; (try dsimp only at hSw); go_simp; try with_reducible rfl)
          try simp only [Act.put, List.setIfInBounds_toArray, List.set_cons_zero, List.set_cons_succ, List.getElem_toArray, List.getElem_cons_succ, List.getElem_cons_zero]
          refine wpAnyH_take (i := 2) (v := ?_) rfl (by kernel_rfl) (by kernel_rfl) (by kernel_rfl) (fun _ _ _ h => h) (Or.inl ⟨by rfl, ?_⟩) hHeld ?_
          rotate_left
          · (intro W hSw; (try dsimp only at hSw); go_simp; try with_reducible rfl)
          try simp only [Act.put, List.setIfInBounds_toArray, List.set_cons_zero, List.set_cons_succ, List.getElem_toArray, List.getElem_cons_succ, List.getElem_cons_zero]
          refine wpAnyH_take (i := 3) (v := ?_) rfl (by kernel_rfl) (by kernel_rfl) (by kernel_rfl) (fun _ _ _ h => h) (Or.inl ⟨by rfl, ?_⟩) hHeld ?_
          rotate_left
          · (intro W hSw; (try dsimp only at hSw); go_simp; try with_reducible rfl)
          try simp only [Act.put, List.setIfInBounds_toArray, List.set_cons_zero, List.set_cons_succ, List.getElem_toArray, List.getElem_cons_succ, List.getElem_cons_zero]
          refine wpAnyH_take (i := 4) (v := ?_) rfl (by kernel_rfl) (by kernel_rfl) (by kernel_rfl) (fun _ _ _ h => h) (Or.inl ⟨by rfl, ?_⟩) hHeld ?_
          rotate_left
          · (intro W hSw; (try dsimp only at hSw); go_simp; try with_reducible rfl)
          try simp only [Act.put, List.setIfInBounds_toArray, List.set_cons_zero, List.set_cons_succ, List.getElem_toArray, List.getElem_cons_succ, List.getElem_cons_zero]
          refine wpAnyH_take (i := 5) (v := ?_) rfl (by kernel_rfl) (by kernel_rfl) (by kernel_rfl) (fun _ _ _ h => h) (Or.inl ⟨by rfl, ?_⟩) hHeld ?_
          rotate_left
          · (intro W hSw; (try dsimp only at hSw); go_simp; try with_reducible rfl)
          try simp only [Act.put, List.setIfInBounds_toArray, List.set_cons_zero, List.set_cons_succ, List.getElem_toArray, List.getElem_cons_succ, List.getElem_cons_zero]
          refine wpAnyH_take (i := 6) (v := ?_) rfl (by kernel_rfl) (by kernel_rfl) (by kernel_rfl) (fun _ _ _ h => h) (Or.inl ⟨by rfl, ?_⟩) hHeld ?_
          rotate_left
          · (intro W hSw; (try dsimp only at hSw); go_simp; try with_reducible rfl)
          try simp only [Act.put, List.setIfInBounds_toArray, List.set_cons_zero, List.set_cons_succ, List.getElem_toArray, List.getElem_cons_succ, List.getElem_cons_zero]
          refine wpAnyH_take (i := 7) (v := ?_) rfl (by kernel_rfl) (by kernel_rfl) (by kernel_rfl) (fun _ _ _ h => h) (Or.inl ⟨by rfl, ?_⟩) hHeld ?_
          rotate_left
          · (intro W hSw; (try dsimp only at hSw); go_simp; try with_reducible rfl)
          try simp only [Act.put, List.setIfInBounds_toArray, List.set_cons_zero, List.set_cons_succ, List.getElem_toArray, List.getElem_cons_succ, List.getElem_cons_zero]
          refine wpAnyH_take (i := 8) (v := ?_) rfl (by kernel_rfl) (by kernel_rfl) (by kernel_rfl) (fun _ _ _ h => h) (Or.inl ⟨by rfl, ?_⟩) hHeld ?_
          rotate_left
          · (intro W hSw; (try dsimp only at hSw); go_simp; try with_reducible rfl)
          try simp only [Act.put, List.setIfInBounds_toArray, List.set_cons_zero, List.set_cons_succ, List.getElem_toArray, List.getElem_cons_succ, List.getElem_cons_zero]
          refine wpAnyH_take (i := 10) (v := ?_) rfl (by kernel_rfl) (by kernel_rfl) (by kernel_rfl) (fun _ _ _ h => h) (Or.inl ⟨by rfl, ?_⟩) hHeld ?_
          rotate_left
          · (intro W hSw; (try dsimp only at hSw); go_simp; try with_reducible rfl)
          try simp only [Act.put, List.setIfInBounds_toArray, List.set_cons_zero, List.set_cons_succ, List.getElem_toArray, List.getElem_cons_succ, List.getElem_cons_zero]
          refine wpAnyH_ready (rs := [9]) (by kernel_rfl) (by simp) ?_
          refine AllReadyH.cons rfl (fun K1 hK1 => ?_) AllReadyH.nil
          go_simp
          have P17 := pure_alloc u2.drew (.cells #[.int .i64 x.kind, .int .u64 (x.num : Int), .slice X1.ab X1.nb X1.cb, .slice X1.ai X1.ni X1.ci, .int .i64 y.kind, .int .u64 (y.num : Int), .slice Y1.ab Y1.nb Y1.cb, .slice Y1.ai Y1.ni Y1.ci] 26)
          have N17 := alloc_new u2.drew (.cells #[.int .i64 x.kind, .int .u64 (x.num : Int), .slice X1.ab X1.nb X1.cb, .slice X1.ai X1.ni X1.ci, .int .i64 y.kind, .int .u64 (y.num : Int), .slice Y1.ab Y1.nb Y1.cb, .slice Y1.ai Y1.ni Y1.ci] 26)
          have HB17 := Lib.hid (show Below u2.heap.size u2 (u2.drew.alloc (.cells #[.int .i64 x.kind, .int .u64 (x.num : Int), .slice X1.ab X1.nb X1.cb, .slice X1.ai X1.ni X1.ci, .int .i64 y.kind, .int .u64 (y.num : Int), .slice Y1.ab Y1.nb Y1.cb, .slice Y1.ai Y1.ni Y1.ci] 26)) from (Below.refl u2.heap.size u2).drew.trans P17)
          have hO17 : OutI (u2.drew.alloc (.cells #[.int .i64 x.kind, .int .u64 (x.num : Int), .slice X1.ab X1.nb X1.cb, .slice X1.ai X1.ni X1.ci, .int .i64 y.kind, .int .u64 (y.num : Int), .slice Y1.ab Y1.nb Y1.cb, .slice Y1.ai Y1.ni Y1.ci] 26)) u2.heap.size (fun q => q < u2.heap.size) (.slice (some ⟨u2.heap.size, 0, none⟩) 2 2) [(x, X1), (y, Y1)] := OutI.two (e := (x, X1)) (f := (y, Y1)) N17 (Nat.le_refl _)
            ((HIx.out.imp (ok' := fun q => q < u2.heap.size ∧ q ≠ u2.heap.size) fun q _ hl => ⟨hl, by omega⟩).below HB17.out) ((HIy.out.imp (ok' := fun q => q < u2.heap.size ∧ q ≠ u2.heap.size) fun q _ hl => ⟨hl, by omega⟩).below HB17.out)
          obtain ⟨v18, W18, es18, hrun18, hm18, hO18, hg18⟩ := app_rows hO17 ((HT2.out.imp (ok' := fun q => q < u2.heap.size) fun q _ hl => hl).below HB17.out) (fun b hb _ => ⟨hb, fun e => by have : u2.heap.size = b := Option.some.inj e; omega⟩) (by simp; omega) HB17.out.size tc
          have HR18 := Lib.hid hrun18
          have HO18 := Lib.hid hO18
          have HB18 := Lib.hid (show Below u2.heap.size u2 W18 from below_grown HB17.out HB17.out.size hO17.row hg18)
          have HM18 := Lib.hid hm18
          clear hrun18 hO18 hg18 hm18 P17 N17 hO17
          refine hK1.out _ _ ⟨keep4 HB17.out HCX.out, keep4 HB17.out HCY.out⟩ (fun hHeld => ?_)
          clear hK1
          try simp only [Act.put, List.setIfInBounds_toArray, List.set_cons_zero, List.set_cons_succ, List.getElem_toArray, List.getElem_cons_succ, List.getElem_cons_zero]
          refine wpAnyH_ready (rs := [11]) (by kernel_rfl) (by simp) ?_
          refine AllReadyH.cons rfl (fun K1 hK1 => ?_) AllReadyH.nil
          rw [if_pos (by rfl)]
          refine wp_app _ _ 24 rfl rfl rfl HR18.out ?_
          clear HR18
          obtain ⟨va, ca, ea⟩ := own_form HO18.out.row
          obtain ⟨m2, hlen2⟩ : ∃ m2, ([(x, X1), (y, Y1)] ++ es18).length = m2 := ⟨_, rfl⟩
          have HM2 : Hid (m2 = i2 + 2) := Lib.hid (by have := congrArg List.length HM18.out; have := HT2.out.1; simp at *; omega)
          rw [hlen2] at ea
          subst ea
          have HT18 := Lib.hid (HO18.out.tl')
          rw [hlen2] at HT18
          have HML : Hid (([(x, X1), (y, Y1)] ++ es18).map (·.1) = It.flatK (((It.pairsK pl).drop t ++ (It.pairsK pl).take t).take (j + 1)).reverse) := Lib.hid (by rw [HST.out, List.map_append, HM18.out]; rfl)
          clear hlen2
          refine hK1.out _ _ ⟨keep4 HB18.out HCX.out, keep4 HB18.out HCY.out⟩ (fun hHeld => ?_)
          clear hK1
          try simp only [Act.put, List.setIfInBounds_toArray, List.set_cons_zero, List.set_cons_succ, List.getElem_toArray, List.getElem_cons_succ, List.getElem_cons_zero]
          refine wpAnyH_take (i := 12) (v := ?_) rfl (by kernel_rfl) (by kernel_rfl) (by kernel_rfl) (fun _ _ _ h => h) (Or.inl ⟨by rfl, ?_⟩) hHeld ?_
          rotate_left
          · (intro W hSw; (try dsimp only at hSw); go_simp; try with_reducible rfl)
          try simp only [Act.put, List.setIfInBounds_toArray, List.set_cons_zero, List.set_cons_succ, List.getElem_toArray, List.getElem_cons_succ, List.getElem_cons_zero]
          refine wpAnyH_done (by kernel_rfl) ?_ _
          try simp only [Act.put, List.setIfInBounds_toArray, List.set_cons_zero, List.set_cons_succ, List.getElem_toArray, List.getElem_cons_succ, List.getElem_cons_zero]
          clear hHeld HB17 HO18 HCX HCY HIx HIy HTT HT2
          have hwi : IntKind.i64.wrap ((i2 : Int) + 2) = (m2 : Int) := by have := HM2.out; rw [IntWalk.i64_in _ (by omega)]; omega
          go_wp2_with fail
          go_roundw
          case rel => exact ⟨j + 1, m2, va, ca, rfl, by have := HM2.out; have := HPIV.out; omega, by have := HPIV.out; have := HPQ.out; omega, rfl, HT18.out.2.2.1, HT18.out.2.2.2, by rw [← HML.out]; exact HT18.out.1.imp fun _ _ _ => trivial, HBu.out.trans (HB18.out.mono HBu.out.size)⟩
          case measure => have := HM2.out; simp [intOf]; omega
        · have hjq : j = PQ := by have := HI2.out; have := HPQ.out; omega
          obtain ⟨tl, htl⟩ : ∃ tl, tl = It.flatK (((It.pairsK pl).drop t ++ (It.pairsK pl).take t).take j).reverse := ⟨_, rfl⟩
          have HTT2 := HTT.out
          rw [← htl] at HTT2
          have HTU := Lib.hid HTT2
          have hpm : (It.pairsK tl).Perm (It.pairsK pl) := by
            rw [htl, It.pairsK_flat, List.take_of_length_le (by have := HPQ.out.2; simp; omega)]
            exact It.rot_perm _ _
          have hbp : It.buildP tl = It.buildP pl := It.buildP_perm (by have := HPN.out; have := HEV.out; omega) (by rw [htl, It.flatK_length]; omega) hpm
          have HBP := Lib.hid hbp
          have HIP : Hid (i2 = pn) := Lib.hid (by have := HI2.out; have := HPQ.out; omega)
          clear hjq htl HTT2 hpm hbp HTT
          have HE2 := Lib.hid (HE1.out.below HBu.out)
          have HTP2 := Lib.hid ((HTP.out.below HBu.out).imp (ok' := fun _ => True) fun _ _ _ => trivial)
          have HP2 : Hid (Below b w u2) := Lib.hid (HB1.out.trans (HBu.out.mono (by have := HB1.out.size; omega)))
          obtain ⟨x, k0, hout, hkm⟩ := BPost.out2 (It.buildP pl)
          have HOUT := Lib.hid hout
          have HKM := Lib.hid hkm
          have HC1 := Lib.hid (cbuild_any pl pa pn pc u2 _ HTP2.out (by omega) HE2.out)
          clear hout hkm hj
          go_wp2_with fail
          refine HC1.out.mono ?_
          rintro e w11 h11
          obtain ⟨X, rfl, hX, hB11⟩ := HOUT.out _ _ _ h11
          have P12 := pure_alloc w11 (.cells #[.int .i64 x.kind, .int .u64 (x.num : Int), .slice X.ab X.nb X.cb, .slice X.ai X.ni X.ci] 26)
          have HN12 := Lib.hid (alloc_new w11 (.cells #[.int .i64 x.kind, .int .u64 (x.num : Int), .slice X.ab X.nb X.cb, .slice X.ai X.ni X.ci] 26))
          have HB12 := Lib.hid (pure_trans hB11 P12)
          have HX12 := Lib.hid (hX.below P12)
          have HC2 := Lib.hid (cbuild_any tl ta i2 tc (w11.alloc (.cells #[.int .i64 x.kind, .int .u64 (x.num : Int), .slice X.ab X.nb X.cb, .slice X.ai X.ni X.ci] 26)) _ ((HTU.out.below hB11).below P12) (by have := HIP.out; omega) (HE2.out.below HB12.out))
          rw [HBP.out] at HC2
          clear h11 hB11 hX P12 HC1
          go_upto_region 13 with fail
          generalize hs12 : w11.heap.size = bx at *
          generalize w11.alloc (.cells #[.int .i64 x.kind, .int .u64 (x.num : Int), .slice X.ab X.nb X.cb, .slice X.ai X.ni X.ci] 26) = w12 at *
          clear hs12
          go_wp2_with fail
          refine HC2.out.mono ?_
          rintro e w13 h13
          obtain ⟨Y, rfl, hY, hB13⟩ := HOUT.out _ _ _ h13
          have P14 := pure_alloc w13 (.cells #[.int .i64 x.kind, .int .u64 (x.num : Int), .slice Y.ab Y.nb Y.cb, .slice Y.ai Y.ni Y.ci] 26)
          have HN14 := Lib.hid (alloc_new w13 (.cells #[.int .i64 x.kind, .int .u64 (x.num : Int), .slice Y.ab Y.nb Y.cb, .slice Y.ai Y.ni Y.ci] 26))
          have HB14 := Lib.hid (pure_trans HB12.out (pure_trans hB13 P14))
          have HNX := Lib.hid (Below.keep (pure_trans hB13 P14) HN12.out (lt_of_block HN12.out))
          have HX14 := Lib.hid (HX12.out.below (pure_trans hB13 P14))
          have HC3 := Lib.hid (same_any x x X Y (w13.alloc (.cells #[.int .i64 x.kind, .int .u64 (x.num : Int), .slice Y.ab Y.nb Y.cb, .slice Y.ai Y.ni Y.ci] 26)) _ _ HX14.out (hY.below P14))
          rw [It.same_self] at HC3
          clear h13 hB13 hY P14 HC2 HOUT HX12 HN12 HB12
          go_upto_region 14 with fail
          generalize hs14 : w13.heap.size = by2 at *
          generalize w13.alloc (.cells #[.int .i64 x.kind, .int .u64 (x.num : Int), .slice Y.ab Y.nb Y.cb, .slice Y.ai Y.ni Y.ci] 26) = w14 at *
          clear hs14
          obtain ⟨x0, x1, x2, x3⟩ := cell_of4 HNX.out
          obtain ⟨y0, y1, y2, y3⟩ := cell_of4 HN14.out
          go_wp2_with fail
          refine HC3.out.mono ?_
          rintro e w15 ⟨rfl, hB15⟩
          have HB15 := Lib.hid (pure_trans HB14.out hB15)
          have HNX15 := Lib.hid (Below.keep hB15 HNX.out (lt_of_block HNX.out))
          have HX15 := Lib.hid (HX14.out.below hB15)
          have HE15 := Lib.hid (HE2.out.below HB15.out)
          have HTP15 := Lib.hid (HTP2.out.below HB15.out)
          have HP15 : Hid (Below b w w15) := Lib.hid (HP2.out.trans (HB15.out.mono (by have := HP2.out.size; omega)))
          clear hB15 x0 x1 x2 x3 y0 y1 y2 y3 HC3 HNX HN14 HX14 HB14 HE2 HTP2 HP2 HB15
          have hbs := It.build_small (ps := pl) (by have := HPN.out; have := HEV.out; omega) HSA.out HVA.out (by have := HPN.out; omega)
          have HKM2 := HKM.out
          rcases hbs with hbs | ⟨hnd, hbs⟩
          · rw [hbs] at HKM2
            have hk7 : k0 = 7 := HKM2
            subst hk7
            clear HKM2 hbs HKM
            have HCA := Lib.hid (awake_any w15 HE15.out)
            go_wp2_with fail
            refine HCA.out.mono ?_
            rintro e w16 ⟨rfl, hB16⟩
            have HPE := Lib.hid (HP15.out.trans (hB16.mono (by have := HP15.out.size; omega)))
            clear hB16 HCA
            go_wp2_with fail
            go_ret
            exact ⟨rfl, hb ▸ HPE.out⟩
          · rw [hbs] at HKM2
            obtain ⟨hk7, hx⟩ := HKM2
            subst hk7
            have HXE := Lib.hid hx
            have HND := Lib.hid hnd
            have HVX : Hid (It.valid x = true) := Lib.hid (by rw [hx]; exact buildP_ok hbs)
            clear hbs HKM hx hnd
            go_wp2_with fail
            go_loopw [15] (fun i W => OR3 PQ w15 i W) (fun i _ => pn - (intOf i).toNat)
            case atStart => exact ⟨0, 0, rfl, rfl, Nat.zero_le _, Below.refl _ _⟩
            case round =>
              obtain ⟨u3, hu3⟩ : ∃ u, u = wr := ⟨_, rfl⟩
              subst hu3
              obtain ⟨j3, i3, rfl, hi3, hj3, hB3⟩ := hrel
              have HI3 := Lib.hid hi3
              have HB3 := Lib.hid hB3
              clear hi3 hB3
              by_cases hlt3 : i3 < pn
              · have hpl : i3 < pl.length := by have := HPN.out; omega
                have hpl1 : i3 + 1 < pl.length := by have := HPN.out; have := HI3.out; have := HPQ.out; omega
                have hT3 := HTP15.out.below HB3.out
                obtain ⟨bK, oK, K1, eK, _, ck, hIk⟩ := hT3.2.2 i3 hpl
                obtain ⟨bK', oK', V1, eK', _, cv, hIv⟩ := hT3.2.2 (i3 + 1) hpl1
                rw [eK] at eK'
                cases eK'
                subst eK
                have hX3 := HX15.out.below HB3.out
                have hkids : x.kids = It.flatK (It.sortK (It.pairsK pl)) := by rw [HXE.out]; rfl
                have hTX := hX3.tl
                have hcx := hX3.caps.2
                have hlen : (It.flatK (It.sortK (It.pairsK pl))).length = pn := by
                  have h1 := It.flatK_perm (It.sortK_perm (It.pairsK pl))
                  rw [It.flat_pairs pl (by have := HPN.out; have := HEV.out; omega)] at h1
                  rw [h1.length_eq, ← HPN.out]
                have hni : X.ni = pn := by rw [hTX.1, hkids, hlen]
                have hjl3 : j3 < (It.pairsK pl).length := by have := HPQ.out.2; have := HI3.out; have := HPQ.out; omega
                have hfp : It.flatK (It.pairsK pl) = pl := It.flat_pairs pl (by have := HPN.out; have := HEV.out; omega)
                have hpair : pl[i3] = (It.pairsK pl)[j3].1 ∧ pl[i3 + 1] = (It.pairsK pl)[j3].2 := by
                  have hi3 := HI3.out
                  obtain ⟨_, e1, h', e2⟩ := It.flatK_at (It.pairsK pl) j3 (by rw [hfp]; omega)
                  subst hi3
                  simp only [hfp] at e1 e2
                  exact ⟨e1, e2⟩
                have hfind : It.findP x pl[i3] = some pl[i3 + 1] := by
                  have hv := HVX.out
                  unfold It.findP
                  rw [if_pos ⟨by rw [HXE.out]; rfl, hv⟩, hkids, hpair.1, hpair.2]
                  exact It.find_sorted HND.out (List.getElem_mem hjl3)
                have hcmp : 0 < i3 → ∃ (h0 : i3 - 2 < x.kids.length) (h1 : i3 < x.kids.length), It.cmpI x.kids[i3 - 2] x.kids[i3] < 0 := fun h0 => by
                  have hi3 := HI3.out
                  have hsl : (It.sortK (It.pairsK pl)).length = (It.pairsK pl).length := (It.sortK_perm _).length_eq
                  obtain ⟨m, rfl⟩ : ∃ m, j3 = m + 1 := ⟨j3 - 1, by omega⟩
                  have hlt := It.sorted_lt HND.out (j := m) (by omega)
                  obtain ⟨_, e1, _, _⟩ := It.flatK_at (It.sortK (It.pairsK pl)) m (by rw [It.flatK_length]; omega)
                  obtain ⟨_, e2, _, _⟩ := It.flatK_at (It.sortK (It.pairsK pl)) (m + 1) (by rw [It.flatK_length]; omega)
                  have hxl : x.kids.length = pn := by rw [hkids, hlen]
                  refine ⟨by omega, by omega, ?_⟩
                  have hi1 : i3 - 2 = 2 * m := by omega
                  have hvm : ∀ y ∈ x.kids, It.valid y = true := fun y hy => It.valid_kid HVX.out hy
                  have hv1 := hvm _ (List.getElem_mem (show i3 - 2 < x.kids.length by omega))
                  have hv2 := hvm _ (List.getElem_mem (show i3 < x.kids.length by omega))
                  unfold It.cmpI
                  rw [if_pos ⟨hv1, hv2⟩]
                  subst hi3
                  simp only [hkids, hi1, e1, e2]
                  exact hlt
                have HFIND := Lib.hid hfind
                have HCMP := Lib.hid hcmp
                have HKX := Lib.hid (hTX.imp fun _ _ _ => trivial : TL (fun _ => True) u3 x.kids X.ai X.ni)
                have HCK := Lib.hid ck
                have HCVV := Lib.hid cv
                have HIK := Lib.hid hIk
                have HIV := Lib.hid hIv
                have HNI := Lib.hid hni
                have HX3 := Lib.hid hX3
                have HCAPX := Lib.hid hcx
                clear hT3 hTX hkids hlen hjl3 hfp hpair hfind hcmp hIk hIv ck cv hni hX3 hcx
                generalize pl[i3] = key at *
                generalize pl[i3 + 1] = val at *
                have HNX3 := Lib.hid (Below.keep HB3.out HNX15.out (lt_of_block HNX15.out))
                have HFC : Hid (∀ W, Below u3.heap.size u3 W → Calls Tryz.prog 63 #[.agg #[.int .i64 x.kind, .int .u64 (x.num : Int), .slice X.ab X.nb X.cb, .slice X.ai X.ni X.ci], .agg #[.int .i64 key.kind, .int .u64 (key.num : Int), .slice K1.ab K1.nb K1.cb, .slice K1.ai K1.ni K1.ci]] W (FP (some val) W)) := Lib.hid fun W hW => by
                  rw [← HFIND.out]
                  exact cfind_any x key X K1 W _ _ (HX3.out.below hW) (HIK.out.below hW) ((HE15.out.below HB3.out).below hW)
                go_upto_region 21 with fail
                go_cut [16, 17] from 88 to 141 (fun v16 v17 wx => Cut21 val u3 v16 v17 wx)
                case first =>
                  obtain ⟨x0, x1, x2, x3⟩ := cell_of4 HNX3.out
                  refine wp_region_held_drew (S := (fun w' => (w'.cell? ⟨bx, 0, none⟩ = some (.int .i64 x.kind) ∧ w'.cell? ⟨bx, 1, none⟩ = some (.int .u64 (x.num : Int)) ∧ w'.cell? ⟨bx, 2, none⟩ = some (.slice X.ab X.nb X.cb) ∧ w'.cell? ⟨bx, 3, none⟩ = some (.slice X.ai X.ni X.ci)) ∧ (w'.cell? ⟨bK, oK + i3 * 4, none⟩ = some (.int .i64 key.kind) ∧ w'.cell? ⟨bK, oK + i3 * 4 + 1, none⟩ = some (.int .u64 (key.num : Int)) ∧ w'.cell? ⟨bK, oK + i3 * 4 + 2, none⟩ = some (.slice K1.ab K1.nb K1.cb) ∧ w'.cell? ⟨bK, oK + i3 * 4 + 3, none⟩ = some (.slice K1.ai K1.ni K1.ci)))) (by kernel_rfl) ⟨cell_of4 (Below.keep (Below.refl u3.heap.size u3).drew HNX3.out (lt_of_block HNX3.out)), keep4 (Below.refl u3.heap.size u3).drew HCK.out⟩ (fun hHeld => ?_)
                  refine wpAnyH_take (i := 0) (v := ?_) rfl (by kernel_rfl) (by kernel_rfl) (by kernel_rfl) (fun _ _ _ h => h) (Or.inl ⟨by rfl, ?_⟩) hHeld ?_
                  rotate_left
                  · (intro W hSw; (try dsimp only at hSw); go_simp; try with_reducible rfl)
                  try simp only [Act.put, List.setIfInBounds_toArray, List.set_cons_zero, List.set_cons_succ, List.getElem_toArray, List.getElem_cons_succ, List.getElem_cons_zero]
                  refine wpAnyH_take (i := 1) (v := ?_) rfl (by kernel_rfl) (by kernel_rfl) (by kernel_rfl) (fun _ _ _ h => h) (Or.inl ⟨by rfl, ?_⟩) hHeld ?_
                  rotate_left
                  · (intro W hSw; (try dsimp only at hSw); go_simp; try with_reducible rfl)
                  try simp only [Act.put, List.setIfInBounds_toArray, List.set_cons_zero, List.set_cons_succ, List.getElem_toArray, List.getElem_cons_succ, List.getElem_cons_zero]
                  refine wpAnyH_take (i := 2) (v := ?_) rfl (by kernel_rfl) (by kernel_rfl) (by kernel_rfl) (fun _ _ _ h => h) (Or.inl ⟨by rfl, ?_⟩) hHeld ?_
                  rotate_left
                  · (intro W hSw; (try dsimp only at hSw); go_simp; try with_reducible rfl)
                  try simp only [Act.put, List.setIfInBounds_toArray, List.set_cons_zero, List.set_cons_succ, List.getElem_toArray, List.getElem_cons_succ, List.getElem_cons_zero]
                  refine wpAnyH_take (i := 3) (v := ?_) rfl (by kernel_rfl) (by kernel_rfl) (by kernel_rfl) (fun _ _ _ h => h) (Or.inl ⟨by rfl, ?_⟩) hHeld ?_
                  rotate_left
                  · (intro W hSw; (try dsimp only at hSw); go_simp; try with_reducible rfl)
                  try simp only [Act.put, List.setIfInBounds_toArray, List.set_cons_zero, List.set_cons_succ, List.getElem_toArray, List.getElem_cons_succ, List.getElem_cons_zero]
                  refine wpAnyH_take (i := 4) (v := ?_) rfl (by kernel_rfl) (by kernel_rfl) (by kernel_rfl) (fun _ _ _ h => h) (Or.inl ⟨by rfl, ?_⟩) hHeld ?_
                  rotate_left
                  · (intro W hSw; (try dsimp only at hSw); go_simp; try with_reducible rfl)
                  try simp only [Act.put, List.setIfInBounds_toArray, List.set_cons_zero, List.set_cons_succ, List.getElem_toArray, List.getElem_cons_succ, List.getElem_cons_zero]
                  refine wpAnyH_ready (rs := [5, 9]) (by kernel_rfl) (by simp) ?_
                  refine AllReadyH.cons rfl (fun K1 hK1 => ?_) (AllReadyH.cons rfl (fun K1 hK1 => ?_) AllReadyH.nil)
                  · go_simp
                    refine (HFC.out _ ((Below.refl u3.heap.size u3).drew)).mono ?_
                    rintro e w21 ⟨Z, rfl, hZ, hB21⟩
                    have HBC := Lib.hid (show Below u3.heap.size u3 w21 from Below.trans ((Below.refl u3.heap.size u3).drew) (hB21.mono (Below.size ((Below.refl u3.heap.size u3).drew))))
                    have HZ := Lib.hid (hZ.imp (ok' := fun _ => True) fun _ _ _ => trivial)
                    have HBR := Lib.hid hB21
                    have HZG := Lib.hid hZ
                    clear hZ hB21
                    refine hK1.out _ _ ⟨cell_of4 (Below.keep HBC.out HNX3.out (lt_of_block HNX3.out)), keep4 HBC.out HCK.out⟩ (fun hHeld => ?_)
                    clear hK1
                    try simp only [Act.put, List.setIfInBounds_toArray, List.set_cons_zero, List.set_cons_succ, List.getElem_toArray, List.getElem_cons_succ, List.getElem_cons_zero]
                    refine wpAnyH_take (i := 6) (v := ?_) rfl (by kernel_rfl) (by kernel_rfl) (by kernel_rfl) (fun _ _ _ h => h) (Or.inl ⟨by rfl, ?_⟩) hHeld ?_
                    rotate_left
                    · (intro W hSw; (try dsimp only at hSw); go_simp; try with_reducible rfl)
                    try simp only [Act.put, List.setIfInBounds_toArray, List.set_cons_zero, List.set_cons_succ, List.getElem_toArray, List.getElem_cons_succ, List.getElem_cons_zero]
                    refine wpAnyH_take (i := 7) (v := ?_) rfl (by kernel_rfl) (by kernel_rfl) (by kernel_rfl) (fun _ _ _ h => h) (Or.inl ⟨by rfl, ?_⟩) hHeld ?_
                    rotate_left
                    · (intro W hSw; (try dsimp only at hSw); go_simp; try with_reducible rfl)
                    try simp only [Act.put, List.setIfInBounds_toArray, List.set_cons_zero, List.set_cons_succ, List.getElem_toArray, List.getElem_cons_succ, List.getElem_cons_zero]
                    refine wpAnyH_take (i := 8) (v := ?_) rfl (by kernel_rfl) (by kernel_rfl) (by kernel_rfl) (fun _ _ _ h => h) (Or.inl ⟨by rfl, ?_⟩) hHeld ?_
                    rotate_left
                    · (intro W hSw; (try dsimp only at hSw); go_simp; try with_reducible rfl)
                    try simp only [Act.put, List.setIfInBounds_toArray, List.set_cons_zero, List.set_cons_succ, List.getElem_toArray, List.getElem_cons_succ, List.getElem_cons_zero]
                    refine wpAnyH_ready (rs := [9]) (by kernel_rfl) (by simp) ?_
                    refine AllReadyH.cons rfl (fun K1 hK1 => ?_) AllReadyH.nil
                    go_simp
                    have HNB := Lib.hid (alloc_new w21 (.cells #[.int .i64 0, .int .u64 0, .slice none 0 0, .slice none 0 0] 26))
                    have HBA := Lib.hid (show Below u3.heap.size u3 (w21.alloc (.cells #[.int .i64 0, .int .u64 0, .slice none 0 0, .slice none 0 0] 26)) from HBC.out.trans ((pure_alloc w21 (.cells #[.int .i64 0, .int .u64 0, .slice none 0 0, .slice none 0 0] 26)).mono HBC.out.size))
                    have HZA := Lib.hid (HZ.out.below (pure_alloc w21 (.cells #[.int .i64 0, .int .u64 0, .slice none 0 0, .slice none 0 0] 26)))
                    have HLB : Hid (u3.heap.size ≤ w21.heap.size) := Lib.hid HBC.out.size
                    refine hK1.out _ _ ⟨cell_of4 (Below.keep HBA.out HNX3.out (lt_of_block HNX3.out)), keep4 HBA.out HCK.out⟩ (fun hHeld => ?_)
                    clear hK1
                    try simp only [Act.put, List.setIfInBounds_toArray, List.set_cons_zero, List.set_cons_succ, List.getElem_toArray, List.getElem_cons_succ, List.getElem_cons_zero]
                    refine wpAnyH_ready (rs := [10]) (by kernel_rfl) (by simp) ?_
                    refine AllReadyH.cons rfl (fun K1 hK1 => ?_) AllReadyH.nil
                    go_simp
                    have HNP := Lib.hid (alloc_new w21 (.cells #[.int .i64 val.kind, .int .u64 (val.num : Int), .slice Z.ab Z.nb Z.cb, .slice Z.ai Z.ni Z.ci] 26))
                    have HBP := Lib.hid (show Below u3.heap.size u3 (w21.alloc (.cells #[.int .i64 val.kind, .int .u64 (val.num : Int), .slice Z.ab Z.nb Z.cb, .slice Z.ai Z.ni Z.ci] 26)) from HBC.out.trans ((pure_alloc w21 (.cells #[.int .i64 val.kind, .int .u64 (val.num : Int), .slice Z.ab Z.nb Z.cb, .slice Z.ai Z.ni Z.ci] 26)).mono HBC.out.size))
                    have HZP := Lib.hid (HZ.out.below (pure_alloc w21 (.cells #[.int .i64 val.kind, .int .u64 (val.num : Int), .slice Z.ab Z.nb Z.cb, .slice Z.ai Z.ni Z.ci] 26)))
                    refine hK1.out _ _ ⟨cell_of4 (Below.keep HBP.out HNX3.out (lt_of_block HNX3.out)), keep4 HBP.out HCK.out⟩ (fun hHeld => ?_)
                    clear hK1
                    try simp only [Act.put, List.setIfInBounds_toArray, List.set_cons_zero, List.set_cons_succ, List.getElem_toArray, List.getElem_cons_succ, List.getElem_cons_zero]
                    refine wpAnyH_take (i := 11) (v := ?_) rfl (by kernel_rfl) (by kernel_rfl) (by kernel_rfl) (fun _ _ _ h => h) (Or.inl ⟨by rfl, ?_⟩) hHeld ?_
                    rotate_left
                    · (intro W hSw; (try dsimp only at hSw); go_simp; try with_reducible rfl)
                    try simp only [Act.put, List.setIfInBounds_toArray, List.set_cons_zero, List.set_cons_succ, List.getElem_toArray, List.getElem_cons_succ, List.getElem_cons_zero]
                    refine wpAnyH_done (by kernel_rfl) ?_ _
                    try simp only [Act.put, List.setIfInBounds_toArray, List.set_cons_zero, List.set_cons_succ, List.getElem_toArray, List.getElem_cons_succ, List.getElem_cons_zero]
                    go_wp2_with fail
                    go_meet
                    exact ⟨_, Z, rfl, rfl, HNP.out, HZP.out, HBP.out⟩
                  · go_simp
                    have HNA : Hid ((u3.drew.alloc (.cells #[.int .i64 0, .int .u64 0, .slice none 0 0, .slice none 0 0] 26)).heap[u3.heap.size]? = some (.cells #[.int .i64 0, .int .u64 0, .slice none 0 0, .slice none 0 0] 26 (0, 0))) := Lib.hid (alloc_new u3.drew (.cells #[.int .i64 0, .int .u64 0, .slice none 0 0, .slice none 0 0] 26))
                    have HBA := Lib.hid (show Below u3.heap.size u3 (u3.drew.alloc (.cells #[.int .i64 0, .int .u64 0, .slice none 0 0, .slice none 0 0] 26)) from (Below.refl u3.heap.size u3).drew.trans (pure_alloc u3.drew (.cells #[.int .i64 0, .int .u64 0, .slice none 0 0, .slice none 0 0] 26)))
                    refine hK1.out _ _ ⟨cell_of4 (Below.keep HBA.out HNX3.out (lt_of_block HNX3.out)), keep4 HBA.out HCK.out⟩ (fun hHeld => ?_)
                    clear hK1
                    try simp only [Act.put, List.setIfInBounds_toArray, List.set_cons_zero, List.set_cons_succ, List.getElem_toArray, List.getElem_cons_succ, List.getElem_cons_zero]
                    refine wpAnyH_ready (rs := [5]) (by kernel_rfl) (by simp) ?_
                    refine AllReadyH.cons rfl (fun K1 hK1 => ?_) AllReadyH.nil
                    go_simp
                    refine (HFC.out _ HBA.out).mono ?_
                    rintro e w21 ⟨Z, rfl, hZ, hB21⟩
                    have HBC := Lib.hid (show Below u3.heap.size u3 w21 from Below.trans HBA.out (hB21.mono (Below.size HBA.out)))
                    have HZ := Lib.hid (hZ.imp (ok' := fun _ => True) fun _ _ _ => trivial)
                    have HBR := Lib.hid hB21
                    have HZG := Lib.hid hZ
                    clear hZ hB21
                    refine hK1.out _ _ ⟨cell_of4 (Below.keep HBC.out HNX3.out (lt_of_block HNX3.out)), keep4 HBC.out HCK.out⟩ (fun hHeld => ?_)
                    clear hK1
                    try simp only [Act.put, List.setIfInBounds_toArray, List.set_cons_zero, List.set_cons_succ, List.getElem_toArray, List.getElem_cons_succ, List.getElem_cons_zero]
                    refine wpAnyH_take (i := 6) (v := ?_) rfl (by kernel_rfl) (by kernel_rfl) (by kernel_rfl) (fun _ _ _ h => h) (Or.inl ⟨by rfl, ?_⟩) hHeld ?_
                    rotate_left
                    · (intro W hSw; (try dsimp only at hSw); go_simp; try with_reducible rfl)
                    try simp only [Act.put, List.setIfInBounds_toArray, List.set_cons_zero, List.set_cons_succ, List.getElem_toArray, List.getElem_cons_succ, List.getElem_cons_zero]
                    refine wpAnyH_take (i := 7) (v := ?_) rfl (by kernel_rfl) (by kernel_rfl) (by kernel_rfl) (fun _ _ _ h => h) (Or.inl ⟨by rfl, ?_⟩) hHeld ?_
                    rotate_left
                    · (intro W hSw; (try dsimp only at hSw); go_simp; try with_reducible rfl)
                    try simp only [Act.put, List.setIfInBounds_toArray, List.set_cons_zero, List.set_cons_succ, List.getElem_toArray, List.getElem_cons_succ, List.getElem_cons_zero]
                    refine wpAnyH_take (i := 8) (v := ?_) rfl (by kernel_rfl) (by kernel_rfl) (by kernel_rfl) (fun _ _ _ h => h) (Or.inl ⟨by rfl, ?_⟩) hHeld ?_
                    rotate_left
                    · (intro W hSw; (try dsimp only at hSw); go_simp; try with_reducible rfl)
                    try simp only [Act.put, List.setIfInBounds_toArray, List.set_cons_zero, List.set_cons_succ, List.getElem_toArray, List.getElem_cons_succ, List.getElem_cons_zero]
                    refine wpAnyH_ready (rs := [10]) (by kernel_rfl) (by simp) ?_
                    refine AllReadyH.cons rfl (fun K1 hK1 => ?_) AllReadyH.nil
                    have hn21 := Below.keep HBR.out HNA.out (lt_of_block HNA.out)
                    obtain ⟨n0, n1, n2, n3⟩ := cell_of4 hn21
                    obtain ⟨m0, m1, m2, m3⟩ := frozen_of4 hn21
                    have hp4 := put4 hn21 (.int .i64 val.kind) (.int .u64 (val.num : Int)) (.slice Z.ab Z.nb Z.cb) (.slice Z.ai Z.ni Z.ci)
                    have HNP := Lib.hid hp4
                    have HBP := Lib.hid (put4_below HBC.out (show u3.heap.size ≤ u3.heap.size from Nat.le_refl _) (.int .i64 val.kind) (.int .u64 (val.num : Int)) (.slice Z.ab Z.nb Z.cb) (.slice Z.ai Z.ni Z.ci))
                    have HZP := Lib.hid (HZG.out.keep (fun q hq _ => ⟨(put4_keep (W := w21) (b := u3.heap.size) (.int .i64 val.kind) (.int .u64 (val.num : Int)) (.slice Z.ab Z.nb Z.cb) (.slice Z.ai Z.ni Z.ci)).2 q (by have h1 : (u3.drew.alloc (.cells #[.int .i64 0, .int .u64 0, .slice none 0 0, .slice none 0 0] 26)).heap.size ≤ q := hq; simp at h1; show q ≠ u3.heap.size; omega), trivial⟩) : IR (fun _ => True) _ val Z)
                    clear hn21 hp4
                    go_simp
                    clear n0 n1 n2 n3 m0 m1 m2 m3
                    refine hK1.out _ _ ⟨cell_of4 (Below.keep HBP.out HNX3.out (lt_of_block HNX3.out)), keep4 HBP.out HCK.out⟩ (fun hHeld => ?_)
                    clear hK1
                    try simp only [Act.put, List.setIfInBounds_toArray, List.set_cons_zero, List.set_cons_succ, List.getElem_toArray, List.getElem_cons_succ, List.getElem_cons_zero]
                    refine wpAnyH_take (i := 11) (v := ?_) rfl (by kernel_rfl) (by kernel_rfl) (by kernel_rfl) (fun _ _ _ h => h) (Or.inl ⟨by rfl, ?_⟩) hHeld ?_
                    rotate_left
                    · (intro W hSw; (try dsimp only at hSw); go_simp; try with_reducible rfl)
                    try simp only [Act.put, List.setIfInBounds_toArray, List.set_cons_zero, List.set_cons_succ, List.getElem_toArray, List.getElem_cons_succ, List.getElem_cons_zero]
                    refine wpAnyH_done (by kernel_rfl) ?_ _
                    try simp only [Act.put, List.setIfInBounds_toArray, List.set_cons_zero, List.set_cons_succ, List.getElem_toArray, List.getElem_cons_succ, List.getElem_cons_zero]
                    go_wp2_with fail
                    go_meet
                    exact ⟨_, Z, rfl, rfl, HNP.out, HZP.out, HBP.out⟩
                case rest =>
                  obtain ⟨bz, Z, rfl, rfl, hNZ, hIZ, hBC⟩ := hcut
                  have HNZ := Lib.hid hNZ
                  have HIZ := Lib.hid hIZ
                  have HBC := Lib.hid hBC
                  have HNXC := Lib.hid (Below.keep hBC HNX3.out (lt_of_block HNX3.out))
                  have HCVC := Lib.hid (keep4 hBC HCVV.out)
                  have HIVC := Lib.hid (HIV.out.below hBC)
                  have HEC := Lib.hid ((HE15.out.below HB3.out).below hBC)
                  have HKXC := Lib.hid (HKX.out.below hBC)
                  clear hNZ hIZ hBC HIV HCK HCVV HIK HFC HNX3 HX3 HKX
                  obtain ⟨i3p, hi3p⟩ : ∃ i3p : Nat, i3p = i3 + 1 := ⟨_, rfl⟩
                  rw [← hi3p] at HCVC
                  have HIP3 : Hid (i3p < pn) := Lib.hid (by have := HPN.out; omega)
                  have HI3A : Hid ((i3 : Int) + 1 = (i3p : Int) ∧ (-9223372036854775808 : Int) ≤ (i3p : Int) ∧ (i3p : Int) ≤ 9223372036854775807) := Lib.hid (by omega)
                  have HNEQ : Hid (((X.ni : Int) != (pn : Int)) = false) := Lib.hid (by rw [HNI.out]; simp)
                  have hwi3 : IntKind.i64.wrap ((i3 : Int) + 2) = ((i3 + 2 : Nat) : Int) := by rw [IntWalk.i64_in _ (by omega)]; omega
                  have HPL := Lib.hid hpl1
                  clear hi3p
                  by_cases h0 : 0 < i3
                  · have HGT : Hid (decide ((0 : Int) < (i3 : Int)) = true) := Lib.hid (decide_eq_true (by omega))
                    obtain ⟨hk1, hk2, hlt9⟩ := HCMP.out h0
                    obtain ⟨bm, om, M1, em, _, cm1, hm1⟩ := HKXC.out.2.2 (i3 - 2) hk1
                    obtain ⟨bm', om', M2, em', _, cm2, hm2⟩ := HKXC.out.2.2 i3 hk2
                    have em2 := em.symm.trans em'
                    cases em2
                    have HXAI := Lib.hid em
                    generalize x.kids[i3 - 2] = kA at *
                    generalize x.kids[i3] = kB at *
                    obtain ⟨i3m, hi3m⟩ : ∃ i3m : Nat, i3m = i3 - 2 := ⟨_, rfl⟩
                    rw [← hi3m] at cm1
                    have HCM1 := Lib.hid cm1
                    have HCM2 := Lib.hid cm2
                    have HM1 := Lib.hid hm1
                    have HM2' := Lib.hid hm2
                    have HI3M : Hid ((i3 : Int) - 2 = (i3m : Int) ∧ (-9223372036854775808 : Int) ≤ (i3m : Int) ∧ (i3m : Int) ≤ 9223372036854775807) := Lib.hid (by have := HI3.out; omega)
                    have HIL : Hid (i3m < X.ni ∧ i3 < X.ni) := Lib.hid (by have := HNI.out; omega)
                    have HGE : Hid (decide ((0 : Int) ≤ It.cmpI kA kB) = false) := Lib.hid (decide_eq_false (by omega))
                    clear hk1 hk2 hlt9 em em' cm1 cm2 hm1 hm2 hi3m HCMP
                    go_upto_region 22 with fail
                    refine region_q (M := 39) [.eq (.bool true), .eq (.bool false), .eq (.bool false), .it val, .eq (.slice (some ⟨bK, oK, none⟩) pn pc), .eq (.int .i64 (i3 : Int)), .eq (.int .i64 (i3p : Int)), .eq (.pointer (some ⟨bK, oK + i3p * 4, none⟩)), .it val, .eq (.bool true), .eq (.bool false), .eq (.bool false), .eq (.bool false), .eq (.pointer (some ⟨bx, 3, none⟩)), .eq (.slice X.ai X.ni X.ci), .eq (.int .i64 (X.ni : Int)), .eq (.slice (some ⟨bK, oK, none⟩) pn pc), .eq (.int .i64 (pn : Int)), .eq (.bool false), .eq (.bool false), .eq (.bool false), .eq (.int .i64 (i3 : Int)), .eq (.bool true), .eq (.bool true), .eq (.pointer (some ⟨bx, 3, none⟩)), .eq (.slice (some ⟨bm, om, none⟩) X.ni X.ci), .eq (.int .i64 (i3 : Int)), .eq (.int .i64 (i3m : Int)), .eq (.pointer (some ⟨bm, om + i3m * 4, none⟩)), .it kA, .eq (.pointer (some ⟨bx, 3, none⟩)), .eq (.slice (some ⟨bm, om, none⟩) X.ni X.ci), .eq (.int .i64 (i3 : Int)), .eq (.pointer (some ⟨bm, om + i3 * 4, none⟩)), .it kB, .eq (.int .i64 (It.cmpI kA kB)), .eq (.bool false), .eq (.bool false), .eq (.bool false)] (by kernel_rfl) (by kernel_rfl) ?_ ?_
                    · refine ⟨fun vs W hR _ hd => ?_, fun vs W hR _ hd => ?_, fun vs W hR _ hd => ?_, fun vs W hR _ hd => ?_, fun vs W hR _ hd => ?_, fun vs W hR _ hd => ?_, fun vs W hR _ hd => ?_, fun vs W hR _ hd => ?_, fun vs W hR _ hd => ?_, fun vs W hR _ hd => ?_, fun vs W hR _ hd => ?_, fun vs W hR _ hd => ?_, fun vs W hR _ hd => ?_, fun vs W hR _ hd => ?_, fun vs W hR _ hd => ?_, fun vs W hR _ hd => ?_, fun vs W hR _ hd => ?_, fun vs W hR _ hd => ?_, fun vs W hR _ hd => ?_, fun vs W hR _ hd => ?_, fun vs W hR _ hd => ?_, fun vs W hR _ hd => ?_, fun vs W hR _ hd => ?_, fun vs W hR _ hd => ?_, fun vs W hR _ hd => ?_, fun vs W hR _ hd => ?_, fun vs W hR _ hd => ?_, fun vs W hR _ hd => ?_, fun vs W hR _ hd => ?_, fun vs W hR _ hd => ?_, fun vs W hR _ hd => ?_, fun vs W hR _ hd => ?_, fun vs W hR _ hd => ?_, fun vs W hR _ hd => ?_, fun vs W hR _ hd => ?_, fun vs W hR _ hd => ?_, fun vs W hR _ hd => ?_, fun vs W hR _ hd => ?_, fun vs W hR _ hd => ?_, trivial⟩
                      · exact Rg.Does.move (.tmp 17) rfl ⟨RB.refl _, trivial, (show _ = _ by kernel_rfl)⟩
                      · exact does_not (.tmp 103) true rfl (hd 0 (by decide))
                      · exact Rg.Does.move (.tmp 104) rfl ⟨RB.refl _, trivial, (hd 1 (by decide))⟩
                      · exact ⟨fun _ => does_loadI (.tmp 16) bz val _ rfl (by kernel_rfl) (Below.keep hR HNZ.out (lt_of_block HNZ.out)) (HIZ.out.below hR), fun h => absurd (hd 2 (by decide)) h⟩
                      · exact ⟨fun _ => Rg.Does.move (.tmp 6) rfl ⟨RB.refl _, trivial, (show _ = _ by kernel_rfl)⟩, fun h => absurd (hd 2 (by decide)) h⟩
                      · exact ⟨fun _ => Rg.Does.move (.tmp 15) rfl ⟨RB.refl _, trivial, (show _ = _ by kernel_rfl)⟩, fun h => absurd (hd 2 (by decide)) h⟩
                      · exact ⟨fun _ => does_add3 (.tmp 108) (.const (.int .i64 1)) (i3 : Int) 1 (i3p : Int) rfl (hd 5 (by decide)) (show _ = _ by kernel_rfl) HI3A.out.1 HI3A.out.2.1 HI3A.out.2.2, fun h => absurd (hd 2 (by decide)) h⟩
                      · exact ⟨fun _ => does_index24 (.tmp 107) (.tmp 109) bK oK pn pc i3p HIP3.out rfl (hd 4 (by decide)) (hd 6 (by decide)), fun h => absurd (hd 2 (by decide)) h⟩
                      · exact ⟨fun _ => does_loadA (.tmp 110) bK (oK + i3p * 4) val V1 rfl (hd 7 (by decide)) (keep4 hR HCVC.out).1 (keep4 hR HCVC.out).2.1 (keep4 hR HCVC.out).2.2.1 (keep4 hR HCVC.out).2.2.2 (HIVC.out.below hR), fun h => absurd (hd 2 (by decide)) h⟩
                      · exact ⟨fun _ => does_q (vals := #[vs 3, vs 8]) 30 (.func 30) #[.tmp 106, .tmp 111] _ rfl (by kernel_rfl) (by kernel_rfl) (cfq 30 _ Tryz.func30 (by kernel_rfl) (by kernel_rfl) _) (q_same_self (hd 3 (by decide)) (hd 8 (by decide))), fun h => absurd (hd 2 (by decide)) h⟩
                      · exact ⟨fun _ => does_not (.tmp 112) true rfl (hd 9 (by decide)), fun h => absurd (hd 2 (by decide)) h⟩
                      · exact does_pick_f (.tmp 105) (.const (.bool true)) (.tmp 113) rfl (hd 2 (by decide)) (hd 10 (by decide))
                      · exact Rg.Does.move (.tmp 114) rfl ⟨RB.refl _, trivial, (hd 11 (by decide))⟩
                      · exact ⟨fun _ => does_field3 (.tmp 11) bx rfl (by kernel_rfl), fun h => absurd (hd 12 (by decide)) h⟩
                      · exact ⟨fun _ => does_load24 (.tmp 116) bx 3 X.ai X.ni X.ci rfl (hd 13 (by decide)) (cell_of4 (Below.keep hR HNXC.out (lt_of_block HNXC.out))).2.2.2, fun h => absurd (hd 12 (by decide)) h⟩
                      · exact ⟨fun _ => does_len (.tmp 117) 24 26 Tryz.underlying24 X.ai X.ni X.ci rfl (hd 14 (by decide)), fun h => absurd (hd 12 (by decide)) h⟩
                      · exact ⟨fun _ => Rg.Does.move (.tmp 6) rfl ⟨RB.refl _, trivial, (show _ = _ by kernel_rfl)⟩, fun h => absurd (hd 12 (by decide)) h⟩
                      · exact ⟨fun _ => does_len (.tmp 119) 24 26 Tryz.underlying24 (some ⟨bK, oK, none⟩) pn pc rfl (hd 16 (by decide)), fun h => absurd (hd 12 (by decide)) h⟩
                      · exact ⟨fun _ => does_neq3 (.tmp 118) (.tmp 120) (X.ni : Int) (pn : Int) false rfl (hd 15 (by decide)) (hd 17 (by decide)) HNEQ.out, fun h => absurd (hd 12 (by decide)) h⟩
                      · exact does_pick_f (.tmp 115) (.const (.bool true)) (.tmp 121) rfl (hd 12 (by decide)) (hd 18 (by decide))
                      · exact Rg.Does.move (.tmp 122) rfl ⟨RB.refl _, trivial, (hd 19 (by decide))⟩
                      · exact ⟨fun _ => Rg.Does.move (.tmp 15) rfl ⟨RB.refl _, trivial, (show _ = _ by kernel_rfl)⟩, fun h => absurd (hd 20 (by decide)) h⟩
                      · exact ⟨fun _ => does_gtr3 (.tmp 124) (.const (.int .i64 0)) (i3 : Int) 0 true rfl (hd 21 (by decide)) (show _ = _ by kernel_rfl) HGT.out, fun h => absurd (hd 20 (by decide)) h⟩
                      · exact ⟨fun _ => Rg.Does.move (.tmp 125) rfl ⟨RB.refl _, trivial, (hd 22 (by decide))⟩, fun h => absurd (hd 20 (by decide)) h⟩
                      · exact ⟨fun _ => does_field3 (.tmp 11) bx rfl (by kernel_rfl), fun h => absurd (hd 23 (by decide)) h⟩
                      · exact ⟨fun _ => does_load24 (.tmp 127) bx 3 (some ⟨bm, om, none⟩) X.ni X.ci rfl (hd 24 (by decide)) (by rw [← HXAI.out]; exact (cell_of4 (Below.keep hR HNXC.out (lt_of_block HNXC.out))).2.2.2), fun h => absurd (hd 23 (by decide)) h⟩
                      · exact ⟨fun _ => Rg.Does.move (.tmp 15) rfl ⟨RB.refl _, trivial, (show _ = _ by kernel_rfl)⟩, fun h => absurd (hd 23 (by decide)) h⟩
                      · exact ⟨fun _ => does_sub3 (.tmp 129) (.const (.int .i64 2)) (i3 : Int) 2 (i3m : Int) rfl (hd 26 (by decide)) (show _ = _ by kernel_rfl) HI3M.out.1 HI3M.out.2.1 HI3M.out.2.2, fun h => absurd (hd 23 (by decide)) h⟩
                      · exact ⟨fun _ => does_index24 (.tmp 128) (.tmp 130) bm om X.ni X.ci i3m HIL.out.1 rfl (hd 25 (by decide)) (hd 27 (by decide)), fun h => absurd (hd 23 (by decide)) h⟩
                      · exact ⟨fun _ => does_loadA (.tmp 131) bm (om + i3m * 4) kA M1 rfl (hd 28 (by decide)) (keep4 hR HCM1.out).1 (keep4 hR HCM1.out).2.1 (keep4 hR HCM1.out).2.2.1 (keep4 hR HCM1.out).2.2.2 (HM1.out.below hR), fun h => absurd (hd 23 (by decide)) h⟩
                      · exact ⟨fun _ => does_field3 (.tmp 11) bx rfl (by kernel_rfl), fun h => absurd (hd 23 (by decide)) h⟩
                      · exact ⟨fun _ => does_load24 (.tmp 133) bx 3 (some ⟨bm, om, none⟩) X.ni X.ci rfl (hd 30 (by decide)) (by rw [← HXAI.out]; exact (cell_of4 (Below.keep hR HNXC.out (lt_of_block HNXC.out))).2.2.2), fun h => absurd (hd 23 (by decide)) h⟩
                      · exact ⟨fun _ => Rg.Does.move (.tmp 15) rfl ⟨RB.refl _, trivial, (show _ = _ by kernel_rfl)⟩, fun h => absurd (hd 23 (by decide)) h⟩
                      · exact ⟨fun _ => does_index24 (.tmp 134) (.tmp 135) bm om X.ni X.ci i3 HIL.out.2 rfl (hd 31 (by decide)) (hd 32 (by decide)), fun h => absurd (hd 23 (by decide)) h⟩
                      · exact ⟨fun _ => does_loadA (.tmp 136) bm (om + i3 * 4) kB M2 rfl (hd 33 (by decide)) (keep4 hR HCM2.out).1 (keep4 hR HCM2.out).2.1 (keep4 hR HCM2.out).2.2.1 (keep4 hR HCM2.out).2.2.2 (HM2'.out.below hR), fun h => absurd (hd 23 (by decide)) h⟩
                      · exact ⟨fun _ => does_q (vals := #[vs 29, vs 34]) 65 (.func 65) #[.tmp 132, .tmp 137] _ rfl (by kernel_rfl) (by kernel_rfl) (cfq 65 _ Tryz.func65 (by kernel_rfl) (by kernel_rfl) _) (q_ccmp (HEC.out.below hR) (hd 29 (by decide)) (hd 34 (by decide))), fun h => absurd (hd 23 (by decide)) h⟩
                      · exact ⟨fun _ => does_geq3 (.tmp 138) (.const (.int .i64 0)) (It.cmpI kA kB) 0 false rfl (hd 35 (by decide)) (show _ = _ by kernel_rfl) HGE.out, fun h => absurd (hd 23 (by decide)) h⟩
                      · exact ⟨fun _ => does_pick_t (.tmp 126) (.tmp 139) (.const (.bool false)) rfl (hd 23 (by decide)) (hd 36 (by decide)), fun h => absurd (hd 20 (by decide)) h⟩
                      · exact does_pick_f (.tmp 123) (.const (.bool true)) (.tmp 140) rfl (hd 20 (by decide)) (hd 37 (by decide))
                    · intro vs W1 hR1 _ hf
                      have e38 : vs 38 = .bool false := hf 38 (by decide)
                      simp only [Rg.putAll, Rg.putFrom, List.take_succ_cons, List.take_zero, List.drop_succ_cons, List.drop_zero, Act.put, List.setIfInBounds_toArray, List.set_cons_zero, List.set_cons_succ, e38]
                      clear e38 hf
                      have HW := Lib.hid (HB3.out.trans ((HBC.out.trans (hR1.mono HBC.out.size)).mono HB3.out.size))
                      clear hR1
                      go_wp2_with fail
                      go_roundw
                      case rel => exact ⟨j3 + 1, i3 + 2, rfl, by have := HI3.out; omega, by have := HPQ.out; have := HI3.out; have := HPN.out; have := HPL.out; omega, HW.out⟩
                      case measure => simp [intOf]; omega
                  · have HGT : Hid (decide ((0 : Int) < (i3 : Int)) = false) := Lib.hid (decide_eq_false (by omega))
                    go_upto_region 22 with fail
                    refine region_q (M := 39) [.eq (.bool true), .eq (.bool false), .eq (.bool false), .it val, .eq (.slice (some ⟨bK, oK, none⟩) pn pc), .eq (.int .i64 (i3 : Int)), .eq (.int .i64 (i3p : Int)), .eq (.pointer (some ⟨bK, oK + i3p * 4, none⟩)), .it val, .eq (.bool true), .eq (.bool false), .eq (.bool false), .eq (.bool false), .eq (.pointer (some ⟨bx, 3, none⟩)), .eq (.slice X.ai X.ni X.ci), .eq (.int .i64 (X.ni : Int)), .eq (.slice (some ⟨bK, oK, none⟩) pn pc), .eq (.int .i64 (pn : Int)), .eq (.bool false), .eq (.bool false), .eq (.bool false), .eq (.int .i64 (i3 : Int)), .eq (.bool false), .eq (.bool false), .any, .any, .any, .any, .any, .any, .any, .any, .any, .any, .any, .any, .any, .eq (.bool false), .eq (.bool false)] (by kernel_rfl) (by kernel_rfl) ?_ ?_
                    · refine ⟨fun vs W hR _ hd => ?_, fun vs W hR _ hd => ?_, fun vs W hR _ hd => ?_, fun vs W hR _ hd => ?_, fun vs W hR _ hd => ?_, fun vs W hR _ hd => ?_, fun vs W hR _ hd => ?_, fun vs W hR _ hd => ?_, fun vs W hR _ hd => ?_, fun vs W hR _ hd => ?_, fun vs W hR _ hd => ?_, fun vs W hR _ hd => ?_, fun vs W hR _ hd => ?_, fun vs W hR _ hd => ?_, fun vs W hR _ hd => ?_, fun vs W hR _ hd => ?_, fun vs W hR _ hd => ?_, fun vs W hR _ hd => ?_, fun vs W hR _ hd => ?_, fun vs W hR _ hd => ?_, fun vs W hR _ hd => ?_, fun vs W hR _ hd => ?_, fun vs W hR _ hd => ?_, fun vs W hR _ hd => ?_, fun vs W hR _ hd => ?_, fun vs W hR _ hd => ?_, fun vs W hR _ hd => ?_, fun vs W hR _ hd => ?_, fun vs W hR _ hd => ?_, fun vs W hR _ hd => ?_, fun vs W hR _ hd => ?_, fun vs W hR _ hd => ?_, fun vs W hR _ hd => ?_, fun vs W hR _ hd => ?_, fun vs W hR _ hd => ?_, fun vs W hR _ hd => ?_, fun vs W hR _ hd => ?_, fun vs W hR _ hd => ?_, fun vs W hR _ hd => ?_, trivial⟩
                      · exact Rg.Does.move (.tmp 17) rfl ⟨RB.refl _, trivial, (show _ = _ by kernel_rfl)⟩
                      · exact does_not (.tmp 103) true rfl (hd 0 (by decide))
                      · exact Rg.Does.move (.tmp 104) rfl ⟨RB.refl _, trivial, (hd 1 (by decide))⟩
                      · exact ⟨fun _ => does_loadI (.tmp 16) bz val _ rfl (by kernel_rfl) (Below.keep hR HNZ.out (lt_of_block HNZ.out)) (HIZ.out.below hR), fun h => absurd (hd 2 (by decide)) h⟩
                      · exact ⟨fun _ => Rg.Does.move (.tmp 6) rfl ⟨RB.refl _, trivial, (show _ = _ by kernel_rfl)⟩, fun h => absurd (hd 2 (by decide)) h⟩
                      · exact ⟨fun _ => Rg.Does.move (.tmp 15) rfl ⟨RB.refl _, trivial, (show _ = _ by kernel_rfl)⟩, fun h => absurd (hd 2 (by decide)) h⟩
                      · exact ⟨fun _ => does_add3 (.tmp 108) (.const (.int .i64 1)) (i3 : Int) 1 (i3p : Int) rfl (hd 5 (by decide)) (show _ = _ by kernel_rfl) HI3A.out.1 HI3A.out.2.1 HI3A.out.2.2, fun h => absurd (hd 2 (by decide)) h⟩
                      · exact ⟨fun _ => does_index24 (.tmp 107) (.tmp 109) bK oK pn pc i3p HIP3.out rfl (hd 4 (by decide)) (hd 6 (by decide)), fun h => absurd (hd 2 (by decide)) h⟩
                      · exact ⟨fun _ => does_loadA (.tmp 110) bK (oK + i3p * 4) val V1 rfl (hd 7 (by decide)) (keep4 hR HCVC.out).1 (keep4 hR HCVC.out).2.1 (keep4 hR HCVC.out).2.2.1 (keep4 hR HCVC.out).2.2.2 (HIVC.out.below hR), fun h => absurd (hd 2 (by decide)) h⟩
                      · exact ⟨fun _ => does_q (vals := #[vs 3, vs 8]) 30 (.func 30) #[.tmp 106, .tmp 111] _ rfl (by kernel_rfl) (by kernel_rfl) (cfq 30 _ Tryz.func30 (by kernel_rfl) (by kernel_rfl) _) (q_same_self (hd 3 (by decide)) (hd 8 (by decide))), fun h => absurd (hd 2 (by decide)) h⟩
                      · exact ⟨fun _ => does_not (.tmp 112) true rfl (hd 9 (by decide)), fun h => absurd (hd 2 (by decide)) h⟩
                      · exact does_pick_f (.tmp 105) (.const (.bool true)) (.tmp 113) rfl (hd 2 (by decide)) (hd 10 (by decide))
                      · exact Rg.Does.move (.tmp 114) rfl ⟨RB.refl _, trivial, (hd 11 (by decide))⟩
                      · exact ⟨fun _ => does_field3 (.tmp 11) bx rfl (by kernel_rfl), fun h => absurd (hd 12 (by decide)) h⟩
                      · exact ⟨fun _ => does_load24 (.tmp 116) bx 3 X.ai X.ni X.ci rfl (hd 13 (by decide)) (cell_of4 (Below.keep hR HNXC.out (lt_of_block HNXC.out))).2.2.2, fun h => absurd (hd 12 (by decide)) h⟩
                      · exact ⟨fun _ => does_len (.tmp 117) 24 26 Tryz.underlying24 X.ai X.ni X.ci rfl (hd 14 (by decide)), fun h => absurd (hd 12 (by decide)) h⟩
                      · exact ⟨fun _ => Rg.Does.move (.tmp 6) rfl ⟨RB.refl _, trivial, (show _ = _ by kernel_rfl)⟩, fun h => absurd (hd 12 (by decide)) h⟩
                      · exact ⟨fun _ => does_len (.tmp 119) 24 26 Tryz.underlying24 (some ⟨bK, oK, none⟩) pn pc rfl (hd 16 (by decide)), fun h => absurd (hd 12 (by decide)) h⟩
                      · exact ⟨fun _ => does_neq3 (.tmp 118) (.tmp 120) (X.ni : Int) (pn : Int) false rfl (hd 15 (by decide)) (hd 17 (by decide)) HNEQ.out, fun h => absurd (hd 12 (by decide)) h⟩
                      · exact does_pick_f (.tmp 115) (.const (.bool true)) (.tmp 121) rfl (hd 12 (by decide)) (hd 18 (by decide))
                      · exact Rg.Does.move (.tmp 122) rfl ⟨RB.refl _, trivial, (hd 19 (by decide))⟩
                      · exact ⟨fun _ => Rg.Does.move (.tmp 15) rfl ⟨RB.refl _, trivial, (show _ = _ by kernel_rfl)⟩, fun h => absurd (hd 20 (by decide)) h⟩
                      · exact ⟨fun _ => does_gtr3 (.tmp 124) (.const (.int .i64 0)) (i3 : Int) 0 false rfl (hd 21 (by decide)) (show _ = _ by kernel_rfl) HGT.out, fun h => absurd (hd 20 (by decide)) h⟩
                      · exact ⟨fun _ => Rg.Does.move (.tmp 125) rfl ⟨RB.refl _, trivial, (hd 22 (by decide))⟩, fun h => absurd (hd 20 (by decide)) h⟩
                      · exact ⟨fun h => by have e := h.symm.trans (hd 23 (by decide)); simp at e, fun _ => trivial⟩
                      · exact ⟨fun h => by have e := h.symm.trans (hd 23 (by decide)); simp at e, fun _ => trivial⟩
                      · exact ⟨fun h => by have e := h.symm.trans (hd 23 (by decide)); simp at e, fun _ => trivial⟩
                      · exact ⟨fun h => by have e := h.symm.trans (hd 23 (by decide)); simp at e, fun _ => trivial⟩
                      · exact ⟨fun h => by have e := h.symm.trans (hd 23 (by decide)); simp at e, fun _ => trivial⟩
                      · exact ⟨fun h => by have e := h.symm.trans (hd 23 (by decide)); simp at e, fun _ => trivial⟩
                      · exact ⟨fun h => by have e := h.symm.trans (hd 23 (by decide)); simp at e, fun _ => trivial⟩
                      · exact ⟨fun h => by have e := h.symm.trans (hd 23 (by decide)); simp at e, fun _ => trivial⟩
                      · exact ⟨fun h => by have e := h.symm.trans (hd 23 (by decide)); simp at e, fun _ => trivial⟩
                      · exact ⟨fun h => by have e := h.symm.trans (hd 23 (by decide)); simp at e, fun _ => trivial⟩
                      · exact ⟨fun h => by have e := h.symm.trans (hd 23 (by decide)); simp at e, fun _ => trivial⟩
                      · exact ⟨fun h => by have e := h.symm.trans (hd 23 (by decide)); simp at e, fun _ => trivial⟩
                      · exact ⟨fun h => by have e := h.symm.trans (hd 23 (by decide)); simp at e, fun _ => trivial⟩
                      · exact ⟨fun _ => does_pick_f (.tmp 126) (.tmp 139) (.const (.bool false)) rfl (hd 23 (by decide)) (show _ = _ by kernel_rfl), fun h => absurd (hd 20 (by decide)) h⟩
                      · exact does_pick_f (.tmp 123) (.const (.bool true)) (.tmp 140) rfl (hd 20 (by decide)) (hd 37 (by decide))
                    · intro vs W1 hR1 _ hf
                      have e38 : vs 38 = .bool false := hf 38 (by decide)
                      simp only [Rg.putAll, Rg.putFrom, List.take_succ_cons, List.take_zero, List.drop_succ_cons, List.drop_zero, Act.put, List.setIfInBounds_toArray, List.set_cons_zero, List.set_cons_succ, e38]
                      clear e38 hf
                      have HW := Lib.hid (HB3.out.trans ((HBC.out.trans (hR1.mono HBC.out.size)).mono HB3.out.size))
                      clear hR1
                      go_wp2_with fail
                      go_roundw
                      case rel => exact ⟨j3 + 1, i3 + 2, rfl, by have := HI3.out; omega, by have := HPQ.out; have := HI3.out; have := HPN.out; have := HPL.out; omega, HW.out⟩
                      case measure => simp [intOf]; omega

              · have hjz3 : ¬ (i3 : Int) < (pn : Int) := by omega
                have HNX3 := Lib.hid (Below.keep HB3.out HNX15.out (lt_of_block HNX15.out))
                have HP3 := Lib.hid (HP15.out.trans (HB3.out.mono (by have := HP15.out.size; omega)))
                have HCV := Lib.hid (cvalid_any x X u3 _ (HX15.out.below HB3.out) (HE15.out.below HB3.out) true HVX.out)
                have HE3 := Lib.hid (HE15.out.below HB3.out)
                obtain ⟨x0, x1, x2, x3⟩ := cell_of4 HNX3.out
                clear HNX15 HX15 HE15 HTP15
                go_wp2_with fail
                refine HCV.out.mono ?_
                rintro e w16 ⟨rfl, hB16⟩
                have HCA := Lib.hid (awake_any w16 (HE3.out.below hB16))
                have HB16 := Lib.hid hB16
                clear hB16 HCV x0 x1 x2 x3
                go_wp2_with fail
                refine HCA.out.mono ?_
                rintro e w17 ⟨rfl, hB17⟩
                have HPE := Lib.hid (HP3.out.trans ((pure_trans HB16.out hB17).mono (by have := HP3.out.size; omega)))
                clear hB17 HCA
                go_wp2_with fail
                go_ret
                exact ⟨rfl, hb ▸ HPE.out⟩
end Go.Proofs.YtelefkkkccilaaaGreatDoor
