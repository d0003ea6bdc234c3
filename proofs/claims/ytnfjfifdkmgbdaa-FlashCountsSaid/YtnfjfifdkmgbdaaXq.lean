/- The walk of coresecmake2.Flash. -/
import Derived.Test.YtnfjfifdkmgbdaaXp
namespace Go.Proofs.Ytnfjfifdkmgbdaa
open Go.RowKit Go.Shelf
def MkPost (bd : Nat) (w : World) (e : Ending) (w' : World) : Prop := ∃ (sz' : Int) (pa' : Option Addr) (pn' pc' : Nat) (ea' : Option Addr) (en' ec' : Nat) (m : Fl.Mem),
  e = .returned (.agg #[.int .i64 sz', .slice pa' pn' pc', .slice ea' en' ec']) ∧ FRep w' sz' pa' pn' ea' en' m ∧ Fl.validP m = true ∧ But bd w w'
structure FSe (w : World) (bd R X : Nat) (sz : Int) (pa : Option Addr) (pn pc : Nat) (ea : Option Addr) (en ec : Nat) (m : Fl.Mem) (W : World) : Prop where
  box : W.heap[X]? = some (.cells #[.int .i64 sz, .slice pa pn pc, .slice ea en ec] 32 (0, 0))
  away : FAway (fun k => k = X ∨ k = bd ∨ k = R) W sz pa pn ea en m
  deck : Deck W bd
  but : But bd w W
  res : W.heap[R]? = some (.cells #[.int .i64 0, .slice none 0 0, .slice none 0 0] 32 (0, 0))
section
variable {w : World} {bd R X : Nat} {sz : Int} {pa : Option Addr} {pn pc : Nat} {ea : Option Addr} {en ec : Nat} {m : Fl.Mem} {W w' : World}
theorem FSe.cells (h : FSe w bd R X sz pa pn pc ea en ec m W) : W.cell? ⟨X, 0, none⟩ = some (.int .i64 sz) ∧ W.cell? ⟨X, 1, none⟩ = some (.slice pa pn pc) ∧ W.cell? ⟨X, 2, none⟩ = some (.slice ea en ec) := by
  have c0 := cell_of_arr h.box 0
  have c1 := cell_of_arr h.box 1
  have c2 := cell_of_arr h.box 2
  simp at c0 c1 c2
  exact ⟨c0, c1, c2⟩
theorem FSe.pure (h : FSe w bd R X sz pa pn pc ea en ec m W) (k : Below W.heap.size W w') : FSe w bd R X sz pa pn pc ea en ec m w' :=
  ⟨Below.keep k h.box (lt_of_block h.box), h.away.pure k, h.deck.below k, h.but.trans (But.of_below k), Below.keep k h.res (lt_of_block h.res)⟩
theorem FSe.next (h : FSe w bd R X sz pa pn pc ea en ec m W) (hd : Deck w' bd) (hb : But bd W w') (hX : X ≠ bd) (hR : R ≠ bd) : FSe w bd R X sz pa pn pc ea en ec m w' :=
  ⟨(hb.block _ (lt_of_block h.box) hX).trans h.box, h.away.on hb.size (fun k k2 k3 => hb.block k k3 (fun e => k2 (.inr (.inl e)))) (fun _ h => .inl h), hd, h.but.trans hb, (hb.block _ (lt_of_block h.res) hR).trans h.res⟩
/-- Another variable is written. -/
theorem FSe.var (h : FSe w bd R X sz pa pn pc ea en ec m W) {Y : Nat} (S2 : ∀ k, k ≠ Y → w'.heap[k]? = W.heap[k]?) (S3 : ∀ (n : Nat) (u : World), n ≤ Y → Below n u W → Below n u w') (hX : Y ≠ X) (hd : Y ≠ bd) (hR : Y ≠ R) (hw : w.heap.size ≤ Y) (hbY : bd < Y) (ha : FAway (fun k => (k = X ∨ k = bd ∨ k = R) ∨ k = Y) W sz pa pn ea en m) : FSe w bd R X sz pa pn pc ea en ec m w' := by
  have B := S3 0 W (Nat.zero_le _) (Below.refl _ _)
  exact ⟨(S2 _ (Ne.symm hX)).trans h.box, ha.on B.size (fun k hb _ => S2 k (fun e => hb (.inr e))) (fun _ h => .inl (.inl h)), h.deck.keep (fun j hj => S2 j (by omega)), ⟨B.os.trans h.but.os, B.tape.trans h.but.tape, B.output.trans h.but.output, Nat.le_trans h.but.size B.size, fun j hj hjb => (S2 j (by omega)).trans (h.but.block j hj hjb)⟩, (S2 _ (Ne.symm hR)).trans h.res⟩
end
theorem FSt.next {w : World} {bd R X : Nat} {W W' : World} (h : FSt w bd R X W) (hd : Deck W' bd) (hb : But bd W W') (hX : X ≠ bd) (hR : R ≠ bd) : FSt w bd R X W' := by
  obtain ⟨sz, pa, pn, pc, ea, en, ec, m, h1, h2, h3, h4, h5, h6⟩ := h
  exact ⟨sz, pa, pn, pc, ea, en, ec, m, (hb.block _ (lt_of_block h1) hX).trans h1, h2.on hb.size (fun k k2 k3 => hb.block k k3 (fun e => k2 (.inr (.inl e)))) (fun _ h => .inl h), h3, hd, h5.trans hb, (hb.block _ (lt_of_block h6) hR).trans h6⟩
theorem putP_zero {m : Fl.Mem} {key v : Int} (h : (Fl.putP m key v).2 = 0) : (stepsRes m key v).2 = 0 := by
  unfold Fl.putP at h
  by_cases he : (stepsRes m key v).2 = 0
  · exact he
  · rw [if_pos he] at h; exact h
set_option maxHeartbeats 1600000 in
theorem mkflash_any (bd : Nat) (w : World) (hd : Deck w bd) :
    Calls Try.prog 19 #[.pointer (some ⟨bd, 0, none⟩)] w (MkPost bd w) := by
  have P1 := pure_alloc w (.cells #[.int .i64 0, .slice none 0 0, .slice none 0 0] 32)
  have N1 := alloc_new w (.cells #[.int .i64 0, .slice none 0 0, .slice none 0 0] 32)
  have hbd := hd.lt
  go_enter Try.func19, Try.ntmps19
  go_upto_region 1 with fail
  generalize w.alloc (.cells #[.int .i64 0, .slice none 0 0, .slice none 0 0] 32) = w1 at *
  have HD1 := Lib.hid (hd.below P1)
  have HB1 := Lib.hid (But.of_below (b := bd) P1)
  have HN1 := Lib.hid N1
  have hl1 := lt_of_block N1
  clear P1 N1 hd
  go_wp2_with fail
  refine (next_any bd 3 w1 HD1.out (by omega) (by omega)).mono ?_
  rintro e w2 ⟨r1, h10, h11, rfl, hd2, hb2, hz2⟩
  have HD2 := Lib.hid hd2
  have HB2 := Lib.hid (HB1.out.trans hb2)
  have HN2 := Lib.hid ((hb2.block _ hl1 (by omega)).trans HN1.out)
  clear hd2 hb2 HD1 HB1 HN1
  go_wp2_with fail
  refine (next_any bd 2 w2 HD2.out (by omega) (by omega)).mono ?_
  rintro e w3 ⟨r2, h20, h21, rfl, hd3, hb3, hz3⟩
  have HD3 := Lib.hid hd3
  have HB3 := Lib.hid (HB2.out.trans hb3)
  have HN3 := Lib.hid ((hb3.block _ (by omega) (by omega)).trans HN2.out)
  clear hd3 hb3 HD2 HB2 HN2
  have HFM := Lib.hid (formatR_any (160 + 8 * r1) (2 + r2) w3 (by omega) (by omega) (by omega) (by omega))
  have HV := Lib.hid (format_valid (160 + 8 * r1) (2 + r2) (by omega) (by omega))
  go_wp2_with fail
  refine HFM.out.mono ?_
  rintro e w4 ⟨sz, pa, pn, pc, ea, en, ec, rfl, hF, hw4⟩
  rw [HV.out.2]
  have hv := HV.out.1
  generalize (Fl.formatP (160 + 8 * r1) (2 + r2)).1 = m0 at *
  have HF := Lib.hid hF
  have hw4s := hw4.size
  have HD4 := Lib.hid (HD3.out.below hw4)
  have HB4 := Lib.hid (HB3.out.trans (But.of_below hw4))
  have HN4 := Lib.hid (Below.keep hw4 HN3.out (lt_of_block HN3.out))
  have HV0 := Lib.hid hv
  clear hF hw4 hv HFM HV HD3 HB3 HN3
  go_upto_region 2 with fail
  have PX := pure_alloc w4 (.cells #[.int .i64 sz, .slice pa pn pc, .slice ea en ec] 32)
  have NX := alloc_new w4 (.cells #[.int .i64 sz, .slice pa pn pc, .slice ea en ec] 32)
  have HST : Hid (FSt w bd w.heap.size w4.heap.size (w4.alloc (.cells #[.int .i64 sz, .slice pa pn pc, .slice ea en ec] 32))) :=
    ⟨sz, pa, pn, pc, ea, en, ec, m0, NX, FAway.on (FAway.of_new (bad := fun k => k = w4.heap.size ∨ k = bd ∨ k = w.heap.size) HF.out (fun k hk => by omega)) PX.size (fun k _ hl => PX.block k hl) (fun _ h => .inl h), HV0.out, HD4.out.below PX, HB4.out.trans (But.of_below PX), Below.keep PX HN4.out (lt_of_block HN4.out)⟩
  have hX := lt_of_block NX
  generalize w4.alloc (.cells #[.int .i64 sz, .slice pa pn pc, .slice ea en ec] 32) = w5 at *
  have hXb : bd < w4.heap.size := by omega
  have hXR : w.heap.size < w4.heap.size := by omega
  generalize w4.heap.size = X at *
  have hRb : w.heap.size ≠ bd := by omega
  have hXd : X ≠ bd := by omega
  obtain ⟨_, _, _, _, _, _, _, _, _, _, _, hd5, _, _⟩ := HST.out
  have HD5 := Lib.hid hd5
  clear hd5 HF HD4 HB4 HN4 HV0 PX NX
  go_wp2_with fail
  refine (next_any bd 50 w5 HD5.out (by omega) (by omega)).mono ?_
  rintro e w6 ⟨r3, h30, h31, rfl, hd6, hb6, hz6⟩
  obtain ⟨k0, rfl⟩ := Int.eq_ofNat_of_zero_le h30
  have HST6 := Lib.hid (HST.out.next hd6 hb6 hXd hRb)
  clear hd6 hb6 HST HD5 hz6 hX
  go_wp2_with fail
  go_loopw [5] (fun x W => ∃ k : Nat, x = .int .i64 k ∧ k < 50 ∧ FSt w bd w.heap.size X W) (fun x _ => (intOf x).toNat)
  case atStart => exact ⟨k0, rfl, by omega, HST6.out⟩
  case round =>
    obtain ⟨k, rfl, hk, hst⟩ := hrel
    clear HST6
    by_cases hk0 : 0 < k
    · have HS := Lib.hid hst
      obtain ⟨_, _, _, _, _, _, _, _, _, _, _, hd, _, _⟩ := hst
      have HD := Lib.hid hd
      clear hd
      have hk0' : (0 : Int) < (k : Int) := by omega
      go_wp2_with fail
      refine (next_any bd 4 wr HD.out (by omega) (by omega)).mono ?_
      rintro e w7 ⟨key, k1, k2, rfl, hd7, hb7, _⟩
      have HS7 := Lib.hid (HS.out.next hd7 hb7 hXd hRb)
      have HD7 := Lib.hid hd7
      clear hd7 hb7 HS HD
      go_wp2_with fail
      refine (next_any bd 1000 w7 HD7.out (by omega) (by omega)).mono ?_
      rintro e w8 ⟨v, v1, v2, rfl, hd8, hb8, _⟩
      have HS8 := Lib.hid (HS7.out.next hd8 hb8 hXd hRb)
      have HD8 := Lib.hid hd8
      clear hd8 hb8 HS7 HD7
      go_wp2_with fail
      refine (next_any bd 9 w8 HD8.out (by omega) (by omega)).mono ?_
      rintro e w9 ⟨t, t1, t2, rfl, hd9, hb9, _⟩
      have hs9 := HS8.out.next hd9 hb9 hXd hRb
      obtain ⟨sz', pa', pn', pc', ea', en', ec', m, hXc, hoff, hval, hdk, hbut, hRc⟩ := hs9
      have HXC := Lib.hid hXc
      have HOFF := Lib.hid hoff
      have HVAL := Lib.hid hval
      have HDK := Lib.hid hdk
      have HBUT := Lib.hid hbut
      have HRC := Lib.hid hRc
      have x0 := cell_of_arr hXc 0
      have x1 := cell_of_arr hXc 1
      have x2 := cell_of_arr hXc 2
      simp at x0 x1 x2
      have hXl := lt_of_block hXc
      have hdl := hdk.lt
      clear hd9 hb9 hXc hoff hval hdk hbut hRc HS8 HD8
      by_cases ht : t = 8
      · have ht' : (t == 8) = true := by simpa using ht
        clear ht
        -- TORN
        have FS9 : FSe w bd w.heap.size X sz' pa' pn' pc' ea' en' ec' m w9 := ⟨HXC.out, HOFF.out, HDK.out, HBUT.out, HRC.out⟩
        have HFS9 := Lib.hid FS9
        clear FS9
        go_wp2_with fail
        refine (stepsR_any sz' pa' pn' pc' ea' en' ec' key v m w9 HOFF.out.rep).mono ?_
        rintro e w10 ⟨rfl, hw10⟩
        have FS0 := HFS9.out.pure hw10
        have hsn : 0 ≤ (stepsRes m key v).1 ∧ (stepsRes m key v).1 ≤ 200 := by
          have := stepsP_len m key v
          unfold stepsRes
          split
          · split <;> simp only <;> omega
          · simp
        have HTV0 : Hid (∀ k : Int, 0 ≤ k → k ≤ (stepsRes m key v).1 → (Fl.tornP m key v k).2 = 0 → Fl.validP (Fl.tornP m key v k).1 = true) := by
          show ∀ k : Int, _ → _ → _ → _
          intro k k0 k1 hz
          unfold Fl.tornP at hz ⊢
          by_cases he : (stepsRes m key v).2 = 0
          · rw [if_neg (by simpa using he), if_neg (by omega)]
            exact runs_mb he _
          · rw [if_pos he] at hz; exact absurd hz he
        generalize (stepsRes m key v).1 = sn at *
        generalize (stepsRes m key v).2 = se at *
        obtain ⟨hsn0, hsn1⟩ := hsn
        have hYX : w10.heap.size ≠ X := by have := lt_of_block FS0.box; omega
        have hYd : w10.heap.size ≠ bd := by have := FS0.deck.lt; omega
        have hYR : w10.heap.size ≠ w.heap.size := by have := lt_of_block FS0.res; omega
        have HFS0 := Lib.hid FS0
        have hXl0 := lt_of_block FS0.box
        have hdl0 := FS0.deck.lt
        clear hw10 HFS9 x0 x1 x2 HXC HOFF HDK HBUT HRC FS0
        go_upto_region 8 with fail
        go_cut [10, 11] (fun x y W => ∃ (Y : Nat) (sz2 : Int) (pa2 : Option Addr) (pn2 pc2 : Nat) (ea2 : Option Addr) (en2 ec2 : Nat) (mq : Fl.Mem) (eq : Int), x = .pointer (some ⟨Y, 0, none⟩) ∧ y = .int .i64 eq ∧ Y ≠ X ∧ Y ≠ bd ∧ Y ≠ w.heap.size ∧ FSe w bd w.heap.size X sz' pa' pn' pc' ea' en' ec' m W ∧ W.heap[Y]? = some (.cells #[.int .i64 sz2, .slice pa2 pn2 pc2, .slice ea2 en2 ec2] 32 (0, 0)) ∧ FAway (fun k => k = X ∨ k = bd ∨ k = w.heap.size) W sz2 pa2 pn2 ea2 en2 mq ∧ (eq = 0 → Fl.validP mq = true))
        case first =>
          have FS0 := HFS0.out
          have hsum : IntKind.i64.wrap (sn + 1) = sn + 1 := wrap_i64 _ (by omega) (by omega)
          refine wp_region_held_drew (S := (fun W => W.cell? ⟨X, 0, none⟩ = some (.int .i64 sz') ∧ W.cell? ⟨X, 1, none⟩ = some (.slice pa' pn' pc') ∧ W.cell? ⟨X, 2, none⟩ = some (.slice ea' en' ec'))) (by kernel_rfl) FS0.cells (fun hHeld => ?_)
          refine wpAnyH_take (i := 0) (v := ?_) rfl (by kernel_rfl) (by kernel_rfl) (by kernel_rfl) (fun _ _ _ h => h) (Or.inl ⟨by rfl, ?_⟩) hHeld ?_
          rotate_left
          · (intro W hSw; (try dsimp only at hSw); go_simp; try with_reducible rfl)
          try simp only [Act.put, List.setIfInBounds_toArray, List.set_cons_zero, List.set_cons_succ, List.getElem_toArray, List.getElem_cons_succ, List.getElem_cons_zero]
          refine wpAnyH_take (i := 1) (v := ?_) rfl (by kernel_rfl) (by kernel_rfl) (by kernel_rfl) (fun _ _ _ h => h) (Or.inl ⟨by rfl, ?_⟩) hHeld ?_
          rotate_left
          · (intro W hSw; (try dsimp only at hSw); go_simp; try with_reducible rfl)
          try simp only [Act.put, List.setIfInBounds_toArray, List.set_cons_zero, List.set_cons_succ, List.getElem_toArray, List.getElem_cons_succ, List.getElem_cons_zero]
          refine wpAnyH_take (i := 2) (v := ?_) rfl (by kernel_rfl) (by kernel_rfl) (by kernel_rfl) (fun _ _ _ h => h) (Or.inl ⟨by rfl, ?_⟩) hHeld ?_
          rotate_left
          · (intro W hSw; (try dsimp only at hSw); go_simp; try with_reducible rfl)
          try simp only [Act.put, List.setIfInBounds_toArray, List.set_cons_zero, List.set_cons_succ, List.getElem_toArray, List.getElem_cons_succ, List.getElem_cons_zero]
          refine wpAnyH_take (i := 3) (v := ?_) rfl (by kernel_rfl) (by kernel_rfl) (by kernel_rfl) (fun _ _ _ h => h) (Or.inl ⟨by rfl, ?_⟩) hHeld ?_
          rotate_left
          · (intro W hSw; (try dsimp only at hSw); go_simp; try with_reducible rfl)
          try simp only [Act.put, List.setIfInBounds_toArray, List.set_cons_zero, List.set_cons_succ, List.getElem_toArray, List.getElem_cons_succ, List.getElem_cons_zero]
          refine wpAnyH_take (i := 4) (v := ?_) rfl (by kernel_rfl) (by kernel_rfl) (by kernel_rfl) (fun _ _ _ h => h) (Or.inl ⟨by rfl, ?_⟩) hHeld ?_
          rotate_left
          · (intro W hSw; (try dsimp only at hSw); go_simp; try with_reducible rfl)
          try simp only [Act.put, List.setIfInBounds_toArray, List.set_cons_zero, List.set_cons_succ, List.getElem_toArray, List.getElem_cons_succ, List.getElem_cons_zero]
          refine wpAnyH_take (i := 5) (v := ?_) rfl (by kernel_rfl) (by kernel_rfl) (by kernel_rfl) (fun _ _ _ h => h) (Or.inl ⟨by rfl, ?_⟩) hHeld ?_
          rotate_left
          · (intro W hSw; (try dsimp only at hSw); go_simp; try with_reducible rfl)
          try simp only [Act.put, List.setIfInBounds_toArray, List.set_cons_zero, List.set_cons_succ, List.getElem_toArray, List.getElem_cons_succ, List.getElem_cons_zero]
          refine wpAnyH_ready (rs := [6, 11]) (by kernel_rfl) (by simp) ?_
          refine AllReadyH.cons rfl (fun K1 hK1 => ?_) ?_
          · have FSd := FS0.pure (w' := w10.drew) ((Below.refl _ _).drew)
            go_simp
            refine (next_any bd (sn + 1) w10.drew FSd.deck (by omega) (by omega)).mono ?_
            rintro e u1 ⟨j, j0, j1, rfl, hd1, hb1, hz1⟩
            have FS1 := FSd.next hd1 hb1 hXd hRb
            have hu1 := hb1.size
            refine hK1.out _ _ FS1.cells (fun hHeld => ?_)
            clear hK1
            try simp only [Act.put, List.setIfInBounds_toArray, List.set_cons_zero, List.set_cons_succ, List.getElem_toArray, List.getElem_cons_succ, List.getElem_cons_zero]
            refine wpAnyH_ready (rs := [7, 11]) (by kernel_rfl) (by simp) ?_
            refine AllReadyH.cons rfl (fun K1 hK1 => ?_) ?_
            · go_simp
              refine (tornR_any sz' pa' pn' pc' ea' en' ec' key v j m u1 FS1.away.rep).mono ?_
              rintro e u2 ⟨sz2, pa2, pn2, pc2, ea2, en2, ec2, rfl, hF2, hu2⟩
              have FS2 := FS1.pure hu2
              have hsu2 := hu2.size
              have hbX2 := lt_of_block FS1.box
              have hbd2 := FS1.deck.lt
              have hbR2 := lt_of_block FS1.res
              have FA2 := FAway.of_new (bad := fun k => k = X ∨ k = bd ∨ k = w.heap.size) hF2 (fun k hk => by omega)
              have HTV := HTV0.out j j0 (by omega)
              refine hK1.out _ _ FS2.cells (fun hHeld => ?_)
              clear hK1
              try simp only [Act.put, List.setIfInBounds_toArray, List.set_cons_zero, List.set_cons_succ, List.getElem_toArray, List.getElem_cons_succ, List.getElem_cons_zero]
              refine wpAnyH_take (i := 8) (v := ?_) rfl (by kernel_rfl) (by kernel_rfl) (by kernel_rfl) (fun _ _ _ h => h) (Or.inl ⟨by rfl, ?_⟩) hHeld ?_
              rotate_left
              · (intro W hSw; (try dsimp only at hSw); go_simp; try with_reducible rfl)
              try simp only [Act.put, List.setIfInBounds_toArray, List.set_cons_zero, List.set_cons_succ, List.getElem_toArray, List.getElem_cons_succ, List.getElem_cons_zero]
              refine wpAnyH_take (i := 9) (v := ?_) rfl (by kernel_rfl) (by kernel_rfl) (by kernel_rfl) (fun _ _ _ h => h) (Or.inl ⟨by rfl, ?_⟩) hHeld ?_
              rotate_left
              · (intro W hSw; (try dsimp only at hSw); go_simp; try with_reducible rfl)
              try simp only [Act.put, List.setIfInBounds_toArray, List.set_cons_zero, List.set_cons_succ, List.getElem_toArray, List.getElem_cons_succ, List.getElem_cons_zero]
              refine wpAnyH_take (i := 10) (v := ?_) rfl (by kernel_rfl) (by kernel_rfl) (by kernel_rfl) (fun _ _ _ h => h) (Or.inl ⟨by rfl, ?_⟩) hHeld ?_
              rotate_left
              · (intro W hSw; (try dsimp only at hSw); go_simp; try with_reducible rfl)
              try simp only [Act.put, List.setIfInBounds_toArray, List.set_cons_zero, List.set_cons_succ, List.getElem_toArray, List.getElem_cons_succ, List.getElem_cons_zero]
              refine wpAnyH_ready (rs := [11]) (by kernel_rfl) (by simp) ?_
              refine AllReadyH.cons rfl (fun K1 hK1 => ?_) AllReadyH.nil
              have PA := pure_alloc u2 (.cells #[.int .i64 0, .slice none 0 0, .slice none 0 0] 32)
              go_simp
              refine hK1.out _ _ (FS2.pure PA).cells (fun hHeld => ?_)
              clear hK1
              try simp only [Act.put, List.setIfInBounds_toArray, List.set_cons_zero, List.set_cons_succ, List.getElem_toArray, List.getElem_cons_succ, List.getElem_cons_zero]
              have PB := pure_alloc u2 (.cells #[.int .i64 sz2, .slice pa2 pn2 pc2, .slice ea2 en2 ec2] 32)
              refine wpAnyH_ready (rs := [12]) (by kernel_rfl) (by simp) ?_
              refine AllReadyH.cons rfl (fun K1 hK1 => ?_) AllReadyH.nil
              go_simp
              refine hK1.out _ _ (FS2.pure PB).cells (fun hHeld => ?_)
              clear hK1
              try simp only [Act.put, List.setIfInBounds_toArray, List.set_cons_zero, List.set_cons_succ, List.getElem_toArray, List.getElem_cons_succ, List.getElem_cons_zero]
              refine wpAnyH_take (i := 13) (v := ?_) rfl (by kernel_rfl) (by kernel_rfl) (by kernel_rfl) (fun _ _ _ h => h) (Or.inl ⟨by rfl, ?_⟩) hHeld ?_
              rotate_left
              · (intro W hSw; (try dsimp only at hSw); go_simp; try with_reducible rfl)
              try simp only [Act.put, List.setIfInBounds_toArray, List.set_cons_zero, List.set_cons_succ, List.getElem_toArray, List.getElem_cons_succ, List.getElem_cons_zero]
              refine wpAnyH_done (by kernel_rfl) ?_ _
              try simp only [Act.put, List.setIfInBounds_toArray, List.set_cons_zero, List.set_cons_succ, List.getElem_toArray, List.getElem_cons_succ, List.getElem_cons_zero]
              go_wp2_with fail
              go_meet
              case rel => exact ⟨u2.heap.size, sz2, pa2, pn2, pc2, ea2, en2, ec2, _, _, rfl, rfl, by omega, by omega, by omega, FS2.pure PB, alloc_new _ _, FA2.pure PB, HTV⟩
            refine AllReadyH.cons rfl (fun K1 hK1 => ?_) AllReadyH.nil
            · have PA := pure_alloc u1 (.cells #[.int .i64 0, .slice none 0 0, .slice none 0 0] 32)
              go_simp
              refine hK1.out _ _ (FS1.pure PA).cells (fun hHeld => ?_)
              clear hK1
              try simp only [Act.put, List.setIfInBounds_toArray, List.set_cons_zero, List.set_cons_succ, List.getElem_toArray, List.getElem_cons_succ, List.getElem_cons_zero]
              have YA1 := alloc_new u1 (.cells #[.int .i64 0, .slice none 0 0, .slice none 0 0] 32)
              have FSA := FS1.pure PA
              have hYe : u1.heap.size = w10.heap.size := hz1
              generalize u1.alloc (.cells #[.int .i64 0, .slice none 0 0, .slice none 0 0] 32) = uA at *
              have YA : uA.heap[w10.heap.size]? = some (.cells #[.int .i64 0, .slice none 0 0, .slice none 0 0] 32 (0, 0)) := by rw [← hYe]; exact YA1
              refine wpAnyH_ready (rs := [7]) (by kernel_rfl) (by simp) ?_
              refine AllReadyH.cons rfl (fun K1 hK1 => ?_) AllReadyH.nil
              go_simp
              refine (tornR_any sz' pa' pn' pc' ea' en' ec' key v j m uA FSA.away.rep).mono ?_
              rintro e u2 ⟨sz2, pa2, pn2, pc2, ea2, en2, ec2, rfl, hF2, hu2⟩
              have FS2 := FSA.pure hu2
              have hsu2 := hu2.size
              have hbX2 := lt_of_block FSA.box
              have hbd2 := FSA.deck.lt
              have hbR2 := lt_of_block FSA.res
              have FA2 := FAway.of_new (bad := fun k => k = X ∨ k = bd ∨ k = w.heap.size) hF2 (fun k hk => by omega)
              have HTV := HTV0.out j j0 (by omega)
              have YB := Below.keep hu2 YA (lt_of_block YA)
              have hYl := lt_of_block YA
              have FA2Y := FAway.of_new (bad := fun k => (k = X ∨ k = bd ∨ k = w.heap.size) ∨ k = w10.heap.size) hF2 (fun k hk => by omega)
              have hsA := PA.size
              have AG : ∀ k, ¬ (k = X ∨ k = bd ∨ k = w.heap.size) → k < w10.heap.size → u2.heap[k]? = w10.heap[k]? := fun k hb hl => (hu2.block k (by omega)).trans ((PA.block k (by omega)).trans (hb1.block k hl (fun e => hb (.inr (.inl e)))))
              refine hK1.out _ _ FS2.cells (fun hHeld => ?_)
              clear hK1
              try simp only [Act.put, List.setIfInBounds_toArray, List.set_cons_zero, List.set_cons_succ, List.getElem_toArray, List.getElem_cons_succ, List.getElem_cons_zero]
              refine wpAnyH_take (i := 8) (v := ?_) rfl (by kernel_rfl) (by kernel_rfl) (by kernel_rfl) (fun _ _ _ h => h) (Or.inl ⟨by rfl, ?_⟩) hHeld ?_
              rotate_left
              · (intro W hSw; (try dsimp only at hSw); go_simp; try with_reducible rfl)
              try simp only [Act.put, List.setIfInBounds_toArray, List.set_cons_zero, List.set_cons_succ, List.getElem_toArray, List.getElem_cons_succ, List.getElem_cons_zero]
              refine wpAnyH_take (i := 9) (v := ?_) rfl (by kernel_rfl) (by kernel_rfl) (by kernel_rfl) (fun _ _ _ h => h) (Or.inl ⟨by rfl, ?_⟩) hHeld ?_
              rotate_left
              · (intro W hSw; (try dsimp only at hSw); go_simp; try with_reducible rfl)
              try simp only [Act.put, List.setIfInBounds_toArray, List.set_cons_zero, List.set_cons_succ, List.getElem_toArray, List.getElem_cons_succ, List.getElem_cons_zero]
              refine wpAnyH_take (i := 10) (v := ?_) rfl (by kernel_rfl) (by kernel_rfl) (by kernel_rfl) (fun _ _ _ h => h) (Or.inl ⟨by rfl, ?_⟩) hHeld ?_
              rotate_left
              · (intro W hSw; (try dsimp only at hSw); go_simp; try with_reducible rfl)
              try simp only [Act.put, List.setIfInBounds_toArray, List.set_cons_zero, List.set_cons_succ, List.getElem_toArray, List.getElem_cons_succ, List.getElem_cons_zero]
              have d0 := cell_of_arr YB 0
              have d1 := cell_of_arr YB 1
              have d2 := cell_of_arr YB 2
              have f0 := frozen_of_arr YB 0
              have f1 := frozen_of_arr YB 1
              have f2 := frozen_of_arr YB 2
              simp at d0 d1 d2
              have Q := three_cells'' YB (.int .i64 sz2) (.slice pa2 pn2 pc2) (.slice ea2 en2 ec2) _ rfl
              have FS3 := FS2.var Q.2.1 Q.2.2 hYX hYd hYR (by have := lt_of_block HFS0.out.res; omega) hdl0 (HFS0.out.away.on (by omega) AG (fun k hk => hk.elim (fun h => .inl h) (fun h => .inr (by omega))))
              have FA3 := FAway.on (bad' := fun k => k = X ∨ k = bd ∨ k = w.heap.size) FA2Y (Q.2.2 0 u2 (Nat.zero_le _) (Below.refl _ _)).size (fun k hb _ => Q.2.1 k (fun e => hb (.inr e))) (fun k h => .inl (.inl h))
              have HY := Lib.hid Q.1
              clear Q
              refine wpAnyH_ready (rs := [12]) (by kernel_rfl) (by simp) ?_
              refine AllReadyH.cons rfl (fun K1 hK1 => ?_) AllReadyH.nil
              go_simp
              refine hK1.out _ _ FS3.cells (fun hHeld => ?_)
              clear hK1
              try simp only [Act.put, List.setIfInBounds_toArray, List.set_cons_zero, List.set_cons_succ, List.getElem_toArray, List.getElem_cons_succ, List.getElem_cons_zero]
              refine wpAnyH_take (i := 13) (v := ?_) rfl (by kernel_rfl) (by kernel_rfl) (by kernel_rfl) (fun _ _ _ h => h) (Or.inl ⟨by rfl, ?_⟩) hHeld ?_
              rotate_left
              · (intro W hSw; (try dsimp only at hSw); go_simp; try with_reducible rfl)
              try simp only [Act.put, List.setIfInBounds_toArray, List.set_cons_zero, List.set_cons_succ, List.getElem_toArray, List.getElem_cons_succ, List.getElem_cons_zero]
              refine wpAnyH_done (by kernel_rfl) ?_ _
              try simp only [Act.put, List.setIfInBounds_toArray, List.set_cons_zero, List.set_cons_succ, List.getElem_toArray, List.getElem_cons_succ, List.getElem_cons_zero]
              go_wp2_with fail
              go_meet
              case rel => exact ⟨w10.heap.size, sz2, pa2, pn2, pc2, ea2, en2, ec2, _, _, rfl, rfl, hYX, hYd, hYR, FS3, HY.out, FA3, HTV⟩
          refine AllReadyH.cons rfl (fun K1 hK1 => ?_) AllReadyH.nil
          · have PA := (pure_alloc w10 (.cells #[.int .i64 0, .slice none 0 0, .slice none 0 0] 32)).drew
            go_simp
            refine hK1.out _ _ (FS0.pure PA).cells (fun hHeld => ?_)
            clear hK1
            try simp only [Act.put, List.setIfInBounds_toArray, List.set_cons_zero, List.set_cons_succ, List.getElem_toArray, List.getElem_cons_succ, List.getElem_cons_zero]
            have YA0 : (w10.alloc (.cells #[.int .i64 0, .slice none 0 0, .slice none 0 0] 32)).drew.heap[w10.heap.size]? = some (.cells #[.int .i64 0, .slice none 0 0, .slice none 0 0] 32 (0, 0)) := alloc_new w10 _
            have FSA := FS0.pure PA
            generalize (w10.alloc (.cells #[.int .i64 0, .slice none 0 0, .slice none 0 0] 32)).drew = uA at *
            refine wpAnyH_ready (rs := [6]) (by kernel_rfl) (by simp) ?_
            refine AllReadyH.cons rfl (fun K1 hK1 => ?_) AllReadyH.nil
            go_simp
            refine (next_any bd (sn + 1) uA FSA.deck (by omega) (by omega)).mono ?_
            rintro e u1 ⟨j, j0, j1, rfl, hd1, hb1, hz1⟩
            have FS1 := FSA.next hd1 hb1 hXd hRb
            have hu1 := hb1.size
            refine hK1.out _ _ FS1.cells (fun hHeld => ?_)
            clear hK1
            try simp only [Act.put, List.setIfInBounds_toArray, List.set_cons_zero, List.set_cons_succ, List.getElem_toArray, List.getElem_cons_succ, List.getElem_cons_zero]
            have YA := (hb1.block _ (lt_of_block YA0) hYd).trans YA0
            refine wpAnyH_ready (rs := [7]) (by kernel_rfl) (by simp) ?_
            refine AllReadyH.cons rfl (fun K1 hK1 => ?_) AllReadyH.nil
            go_simp
            refine (tornR_any sz' pa' pn' pc' ea' en' ec' key v j m u1 FS1.away.rep).mono ?_
            rintro e u2 ⟨sz2, pa2, pn2, pc2, ea2, en2, ec2, rfl, hF2, hu2⟩
            have FS2 := FS1.pure hu2
            have hsu2 := hu2.size
            have hbX2 := lt_of_block FS1.box
            have hbd2 := FS1.deck.lt
            have hbR2 := lt_of_block FS1.res
            have FA2 := FAway.of_new (bad := fun k => k = X ∨ k = bd ∨ k = w.heap.size) hF2 (fun k hk => by omega)
            have HTV := HTV0.out j j0 (by omega)
            have YB := Below.keep hu2 YA (lt_of_block YA)
            have hYl := lt_of_block YA
            have FA2Y := FAway.of_new (bad := fun k => (k = X ∨ k = bd ∨ k = w.heap.size) ∨ k = w10.heap.size) hF2 (fun k hk => by omega)
            have hsA := PA.size
            have AG : ∀ k, ¬ (k = X ∨ k = bd ∨ k = w.heap.size) → k < w10.heap.size → u2.heap[k]? = w10.heap[k]? := fun k hb hl => (hu2.block k (by omega)).trans ((hb1.block k (by omega) (fun e => hb (.inr (.inl e)))).trans (PA.block k hl))
            refine hK1.out _ _ FS2.cells (fun hHeld => ?_)
            clear hK1
            try simp only [Act.put, List.setIfInBounds_toArray, List.set_cons_zero, List.set_cons_succ, List.getElem_toArray, List.getElem_cons_succ, List.getElem_cons_zero]
            refine wpAnyH_take (i := 8) (v := ?_) rfl (by kernel_rfl) (by kernel_rfl) (by kernel_rfl) (fun _ _ _ h => h) (Or.inl ⟨by rfl, ?_⟩) hHeld ?_
            rotate_left
            · (intro W hSw; (try dsimp only at hSw); go_simp; try with_reducible rfl)
            try simp only [Act.put, List.setIfInBounds_toArray, List.set_cons_zero, List.set_cons_succ, List.getElem_toArray, List.getElem_cons_succ, List.getElem_cons_zero]
            refine wpAnyH_take (i := 9) (v := ?_) rfl (by kernel_rfl) (by kernel_rfl) (by kernel_rfl) (fun _ _ _ h => h) (Or.inl ⟨by rfl, ?_⟩) hHeld ?_
            rotate_left
            · (intro W hSw; (try dsimp only at hSw); go_simp; try with_reducible rfl)
            try simp only [Act.put, List.setIfInBounds_toArray, List.set_cons_zero, List.set_cons_succ, List.getElem_toArray, List.getElem_cons_succ, List.getElem_cons_zero]
            refine wpAnyH_take (i := 10) (v := ?_) rfl (by kernel_rfl) (by kernel_rfl) (by kernel_rfl) (fun _ _ _ h => h) (Or.inl ⟨by rfl, ?_⟩) hHeld ?_
            rotate_left
            · (intro W hSw; (try dsimp only at hSw); go_simp; try with_reducible rfl)
            try simp only [Act.put, List.setIfInBounds_toArray, List.set_cons_zero, List.set_cons_succ, List.getElem_toArray, List.getElem_cons_succ, List.getElem_cons_zero]
            have d0 := cell_of_arr YB 0
            have d1 := cell_of_arr YB 1
            have d2 := cell_of_arr YB 2
            have f0 := frozen_of_arr YB 0
            have f1 := frozen_of_arr YB 1
            have f2 := frozen_of_arr YB 2
            simp at d0 d1 d2
            have Q := three_cells'' YB (.int .i64 sz2) (.slice pa2 pn2 pc2) (.slice ea2 en2 ec2) _ rfl
            have FS3 := FS2.var Q.2.1 Q.2.2 hYX hYd hYR (by have := lt_of_block HFS0.out.res; omega) hdl0 (HFS0.out.away.on (by omega) AG (fun k hk => hk.elim (fun h => .inl h) (fun h => .inr (by omega))))
            have FA3 := FAway.on (bad' := fun k => k = X ∨ k = bd ∨ k = w.heap.size) FA2Y (Q.2.2 0 u2 (Nat.zero_le _) (Below.refl _ _)).size (fun k hb _ => Q.2.1 k (fun e => hb (.inr e))) (fun k h => .inl (.inl h))
            have HY := Lib.hid Q.1
            clear Q
            refine wpAnyH_ready (rs := [12]) (by kernel_rfl) (by simp) ?_
            refine AllReadyH.cons rfl (fun K1 hK1 => ?_) AllReadyH.nil
            go_simp
            refine hK1.out _ _ FS3.cells (fun hHeld => ?_)
            clear hK1
            try simp only [Act.put, List.setIfInBounds_toArray, List.set_cons_zero, List.set_cons_succ, List.getElem_toArray, List.getElem_cons_succ, List.getElem_cons_zero]
            refine wpAnyH_take (i := 13) (v := ?_) rfl (by kernel_rfl) (by kernel_rfl) (by kernel_rfl) (fun _ _ _ h => h) (Or.inl ⟨by rfl, ?_⟩) hHeld ?_
            rotate_left
            · (intro W hSw; (try dsimp only at hSw); go_simp; try with_reducible rfl)
            try simp only [Act.put, List.setIfInBounds_toArray, List.set_cons_zero, List.set_cons_succ, List.getElem_toArray, List.getElem_cons_succ, List.getElem_cons_zero]
            refine wpAnyH_done (by kernel_rfl) ?_ _
            try simp only [Act.put, List.setIfInBounds_toArray, List.set_cons_zero, List.set_cons_succ, List.getElem_toArray, List.getElem_cons_succ, List.getElem_cons_zero]
            go_wp2_with fail
            go_meet
            case rel => exact ⟨w10.heap.size, sz2, pa2, pn2, pc2, ea2, en2, ec2, _, _, rfl, rfl, hYX, hYd, hYR, FS3, HY.out, FA3, HTV⟩
        case rest =>
          obtain ⟨Y, sz2, pa2, pn2, pc2, ea2, en2, ec2, mq, eq, rfl, rfl, hY1, hY2, hY3, hFS, hYb, hFA, hqv⟩ := hcut
          have x0 := cell_of_arr hFS.box 0
          have x1 := cell_of_arr hFS.box 1
          have x2 := cell_of_arr hFS.box 2
          have f0 := frozen_of_arr hFS.box 0
          have f1 := frozen_of_arr hFS.box 1
          have f2 := frozen_of_arr hFS.box 2
          have y0 := cell_of_arr hYb 0
          have y1 := cell_of_arr hYb 1
          have y2 := cell_of_arr hYb 2
          simp at x0 x1 x2 y0 y1 y2
          have HFS := Lib.hid hFS
          have HFA := Lib.hid hFA
          have HQV := Lib.hid hqv
          have hRX : w.heap.size ≠ X := by omega
          clear hFS hFA hqv hYb HFS0
          by_cases hep : eq = 0
          · have hep' : (eq == 0) = true := by simpa using hep
            have HVP := Lib.hid (HQV.out hep)
            have Q := three_cells'' HFS.out.box (.int .i64 sz2) (.slice pa2 pn2 pc2) (.slice ea2 en2 ec2) _ rfl
            have HQ := Lib.hid Q
            clear Q hep
            go_wp2_with fail
            go_roundw
            case rel =>
              obtain ⟨S1, S2, S3⟩ := HQ.out
              have B := S3 0 wc (Nat.zero_le _) (Below.refl _ _)
              refine ⟨k - 1, by congr 1; omega, by omega, sz2, pa2, pn2, pc2, ea2, en2, ec2, mq, S1, ?_, HVP.out, ?_, ?_, (S2 _ hRX).trans HFS.out.res⟩
              · exact HFA.out.on B.size (fun j hb hl => S2 j (fun e => hb (.inl e))) (fun _ h => .inl h)
              · exact HFS.out.deck.keep (fun j hj => S2 j (by omega))
              · have HB := HFS.out.but
                exact ⟨B.os.trans HB.os, B.tape.trans HB.tape, B.output.trans HB.output, Nat.le_trans HB.size B.size, fun j hj hjb => (S2 j (by omega)).trans (HB.block j hj hjb)⟩
            case measure => simp [intOf]; omega
          · have hep' : (eq == 0) = false := by simpa using hep
            clear hep
            go_wp2_with fail
            go_roundw
            case rel => exact ⟨k - 1, by congr 1; omega, by omega, sz', pa', pn', pc', ea', en', ec', m, HFS.out.box, HFS.out.away, HVAL.out, HFS.out.deck, HFS.out.but, HFS.out.res⟩
            case measure => simp [intOf]; omega
      · have ht' : (t == 8) = false := by simpa using ht
        clear ht
        have HPUT := Lib.hid (putR_any sz' pa' pn' pc' ea' en' ec' key v m w9 HOFF.out.rep)
        have HPZ := Lib.hid (@putP_zero m key v)
        have HPL := Lib.hid (@Fl.put_law m key v)
        go_wp2_with fail
        refine HPUT.out.mono ?_
        rintro e w10 ⟨sz2, pa2, pn2, pc2, ea2, en2, ec2, rfl, hF, hw10⟩
        have HF := Lib.hid hF
        have hs10 := hw10.size
        have X10 := Below.keep hw10 HXC.out hXl
        have R10 := Below.keep hw10 HRC.out (lt_of_block HRC.out)
        have HD10 := Lib.hid (HDK.out.below hw10)
        have HB10 := Lib.hid (HBUT.out.trans (But.of_below hw10))
        have HO10 := Lib.hid (HOFF.out.pure hw10)
        have PA := pure_alloc w10 (.cells #[.int .i64 sz2, .slice pa2 pn2 pc2, .slice ea2 en2 ec2] 32)
        have NA := alloc_new w10 (.cells #[.int .i64 sz2, .slice pa2 pn2 pc2, .slice ea2 en2 ec2] 32)
        have X11 := Below.keep PA X10 (lt_of_block X10)
        have R11 := Below.keep PA R10 (lt_of_block R10)
        have HD11 := Lib.hid (HD10.out.below PA)
        have HB11 := Lib.hid (HB10.out.trans (But.of_below PA))
        have HO11 := Lib.hid (HO10.out.pure PA)
        have HPA := Lib.hid PA
        clear hF hw10 HPUT x0 x1 x2
        generalize Fl.putP m key v = pp at *
        obtain ⟨mp, ep⟩ := pp
        dsimp only at HF HPZ HPL ⊢
        go_upto_region 12 with fail
        generalize w10.alloc (.cells #[.int .i64 sz2, .slice pa2 pn2 pc2, .slice ea2 en2 ec2] 32) = w11 at *
        have hs11 := HPA.out.size
        have X11' := Lib.hid X11
        have R11' := Lib.hid R11
        have y0 := cell_of_arr NA 0
        have y1 := cell_of_arr NA 1
        have y2 := cell_of_arr NA 2
        have x0 := cell_of_arr X11 0
        have x1 := cell_of_arr X11 1
        have x2 := cell_of_arr X11 2
        have f0 := frozen_of_arr X11 0
        have f1 := frozen_of_arr X11 1
        have f2 := frozen_of_arr X11 2
        simp at y0 y1 y2 x0 x1 x2
        have hRX : w.heap.size ≠ X := by omega
        clear PA NA X10 R10 X11 R11
        by_cases hep : ep = 0
        · have hep' : (ep == 0) = true := by simpa using hep
          have Q := three_cells'' X11'.out (.int .i64 sz2) (.slice pa2 pn2 pc2) (.slice ea2 en2 ec2) _ rfl
          have HQ := Lib.hid Q
          have HVP := Lib.hid (HPL.out (HPZ.out hep)).1.valid
          clear Q hep
          go_wp2_with fail
          go_roundw
          case rel =>
            obtain ⟨S1, S2, S3⟩ := HQ.out
            have hsz := (S3 0 w11 (Nat.zero_le _) (Below.refl _ _)).size
            refine ⟨k - 1, by congr 1; omega, by omega, sz2, pa2, pn2, pc2, ea2, en2, ec2, mp, S1, ?_, HVP.out, ?_, ?_, (S2 _ hRX).trans R11'.out⟩
            · exact FAway.on (FAway.of_new (bad := fun k => k = X ∨ k = bd ∨ k = w.heap.size) HF.out (fun k hk => by omega)) (by omega) (fun j hb hl => (S2 j (fun e => hb (.inl e))).trans (HPA.out.block j hl)) (fun _ h => .inl h)
            · exact HD11.out.keep (fun j hj => S2 j (by omega))
            · have B := S3 0 w11 (Nat.zero_le _) (Below.refl _ _)
              exact ⟨B.os.trans HB11.out.os, B.tape.trans HB11.out.tape, B.output.trans HB11.out.output, Nat.le_trans HB11.out.size B.size, fun j hj hjb => (S2 j (by omega)).trans (HB11.out.block j hj hjb)⟩
          case measure => simp [intOf]; omega
        · have hep' : (ep == 0) = false := by simpa using hep
          clear hep
          go_wp2_with fail
          go_roundw
          case rel => exact ⟨k - 1, by congr 1; omega, by omega, sz', pa', pn', pc', ea', en', ec', m, X11'.out, HO11.out, HVAL.out, HD11.out, HB11.out, R11'.out⟩
          case measure => simp [intOf]; omega
    · obtain ⟨sz', pa', pn', pc', ea', en', ec', m, hXc, hoff, hval, hdk, hbut, hRc⟩ := hst
      have x0 := cell_of_arr hXc 0
      have x1 := cell_of_arr hXc 1
      have x2 := cell_of_arr hXc 2
      have y0 := cell_of_arr hRc 0
      have y1 := cell_of_arr hRc 1
      have y2 := cell_of_arr hRc 2
      have f0 := frozen_of_arr hRc 0
      have f1 := frozen_of_arr hRc 1
      have f2 := frozen_of_arr hRc 2
      simp at x0 x1 x2 y0 y1 y2
      have hk0' : ¬ ((0 : Int) < (k : Int)) := by omega
      have HOFF := Lib.hid hoff
      have HVAL := Lib.hid hval
      have HBUT := Lib.hid hbut
      have HRC := Lib.hid hRc
      clear hXc hoff hval hdk hbut hRc
      go_wp2_with fail
      have Q := three_cells'' HRC.out (.int .i64 sz') (.slice pa' pn' pc') (.slice ea' en' ec') _ rfl
      generalize ((wr.setCell ⟨w.heap.size, 0, none⟩ (.int .i64 sz')).setCell ⟨w.heap.size, 1, none⟩ (.slice pa' pn' pc')).setCell ⟨w.heap.size, 2, none⟩ (.slice ea' en' ec') = w9 at *
      obtain ⟨S1, S2, S3⟩ := Q
      have g0 := cell_of_arr S1 0
      have g1 := cell_of_arr S1 1
      have g2 := cell_of_arr S1 2
      simp at g0 g1 g2
      refine bodyPost_ret (v := .agg #[.int .i64 sz', .slice pa' pn' pc', .slice ea' en' ec']) (by simp [results, Try.results19, go_sem, g0, g1, g2]) rfl ?_
      have B := S3 0 wr (Nat.zero_le _) (Below.refl _ _)
      exact ⟨sz', pa', pn', pc', ea', en', ec', m, rfl, HOFF.out w9 (fun j hb _ => S2 j (fun e => hb (.inr (.inr e)))), HVAL.out, B.os.trans HBUT.out.os, B.tape.trans HBUT.out.tape, B.output.trans HBUT.out.output, Nat.le_trans HBUT.out.size B.size, fun j hj hjb => (S2 j (by omega)).trans (HBUT.out.block j hj hjb)⟩
end Go.Proofs.Ytnfjfifdkmgbdaa
