/- The walk of TwinGrows. -/
import Derived.Test.YtkgbjoepjcenlaaDoorGa
namespace Go.Proofs.YtkgbjoepjcenlaaDoor
open Go.RowKit
theorem Is.below {w w' : World} {a : Option Addr} {n : Nat} {l : List Int} (h : Is w a n l) (k : Below w.heap.size w w') : Is w' a n l :=
  ⟨h.1, h.2.1, fun i hi => by
    obtain ⟨b, o, e, hc, h1, h2⟩ := h.2.2 i hi
    exact ⟨b, o, e, (k.cell (p := ⟨b, o + i, none⟩) (lt_of_cell hc)).trans hc, h1, h2⟩⟩
theorem Is.bd {w : World} {a : Option Addr} {n : Nat} {l : List Int} (h : Is w a n l) (i : Nat) (hi : i < l.length) : -9223372036854775808 ≤ l.getD i 0 ∧ l.getD i 0 ≤ 9223372036854775807 := by
  obtain ⟨b, o, e, hc, h1, h2⟩ := h.2.2 i (by have := h.1; omega)
  exact ⟨h1, h2⟩
theorem bd_append {l m : List Int} (hl : ∀ i, i < l.length → -9223372036854775808 ≤ l.getD i 0 ∧ l.getD i 0 ≤ 9223372036854775807) (hm : ∀ i, i < m.length → -9223372036854775808 ≤ m.getD i 0 ∧ m.getD i 0 ≤ 9223372036854775807) (i : Nat) (hi : i < (l ++ m).length) : -9223372036854775808 ≤ (l ++ m).getD i 0 ∧ (l ++ m).getD i 0 ≤ 9223372036854775807 := by
  by_cases h : i < l.length
  · have := hl i h
    simpa [List.getElem?_append_left h] using this
  · have := hm (i - l.length) (by simp at hi; omega)
    simpa [List.getElem?_append_right (show l.length ≤ i by omega)] using this
/-- Two lists of terms, made by two decks, and both behind each other. -/
theorem rows_made {w2 w4 : World} {lo : Nat} {a b : List Tm} {aa ba : Option Addr} {an bn : Nat} (ac bc : Nat) (hX : lo ≤ w4.heap.size) (hlo : 0 < lo) (hTa : TL (fun k => lo ≤ k ∧ k < w4.heap.size) w4 a aa an) (hTb : TL (fun k => lo ≤ k ∧ k < w4.heap.size) w4 b ba bn) (hl : a.length ≤ 5) (hm : b.length ≤ 5) :
    ∃ va vn vc w5, (Builtin.append_ #[23, 23] 23 #[.slice none 0 0, .slice aa an ac]).run Tryd.prog w4 = .ok (.slice va vn vc) w5 ∧ ∃ ta tn tc w6, (Builtin.append_ #[23, 23] 23 #[.slice va vn vc, .slice ba bn bc]).run Tryd.prog w5 = .ok (.slice ta tn tc) w6 ∧ TL (fun k => lo ≤ k) w6 (a ++ b) ta tn ∧ Below w4.heap.size w4 w6 := by
  have hlt : 0 < w4.heap.size := by omega
  obtain ⟨v1, w5, es1, run1, O1, gr1, hX1⟩ := (OutT.nil w4 w4.heap.size lo (lo - 1)).all (c := ac) (hTa.imp fun k hk _ => ⟨hk.1, by omega, by simp [Value.ownBlock]⟩) (by simp; omega) (Nat.le_refl _) (by simp [Value.ownBlock]) (by omega)
  have hB5 : Below w4.heap.size w4 w5 := grown_pure gr1
  obtain ⟨va, vc, rfl⟩ := own_form O1.row
  have hown : ∀ g, (Value.slice va ([] ++ a).length vc).ownBlock = some g → w4.heap.size ≤ g := fun g e => (own_lt O1.row e).2.1
  obtain ⟨v2, w6, es2, run2, O2, gr2, hX2⟩ := O1.all (c := bc) ((hTb.below hB5).imp fun k hk _ => ⟨hk.1, by omega, fun e => by have := hown k e; omega⟩) (by simp; omega) hB5.size hX1 (by have := hB5.size; omega)
  obtain ⟨ta, tc, rfl, hTL, _⟩ := O2.tl hX (by simp; omega)
  refine ⟨va, _, vc, w5, run1, ta, _, tc, w6, run2, by simpa using hTL, ?_⟩
  exact ⟨gr2.os.trans hB5.os, gr2.tape.trans hB5.tape, gr2.output.trans hB5.output, Nat.le_trans hB5.size gr2.size, fun i hi => (gr2.block i (by have := hB5.size; omega) fun e => by have := hown i e.symm; omega).trans (hB5.block i hi)⟩
/-- Two rows of ints behind each other. -/
theorem ints_made {w6 : World} {la ka : Option Addr} {ln kn : Nat} (lc kc : Nat) {ll kl : List Int} (hIk : Is w6 ka kn kl) (hIl : Is w6 la ln ll) (hk : kn ≤ 1048576) (hl : ln ≤ 1048576) :
    ∃ va vn vc w7, (Builtin.append_ #[22, 22] 22 #[.slice none 0 0, .slice ka kn kc]).run Tryd.prog w6 = .ok (.slice va vn vc) w7 ∧ ∃ ta tn tc w8 L, (Builtin.append_ #[22, 22] 22 #[.slice va vn vc, .slice la ln lc]).run Tryd.prog w7 = .ok (.slice ta tn tc) w8 ∧ Is w8 ta tn L ∧ Below w6.heap.size w6 w8 := by
  have J0 : w6.ownsRow w6.heap.size 3 1 (.slice none 0 0) ([] : List Int).length (([] : List Int).map (Value.int .i64)) := ⟨rfl, .inl ⟨rfl, rfl⟩⟩
  obtain ⟨v1, w7, run1, J1, gr1⟩ := appI (c := kc) J0 hIk (fun _ => rfl) (by simp; omega) (Nat.le_refl _)
  have hB7 : Below w6.heap.size w6 w7 := grown_pure gr1
  obtain ⟨va, vc, rfl⟩ := own_form J1
  have hown : ∀ g, (Value.slice va ([] ++ kl).length vc).ownBlock = some g → w6.heap.size ≤ g := fun g e => (own_lt J1 e).2.1
  obtain ⟨v2, w8, run2, J2, gr2⟩ := appI (c := lc) J1 (hIl.below hB7) (fun _ => rfl) (by have := hIk.1; simp; omega) hB7.size
  obtain ⟨ta, tc, rfl, hIs⟩ := own_is' J2 (by have := hIk.1; have := hIl.1; simp; omega) (bd_append (l := [] ++ kl) (fun i hi => by simpa using hIk.bd i (by simpa using hi)) fun i hi => hIl.bd i hi)
  refine ⟨va, _, vc, w7, run1, ta, _, tc, w8, _, run2, hIs, ?_⟩
  exact ⟨gr2.os.trans hB7.os, gr2.tape.trans hB7.tape, gr2.output.trans hB7.output, Nat.le_trans hB7.size gr2.size, fun i hi => (gr2.block i (by have := hB7.size; omega) fun e => by have := hown i e.symm; omega).trans (hB7.block i hi)⟩
set_option maxHeartbeats 2000000 in
set_option maxRecDepth 100000 in
theorem grows_any (la ka : Option Addr) (ln lc kn kc : Nat) (ll kl : List Int) (w : World) (hIl : Is w la ln ll) (hIk : Is w ka kn kl) (hln : ln ≤ 1048576) (hkn : kn ≤ 1048576) (hE : Env w) :
    Calls Tryd.prog 3 #[.slice la ln lc, .slice ka kn kc] w fun e w' => e = .returned (.bool true) ∧ Below w.heap.size w w' := by
  have HIL := Lib.hid hIl
  have HIK := Lib.hid hIk
  have HE := Lib.hid hE
  clear hIl hIk hE
  go_enter Tryd.func3, Tryd.ntmps3
  go_wp2_with fail
  refine (new_any la ln lc w).mono ?_
  rintro e w1 ⟨rfl, rfl⟩
  have HD1 := Lib.hid (Deck.made (cap := lc) HIL.out)
  have HP1 := Lib.hid (pure_alloc w (.cells #[.slice la ln lc, .int .i64 0] 57))
  have hsz1 : (w.alloc (.cells #[.slice la ln lc, .int .i64 0] 57)).heap.size = w.heap.size + 1 := by simp
  have HSZ1 := Lib.hid hsz1
  clear hsz1
  go_wp2_with fail
  generalize (w.alloc (.cells #[.slice la ln lc, .int .i64 0] 57)) = w1 at *
  refine (terms_any w.heap.size w1 HD1.out).mono ?_
  rintro e w2 ⟨a, aa, an, ac, rfl, hsa, hla, ⟨hTa, hac⟩, _, hb2⟩
  have HB2 : Hid (Below w.heap.size w w2) := HP1.out.trans (hb2.below (Nat.le_refl _) HP1.out.size)
  have hs12 : w1.heap.size ≤ w2.heap.size := hb2.size
  have HTA2 : Hid (TL (fun k => w.heap.size + 1 ≤ k ∧ k < w2.heap.size) w2 a aa an) := hTa.imp fun k hk hl => ⟨by have h1 := HSZ1.out; have h2 : w1.heap.size ≤ k := hk; omega, hl⟩
  have HIK2 := Lib.hid (HIK.out.below HB2.out)
  have HS2 : Hid (w.heap.size + 1 ≤ w2.heap.size) := by have h1 := HSZ1.out; show _ ≤ _; omega
  clear hTa hb2 hs12 HD1 HP1 HSZ1
  go_wp2_with fail
  refine (new_any ka kn kc w2).mono ?_
  rintro e w3 ⟨rfl, rfl⟩
  have HD3 := Lib.hid (Deck.made (cap := kc) HIK2.out)
  have HP3 := Lib.hid (pure_alloc w2 (.cells #[.slice ka kn kc, .int .i64 0] 57))
  have hsz3 : (w2.alloc (.cells #[.slice ka kn kc, .int .i64 0] 57)).heap.size = w2.heap.size + 1 := by simp
  have HSZ3 := Lib.hid hsz3
  clear hsz3
  go_wp2_with fail
  generalize (w2.alloc (.cells #[.slice ka kn kc, .int .i64 0] 57)) = w3 at *
  refine (terms_any w2.heap.size w3 HD3.out).mono ?_
  rintro e w4 ⟨b, ba, bn, bc, rfl, hsb, hlb, ⟨hTb, hbc⟩, _, hb4⟩
  have HB4 : Hid (Below w.heap.size w w4) := (HB2.out.trans (HP3.out.mono HB2.out.size)).trans (hb4.below HB2.out.size (Nat.le_trans HB2.out.size HP3.out.size))
  have HTA4 : Hid (TL (fun k => w.heap.size + 1 ≤ k ∧ k < w4.heap.size) w4 a aa an) := hb4.tl (HTA2.out.below HP3.out) fun k hk hl => ⟨by omega, hk.1, by have := hb4.size; omega⟩
  have HTB4 : Hid (TL (fun k => w.heap.size + 1 ≤ k ∧ k < w4.heap.size) w4 b ba bn) := hTb.imp fun k hk hl => ⟨by have h1 := HSZ3.out; have h2 : w3.heap.size ≤ k := hk; have h3 := HS2.out; omega, hl⟩
  have hs4 : w.heap.size + 1 ≤ w4.heap.size := by have h1 := HSZ3.out; have h2 := hb4.size; have h3 := HS2.out; omega
  obtain ⟨va, vn, vc, w5, run1, ta, tn, tc, w6, run2, hT6, hB46⟩ := rows_made (w2 := w2) ac bc hs4 (by omega) HTA4.out HTB4.out hla hlb
  have HB6 := Lib.hid (HB4.out.trans (hB46.mono HB4.out.size))
  have HTA6 := Lib.hid (HTA4.out.below hB46)
  have HTB6 := Lib.hid (HTB4.out.below hB46)
  have HT6 := Lib.hid hT6
  have HSA := Lib.hid hsa
  have HSB := Lib.hid hsb
  have HS46 : Hid (w4.heap.size ≤ w6.heap.size) := hB46.size
  clear hTb hb4 HD3 HP3 HSZ3 hT6 hB46 hsa hsb HTA2 HTA4 HTB4 HB2 HS2 HIK2
  go_upto_region 3 with (first | (refine wpList_app rfl _ _ 23 rfl rfl rfl run1 ?_; clear run1) | (refine wpList_app rfl _ _ 23 rfl rfl rfl run2 ?_; clear run2))
  obtain ⟨ua, un, uc, w7, run3, da, dn, dc, w8, L, run4, hI8, hB68⟩ := ints_made lc kc (HIK.out.below HB6.out) (HIL.out.below HB6.out) hkn hln
  have HB8 := Lib.hid (HB6.out.trans (hB68.mono HB6.out.size))
  have HTA8 := Lib.hid (HTA6.out.below hB68)
  have HTB8 := Lib.hid (HTB6.out.below hB68)
  have HT8 := Lib.hid ((HT6.out.imp (ok' := fun k => w.heap.size + 1 ≤ k ∧ k < w6.heap.size) fun k hk hl => ⟨hk, hl⟩).below hB68)
  have HI8 := Lib.hid hI8
  have HS68 : Hid (w6.heap.size ≤ w8.heap.size) := hB68.size
  clear hI8 hB68 HTA6 HTB6 HT6 HB6
  go_wp2_with (first | (refine wpList_app rfl _ _ 22 rfl rfl rfl run3 ?_; clear run3) | (refine wpList_app rfl _ _ 22 rfl rfl rfl run4 ?_; clear run4))
  refine (new_any da dn dc w8).mono ?_
  rintro e w9 ⟨rfl, rfl⟩
  have HD9 := Lib.hid (Deck.made (cap := dc) HI8.out)
  have HP9 := Lib.hid (pure_alloc w8 (.cells #[.slice da dn dc, .int .i64 0] 57))
  go_wp2_with fail
  generalize (w8.alloc (.cells #[.slice da dn dc, .int .i64 0] 57)) = w9 at *
  refine (term_any 3 w8.heap.size w9 HD9.out (by omega)).mono ?_
  rintro e w10 ⟨g, ga, gn, gc, rfl, hsg, ⟨hTg, hgc⟩, _, hb10⟩
  have HG := Lib.hid (show Tm.valid g = true from Tm.valid_of4 hsg)
  have hs89 := HP9.out.size
  have HB10 : Hid (Below w.heap.size w w10) := (HB8.out.trans (HP9.out.mono HB8.out.size)).trans (hb10.below HB8.out.size (Nat.le_trans HB8.out.size hs89))
  have hB810 : Below w8.heap.size w8 w10 := HP9.out.trans (hb10.below (Nat.le_refl _) hs89)
  have HTA10 := Lib.hid (HTA8.out.below hB810)
  have HTB10 := Lib.hid (HTB8.out.below hB810)
  have HT10 := Lib.hid (HT8.out.below hB810)
  have HTG10 := Lib.hid hTg
  clear hsg hs89 hb10 hB810 hTg HTA8 HTB8 HT8 HB8 HP9 HD9 HI8 HS68 HS46 hs4
  have PA := pure_alloc w10 (.cells #[.int .i64 g.op, .int .i64 g.num, .slice ga gn gc] 28)
  have HB11 := Lib.hid (HB10.out.trans (PA.mono HB10.out.size))
  have HTA := Lib.hid (HTA10.out.below PA)
  have HTB := Lib.hid (HTB10.out.below PA)
  have HT := Lib.hid (HT10.out.below PA)
  have HTG := Lib.hid (HTG10.out.below PA)
  have HN := Lib.hid (alloc_new w10 (.cells #[.int .i64 g.op, .int .i64 g.num, .slice ga gn gc] 28))
  clear PA HB10 HTA10 HTB10 HT10 HTG10
  go_upto_region 4 with fail
  generalize (w10.alloc (.cells #[.int .i64 g.op, .int .i64 g.num, .slice ga gn gc] 28)) = wb at *
  have HVA : Hid (∀ t ∈ a, Tm.valid t = true) := by
    show ∀ t ∈ a, _
    exact fun t ht => Tm.valid_of4 ((Tm.shapedL_iff 4 a).1 HSA.out t ht)
  have HVB : Hid (∀ t ∈ b, Tm.valid t = true) := by
    show ∀ t ∈ b, _
    exact fun t ht => Tm.valid_of4 ((Tm.shapedL_iff 4 b).1 HSB.out t ht)
  have HAA : Hid ((Tm.accN a).length ≤ 80) := Tm.acc_of4 HSA.out hla
  have HAB : Hid ((Tm.accN (a ++ b)).length ≤ 160) := by
    have h1 := HAA.out
    have h2 := Tm.acc_of4 HSB.out hlb
    show _ ≤ _
    unfold Tm.accN at *
    rw [List.map_append, Tm.accF_append, List.length_append]
    omega
  have HLA : Hid (a.length ≤ 5) := hla
  have HLB : Hid (b.length ≤ 5) := hlb
  have HEb := Lib.hid (HE.out.below HB11.out)
  have hla5 : an ≤ 5 := by have := HTA.out.1; omega
  have hlb5 : bn ≤ 5 := by have := HTB.out.1; omega
  clear hla hlb HSA HSB HE HIL HIK
  -- what a is known of
  have DA : Hid (∀ (W : World) (t : Tm) (xa : Option Addr) (xn xc : Nat) (ok : Nat → Prop), RB wb W → TR ok W t xa xn → Tm.valid t = true → Calls Tryd.prog 10 #[.slice aa an ac, .agg #[.int .i64 t.op, .int .i64 t.num, .slice xa xn xc]] W (DPost a t W)) := by
    show ∀ W : World, _
    intro W t xa xn xc ok hW hT hv
    exact derives_any a aa an ac t xa xn xc W _ _ (HTA.out.below hW) hT HVA.out hv (by have := HLA.out; omega) (by have := HAA.out; omega) (HEb.out.below hW)
  have DB : Hid (∀ (W : World) (t : Tm) (xa : Option Addr) (xn xc : Nat) (ok : Nat → Prop), RB wb W → TR ok W t xa xn → Tm.valid t = true → Calls Tryd.prog 10 #[.slice ta tn tc, .agg #[.int .i64 t.op, .int .i64 t.num, .slice xa xn xc]] W (DPost (a ++ b) t W)) := by
    show ∀ W : World, _
    intro W t xa xn xc ok hW hT hv
    exact derives_any (a ++ b) ta tn tc t xa xn xc W _ _ (HT.out.below hW) hT (fun t ht => (List.mem_append.1 ht).elim (HVA.out t) (HVB.out t)) hv (by have := HLA.out; have := HLB.out; rw [List.length_append]; omega) (by have := HAB.out; omega) (HEb.out.below hW)
  clear HT HAA HAB
  go_wp2_with fail
  go_loopw [40] (fun i W => ∃ j : Nat, i = .int .i64 j ∧ j ≤ an ∧ RB wb W) (fun i _ => an - (intOf i).toNat)
  case atStart => exact ⟨0, rfl, by omega, RB.refl _⟩
  case round =>
    obtain ⟨j, rfl, hj, hB⟩ := hrel
    by_cases hjn : j < an
    · have hjl : j < a.length := by have := HTA.out.1; omega
      obtain ⟨eb, eo, en, nn, cc, hea, hok, c0, c1, c2, ht⟩ := (HTA.out.below hB).2.2 j hjl
      subst hea
      have PA := pure_alloc wr (.cells #[.int .i64 a[j].op, .int .i64 a[j].num, .slice en nn cc] 28)
      have HDC := Lib.hid (DA.out _ a[j] en nn cc _ (RB.trans _ _ _ hB PA) (ht.below PA) (HVA.out _ (List.getElem_mem hjl)))
      have HMM : Hid (a[j] ∈ a) := List.getElem_mem hjl
      have HBP := Lib.hid (RB.trans _ _ _ hB PA)
      clear hB hok ht PA
      generalize a[j] = t at *
      have hlt : (j : Int) < an := by omega
      go_wp2_with fail
      refine HDC.out.mono ?_
      rintro e w3 ⟨C, hC, rfl, hw3⟩
      rw [hC.known HMM.out]
      have HB3 := Lib.hid (RB.trans _ _ _ HBP.out hw3)
      clear hC hw3 c0 c1 c2 HDC HBP
      go_wp2_with fail
      go_roundw
      case rel => exact ⟨j + 1, by go_num, by omega, HB3.out⟩
      case measure => simp [intOf]; omega
    have hjn' : ¬ ((j : Int) < an) := by omega
    obtain ⟨w1, rfl⟩ : ∃ w1 : World, w1 = wr := ⟨_, rfl⟩
    have HR1 := Lib.hid hB
    have N1 := Below.keep hB HN.out (lt_of_block HN.out)
    have HDG := Lib.hid (DA.out _ g ga gn gc _ hB (HTG.out.below hB) HG.out)
    clear hB hjn hj
    have x0 := cell_of_arr N1 0
    have x1 := cell_of_arr N1 1
    have x2 := cell_of_arr N1 2
    simp at x0 x1 x2
    have HN1 := Lib.hid N1
    clear N1
    go_wp2_with fail
    refine HDG.out.mono ?_
    rintro e w2 ⟨C1, hC1, rfl, hw2⟩
    have HR2 := Lib.hid (RB.trans _ _ _ HR1.out hw2)
    have HC1 := Lib.hid hC1
    have N2 := Below.keep hw2 HN1.out (lt_of_block HN1.out)
    have HDH := Lib.hid (DB.out _ g ga gn gc _ HR2.out (HTG.out.below HR2.out) HG.out)
    clear hw2 hC1 x0 x1 x2 HDG HR1 HN1
    have x0 := cell_of_arr N2 0
    have x1 := cell_of_arr N2 1
    have x2 := cell_of_arr N2 2
    simp at x0 x1 x2
    clear N2
    go_wp2_with fail
    refine HDH.out.mono ?_
    rintro e w3 ⟨C2, hC2, rfl, hw3⟩
    have HR3 := Lib.hid (RB.trans _ _ _ HR2.out hw3)
    have HGR := Lib.hid (Tm.grows HC1.out hC2 (Tm.normal g))
    clear hw3 hC2 x0 x1 x2 HDH HR2
    generalize Tm.builds C1 (Tm.normal g) = X at *
    generalize Tm.builds C2 (Tm.normal g) = Y at *
    go_upto_region 13 with fail
    go_cut [81] from 69 to 81 (fun s W => s = .bool false ∧ W = w3)
    case first =>
      have h1 := HGR.out.1
      cases X <;> cases Y
      all_goals first
        | (exfalso; simp at h1; done)
        | (clear h1; go_wp2_with fail; go_meet; case rel => exact ⟨rfl, rfl⟩)
    case rest =>
    obtain ⟨rfl, rfl⟩ := hcut
    go_wp2_with fail
    clear hjn'
    go_loopw [84, 17] (fun i v W => ∃ j : Nat, i = .int .i64 j ∧ j ≤ bn ∧ v = .bool ((b.take j).all fun t => Tm.builds C1 (Tm.normal t)) ∧ RB wb W) (fun i _ _ => bn - (intOf i).toNat)
    case atStart => exact ⟨0, rfl, by omega, rfl, HR3.out⟩
    case round =>
      obtain ⟨j, rfl, hj, rfl, hB⟩ := hrel
      by_cases hjn : j < bn
      · have hjl : j < b.length := by have := HTB.out.1; omega
        obtain ⟨eb, eo, en, nn, cc, hea, hok, c0, c1, c2, ht⟩ := (HTB.out.below hB).2.2 j hjl
        subst hea
        have PA := pure_alloc wr (.cells #[.int .i64 b[j].op, .int .i64 b[j].num, .slice en nn cc] 28)
        have HDC := Lib.hid (DA.out _ b[j] en nn cc _ (RB.trans _ _ _ hB PA) (ht.below PA) (HVB.out _ (List.getElem_mem hjl)))
        have HTK : Hid (((b.take (j + 1)).all fun t => Tm.builds C1 (Tm.normal t)) = (((b.take j).all fun t => Tm.builds C1 (Tm.normal t)) && Tm.builds C1 (Tm.normal b[j]))) := by
          show _ = _
          rw [List.take_succ_eq_append_getElem hjl, List.all_append]
          simp
        have HBP := Lib.hid (RB.trans _ _ _ hB PA)
        clear hB hok ht PA
        generalize b[j] = t at *
        generalize ((b.take j).all fun t => Tm.builds C1 (Tm.normal t)) = al at *
        have hlt : (j : Int) < bn := by omega
        go_wp2_with fail
        refine HDC.out.mono ?_
        rintro e w3 ⟨C, hC, rfl, hw3⟩
        rw [hC.builds_eq HC1.out]
        have HB3 := Lib.hid (RB.trans _ _ _ HBP.out hw3)
        clear hC hw3 c0 c1 c2 HDC HBP
        generalize Tm.builds C1 (Tm.normal t) = z at *
        cases al <;> cases z
        all_goals
          go_wp2_with fail
          go_roundw
          case rel => exact ⟨j + 1, by go_num, by omega, by rw [HTK.out]; rfl, HB3.out⟩
          case measure => simp [intOf]; omega
      have hjn' : ¬ ((j : Int) < bn) := by omega
      obtain rfl : j = bn := by omega
      have HF : Hid ((((b.take j).all fun t => Tm.builds C1 (Tm.normal t)) = true → Y = X) ∧ (X = true → Y = true)) := by
        refine ⟨fun h => HGR.out.2 fun t ht => ?_, HGR.out.1⟩
        rw [List.take_of_length_le (by have := HTB.out.1; omega), List.all_eq_true] at h
        exact h t ht
      have HAW := Lib.hid (awake_any wr (HEb.out.below hB))
      have HBE := Lib.hid (HB11.out.trans (hB.mono HB11.out.size))
      generalize ((b.take j).all fun t => Tm.builds C1 (Tm.normal t)) = al at *
      clear hB hjn hj HGR
      have h1 := HF.out
      clear HF
      cases al <;> cases X <;> cases Y
      all_goals first
        | (exfalso; simp at h1; done)
        | (clear h1
           go_wp2_with fail
           refine HAW.out.mono ?_
           rintro e w9 ⟨rfl, hw9⟩
           have HB9 := Lib.hid (HBE.out.trans (hw9.mono HBE.out.size))
           clear hw9
           go_wp2_with fail
           go_ret
           exact ⟨rfl, HB9.out⟩)
end Go.Proofs.YtkgbjoepjcenlaaDoor
