/- The walk of damaged. -/
import Derived.Test.YtnfjfifdkmgbdaaXx
namespace Go.Proofs.Ytnfjfifdkmgbdaa
open Go.RowKit Go.Shelf
theorem tdiv8_bd (a : Int) (h1 : -9223372036854775808 ≤ a) (h2 : a ≤ 9223372036854775807) : -9223372036854775808 ≤ a.tdiv 8 ∧ a.tdiv 8 ≤ 9223372036854775807 := by
  have := Int.tdiv_eq_ediv (a := a) (b := 8)
  simp only [show (8 : Int).sign = 1 from rfl] at this
  split at this <;> omega
theorem u8_bits (a b : Int) : ∃ y : UInt8, Value.int .u8 (bits .xor .u8 a b) = bv y := by
  have h : ∀ n : Int, 0 ≤ IntKind.u8.wrap n ∧ IntKind.u8.wrap n < 256 := fun n => by
    simp [IntKind.wrap, IntKind.bits, IntKind.signed]
    omega
  have h2 := h (BitVec.ofInt 8 a ^^^ BitVec.ofInt 8 b).toNat
  refine ⟨UInt8.ofNat (bits .xor .u8 a b).toNat, ?_⟩
  have e : bits .xor .u8 a b = IntKind.u8.wrap ((BitVec.ofInt 8 a ^^^ BitVec.ofInt 8 b).toNat : Int) := rfl
  rw [← e] at h2
  generalize bits .xor .u8 a b = z at *
  unfold bv
  congr 1
  have : (UInt8.ofNat z.toNat).toNat = z.toNat := by simp; omega
  rw [this]; omega
set_option maxRecDepth 100000 in
set_option maxHeartbeats 1600000 in
theorem damaged_any (sz : Int) (pa : Option Addr) (pn pc : Nat) (ea : Option Addr) (en ec : Nat) (at_ by_ : Int) (m : Fl.Mem) (w : World) (h : FRep w sz pa pn ea en m) (hv : Fl.validP m = true) (ha1 : -9223372036854775808 ≤ at_) (ha2 : at_ ≤ 9223372036854775807) :
    Calls Try.prog 25 #[.agg #[.int .i64 sz, .slice pa pn pc, .slice ea en ec], .int .i64 at_, .int .i64 by_] w fun e w' => ∃ md, GPost md w e w' := by
  have hm := MB.valid hv
  have hb := Fl.val_bounds hv
  have hln := ((Fl.val_iff m).1 hv).lens
  have P1 : Below w.heap.size w ((w.alloc (.cells #[.int .i64 sz, .slice pa pn pc, .slice ea en ec] 32)).alloc (.cells #[.int .i64 0, .slice none 0 0, .slice none 0 0] 32)) := (pure_alloc _ _).alloc (by simp) _
  have B0 : ((w.alloc (.cells #[.int .i64 sz, .slice pa pn pc, .slice ea en ec] 32)).alloc (.cells #[.int .i64 0, .slice none 0 0, .slice none 0 0] 32)).heap[w.heap.size]? = some (.cells #[.int .i64 sz, .slice pa pn pc, .slice ea en ec] 32 (0, 0)) := alloc_keep (alloc_new _ _)
  have B1 : ((w.alloc (.cells #[.int .i64 sz, .slice pa pn pc, .slice ea en ec] 32)).alloc (.cells #[.int .i64 0, .slice none 0 0, .slice none 0 0] 32)).heap[w.heap.size + 1]? = some (.cells #[.int .i64 0, .slice none 0 0, .slice none 0 0] 32 (0, 0)) := alloc_new' _ _ _ (by simp)
  go_enter Try.func25, Try.ntmps25
  go_upto_region 1 with fail
  generalize ((w.alloc (.cells #[.int .i64 sz, .slice pa pn pc, .slice ea en ec] 32)).alloc (.cells #[.int .i64 0, .slice none 0 0, .slice none 0 0] 32)) = w1 at *
  have hpl := h.pages.1
  have hel := h.erased.1
  have HSZ := Lib.hid h.size
  have HCP := Lib.hid (copyR_any sz pa pn pc ea en ec m w1 (h.below P1) (by have := hm.pages; omega) (by have := hm.erased; omega) (fun i _ => by have := hm.lens i; omega))
  have c1 := cell_of_arr B0 0
  have c2 := cell_of_arr B0 1
  have c3 := cell_of_arr B0 2
  simp at c1 c2 c3
  have HP1 := Lib.hid P1
  have HB1 := Lib.hid B1
  have hb1 := lt_of_block B1
  have HMB := Lib.hid hm
  have HLN := Lib.hid hln
  have hp2 : 2 ≤ m.pages.length := by omega
  have hp8 : m.pages.length ≤ 8 := by omega
  clear P1 B0 B1 h hm hpl hel hln hb hv
  go_wp2_with fail
  refine HCP.out.mono ?_
  rintro e w2 ⟨pv, ev, vs, rfl, hpv, hev, hw2⟩
  have hrow := hpv.row
  rw [hpv.len] at hrow
  obtain ⟨g, pc3, rfl, hg1, hg2⟩ := World.ownsRow.form hrow (by omega)
  obtain ⟨ge, ec3, rfl, hge1, hge2⟩ := World.ownsRow.form hev (by have := HLN.out; omega)
  have HP2 := Lib.hid (pure_trans HP1.out hw2)
  have B2 := Below.keep hw2 HB1.out hb1
  have PA := pure_alloc w2 (.cells #[.int .i64 sz, .slice (some ⟨g, 0, none⟩) m.pages.length pc3, .slice (some ⟨ge, 0, none⟩) m.erased.length ec3] 32)
  have N3 := alloc_new w2 (.cells #[.int .i64 sz, .slice (some ⟨g, 0, none⟩) m.pages.length pc3, .slice (some ⟨ge, 0, none⟩) m.erased.length ec3] 32)
  have B3 := Below.keep PA B2 (lt_of_block B2)
  have OF : OwnF (w2.alloc (.cells #[.int .i64 sz, .slice (some ⟨g, 0, none⟩) m.pages.length pc3, .slice (some ⟨ge, 0, none⟩) m.erased.length ec3] 32)) w1.heap.size w2.heap.size m (some ⟨g, 0, none⟩) pc3 (some ⟨ge, 0, none⟩) ec3 vs := ⟨by rw [N3, HSZ.out], hpv.pure PA, own_pure hev PA⟩
  have HP3 := Lib.hid (pure_trans HP2.out PA)
  have hsz2 := hw2.size
  have hXl := lt_of_block N3
  clear hw2 hpv hev hrow HCP HP2 B2 c1 c2 c3 HB1 HP1 N3 PA
  go_upto_region 2 with fail
  generalize w2.alloc (.cells #[.int .i64 sz, .slice (some ⟨g, 0, none⟩) m.pages.length pc3, .slice (some ⟨ge, 0, none⟩) m.erased.length ec3] 32) = w3 at *
  have hX12 : w2.heap.size ≠ w.heap.size + 1 := by omega
  have hbX : w1.heap.size ≤ w2.heap.size := hsz2
  generalize w2.heap.size = X at *
  have x0 := cell_of_arr OF.box 0
  have x1 := cell_of_arr OF.box 1
  have x2 := cell_of_arr OF.box 2
  simp at x0 x1 x2
  have q0 := Int.emod_nonneg at_ (show (m.pages.length : Int) ≠ 0 by omega)
  have q1 := Int.emod_lt_of_pos at_ (show (0 : Int) < (m.pages.length : Int) by omega)
  have HOF := Lib.hid OF
  have HB3 := Lib.hid B3
  clear OF B3
  go_upto_region 3 with (go_at_call 12; refine (mod_any _ _ _ (by omega) (by omega)).mono ?_; rintro e w2 ⟨rfl, rfl⟩)
  obtain ⟨q, hq⟩ := Int.eq_ofNat_of_zero_le q0
  rw [hq] at q1 ⊢
  have hqm : q < m.pages.length := by omega
  have hqe : q < m.erased.length := by have := HLN.out; omega
  clear q0 hq
  by_cases h5 : by_ % 5 = 4
  · have h5' : (by_ % 5 == 4) = true := by simpa using h5
    have r0 := Int.emod_nonneg at_ (show (3 : Int) ≠ 0 by omega)
    have r1 := Int.emod_lt_of_pos at_ (show (0 : Int) < 3 by omega)
    clear h5
    go_upto_region 4 with (go_at_call 12; refine (mod_any _ _ _ (by omega) (by omega)).mono ?_; rintro e w2 ⟨rfl, rfl⟩)
    have s1 : IntKind.i64.wrap (1000 + at_ % 3) = 1000 + at_ % 3 := wrap_i64 _ (by omega) (by omega)
    have s2 : IntKind.i64.wrap (1000 + at_ % 3 - 1) = 1000 + at_ % 3 - 1 := wrap_i64 _ (by omega) (by omega)
    have i0 : (0 : Int) ≤ (q : Int) := by omega
    have i1 : (q : Int) < (m.erased.length : Int) := by omega
    have hgeX : ge ≠ X := by
      obtain ⟨_, _, cur, hc⟩ := own_lt HOF.out.erased (g := ge) rfl
      exact kind_ne hc HOF.out.box (by decide)
    obtain ⟨hgel, _, cur, hgc⟩ := own_lt HOF.out.erased (g := ge) rfl
    have ef := frozen_of_arr hgc q
    have ec := World.ownsRow.cellAt HOF.out.erased q (by rw [Nat.mul_one]; exact hqe)
    have ec' : w3.cell? ⟨ge, q, none⟩ = some (.int .i64 (m.erased.getD q 0)) := by rw [ec]; simp [List.getElem?_eq_getElem hqe]
    clear ec
    refine wp_region_held_drew (S := (fun W => W.cell? ⟨X, 2, none⟩ = some (.slice (some ⟨ge, 0, none⟩) m.erased.length ec3))) (by kernel_rfl) x2 (fun hHeld => ?_)
    refine wpAnyH_take (i := 0) (v := ?_) rfl (by kernel_rfl) (by kernel_rfl) (by kernel_rfl) (fun _ _ _ h => h) (Or.inl ⟨by rfl, ?_⟩) hHeld ?_
    rotate_left
    · (intro W hSw; (try dsimp only at hSw); go_simp; try with_reducible rfl)
    try simp only [Act.put, List.setIfInBounds_toArray, List.set_cons_zero, List.set_cons_succ, List.getElem_toArray, List.getElem_cons_succ, List.getElem_cons_zero]
    refine wpAnyH_take (i := 1) (v := ?_) rfl (by kernel_rfl) (by kernel_rfl) (by kernel_rfl) (fun _ _ _ h => h) (Or.inl ⟨by rfl, ?_⟩) hHeld ?_
    rotate_left
    · (intro W hSw; (try dsimp only at hSw); go_simp; try with_reducible rfl)
    try simp only [Act.put, List.setIfInBounds_toArray, List.set_cons_zero, List.set_cons_succ, List.getElem_toArray, List.getElem_cons_succ, List.getElem_cons_zero]
    refine wpAnyH_take (i := 2) (v := ?_) rfl (by kernel_rfl) (by kernel_rfl) (by kernel_rfl) (fun _ _ _ h => h) (Or.inl ⟨by rfl, ?_⟩) hHeld ?_
    rotate_left
    · (intro W hSw; (try dsimp only at hSw); go_simp; try with_reducible rfl)
    try simp only [Act.put, List.setIfInBounds_toArray, List.set_cons_zero, List.set_cons_succ, List.getElem_toArray, List.getElem_cons_succ, List.getElem_cons_zero]
    refine wpAnyH_take (i := 3) (v := ?_) rfl (by kernel_rfl) (by kernel_rfl) (by kernel_rfl) (fun _ _ _ h => h) (Or.inl ⟨by rfl, ?_⟩) hHeld ?_
    rotate_left
    · (intro W hSw; (try dsimp only at hSw); go_simp; try with_reducible rfl)
    try simp only [Act.put, List.setIfInBounds_toArray, List.set_cons_zero, List.set_cons_succ, List.getElem_toArray, List.getElem_cons_succ, List.getElem_cons_zero]
    refine wpAnyH_ready (rs := [4]) (by kernel_rfl) (by simp) ?_
    refine AllReadyH.cons rfl (fun K1 hK1 => ?_) AllReadyH.nil
    go_simp
    refine (mod_any _ _ _ (by omega) (by omega)).mono ?_
    rintro e u ⟨rfl, rfl⟩
    refine hK1.out _ _ hHeld (fun hHeld => ?_)
    clear hK1
    try simp only [Act.put, List.setIfInBounds_toArray, List.set_cons_zero, List.set_cons_succ, List.getElem_toArray, List.getElem_cons_succ, List.getElem_cons_zero]
    refine wpAnyH_take (i := 5) (v := ?_) rfl (by kernel_rfl) (by kernel_rfl) (by kernel_rfl) (fun _ _ _ h => h) (Or.inl ⟨by rfl, ?_⟩) hHeld ?_
    rotate_left
    · (intro W hSw; (try dsimp only at hSw); go_simp; try with_reducible rfl)
    try simp only [Act.put, List.setIfInBounds_toArray, List.set_cons_zero, List.set_cons_succ, List.getElem_toArray, List.getElem_cons_succ, List.getElem_cons_zero]
    refine wpAnyH_take (i := 6) (v := ?_) rfl (by kernel_rfl) (by kernel_rfl) (by kernel_rfl) (fun _ _ _ h => h) (Or.inl ⟨by rfl, ?_⟩) hHeld ?_
    rotate_left
    · (intro W hSw; (try dsimp only at hSw); go_simp; try with_reducible rfl)
    try simp only [Act.put, List.setIfInBounds_toArray, List.set_cons_zero, List.set_cons_succ, List.getElem_toArray, List.getElem_cons_succ, List.getElem_cons_zero]
    refine wpAnyH_take (i := 7) (v := ?_) rfl (by kernel_rfl) (by kernel_rfl) (by kernel_rfl) (fun _ _ _ h => h) (Or.inl ⟨by rfl, ?_⟩) hHeld ?_
    rotate_left
    · (intro W hSw; (try dsimp only at hSw); go_simp; try with_reducible rfl)
    try simp only [Act.put, List.setIfInBounds_toArray, List.set_cons_zero, List.set_cons_succ, List.getElem_toArray, List.getElem_cons_succ, List.getElem_cons_zero]
    refine wpAnyH_ready (rs := [8]) (by kernel_rfl) (by simp) ?_
    refine AllReadyH.cons rfl (fun K1 hK1 => ?_) AllReadyH.nil
    go_simp
    refine hK1.out _ _ (by simpa [World.cell?_setCell_far, hgeX] using x2) (fun hHeld2 => ?_)
    clear hK1
    try simp only [Act.put, List.setIfInBounds_toArray, List.set_cons_zero, List.set_cons_succ, List.getElem_toArray, List.getElem_cons_succ, List.getElem_cons_zero]
    refine wpAnyH_done (by kernel_rfl) ?_ _
    try simp only [Act.put, List.setIfInBounds_toArray, List.set_cons_zero, List.set_cons_succ, List.getElem_toArray, List.getElem_cons_succ, List.getElem_cons_zero]
    have U5 := (HOF.out.updE (i := q) hqe (1000 + at_ % 3 - 1)).1
    have B5 := set_other (a := ⟨ge, q, none⟩) (v := .int .i64 (1000 + at_ % 3 - 1)) HB3.out (by dsimp only; omega)
    have P5 := HP3.out.setCell (p := ⟨ge, q, none⟩) (by dsimp only; omega) (.int .i64 (1000 + at_ % 3 - 1))
    have Z5 : MB { m with erased := m.erased.set q (1000 + at_ % 3 - 1) } := ⟨HMB.out.pages, by simpa using HMB.out.erased, HMB.out.size, HMB.out.lens, fun i => by
      rcases Fl.getD_set_le m.erased q i (1000 + at_ % 3 - 1) 0 with h1 | h1
      · simp only; rw [h1]; omega
      · simp only; rw [h1]; exact HMB.out.ers i⟩
    clear s1 s2
    go_upto_region 5 with fail
    have hdr : ∀ W : World, W.drew.heap = W.heap := fun _ => rfl
    generalize hmm : ({ m with erased := m.erased.set q (1000 + at_ % 3 - 1) } : Fl.Mem) = mm at *
    have U5' := U5.pure (w' := (w3.setCell ⟨ge, q, none⟩ (.int .i64 (1000 + at_ % 3 - 1))).drew) ((Below.refl _ _).drew)
    have HU0 := Lib.hid U5'
    have HB50 := Lib.hid (show (w3.setCell ⟨ge, q, none⟩ (.int .i64 (1000 + at_ % 3 - 1))).drew.heap[w.heap.size + 1]? = _ from B5)
    have HP50 := Lib.hid (below_drew P5)
    have HZ := Lib.hid Z5
    generalize (w3.setCell ⟨ge, q, none⟩ (.int .i64 (1000 + at_ % 3 - 1))).drew = w5 at *
    have HU := HU0
    have HB5 := HB50
    have HP5 := HP50
    clear U5 B5 P5 Z5 U5' HU0 HB50 HP50 hmm hdr x0 x1 x2 ef ec' hgc hHeld hHeld2
    have U := HU.out
    have u0 := cell_of_arr U.box 0
    have u1 := cell_of_arr U.box 1
    have u2 := cell_of_arr U.box 2
    simp at u0 u1 u2
    have d0 := cell_of_arr HB5.out 0
    have d1 := cell_of_arr HB5.out 1
    have d2 := cell_of_arr HB5.out 2
    have f0 := frozen_of_arr HB5.out 0
    have f1 := frozen_of_arr HB5.out 1
    have f2 := frozen_of_arr HB5.out 2
    simp at d0 d1 d2
    clear U
    go_wp2_with fail
    have Q := three_cells'' HB5.out (.int .i64 mm.size) (.slice (some ⟨g, 0, none⟩) mm.pages.length pc3) (.slice (some ⟨ge, 0, none⟩) mm.erased.length ec3) _ rfl
    have U6 := ((HU.out.setLow (b := w.heap.size + 1) (by omega) hX12 0 (.int .i64 mm.size)).setLow (b := w.heap.size + 1) (by omega) hX12 1 (.slice (some ⟨g, 0, none⟩) mm.pages.length pc3)).setLow (b := w.heap.size + 1) (by omega) hX12 2 (.slice (some ⟨ge, 0, none⟩) mm.erased.length ec3)
    generalize ((w5.setCell ⟨w.heap.size + 1, 0, none⟩ (.int .i64 mm.size)).setCell ⟨w.heap.size + 1, 1, none⟩ (.slice (some ⟨g, 0, none⟩) mm.pages.length pc3)).setCell ⟨w.heap.size + 1, 2, none⟩ (.slice (some ⟨ge, 0, none⟩) mm.erased.length ec3) = w6 at *
    obtain ⟨S1, S2, S3⟩ := Q
    have g0 := cell_of_arr S1 0
    have g1 := cell_of_arr S1 1
    have g2 := cell_of_arr S1 2
    simp at g0 g1 g2
    refine bodyPost_ret (v := .agg #[.int .i64 mm.size, .slice (some ⟨g, 0, none⟩) mm.pages.length pc3, .slice (some ⟨ge, 0, none⟩) mm.erased.length ec3]) (by simp [results, Try.results25, go_sem, g0, g1, g2]) rfl ?_
    have z := HZ.out
    exact ⟨mm, GPost.mk rfl (fun W hW => (U6.keepFrom hW (by omega) (by omega)).frep z.pages z.erased z.size (fun i => by have := z.lens i; omega) (fun i => by have := z.ers i; omega)) (S3 _ _ (by omega) HP5.out)⟩
  · have h5' : (by_ % 5 == 4) = false := by simpa using h5
    clear h5
    obtain ⟨g', a, c', hgg', hvv, y1, y2, yq, yf, hgX, hgl⟩ := HOF.out.reads (i := q) hqm
    simp only [Option.some.injEq, Addr.mk.injEq, and_true] at hgg'
    subst hgg'
    have i0 : (0 : Int) ≤ (q : Int) := by omega
    have hlq := HMB.out.lens q
    generalize hpq : m.pages.getD q [] = p at *
    have HPQ := Lib.hid hpq
    have HVV := Lib.hid hvv
    clear hpq hvv y2
    by_cases hn : 0 < p.length
    · have hn' : (0 : Int) < (p.length : Int) := by omega
      have hn2 : decide (0 < p.length) = true := by simpa using hn
      have hown := HOF.out.pages.each q (by have := HOF.out.pages.len; omega)
      rw [HVV.out, HPQ.out] at hown
      obtain ⟨gb, capb, hge, hgb1, hgb2⟩ := World.ownsRow.form hown hn
      simp only [Value.slice.injEq] at hge
      obtain ⟨rfl, _, rfl⟩ := hge
      have k0 := Int.emod_nonneg (at_.tdiv 8) (show (p.length : Int) ≠ 0 by omega)
      have k1 := Int.emod_lt_of_pos (at_.tdiv 8) (show (0 : Int) < (p.length : Int) by omega)
      obtain ⟨ix, hix⟩ := Int.eq_ofNat_of_zero_le k0
      have hixl : ix < p.length := by omega
      have r0 := Int.emod_nonneg by_ (show (255 : Int) ≠ 0 by omega)
      have r1 := Int.emod_lt_of_pos by_ (show (0 : Int) < 255 by omega)
      obtain ⟨_, _, curb, hgbc⟩ := own_lt hown (g := gb) rfl
      have bf := frozen_of_arr hgbc ix
      have bc := World.ownsRow.cellAt hown ix (by rw [Nat.mul_one]; exact hixl)
      have bc' : w3.cell? ⟨gb, ix, none⟩ = some (.int .u8 ((p.getD ix 0).toNat : Int)) := by rw [bc]; simp [bv, List.getElem?_eq_getElem hixl]
      have hbX' : gb ≠ X := kind_ne hgbc HOF.out.box (by decide)
      have hbG : gb ≠ g := by
        obtain ⟨_, _, cur', hc'⟩ := own_lt HOF.out.pages.row (g := g) rfl
        exact kind_ne hgbc hc' (by decide)
      clear bc
      go_upto_region 8 with (go_at_call 12; refine (mod_any _ _ _ (by omega) (by omega)).mono ?_; rintro e w2 ⟨rfl, rfl⟩)
      have s1 : IntKind.i64.wrap (1 + by_ % 255) = 1 + by_ % 255 := wrap_i64 _ (by omega) (by omega)
      have s2 : IntKind.i64.wrap (at_.tdiv 8) = at_.tdiv 8 := wrap_i64 _ (tdiv8_bd at_ ha1 ha2).1 (tdiv8_bd at_ ha1 ha2).2
      have i1 : (ix : Int) < (p.length : Int) := by omega
      have i2 : (0 : Int) ≤ (ix : Int) := by omega
      refine wp_region_held_drew (S := (fun W => W.cell? ⟨X, 1, none⟩ = some (.slice (some ⟨g, 0, none⟩) m.pages.length pc3) ∧ W.cell? ⟨g, q, none⟩ = some (.slice (some ⟨gb, 0, none⟩) p.length c'))) (by kernel_rfl) ⟨y1, yq⟩ (fun hHeld => ?_)
      refine wpAnyH_take (i := 0) (v := ?_) rfl (by kernel_rfl) (by kernel_rfl) (by kernel_rfl) (fun _ _ _ h => h) (Or.inl ⟨by rfl, ?_⟩) hHeld ?_
      rotate_left
      · (intro W hSw; (try dsimp only at hSw); go_simp; try with_reducible rfl)
      try simp only [Act.put, List.setIfInBounds_toArray, List.set_cons_zero, List.set_cons_succ, List.getElem_toArray, List.getElem_cons_succ, List.getElem_cons_zero]
      refine wpAnyH_take (i := 1) (v := ?_) rfl (by kernel_rfl) (by kernel_rfl) (by kernel_rfl) (fun _ _ _ h => h) (Or.inl ⟨by rfl, ?_⟩) hHeld ?_
      rotate_left
      · (intro W hSw; (try dsimp only at hSw); go_simp; try with_reducible rfl)
      try simp only [Act.put, List.setIfInBounds_toArray, List.set_cons_zero, List.set_cons_succ, List.getElem_toArray, List.getElem_cons_succ, List.getElem_cons_zero]
      refine wpAnyH_take (i := 2) (v := ?_) rfl (by kernel_rfl) (by kernel_rfl) (by kernel_rfl) (fun _ _ _ h => h) (Or.inl ⟨by rfl, ?_⟩) hHeld ?_
      rotate_left
      · (intro W hSw; (try dsimp only at hSw); go_simp; try with_reducible rfl)
      try simp only [Act.put, List.setIfInBounds_toArray, List.set_cons_zero, List.set_cons_succ, List.getElem_toArray, List.getElem_cons_succ, List.getElem_cons_zero]
      refine wpAnyH_take (i := 3) (v := ?_) rfl (by kernel_rfl) (by kernel_rfl) (by kernel_rfl) (fun _ _ _ h => h) (Or.inl ⟨by rfl, ?_⟩) hHeld ?_
      rotate_left
      · (intro W hSw; (try dsimp only at hSw); go_simp; try with_reducible rfl)
      try simp only [Act.put, List.setIfInBounds_toArray, List.set_cons_zero, List.set_cons_succ, List.getElem_toArray, List.getElem_cons_succ, List.getElem_cons_zero]
      refine wpAnyH_take (i := 4) (v := ?_) rfl (by kernel_rfl) (by kernel_rfl) (by kernel_rfl) (fun _ _ _ h => h) (Or.inl ⟨by rfl, ?_⟩) hHeld ?_
      rotate_left
      · (intro W hSw; (try dsimp only at hSw); go_simp; try with_reducible rfl)
      try simp only [Act.put, List.setIfInBounds_toArray, List.set_cons_zero, List.set_cons_succ, List.getElem_toArray, List.getElem_cons_succ, List.getElem_cons_zero]
      refine wpAnyH_take (i := 5) (v := ?_) rfl (by kernel_rfl) (by kernel_rfl) (by kernel_rfl) (fun _ _ _ h => h) (Or.inl ⟨by rfl, ?_⟩) hHeld ?_
      rotate_left
      · (intro W hSw; (try dsimp only at hSw); go_simp; try with_reducible rfl)
      try simp only [Act.put, List.setIfInBounds_toArray, List.set_cons_zero, List.set_cons_succ, List.getElem_toArray, List.getElem_cons_succ, List.getElem_cons_zero]
      refine wpAnyH_take (i := 6) (v := ?_) rfl (by kernel_rfl) (by kernel_rfl) (by kernel_rfl) (fun _ _ _ h => h) (Or.inl ⟨by rfl, ?_⟩) hHeld ?_
      rotate_left
      · (intro W hSw; (try dsimp only at hSw); go_simp; try with_reducible rfl)
      try simp only [Act.put, List.setIfInBounds_toArray, List.set_cons_zero, List.set_cons_succ, List.getElem_toArray, List.getElem_cons_succ, List.getElem_cons_zero]
      refine wpAnyH_take (i := 7) (v := ?_) rfl (by kernel_rfl) (by kernel_rfl) (by kernel_rfl) (fun _ _ _ h => h) (Or.inl ⟨by rfl, ?_⟩) hHeld ?_
      rotate_left
      · (intro W hSw; (try dsimp only at hSw); go_simp; try with_reducible rfl)
      try simp only [Act.put, List.setIfInBounds_toArray, List.set_cons_zero, List.set_cons_succ, List.getElem_toArray, List.getElem_cons_succ, List.getElem_cons_zero]
      refine wpAnyH_take (i := 11) (v := ?_) rfl (by kernel_rfl) (by kernel_rfl) (by kernel_rfl) (fun _ _ _ h => h) (Or.inl ⟨by rfl, ?_⟩) hHeld ?_
      rotate_left
      · (intro W hSw; (try dsimp only at hSw); go_simp; try with_reducible rfl)
      try simp only [Act.put, List.setIfInBounds_toArray, List.set_cons_zero, List.set_cons_succ, List.getElem_toArray, List.getElem_cons_succ, List.getElem_cons_zero]
      refine wpAnyH_ready (rs := [8]) (by kernel_rfl) (by simp) ?_
      refine AllReadyH.cons rfl (fun K1 hK1 => ?_) AllReadyH.nil
      go_simp
      refine (mod_any _ _ _ (by omega) (by omega)).mono ?_
      rintro e u ⟨rfl, rfl⟩
      rw [hix]
      refine hK1.out _ _ hHeld (fun hHeld => ?_)
      clear hK1
      try simp only [Act.put, List.setIfInBounds_toArray, List.set_cons_zero, List.set_cons_succ, List.getElem_toArray, List.getElem_cons_succ, List.getElem_cons_zero]
      refine wpAnyH_take (i := 9) (v := ?_) rfl (by kernel_rfl) (by kernel_rfl) (by kernel_rfl) (fun _ _ _ h => h) (Or.inl ⟨by rfl, ?_⟩) hHeld ?_
      rotate_left
      · (intro W hSw; (try dsimp only at hSw); go_simp; try with_reducible rfl)
      try simp only [Act.put, List.setIfInBounds_toArray, List.set_cons_zero, List.set_cons_succ, List.getElem_toArray, List.getElem_cons_succ, List.getElem_cons_zero]
      refine wpAnyH_ready (rs := [10, 12]) (by kernel_rfl) (by simp) ?_
      refine AllReadyH.cons rfl (fun K1 hK1 => ?_) ?_
      · go_simp
        refine hK1.out _ _ hHeld (fun hHeld => ?_)
        clear hK1
        try simp only [Act.put, List.setIfInBounds_toArray, List.set_cons_zero, List.set_cons_succ, List.getElem_toArray, List.getElem_cons_succ, List.getElem_cons_zero]
        refine wpAnyH_ready (rs := [12]) (by kernel_rfl) (by simp) ?_
        refine AllReadyH.cons rfl (fun K1 hK1 => ?_) AllReadyH.nil
        go_simp
        refine (mod_any _ _ _ (by omega) (by omega)).mono ?_
        rintro e u ⟨rfl, rfl⟩
        refine hK1.out _ _ hHeld (fun hHeld => ?_)
        clear hK1
        try simp only [Act.put, List.setIfInBounds_toArray, List.set_cons_zero, List.set_cons_succ, List.getElem_toArray, List.getElem_cons_succ, List.getElem_cons_zero]
        refine wpAnyH_take (i := 13) (v := ?_) rfl (by kernel_rfl) (by kernel_rfl) (by kernel_rfl) (fun _ _ _ h => h) (Or.inl ⟨by rfl, ?_⟩) hHeld ?_
        rotate_left
        · (intro W hSw; (try dsimp only at hSw); go_simp; try with_reducible rfl)
        try simp only [Act.put, List.setIfInBounds_toArray, List.set_cons_zero, List.set_cons_succ, List.getElem_toArray, List.getElem_cons_succ, List.getElem_cons_zero]
        refine wpAnyH_take (i := 14) (v := ?_) rfl (by kernel_rfl) (by kernel_rfl) (by kernel_rfl) (fun _ _ _ h => h) (Or.inl ⟨by rfl, ?_⟩) hHeld ?_
        rotate_left
        · (intro W hSw; (try dsimp only at hSw); go_simp; try with_reducible rfl)
        try simp only [Act.put, List.setIfInBounds_toArray, List.set_cons_zero, List.set_cons_succ, List.getElem_toArray, List.getElem_cons_succ, List.getElem_cons_zero]
        refine wpAnyH_take (i := 15) (v := ?_) rfl (by kernel_rfl) (by kernel_rfl) (by kernel_rfl) (fun _ _ _ h => h) (Or.inl ⟨by rfl, ?_⟩) hHeld ?_
        rotate_left
        · (intro W hSw; (try dsimp only at hSw); go_simp; try with_reducible rfl)
        try simp only [Act.put, List.setIfInBounds_toArray, List.set_cons_zero, List.set_cons_succ, List.getElem_toArray, List.getElem_cons_succ, List.getElem_cons_zero]
        refine wpAnyH_take (i := 16) (v := ?_) rfl (by kernel_rfl) (by kernel_rfl) (by kernel_rfl) (fun _ _ _ h => h) (Or.inl ⟨by rfl, ?_⟩) hHeld ?_
        rotate_left
        · (intro W hSw; (try dsimp only at hSw); go_simp; try with_reducible rfl)
        try simp only [Act.put, List.setIfInBounds_toArray, List.set_cons_zero, List.set_cons_succ, List.getElem_toArray, List.getElem_cons_succ, List.getElem_cons_zero]
        refine wpAnyH_ready (rs := [17]) (by kernel_rfl) (by simp) ?_
        refine AllReadyH.cons rfl (fun K1 hK1 => ?_) AllReadyH.nil
        go_simp
        obtain ⟨y, hy⟩ := u8_bits ((p.getD ix 0).toNat : Int) (IntKind.u8.wrap (1 + by_ % 255))
        have hpe : p.getD ix 0 = p[ix] := by simp [hixl]
        rw [hpe] at hy
        rw [hy]
        refine hK1.out _ _ ⟨by simpa [World.cell?_setCell_far, hbX'] using y1, by simpa [World.cell?_setCell_far, hbG] using yq⟩ (fun hHeld9 => ?_)
        clear hK1
        try simp only [Act.put, List.setIfInBounds_toArray, List.set_cons_zero, List.set_cons_succ, List.getElem_toArray, List.getElem_cons_succ, List.getElem_cons_zero]
        refine wpAnyH_done (by kernel_rfl) ?_ _
        try simp only [Act.put, List.setIfInBounds_toArray, List.set_cons_zero, List.set_cons_succ, List.getElem_toArray, List.getElem_cons_succ, List.getElem_cons_zero]
        have U5 := HOF.out.byte (i := q) hqm HVV.out hixl y
        rw [HPQ.out] at U5
        have B5 := set_other (a := ⟨gb, ix, none⟩) (v := bv y) HB3.out (by dsimp only; omega)
        have P5 := HP3.out.setCell (p := ⟨gb, ix, none⟩) (by dsimp only; omega) (bv y)
        have Z5 : MB (Fl.setPage m q (p.set ix y)) := MB.set HMB.out (by simp; omega)
        clear s1 s2
        go_upto_region 9 with fail
        generalize hmm : Fl.setPage m q (p.set ix y) = mm at *
        have U5' := U5.pure (w' := (w3.setCell ⟨gb, ix, none⟩ (bv y)).drew) ((Below.refl _ _).drew)
        have HU := Lib.hid U5'
        have HB5 := Lib.hid (show (w3.setCell ⟨gb, ix, none⟩ (bv y)).drew.heap[w.heap.size + 1]? = _ from B5)
        have HP5 := Lib.hid (below_drew P5)
        have HZ := Lib.hid Z5
        generalize (w3.setCell ⟨gb, ix, none⟩ (bv y)).drew = w5 at *
        clear U5 B5 P5 Z5 U5' hmm x0 x1 x2 y1 yq yf hHeld hHeld9 bf bc' hgbc
        have U := HU.out
        have u0 := cell_of_arr U.box 0
        have u1 := cell_of_arr U.box 1
        have u2 := cell_of_arr U.box 2
        simp at u0 u1 u2
        have d0 := cell_of_arr HB5.out 0
        have d1 := cell_of_arr HB5.out 1
        have d2 := cell_of_arr HB5.out 2
        have f0 := frozen_of_arr HB5.out 0
        have f1 := frozen_of_arr HB5.out 1
        have f2 := frozen_of_arr HB5.out 2
        simp at d0 d1 d2
        clear U
        go_wp2_with fail
        have Q := three_cells'' HB5.out (.int .i64 mm.size) (.slice (some ⟨g, 0, none⟩) mm.pages.length pc3) (.slice (some ⟨ge, 0, none⟩) mm.erased.length ec3) _ rfl
        have U6 := ((HU.out.setLow (b := w.heap.size + 1) (by omega) hX12 0 (.int .i64 mm.size)).setLow (b := w.heap.size + 1) (by omega) hX12 1 (.slice (some ⟨g, 0, none⟩) mm.pages.length pc3)).setLow (b := w.heap.size + 1) (by omega) hX12 2 (.slice (some ⟨ge, 0, none⟩) mm.erased.length ec3)
        generalize ((w5.setCell ⟨w.heap.size + 1, 0, none⟩ (.int .i64 mm.size)).setCell ⟨w.heap.size + 1, 1, none⟩ (.slice (some ⟨g, 0, none⟩) mm.pages.length pc3)).setCell ⟨w.heap.size + 1, 2, none⟩ (.slice (some ⟨ge, 0, none⟩) mm.erased.length ec3) = w6 at *
        obtain ⟨S1, S2, S3⟩ := Q
        have g0 := cell_of_arr S1 0
        have g1 := cell_of_arr S1 1
        have g2 := cell_of_arr S1 2
        simp at g0 g1 g2
        refine bodyPost_ret (v := .agg #[.int .i64 mm.size, .slice (some ⟨g, 0, none⟩) mm.pages.length pc3, .slice (some ⟨ge, 0, none⟩) mm.erased.length ec3]) (by simp [results, Try.results25, go_sem, g0, g1, g2]) rfl ?_
        have z := HZ.out
        exact ⟨mm, GPost.mk rfl (fun W hW => (U6.keepFrom hW (by omega) (by omega)).frep z.pages z.erased z.size (fun i => by have := z.lens i; omega) (fun i => by have := z.ers i; omega)) (S3 _ _ (by omega) HP5.out)⟩
      refine AllReadyH.cons rfl (fun K1 hK1 => ?_) AllReadyH.nil
      · go_simp
        refine (mod_any _ _ _ (by omega) (by omega)).mono ?_
        rintro e u ⟨rfl, rfl⟩
        refine hK1.out _ _ hHeld (fun hHeld => ?_)
        clear hK1
        try simp only [Act.put, List.setIfInBounds_toArray, List.set_cons_zero, List.set_cons_succ, List.getElem_toArray, List.getElem_cons_succ, List.getElem_cons_zero]
        refine wpAnyH_take (i := 13) (v := ?_) rfl (by kernel_rfl) (by kernel_rfl) (by kernel_rfl) (fun _ _ _ h => h) (Or.inl ⟨by rfl, ?_⟩) hHeld ?_
        rotate_left
        · (intro W hSw; (try dsimp only at hSw); go_simp; try with_reducible rfl)
        try simp only [Act.put, List.setIfInBounds_toArray, List.set_cons_zero, List.set_cons_succ, List.getElem_toArray, List.getElem_cons_succ, List.getElem_cons_zero]
        refine wpAnyH_take (i := 14) (v := ?_) rfl (by kernel_rfl) (by kernel_rfl) (by kernel_rfl) (fun _ _ _ h => h) (Or.inl ⟨by rfl, ?_⟩) hHeld ?_
        rotate_left
        · (intro W hSw; (try dsimp only at hSw); go_simp; try with_reducible rfl)
        try simp only [Act.put, List.setIfInBounds_toArray, List.set_cons_zero, List.set_cons_succ, List.getElem_toArray, List.getElem_cons_succ, List.getElem_cons_zero]
        refine wpAnyH_ready (rs := [10]) (by kernel_rfl) (by simp) ?_
        refine AllReadyH.cons rfl (fun K1 hK1 => ?_) AllReadyH.nil
        go_simp
        refine hK1.out _ _ hHeld (fun hHeld => ?_)
        clear hK1
        try simp only [Act.put, List.setIfInBounds_toArray, List.set_cons_zero, List.set_cons_succ, List.getElem_toArray, List.getElem_cons_succ, List.getElem_cons_zero]
        refine wpAnyH_take (i := 15) (v := ?_) rfl (by kernel_rfl) (by kernel_rfl) (by kernel_rfl) (fun _ _ _ h => h) (Or.inl ⟨by rfl, ?_⟩) hHeld ?_
        rotate_left
        · (intro W hSw; (try dsimp only at hSw); go_simp; try with_reducible rfl)
        try simp only [Act.put, List.setIfInBounds_toArray, List.set_cons_zero, List.set_cons_succ, List.getElem_toArray, List.getElem_cons_succ, List.getElem_cons_zero]
        refine wpAnyH_take (i := 16) (v := ?_) rfl (by kernel_rfl) (by kernel_rfl) (by kernel_rfl) (fun _ _ _ h => h) (Or.inl ⟨by rfl, ?_⟩) hHeld ?_
        rotate_left
        · (intro W hSw; (try dsimp only at hSw); go_simp; try with_reducible rfl)
        try simp only [Act.put, List.setIfInBounds_toArray, List.set_cons_zero, List.set_cons_succ, List.getElem_toArray, List.getElem_cons_succ, List.getElem_cons_zero]
        refine wpAnyH_ready (rs := [17]) (by kernel_rfl) (by simp) ?_
        refine AllReadyH.cons rfl (fun K1 hK1 => ?_) AllReadyH.nil
        go_simp
        obtain ⟨y, hy⟩ := u8_bits ((p.getD ix 0).toNat : Int) (IntKind.u8.wrap (1 + by_ % 255))
        have hpe : p.getD ix 0 = p[ix] := by simp [hixl]
        rw [hpe] at hy
        rw [hy]
        refine hK1.out _ _ ⟨by simpa [World.cell?_setCell_far, hbX'] using y1, by simpa [World.cell?_setCell_far, hbG] using yq⟩ (fun hHeld9 => ?_)
        clear hK1
        try simp only [Act.put, List.setIfInBounds_toArray, List.set_cons_zero, List.set_cons_succ, List.getElem_toArray, List.getElem_cons_succ, List.getElem_cons_zero]
        refine wpAnyH_done (by kernel_rfl) ?_ _
        try simp only [Act.put, List.setIfInBounds_toArray, List.set_cons_zero, List.set_cons_succ, List.getElem_toArray, List.getElem_cons_succ, List.getElem_cons_zero]
        have U5 := HOF.out.byte (i := q) hqm HVV.out hixl y
        rw [HPQ.out] at U5
        have B5 := set_other (a := ⟨gb, ix, none⟩) (v := bv y) HB3.out (by dsimp only; omega)
        have P5 := HP3.out.setCell (p := ⟨gb, ix, none⟩) (by dsimp only; omega) (bv y)
        have Z5 : MB (Fl.setPage m q (p.set ix y)) := MB.set HMB.out (by simp; omega)
        clear s1 s2
        go_upto_region 9 with fail
        generalize hmm : Fl.setPage m q (p.set ix y) = mm at *
        have U5' := U5.pure (w' := (w3.setCell ⟨gb, ix, none⟩ (bv y)).drew) ((Below.refl _ _).drew)
        have HU := Lib.hid U5'
        have HB5 := Lib.hid (show (w3.setCell ⟨gb, ix, none⟩ (bv y)).drew.heap[w.heap.size + 1]? = _ from B5)
        have HP5 := Lib.hid (below_drew P5)
        have HZ := Lib.hid Z5
        generalize (w3.setCell ⟨gb, ix, none⟩ (bv y)).drew = w5 at *
        clear U5 B5 P5 Z5 U5' hmm x0 x1 x2 y1 yq yf hHeld hHeld9 bf bc' hgbc
        have U := HU.out
        have u0 := cell_of_arr U.box 0
        have u1 := cell_of_arr U.box 1
        have u2 := cell_of_arr U.box 2
        simp at u0 u1 u2
        have d0 := cell_of_arr HB5.out 0
        have d1 := cell_of_arr HB5.out 1
        have d2 := cell_of_arr HB5.out 2
        have f0 := frozen_of_arr HB5.out 0
        have f1 := frozen_of_arr HB5.out 1
        have f2 := frozen_of_arr HB5.out 2
        simp at d0 d1 d2
        clear U
        go_wp2_with fail
        have Q := three_cells'' HB5.out (.int .i64 mm.size) (.slice (some ⟨g, 0, none⟩) mm.pages.length pc3) (.slice (some ⟨ge, 0, none⟩) mm.erased.length ec3) _ rfl
        have U6 := ((HU.out.setLow (b := w.heap.size + 1) (by omega) hX12 0 (.int .i64 mm.size)).setLow (b := w.heap.size + 1) (by omega) hX12 1 (.slice (some ⟨g, 0, none⟩) mm.pages.length pc3)).setLow (b := w.heap.size + 1) (by omega) hX12 2 (.slice (some ⟨ge, 0, none⟩) mm.erased.length ec3)
        generalize ((w5.setCell ⟨w.heap.size + 1, 0, none⟩ (.int .i64 mm.size)).setCell ⟨w.heap.size + 1, 1, none⟩ (.slice (some ⟨g, 0, none⟩) mm.pages.length pc3)).setCell ⟨w.heap.size + 1, 2, none⟩ (.slice (some ⟨ge, 0, none⟩) mm.erased.length ec3) = w6 at *
        obtain ⟨S1, S2, S3⟩ := Q
        have g0 := cell_of_arr S1 0
        have g1 := cell_of_arr S1 1
        have g2 := cell_of_arr S1 2
        simp at g0 g1 g2
        refine bodyPost_ret (v := .agg #[.int .i64 mm.size, .slice (some ⟨g, 0, none⟩) mm.pages.length pc3, .slice (some ⟨ge, 0, none⟩) mm.erased.length ec3]) (by simp [results, Try.results25, go_sem, g0, g1, g2]) rfl ?_
        have z := HZ.out
        exact ⟨mm, GPost.mk rfl (fun W hW => (U6.keepFrom hW (by omega) (by omega)).frep z.pages z.erased z.size (fun i => by have := z.lens i; omega) (fun i => by have := z.ers i; omega)) (S3 _ _ (by omega) HP5.out)⟩
    · have hn' : ¬ ((0 : Int) < (p.length : Int)) := by omega
      have hn2 : decide (0 < p.length) = false := by simpa using hn
      have HU := HOF
      have HB5 := HB3
      have HP5 := HP3
      have HZ := HMB
      go_upto_region 9 with (go_at_call 12; refine (mod_any _ _ _ (by omega) (by omega)).mono ?_; rintro e w2 ⟨rfl, rfl⟩)
      obtain ⟨mm, hmm⟩ : ∃ mm, m = mm := ⟨_, rfl⟩
      subst hmm
      clear x0 x1 x2 y1 yq yf
      have U := HU.out
      have u0 := cell_of_arr U.box 0
      have u1 := cell_of_arr U.box 1
      have u2 := cell_of_arr U.box 2
      simp at u0 u1 u2
      have d0 := cell_of_arr HB5.out 0
      have d1 := cell_of_arr HB5.out 1
      have d2 := cell_of_arr HB5.out 2
      have f0 := frozen_of_arr HB5.out 0
      have f1 := frozen_of_arr HB5.out 1
      have f2 := frozen_of_arr HB5.out 2
      simp at d0 d1 d2
      clear U
      go_wp2_with fail
      have Q := three_cells'' HB5.out (.int .i64 m.size) (.slice (some ⟨g, 0, none⟩) m.pages.length pc3) (.slice (some ⟨ge, 0, none⟩) m.erased.length ec3) _ rfl
      have U6 := ((HU.out.setLow (b := w.heap.size + 1) (by omega) hX12 0 (.int .i64 m.size)).setLow (b := w.heap.size + 1) (by omega) hX12 1 (.slice (some ⟨g, 0, none⟩) m.pages.length pc3)).setLow (b := w.heap.size + 1) (by omega) hX12 2 (.slice (some ⟨ge, 0, none⟩) m.erased.length ec3)
      generalize ((w3.setCell ⟨w.heap.size + 1, 0, none⟩ (.int .i64 m.size)).setCell ⟨w.heap.size + 1, 1, none⟩ (.slice (some ⟨g, 0, none⟩) m.pages.length pc3)).setCell ⟨w.heap.size + 1, 2, none⟩ (.slice (some ⟨ge, 0, none⟩) m.erased.length ec3) = w6 at *
      obtain ⟨S1, S2, S3⟩ := Q
      have g0 := cell_of_arr S1 0
      have g1 := cell_of_arr S1 1
      have g2 := cell_of_arr S1 2
      simp at g0 g1 g2
      refine bodyPost_ret (v := .agg #[.int .i64 m.size, .slice (some ⟨g, 0, none⟩) m.pages.length pc3, .slice (some ⟨ge, 0, none⟩) m.erased.length ec3]) (by simp [results, Try.results25, go_sem, g0, g1, g2]) rfl ?_
      have z := HZ.out
      exact ⟨m, GPost.mk rfl (fun W hW => (U6.keepFrom hW (by omega) (by omega)).frep z.pages z.erased z.size (fun i => by have := z.lens i; omega) (fun i => by have := z.ers i; omega)) (S3 _ _ (by omega) HP5.out)⟩
end Go.Proofs.Ytnfjfifdkmgbdaa
