/- The walk of the reference's written. -/
import Derived.Test.YtnfjfifdkmgbdaaXj
namespace Go.Proofs.Ytnfjfifdkmgbdaa
open Go.RowKit Go.Shelf
/-- Bounds of a memory. -/
structure MB (m : Fl.Mem) : Prop where
  pages : m.pages.length ≤ 1000
  erased : m.erased.length ≤ 1000
  size : 0 ≤ m.size ∧ m.size ≤ 1000
  lens : ∀ i, (m.pages.getD i []).length ≤ 900
  ers : ∀ i, 0 ≤ m.erased.getD i 0 ∧ m.erased.getD i 0 ≤ 100000
/-- What a function leaves that answers a memory in blocks of its own. -/
def GPost (m : Fl.Mem) (w : World) (e : Ending) (w' : World) : Prop := ∃ (sz' : Int) (pa' : Option Addr) (pn' pc' : Nat) (ea' : Option Addr) (en' ec' : Nat),
  e = .returned (.agg #[.int .i64 sz', .slice pa' pn' pc', .slice ea' en' ec']) ∧ (∀ W : World, (∀ k, w.heap.size ≤ k → W.heap[k]? = w'.heap[k]?) → FRep W sz' pa' pn' ea' en' m) ∧ Below w.heap.size w w'
theorem GPost.mk {m : Fl.Mem} {w w' : World} {e : Ending} {sz' : Int} {pa' : Option Addr} {pn' pc' : Nat} {ea' : Option Addr} {en' ec' : Nat} (h1 : e = .returned (.agg #[.int .i64 sz', .slice pa' pn' pc', .slice ea' en' ec'])) (h2 : ∀ W : World, (∀ k, w.heap.size ≤ k → W.heap[k]? = w'.heap[k]?) → FRep W sz' pa' pn' ea' en' m) (h3 : Below w.heap.size w w') : GPost m w e w' := ⟨_, _, _, _, _, _, _, h1, h2, h3⟩
theorem below_grownD {n b : Nat} {w W W' : World} {e size : Nat} {v : Value} {k : Nat} {xs : List Value} (h1 : Below n w W) (hn : n ≤ w.heap.size) (hown : W.ownsRow b e size v k xs) (hb : n ≤ b) (hgr : W.drew.grownBy W' v.ownBlock) : Below n w W' :=
  ⟨hgr.os.trans h1.os, hgr.tape.trans h1.tape, hgr.output.trans h1.output, Nat.le_trans h1.size hgr.size, fun i hi => by
    rcases Nat.lt_or_ge i W.heap.size with hl | hl
    · exact (hgr.block i hl fun e => by have := (own_lt hown e.symm).2.1; omega).trans (h1.block i hi)
    · have := h1.size; omega⟩
theorem OwnF.frepB {W : World} {base X : Nat} {m : Fl.Mem} {pa : Option Addr} {pc : Nat} {ea : Option Addr} {ec : Nat} {vs : List Value} (h : OwnF W base X m pa pc ea ec vs) (hp : m.pages.length ≤ 1000) (he : m.erased.length ≤ 1000) (hsz : 0 ≤ m.size ∧ m.size ≤ 1000) (hl : ∀ i, (m.pages.getD i []).length ≤ 1000000) (hel : ∀ i, 0 ≤ m.erased.getD i 0 ∧ m.erased.getD i 0 ≤ 1000000) : FRep W m.size pa m.pages.length ea m.erased.length m := h.frep hp he hsz hl hel
set_option maxHeartbeats 1600000 in
theorem written_any (sz : Int) (pa : Option Addr) (pn pc : Nat) (ea : Option Addr) (en ec : Nat) (q : Nat) (ba : Option Addr) (bl bc : Nat) (r : List UInt8) (m : Fl.Mem) (w : World) (h : FRep w sz pa pn ea en m) (hq : q < m.pages.length) (hm : MB m) (hr : Bs w ba bl r) (hbl : bl ≤ 1000) :
    Calls Try.prog 62 #[.agg #[.int .i64 sz, .slice pa pn pc, .slice ea en ec], .int .i64 q, .slice ba bl bc] w (GPost (Fl.setPage m q (m.pages.getD q [] ++ r)) w) := by
  have P1 : Below w.heap.size w ((w.alloc (.cells #[.int .i64 sz, .slice pa pn pc, .slice ea en ec] 32)).alloc (.cells #[.int .i64 0, .slice none 0 0, .slice none 0 0] 32)) := (pure_alloc _ _).alloc (by simp) _
  have B0 : ((w.alloc (.cells #[.int .i64 sz, .slice pa pn pc, .slice ea en ec] 32)).alloc (.cells #[.int .i64 0, .slice none 0 0, .slice none 0 0] 32)).heap[w.heap.size]? = some (.cells #[.int .i64 sz, .slice pa pn pc, .slice ea en ec] 32 (0, 0)) := alloc_keep (alloc_new _ _)
  have B1 : ((w.alloc (.cells #[.int .i64 sz, .slice pa pn pc, .slice ea en ec] 32)).alloc (.cells #[.int .i64 0, .slice none 0 0, .slice none 0 0] 32)).heap[w.heap.size + 1]? = some (.cells #[.int .i64 0, .slice none 0 0, .slice none 0 0] 32 (0, 0)) := alloc_new' _ _ _ (by simp)
  go_enter Try.func62, Try.ntmps62
  go_upto_region 1 with fail
  generalize ((w.alloc (.cells #[.int .i64 sz, .slice pa pn pc, .slice ea en ec] 32)).alloc (.cells #[.int .i64 0, .slice none 0 0, .slice none 0 0] 32)) = w1 at *
  have HF := Lib.hid (h.below P1)
  have HR := Lib.hid (hr.below P1)
  have hpl := h.pages.1
  have hel := h.erased.1
  have HSZ := Lib.hid h.size
  have HCP := Lib.hid (copyR_any sz pa pn pc ea en ec m w1 (h.below P1) (by have := hm.pages; omega) (by have := hm.erased; omega) (fun i _ => by have := hm.lens i; omega))
  have c1 := cell_of_arr B0 0
  have c2 := cell_of_arr B0 1
  have c3 := cell_of_arr B0 2
  simp at c1 c2 c3
  have HP1 := Lib.hid P1
  have HB1 := Lib.hid B1
  have hb1 := lt_of_block B1
  have HMB := Lib.hid hm
  clear P1 B0 B1 h hr hm hpl hel
  go_wp2_with fail
  refine HCP.out.mono ?_
  rintro e w2 ⟨pv, ev, vs, rfl, hpv, hev, hw2⟩
  have hrow := hpv.row
  rw [hpv.len] at hrow
  obtain ⟨g, pc3, rfl, hg1, hg2⟩ := World.ownsRow.form hrow (by omega)
  obtain ⟨ea3, ec3, rfl⟩ := own_form hev
  have HR2 := Lib.hid (HR.out.below hw2)
  have HP2 := Lib.hid (pure_trans HP1.out hw2)
  have B2 := Below.keep hw2 HB1.out hb1
  have PA := pure_alloc w2 (.cells #[.int .i64 sz, .slice (some ⟨g, 0, none⟩) m.pages.length pc3, .slice ea3 m.erased.length ec3] 32)
  have N3 := alloc_new w2 (.cells #[.int .i64 sz, .slice (some ⟨g, 0, none⟩) m.pages.length pc3, .slice ea3 m.erased.length ec3] 32)
  have B3 := Below.keep PA B2 (lt_of_block B2)
  have OF : OwnF (w2.alloc (.cells #[.int .i64 sz, .slice (some ⟨g, 0, none⟩) m.pages.length pc3, .slice ea3 m.erased.length ec3] 32)) w1.heap.size w2.heap.size m (some ⟨g, 0, none⟩) pc3 ea3 ec3 vs := ⟨by rw [N3, HSZ.out], hpv.pure PA, own_pure hev PA⟩
  have HR3 := Lib.hid (HR2.out.below PA)
  have HP3 := Lib.hid (pure_trans HP2.out PA)
  have hsz2 := hw2.size
  have hXl := lt_of_block N3
  clear hw2 hpv hev hrow HCP HR HR2 HP2 B2 c1 c2 c3 HF HB1 HP1 N3 PA
  go_upto_region 2 with fail
  generalize w2.alloc (.cells #[.int .i64 sz, .slice (some ⟨g, 0, none⟩) m.pages.length pc3, .slice ea3 m.erased.length ec3] 32) = w3 at *
  obtain ⟨g', a, c, hgg, hv, x1, x2, xq, xf, hgX, hgl⟩ := OF.reads hq
  simp only [Option.some.injEq, Addr.mk.injEq, and_true] at hgg
  subst hgg
  have hlq := HMB.out.lens q
  generalize hpq : m.pages.getD q [] = p at *
  have HPQ := Lib.hid hpq
  have hrl := HR3.out.1
  have hown := OF.pages.each q (by have := OF.pages.len; omega)
  rw [hv, hpq] at hown
  clear hpq
  have HOF := Lib.hid OF
  have HB3 := Lib.hid B3
  have HV := Lib.hid hv
  have HOWN := Lib.hid hown
  clear OF B3 hv hown x2
  have q0 : (0 : Int) ≤ (q : Int) := by omega
  have q1 : (q : Int) < (m.pages.length : Int) := by omega
  have hX12 : w2.heap.size ≠ w.heap.size + 1 := by omega
  have hoX : (Value.slice a (p).length c).ownBlock ≠ some w2.heap.size := fun e => by
    obtain ⟨_, _, cur, hc⟩ := own_lt HOWN.out e
    exact kind_ne hc HOF.out.box (by decide) rfl
  have hoG : (Value.slice a (p).length c).ownBlock ≠ some g := fun e => by
    obtain ⟨_, _, cur, hc⟩ := own_lt HOWN.out e
    obtain ⟨_, _, cur', hc'⟩ := own_lt HOF.out.pages.row (g := g) rfl
    exact kind_ne hc hc' (by decide) rfl
  refine wp_region_held_drew (S := (fun W => W.cell? ⟨w2.heap.size, 1, none⟩ = some (.slice (some ⟨g, 0, none⟩) m.pages.length pc3))) (by kernel_rfl) x1 (fun hHeld => ?_)
  refine wpAnyH_take (i := 0) (v := ?_) rfl (by kernel_rfl) (by kernel_rfl) (by kernel_rfl) (fun _ _ _ h => h) (Or.inl ⟨by rfl, ?_⟩) hHeld ?_
  rotate_left
  · (intro W hSw; (try dsimp only at hSw); go_simp; try with_reducible rfl)
  try simp only [Act.put, List.setIfInBounds_toArray, List.set_cons_zero, List.set_cons_succ, List.getElem_toArray, List.getElem_cons_succ, List.getElem_cons_zero]
  refine wpAnyH_take (i := 1) (v := ?_) rfl (by kernel_rfl) (by kernel_rfl) (by kernel_rfl) (fun _ _ _ h => h) (Or.inl ⟨by rfl, ?_⟩) hHeld ?_
  rotate_left
  · (intro W hSw; (try dsimp only at hSw); go_simp; try with_reducible rfl)
  try simp only [Act.put, List.setIfInBounds_toArray, List.set_cons_zero, List.set_cons_succ, List.getElem_toArray, List.getElem_cons_succ, List.getElem_cons_zero]
  refine wpAnyH_take (i := 2) (v := ?_) rfl (by kernel_rfl) (by kernel_rfl) (by kernel_rfl) (fun _ _ _ h => h) (Or.inl ⟨by rfl, ?_⟩) hHeld ?_
  rotate_left
  · (intro W hSw; (try dsimp only at hSw); go_simp; try with_reducible rfl)
  try simp only [Act.put, List.setIfInBounds_toArray, List.set_cons_zero, List.set_cons_succ, List.getElem_toArray, List.getElem_cons_succ, List.getElem_cons_zero]
  refine wpAnyH_take (i := 3) (v := ?_) rfl (by kernel_rfl) (by kernel_rfl) (by kernel_rfl) (fun _ _ _ h => h) (Or.inl ⟨by rfl, ?_⟩) hHeld ?_
  rotate_left
  · (intro W hSw; (try dsimp only at hSw); go_simp; try with_reducible rfl)
  try simp only [Act.put, List.setIfInBounds_toArray, List.set_cons_zero, List.set_cons_succ, List.getElem_toArray, List.getElem_cons_succ, List.getElem_cons_zero]
  refine wpAnyH_take (i := 4) (v := ?_) rfl (by kernel_rfl) (by kernel_rfl) (by kernel_rfl) (fun _ _ _ h => h) (Or.inl ⟨by rfl, ?_⟩) hHeld ?_
  rotate_left
  · (intro W hSw; (try dsimp only at hSw); go_simp; try with_reducible rfl)
  try simp only [Act.put, List.setIfInBounds_toArray, List.set_cons_zero, List.set_cons_succ, List.getElem_toArray, List.getElem_cons_succ, List.getElem_cons_zero]
  refine wpAnyH_take (i := 5) (v := ?_) rfl (by kernel_rfl) (by kernel_rfl) (by kernel_rfl) (fun _ _ _ h => h) (Or.inl ⟨by rfl, ?_⟩) hHeld ?_
  rotate_left
  · (intro W hSw; (try dsimp only at hSw); go_simp; try with_reducible rfl)
  try simp only [Act.put, List.setIfInBounds_toArray, List.set_cons_zero, List.set_cons_succ, List.getElem_toArray, List.getElem_cons_succ, List.getElem_cons_zero]
  refine wpAnyH_take (i := 6) (v := ?_) rfl (by kernel_rfl) (by kernel_rfl) (by kernel_rfl) (fun _ _ _ h => h) (Or.inl ⟨by rfl, ?_⟩) hHeld ?_
  rotate_left
  · (intro W hSw; (try dsimp only at hSw); go_simp; try with_reducible rfl)
  try simp only [Act.put, List.setIfInBounds_toArray, List.set_cons_zero, List.set_cons_succ, List.getElem_toArray, List.getElem_cons_succ, List.getElem_cons_zero]
  refine wpAnyH_take (i := 8) (v := ?_) rfl (by kernel_rfl) (by kernel_rfl) (by kernel_rfl) (fun _ _ _ h => h) (Or.inl ⟨by rfl, ?_⟩) hHeld ?_
  rotate_left
  · (intro W hSw; (try dsimp only at hSw); go_simp; try with_reducible rfl)
  try simp only [Act.put, List.setIfInBounds_toArray, List.set_cons_zero, List.set_cons_succ, List.getElem_toArray, List.getElem_cons_succ, List.getElem_cons_zero]
  refine wpAnyH_ready (rs := [7]) (by kernel_rfl) (by simp) ?_
  refine AllReadyH.cons rfl (fun K1 hK1 => ?_) AllReadyH.nil
  go_simp
  refine hK1.out _ _ hHeld (fun hHeld => ?_)
  clear hK1
  try simp only [Act.put, List.setIfInBounds_toArray, List.set_cons_zero, List.set_cons_succ, List.getElem_toArray, List.getElem_cons_succ, List.getElem_cons_zero]
  obtain ⟨a4, c4, w4, hrun, hown4, hgr, hob⟩ := app_bytes w3.drew w1.heap.size (.slice a (p).length c) _ (own_pure HOWN.out (below_drewN (Below.refl _ _) 1)) ba bl bc r (HR3.out.below (below_drewN (Below.refl _ _) 1)) (by omega) (by exact Nat.le_trans hsz2 (Nat.le_of_lt hXl))
  have hs4 := hgr.size
  have hd : w3.drew.heap.size = w3.heap.size := rfl
  have y1 : w4.cell? ⟨w2.heap.size, 1, none⟩ = some (.slice (some ⟨g, 0, none⟩) m.pages.length pc3) := by
    rw [← x1]; unfold World.cell?; rw [hgr.block w2.heap.size hXl (fun e => hoX e.symm)]; rfl
  have yg : w4.heap[g]? = w3.heap[g]? := hgr.block g hgl (fun e => hoG e.symm)
  obtain ⟨_, _, cur, hgc⟩ := own_lt HOF.out.pages.row (g := g) rfl
  have ygf := frozen_of_arr (yg.trans hgc) q
  have ygc : w4.cell? ⟨g, q, none⟩ = some (.slice a (p).length c) := by rw [← xq]; unfold World.cell?; rw [yg]
  have hob' : (Value.slice a4 ((p).length + bl) c4).ownBlock = none ∨ (Value.slice a4 ((p).length + bl) c4).ownBlock = (vs.getD q undef).ownBlock ∨ ∃ k, (Value.slice a4 ((p).length + bl) c4).ownBlock = some k ∧ w3.heap.size ≤ k := by
    rcases hob with h1 | h1
    · exact .inr (.inl (by rw [HV.out]; exact h1))
    · exact .inr (.inr ⟨_, h1, Nat.le_refl _⟩)
  have hup := HOF.out.upd hq (x := .slice a4 ((p).length + bl) c4) (p := p ++ r) (by rw [HV.out]; exact grown_trans (below_drewN (Below.refl _ _) 1) hgr) hown4 hob'
  have B4 : w4.heap[w.heap.size + 1]? = some (.cells #[.int .i64 0, .slice none 0 0, .slice none 0 0] 32 (0, 0)) := (hgr.block (w.heap.size + 1) (by have := lt_of_block HB3.out; omega) (fun e => by have := (own_lt HOWN.out e.symm).2.1; omega)).trans HB3.out
  have P4 : Below w.heap.size w w4 := below_grownD HP3.out (Nat.le_refl _) HOWN.out (by omega) hgr
  have HUP := Lib.hid hup.1
  have HB4 := Lib.hid B4
  have HP4 := Lib.hid P4
  clear hup hob hob' hown4 B4 P4 hgc yg
  refine wpAnyH_ready (rs := [9]) (by kernel_rfl) (by simp) ?_
  refine AllReadyH.cons rfl (fun K1 hK1 => ?_) AllReadyH.nil
  rw [if_pos (by rfl)]
  refine wp_app _ _ 22 rfl rfl rfl hrun ?_
  refine hK1.out _ _ y1 (fun hHeld => ?_)
  clear hK1
  try simp only [Act.put, List.setIfInBounds_toArray, List.set_cons_zero, List.set_cons_succ, List.getElem_toArray, List.getElem_cons_succ, List.getElem_cons_zero]
  clear hrun hgr
  refine wpAnyH_take (i := 10) (v := ?_) rfl (by kernel_rfl) (by kernel_rfl) (by kernel_rfl) (fun _ _ _ h => h) (Or.inl ⟨by rfl, ?_⟩) hHeld ?_
  rotate_left
  · (intro W hSw; (try dsimp only at hSw); go_simp; try with_reducible rfl)
  try simp only [Act.put, List.setIfInBounds_toArray, List.set_cons_zero, List.set_cons_succ, List.getElem_toArray, List.getElem_cons_succ, List.getElem_cons_zero]
  refine wpAnyH_ready (rs := [11]) (by kernel_rfl) (by simp) ?_
  refine AllReadyH.cons rfl (fun K1 hK1 => ?_) AllReadyH.nil
  go_simp
  refine hK1.out _ _ (by simpa [World.cell?_setCell_far, hgX] using y1) (fun hHeld2 => ?_)
  clear hK1
  try simp only [Act.put, List.setIfInBounds_toArray, List.set_cons_zero, List.set_cons_succ, List.getElem_toArray, List.getElem_cons_succ, List.getElem_cons_zero]
  refine wpAnyH_done (by kernel_rfl) ?_ _
  try simp only [Act.put, List.setIfInBounds_toArray, List.set_cons_zero, List.set_cons_succ, List.getElem_toArray, List.getElem_cons_succ, List.getElem_cons_zero]
  have B5 := set_other (a := ⟨g, q, none⟩) (v := .slice a4 (p.length + bl) c4) HB4.out (by dsimp only; omega)
  have P5 := HP4.out.setCell (p := ⟨g, q, none⟩) (by dsimp only; omega) (.slice a4 (p.length + bl) c4)
  have U := HUP.out
  generalize w4.setCell ⟨g, q, none⟩ (.slice a4 (p.length + bl) c4) = w5 at U B5 P5 ⊢
  have z1 : (Fl.setPage m q (p ++ r)).pages.length ≤ 1000 := by simp [Fl.setPage]; exact HMB.out.pages
  have z2 : (Fl.setPage m q (p ++ r)).erased.length ≤ 1000 := HMB.out.erased
  have z3 : 0 ≤ (Fl.setPage m q (p ++ r)).size ∧ (Fl.setPage m q (p ++ r)).size ≤ 1000 := HMB.out.size
  have z4 : ∀ i, ((Fl.setPage m q (p ++ r)).pages.getD i []).length ≤ 1000000 := fun i => by
    rcases Fl.getD_set_le m.pages q i (p ++ r) [] with h1 | h1
    · simp only [Fl.setPage]; rw [h1]; simp; omega
    · simp only [Fl.setPage]; rw [h1]; have := HMB.out.lens i; omega
  have z5 : ∀ i, 0 ≤ (Fl.setPage m q (p ++ r)).erased.getD i 0 ∧ (Fl.setPage m q (p ++ r)).erased.getD i 0 ≤ 1000000 := fun i => by have := HMB.out.ers i; simp only [Fl.setPage]; omega
  have Z := Lib.hid (And.intro z1 (And.intro z2 (And.intro z3 (And.intro z4 z5))))
  clear z1 z2 z3 z4 z5
  generalize Fl.setPage m q (p ++ r) = mm at *
  have u0 := cell_of_arr U.box 0
  have u1 := cell_of_arr U.box 1
  have u2 := cell_of_arr U.box 2
  simp at u0 u1 u2
  have d0 := cell_of_arr B5 0
  have d1 := cell_of_arr B5 1
  have d2 := cell_of_arr B5 2
  have f0 := frozen_of_arr B5 0
  have f1 := frozen_of_arr B5 1
  have f2 := frozen_of_arr B5 2
  simp at d0 d1 d2
  have HU := Lib.hid U
  have HB5 := Lib.hid B5
  have HP5 := Lib.hid P5
  clear U B5 P5 HUP HB4 HP4 y1 ygf ygc xq xf x1
  go_wp2_with fail
  have Q := three_cells'' HB5.out (.int .i64 mm.size) (.slice (some ⟨g, 0, none⟩) mm.pages.length pc3) (.slice ea3 mm.erased.length ec3) _ rfl
  have U6 := ((HU.out.setLow (b := w.heap.size + 1) (by omega) hX12 0 (.int .i64 mm.size)).setLow (b := w.heap.size + 1) (by omega) hX12 1 (.slice (some ⟨g, 0, none⟩) mm.pages.length pc3)).setLow (b := w.heap.size + 1) (by omega) hX12 2 (.slice ea3 mm.erased.length ec3)
  generalize ((w5.setCell ⟨w.heap.size + 1, 0, none⟩ (.int .i64 mm.size)).setCell ⟨w.heap.size + 1, 1, none⟩ (.slice (some ⟨g, 0, none⟩) mm.pages.length pc3)).setCell ⟨w.heap.size + 1, 2, none⟩ (.slice ea3 mm.erased.length ec3) = w6 at *
  obtain ⟨S1, S2, S3⟩ := Q
  have g0 := cell_of_arr S1 0
  have g1 := cell_of_arr S1 1
  have g2 := cell_of_arr S1 2
  simp at g0 g1 g2
  refine bodyPost_ret (v := .agg #[.int .i64 mm.size, .slice (some ⟨g, 0, none⟩) mm.pages.length pc3, .slice ea3 mm.erased.length ec3]) (by simp [results, Try.results62, go_sem, g0, g1, g2]) rfl ?_
  obtain ⟨z1, z2, z3, z4, z5⟩ := Z.out
  exact GPost.mk rfl (fun W hW => (U6.keepFrom hW (by omega) (by omega)).frep z1 z2 z3 z4 z5) (S3 _ _ (by omega) HP5.out)
  end Go.Proofs.Ytnfjfifdkmgbdaa
